/- The reference's lexer: its leaves, over lists. The reference's matcher: how many bytes a pattern takes. -/
import Derived.Test.YtjnimfnelacceaaGreatDoorWLast
import Derived.Test.YtjnimfnelacceaaGreatDoorLot11
import Derived.Deep.DeepCutAuto
import Derived.OwnWalk
set_option linter.unusedSimpArgs false
set_option linter.unusedVariables false
namespace Go.Proofs.YtjnimfnelacceaaGreatDoor
open Go.RowKit Go.Proofs.YtjnimfnelacceaaGreatDoorW.PrintLast

theorem w64 {x : Int} (h0 : -9223372036854775808 ≤ x) (h1 : x ≤ 9223372036854775807) : wrap64 x = x := by unfold wrap64; omega
def bt (s : ByteArray) (i : Int) : Int := if h : i.toNat < s.size then ((s[i.toNat]'h).toNat : Int) else 0
/-- Byte i of a string. -/
def byt (l : List UInt8) (i : Nat) : Nat := (l.getD i 0).toNat
theorem bt_eq (s : ByteArray) (i : Nat) (h : i < s.size) : bt s i = (byt s.data.toList i : Nat) := by
  unfold bt byt
  have h' : i < s.data.toList.length := by rw [len_data]; exact h
  rw [dif_pos (by simpa using h)]
  have : s[(i : Int).toNat]'(by simpa using h) = s.data.toList[i] := by simp; rfl
  rw [this]
  simp only [List.getD_eq_getElem?_getD, List.getElem?_eq_getElem h', Option.getD_some]
theorem byt_lt (l : List UInt8) (i : Nat) : byt l i < 256 := (l.getD i 0).toNat_lt
/-- The first place of a byte. -/
def findN (l : List UInt8) (c : Int) (i : Nat) : Int := match l with
  | [] => -1
  | b :: r => if (b.toNat : Int) = c then i else findN r c (i + 1)
theorem findN_ge (l : List UInt8) (c : Int) (i : Nat) : (0 ≤ findN l c i) ↔ ∃ b ∈ l, (b.toNat : Int) = c := by
  induction l generalizing i with
  | nil => simp [findN]
  | cons b r ih =>
    simp only [findN]
    split
    · rename_i h
      exact ⟨fun _ => ⟨b, by simp, h⟩, fun _ => by omega⟩
    · rename_i h
      rw [ih]
      constructor
      · rintro ⟨x, hx, he⟩; exact ⟨x, by simp [hx], he⟩
      · rintro ⟨x, hx, he⟩
        rcases List.mem_cons.1 hx with rfl | hx
        · exact absurd he h
        · exact ⟨x, hx, he⟩
/-- Is a byte of a class? -/
def inCls (c : Nat) (b : Nat) : Bool :=
  if c = 76 then clsL b else if c = 68 then clsD b else if c = 87 then clsW b else if c = 70 then clsF b else if c = 66 then clsB b else if c = 81 then clsQ b else if c = 65 then (clsL b || clsD b) else b == c
def fW : ByteArray := ⟨#[33, 36, 38, 42, 60, 62, 124, 94, 37, 95, 126, 63, 43, 45, 47, 61]⟩
def fF : ByteArray := ⟨#[33, 36, 38, 42, 60, 62, 124, 94, 37, 95, 126, 63]⟩
def fB : ByteArray := ⟨#[60, 36, 37, 42, 95]⟩
theorem memW : ∀ y : Fin 256, (clsL y.val || clsD y.val || decide (0 ≤ findN fW.data.toList (y.val : Nat) 0)) = clsW y.val := by decide +kernel
theorem memCls : ∀ y : Fin 256, (clsL y.val || clsD y.val || decide (0 ≤ findN fF.data.toList (y.val : Nat) 0)) = clsF y.val := by decide +kernel
theorem memB : ∀ y : Fin 256, decide (0 ≤ findN fB.data.toList (y.val : Nat) 0) = clsB y.val := by decide +kernel
theorem findN_stop (l : List UInt8) (c : Int) (i : Nat) (b : UInt8) (r : List UInt8) (h : l = b :: r) (hc : (b.toNat : Int) = c) : findN l c i = i := by subst h; unfold findN; rw [if_pos hc]
theorem findN_step (l : List UInt8) (c : Int) (i : Nat) (b : UInt8) (r : List UInt8) (h : l = b :: r) (hc : ¬ (b.toNat : Int) = c) : findN l c i = findN r c (i + 1) := by subst h; rw [findN, if_neg hc]
theorem find_any (s : ByteArray) (c : Nat) (w : World) (hs : s.size ≤ 1100000) :
    Calls Tryz.prog 93 #[.string s, .int .u8 c] w fun e w' => e = .returned (.int .i64 (findN s.data.toList c 0)) ∧ w' = w := by
  generalize hR : findN s.data.toList c 0 = R
  have HR := Lib.hid hR
  clear hR
  go_enter Tryz.func93, Tryz.ntmps93
  go_wp2
  go_loopw [5] (fun v5 wr => ∃ i : Nat, i ≤ s.size ∧ v5 = .int .i64 i ∧ Hid (findN (s.data.toList.drop i) c i = R) ∧ wr = w) (fun v5 _ => s.size - (intOf v5).toNat)
  case atStart => exact ⟨0, Nat.zero_le _, rfl, HR, rfl⟩
  case round =>
    obtain ⟨i, hi, rfl, HI, rfl⟩ := hrel
    by_cases hlt : i < s.size
    · have g0 : decide ((i : Int) < s.size) = true := decide_eq_true (by omega)
      have g1 : (0 : Int) ≤ i := by omega
      have g2 : (i : Int) < s.size := by omega
      by_cases hc : (s[i].toNat : Int) = c
      · have g3 : ((s[i].toNat : Int) == c) = true := beq_iff_eq.2 hc
        have hv := findN_stop _ (c : Int) i _ _ (drop_data s i hlt) hc
        rw [HI.out] at hv
        have HV := Lib.hid hv
        clear hv hc
        go_wp2
        go_ret
        exact ⟨by rw [HV.out]; rfl, rfl⟩
      · have g3 : ((s[i].toNat : Int) == c) = false := beq_eq_false_iff_ne.2 hc
        have hv := findN_step _ (c : Int) i _ _ (drop_data s i hlt) hc
        rw [HI.out] at hv
        have HV := Lib.hid hv.symm
        clear hv hc
        go_wp2
        go_roundw
        case rel => exact ⟨i + 1, by omega, by go_num, HV, trivial⟩
        case measure => simp [intOf]; omega
    · have g0 : decide ((i : Int) < s.size) = false := decide_eq_false (by omega)
      have hv : R = -1 := by rw [← HI.out, List.drop_of_length_le (by rw [len_data]; omega)]; rfl
      have HV := Lib.hid hv
      clear hv
      go_wp2
      go_ret
      exact ⟨by rw [HV.out]; rfl, rfl⟩

set_option maxRecDepth 100000 in
set_option maxHeartbeats 8000000 in
theorem member_any (c b : Nat) (hb : b < 256) (w : World) : Calls Tryz.prog 168 #[.int .u8 c, .int .u8 b] w fun e w' => e = .returned (.bool (inCls c b)) ∧ ∃ n, w' = w.drewN n := by
  have HW := Lib.hid (fun w => find_any ⟨#[33, 36, 38, 42, 60, 62, 124, 94, 37, 95, 126, 63, 43, 45, 47, 61]⟩ b w (by decide))
  have HF := Lib.hid (fun w => find_any ⟨#[33, 36, 38, 42, 60, 62, 124, 94, 37, 95, 126, 63]⟩ b w (by decide))
  have HB := Lib.hid (fun w => find_any ⟨#[60, 36, 37, 42, 95]⟩ b w (by decide))
  have mW : (clsL b || clsD b || decide (0 ≤ findN (⟨#[33, 36, 38, 42, 60, 62, 124, 94, 37, 95, 126, 63, 43, 45, 47, 61]⟩ : ByteArray).data.toList (b : Nat) 0)) = clsW b := memW ⟨b, hb⟩
  have mF : (clsL b || clsD b || decide (0 ≤ findN (⟨#[33, 36, 38, 42, 60, 62, 124, 94, 37, 95, 126, 63]⟩ : ByteArray).data.toList (b : Nat) 0)) = clsF b := memCls ⟨b, hb⟩
  have mB : decide (0 ≤ findN (⟨#[60, 36, 37, 42, 95]⟩ : ByteArray).data.toList (b : Nat) 0) = clsB b := memB ⟨b, hb⟩
  have mQ : (clsL b || clsD b || (b == 45)) = clsQ b := by unfold clsQ; cases clsL b <;> cases clsD b <;> simp
  have dL : clsL b = (decide ((97 : Int) ≤ b) && decide ((b : Int) ≤ 122)) := by unfold clsL; congr 1 <;> (apply decide_eq_decide.2; omega)
  have dD : clsD b = (decide ((48 : Int) ≤ b) && decide ((b : Int) ≤ 57)) := by unfold clsD; congr 1 <;> (apply decide_eq_decide.2; omega)
  have hI : inCls c b = if c = 76 then clsL b else if c = 68 then clsD b else if c = 87 then clsW b else if c = 70 then clsF b else if c = 66 then clsB b else if c = 81 then clsQ b else if c = 65 then (clsL b || clsD b) else b == c := rfl
  rw [← mW, ← mF, ← mB, ← mQ] at hI
  have HI := Lib.hid hI
  have HL := Lib.hid dL
  have HD := Lib.hid dD
  have e45 := int_eq b 45
  have ebc := int_eq b c
  clear mW mF mB mQ dL dD hI
  generalize inCls c b = res at *
  generalize findN (⟨#[33, 36, 38, 42, 60, 62, 124, 94, 37, 95, 126, 63, 43, 45, 47, 61]⟩ : ByteArray).data.toList (b : Nat) 0 = rW at *
  generalize findN (⟨#[33, 36, 38, 42, 60, 62, 124, 94, 37, 95, 126, 63]⟩ : ByteArray).data.toList (b : Nat) 0 = rF at *
  generalize findN (⟨#[60, 36, 37, 42, 95]⟩ : ByteArray).data.toList (b : Nat) 0 = rB at *
  have HX := Lib.hid (And.intro e45 ebc)
  clear e45 ebc
  go_enter Tryz.func168, Tryz.ntmps168
  go_upto_region 1 with fail
  go_cut [5] (fun v5 wc => v5 = .bool (clsL b) ∧ w = wc)
  case first =>
    have hl := HL.out
    cases hx : decide ((97 : Int) ≤ (b : Int)) with
    | false =>
      rw [hx] at hl
      have HLD := Lib.hid hl
      clear hl HL HD
      go_wp2
      go_meet
      exact ⟨by rw [HLD.out]; first | done | rfl, rfl⟩
    | true =>
      rw [hx] at hl
      have HLD := Lib.hid hl
      clear hl HL HD
      go_wp2
      go_meet
      exact ⟨by rw [HLD.out]; first | done | rfl, rfl⟩
  case rest =>
    obtain ⟨rfl, rfl⟩ := hcut
    go_upto_region 2 with fail
    go_cut [6] (fun v6 wc => v6 = .bool (clsD b) ∧ w = wc)
    case first =>
      have hl := HD.out
      cases hx : decide ((48 : Int) ≤ (b : Int)) with
      | false =>
        rw [hx] at hl
        have HLD := Lib.hid hl
        clear hl HL HD
        go_wp2
        go_meet
        exact ⟨by rw [HLD.out]; first | done | rfl, rfl⟩
      | true =>
        rw [hx] at hl
        have HLD := Lib.hid hl
        clear hl HL HD
        go_wp2
        go_meet
        exact ⟨by rw [HLD.out]; first | done | rfl, rfl⟩
    case rest =>
    obtain ⟨rfl, rfl⟩ := hcut
    clear HL HD
    generalize clsL b = L at *
    generalize clsD b = D at *
    by_cases c76 : c = 76
    · have e76 : ((c : Int) == 76) = true := by rw [beq_iff_eq]; omega
      have hr := HI.out
      rw [if_pos c76] at hr
      have HR := Lib.hid hr
      clear hr HI c76
      go_wp2
      go_ret
      exact ⟨by rw [HR.out]; first | done | rfl, 0, rfl⟩
    have e76 : ((c : Int) == 76) = false := by rw [beq_eq_false_iff_ne]; omega
    by_cases c68 : c = 68
    · have e68 : ((c : Int) == 68) = true := by rw [beq_iff_eq]; omega
      have hr := HI.out
      rw [if_neg c76, if_pos c68] at hr
      have HR := Lib.hid hr
      clear hr HI c76 c68
      go_wp2
      go_ret
      exact ⟨by rw [HR.out]; first | done | rfl, 0, rfl⟩
    have e68 : ((c : Int) == 68) = false := by rw [beq_eq_false_iff_ne]; omega
    by_cases c87 : c = 87
    · have e87 : ((c : Int) == 87) = true := by rw [beq_iff_eq]; omega
      have hr := HI.out
      rw [if_neg c76, if_neg c68, if_pos c87] at hr
      have HR := Lib.hid hr
      clear hr HI c76 c68 c87
      cases L with
      | true =>
        go_wp2
        go_ret
        exact ⟨by rw [HR.out]; first | done | rfl, 0, rfl⟩
      | false =>
        cases D with
        | true =>
          go_wp2
          go_ret
          exact ⟨by rw [HR.out]; first | done | rfl, 0, rfl⟩
        | false =>
          go_wp2_with fail
          refine (HW.out _).mono ?_
          rintro e w1 ⟨rfl, rfl⟩
          go_wp2
          go_ret
          exact ⟨by rw [HR.out]; first | done | rfl, 0, rfl⟩
    have e87 : ((c : Int) == 87) = false := by rw [beq_eq_false_iff_ne]; omega
    by_cases c70 : c = 70
    · have e70 : ((c : Int) == 70) = true := by rw [beq_iff_eq]; omega
      have hr := HI.out
      rw [if_neg c76, if_neg c68, if_neg c87, if_pos c70] at hr
      have HR := Lib.hid hr
      clear hr HI c76 c68 c87 c70
      cases L with
      | true =>
        go_wp2
        go_ret
        exact ⟨by rw [HR.out]; first | done | rfl, 0, rfl⟩
      | false =>
        cases D with
        | true =>
          go_wp2
          go_ret
          exact ⟨by rw [HR.out]; first | done | rfl, 0, rfl⟩
        | false =>
          go_wp2_with fail
          refine (HF.out _).mono ?_
          rintro e w1 ⟨rfl, rfl⟩
          go_wp2
          go_ret
          exact ⟨by rw [HR.out]; first | done | rfl, 0, rfl⟩
    have e70 : ((c : Int) == 70) = false := by rw [beq_eq_false_iff_ne]; omega
    by_cases c66 : c = 66
    · have e66 : ((c : Int) == 66) = true := by rw [beq_iff_eq]; omega
      have hr := HI.out
      rw [if_neg c76, if_neg c68, if_neg c87, if_neg c70, if_pos c66] at hr
      have HR := Lib.hid hr
      clear hr HI c76 c68 c87 c70 c66
      go_wp2_with fail
      refine (HB.out _).mono ?_
      rintro e w1 ⟨rfl, rfl⟩
      go_wp2
      go_ret
      exact ⟨by rw [HR.out]; first | done | rfl, 0, rfl⟩
    have e66 : ((c : Int) == 66) = false := by rw [beq_eq_false_iff_ne]; omega
    by_cases c81 : c = 81
    · have e81 : ((c : Int) == 81) = true := by rw [beq_iff_eq]; omega
      have hr := HI.out
      rw [if_neg c76, if_neg c68, if_neg c87, if_neg c70, if_neg c66, if_pos c81] at hr
      have HR := Lib.hid hr
      clear hr HI c76 c68 c87 c70 c66 c81
      cases L <;> cases D <;> (go_wp2; go_ret; exact ⟨by rw [HR.out]; first | done | rfl | (rw [← HX.out.1]; rfl), 0, rfl⟩)
    have e81 : ((c : Int) == 81) = false := by rw [beq_eq_false_iff_ne]; omega
    by_cases c65 : c = 65
    · have e65 : ((c : Int) == 65) = true := by rw [beq_iff_eq]; omega
      have hr := HI.out
      rw [if_neg c76, if_neg c68, if_neg c87, if_neg c70, if_neg c66, if_neg c81, if_pos c65] at hr
      have HR := Lib.hid hr
      clear hr HI c76 c68 c87 c70 c66 c81 c65
      cases L <;> cases D <;> (go_wp2; go_ret; exact ⟨by rw [HR.out]; first | done | rfl | (rw [← HX.out.1]; rfl), 0, rfl⟩)
    have e65 : ((c : Int) == 65) = false := by rw [beq_eq_false_iff_ne]; omega
    have hr := HI.out
    rw [if_neg c76, if_neg c68, if_neg c87, if_neg c70, if_neg c66, if_neg c81, if_neg c65] at hr
    have HR := Lib.hid hr
    clear hr HI c76 c68 c87 c70 c66 c81 c65
    go_wp2
    go_ret
    exact ⟨by rw [HR.out, ← HX.out.2]; first | done | rfl, 0, rfl⟩
theorem below_drew1 {B : Nat} {a w : World} (h : Below B a w) : Below B a w.drew := ⟨h.os, h.tape, h.output, h.size, h.block⟩
end Go.Proofs.YtjnimfnelacceaaGreatDoor
namespace Go.Proofs.YtjnimfnelacceaaGreatDoor
open Go.RowKit Go.Proofs.YtjnimfnelacceaaGreatDoorW.PrintLast

def rowS (l : List UInt8) (c : Nat) (A : Nat → Bool) : Nat → Bool
  | 0 => A 0
  | i + 1 => A (i + 1) || (rowS l c A i && inCls c (byt l i))
def rowP (l : List UInt8) (c : Nat) (A : Nat → Bool) : Nat → Bool
  | 0 => false
  | i + 1 => A i && inCls c (byt l i)
def rowV (l : List UInt8) (star : Bool) (c : Nat) (A : Nat → Bool) : Nat → Bool := if star then rowS l c A else rowP l c A
def runP (l : List UInt8) : List UInt8 → (Nat → Bool) → (Nat → Bool)
  | [], A => A
  | [c], A => rowP l c.toNat A
  | c :: d :: r, A => if d = 42 then runP l r (rowS l c.toNat A) else runP l (d :: r) (rowP l c.toNat A)
def lastT (A : Nat → Bool) : Nat → Nat
  | 0 => 0
  | n + 1 => if A (n + 1) then n + 1 else lastT A n
def longP (p l : List UInt8) : Nat := if l = [] then 0 else if inCls (byt p 0) (byt l 0) = false then 0 else lastT (runP l p fun i => i == 0) l.length
/-- A slice of bools. -/
structure Bits (w : World) (b n : Nat) (A : Nat → Bool) : Prop where
  at_ : ∀ j, j < n → w.cell? ⟨b, j, none⟩ = some (.bool (A j))
  free : ∀ o, w.frozen? ⟨b, o, none⟩ = false
  lt : b < w.heap.size
theorem Bits.below {w w' : World} {b n : Nat} {A : Nat → Bool} (h : Bits w b n A) (hb : Below w.heap.size w w') : Bits w' b n A :=
  ⟨fun j hj => below_cell hb (h.at_ j hj), fun o => (hb.frozen (p := ⟨b, o, none⟩) h.lt).trans (h.free o), Nat.lt_of_lt_of_le h.lt hb.size⟩
theorem Bits.set {w : World} {b n i : Nat} {A A' : Nat → Bool} (h : Bits w b n A) (hi : i < n) (ha : A' i = true) (hA : ∀ j, j ≠ i → A' j = A j) : Bits (w.setCell ⟨b, i, none⟩ (.bool true)) b n A' := by
  refine ⟨fun j hj => ?_, fun o => by rw [World.frozen?_setCell]; exact h.free o, by rw [size_set1]; exact h.lt⟩
  by_cases hj' : j = i
  · subst hj'
    rw [World.cell?_setCell_same' _ _ _ (by rw [h.at_ j hj]; rfl), ha]
  · rw [World.cell?_setCell_other _ _ _ _ (by intro e; injection e with _ e2; omega), h.at_ j hj, hA j hj']
theorem Bits.other {w : World} {b b' n i : Nat} {A : Nat → Bool} (v : Value) (h : Bits w b n A) (hb : b ≠ b') : Bits (w.setCell ⟨b', i, none⟩ v) b n A :=
  ⟨fun j hj => by rw [World.cell?_setCell_other _ _ _ _ (by intro e; injection e with e1 _; exact hb e1.symm)]; exact h.at_ j hj, fun o => by rw [World.frozen?_setCell]; exact h.free o, by rw [size_set1]; exact h.lt⟩
theorem Bits.congr {w : World} {b n : Nat} {A A' : Nat → Bool} (h : Bits w b n A) (hA : ∀ j, j < n → A' j = A j) : Bits w b n A' := ⟨fun j hj => by rw [h.at_ j hj, hA j hj], h.free, h.lt⟩
end Go.Proofs.YtjnimfnelacceaaGreatDoor
