/- The reference: begins, colon, allowed. The reference: allowed. The reference: blank, comment. The reference: Find; Number and integral (that they answer). -/
import Derived.Test.YtjnimfnelacceaaGreatDoorLot13
import Derived.StillTailTactics
import Derived.Lib.Strings
set_option linter.unusedSimpArgs false
set_option linter.unusedVariables false
namespace Go.Proofs.YtjnimfnelacceaaGreatDoor
open Go.RowKit Go.Proofs.YtjnimfnelacceaaGreatDoorW.PrintLast

def begB (s : ByteArray) : ByteArray := s.extract 0 (min s.size 100)
theorem begB_data (s : ByteArray) : (begB s).data.toList = s.data.toList.take 100 := by
  have h := len_data s
  unfold begB
  have e := ext_data s 0 (min s.size 100)
  rw [Nat.zero_add, List.drop_zero] at e
  rw [e]
  by_cases h1 : 100 ≤ s.size
  · rw [Nat.min_eq_right h1]
  · rw [Nat.min_eq_left (by omega), List.take_of_length_le (by omega), List.take_of_length_le (by omega)]
theorem begB_size (s : ByteArray) : (begB s).size ≤ 100 := by
  rw [← len_data, begB_data, List.length_take]; omega
set_option maxHeartbeats 800000 in
theorem begins_any (s : ByteArray) (w : World) : Calls Tryz.prog 205 #[.string s, .int .i64 0] w fun e w' => e = .returned (.string (begB s)) ∧ w' = w := by
  have h1 : (0 : Int) ≤ s.size := by omega
  have hm : (min (s.size : Int) 100).toNat = min s.size 100 := by omega
  have HM := Lib.hid hm
  clear hm
  go_enter Tryz.func205, Tryz.ntmps205
  go_wp2
  go_ret
  refine ⟨?_, rfl⟩
  unfold begB
  rw [← HM.out]
  rfl
set_option maxHeartbeats 800000 in
theorem rcolon_any (s : ByteArray) (k : Nat) (w : World) (hk : k ≤ 1000000) : Calls Tryz.prog 235 #[.string s, .int .i64 k] w fun e w' => e = .returned (.bool (decide (k + 1 < s.size) && (byt s.data.toList (k + 1) == 58 || byt s.data.toList (k + 1) == 61))) ∧ w' = w := by
  have hw : IntKind.i64.wrap ((k : Int) + 1) = ((k + 1 : Nat) : Int) := IntWalk.i64_in _ (by omega)
  by_cases h : k + 1 < s.size
  · have e1 : decide (((k + 1 : Nat) : Int) < s.size) = true := decide_eq_true (by omega)
    have e2 : (0 : Int) ≤ ((k + 1 : Nat) : Int) := by omega
    have e3 : ((k + 1 : Nat) : Int) < s.size := by omega
    have hq := byt_idx s (k + 1) h
    by_cases h4 : byt s.data.toList (k + 1) = 58
    · have hq2 : ((s[k + 1].toNat : Int) == 58) = true := by rw [hq, beq_iff_eq]; omega
      have hr : (decide (k + 1 < s.size) && (byt s.data.toList (k + 1) == 58 || byt s.data.toList (k + 1) == 61)) = true := by simp [h, h4]
      rw [hr]
      clear hq hr h4
      go_enter Tryz.func235, Tryz.ntmps235
      go_wp2
      go_ret
      exact ⟨rfl, rfl⟩
    · have hq2 : ((s[k + 1].toNat : Int) == 58) = false := by rw [hq, beq_eq_false_iff_ne]; omega
      have hr : (decide (k + 1 < s.size) && (byt s.data.toList (k + 1) == 58 || byt s.data.toList (k + 1) == 61)) = (byt s.data.toList (k + 1) == 61) := by simp [h, h4]
      rw [hr]
      have hq3 : ((s[k + 1].toNat : Int) == 61) = (byt s.data.toList (k + 1) == 61) := by rw [hq, Bool.eq_iff_iff, beq_iff_eq, beq_iff_eq]; omega
      clear hq hr h4
      go_enter Tryz.func235, Tryz.ntmps235
      go_wp2
      go_ret
      exact ⟨rfl, rfl⟩
  · have e1 : decide (((k + 1 : Nat) : Int) < s.size) = false := decide_eq_false (by omega)
    have hr : (decide (k + 1 < s.size) && (byt s.data.toList (k + 1) == 58 || byt s.data.toList (k + 1) == 61)) = false := by simp [h]
    rw [hr]
    clear hr
    go_enter Tryz.func235, Tryz.ntmps235
    go_wp2
    go_ret
    exact ⟨rfl, rfl⟩
end Go.Proofs.YtjnimfnelacceaaGreatDoor

namespace Go.Proofs.YtjnimfnelacceaaGreatDoor
open Go.RowKit Go.Proofs.YtjnimfnelacceaaGreatDoorW.PrintLast

theorem still_tail2 {P : Program} {id : Nat} {Q : Exit → Act → World → Prop} {a : Act} {w : World} {l : List Oper} (n : Nat) (hm : P.follows .mixedOrders = true) (hB : Region.lexTailB .any l.toArray n = true)
    (h : wpStill P l.toArray w.drew (fun a' => wpList P l.toArray Q (l.drop n) a' w.drew) (l.take n) a) : (Code.region id l.toArray true).wp P Q a w := wp_region_still_tail n hm hB h
def colB (l : List UInt8) (k : Nat) : Bool := decide (k + 1 < l.length) && (byt l (k + 1) == 58 || byt l (k + 1) == 61)
def lonB (p l : List UInt8) : Nat := longP p (l.take 100)
def allowB (k : Nat) (p l : List UInt8) : Bool :=
  if lonB p l = 0 then false else
  if k = 3 then !colB l (lonB p l - 1) else
  if k = 6 then (decide (findN (l.take (lonB p l)) 58 0 < 0) || !colB l (findN (l.take (lonB p l)) 58 0).toNat) else true
theorem rcolon_col (s : ByteArray) (k : Nat) (w : World) (hk : k ≤ 1000000) : Calls Tryz.prog 235 #[.string s, .int .i64 k] w fun e w' => e = .returned (.bool (colB s.data.toList k)) ∧ w' = w := by
  have := rcolon_any s k w hk
  unfold colB
  rw [len_data]
  exact this
theorem lastT_le (A : Nat → Bool) : ∀ n, lastT A n ≤ n
  | 0 => Nat.le_refl _
  | n + 1 => by unfold lastT; split; exact Nat.le_refl _; have := lastT_le A n; omega
theorem longP_le (p l : List UInt8) : longP p l ≤ l.length := by
  unfold longP
  split
  · simp
  · split
    · simp
    · exact lastT_le _ _
theorem lonB_le (p l : List UInt8) : lonB p l ≤ l.length := by
  unfold lonB
  refine Nat.le_trans (longP_le _ _) ?_
  rw [List.length_take]; omega
theorem findN_at (c : Int) : ∀ (l : List UInt8) (i : Nat), findN l c i < 0 ∨ ∃ j : Nat, findN l c i = j ∧ j < i + l.length
  | [], i => Or.inl (by unfold findN; omega)
  | b :: r, i => by
    unfold findN
    split
    · exact Or.inr ⟨i, rfl, by simp⟩
    · rcases findN_at c r (i + 1) with h | ⟨j, h1, h2⟩
      · exact Or.inl h
      · exact Or.inr ⟨j, h1, by simp at h2 ⊢; omega⟩
set_option maxRecDepth 100000 in
set_option maxHeartbeats 1600000 in
theorem allowed_any (k : Nat) (p s : ByteArray) (w : World) (hk : k < 10) (hp : 0 < p.size) (hp2 : p.size ≤ 1000) (hs : s.size ≤ 1000000) :
    Calls Tryz.prog 206 #[.agg #[.int .i64 k, .string p], .string s, .int .i64 0] w fun e w' => e = .returned (.bool (allowB k p.data.toList s.data.toList)) ∧ Below w.heap.size w w' := by
  have hle := lonB_le p.data.toList s.data.toList
  have hall : allowB k p.data.toList s.data.toList = allowB k p.data.toList s.data.toList := rfl
  conv at hall => rhs; unfold allowB
  have hlon : ∀ w, Calls Tryz.prog 204 #[.string p, .string (begB s)] w fun e w' => e = .returned (.int .i64 (lonB p.data.toList s.data.toList)) ∧ Below w.heap.size w w' := by
    intro w
    have := rlongest_any p (begB s) w hp hp2 (by have := begB_size s; omega)
    rw [begB_data] at this
    exact this
  rw [len_data] at hle
  generalize lonB p.data.toList s.data.toList = n at *
  have HLON := Lib.hid hlon
  have HALL := Lib.hid hall
  have HBEG := Lib.hid (begins_any s)
  have hb0 : Below w.heap.size w (w.alloc (.cells #[.int .i64 k, .string p] 279)) := (Below.refl _ _).alloc (Nat.le_refl _) _
  have HB0 := Lib.hid hb0
  clear hlon hall hb0
  go_enter Tryz.func206, Tryz.ntmps206
  go_wp2_with fail
  refine still_tail2 5 (by kernel_rfl) (by kernel_rfl) ?_
  simp only [List.take_succ_cons, List.take_zero, List.drop_succ_cons, List.drop_zero]
  iterate 4 still_step
  still_call (HBEG.out _)
  refine wpStill_nil ?_
  go_wp2_with fail
  refine (HLON.out _).mono ?_
  rintro e w1 ⟨rfl, hb1⟩
  have hbw : Below w.heap.size w w1 := by
    have h2 := below_drew1 HB0.out
    exact h2.trans (hb1.mono h2.size)
  have c0 : w1.cell? ⟨w.heap.size, 0, none⟩ = some (.int .i64 k) := below_cell hb1 (by simp [go_sem])
  have HBW := Lib.hid hbw
  clear hb1 hbw HLON HB0 HBEG
  by_cases hn0 : n = 0
  · have e0 : ((n : Int) == 0) = true := by rw [beq_iff_eq]; omega
    have hr : allowB k p.data.toList s.data.toList = false := by rw [HALL.out, if_pos hn0]
    have HR := Lib.hid hr
    clear hr hn0
    go_wp2
    go_ret
    exact ⟨by rw [HR.out]; rfl, HBW.out⟩
  · have e0 : ((n : Int) == 0) = false := by rw [beq_eq_false_iff_ne]; omega
    by_cases hk3 : k = 3
    · have e3 : ((k : Int) == 3) = true := by rw [beq_iff_eq]; omega
      have w1e : IntKind.i64.wrap (n : Int) = n := IntWalk.i64_in _ (by omega)
      have w2e : IntKind.i64.wrap ((n : Int) - 1) = ((n - 1 : Nat) : Int) := by rw [IntWalk.i64_in _ (by omega)]; omega
      have hc := fun w => rcolon_col s (n - 1) w (by omega)
      have hr : allowB k p.data.toList s.data.toList = !colB s.data.toList (n - 1) := by rw [HALL.out, if_neg hn0, if_pos hk3]
      generalize colB s.data.toList (n - 1) = b at *
      have HC := Lib.hid hc
      have HR := Lib.hid hr
      clear hr hc hn0 hk3
      go_wp2_with fail
      refine (HC.out _).mono ?_
      rintro e w2 ⟨rfl, rfl⟩
      go_wp2
      go_ret
      exact ⟨by rw [HR.out]; rfl, HBW.out⟩
    · have e3 : ((k : Int) == 3) = false := by rw [beq_eq_false_iff_ne]; omega
      by_cases hk6 : k = 6
      · have e6 : ((k : Int) == 6) = true := by rw [beq_iff_eq]; omega
        have w1e : IntKind.i64.wrap (n : Int) = n := IntWalk.i64_in _ (by omega)
        have q0 : (0 : Int) ≤ n := by omega
        have q1 : (n : Int) ≤ s.size := by omega
        have hx := ext_data s 0 n
        rw [Nat.zero_add, List.drop_zero] at hx
        have hxs : (s.extract 0 n).size ≤ 1000000 := by rw [← len_data, hx, List.length_take, len_data]; omega
        have hf := fun w => find_any (s.extract 0 n) 58 w (by omega)
        rw [hx] at hf
        have hr : allowB k p.data.toList s.data.toList = (decide (findN (s.data.toList.take n) 58 0 < 0) || !colB s.data.toList (findN (s.data.toList.take n) 58 0).toNat) := by rw [HALL.out, if_neg hn0, if_neg hk3, if_pos hk6]
        have hat := findN_at 58 (s.data.toList.take n) 0
        rw [Nat.zero_add, List.length_take, len_data] at hat
        generalize findN (s.data.toList.take n) 58 0 = i at *
        have HF := Lib.hid hf
        rcases hat with hi | ⟨j, rfl, hj⟩
        · have hd : decide (i < 0) = true := decide_eq_true hi
          have hr2 : allowB k p.data.toList s.data.toList = true := by rw [hr, hd]; rfl
          have HR := Lib.hid hr2
          clear hr hr2 hf hx hxs hn0 hk3 hk6
          go_wp2_with fail
          refine (HF.out _).mono ?_
          rintro e w2 ⟨rfl, rfl⟩
          go_wp2
          go_ret
          exact ⟨by rw [HR.out]; rfl, HBW.out⟩
        · have hd : decide ((j : Int) < 0) = false := decide_eq_false (by omega)
          have w2e : IntKind.i64.wrap (j : Int) = j := IntWalk.i64_in _ (by omega)
          have hc := fun w => rcolon_col s j w (by omega)
          have hr2 : allowB k p.data.toList s.data.toList = !colB s.data.toList j := by rw [hr, hd]; rfl
          generalize colB s.data.toList j = b at *
          have HC := Lib.hid hc
          have HR := Lib.hid hr2
          clear hr hr2 hf hx hxs hn0 hk3 hk6 hc
          go_wp2_with fail
          refine (HF.out _).mono ?_
          rintro e w2 ⟨rfl, rfl⟩
          go_wp2_with fail
          refine (HC.out _).mono ?_
          rintro e w3 ⟨rfl, rfl⟩
          go_wp2
          go_ret
          exact ⟨by rw [HR.out]; rfl, HBW.out⟩
      · have e6 : ((k : Int) == 6) = false := by rw [beq_eq_false_iff_ne]; omega
        have hr : allowB k p.data.toList s.data.toList = true := by rw [HALL.out, if_neg hn0, if_neg hk3, if_neg hk6]
        have HR := Lib.hid hr
        clear hr hn0 hk3 hk6
        go_wp2
        go_ret
        exact ⟨by rw [HR.out]; rfl, HBW.out⟩
end Go.Proofs.YtjnimfnelacceaaGreatDoor
namespace Go.Proofs.YtjnimfnelacceaaGreatDoor
open Go.RowKit

def blankN (x : Nat) : Bool := x == 32 || (x == 9 || (x == 10 || x == 13))
theorem blank_any (x : Nat) (hx : x < 256) (w : World) : Calls Tryz.prog 165 #[.int .u8 x] w fun e w' => e = .returned (.bool (blankN x)) ∧ w' = w := by
  have h1 : ((x : Int) == 32) = (x == 32) := by rw [Bool.eq_iff_iff, beq_iff_eq, beq_iff_eq]; omega
  have h2 : ((x : Int) == 9) = (x == 9) := by rw [Bool.eq_iff_iff, beq_iff_eq, beq_iff_eq]; omega
  have h3 : ((x : Int) == 10) = (x == 10) := by rw [Bool.eq_iff_iff, beq_iff_eq, beq_iff_eq]; omega
  have h4 : ((x : Int) == 13) = (x == 13) := by rw [Bool.eq_iff_iff, beq_iff_eq, beq_iff_eq]; omega
  unfold blankN
  generalize (x == 32) = a at *
  generalize (x == 9) = b at *
  generalize (x == 10) = c at *
  generalize (x == 13) = d at *
  cases a <;> cases b <;> cases c <;>
    (go_enter Tryz.func165, Tryz.ntmps165
     go_wp2
     go_ret
     exact ⟨rfl, rfl⟩)

def comB (l : List UInt8) : Bool := decide (2 ≤ l.length) && (byt l 0 == 47 && (byt l 1 == 47 || byt l 1 == 42))
def ComEnd (s : ByteArray) (w : World) (e : Ending) (w' : World) : Prop := Below w.heap.size w w' ∧ ∃ k n er : Int, e = .returned (.agg #[.int .i64 k, .int .i64 0, .int .i64 n, .int .i64 er]) ∧
  (comB s.data.toList = false → k = 0 ∧ n = 0 ∧ er = 0) ∧ (comB s.data.toList = true → k = 8 ∨ er ≠ 0)
theorem ext_two (s : ByteArray) (n m : Nat) (a b : UInt8) (h : ((s.extract n m).toList == [a, b]) = true) : n + 2 ≤ s.size := by
  have h1 := congrArg List.length (beq_iff_eq.1 h)
  rw [Lib.toList_data, len_data, ByteArray.size_extract] at h1
  simp only [List.length_cons, List.length_nil] at h1
  omega
set_option maxRecDepth 100000 in
set_option maxHeartbeats 4000000 in
theorem rcomment_any (s : ByteArray) (w : World) (h0 : 0 < s.size) (hs : s.size ≤ 20000) :
    Calls Tryz.prog 164 #[.string s, .int .i64 0] w (ComEnd s w) := by
  have i0 : (0 : Int) < s.size := by omega
  have i1 : (0 : Int) ≤ 0 := by omega
  have q0 := byt_idx s 0 h0
  have W0 := Lib.hid (show (s.size : Int) - 0 = s.size by omega)
  by_cases h2 : s.size < 2
  · have hc : comB s.data.toList = false := by unfold comB; rw [len_data, decide_eq_false (by omega)]; rfl
    have e1 : decide ((s.size : Int) - 0 < 2) = true := decide_eq_true (by omega)
    have e2 : decide ((s.size : Int) < 2) = true := decide_eq_true (by omega)
    have HC := Lib.hid hc
    clear hc q0
    go_enter Tryz.func164, Tryz.ntmps164
    go_wp2
    refine bodyPost_ret (v := .agg #[.int .i64 0, .int .i64 0, .int .i64 0, .int .i64 0]) (by simp [results, Tryz.results164, go_sem]) rfl ⟨(Below.refl _ _).alloc (Nat.le_refl _) _, 0, 0, 0, rfl, fun _ => ⟨rfl, rfl, rfl⟩, fun h => by rw [HC.out] at h; cases h⟩
  · have e2 : decide ((s.size : Int) < 2) = false := decide_eq_false (by omega)
    have i2 : (1 : Int) < s.size := by omega
    have i3 : (0 : Int) ≤ 1 := by omega
    have hx1 : 1 < s.size := by omega
    have q1 := byt_idx s 1 hx1
    by_cases c0 : byt s.data.toList 0 = 47
    · have f0 : ((s[0].toNat : Int) != 47) = false := by rw [q0, bne_eq_false_iff_eq]; omega
      by_cases c1 : byt s.data.toList 1 = 47
      · have f1 : ((s[1].toNat : Int) != 47) = false := by rw [q1, bne_eq_false_iff_eq]; omega
        have f2 : ((s[1].toNat : Int) == 47) = true := by rw [q1, beq_iff_eq]; omega
        have hc : comB s.data.toList = true := by unfold comB; rw [len_data, decide_eq_true (by omega), c0, c1]; rfl
        have HC := Lib.hid hc
        clear hc q0 q1 c0 c1
        go_enter Tryz.func164, Tryz.ntmps164
        go_wp2
        go_loopw [5] (fun v5 wr => ∃ n : Nat, 2 ≤ n ∧ n ≤ s.size ∧ v5 = .int .i64 n ∧ wr = w.alloc (.cells #[.int .i64 0, .int .i64 0, .int .i64 0, .int .i64 0] 201)) (fun v5 _ => s.size - (intOf v5).toNat)
        case atStart => exact ⟨2, Nat.le_refl _, by omega, rfl, rfl⟩
        case round =>
          obtain ⟨n, hn, hn2, rfl, rfl⟩ := hrel
          by_cases hlt : n < s.size
          · have g0 : decide ((n : Int) < s.size) = true := decide_eq_true (by omega)
            have g1 : (0 : Int) ≤ n := by omega
            have g2 : (n : Int) < s.size := by omega
            cases g3 : ((s[n].toNat : Int) != 10) with
            | true =>
              go_wp2
              go_roundw
              case rel => exact ⟨n + 1, by omega, by omega, by go_num, trivial⟩
              case measure => simp [intOf]; omega
            | false =>
              go_wp2
              refine bodyPost_ret (v := .agg #[.int .i64 8, .int .i64 0, .int .i64 n, .int .i64 0]) (by simp [results, Tryz.results164, go_sem]) rfl ⟨(Below.refl _ _).alloc (Nat.le_refl _) _, 8, n, 0, rfl, fun h => (by rw [HC.out] at h; cases h), fun _ => Or.inl rfl⟩
          · have g0 : decide ((n : Int) < s.size) = false := decide_eq_false (by omega)
            go_wp2
            refine bodyPost_ret (v := .agg #[.int .i64 8, .int .i64 0, .int .i64 n, .int .i64 0]) (by simp [results, Tryz.results164, go_sem]) rfl ⟨(Below.refl _ _).alloc (Nat.le_refl _) _, 8, n, 0, rfl, fun h => (by rw [HC.out] at h; cases h), fun _ => Or.inl rfl⟩
      · have f1 : ((s[1].toNat : Int) != 47) = true := by rw [q1, bne_iff_ne]; omega
        by_cases c2 : byt s.data.toList 1 = 42
        · have f2 : ((s[1].toNat : Int) != 42) = false := by rw [q1, bne_eq_false_iff_eq]; omega
          have f3 : ((s[1].toNat : Int) == 47) = false := by rw [q1, beq_eq_false_iff_ne]; omega
          have hc : comB s.data.toList = true := by unfold comB; rw [len_data, decide_eq_true (by omega), c0, c2]; rfl
          have HC := Lib.hid hc
          clear hc q0 q1 c0 c1
          go_enter Tryz.func164, Tryz.ntmps164
          go_wp2
          go_loopw [5, 6] (fun v5 v6 wr => ∃ n d : Nat, 2 ≤ n ∧ n ≤ s.size ∧ d ≤ 100 ∧ v5 = .int .i64 n ∧ v6 = .int .i64 d ∧ wr = w.alloc (.cells #[.int .i64 0, .int .i64 0, .int .i64 0, .int .i64 0] 201)) (fun v5 _ _ => s.size - (intOf v5).toNat)
          case atStart => exact ⟨2, 1, Nat.le_refl _, by omega, by omega, rfl, rfl, rfl⟩
          case round =>
            obtain ⟨n, d, hn, hn2, hd, rfl, rfl, rfl⟩ := hrel
            by_cases hd0 : d = 0
            · subst hd0
              go_wp2
              refine bodyPost_ret (v := .agg #[.int .i64 8, .int .i64 0, .int .i64 n, .int .i64 0]) (by simp [results, Tryz.results164, go_sem]) rfl ⟨(Below.refl _ _).alloc (Nat.le_refl _) _, 8, n, 0, rfl, fun h => (by rw [HC.out] at h; cases h), fun _ => Or.inl rfl⟩
            · have k0 : decide ((0 : Int) < d) = true := decide_eq_true (by omega)
              have k0n : decide (0 < d) = true := decide_eq_true (by omega)
              have hd1 : 1 ≤ d := by omega
              clear hd0
              by_cases hlt : n < s.size
              · have g0 : decide ((n : Int) < s.size) = true := decide_eq_true (by omega)
                have g1 : (0 : Int) ≤ n := by omega
                have g2 : (n : Int) < s.size := by omega
                have hopen : ∀ m, ((s.extract n m).toList == [47, 42]) = true → n + 2 ≤ s.size := fun m h => ext_two s n m _ _ h
                have hclose : ∀ m, ((s.extract n m).toList == [42, 47]) = true → n + 2 ≤ s.size := fun m h => ext_two s n m _ _ h
                have HO := Lib.hid hopen
                have HL := Lib.hid hclose
                clear hopen hclose
                by_cases h100 : d = 100
                · have k1 : decide ((100 : Int) < (d : Int) + 1) = true := decide_eq_true (by omega)
                  go_wp2
                  all_goals first
                    | (refine bodyPost_ret (v := .agg #[.int .i64 0, .int .i64 0, .int .i64 0, .int .i64 6]) (by simp [results, Tryz.results164, go_sem]) rfl ⟨(Below.refl _ _).alloc (Nat.le_refl _) _, 0, 0, 6, rfl, fun h => (by rw [HC.out] at h; cases h), fun _ => Or.inr (by decide)⟩)
                    | exact ⟨⟨n + 2, d - 1, by omega, HL.out _ (by assumption), by omega, by go_num, by go_num, trivial⟩, by simp [intOf]; omega⟩
                    | exact ⟨⟨n + 1, d, by omega, by omega, by omega, by go_num, by go_num, trivial⟩, by simp [intOf]; omega⟩
                · have k1 : decide ((100 : Int) < (d : Int) + 1) = false := decide_eq_false (by omega)
                  go_wp2
                  all_goals first
                    | exact ⟨⟨n + 2, d + 1, by omega, HO.out _ (by assumption), by omega, by go_num, by go_num, trivial⟩, by simp [intOf]; omega⟩
                    | exact ⟨⟨n + 2, d - 1, by omega, HL.out _ (by assumption), by omega, by go_num, by go_num, trivial⟩, by simp [intOf]; omega⟩
                    | exact ⟨⟨n + 1, d, by omega, by omega, by omega, by go_num, by go_num, trivial⟩, by simp [intOf]; omega⟩
              · have g0 : decide ((n : Int) < s.size) = false := decide_eq_false (by omega)
                go_wp2
                refine bodyPost_ret (v := .agg #[.int .i64 0, .int .i64 0, .int .i64 0, .int .i64 13]) (by simp [results, Tryz.results164, go_sem]) rfl ⟨(Below.refl _ _).alloc (Nat.le_refl _) _, 0, 0, 13, rfl, fun h => (by rw [HC.out] at h; cases h), fun _ => Or.inr (by decide)⟩
        · have f2 : ((s[1].toNat : Int) != 42) = true := by rw [q1, bne_iff_ne]; omega
          have hc : comB s.data.toList = false := by unfold comB; rw [len_data, beq_eq_false_iff_ne.2 c1, beq_eq_false_iff_ne.2 c2]; simp
          have HC := Lib.hid hc
          clear hc q0 q1 c0 c1 c2
          go_enter Tryz.func164, Tryz.ntmps164
          go_wp2
          refine bodyPost_ret (v := .agg #[.int .i64 0, .int .i64 0, .int .i64 0, .int .i64 0]) (by simp [results, Tryz.results164, go_sem]) rfl ⟨(Below.refl _ _).alloc (Nat.le_refl _) _, 0, 0, 0, rfl, fun _ => ⟨rfl, rfl, rfl⟩, fun h => by rw [HC.out] at h; cases h⟩
    · have f0 : ((s[0].toNat : Int) != 47) = true := by rw [q0, bne_iff_ne]; omega
      have hc : comB s.data.toList = false := by unfold comB; rw [len_data, beq_eq_false_iff_ne.2 c0]; simp
      have HC := Lib.hid hc
      clear hc q0 q1 c0
      go_enter Tryz.func164, Tryz.ntmps164
      go_wp2
      refine bodyPost_ret (v := .agg #[.int .i64 0, .int .i64 0, .int .i64 0, .int .i64 0]) (by simp [results, Tryz.results164, go_sem]) rfl ⟨(Below.refl _ _).alloc (Nat.le_refl _) _, 0, 0, 0, rfl, fun _ => ⟨rfl, rfl, rfl⟩, fun h => by rw [HC.out] at h; cases h⟩
end Go.Proofs.YtjnimfnelacceaaGreatDoor
namespace Go.Proofs.YtjnimfnelacceaaGreatDoor
open Go.RowKit

theorem member_ex (c b : Nat) (hb : b < 256) (w : World) : Calls Tryz.prog 168 #[.int .u8 c, .int .u8 b] w fun e w' => (∃ x, e = .returned (.bool x)) ∧ ∃ n, w' = w.drewN n :=
  (member_calls c b hb w).mono fun e w' h => ⟨⟨_, h.1⟩, h.2⟩
def NumEnd (w : World) (e : Ending) (w' : World) : Prop := Below w.heap.size w w' ∧ ∃ n er : Int, e = .returned (.tuple #[.int .i64 n, .int .i64 er])
set_option maxRecDepth 100000 in
set_option maxHeartbeats 4000000 in
theorem rnumber_any (s : ByteArray) (w : World) (hs : s.size ≤ 20000) :
    Calls Tryz.prog 208 #[.string s] w (NumEnd w) := by
  have HM := Lib.hid member_ex
  by_cases hz : s.size = 0
  · have z0 : decide ((0 : Int) < s.size) = false := decide_eq_false (by omega)
    have z1 : ((s.size : Int) == 0) = true := by rw [beq_iff_eq]; omega
    go_enter Tryz.func208, Tryz.ntmps208
    go_wp2
    refine bodyPost_ret (v := .tuple #[.int .i64 0, .int .i64 11]) (by simp [results, Tryz.results208, go_sem]) rfl ⟨Below.refl _ _, 0, 11, rfl⟩
  have z0 : decide ((0 : Int) < s.size) = true := decide_eq_true (by omega)
  have z2 : (0 : Int) < s.size := by omega
  have z3 : (0 : Int) ≤ 0 := by omega
  clear hz
  go_enter Tryz.func208, Tryz.ntmps208
  go_upto_if 17 with fail
  go_cut [4, 5, 6] (fun s4 s5 s6 wx => Hid (∃ (d m : ByteArray) (sg : Int), s4 = .string d ∧ s5 = .string m ∧ s6 = .int .i64 sg ∧ d.size ≤ 20000) ∧ Hid (wx = w))
  case first =>
    go_wp2
    all_goals (go_meet; exact ⟨Lib.hid ⟨_, _, _, rfl, rfl, rfl, by first | omega | (rw [ByteArray.size_extract]; omega)⟩, Lib.hid rfl⟩)
  case rest =>
    go_upto_region 8 with fail
    obtain ⟨h4, h5⟩ := hcut
    obtain ⟨d, m, sg, e4, e5, e6, hd⟩ := h4.out
    have e7 := h5.out
    subst e4 e5 e6 e7
    clear h4 h5
    go_cut [50] (fun s50 wx => Hid (∃ b, s50 = .bool b ∧ (b = false → 0 < d.size)) ∧ Hid (wx = wc))
    case first =>
      by_cases h0 : d.size = 0
      · have k0 : ((d.size : Int) == 0) = true := by rw [beq_iff_eq]; omega
        go_wp2
        all_goals (go_meet; exact ⟨Lib.hid ⟨_, rfl, fun h => by cases h⟩, Lib.hid rfl⟩)
      · have k0 : ((d.size : Int) == 0) = false := by rw [beq_eq_false_iff_ne]; omega
        have k1 : (0 : Int) < d.size := by omega
        have k2 : 0 < d.size := by omega
        go_wp2
        all_goals first
          | (go_meet; exact ⟨Lib.hid ⟨_, rfl, fun _ => k2⟩, Lib.hid rfl⟩)
          | (exfalso; simp_all)
    case rest =>
      go_upto_if 50 with fail
      obtain ⟨h5, h6⟩ := hcut
      obtain ⟨b, e5, hb⟩ := h5.out
      have e7 := h6.out
      subst e5 e7
      clear h5 h6
      cases b with
      | true =>
        go_wp2
        refine bodyPost_ret (v := .tuple #[.int .i64 0, .int .i64 11]) (by simp [results, Tryz.results208, go_sem]) rfl ⟨Below.refl _ _, 0, 11, rfl⟩
      | false =>
        have hd0 := hb rfl
        clear hb
        go_wp2
        go_loopw [7, 8] (fun v7 v8 wr => ∃ (i : Nat) (x : Int), i ≤ d.size ∧ v7 = .int .i64 x ∧ v8 = .int .i64 i ∧ Hid (Below wc.heap.size wc wr)) (fun _ v8 _ => d.size - (intOf v8).toNat)
        case atStart => exact ⟨0, 0, Nat.zero_le _, rfl, rfl, Lib.hid (Below.refl _ _)⟩
        case round =>
          obtain ⟨i, x, hi, rfl, rfl, HQ⟩ := hrel
          by_cases hlt : i < d.size
          · have g0 : decide ((i : Int) < d.size) = true := decide_eq_true (by omega)
            have g1 : (0 : Int) ≤ i := by omega
            have g2 : (i : Int) < d.size := by omega
            go_wp2_with fail
            refine (HM.out 68 d[i].toNat (d[i].toNat_lt) _).mono ?_
            rintro e w' ⟨⟨x1, rfl⟩, n1, rfl⟩
            cases x1 with
            | false =>
              go_wp2
              refine bodyPost_ret (v := .tuple #[.int .i64 0, .int .i64 11]) (by simp [results, Tryz.results208, go_sem]) rfl ⟨below_drewN HQ.out _, 0, 11, rfl⟩
            | true =>
              go_wp2
              go_roundw
              case rel => exact ⟨i + 1, _, by omega, rfl, by go_num, Lib.hid (below_drewN HQ.out _)⟩
              case measure => simp [intOf]; omega
          · have g0 : decide ((i : Int) < d.size) = false := decide_eq_false (by omega)
            go_wp2
            refine bodyPost_ret (v := .tuple #[.int .i64 x, .int .i64 0]) (by simp [results, Tryz.results208, go_sem]) rfl ⟨HQ.out, x, 0, rfl⟩

theorem rintegral_any (s : ByteArray) (n : Nat) (w : World) (hs : s.size ≤ 20000) (hn : n ≤ s.size) :
    Calls Tryz.prog 167 #[.string s, .int .i64 0, .int .i64 n] w fun e w' => Below w.heap.size w w' ∧ ∃ er : Int, e = .returned (.int .i64 er) := by
  have HM := Lib.hid member_ex
  have HF := Lib.hid find_any
  have HN := Lib.hid (rnumber_any (s.extract 0 n))
  have hx : (s.extract 0 n).size ≤ 20000 := by rw [ByteArray.size_extract]; omega
  have g1 : (0 : Int) ≤ n := by omega
  have g2 : (n : Int) ≤ s.size := by omega
  by_cases h1 : 100 ≤ n
  · have k1 : decide ((100 : Int) ≤ n) = true := decide_eq_true (by omega)
    have k1n : decide (100 ≤ n) = true := decide_eq_true (by omega)
    go_enter Tryz.func167, Tryz.ntmps167
    go_wp2
    go_ret
    exact ⟨Below.refl _ _, 11, rfl⟩
  · have k1 : decide ((100 : Int) ≤ n) = false := decide_eq_false (by omega)
    have k1n : decide (100 ≤ n) = false := decide_eq_false (by omega)
    clear h1
    by_cases h2 : n < s.size
    · have k2 : decide ((n : Int) < s.size) = true := decide_eq_true (by omega)
      have k3 : (n : Int) < s.size := by omega
      go_enter Tryz.func167, Tryz.ntmps167
      go_wp2_with fail
      refine (HM.out 76 s[n].toNat (s[n].toNat_lt) _).mono ?_
      rintro e w' ⟨⟨x1, rfl⟩, n1, rfl⟩
      cases x1 with
      | true =>
        go_wp2
        go_ret
        exact ⟨below_drewN (Below.refl _ _) _, 11, rfl⟩
      | false =>
        go_wp2_with fail
        refine (HF.out ⟨#[95, 63, 33, 36]⟩ s[n].toNat _ (by decide)).mono ?_
        rintro e w' ⟨rfl, rfl⟩
        generalize findN _ _ _ = r
        by_cases hr : 0 ≤ r
        · have k4 : decide (0 ≤ r) = true := decide_eq_true hr
          go_wp2
          go_ret
          exact ⟨below_drewN (Below.refl _ _) _, 11, rfl⟩
        · have k4 : decide (0 ≤ r) = false := decide_eq_false hr
          go_wp2_with fail
          refine (HN.out _ hx).mono ?_
          rintro e w' ⟨hb, nn, er, rfl⟩
          have HB := Lib.hid hb
          clear hb
          go_wp2
          go_ret
          exact ⟨(below_drewN (Below.refl _ _) _).trans (HB.out.mono (Nat.le_refl _)), er, rfl⟩
    · have k2 : decide ((n : Int) < s.size) = false := decide_eq_false (by omega)
      go_enter Tryz.func167, Tryz.ntmps167
      go_wp2_with fail
      refine (HN.out _ hx).mono ?_
      rintro e w' ⟨hb, nn, er, rfl⟩
      have HB := Lib.hid hb
      clear hb
      go_wp2
      go_ret
      exact ⟨HB.out, er, rfl⟩
end Go.Proofs.YtjnimfnelacceaaGreatDoor
