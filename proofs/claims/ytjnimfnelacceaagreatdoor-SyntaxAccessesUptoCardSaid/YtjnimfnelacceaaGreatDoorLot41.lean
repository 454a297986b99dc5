/- The reference: Kind, IsName, IsPlain, Split. The reference: IsName, IsPlain, Split, Setter. The names of the program, in plain words. The setters of the program are those of the reference. The setters of the program, walked. -/
import Derived.Test.YtjnimfnelacceaaGreatDoorLot40
import Derived.Test.YtjnimfnelacceaaGreatDoorLot11
import Derived.Test.YtjnimfnelacceaaGreatDoorLot38
import Derived.Lib.IndexMore
import Derived.Test.YtjnimfnelacceaaGreatDoorLot02
set_option linter.unusedSimpArgs false
set_option linter.unusedVariables false
namespace Go.Proofs.YtjnimfnelacceaaGreatDoor
open Go.RowKit

/-- The kind of a whole text, as the reference has it (0 where it is a number, or none). -/
def rkindL (l : List UInt8) : Nat :=
  if l = [] ∨ 20000 < l.length then 0 else
  if comB l || blankN (byt l 0) || (bestB l).1 == 2 || badR l then 0 else if (bestB l).2 = l.length then (bestB l).1 else 0
def kindV (k n er : Int) (len : Nat) : Int := if er ≠ 0 ∨ n ≠ len ∨ 6 < k then 0 else k
def KindOk (l : List UInt8) (v : Int) : Prop := v = rkindL l ∨ (v = 2 ∧ rkindL l = 0)
theorem kindV_ok (s : ByteArray) (k n er : Int) (h0 : 0 < s.size) (hs : s.size ≤ 20000)
    (h1 : comB s.data.toList = true → k = 8 ∨ er ≠ 0)
    (h2 : comB s.data.toList = false → blankN (byt s.data.toList 0) = true → k = 7)
    (h3 : comB s.data.toList = false → blankN (byt s.data.toList 0) = false →
      ((bestB s.data.toList).1 = 2 → k = 2 ∨ er ≠ 0) ∧
      ((bestB s.data.toList).1 ≠ 2 → if badR s.data.toList = true then er ≠ 0 else k = (bestB s.data.toList).1 ∧ n = (bestB s.data.toList).2 ∧ er = 0)) :
    KindOk s.data.toList (kindV k n er s.size) := by
  have hb := (best_le s.data.toList).1
  have hl := len_data s
  have hne : ¬ (s.data.toList = [] ∨ 20000 < s.data.toList.length) := by
    rw [hl]
    rintro (h | h)
    · have := congrArg List.length h
      rw [hl] at this
      simp only [List.length_nil] at this
      omega
    · omega
  unfold KindOk rkindL kindV
  rw [if_neg hne, len_data]
  generalize comB s.data.toList = c at *
  generalize blankN (byt s.data.toList 0) = bl at *
  generalize badR s.data.toList = bd at *
  generalize bestB s.data.toList = bb at *
  obtain ⟨bk, bn⟩ := bb
  simp only at *
  cases c with
  | true =>
    rw [if_pos (show (true || bl || bk == 2 || bd) = true by simp), if_pos]
    · exact Or.inl rfl
    · rcases h1 rfl with h | h
      · exact Or.inr (Or.inr (by rw [h]; decide))
      · exact Or.inl h
  | false =>
    cases bl with
    | true =>
      rw [if_pos (show (false || true || bk == 2 || bd) = true by simp), if_pos]
      · exact Or.inl rfl
      · exact Or.inr (Or.inr (by rw [h2 rfl rfl]; decide))
    | false =>
      obtain ⟨h4, h5⟩ := h3 rfl rfl
      by_cases e2 : bk = 2
      · subst e2
        rw [if_pos (show (false || false || (2 : Nat) == 2 || bd) = true by simp)]
        split
        · exact Or.inl rfl
        · rename_i h
          rcases h4 rfl with h' | h'
          · exact Or.inr ⟨h', rfl⟩
          · exact absurd (Or.inl h') h
      · have h6 := h5 e2
        cases bd with
        | true =>
          simp only [if_true] at h6
          rw [if_pos (show (false || false || bk == 2 || true) = true by simp), if_pos (Or.inl h6)]
          exact Or.inl rfl
        | false =>
          simp only [Bool.false_eq_true, if_false] at h6
          obtain ⟨rfl, rfl, rfl⟩ := h6
          rw [if_neg (show ¬ (false || false || bk == 2 || false) = true by simp [e2])]
          left
          by_cases e3 : bn = s.size
          · rw [if_pos e3, if_neg]
            rintro (h | h | h)
            · exact h rfl
            · exact h (by rw [e3])
            · omega
          · rw [if_neg e3, if_pos]
            · rfl
            · exact Or.inr (Or.inl (by omega))
set_option maxRecDepth 100000 in
set_option maxHeartbeats 4000000 in
theorem rkind_any (s : ByteArray) (w : World) (h9 : 9 ≤ w.heap.size) :
    Calls Tryz.prog 91 #[.string s] w fun e w' => Below w.heap.size w w' ∧ ∃ v : Int, e = .returned (.int .i64 v) ∧ KindOk s.data.toList v := by
  by_cases h0 : s.size = 0
  · have hr : KindOk s.data.toList 0 := Or.inl (by unfold rkindL; rw [if_pos (Or.inl (List.length_eq_zero_iff.1 (by rw [len_data]; exact h0)))]; rfl)
    have HR := Lib.hid hr
    have z1 : ((s.size : Int) == 0) = true := by rw [beq_iff_eq]; omega
    clear hr h0
    go_enter Tryz.func91, Tryz.ntmps91
    go_wp2
    go_ret
    exact ⟨Below.refl _ _, 0, rfl, HR.out⟩
  have z1 : ((s.size : Int) == 0) = false := by rw [beq_eq_false_iff_ne]; omega
  by_cases hbig : 20000 < s.size
  · have hr : KindOk s.data.toList 0 := Or.inl (by unfold rkindL; rw [if_pos (Or.inr (by rw [len_data]; exact hbig))]; rfl)
    have HR := Lib.hid hr
    have z2 : decide ((20000 : Int) < s.size) = true := decide_eq_true (by omega)
    have z2n : decide (20000 < s.size) = true := decide_eq_true (by omega)
    clear hr h0 hbig
    go_enter Tryz.func91, Tryz.ntmps91
    go_wp2
    go_ret
    exact ⟨Below.refl _ _, 0, rfl, HR.out⟩
  have z2 : decide ((20000 : Int) < s.size) = false := decide_eq_false (by omega)
  have z2n : decide (20000 < s.size) = false := decide_eq_false (by omega)
  have HP := Lib.hid (piece_any s w h9 (by omega) (by omega))
  have HK := Lib.hid (fun k n er => kindV_ok s k n er (by omega) (by omega))
  clear h0 hbig
  go_enter Tryz.func91, Tryz.ntmps91
  go_wp2_with fail
  refine HP.out.mono ?_
  rintro e w1 ⟨hb, k, n, er, rfl, h1, h2, h3⟩
  have HV := Lib.hid (HK.out k n er h1 h2 h3)
  have HB := Lib.hid hb
  clear h1 h2 h3 hb HK HP
  by_cases her : er = 0
  · subst her
    by_cases hn : n = s.size
    · subst hn
      by_cases hk : 6 < k
      · have k1 : decide ((6 : Int) < k) = true := decide_eq_true hk
        have hv : kindV k s.size 0 s.size = 0 := by unfold kindV; rw [if_pos (Or.inr (Or.inr hk))]
        have HW := Lib.hid hv
        clear hv hk
        go_wp2
        go_ret
        exact ⟨HB.out.alloc HB.out.size _, 0, rfl, by rw [← HW.out]; exact HV.out⟩
      · have k1 : decide ((6 : Int) < k) = false := decide_eq_false hk
        have hv : kindV k s.size 0 s.size = k := by unfold kindV; rw [if_neg (by simp [hk])]
        have HW := Lib.hid hv
        clear hv hk
        go_wp2
        go_ret
        exact ⟨HB.out.alloc HB.out.size _, k, rfl, by have := HV.out; rw [HW.out] at this; exact this⟩
    · have k1 : (n != (s.size : Int)) = true := by rw [bne_iff_ne]; exact hn
      have hv : kindV k n 0 s.size = 0 := by unfold kindV; rw [if_pos (Or.inr (Or.inl hn))]
      have HW := Lib.hid hv
      clear hv hn
      go_wp2
      go_ret
      exact ⟨HB.out.alloc HB.out.size _, 0, rfl, by rw [← HW.out]; exact HV.out⟩
  · have k1 : (er != 0) = true := by rw [bne_iff_ne]; exact her
    have hv : kindV k n er s.size = 0 := by unfold kindV; rw [if_pos (Or.inl her)]
    have HW := Lib.hid hv
    clear hv her
    go_wp2
    go_ret
    exact ⟨HB.out.alloc HB.out.size _, 0, rfl, by rw [← HW.out]; exact HV.out⟩
end Go.Proofs.YtjnimfnelacceaaGreatDoor
namespace Go.Proofs.YtjnimfnelacceaaGreatDoor
open Go.RowKit

theorem ba_of (a : ByteArray) : a = ⟨a.data.toList.toArray⟩ := by cases a; simp
theorem ba_eq {a : ByteArray} {l : List UInt8} (h : a.data.toList = l) : a = ⟨l.toArray⟩ := by rw [← h]
theorem data_app (a b : ByteArray) : (a ++ b).data.toList = a.data.toList ++ b.data.toList := by rw [ByteArray.data_append, Array.toList_append]
theorem data_ext (s : ByteArray) (a b : Nat) : (s.extract a b).data.toList = (s.data.toList.take b).drop a := by
  rw [ByteArray.data_extract, Array.toList_extract]
  simp [List.extract, List.drop_take]
def nameR (l : List UInt8) : Bool := rkindL l == 1
theorem KindOk.name {l : List UInt8} {v : Int} (h : KindOk l v) : (v == 1) = nameR l := by
  unfold nameR
  rcases h with h | ⟨h, h2⟩
  · rw [h, Bool.eq_iff_iff, beq_iff_eq, beq_iff_eq]; omega
  · rw [h, h2]; rfl
theorem risName_any (s : ByteArray) (w : World) (h9 : 9 ≤ w.heap.size) :
    Calls Tryz.prog 45 #[.string s] w fun e w' => e = .returned (.bool (nameR s.data.toList)) ∧ Below w.heap.size w w' := by
  have HK := Lib.hid (rkind_any s w h9)
  go_enter Tryz.func45, Tryz.ntmps45
  go_wp2_with fail
  refine HK.out.mono ?_
  rintro e w1 ⟨hb, v, rfl, hv⟩
  have hn := hv.name
  have HB := Lib.hid hb
  clear hb hv
  go_wp2
  go_ret
  exact ⟨rfl, HB.out⟩
theorem find64 (s : ByteArray) (hs : s.size ≤ 1100000) (w : World) : Calls Tryz.prog 93 #[.string s, .int .u8 64] w fun e w' => e = .returned (.int .i64 (findN s.data.toList 64 0)) ∧ w' = w := find_any s 64 w hs
def plainR (l : List UInt8) : Bool := nameR l && decide (findN l 64 0 < 0)
theorem risPlain_any (s : ByteArray) (w : World) (h9 : 9 ≤ w.heap.size) (hs : s.size ≤ 1100000) :
    Calls Tryz.prog 92 #[.string s] w fun e w' => e = .returned (.bool (plainR s.data.toList)) ∧ Below w.heap.size w w' := by
  have HN := Lib.hid (risName_any s w h9)
  have HF := Lib.hid (find64 s hs)
  unfold plainR
  generalize nameR s.data.toList = b at *
  generalize findN s.data.toList 64 0 = r at *
  go_enter Tryz.func92, Tryz.ntmps92
  go_wp2_with fail
  refine HN.out.mono ?_
  rintro e w1 ⟨rfl, hb⟩
  have HB := Lib.hid hb
  clear hb
  cases b with
  | false =>
    go_wp2
    go_ret
    exact ⟨rfl, HB.out⟩
  | true =>
    go_wp2_with fail
    refine (HF.out _).mono ?_
    rintro e w2 ⟨rfl, rfl⟩
    go_wp2
    go_ret
    exact ⟨rfl, HB.out⟩

/-- The parts of a name. -/
def splitR (l : List UInt8) : List UInt8 × List UInt8 := if nameR l = false ∨ plainR l = true then (l, []) else (l.take (findN l 64 0).toNat, l.drop ((findN l 64 0).toNat + 1))
set_option maxHeartbeats 4000000 in
theorem rsplit_any (s : ByteArray) (w : World) (h9 : 9 ≤ w.heap.size) (hs : s.size ≤ 1100000) :
    Calls Tryz.prog 46 #[.string s] w fun e w' => e = .returned (.tuple #[.string ⟨(splitR s.data.toList).1.toArray⟩, .string ⟨(splitR s.data.toList).2.toArray⟩]) ∧ Below w.heap.size w w' := by
  have HN := Lib.hid (risName_any s w h9)
  have HP := Lib.hid (fun w h => risPlain_any s w h hs)
  have HF := Lib.hid (find64 s hs)
  have hfa := findN_at 64 s.data.toList 0
  rw [len_data] at hfa
  have hsp : splitR s.data.toList = if nameR s.data.toList = false ∨ plainR s.data.toList = true then (s.data.toList, []) else (s.data.toList.take (findN s.data.toList 64 0).toNat, s.data.toList.drop ((findN s.data.toList 64 0).toNat + 1)) := rfl
  have hpl : plainR s.data.toList = (nameR s.data.toList && decide (findN s.data.toList 64 0 < 0)) := rfl
  generalize splitR s.data.toList = sp at *
  generalize plainR s.data.toList = bp at *
  generalize nameR s.data.toList = b at *
  generalize findN s.data.toList 64 0 = r at *
  cases b with
  | false =>
    rw [if_pos (Or.inl rfl)] at hsp
    subst hsp
    clear hpl hfa
    go_enter Tryz.func46, Tryz.ntmps46
    go_wp2_with fail
    refine HN.out.mono ?_
    rintro e w1 ⟨rfl, hb⟩
    have HB := Lib.hid hb
    clear hb
    go_wp2
    refine bodyPost_ret (v := .tuple #[.string s, .string ⟨#[]⟩]) (by simp [results, Tryz.results46, go_sem]) rfl ⟨rfl, HB.out⟩
  | true =>
    cases bp with
    | true =>
      rw [if_pos (Or.inr rfl)] at hsp
      subst hsp
      clear hpl hfa
      go_enter Tryz.func46, Tryz.ntmps46
      go_wp2_with fail
      refine HN.out.mono ?_
      rintro e w1 ⟨rfl, hb⟩
      have HB := Lib.hid hb
      have hs1 := hb.size
      clear hb
      go_wp2_with fail
      refine (HP.out _ (by omega)).mono ?_
      rintro e w2 ⟨rfl, hb⟩
      have HB2 := Lib.hid (HB.out.trans (hb.mono hs1))
      clear hb hs1
      go_wp2
      refine bodyPost_ret (v := .tuple #[.string s, .string ⟨#[]⟩]) (by simp [results, Tryz.results46, go_sem]) rfl ⟨rfl, HB2.out⟩
    | false =>
      rw [if_neg (by simp)] at hsp
      obtain ⟨j, rfl, hj⟩ : ∃ j : Nat, r = j ∧ j < s.size := by
        rcases hfa with h | ⟨j, h1, h2⟩
        · rw [decide_eq_true h] at hpl; cases hpl
        · exact ⟨j, h1, by omega⟩
      clear hfa hpl
      simp only [Int.toNat_natCast] at hsp
      have h1 : (s.extract 0 j) = ⟨sp.1.toArray⟩ := ba_eq (by rw [data_ext, hsp]; simp)
      have h2 : (s.extract (j + 1) s.size) = ⟨sp.2.toArray⟩ := ba_eq (by rw [data_ext, hsp, ← len_data, List.take_of_length_le (Nat.le_refl _)])
      have H1 := Lib.hid (And.intro h1 h2)
      clear h1 h2 hsp
      have i0 : (0 : Int) ≤ j := by omega
      have i1 : (j : Int) ≤ s.size := by omega
      have i2 : (0 : Int) ≤ (j : Int) + 1 := by omega
      have i3 : (j : Int) + 1 ≤ s.size := by omega
      go_enter Tryz.func46, Tryz.ntmps46
      go_wp2_with fail
      refine HN.out.mono ?_
      rintro e w1 ⟨rfl, hb⟩
      have HB := Lib.hid hb
      have hs1 := hb.size
      clear hb
      go_wp2_with fail
      refine (HP.out _ (by omega)).mono ?_
      rintro e w2 ⟨rfl, hb⟩
      have HB2 := Lib.hid (HB.out.trans (hb.mono hs1))
      clear hb hs1
      go_wp2_with fail
      refine (HF.out _).mono ?_
      rintro e w3 ⟨rfl, rfl⟩
      go_wp2
      go_quiet (fail)
      go_wp2
      refine bodyPost_ret (v := .tuple #[.string (s.extract 0 j), .string (s.extract (j + 1) s.size)]) (by simp [results, Tryz.results46, go_sem]) rfl ⟨by rw [H1.out.1, H1.out.2], below_drewN HB2.out _⟩

def setterT : List UInt8 := [45, 115, 101, 116, 116, 101, 114]
def setS (l : List UInt8) : List UInt8 := (splitR l).1 ++ setterT ++ (if (splitR l).2 = [] then [] else 64 :: (splitR l).2)
def setterR (l : List UInt8) : List UInt8 := if nameR l = false then [] else if nameR (setS l) = false then [] else setS l
theorem splitR_le (l : List UInt8) : (splitR l).1.length ≤ l.length ∧ (splitR l).2.length ≤ l.length := by
  unfold splitR
  split
  · simp
  · simp
    omega
set_option maxHeartbeats 4000000 in
theorem rsetter_any (s : ByteArray) (w : World) (h9 : 9 ≤ w.heap.size) (hs : s.size ≤ 1100000) :
    Calls Tryz.prog 20 #[.string s] w fun e w' => e = .returned (.string ⟨(setterR s.data.toList).toArray⟩) ∧ Below w.heap.size w w' := by
  have HN := Lib.hid (risName_any s w h9)
  have HS := Lib.hid (fun w h => rsplit_any s w h hs)
  have HI := Lib.hid risName_any
  have hle := splitR_le s.data.toList
  rw [len_data] at hle
  have hv : setterR s.data.toList = if nameR s.data.toList = false then [] else if nameR (setS s.data.toList) = false then [] else setS s.data.toList := rfl
  have hr : setS s.data.toList = (splitR s.data.toList).1 ++ setterT ++ (if (splitR s.data.toList).2 = [] then [] else 64 :: (splitR s.data.toList).2) := rfl
  generalize setS s.data.toList = t at *
  generalize setterR s.data.toList = v at *
  generalize splitR s.data.toList = sp at *
  generalize nameR s.data.toList = b at *
  obtain ⟨x, y⟩ := sp
  simp only at hr hle
  cases b with
  | false =>
    rw [if_pos rfl] at hv
    subst hv
    clear hr hle
    go_enter Tryz.func20, Tryz.ntmps20
    go_wp2_with fail
    refine HN.out.mono ?_
    rintro e w1 ⟨rfl, hb⟩
    have HB := Lib.hid hb
    clear hb
    go_wp2
    go_ret
    exact ⟨rfl, HB.out⟩
  | true =>
    rw [if_neg (by simp)] at hv
    have HV := Lib.hid hv
    clear hv
    cases y with
    | nil =>
      rw [if_pos rfl, List.append_nil] at hr
      have ht : (⟨x.toArray⟩ ++ ⟨#[45, 115, 101, 116, 116, 101, 114]⟩ : ByteArray).data.toList = t := by rw [data_app, hr]; rfl
      have HT := Lib.hid ht
      clear ht hr
      go_enter Tryz.func20, Tryz.ntmps20
      go_wp2_with fail
      refine HN.out.mono ?_
      rintro e w1 ⟨rfl, hb⟩
      have HB := Lib.hid hb
      have hs1 := hb.size
      clear hb
      go_wp2_with fail
      refine (HS.out _ (by omega)).mono ?_
      rintro e w2 ⟨rfl, hb⟩
      have HB2 := Lib.hid (HB.out.trans (hb.mono hs1))
      have hs2 := hb.size
      clear hb
      go_wp2_with fail
      have hn := HI.out (⟨x.toArray⟩ ++ ⟨#[45, 115, 101, 116, 116, 101, 114]⟩ : ByteArray) w2 (by omega)
      rw [HT.out] at hn
      have hv := HV.out
      generalize nameR t = b2 at *
      have HX := Lib.hid hn
      clear hn HI
      cases b2 with
      | false =>
        rw [if_pos rfl] at hv
        subst hv
        refine HX.out.mono ?_
        rintro e w3 ⟨rfl, hb⟩
        have HB3 := Lib.hid (HB2.out.trans (hb.mono (by omega)))
        clear hb
        go_wp2
        go_ret
        exact ⟨rfl, HB3.out⟩
      | true =>
        rw [if_neg (by simp)] at hv
        refine HX.out.mono ?_
        rintro e w3 ⟨rfl, hb⟩
        have HB3 := Lib.hid (HB2.out.trans (hb.mono (by omega)))
        have HT2 := Lib.hid (ba_eq (HT.out.trans hv.symm))
        clear hb hv
        go_wp2
        go_ret
        exact ⟨by rw [← HT2.out]; rfl, HB3.out⟩
    | cons c r =>
      rw [if_neg (by simp)] at hr
      have hsz : ¬ 9223372036854775807 < x.length + 7 + 1 + (r.length + 1) := by simp only [List.length_cons] at hle; omega
      have ht : (⟨x.toArray⟩ ++ ⟨#[45, 115, 101, 116, 116, 101, 114]⟩ ++ ⟨#[64]⟩ ++ ⟨(c :: r).toArray⟩ : ByteArray).data.toList = t := by rw [data_app, data_app, data_app, hr]; simp [setterT]
      have HT := Lib.hid ht
      clear ht hr
      go_enter Tryz.func20, Tryz.ntmps20
      go_wp2_with fail
      refine HN.out.mono ?_
      rintro e w1 ⟨rfl, hb⟩
      have HB := Lib.hid hb
      have hs1 := hb.size
      clear hb
      go_wp2_with fail
      refine (HS.out _ (by omega)).mono ?_
      rintro e w2 ⟨rfl, hb⟩
      have HB2 := Lib.hid (HB.out.trans (hb.mono hs1))
      have hs2 := hb.size
      clear hb
      go_wp2_with fail
      have hn := HI.out (⟨x.toArray⟩ ++ ⟨#[45, 115, 101, 116, 116, 101, 114]⟩ ++ ⟨#[64]⟩ ++ ⟨(c :: r).toArray⟩ : ByteArray) w2 (by omega)
      rw [HT.out] at hn
      have hv := HV.out
      generalize nameR t = b2 at *
      have HX := Lib.hid hn
      clear hn HI
      cases b2 with
      | false =>
        rw [if_pos rfl] at hv
        subst hv
        refine HX.out.mono ?_
        rintro e w3 ⟨rfl, hb⟩
        have HB3 := Lib.hid (HB2.out.trans (hb.mono (by omega)))
        clear hb
        go_wp2
        go_ret
        exact ⟨rfl, HB3.out⟩
      | true =>
        rw [if_neg (by simp)] at hv
        refine HX.out.mono ?_
        rintro e w3 ⟨rfl, hb⟩
        have HB3 := Lib.hid (HB2.out.trans (hb.mono (by omega)))
        have HT2 := Lib.hid (ba_eq (HT.out.trans hv.symm))
        clear hb hv
        go_wp2
        go_ret
        exact ⟨by rw [← HT2.out]; rfl, HB3.out⟩
end Go.Proofs.YtjnimfnelacceaaGreatDoor
namespace Go.Proofs.YtjnimfnelacceaaGreatDoor
open Go.RowKit

theorem nameL_ge (l : List UInt8) : plainL l ≤ nameL l := by
  unfold nameL
  split
  · split
    · generalize (decide (0 < runL clsQ _) && _) = c
      cases c <;> simp <;> omega
    · exact Nat.le_refl _
  · exact Nat.le_refl _
theorem pieces_from (l : List UInt8) : ∀ (f : Nat) (c : Cu), ∀ x ∈ (cutL l f c).1, ∃ op, nextL l x.at_ op = .inl (x.kind, x.len)
  | 0, c, x, hx => by cases hx
  | f + 1, c, x, hx => by
    unfold cutL at hx
    split at hx
    · split at hx
      · cases hx
      · rename_i y c' hs
        simp only at hx
        rcases List.mem_cons.1 hx with rfl | hx
        · unfold stepL at hs
          split at hs
          · cases hs
          · rename_i k n hn
            refine ⟨operL c.lk ((l.drop c.la).take c.ll), ?_⟩
            split at hs
            · split at hs
              · cases hs
              · injection hs with hs
                injection hs with h1 h2
                subst h1
                exact hn
            · injection hs with hs
              injection hs with h1 h2
              subst h1
              exact hn
        · exact pieces_from l f c' x hx
    · cases hx
theorem longest_named (t : List UInt8) (op : Bool) (h : 0 < plainL t) : longestL t op = if nameL t < keywordL t then (3, keywordL t) else (1, nameL t) := by
  have h1 := nameL_ge t
  have hn : 0 < nameL t := by omega
  unfold longestL ruleList
  rw [decide_eq_true h]
  simp only [List.foldl_cons, List.foldl_nil, ruleStep]
  simp [hn]
theorem longest_none (t : List UInt8) (op : Bool) (h : plainL t = 0) : (longestL t op).1 ≠ 1 ∧ (longestL t op).1 ≠ 3 := by
  have h1 : nameL t = 0 := by unfold nameL; rw [if_pos h]; exact h
  have h3 : keywordL t = 0 := by unfold keywordL; rw [h]; rfl
  unfold longestL ruleList
  rw [h1, h3, h]
  generalize integerL t op = a
  generalize hashL t = b
  generalize signL t = c
  generalize patternL t = d
  simp only [List.foldl_cons, List.foldl_nil, ruleStep, Nat.lt_irrefl, decide_false, Bool.false_and, Bool.false_eq_true, if_false]
  constructor <;> (repeat' split) <;> simp_all
theorem next_name (l : List UInt8) (op : Bool) (h : 0 < l.length) (h40 : l.length ≤ 100) (hp : 0 < plainL l) : nextL l 0 op =
    match checkL l 0 (longestL l op).1 (longestL l op).2 with
    | none => .inl (longestL l op)
    | some er => .inr er := by
  have h1 := (plainL_to l hp).1.first
  cases l with
  | nil => exact absurd h (Nat.lt_irrefl _)
  | cons b r =>
    rw [byt_cons_zero] at h1
    have hb : b ≠ 47 := by rintro rfl; revert h1; decide
    have hp2 : ∀ x, Lib.hasPrefix ((b :: r).drop 0) (47 :: x) = false := fun x => by
      rw [List.drop_zero]
      show (47 :: x).isPrefixOf (b :: r) = false
      rw [List.isPrefixOf, Bool.and_eq_false_iff]
      exact Or.inl (beq_eq_false_iff_ne.2 (Ne.symm hb))
    have hbl : isBlank (nextB (b :: r) 0) = false := by
      show isBlank b.toNat = false
      cases hx : isBlank b.toNat with
      | false => rfl
      | true =>
        simp only [isBlank, Bool.or_eq_true, beq_iff_eq] at hx
        rcases hx with ((e | e) | e) | e <;> (rw [e] at h1; revert h1; decide)
    unfold nextL
    rw [hp2, hp2, hbl, List.drop_zero, List.take_of_length_le h40]
    rfl
theorem kindL_one (l : List UInt8) (n : Nat) (op : Bool) (h : nextL l 0 op = .inl (n, l.length)) (h0 : l ≠ []) (hn : n ≤ 6) (hl : l.length ≤ 20000) (hop : op = operL 0 ((l.drop 0).take 0)) : kindL l = n := by
  have hpos : 0 < l.length := List.length_pos_iff.2 h0
  have hs : stepL l ⟨0, 0, 0, 0, 0⟩ = .inl (⟨n, 0, l.length⟩, ⟨0 + l.length, n, 0, l.length, 1⟩) := by
    unfold stepL
    simp only
    rw [← hop, h]
    simp only
    rw [if_pos hn]
    rfl
  have hc : piecesL l = ([⟨n, 0, l.length⟩], none) := by
    unfold piecesL
    rw [cutL]
    simp only [hpos, if_true, hs]
    obtain ⟨f, hf⟩ : ∃ f, l.length = f + 1 := ⟨l.length - 1, by omega⟩
    have e : cutL l l.length ⟨0 + l.length, n, 0, l.length, 1⟩ = ([], none) := by
      conv => lhs; arg 2; rw [hf]
      rw [cutL, if_neg (by simp)]
    rw [e]
  unfold kindL singleL
  rw [if_neg (by omega), hc]
  have e2 : toksL l [⟨n, 0, l.length⟩] = [tokOf l ⟨n, 0, l.length⟩] := by
    unfold toksL
    rw [List.filter_cons_of_pos (p := fun p : Pc => decide (p.kind ≤ 6)) (decide_eq_true hn)]
    rfl
  have e3 : (tokOf l ⟨n, 0, l.length⟩).text = l := by
    show (l.drop 0).take l.length = l
    rw [List.drop_zero, List.take_of_length_le (Nat.le_refl _)]
  simp only [e2, e3, if_true]
  rfl
theorem kindL_from (l : List UInt8) (n : Nat) (h : kindL l = n) (h0 : n ≠ 0) : l ≠ [] ∧ ∃ op m, nextL l 0 op = .inl (n, m) ∧ l.length ≤ m := by
  unfold kindL singleL at h
  split at h
  · rename_i t ht
    split at ht
    · cases ht
    · split at ht
      · cases ht
      · split at ht
        · rename_i t' hk
          split at ht
          · rename_i htx
            injection ht with ht
            subst ht
            have hx : ∃ x ∈ (piecesL l).1, tokOf l x = t' := by
              have : t' ∈ toksL l (piecesL l).1 := by rw [hk]; exact List.mem_cons_self
              unfold toksL at this
              obtain ⟨x, hx, e⟩ := List.mem_map.1 this
              exact ⟨x, (List.mem_filter.1 hx).1, e⟩
            obtain ⟨x, hx, e⟩ := hx
            have hne : l ≠ [] := by
              rintro rfl
              cases hx
            refine ⟨hne, ?_⟩
            obtain ⟨op, hop⟩ := pieces_from l _ _ x hx
            have hpos : 0 < l.length := List.length_pos_iff.2 hne
            rw [← e] at htx h
            have hlen := congrArg List.length htx
            simp only [tokOf, List.length_take, List.length_drop] at hlen h
            have hz : x.at_ = 0 := by omega
            rw [hz, h] at hop
            exact ⟨op, x.len, hop, by omega⟩
          · cases ht
        · cases ht
  · exact absurd h.symm h0
theorem kindL_name (l : List UInt8) : kindL l = 1 ↔ l ≠ [] ∧ l.length ≤ 40 ∧ 0 < plainL l ∧ nameL l = l.length := by
  constructor
  · intro h
    obtain ⟨h0, op, m, hn, hm⟩ := kindL_from l 1 h (by decide)
    have hpos : 0 < l.length := List.length_pos_iff.2 h0
    unfold nextL at hn
    split at hn
    · split at hn <;> cases hn
    · split at hn
      · cases hn
      · split at hn
        · rename_i hc
          injection hn with hn
          rw [List.drop_zero] at hn
          unfold checkL at hc
          rw [List.drop_zero, hn] at hc
          simp only at hc
          rw [if_neg (by decide), if_neg (by decide), if_pos (by decide)] at hc
          have h40 : m ≤ 40 := by
            split at hc
            · cases hc
            · omega
          rw [List.take_of_length_le (by omega)] at hn
          have hp : 0 < plainL l := by
            cases hz : plainL l with
            | zero => exact absurd (by rw [hn]) (longest_none l op hz).1
            | succ k => omega
          rw [longest_named l op hp] at hn
          split at hn
          · cases hn
          · injection hn with _ hn
            have := nameL_le l
            exact ⟨h0, by omega, hp, by omega⟩
        · cases hn
  · rintro ⟨h0, h40, hp, hn⟩
    have hpos : 0 < l.length := List.length_pos_iff.2 h0
    refine kindL_one l 1 _ ?_ h0 (by decide) (by omega) rfl
    rw [next_name l _ hpos (by omega) hp, longest_named l _ hp, if_neg (by have := keywordL_le l; omega), hn]
    simp only
    unfold checkL
    rw [if_neg (by decide), if_neg (by decide), if_pos (by decide), if_neg (by omega)]
end Go.Proofs.YtjnimfnelacceaaGreatDoor
namespace Go.Proofs.YtjnimfnelacceaaGreatDoor
open Go.RowKit

theorem head47 (l : List UInt8) (h : comB l = true) : plainL l = 0 := by
  cases l with
  | nil => rfl
  | cons b r =>
    unfold comB at h
    rw [Bool.and_eq_true, Bool.and_eq_true, beq_iff_eq] at h
    have hb : b.toNat = 47 := h.2.1
    show (if clsL b.toNat || clsB b.toNat then _ else 0) = 0
    rw [hb]
    rfl
theorem headBl (l : List UInt8) (h : blankN (byt l 0) = true) : plainL l = 0 := by
  cases l with
  | nil => rfl
  | cons b r =>
    have hb : blankN b.toNat = true := h
    have key : ∀ y : Fin 256, blankN y.val = true → (clsL y.val || clsB y.val) = false := by decide +kernel
    have h1 := key ⟨b.toNat, b.toNat_lt⟩ hb
    simp only at h1
    show (if clsL b.toNat || clsB b.toNat then _ else 0) = 0
    rw [h1]
    rfl
theorem head35 (l : List UInt8) (h : byt l 0 = 35) : plainL l = 0 := by
  cases l with
  | nil => rfl
  | cons b r =>
    have hb : b.toNat = 35 := h
    show (if clsL b.toNat || clsB b.toNat then _ else 0) = 0
    rw [hb]
    rfl
/-- The names of the reference are those of the program. -/
theorem nameR_is (l : List UInt8) : nameR l = (kindL l == 1) := by
  rw [Bool.eq_iff_iff, nameR, beq_iff_eq, beq_iff_eq, kindL_name]
  constructor
  · intro h
    unfold rkindL at h
    split at h
    · cases h
    · rename_i h0
      split at h
      · cases h
      · rename_i h1
        split at h
        · rename_i h2
          simp only [Bool.or_eq_true, beq_iff_eq, not_or, Bool.not_eq_true] at h1
          have hbad := h1.2
          unfold badR at hbad
          have h40 : l.length ≤ 40 := by
            rw [← h2]
            split at hbad
            · cases hbad
            · split at hbad
              · cases hbad
              · rw [h] at hbad
                simp at hbad
                omega
          have hb : bestB l = (1, l.length) := by rw [← h, ← h2]
          have hne : l ≠ [] := fun e => h0 (Or.inl e)
          have := (rname_is l).1 ((best_name l hne (by omega)).1 hb)
          exact ⟨hne, h40, this⟩
        · cases h
  · rintro ⟨hne, h40, h1, h2⟩
    have hb := (best_name l hne (by omega)).2 ((rname_is l).2 ⟨h1, h2⟩)
    unfold rkindL
    rw [if_neg (by rintro (h | h); exact hne h; omega)]
    have c1 : comB l = false := by cases h : comB l with | false => rfl | true => rw [head47 l h] at h1; omega
    have c2 : blankN (byt l 0) = false := by cases h : blankN (byt l 0) with | false => rfl | true => rw [headBl l h] at h1; omega
    have c3 : (byt l 0 == 35) = false := by
      rw [beq_eq_false_iff_ne]
      intro h
      rw [head35 l h] at h1
      omega
    have c4 : badR l = false := by
      unfold badR
      rw [hb, c3]
      simp
      omega
    rw [c1, c2, c4, hb]
    simp
theorem findN_index : ∀ (l : List UInt8) (c : UInt8) (i : Nat), findN l c.toNat i = if Lib.indexByte l c < 0 then -1 else Lib.indexByte l c + i
  | [], c, i => by simp [findN, Lib.indexByte]
  | b :: r, c, i => by
    have ih := findN_index r c (i + 1)
    have hge := (indexByte_lt r c).2
    simp only [findN, Lib.indexByte]
    by_cases h : b = c
    · subst h
      simp
    · rw [if_neg (by intro e; exact h (UInt8.toNat.inj (by omega))), ih]
      have h' : (b == c) = false := beq_eq_false_iff_ne.2 h
      simp only [h', Bool.false_eq_true, if_false]
      by_cases h2 : Lib.indexByte r c = -1
      · rw [h2]; simp
      · have h3 : (Lib.indexByte r c == -1) = false := beq_eq_false_iff_ne.2 h2
        simp only [h3, Bool.false_eq_true, if_false]
        rw [if_neg (by omega), if_neg (by omega)]
        omega
theorem cut64 (l : List UInt8) : Lib.cut l [64] = if findN l 64 0 < 0 then (l, [], false) else (l.take (findN l 64 0).toNat, l.drop ((findN l 64 0).toNat + 1), true) := by
  have h := findN_index l 64 0
  have e : ((64 : UInt8).toNat : Int) = 64 := rfl
  rw [e] at h
  unfold Lib.cut
  rw [Lib.index_one, h]
  by_cases h2 : Lib.indexByte l 64 < 0
  · rw [if_pos h2, if_neg (by omega), if_pos (by decide)]
  · rw [if_neg h2, if_pos (by omega), if_neg (by omega)]
    simp
theorem findN_hit : ∀ (l : List UInt8) (c : Int) (i j : Nat), findN l c i = j → i ≤ j ∧ j < i + l.length ∧ (byt l (j - i) : Int) = c ∧ ∀ k, k < j - i → (byt l k : Int) ≠ c
  | [], c, i, j, h => by simp only [findN] at h; omega
  | b :: r, c, i, j, h => by
    unfold findN at h
    by_cases e : (b.toNat : Int) = c
    · rw [if_pos e] at h
      have : i = j := by omega
      subst this
      refine ⟨Nat.le_refl _, by simp, by simp [byt_cons_zero, e], fun k hk => by omega⟩
    · rw [if_neg e] at h
      obtain ⟨h1, h2, h3, h4⟩ := findN_hit r c (i + 1) j h
      refine ⟨by omega, by simp; omega, ?_, fun k hk => ?_⟩
      · rw [show j - i = (j - (i + 1)) + 1 by omega, byt_cons_succ]; exact h3
      · cases k with
        | zero => rw [byt_cons_zero]; exact e
        | succ k => rw [byt_cons_succ]; exact h4 k (by omega)
theorem nameR_rname (l : List UInt8) (h : nameR l = true) : RName l := by
  rw [nameR_is, beq_iff_eq, kindL_name] at h
  exact (rname_is l).2 h.2.2
def setQ (l : List UInt8) : List UInt8 := (Lib.cut l [64]).1 ++ setterT ++ (if (Lib.cut l [64]).2.2 = true then 64 :: (Lib.cut l [64]).2.1 else [])
def setterP (l : List UInt8) : List UInt8 := if kindL l == 1 then (if kindL (setQ l) == 1 then setQ l else []) else []
theorem setQ_is (l : List UInt8) (h : nameR l = true) : setQ l = setS l := by
  have hr := nameR_rname l h
  unfold setQ setS
  rw [cut64]
  by_cases h1 : findN l 64 0 < 0
  · have hsp : splitR l = (l, []) := by unfold splitR plainR; rw [h, if_pos (by simp [h1])]
    rw [if_pos h1, hsp]
    simp
  · have hsp : splitR l = (l.take (findN l 64 0).toNat, l.drop ((findN l 64 0).toNat + 1)) := by unfold splitR plainR; rw [h, if_neg (by simp [h1])]
    rw [if_neg h1, hsp]
    simp only [if_true]
    rw [if_neg]
    obtain ⟨j, hj⟩ : ∃ j : Nat, findN l 64 0 = j := ⟨(findN l 64 0).toNat, by omega⟩
    obtain ⟨-, h3, h4, h5⟩ := findN_hit l 64 0 j hj
    rw [hj]
    simp only [Int.toNat_natCast, Nat.sub_zero, Nat.zero_add] at *
    have hW : clsW 64 = false := by decide
    have h4' : byt l j = 64 := by omega
    rcases (rname_key l).1 hr with hp | ⟨n, h6, h7, h8, -, -⟩
    · have := hp.all j h3
      rw [h4', hW] at this
      cases this
    · have hjn : j = n := by
        rcases Nat.lt_trichotomy j n with hl | he | hg
        · have := h7.all j hl
          rw [h4', hW] at this
          cases this
        · exact he
        · exact absurd (by omega) (h5 n hg)
      intro e
      have := congrArg List.length e
      simp at this
      omega
theorem setterP_is (l : List UInt8) : setterP l = setterR l := by
  unfold setterP setterR
  rw [← nameR_is, ← nameR_is]
  cases h : nameR l with
  | false => rfl
  | true =>
    rw [setQ_is l h]
    cases nameR (setS l) <;> rfl
end Go.Proofs.YtjnimfnelacceaaGreatDoor
namespace Go.Proofs.YtjnimfnelacceaaGreatDoor
open Go.RowKit

theorem cut_le (l sep : List UInt8) : (Lib.cut l sep).1.length ≤ l.length ∧ (Lib.cut l sep).2.1.length ≤ l.length := by
  unfold Lib.cut
  split
  · simp; omega
  · simp
set_option maxHeartbeats 4000000 in
theorem setter_any (s : ByteArray) (w : World) (hE : Env w) (hs : s.size ≤ 4000000) (h9 : 9 ≤ w.heap.size) :
    Calls Tryz.prog 14 #[.string s] w fun e w' => e = .returned (.string ⟨(setterP s.data.toList).toArray⟩) ∧ Below w.heap.size w w' := by
  have HN := Lib.hid (isName_any s w hE (by unfold maxLen; omega) h9)
  have HI := Lib.hid isName_any
  have HE := Lib.hid hE
  have hle := cut_le s.data.toList [64]
  rw [len_data] at hle
  have hcut : ∀ w', Below w.heap.size w w' → Calls Tryz.prog 37 #[.string s, .string ⟨#[64]⟩] w' fun e w2 => e = .returned (.tuple #[.string ⟨(Lib.cut s.data.toList [64]).1.toArray⟩, .string ⟨(Lib.cut s.data.toList [64]).2.1.toArray⟩, .bool (Lib.cut s.data.toList [64]).2.2]) ∧ ∃ n, w2 = w'.drewN n := by
    intro w' hb
    obtain ⟨m, hm⟩ := (HE.out.below hb).mx
    exact Tryz.strings_Cut s ⟨#[64]⟩ m w' (by omega) hm
  have hr : setQ s.data.toList = (Lib.cut s.data.toList [64]).1 ++ setterT ++ (if (Lib.cut s.data.toList [64]).2.2 = true then 64 :: (Lib.cut s.data.toList [64]).2.1 else []) := rfl
  have hv : setterP s.data.toList = if kindL s.data.toList == 1 then (if kindL (setQ s.data.toList) == 1 then setQ s.data.toList else []) else [] := rfl
  generalize setQ s.data.toList = t at *
  generalize setterP s.data.toList = v at *
  generalize Lib.cut s.data.toList [64] = ct at *
  generalize (kindL s.data.toList == 1) = b at *
  obtain ⟨x, y, is⟩ := ct
  simp only at hr hle hcut
  have HC := Lib.hid hcut
  clear hcut hE
  cases b with
  | false =>
    simp only [Bool.false_eq_true, if_false] at hv
    subst hv
    clear hr hle
    go_enter Tryz.func14, Tryz.ntmps14
    go_wp2_with fail
    refine HN.out.mono ?_
    rintro e w1 ⟨rfl, hb⟩
    have HB := Lib.hid hb
    clear hb
    go_wp2
    go_ret
    exact ⟨rfl, HB.out⟩
  | true =>
    simp only [if_true] at hv
    have HV := Lib.hid hv
    clear hv
    cases is with
    | false =>
      simp only [Bool.false_eq_true, if_false, List.append_nil] at hr
      have ht : (⟨x.toArray⟩ ++ ⟨#[45, 115, 101, 116, 116, 101, 114]⟩ : ByteArray).data.toList = t := by rw [data_app, hr]; rfl
      have hts : (⟨x.toArray⟩ ++ ⟨#[45, 115, 101, 116, 116, 101, 114]⟩ : ByteArray).size ≤ maxLen := by rw [← len_data, ht, hr]; simp [setterT, maxLen]; omega
      have HT := Lib.hid (And.intro ht hts)
      clear ht hr hts
      go_enter Tryz.func14, Tryz.ntmps14
      go_wp2_with fail
      refine HN.out.mono ?_
      rintro e w1 ⟨rfl, hb⟩
      have HB := Lib.hid hb
      clear hb
      go_wp2_with fail
      refine (HC.out _ HB.out).mono ?_
      rintro e w2 ⟨rfl, n, rfl⟩
      go_wp2_with fail
      have hn := HI.out (⟨x.toArray⟩ ++ ⟨#[45, 115, 101, 116, 116, 101, 114]⟩ : ByteArray) (w1.drewN n) (HE.out.below (below_drewN HB.out n)) HT.out.2 (by have := HB.out.size; show 9 ≤ w1.heap.size; omega)
      rw [HT.out.1] at hn
      have hv := HV.out
      generalize (kindL t == 1) = b2 at *
      have HX := Lib.hid hn
      clear hn HI
      cases b2 with
      | false =>
        simp only [Bool.false_eq_true, if_false] at hv
        subst hv
        refine HX.out.mono ?_
        rintro e w3 ⟨rfl, hb⟩
        have HB3 := Lib.hid ((below_drewN HB.out n).trans (hb.mono HB.out.size))
        clear hb
        go_wp2
        go_ret
        exact ⟨rfl, HB3.out⟩
      | true =>
        simp only [if_true] at hv
        refine HX.out.mono ?_
        rintro e w3 ⟨rfl, hb⟩
        have HB3 := Lib.hid ((below_drewN HB.out n).trans (hb.mono HB.out.size))
        have HT2 := Lib.hid (ba_eq (HT.out.1.trans hv.symm))
        clear hb hv
        go_wp2
        go_ret
        exact ⟨by rw [← HT2.out]; rfl, HB3.out⟩
    | true =>
      simp only [if_true] at hr
      have hsz : ¬ 9223372036854775807 < x.length + 7 + (1 + y.length) := by omega
      have hsz2 : ¬ 9223372036854775807 < 1 + y.length := by omega
      have ht : (⟨x.toArray⟩ ++ ⟨#[45, 115, 101, 116, 116, 101, 114]⟩ ++ (⟨#[64]⟩ ++ ⟨y.toArray⟩) : ByteArray).data.toList = t := by rw [data_app, data_app, data_app, hr]; simp [setterT]
      have hts : (⟨x.toArray⟩ ++ ⟨#[45, 115, 101, 116, 116, 101, 114]⟩ ++ (⟨#[64]⟩ ++ ⟨y.toArray⟩) : ByteArray).size ≤ maxLen := by rw [← len_data, ht, hr]; simp [setterT, maxLen]; omega
      have HT := Lib.hid (And.intro ht hts)
      clear ht hr hts
      go_enter Tryz.func14, Tryz.ntmps14
      go_wp2_with fail
      refine HN.out.mono ?_
      rintro e w1 ⟨rfl, hb⟩
      have HB := Lib.hid hb
      clear hb
      go_wp2_with fail
      refine (HC.out _ HB.out).mono ?_
      rintro e w2 ⟨rfl, n, rfl⟩
      go_wp2_with fail
      have hn := HI.out (⟨x.toArray⟩ ++ ⟨#[45, 115, 101, 116, 116, 101, 114]⟩ ++ (⟨#[64]⟩ ++ ⟨y.toArray⟩) : ByteArray) (w1.drewN n) (HE.out.below (below_drewN HB.out n)) HT.out.2 (by have := HB.out.size; show 9 ≤ w1.heap.size; omega)
      rw [HT.out.1] at hn
      have hv := HV.out
      generalize (kindL t == 1) = b2 at *
      have HX := Lib.hid hn
      clear hn HI
      cases b2 with
      | false =>
        simp only [Bool.false_eq_true, if_false] at hv
        subst hv
        refine HX.out.mono ?_
        rintro e w3 ⟨rfl, hb⟩
        have HB3 := Lib.hid ((below_drewN HB.out n).trans (hb.mono HB.out.size))
        clear hb
        go_wp2
        go_ret
        exact ⟨rfl, HB3.out⟩
      | true =>
        simp only [if_true] at hv
        refine HX.out.mono ?_
        rintro e w3 ⟨rfl, hb⟩
        have HB3 := Lib.hid ((below_drewN HB.out n).trans (hb.mono HB.out.size))
        have HT2 := Lib.hid (ba_eq (HT.out.1.trans hv.symm))
        clear hb hv
        go_wp2
        go_ret
        exact ⟨by rw [← HT2.out]; rfl, HB3.out⟩
end Go.Proofs.YtjnimfnelacceaaGreatDoor
