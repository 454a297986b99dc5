/- The next piece. The next piece: a token. The next piece: blanks. The pieces of a text, as lists. -/
import Derived.Test.YtjnimfnelacceaaGreatDoorLot06
set_option linter.unusedSimpArgs false
set_option linter.unusedVariables false
namespace Go.Proofs.YtjnimfnelacceaaGreatDoor
open Go.RowKit

theorem ite_le {c : Prop} [Decidable c] {a b n : Nat} (ha : a ≤ n) (hb : b ≤ n) : (if c then a else b) ≤ n := by split <;> assumption
theorem nameL_le (l : List UInt8) : nameL l ≤ l.length := by
  have hp := plainL_le l
  unfold nameL
  split
  · rename_i c r h
    split at h
    · cases h
    · have hl := congrArg List.length h
      rw [List.length_drop, List.length_cons] at hl
      have := runL_le clsQ r
      refine ite_le (ite_le ?_ ?_) ?_ <;> omega
  · exact hp
theorem integerL_le (l : List UInt8) (b : Bool) : integerL l b ≤ l.length := by
  unfold integerL
  split
  · have := runL_le clsD (l.drop 1)
    rw [List.length_drop] at this
    split <;> omega
  · exact runL_le _ _
theorem keywordL_le (l : List UInt8) : keywordL l ≤ l.length := by
  unfold keywordL
  split
  · rename_i h
    rw [Bool.and_eq_true] at h
    have := colonL_lt h.2
    omega
  · omega
theorem hashL_le (l : List UInt8) : hashL l ≤ l.length := by
  unfold hashL
  split
  · rename_i h
    rw [Bool.or_eq_true] at h
    rcases h with h | h <;> (obtain ⟨r, rfl⟩ := pref2_len h; simp)
  · omega
theorem signL_le (l : List UInt8) : signL l ≤ l.length := by
  unfold signL
  split
  · rename_i h
    rw [List.any_eq_true] at h
    obtain ⟨p, hp, h⟩ := h
    simp only [twos, List.mem_cons, List.not_mem_nil, or_false] at hp
    rcases hp with rfl | rfl | rfl | rfl | rfl | rfl <;> (obtain ⟨r, rfl⟩ := pref2_len h; simp)
  · split
    · omega
    · simp only [List.length_cons]; split <;> omega
theorem pref1_len {l : List UInt8} {a : UInt8} (h : Lib.hasPrefix l [a] = true) : ∃ r, l = a :: r := by
  match l with
  | [] => simp [Lib.hasPrefix, List.isPrefixOf] at h
  | c :: r =>
    simp [Lib.hasPrefix, List.isPrefixOf] at h
    exact ⟨r, by rw [h]⟩
theorem patternL_le (l : List UInt8) : patternL l ≤ l.length := by
  unfold patternL
  split
  · rename_i h
    obtain ⟨r, rfl⟩ := pref1_len h
    simp only [List.drop_succ_cons, List.drop_zero, List.length_cons]
    have h1 := plainL_le r
    split
    · omega
    · split
      · have h2 := plainL_le (r.drop (plainL r + 1))
        rw [List.length_drop] at h2
        rename_i hc
        have h3 := colonL_lt hc
        simp only [List.length_cons] at h3
        split <;> omega
      · omega
  · omega
theorem longestL_le (t : List UInt8) (op : Bool) : (longestL t op).1 ≤ 6 ∧ (longestL t op).2 ≤ t.length := by
  have key : ∀ (rl : List (Nat × Nat)) (a : Nat × Nat), (∀ r ∈ rl, r.1 ≤ 6 ∧ r.2 ≤ t.length) → a.1 ≤ 6 ∧ a.2 ≤ t.length → (rl.foldl (ruleStep (decide (0 < plainL t))) a).1 ≤ 6 ∧ (rl.foldl (ruleStep (decide (0 < plainL t))) a).2 ≤ t.length := by
    intro rl
    induction rl with
    | nil => intro a _ ha; exact ha
    | cons r rs ih =>
      intro a hr ha
      rw [List.foldl_cons]
      refine ih _ (fun x hx => hr x (List.mem_cons_of_mem _ hx)) ?_
      unfold ruleStep
      have := hr r List.mem_cons_self
      split
      · exact ha
      · split
        · exact this
        · exact ha
  refine key _ _ (fun r hr => ?_) ⟨by omega, by omega⟩
  simp only [ruleList, List.mem_cons, List.not_mem_nil, or_false] at hr
  rcases hr with rfl | rfl | rfl | rfl | rfl | rfl
  · exact ⟨by simp, nameL_le _⟩
  · exact ⟨by simp, integerL_le _ _⟩
  · exact ⟨by simp, keywordL_le _⟩
  · exact ⟨by simp, hashL_le _⟩
  · exact ⟨by simp, signL_le _⟩
  · exact ⟨by simp, patternL_le _⟩

def isBlank (x : Nat) : Bool := x == 32 || x == 9 || x == 13 || x == 10
/-- The piece at a place (which is not the end): its kind and length, or an error. -/
def nextL (l : List UInt8) (p : Nat) (op : Bool) : (Nat × Nat) ⊕ Nat :=
  if Lib.hasPrefix (l.drop p) [47, 47] || Lib.hasPrefix (l.drop p) [47, 42] then
    (match commentL (l.drop p) with | .inl n => .inl (8, n) | .inr er => .inr er)
  else if isBlank (nextB l p) then .inl (7, runL isBlank (l.drop p))
  else match checkL l p (longestL ((l.drop p).take 100) op).1 (longestL ((l.drop p).take 100) op).2 with
    | none => .inl (longestL ((l.drop p).take 100) op)
    | some er => .inr er
def endP (p : Nat) : (Nat × Nat) ⊕ Nat → Ending
  | .inl (k, n) => .returned (.agg #[.int .i64 k, .int .i64 p, .int .i64 n])
  | .inr er => .panicked [{ v := wrongV p er, recovered := false }]
theorem blank_is (x : Nat) (hx : x < 256) : ((0 : Int) ≤ Lib.indexByte [32, 9, 13, 10] x.toUInt8) ↔ isBlank x = true := by
  have key : ∀ y : Fin 256, (decide ((0 : Int) ≤ Lib.indexByte [32, 9, 13, 10] y.val.toUInt8)) = isBlank y.val := by decide +kernel
  have := key ⟨x, hx⟩
  simp only at this
  rw [← this, decide_eq_true_eq]
theorem blank_call (x : Nat) (hx : x < 256) (y : Int) (hy : y = x) (w : World) :
    Calls Tryz.prog 145 #[.string ⟨#[32, 9, 13, 10]⟩, .int .u8 y] w fun e w' => e = .returned (.int .i64 (Lib.indexByte [32, 9, 13, 10] x.toUInt8)) ∧ w' = w :=
  byte_is' ⟨#[32, 9, 13, 10]⟩ x _ rfl y hy w

set_option maxRecDepth 100000 in
set_option maxHeartbeats 4000000 in
theorem next_comment (cb tb rb : Nat) (s : ByteArray) (p lk la ll : Nat) (w : World) (h : CutAt w cb tb s p lk la ll) (hp : p < s.size)
    (hc : (Lib.hasPrefix (s.data.toList.drop p) [47, 47] || Lib.hasPrefix (s.data.toList.drop p) [47, 42]) = true) :
    Calls Tryz.prog 148 #[.pointer (some ⟨cb, 0, none⟩), .slice (some ⟨rb, 0, none⟩) 6 6] w fun e w' =>
      e = endP p (match commentL (s.data.toList.drop p) with | .inl n => .inl (8, n) | .inr er => .inr er) ∧ Below w.heap.size w w' := by
  have h1 := h.pos
  have hlt := h.lt
  have hcm := fun w h => comment_any cb tb s p lk la ll w h
  generalize commentL (s.data.toList.drop p) = R at *
  have HM := Lib.hid hcm
  have HC := Lib.hid h
  clear hcm h
  have HCW : ∀ (o o' : Obj) (k : Nat), CutAt (((w.alloc o).alloc o').drewN k) cb tb s p lk la ll := fun o o' k => HC.out.below (below_drewN (((Below.refl _ _).alloc (Nat.le_refl _) _).alloc (by simp) _) k)
  have HCV := Lib.hid HCW
  clear HCW
  cases ha : Lib.hasPrefix (s.data.toList.drop p) [47, 47] <;> rw [ha] at hc
  · simp only [Bool.false_or] at hc
    have HA := Lib.hid ha
    have HB := Lib.hid hc
    clear ha hc
    cases R with
    | inl n =>
      have hm2 : ∀ w, CutAt w cb tb s p lk la ll → Calls Tryz.prog 184 #[.pointer (some ⟨cb, 0, none⟩)] w fun e w' => e = .returned (.int .i64 n) ∧ ∃ n, w' = w.drewN n := HM.out
      have HM2 := Lib.hid hm2
      clear hm2
      go_enter Tryz.func148, Tryz.ntmps148
      go_wp2_with fail
      refine (starts_is cb s ⟨#[47, 47]⟩ p false (by exact HA.out) _ (HCV.out _ _ 0)).mono ?_
      rintro e w' ⟨rfl, m0, rfl⟩
      go_wp2_with fail
      refine (starts_is cb s ⟨#[47, 42]⟩ p true (by exact HB.out) _ (HCV.out _ _ _)).mono ?_
      rintro e w' ⟨rfl, m1, rfl⟩
      go_wp2_with fail
      refine (HM2.out _ (HCV.out _ _ _)).mono ?_
      rintro e w' ⟨rfl, m2, rfl⟩
      go_wp2
      refine bodyPost_ret (v := .agg #[.int .i64 8, .int .i64 p, .int .i64 n]) (by simp [results, Tryz.results148, go_sem]) rfl ⟨rfl, ?_⟩
      repeat (first | with_reducible refine below_drewN ?_ _ | with_reducible refine Below.alloc ?_ (by simp) _ | with_reducible refine Below.setCell ?_ (by simp) _ | with_reducible exact Below.refl _ _)
    | inr er =>
      have hm2 : ∀ w, CutAt w cb tb s p lk la ll → Calls Tryz.prog 184 #[.pointer (some ⟨cb, 0, none⟩)] w fun e w' => e = .panicked [{ v := wrongV p er, recovered := false }] ∧ ∃ n, w' = w.drewN n := HM.out
      have HM2 := Lib.hid hm2
      clear hm2
      go_enter Tryz.func148, Tryz.ntmps148
      go_wp2_with fail
      refine (starts_is cb s ⟨#[47, 47]⟩ p false (by exact HA.out) _ (HCV.out _ _ 0)).mono ?_
      rintro e w' ⟨rfl, m0, rfl⟩
      go_wp2_with fail
      refine (starts_is cb s ⟨#[47, 42]⟩ p true (by exact HB.out) _ (HCV.out _ _ _)).mono ?_
      rintro e w' ⟨rfl, m1, rfl⟩
      go_wp2_with fail
      refine (HM2.out _ (HCV.out _ _ _)).mono ?_
      rintro e w' ⟨rfl, m2, rfl⟩
      refine ⟨rfl, rfl, ?_⟩
      repeat (first | with_reducible refine below_drewN ?_ _ | with_reducible refine Below.alloc ?_ (by simp) _ | with_reducible refine Below.setCell ?_ (by simp) _ | with_reducible exact Below.refl _ _)
  · have HA := Lib.hid ha
    clear ha hc
    cases R with
    | inl n =>
      have hm2 : ∀ w, CutAt w cb tb s p lk la ll → Calls Tryz.prog 184 #[.pointer (some ⟨cb, 0, none⟩)] w fun e w' => e = .returned (.int .i64 n) ∧ ∃ n, w' = w.drewN n := HM.out
      have HM2 := Lib.hid hm2
      clear hm2
      go_enter Tryz.func148, Tryz.ntmps148
      go_wp2_with fail
      refine (starts_is cb s ⟨#[47, 47]⟩ p true (by exact HA.out) _ (HCV.out _ _ 0)).mono ?_
      rintro e w' ⟨rfl, m0, rfl⟩
      go_wp2_with fail
      refine (HM2.out _ (HCV.out _ _ _)).mono ?_
      rintro e w' ⟨rfl, m2, rfl⟩
      go_wp2
      refine bodyPost_ret (v := .agg #[.int .i64 8, .int .i64 p, .int .i64 n]) (by simp [results, Tryz.results148, go_sem]) rfl ⟨rfl, ?_⟩
      repeat (first | with_reducible refine below_drewN ?_ _ | with_reducible refine Below.alloc ?_ (by simp) _ | with_reducible refine Below.setCell ?_ (by simp) _ | with_reducible exact Below.refl _ _)
    | inr er =>
      have hm2 : ∀ w, CutAt w cb tb s p lk la ll → Calls Tryz.prog 184 #[.pointer (some ⟨cb, 0, none⟩)] w fun e w' => e = .panicked [{ v := wrongV p er, recovered := false }] ∧ ∃ n, w' = w.drewN n := HM.out
      have HM2 := Lib.hid hm2
      clear hm2
      go_enter Tryz.func148, Tryz.ntmps148
      go_wp2_with fail
      refine (starts_is cb s ⟨#[47, 47]⟩ p true (by exact HA.out) _ (HCV.out _ _ 0)).mono ?_
      rintro e w' ⟨rfl, m0, rfl⟩
      go_wp2_with fail
      refine (HM2.out _ (HCV.out _ _ _)).mono ?_
      rintro e w' ⟨rfl, m2, rfl⟩
      refine ⟨rfl, rfl, ?_⟩
      repeat (first | with_reducible refine below_drewN ?_ _ | with_reducible refine Below.alloc ?_ (by simp) _ | with_reducible refine Below.setCell ?_ (by simp) _ | with_reducible exact Below.refl _ _)
end Go.Proofs.YtjnimfnelacceaaGreatDoor
namespace Go.Proofs.YtjnimfnelacceaaGreatDoor
open Go.RowKit

set_option maxRecDepth 100000 in
set_option maxHeartbeats 4000000 in
theorem next_token (cb tb rb : Nat) (s : ByteArray) (p lk la ll : Nat) (w : World) (h : CutAt w cb tb s p lk la ll) (hE : Env w) (hR : RulesAt w rb) (hp : p < s.size)
    (hc : (Lib.hasPrefix (s.data.toList.drop p) [47, 47] || Lib.hasPrefix (s.data.toList.drop p) [47, 42]) = false)
    (hb : isBlank (nextB s.data.toList p) = false) (k n : Nat) (hkn : longestL ((s.data.toList.drop p).take 100) (operL lk ((s.data.toList.drop la).take ll)) = (k, n)) :
    Calls Tryz.prog 148 #[.pointer (some ⟨cb, 0, none⟩), .slice (some ⟨rb, 0, none⟩) 6 6] w fun e w' =>
      e = endP p (match checkL s.data.toList p k n with | none => .inl (k, n) | some er => .inr er) ∧ Below w.heap.size w w' := by
  rw [Bool.or_eq_false_iff] at hc
  obtain ⟨ha, hc⟩ := hc
  have h0 := h.text
  have h1 := h.pos
  have hlt := h.lt
  have hsz := h.size
  have p0 : (0 : Int) ≤ p := by omega
  have p1 : (p : Int) < s.size := by omega
  have hlong := fun w h hR => longest_any cb tb rb s p lk la ll w h hR
  rw [hkn] at hlong
  have hle := longestL_le ((s.data.toList.drop p).take 100) (operL lk ((s.data.toList.drop la).take ll))
  rw [hkn, List.length_take, List.length_drop, len_data] at hle
  have hk6 : k ≤ 6 := hle.1
  have hn : p + n ≤ s.size := by have := hle.2; simp only at this; omega
  have hcheck := fun w h hE => check_any cb tb s p lk la ll k n w h hE hk6 hn
  have hbb := nextB_lt s.data.toList p
  have hbs := nextB_some s p hp
  have hbl := blank_call (nextB s.data.toList p) hbb (s[p].toNat : Int) (by rw [hbs])
  have hbi : ¬ ((0 : Int) ≤ Lib.indexByte [32, 9, 13, 10] (nextB s.data.toList p).toUInt8) := by rw [blank_is _ hbb, hb]; simp
  generalize Lib.indexByte [32, 9, 13, 10] (nextB s.data.toList p).toUInt8 = r at *
  generalize checkL s.data.toList p k n = R at *
  have HA := Lib.hid ha
  have HB := Lib.hid hc
  have HBL := Lib.hid hbl
  have HBS := Lib.hid hbs
  have HL := Lib.hid hlong
  have HK := Lib.hid hcheck
  have HC := Lib.hid h
  have HR := Lib.hid hR
  have HE := Lib.hid hE
  clear ha hc hbl hbs hlong hcheck h hR hE hb hkn hle hbb
  have HBW : ∀ (o o' : Obj) (k : Nat), Below w.heap.size w (((w.alloc o).alloc o').drewN k) := fun o o' k => below_drewN (((Below.refl _ _).alloc (Nat.le_refl _) _).alloc (by simp) _) k
  have HCV := Lib.hid HBW
  clear HBW
  go_enter Tryz.func148, Tryz.ntmps148
  go_wp2_with fail
  refine (starts_is cb s ⟨#[47, 47]⟩ p false (by exact HA.out) _ (HC.out.below (HCV.out _ _ 0))).mono ?_
  rintro e w' ⟨rfl, m0, rfl⟩
  go_wp2_with fail
  refine (starts_is cb s ⟨#[47, 42]⟩ p false (by exact HB.out) _ (HC.out.below (HCV.out _ _ _))).mono ?_
  rintro e w' ⟨rfl, m1, rfl⟩
  go_wp2
  go_quiet ((refine (HBL.out _).mono ?_; rintro e w' ⟨rfl, rfl⟩; exact ⟨rfl, _, rfl⟩))
  go_wp2_with fail
  refine (HL.out _ (HC.out.below (HCV.out _ _ _)) (HR.out.below (HCV.out _ _ _))).mono ?_
  rintro e w' ⟨rfl, hX⟩
  have HX := Lib.hid (below_then (HCV.out _ _ _) hX)
  have z0 : w'.frozen? ⟨w.heap.size, 0, none⟩ = false := (hX.frozen (p := ⟨w.heap.size, 0, none⟩) (by simp; omega)).trans (by simp [go_sem])
  have z3 : w'.frozen? ⟨w.heap.size, 1, none⟩ = false := (hX.frozen (p := ⟨w.heap.size, 1, none⟩) (by simp; omega)).trans (by simp [go_sem])
  have z4 : w'.frozen? ⟨w.heap.size, 2, none⟩ = false := (hX.frozen (p := ⟨w.heap.size, 2, none⟩) (by simp; omega)).trans (by simp [go_sem])
  have z1 : w'.frozen? ⟨w.heap.size + 1, 0, none⟩ = false := (hX.frozen (p := ⟨w.heap.size + 1, 0, none⟩) (by simp)).trans (by simp [go_sem])
  have z2 : w'.frozen? ⟨w.heap.size + 1, 2, none⟩ = false := (hX.frozen (p := ⟨w.heap.size + 1, 2, none⟩) (by simp)).trans (by simp [go_sem])
  have q0 : w'.cell? ⟨w.heap.size, 0, none⟩ = some (.int .i64 0) := below_cell hX (by simp [go_sem])
  have q1 : w'.cell? ⟨w.heap.size, 1, none⟩ = some (.int .i64 0) := below_cell hX (by simp [go_sem])
  have q2 : w'.cell? ⟨w.heap.size, 2, none⟩ = some (.int .i64 0) := below_cell hX (by simp [go_sem])
  have r0 : w'.cell? ⟨w.heap.size + 1, 0, none⟩ = some (.int .i64 0) := below_cell hX (by simp [go_sem])
  have r1 : w'.cell? ⟨w.heap.size + 1, 1, none⟩ = some (.int .i64 p) := below_cell hX (by simp [go_sem])
  have r2 : w'.cell? ⟨w.heap.size + 1, 2, none⟩ = some (.int .i64 0) := below_cell hX (by simp [go_sem])
  clear hX
  have hY : Below w.heap.size w ((w'.setCell ⟨w.heap.size + 1, 0, none⟩ (.int .i64 k)).setCell ⟨w.heap.size + 1, 2, none⟩ (.int .i64 n)) := Below.setCell (Below.setCell HX.out (by simp) _) (by simp) _
  have HY := Lib.hid hY
  clear hY
  cases R with
  | none =>
    have hk2 : ∀ w, CutAt w cb tb s p lk la ll → Env w → Calls Tryz.prog 186 #[.pointer (some ⟨cb, 0, none⟩), .int .i64 k, .int .i64 n] w fun e w' => e = .returned (.tuple #[]) ∧ Below w.heap.size w w' := HK.out
    have HK2 := Lib.hid hk2
    clear hk2
    go_wp2_with fail
    refine (HK2.out _ (HC.out.below HY.out) (HE.out.below HY.out)).mono ?_
    rintro e w'' ⟨rfl, hZ⟩
    have HZ := Lib.hid (below_then HY.out hZ)
    have y0 : w''.frozen? ⟨w.heap.size, 0, none⟩ = false := (hZ.frozen (p := ⟨w.heap.size, 0, none⟩) (by simp [World.block_lt_of_cell? _ _ q0])).trans (by simp [go_sem, z0])
    have y1 : w''.frozen? ⟨w.heap.size, 1, none⟩ = false := (hZ.frozen (p := ⟨w.heap.size, 1, none⟩) (by simp [World.block_lt_of_cell? _ _ q1])).trans (by simp [go_sem, z3])
    have y2 : w''.frozen? ⟨w.heap.size, 2, none⟩ = false := (hZ.frozen (p := ⟨w.heap.size, 2, none⟩) (by simp [World.block_lt_of_cell? _ _ q2])).trans (by simp [go_sem, z4])
    have q0 : w''.cell? ⟨w.heap.size, 0, none⟩ = some (.int .i64 0) := below_cell hZ (by simp [go_sem, q0])
    have q1 : w''.cell? ⟨w.heap.size, 1, none⟩ = some (.int .i64 0) := below_cell hZ (by simp [go_sem, q1])
    have q2 : w''.cell? ⟨w.heap.size, 2, none⟩ = some (.int .i64 0) := below_cell hZ (by simp [go_sem, q2])
    have r0 : w''.cell? ⟨w.heap.size + 1, 0, none⟩ = some (.int .i64 k) := below_cell hZ (by simp [go_sem, r0])
    have r1 : w''.cell? ⟨w.heap.size + 1, 1, none⟩ = some (.int .i64 p) := below_cell hZ (by simp [go_sem, r1])
    have r2 : w''.cell? ⟨w.heap.size + 1, 2, none⟩ = some (.int .i64 n) := below_cell hZ (by simp [go_sem, r2])
    clear hZ
    go_wp2
    refine bodyPost_ret (v := .agg #[.int .i64 k, .int .i64 p, .int .i64 n]) (by simp [results, Tryz.results148, go_sem, *]) rfl ⟨rfl, ?_⟩
    have := HZ.out
    repeat (first | with_reducible refine below_drewN ?_ _ | with_reducible refine Below.alloc ?_ (by simp) _ | with_reducible refine Below.setCell ?_ (by simp) _ | with_reducible exact Below.refl _ _)
    exact this
  | some er =>
    have hk2 : ∀ w, CutAt w cb tb s p lk la ll → Env w → Calls Tryz.prog 186 #[.pointer (some ⟨cb, 0, none⟩), .int .i64 k, .int .i64 n] w fun e w' => e = .panicked [{ v := wrongV p er, recovered := false }] ∧ Below w.heap.size w w' := HK.out
    have HK2 := Lib.hid hk2
    clear hk2
    go_wp2_with fail
    refine (HK2.out _ (HC.out.below HY.out) (HE.out.below HY.out)).mono ?_
    rintro e w'' ⟨rfl, hZ⟩
    exact ⟨rfl, rfl, below_then HY.out hZ⟩
end Go.Proofs.YtjnimfnelacceaaGreatDoor
namespace Go.Proofs.YtjnimfnelacceaaGreatDoor
open Go.RowKit

/-- A piece under way: the result's cells in block b, the piece's in the next. -/
structure PieceAt (w : World) (b p kind n : Nat) : Prop where
  q0 : w.cell? ⟨b, 0, none⟩ = some (.int .i64 0)
  q1 : w.cell? ⟨b, 1, none⟩ = some (.int .i64 0)
  q2 : w.cell? ⟨b, 2, none⟩ = some (.int .i64 0)
  r0 : w.cell? ⟨b + 1, 0, none⟩ = some (.int .i64 kind)
  r1 : w.cell? ⟨b + 1, 1, none⟩ = some (.int .i64 p)
  r2 : w.cell? ⟨b + 1, 2, none⟩ = some (.int .i64 n)
  y0 : w.frozen? ⟨b, 0, none⟩ = false
  y1 : w.frozen? ⟨b, 1, none⟩ = false
  y2 : w.frozen? ⟨b, 2, none⟩ = false
  z2 : w.frozen? ⟨b + 1, 2, none⟩ = false
def lenOf (w : World) (b : Nat) : Nat := match w.cell? ⟨b + 1, 2, none⟩ with | some (.int _ i) => i.toNat | _ => 0
theorem PieceAt.lenOf {w : World} {b p kind n : Nat} (h : PieceAt w b p kind n) : lenOf w b = n := by unfold Proofs.YtjnimfnelacceaaGreatDoor.lenOf; rw [h.r2]; simp
theorem runL_cons (f : Nat → Bool) (c : UInt8) (r : List UInt8) : runL f (c :: r) = if f c.toNat then 1 + runL f r else 0 := by
  unfold runL; rw [List.takeWhile_cons]; split <;> simp [Nat.add_comm]
theorem runL_nil (f : Nat → Bool) : runL f [] = 0 := rfl

set_option maxRecDepth 100000 in
set_option maxHeartbeats 4000000 in
theorem next_blank (cb tb rb : Nat) (s : ByteArray) (p lk la ll : Nat) (w : World) (h : CutAt w cb tb s p lk la ll) (hp : p < s.size)
    (hc : (Lib.hasPrefix (s.data.toList.drop p) [47, 47] || Lib.hasPrefix (s.data.toList.drop p) [47, 42]) = false)
    (hb : isBlank (nextB s.data.toList p) = true) :
    Calls Tryz.prog 148 #[.pointer (some ⟨cb, 0, none⟩), .slice (some ⟨rb, 0, none⟩) 6 6] w fun e w' =>
      e = endP p (.inl (7, runL isBlank (s.data.toList.drop p))) ∧ Below w.heap.size w w' := by
  rw [Bool.or_eq_false_iff] at hc
  obtain ⟨ha, hc⟩ := hc
  have h0 := h.text
  have h1 := h.pos
  have hlt := h.lt
  have hsz := h.size
  have p0 : (0 : Int) ≤ p := by omega
  have p1 : (p : Int) < s.size := by omega
  have hbb := nextB_lt s.data.toList p
  have hbs := nextB_some s p hp
  have hbl := blank_call (nextB s.data.toList p) hbb (s[p].toNat : Int) (by rw [hbs])
  have hbi : ((0 : Int) ≤ Lib.indexByte [32, 9, 13, 10] (nextB s.data.toList p).toUInt8) := by rw [blank_is _ hbb, hb]
  generalize Lib.indexByte [32, 9, 13, 10] (nextB s.data.toList p).toUInt8 = r at *
  have hrun : ∃ N, runL isBlank (s.data.toList.drop p) = N := ⟨_, rfl⟩
  obtain ⟨N, hN⟩ := hrun
  rw [hN]
  have HN := Lib.hid hN
  have HA := Lib.hid ha
  have HB := Lib.hid hc
  have HBL := Lib.hid hbl
  have HBS := Lib.hid hbs
  have HC := Lib.hid h
  clear ha hc hbl hbs h hb hbb hN
  have HBW : ∀ (o o' : Obj) (k : Nat), Below w.heap.size w (((w.alloc o).alloc o').drewN k) := fun o o' k => below_drewN (((Below.refl _ _).alloc (Nat.le_refl _) _).alloc (by simp) _) k
  have HCV := Lib.hid HBW
  clear HBW
  go_enter Tryz.func148, Tryz.ntmps148
  go_wp2_with fail
  refine (starts_is cb s ⟨#[47, 47]⟩ p false (by exact HA.out) _ (HC.out.below (HCV.out _ _ 0))).mono ?_
  rintro e w' ⟨rfl, m0, rfl⟩
  go_wp2_with fail
  refine (starts_is cb s ⟨#[47, 42]⟩ p false (by exact HB.out) _ (HC.out.below (HCV.out _ _ _))).mono ?_
  rintro e w' ⟨rfl, m1, rfl⟩
  go_wp2
  go_quiet ((refine (HBL.out _).mono ?_; rintro e w' ⟨rfl, rfl⟩; exact ⟨rfl, _, rfl⟩))
  go_wp2_with fail
  go_loopw [90] (fun _ wr => ∃ k : Nat, p + k ≤ s.size ∧ Hid (k + runL isBlank (s.data.toList.drop (p + k)) = N) ∧ Hid (PieceAt wr w.heap.size p 7 k) ∧ Hid (Below w.heap.size w wr)) (fun _ wr => s.size - lenOf wr w.heap.size)
  case atStart =>
    refine ⟨0, by omega, Lib.hid (by rw [Nat.zero_add]; exact HN.out), Lib.hid (by constructor <;> simp [go_sem]), Lib.hid ?_⟩
    repeat (first | with_reducible refine below_drewN ?_ _ | with_reducible refine Below.alloc ?_ (by simp) _ | with_reducible refine Below.setCell ?_ (by simp) _ | with_reducible exact Below.refl _ _)
  case round =>
    obtain ⟨k, hk, HK, HP, HW⟩ := hrel
    have r2 := HP.out.r2
    have h0 := (HC.out.below HW.out).text
    have h1 := (HC.out.below HW.out).pos
    have z2 := HP.out.z2
    have r0 := HP.out.r0
    have r1 := HP.out.r1
    have q0 := HP.out.q0
    have q1 := HP.out.q1
    have q2 := HP.out.q2
    have y0 := HP.out.y0
    have y1 := HP.out.y1
    have y2 := HP.out.y2
    by_cases hl : p + k < s.size
    · have d1 : decide ((k : Int) < s.size - p) = true := by simp; omega
      have d2 : (0 : Int) ≤ (p : Int) + k := by omega
      have d3 : (p : Int) + k < s.size := by omega
      have hbb := nextB_lt s.data.toList (p + k)
      have hbs := nextB_some s (p + k) hl
      have hbl := blank_call (nextB s.data.toList (p + k)) hbb (s[p + k].toNat : Int) (by rw [hbs])
      have hbi := blank_is (nextB s.data.toList (p + k)) hbb
      generalize Lib.indexByte [32, 9, 13, 10] (nextB s.data.toList (p + k)).toUInt8 = r' at *
      have HK2 := HK.out
      rw [drop_data s (p + k) hl, runL_cons, ← hbs] at HK2
      have HBL2 := Lib.hid hbl
      cases hx : isBlank (nextB s.data.toList (p + k))
      · have e1 : decide ((0 : Int) ≤ r') = false := by rw [decide_eq_false_iff_not, hbi, hx]; simp
        rw [hx] at HK2
        have HK3 := Lib.hid HK2
        clear hx hbi HK2 hbs hbl hbb HBL
        go_wp2
        go_quiet ((refine (HBL2.out _).mono ?_; rintro e w' ⟨rfl, rfl⟩; exact ⟨rfl, _, rfl⟩))
        have hkn := HK3.out
        rw [if_neg (by simp), Nat.add_zero] at hkn
        subst hkn
        go_wp2
        refine bodyPost_ret (v := .agg #[.int .i64 7, .int .i64 p, .int .i64 k]) (by simp [results, Tryz.results148, go_sem, *]) rfl ⟨rfl, ?_⟩
        repeat (first | with_reducible refine below_drewN ?_ _ | with_reducible refine Below.alloc ?_ (by simp) _ | with_reducible refine Below.setCell ?_ (by simp) _ | with_reducible exact Below.refl _ _)
        exact HW.out
      · have e1 : decide ((0 : Int) ≤ r') = true := by rw [decide_eq_true_iff, hbi, hx]
        rw [hx] at HK2
        have HK3 := Lib.hid HK2
        clear hx hbi HK2 hbs hbl hbb HBL
        go_wp2
        go_quiet ((refine (HBL2.out _).mono ?_; rintro e w' ⟨rfl, rfl⟩; exact ⟨rfl, _, rfl⟩))
        go_wp2_with fail
        have hP2 : PieceAt ((wr.drewN nq).setCell ⟨w.heap.size + 1, 2, none⟩ (.int .i64 ((k : Int) + 1))) w.heap.size p 7 (k + 1) := by
          constructor <;> simp [go_sem, *]
        refine ⟨⟨k + 1, by omega, Lib.hid ?_, Lib.hid hP2, Lib.hid ?_⟩, ?_⟩
        · have := HK3.out; rw [if_pos trivial] at this; rw [← Nat.add_assoc p k 1]; omega
        · (repeat (first | with_reducible refine below_drewN ?_ _ | with_reducible refine Below.alloc ?_ (by simp) _ | with_reducible refine Below.setCell ?_ (by simp) _ | with_reducible exact Below.refl _ _)); exact HW.out
        · rw [hP2.lenOf, HP.out.lenOf]; omega
    · have d1 : decide ((k : Int) < s.size - p) = false := by simp; omega
      have hkn := HK.out
      rw [List.drop_of_length_le (by rw [len_data]; omega), runL_nil, Nat.add_zero] at hkn
      subst hkn
      go_wp2
      go_quiet (fail)
      go_wp2
      refine bodyPost_ret (v := .agg #[.int .i64 7, .int .i64 p, .int .i64 k]) (by simp [results, Tryz.results148, go_sem, *]) rfl ⟨rfl, ?_⟩
      repeat (first | with_reducible refine below_drewN ?_ _ | with_reducible refine Below.alloc ?_ (by simp) _ | with_reducible refine Below.setCell ?_ (by simp) _ | with_reducible exact Below.refl _ _)
      exact HW.out

theorem next_any (cb tb rb : Nat) (s : ByteArray) (p lk la ll : Nat) (w : World) (h : CutAt w cb tb s p lk la ll) (hE : Env w) (hR : RulesAt w rb) (hp : p < s.size) :
    Calls Tryz.prog 148 #[.pointer (some ⟨cb, 0, none⟩), .slice (some ⟨rb, 0, none⟩) 6 6] w fun e w' =>
      e = endP p (nextL s.data.toList p (operL lk ((s.data.toList.drop la).take ll))) ∧ Below w.heap.size w w' := by
  unfold nextL
  by_cases hc : (Lib.hasPrefix (s.data.toList.drop p) [47, 47] || Lib.hasPrefix (s.data.toList.drop p) [47, 42]) = true
  · rw [if_pos hc]
    exact next_comment cb tb rb s p lk la ll w h hp hc
  · rw [if_neg hc]
    have hc := Bool.eq_false_iff.2 hc
    by_cases hb : isBlank (nextB s.data.toList p) = true
    · rw [if_pos hb]
      exact next_blank cb tb rb s p lk la ll w h hp hc hb
    · rw [if_neg hb]
      have := next_token cb tb rb s p lk la ll w h hE hR hp hc (Bool.eq_false_iff.2 hb) _ _ rfl
      exact this
end Go.Proofs.YtjnimfnelacceaaGreatDoor
namespace Go.Proofs.YtjnimfnelacceaaGreatDoor
open Go.RowKit

theorem cL_bounds : ∀ (l : List UInt8) (i : Nat) (o : Int) (n : Nat), cL l i o = .inl n → i + 2 ≤ n ∧ n ≤ i + l.length
  | [], _, _, _, h => by simp [cL] at h
  | [_], _, _, _, h => by simp [cL] at h
  | a :: b :: r, i, o, n, h => by
    rw [cL] at h
    simp only [List.length_cons]
    split at h
    · split at h
      · cases h
      · have := cL_bounds r _ _ _ h; omega
    · split at h
      · split at h
        · injection h with h; omega
        · have := cL_bounds r _ _ _ h; omega
      · have := cL_bounds (b :: r) _ _ _ h
        simp only [List.length_cons] at this
        omega
theorem commentL_bounds {l : List UInt8} {n : Nat} (h : (Lib.hasPrefix l [47, 47] || Lib.hasPrefix l [47, 42]) = true) (hn : commentL l = .inl n) : 0 < n ∧ n ≤ l.length := by
  unfold commentL at hn
  split at hn
  · rename_i hp
    obtain ⟨r, rfl⟩ := pref2_len hp
    split at hn
    · rename_i hi
      injection hn with hn
      have h1 := indexByte_lt (47 :: 47 :: r) 10
      have h2 : Lib.indexByte (47 :: 47 :: r) 10 ≠ 0 := by
        intro h0
        rw [Lib.indexByte, if_neg (by decide)] at h0
        split at h0
        · omega
        · have := indexByte_lt (47 :: r) 10
          rename_i hx
          simp only [beq_iff_eq] at hx
          omega
      omega
    · injection hn with hn
      subst hn
      simp
  · have := cL_bounds _ _ _ _ hn
    omega
theorem longestL_pos {t : List UInt8} {op : Bool} (h : (longestL t op).1 ≠ 0) : 0 < (longestL t op).2 := by
  have key : ∀ (nm : Bool) (rl : List (Nat × Nat)) (a : Nat × Nat), (a.1 ≠ 0 → 0 < a.2) → (rl.foldl (ruleStep nm) a).1 ≠ 0 → 0 < (rl.foldl (ruleStep nm) a).2 := by
    intro nm rl
    induction rl with
    | nil => intro a ha; exact ha
    | cons r rs ih =>
      intro a ha
      rw [List.foldl_cons]
      refine ih _ ?_
      unfold ruleStep
      split
      · exact ha
      · split
        · intro _; omega
        · exact ha
  exact key _ _ (0, 0) (fun h => absurd rfl h) h
theorem blank_runL_pos {l : List UInt8} {p : Nat} (hp : p < l.length) (h : isBlank (nextB l p) = true) : 0 < runL isBlank (l.drop p) := by
  unfold nextB at h
  cases hd : l.drop p with
  | nil =>
    have := congrArg List.length hd
    rw [List.length_drop, List.length_nil] at this
    omega
  | cons b r =>
    rw [hd] at h
    rw [runL_cons, if_pos h]
    omega
theorem nextL_bounds {l : List UInt8} {p : Nat} {op : Bool} {k n : Nat} (hp : p < l.length) (h : nextL l p op = .inl (k, n)) : 0 < n ∧ p + n ≤ l.length ∧ k ≤ 8 := by
  unfold nextL at h
  split at h
  · rename_i hc
    cases hm : commentL (l.drop p) with
    | inl m =>
      rw [hm] at h
      injection h with h
      injection h with h1 h2
      have := commentL_bounds hc hm
      rw [List.length_drop] at this
      omega
    | inr er => rw [hm] at h; cases h
  · split at h
    · rename_i hb
      injection h with h
      injection h with h1 h2
      have h3 := blank_runL_pos hp hb
      have h4 := runL_le isBlank (l.drop p)
      rw [List.length_drop] at h4
      omega
    · split at h
      · rename_i hk
        injection h with h
        have hle := longestL_le ((l.drop p).take 100) op
        have hpos := longestL_pos (t := (l.drop p).take 100) (op := op)
        rw [h] at hle hpos hk
        simp only [List.length_take, List.length_drop] at hle hpos hk
        have hk0 : k ≠ 0 := by
          rintro rfl
          unfold checkL at hk
          simp at hk
          split at hk <;> cases hk
        have := hpos hk0
        omega
      · cases h

/-- A piece: kind, place, length. -/
structure Pc where
  kind : Nat
  at_ : Nat
  len : Nat
/-- What the cutter has to know: the place, the last token, how many tokens. -/
structure Cu where
  p : Nat
  lk : Nat
  la : Nat
  ll : Nat
  n : Nat
/-- One piece: the piece and what the cutter knows behind it; or the error there. -/
def stepL (l : List UInt8) (c : Cu) : (Pc × Cu) ⊕ Nat :=
  match nextL l c.p (operL c.lk ((l.drop c.la).take c.ll)) with
  | .inr er => .inr er
  | .inl (k, n) => if k ≤ 6 then (if 6000 < c.n + 1 then .inr 2 else .inl (⟨k, c.p, n⟩, ⟨c.p + n, k, c.p, n, c.n + 1⟩)) else .inl (⟨k, c.p, n⟩, ⟨c.p + n, c.lk, c.la, c.ll, c.n⟩)
def goodCu (l : List UInt8) (c : Cu) : Prop := c.p ≤ l.length ∧ c.la + c.ll ≤ l.length ∧ c.n ≤ c.p
theorem stepL_good {l : List UInt8} {c c' : Cu} {x : Pc} (hg : goodCu l c) (hp : c.p < l.length) (h : stepL l c = .inl (x, c')) :
    goodCu l c' ∧ c.p < c'.p ∧ x.at_ = c.p ∧ c'.p = c.p + x.len ∧ x.kind ≤ 8 := by
  unfold stepL at h
  split at h
  · cases h
  · rename_i k n hn
    have hb := nextL_bounds hp hn
    unfold goodCu at *
    split at h
    · split at h
      · cases h
      · injection h with h
        injection h with h1 h2
        subst h1 h2
        simp only
        refine ⟨⟨?_, ?_, ?_⟩, ?_, ?_, ?_, ?_⟩ <;> first | omega | trivial
    · injection h with h
      injection h with h1 h2
      subst h1 h2
      simp only
      refine ⟨⟨?_, ?_, ?_⟩, ?_, ?_, ?_, ?_⟩ <;> first | omega | trivial
/-- The pieces from a place on, behind those that have come; and the error, with its place. -/
def cutL (l : List UInt8) : Nat → Cu → List Pc × Option (Nat × Nat)
  | 0, _ => ([], none)
  | f + 1, c =>
    if c.p < l.length then
      match stepL l c with
      | .inr er => ([], some (c.p, er))
      | .inl (x, c') => (x :: (cutL l f c').1, (cutL l f c').2)
    else ([], none)
/-- The pieces of a text, or the error. -/
def piecesL (l : List UInt8) : List Pc × Option (Nat × Nat) := cutL l (l.length + 1) ⟨0, 0, 0, 0, 0⟩
end Go.Proofs.YtjnimfnelacceaaGreatDoor
