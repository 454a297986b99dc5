/- The names that the reference takes, in plain words. -/
import Derived.Test.YtjnimfnelacceaaGreatDoorLot37
set_option linter.unusedSimpArgs false
set_option linter.unusedVariables false
namespace Go.Proofs.YtjnimfnelacceaaGreatDoor
open Go.RowKit

/-- The first n bytes are a plain name. -/
structure PlainTo (l : List UInt8) (n : Nat) : Prop where
  pos : 0 < n
  first : (clsL (byt l 0) || clsB (byt l 0)) = true
  all : ∀ j, j < n → clsW (byt l j) = true
  letter : ∃ j, j < n ∧ clsL (byt l j) = true
  last : clsF (byt l (n - 1)) = true
theorem cls_LW {x : Nat} (h : clsL x = true) : clsW x = true := by simp [clsW, h]
theorem cls_LF {x : Nat} (h : clsL x = true) : clsF x = true := by
  simp only [clsF, cls_LW h, Bool.true_and]
  simp only [clsL, Bool.and_eq_true, decide_eq_true_eq] at h
  simp [clsOf]; omega
theorem cls_FW {x : Nat} (h : clsF x = true) : clsW x = true := by simp only [clsF, Bool.and_eq_true] at h; exact h.1
theorem cls_BW {x : Nat} (h : clsB x = true) : clsW x = true := by
  simp only [clsB, clsOf, List.contains_eq_mem, List.mem_cons, List.not_mem_nil, or_false, decide_eq_true_eq] at h
  rcases h with rfl | rfl | rfl | rfl | rfl <;> decide
theorem cls_BL {x : Nat} (h : clsB x = true) : clsL x = false := by
  simp only [clsB, clsOf, List.contains_eq_mem, List.mem_cons, List.not_mem_nil, or_false, decide_eq_true_eq] at h
  rcases h with rfl | rfl | rfl | rfl | rfl <;> decide
theorem rowP_is (l : List UInt8) (c : Nat) (A : Nat → Bool) (i : Nat) : rowP l c A i = true ↔ 0 < i ∧ A (i - 1) = true ∧ inCls c (byt l (i - 1)) = true := by
  cases i with
  | zero => simp [rowP]
  | succ i => simp [rowP]
theorem rowS_is (l : List UInt8) (c : Nat) (A : Nat → Bool) : ∀ i : Nat, rowS l c A i = true ↔ ∃ j, j ≤ i ∧ A j = true ∧ ∀ k, j ≤ k → k < i → inCls c (byt l k) = true
  | 0 => by
    simp only [rowS]
    constructor
    · intro h; exact ⟨0, Nat.le_refl _, h, fun k _ hk => absurd hk (Nat.not_lt_zero _)⟩
    · rintro ⟨j, hj, h, -⟩
      have : j = 0 := by omega
      subst this; exact h
  | i + 1 => by
    simp only [rowS, Bool.or_eq_true, Bool.and_eq_true, rowS_is l c A i]
    constructor
    · rintro (h | ⟨⟨j, hj, h, hk⟩, hc⟩)
      · exact ⟨i + 1, Nat.le_refl _, h, fun k h1 h2 => by omega⟩
      · refine ⟨j, by omega, h, fun k h1 h2 => ?_⟩
        by_cases e : k = i
        · subst e; exact hc
        · exact hk k h1 (by omega)
    · rintro ⟨j, hj, h, hk⟩
      by_cases e : j = i + 1
      · subst e; exact Or.inl h
      · exact Or.inr ⟨⟨j, by omega, h, fun k h1 h2 => hk k h1 (by omega)⟩, hk i (by omega) (by omega)⟩
theorem run1 (l : List UInt8) (A : Nat → Bool) : runP l [76] A = rowP l 76 A := rfl
theorem run2 (l : List UInt8) (A : Nat → Bool) : runP l [76, 87, 42, 70] A = rowP l 70 (rowS l 87 (rowP l 76 A)) := rfl
theorem run3 (l : List UInt8) (A : Nat → Bool) : runP l [66, 87, 42, 76] A = rowP l 76 (rowS l 87 (rowP l 66 A)) := rfl
theorem run4 (l : List UInt8) (A : Nat → Bool) : runP l [66, 87, 42, 76, 87, 42, 70] A = rowP l 70 (rowS l 87 (rowP l 76 (rowS l 87 (rowP l 66 A)))) := rfl
theorem runQ (l : List UInt8) (n : List UInt8) (hn : n ∈ plainT) (A : Nat → Bool) : runP l (n ++ [64, 65, 81, 42]) A = rowS l 81 (rowP l 65 (rowP l 64 (runP l n A))) := by
  simp only [plainT, List.mem_cons, List.not_mem_nil, or_false] at hn
  rcases hn with rfl | rfl | rfl | rfl <;> rfl
theorem in76 (b : Nat) : inCls 76 b = clsL b := rfl
theorem in87 (b : Nat) : inCls 87 b = clsW b := rfl
theorem in70 (b : Nat) : inCls 70 b = clsF b := rfl
theorem in66 (b : Nat) : inCls 66 b = clsB b := rfl
theorem in81 (b : Nat) : inCls 81 b = clsQ b := rfl
theorem in65 (b : Nat) : inCls 65 b = (clsL b || clsD b) := rfl
theorem in64 (b : Nat) : inCls 64 b = (b == 64) := rfl
/-- One of the patterns of plain names takes just n bytes. -/
theorem plain_takes (l : List UInt8) (n : Nat) : (∃ p ∈ plainT, runP l p (fun i => i == 0) n = true) ↔ PlainTo l n := by
  constructor
  · rintro ⟨p, hp, h⟩
    simp only [plainT, List.mem_cons, List.not_mem_nil, or_false] at hp
    rcases hp with rfl | rfl | rfl | rfl
    · rw [run1, rowP_is, in76, beq_iff_eq] at h
      obtain ⟨h1, h2, h3⟩ := h
      have e : n = 1 := by omega
      subst e
      refine ⟨by omega, by rw [show byt l 0 = byt l (1 - 1) from rfl, h3]; rfl, fun j hj => ?_, ⟨0, by omega, h3⟩, cls_LF h3⟩
      have : j = 0 := by omega
      subst this
      exact cls_LW h3
    · rw [run2, rowP_is, in70, rowS_is] at h
      obtain ⟨h1, ⟨j, h2, h3, h4⟩, h5⟩ := h
      rw [rowP_is, in76, beq_iff_eq] at h3
      obtain ⟨h6, h7, h8⟩ := h3
      have e : j = 1 := by omega
      subst e
      refine ⟨by omega, by rw [show byt l 0 = byt l (1 - 1) from rfl, h8]; rfl, fun k hk => ?_, ⟨0, by omega, h8⟩, h5⟩
      by_cases e1 : k = n - 1
      · subst e1; exact cls_FW h5
      · by_cases e2 : k = 0
        · subst e2; exact cls_LW h8
        · exact h4 k (by omega) (by omega)
    · rw [run3, rowP_is, in76, rowS_is] at h
      obtain ⟨h1, ⟨j, h2, h3, h4⟩, h5⟩ := h
      rw [rowP_is, in66, beq_iff_eq] at h3
      obtain ⟨h6, h7, h8⟩ := h3
      have e : j = 1 := by omega
      subst e
      refine ⟨by omega, by rw [show byt l 0 = byt l (1 - 1) from rfl, h8]; simp, fun k hk => ?_, ⟨n - 1, by omega, h5⟩, cls_LF h5⟩
      by_cases e1 : k = n - 1
      · subst e1; exact cls_LW h5
      · by_cases e2 : k = 0
        · subst e2; exact cls_BW h8
        · exact h4 k (by omega) (by omega)
    · rw [run4, rowP_is, in70, rowS_is] at h
      obtain ⟨h1, ⟨j, h2, h3, h4⟩, h5⟩ := h
      rw [rowP_is, in76, rowS_is] at h3
      obtain ⟨h6, ⟨i, h7, h8, h9⟩, h10⟩ := h3
      rw [rowP_is, in66, beq_iff_eq] at h8
      obtain ⟨h11, h12, h13⟩ := h8
      have e : i = 1 := by omega
      subst e
      refine ⟨by omega, by rw [show byt l 0 = byt l (1 - 1) from rfl, h13]; simp, fun k hk => ?_, ⟨j - 1, by omega, h10⟩, h5⟩
      by_cases e1 : k = n - 1
      · subst e1; exact cls_FW h5
      · by_cases e2 : k = 0
        · subst e2; exact cls_BW h13
        · by_cases e3 : k = j - 1
          · subst e3; exact cls_LW h10
          · by_cases e4 : k < j - 1
            · exact h9 k (by omega) e4
            · exact h4 k (by omega) (by omega)
  · intro h
    have h0 := h.pos
    cases hL : clsL (byt l 0) with
    | true =>
      by_cases e : n = 1
      · subst e
        exact ⟨_, List.mem_cons_self, by rw [run1, rowP_is, in76]; exact ⟨by omega, rfl, hL⟩⟩
      · refine ⟨[76, 87, 42, 70], by decide, ?_⟩
        rw [run2, rowP_is, in70, rowS_is]
        refine ⟨h0, ⟨1, by omega, ?_, fun k _ hk => h.all k (by omega)⟩, h.last⟩
        rw [rowP_is, in76]
        exact ⟨by omega, rfl, hL⟩
    | false =>
      have hB : clsB (byt l 0) = true := by have := h.first; rw [hL] at this; exact this
      obtain ⟨j, hj, hl⟩ := h.letter
      have hj0 : j ≠ 0 := by intro e; subst e; rw [hL] at hl; cases hl
      by_cases e : j = n - 1
      · subst e
        refine ⟨[66, 87, 42, 76], by decide, ?_⟩
        rw [run3, rowP_is, in76, rowS_is]
        refine ⟨h0, ⟨1, by omega, ?_, fun k _ hk => h.all k (by omega)⟩, hl⟩
        rw [rowP_is, in66]
        exact ⟨by omega, rfl, hB⟩
      · refine ⟨[66, 87, 42, 76, 87, 42, 70], by decide, ?_⟩
        rw [run4, rowP_is, in70, rowS_is]
        refine ⟨h0, ⟨j + 1, by omega, ?_, fun k _ hk => h.all k (by omega)⟩, h.last⟩
        rw [rowP_is, in76, rowS_is]
        refine ⟨by omega, ⟨1, by omega, ?_, fun k _ hk => h.all k (by omega)⟩, hl⟩
        rw [rowP_is, in66]
        exact ⟨by omega, rfl, hB⟩

theorem byt_cons_zero (b : UInt8) (r : List UInt8) : byt (b :: r) 0 = b.toNat := rfl
theorem byt_cons_succ (b : UInt8) (r : List UInt8) (i : Nat) : byt (b :: r) (i + 1) = byt r i := by simp [byt]
theorem plainAux_is : ∀ (t : List UInt8) (i : Nat) (lt : Bool) (n : Nat), n ≤ i →
    (plainAux t i lt n = n ∨ ∃ k, k < t.length ∧ plainAux t i lt n = i + k + 1 ∧ clsF (byt t k) = true ∧ (lt = true ∨ ∃ j, j ≤ k ∧ clsL (byt t j) = true)) ∧
    n ≤ plainAux t i lt n ∧ ∀ k, k < t.length → clsF (byt t k) = true → (lt = true ∨ ∃ j, j ≤ k ∧ clsL (byt t j) = true) → i + k + 1 ≤ plainAux t i lt n
  | [], i, lt, n, h => ⟨Or.inl rfl, Nat.le_refl _, fun k hk => absurd hk (Nat.not_lt_zero _)⟩
  | b :: r, i, lt, n, h => by
    simp only [plainAux]
    have hm : (if lt || clsL b.toNat then (if clsF b.toNat then i + 1 else n) else n) ≤ i + 1 ∧ n ≤ (if lt || clsL b.toNat then (if clsF b.toNat then i + 1 else n) else n) := by
      split
      · split <;> omega
      · omega
    obtain ⟨h1, h2, h3⟩ := plainAux_is r (i + 1) (lt || clsL b.toNat) (if lt || clsL b.toNat then (if clsF b.toNat then i + 1 else n) else n) hm.1
    refine ⟨?_, Nat.le_trans hm.2 h2, fun k hk hf hl => ?_⟩
    · rcases h1 with h1 | ⟨k, hk, h4, h5, h6⟩
      · rw [h1]
        by_cases c1 : (lt || clsL b.toNat) = true
        · by_cases c2 : clsF b.toNat = true
          · rw [if_pos c1, if_pos c2]
            refine Or.inr ⟨0, by simp, rfl, by rw [byt_cons_zero]; exact c2, ?_⟩
            rcases Bool.or_eq_true _ _ ▸ c1 with c | c
            · exact Or.inl c
            · exact Or.inr ⟨0, Nat.le_refl _, by rw [byt_cons_zero]; exact c⟩
          · rw [if_pos c1, if_neg c2]; exact Or.inl rfl
        · rw [if_neg c1]; exact Or.inl rfl
      · refine Or.inr ⟨k + 1, by simp; omega, by rw [h4]; omega, by rw [byt_cons_succ]; exact h5, ?_⟩
        rcases h6 with h6 | ⟨j, hj, h7⟩
        · rcases Bool.or_eq_true _ _ ▸ h6 with c | c
          · exact Or.inl c
          · exact Or.inr ⟨0, by omega, by rw [byt_cons_zero]; exact c⟩
        · exact Or.inr ⟨j + 1, by omega, by rw [byt_cons_succ]; exact h7⟩
    · cases k with
      | zero =>
        rw [byt_cons_zero] at hf
        have c1 : (lt || clsL b.toNat) = true := by
          rcases hl with c | ⟨j, hj, hl⟩
          · simp [c]
          · have : j = 0 := by omega
            subst this
            rw [byt_cons_zero] at hl
            simp [hl]
        rw [if_pos c1, if_pos hf] at h2
        rw [if_pos c1, if_pos hf]
        omega
      | succ k =>
        rw [byt_cons_succ] at hf
        have := h3 k (by simp at hk; omega) hf (by
          rcases hl with c | ⟨j, hj, hl⟩
          · exact Or.inl (by simp [c])
          · cases j with
            | zero => rw [byt_cons_zero] at hl; exact Or.inl (by simp [hl])
            | succ j => rw [byt_cons_succ] at hl; exact Or.inr ⟨j, by omega, hl⟩)
        omega
theorem byt_take (f : UInt8 → Bool) : ∀ (l : List UInt8) (k : Nat), k < (l.takeWhile f).length → byt (l.takeWhile f) k = byt l k
  | [], k, h => absurd h (Nat.not_lt_zero _)
  | b :: r, k, h => by
    by_cases c : f b = true
    · rw [List.takeWhile_cons_of_pos c] at h ⊢
      cases k with
      | zero => rfl
      | succ k => rw [byt_cons_succ, byt_cons_succ]; exact byt_take f r k (by simp at h; omega)
    · rw [List.takeWhile_cons_of_neg c] at h; exact absurd h (Nat.not_lt_zero _)
theorem take_all (f : Nat → Bool) : ∀ (l : List UInt8) (n : Nat), n ≤ l.length → ((∀ j, j < n → f (byt l j) = true) ↔ n ≤ (l.takeWhile fun b => f b.toNat).length)
  | [], n, h => by simp at h; subst h; simp
  | b :: r, n, h => by
    by_cases c : f b.toNat = true
    · rw [List.takeWhile_cons_of_pos (p := fun b : UInt8 => f b.toNat) c]
      cases n with
      | zero => simp
      | succ n =>
        have := take_all f r n (by simp at h; omega)
        rw [List.length_cons, Nat.add_le_add_iff_right, ← this]
        constructor
        · intro g j hj; have := g (j + 1) (by omega); rw [byt_cons_succ] at this; exact this
        · intro g j hj
          cases j with
          | zero => exact c
          | succ j => rw [byt_cons_succ]; exact g j (by omega)
    · rw [List.takeWhile_cons_of_neg (p := fun b : UInt8 => f b.toNat) c]
      cases n with
      | zero => simp
      | succ n =>
        simp only [List.length_nil, Nat.le_zero_eq, Nat.add_one_ne_zero, iff_false]
        intro g
        exact c (g 0 (by omega))
theorem plainL_to (l : List UInt8) (h : 0 < plainL l) : PlainTo l (plainL l) ∧ plainL l ≤ l.length := by
  cases l with
  | nil => exact absurd h (Nat.lt_irrefl _)
  | cons b r =>
    have hd : plainL (b :: r) = if clsL b.toNat || clsB b.toNat then plainAux ((b :: r).takeWhile fun b => clsW b.toNat) 0 false 0 else 0 := rfl
    by_cases c : (clsL b.toNat || clsB b.toNat) = true
    · rw [if_pos c] at hd
      obtain ⟨h1, h2, h3⟩ := plainAux_is ((b :: r).takeWhile fun b => clsW b.toNat) 0 false 0 (Nat.le_refl _)
      rw [← hd] at h1
      rcases h1 with h1 | ⟨k, hk, h4, h5, h6⟩
      · omega
      · have hk2 : k + 1 ≤ (b :: r).length := Nat.le_trans hk (List.takeWhile_sublist _).length_le
        have hall := (take_all clsW (b :: r) (k + 1) hk2).2 hk
        rw [byt_take _ _ _ hk] at h5
        have e : plainL (b :: r) = k + 1 := by omega
        rw [e]
        refine ⟨⟨by omega, c, hall, ?_, h5⟩, hk2⟩
        rcases h6 with h6 | ⟨j, hj, h6⟩
        · cases h6
        · rw [byt_take _ _ _ (by omega)] at h6
          exact ⟨j, by omega, h6⟩
    · rw [if_neg c] at hd; omega
theorem plainL_max (l : List UInt8) (n : Nat) (hn : n ≤ l.length) (h : PlainTo l n) : n ≤ plainL l := by
  have hp := h.pos
  cases l with
  | nil => simp at hn; omega
  | cons b r =>
    have hd : plainL (b :: r) = if clsL b.toNat || clsB b.toNat then plainAux ((b :: r).takeWhile fun b => clsW b.toNat) 0 false 0 else 0 := rfl
    have hf := h.first
    rw [byt_cons_zero] at hf
    rw [if_pos hf] at hd
    obtain ⟨-, -, h3⟩ := plainAux_is ((b :: r).takeWhile fun b => clsW b.toNat) 0 false 0 (Nat.le_refl _)
    rw [← hd] at h3
    have hall := (take_all clsW (b :: r) n hn).1 h.all
    obtain ⟨j, hj, hl⟩ := h.letter
    have := h3 (n - 1) (by omega) (by rw [byt_take _ _ _ (by omega)]; exact h.last) (Or.inr ⟨j, by omega, by rw [byt_take _ _ _ (by omega)]; exact hl⟩)
    omega
theorem drop_byt (l : List UInt8) (n : Nat) (h : n < l.length) : ∃ c, l.drop n = c :: l.drop (n + 1) ∧ c.toNat = byt l n := by
  refine ⟨l[n], (List.drop_eq_getElem_cons h), ?_⟩
  simp [byt, List.getD, List.getElem?_eq_getElem h]
theorem byt_drop (l : List UInt8) (n k : Nat) : byt (l.drop n) k = byt l (n + k) := by
  simp [byt, List.getD, List.getElem?_drop]
/-- A whole name, as the reference takes it. -/
def RName (l : List UInt8) : Prop := ∃ p ∈ plainT, runP l p (fun i => i == 0) l.length = true ∨ runP l (p ++ [64, 65, 81, 42]) (fun i => i == 0) l.length = true
theorem clsA_is (x : Nat) : (clsL x || clsD x) = true ↔ clsQ x = true ∧ x ≠ 45 := by
  constructor
  · intro h
    refine ⟨by simp only [clsQ, h, Bool.true_or], ?_⟩
    rintro rfl
    revert h
    decide
  · rintro ⟨h, hn⟩
    simp only [clsQ, Bool.or_eq_true, beq_iff_eq] at h
    rcases h with h | h
    · simpa using h
    · exact absurd h hn
theorem rname_key (l : List UInt8) : RName l ↔ PlainTo l l.length ∨ ∃ n, n + 1 < l.length ∧ PlainTo l n ∧ byt l n = 64 ∧ (clsL (byt l (n + 1)) || clsD (byt l (n + 1))) = true ∧ ∀ k, n + 1 < k → k < l.length → clsQ (byt l k) = true := by
  constructor
  · rintro ⟨p, hp, h | h⟩
    · exact Or.inl ((plain_takes l _).1 ⟨p, hp, h⟩)
    · right
      rw [runQ l p hp, rowS_is] at h
      obtain ⟨j, h1, h2, h3⟩ := h
      rw [rowP_is, rowP_is, in65, in64, beq_iff_eq] at h2
      obtain ⟨h4, ⟨h5, h6, h7⟩, h8⟩ := h2
      have hpl := (plain_takes l _).1 ⟨p, hp, h6⟩
      have := hpl.pos
      refine ⟨j - 1 - 1, by omega, hpl, h7, ?_, fun k h9 h10 => h3 k (by omega) h10⟩
      rw [show j - 1 - 1 + 1 = j - 1 by omega]
      exact h8
  · rintro (h | ⟨n, h1, h2, h3, h4, h5⟩)
    · obtain ⟨p, hp, h⟩ := (plain_takes l _).2 h
      exact ⟨p, hp, Or.inl h⟩
    · obtain ⟨p, hp, h⟩ := (plain_takes l _).2 h2
      refine ⟨p, hp, Or.inr ?_⟩
      rw [runQ l p hp, rowS_is]
      refine ⟨n + 2, by omega, ?_, fun k hk1 hk2 => h5 k (by omega) hk2⟩
      rw [rowP_is, rowP_is, in65, in64, beq_iff_eq]
      exact ⟨by omega, ⟨by omega, h, h3⟩, h4⟩
theorem rname_is (l : List UInt8) : RName l ↔ 0 < plainL l ∧ nameL l = l.length := by
  rw [rname_key]
  constructor
  · rintro (h | ⟨n, h1, h2, h3, h4, h5⟩)
    · have h6 := plainL_max l _ (Nat.le_refl _) h
      have h7 := h.pos
      have h8 := (plainL_to l (by omega)).2
      refine ⟨by omega, ?_⟩
      unfold nameL
      rw [if_neg (by omega), List.drop_of_length_le (by omega)]
      show plainL l = l.length
      omega
    · have h6 := plainL_max l n (by omega) h2
      have h7 := h2.pos
      have h8 := plainL_to l (by omega)
      have e : plainL l = n := by
        by_cases c : n < plainL l
        · have := h8.1.all n c
          rw [h3] at this
          exact absurd this (by decide)
        · omega
      refine ⟨by omega, ?_⟩
      unfold nameL
      rw [if_neg (by omega), e]
      obtain ⟨c, hc, hc2⟩ := drop_byt l n (by omega)
      obtain ⟨d, hdd, hd2⟩ := drop_byt l (n + 1) (by omega)
      have hq : runL clsQ (l.drop (n + 1)) = l.length - (n + 1) := by
        have := (take_all clsQ (l.drop (n + 1)) (l.length - (n + 1)) (by simp)).1 (fun j hj => by
          rw [byt_drop]
          cases j with
          | zero => exact ((clsA_is _).1 h4).1
          | succ j => exact h5 _ (by omega) (by omega))
        have h9 : ((l.drop (n + 1)).takeWhile fun b => clsQ b.toNat).length ≤ (l.drop (n + 1)).length := (List.takeWhile_sublist _).length_le
        simp only [List.length_drop] at h9
        unfold runL
        omega
      rw [hc]
      simp only
      have c64 : (c == 64) = true := by rw [beq_iff_eq]; apply UInt8.toNat.inj; rw [hc2, h3]; rfl
      rw [if_pos c64, hq]
      have d45 : (d != 45) = true := by
        rw [bne_iff_ne]
        rintro rfl
        rw [← hd2] at h4
        revert h4
        decide
      rw [if_pos]
      · omega
      · rw [Bool.and_eq_true, decide_eq_true_eq]
        refine ⟨by omega, ?_⟩
        rw [hdd]
        exact d45
  · rintro ⟨h1, h2⟩
    have h3 := plainL_to l h1
    unfold nameL at h2
    rw [if_neg (by omega)] at h2
    by_cases c : plainL l < l.length
    · right
      obtain ⟨b, hb, hb2⟩ := drop_byt l _ c
      rw [hb] at h2
      simp only at h2
      by_cases c64 : (b == 64) = true
      · rw [if_pos c64] at h2
        obtain ⟨m, hm⟩ : ∃ m : Bool, m = (match l.drop (plainL l + 1) with | d :: _ => d != 45 | [] => false) := ⟨_, rfl⟩
        have h2' : (if (decide (0 < runL clsQ (l.drop (plainL l + 1))) && m) = true then plainL l + 1 + runL clsQ (l.drop (plainL l + 1)) else plainL l) = l.length := by rw [hm]; exact h2
        clear h2
        by_cases c2 : (decide (0 < runL clsQ (l.drop (plainL l + 1))) && m) = true
        · rw [if_pos c2] at h2'
          rw [Bool.and_eq_true, decide_eq_true_eq] at c2
          have hr : ((l.drop (plainL l + 1)).takeWhile fun b => clsQ b.toNat).length = l.length - (plainL l + 1) := by unfold runL at h2'; omega
          have hall := (take_all clsQ (l.drop (plainL l + 1)) (l.length - (plainL l + 1)) (by simp)).2 (by omega)
          have hlt : plainL l + 1 < l.length := by unfold runL at c2; omega
          obtain ⟨d, hdd, hd2⟩ := drop_byt l _ hlt
          have c3 := c2.2
          rw [hm, hdd] at c3
          simp only [bne_iff_ne] at c3
          refine ⟨plainL l, hlt, h3.1, ?_, ?_, fun k h4 h5 => ?_⟩
          · rw [← hb2, beq_iff_eq.1 c64]; rfl
          · rw [clsA_is]
            refine ⟨by have := hall 0 (by omega); rw [byt_drop] at this; exact this, ?_⟩
            rw [← hd2]
            intro e
            exact c3 (UInt8.toNat.inj e)
          · have := hall (k - (plainL l + 1)) (by omega)
            rw [byt_drop, show plainL l + 1 + (k - (plainL l + 1)) = k by omega] at this
            exact this
        · rw [if_neg c2] at h2'; omega
      · rw [if_neg c64] at h2; omega
    · left
      have : plainL l = l.length := by omega
      rw [← this]
      exact h3.1
theorem first_takes (l p : List UInt8) (hp : p ∈ plainT) (n : Nat) (h : runP l p (fun i => i == 0) n = true) : inCls (byt p 0) (byt l 0) = true := by
  simp only [plainT, List.mem_cons, List.not_mem_nil, or_false] at hp
  rcases hp with rfl | rfl | rfl | rfl
  · rw [run1, rowP_is, beq_iff_eq] at h
    obtain ⟨-, h2, h3⟩ := h
    rw [h2] at h3; exact h3
  · rw [run2, rowP_is, rowS_is] at h
    obtain ⟨-, ⟨j, -, h3, -⟩, -⟩ := h
    rw [rowP_is, beq_iff_eq] at h3
    obtain ⟨-, h7, h8⟩ := h3
    rw [h7] at h8; exact h8
  · rw [run3, rowP_is, rowS_is] at h
    obtain ⟨-, ⟨j, -, h3, -⟩, -⟩ := h
    rw [rowP_is, beq_iff_eq] at h3
    obtain ⟨-, h7, h8⟩ := h3
    rw [h7] at h8; exact h8
  · rw [run4, rowP_is, rowS_is] at h
    obtain ⟨-, ⟨j, -, h3, -⟩, -⟩ := h
    rw [rowP_is, rowS_is] at h3
    obtain ⟨-, ⟨i, -, h8, -⟩, -⟩ := h3
    rw [rowP_is, beq_iff_eq] at h8
    obtain ⟨-, h12, h13⟩ := h8
    rw [h12] at h13; exact h13
theorem first_app (p q : List UInt8) (hp : p ∈ plainT) : byt (p ++ q) 0 = byt p 0 := by
  simp only [plainT, List.mem_cons, List.not_mem_nil, or_false] at hp
  rcases hp with rfl | rfl | rfl | rfl <;> rfl
theorem lastT_ge (A : Nat → Bool) : ∀ (n k : Nat), k ≤ n → A k = true → k ≤ lastT A n
  | 0, k, h, _ => by omega
  | n + 1, k, h, ha => by
    unfold lastT
    split
    · exact h
    · rename_i hn
      by_cases e : k = n + 1
      · subst e; exact absurd ha hn
      · exact lastT_ge A n k (by omega) ha
theorem lastT_at (A : Nat → Bool) : ∀ n, 0 < lastT A n → A (lastT A n) = true
  | 0, h => absurd h (Nat.lt_irrefl _)
  | n + 1, h => by
    unfold lastT at h ⊢
    split
    · assumption
    · rename_i hn
      rw [if_neg hn] at h
      exact lastT_at A n h
theorem longP_full (p l : List UInt8) (hl : l ≠ []) (h1 : inCls (byt p 0) (byt l 0) = true) (h2 : runP l p (fun i => i == 0) l.length = true) : longP p l = l.length := by
  unfold longP
  rw [if_neg hl, if_neg (by rw [h1]; decide)]
  have := lastT_ge _ l.length l.length (Nat.le_refl _) h2
  have := lastT_le (runP l p fun i => i == 0) l.length
  omega
theorem longP_pos (p l : List UInt8) (hl : l ≠ []) (h1 : inCls (byt p 0) (byt l 0) = true) (n : Nat) (h0 : 0 < n) (hn : n ≤ l.length) (h2 : runP l p (fun i => i == 0) n = true) : 0 < longP p l := by
  unfold longP
  rw [if_neg hl, if_neg (by rw [h1]; decide)]
  have := lastT_ge _ l.length n hn h2
  omega
theorem longP_takes (p l : List UInt8) (h : longP p l = l.length) (hl : l ≠ []) : runP l p (fun i => i == 0) l.length = true := by
  have hpos : 0 < l.length := List.length_pos_iff.2 hl
  unfold longP at h
  rw [if_neg hl] at h
  split at h
  · omega
  · rw [← h]
    exact lastT_at _ _ (by omega)
theorem lonB_short (p l : List UInt8) (h : l.length ≤ 100) : lonB p l = longP p l := by
  unfold lonB
  rw [List.take_of_length_le h]
theorem rules1 : ∀ r ∈ rulesT, r.1 = 1 → ∃ p ∈ plainT, r.2 = p ∨ r.2 = p ++ [64, 65, 81, 42] := by decide
theorem rules1' : ∀ p ∈ plainT, (1, p) ∈ rulesT ∧ (1, p ++ [64, 65, 81, 42]) ∈ rulesT := by decide
theorem rulesK : ∀ r ∈ rulesT, 0 < r.1 := by decide
theorem rules_len : rulesT.length = 36 := by decide
theorem signs_len : signsT.length = 26 := by decide
theorem ruleTo_all (nm : Bool) (l : List UInt8) : ruleTo nm l 36 = rulesT.foldl (bestStep nm l) (0, 0) := by unfold ruleTo; rw [List.take_of_length_le (by rw [rules_len]; omega)]
theorem signTo_all (l : List UInt8) (o : Nat × Nat) : signTo l o 26 = signsT.foldl (signStep l) o := by unfold signTo; rw [List.take_of_length_le (by rw [signs_len]; omega)]
theorem nameTo_all (l : List UInt8) : nameTo l 4 = true ↔ ∃ p ∈ plainT, 0 < lonB p l := by
  unfold nameTo
  rw [List.take_of_length_le (by decide), List.any_eq_true]
  simp only [decide_eq_true_eq]
/-- What a fold over rules has: a rule that is allowed, or nothing. -/
theorem rules_fold (nm : Bool) (l : List UInt8) : ∀ (rs : List (Nat × List UInt8)) (o : Nat × Nat),
    (rs.foldl (bestStep nm l) o = o ∨ ∃ r ∈ rs, rs.foldl (bestStep nm l) o = (r.1, lonB r.2 l) ∧ allowB r.1 r.2 l = true ∧ (nm = true → r.1 = 1 ∨ r.1 = 3))
  | [], o => Or.inl rfl
  | r :: rs, o => by
    rw [List.foldl_cons]
    rcases rules_fold nm l rs (bestStep nm l o r) with h | ⟨x, hx, h1, h2⟩
    · rw [h]
      unfold bestStep
      split
      · exact Or.inl rfl
      · rename_i hn
        split
        · simp only [Bool.or_eq_true, Bool.and_eq_true, Bool.not_eq_true', not_or, Bool.not_eq_false, bne_iff_ne, ne_eq, not_and] at hn
          refine Or.inr ⟨r, List.mem_cons_self, rfl, hn.2, fun hm => ?_⟩
          by_cases e : r.1 = 1
          · exact Or.inl e
          · by_cases e3 : r.1 = 3
            · exact Or.inr e3
            · exact absurd e3 (hn.1 ⟨hm, e⟩)
        · exact Or.inl rfl
    · exact Or.inr ⟨x, List.mem_cons_of_mem _ hx, h1, h2⟩
/-- The best of rules: not below any allowed one. -/
def noWorse (a b : Nat × Nat) : Prop := b.2 < a.2 ∨ (b.2 = a.2 ∧ a.1 ≤ b.1)
theorem step_noWorse (nm : Bool) (l : List UInt8) (o : Nat × Nat) (r : Nat × List UInt8) : noWorse (bestStep nm l o r) o := by
  unfold bestStep noWorse
  split
  · exact Or.inr ⟨rfl, Nat.le_refl _⟩
  · split
    · rename_i h
      simp only [Bool.or_eq_true, Bool.and_eq_true, decide_eq_true_eq, beq_iff_eq] at h
      omega
    · exact Or.inr ⟨rfl, Nat.le_refl _⟩
theorem noWorse_trans {a b c : Nat × Nat} (h : noWorse a b) (k : noWorse b c) : noWorse a c := by unfold noWorse at *; omega
theorem rules_noWorse (nm : Bool) (l : List UInt8) : ∀ (rs : List (Nat × List UInt8)) (o : Nat × Nat),
    noWorse (rs.foldl (bestStep nm l) o) o ∧ ∀ r ∈ rs, allowB r.1 r.2 l = true → (nm = true → r.1 = 1 ∨ r.1 = 3) → noWorse (rs.foldl (bestStep nm l) o) (r.1, lonB r.2 l)
  | [], o => ⟨Or.inr ⟨rfl, Nat.le_refl _⟩, fun r hr => by cases hr⟩
  | r :: rs, o => by
    rw [List.foldl_cons]
    obtain ⟨h1, h2⟩ := rules_noWorse nm l rs (bestStep nm l o r)
    refine ⟨noWorse_trans h1 (step_noWorse nm l o r), fun x hx ha hn => ?_⟩
    rcases List.mem_cons.1 hx with rfl | hx
    · refine noWorse_trans h1 ?_
      unfold bestStep noWorse
      rw [if_neg (by
        rw [ha]
        cases nm with
        | false => simp
        | true =>
          rcases hn rfl with e | e <;> simp [e])]
      split
      · exact Or.inr ⟨rfl, Nat.le_refl _⟩
      · rename_i h
        simp only [Bool.or_eq_true, Bool.and_eq_true, decide_eq_true_eq, beq_iff_eq] at h
        omega
    · exact h2 x hx ha hn
theorem signs_fold (l : List UInt8) : ∀ (ts : List (List UInt8)) (o : Nat × Nat), ts.foldl (signStep l) o = o ∨ (ts.foldl (signStep l) o).1 = 5
  | [], o => Or.inl rfl
  | t :: ts, o => by
    rw [List.foldl_cons]
    rcases signs_fold l ts (signStep l o t) with h | h
    · rw [h]
      unfold signStep
      split
      · exact Or.inr rfl
      · exact Or.inl rfl
    · exact Or.inr h
theorem allow1 (p l : List UInt8) : allowB 1 p l = true ↔ 0 < lonB p l := by
  unfold allowB
  split
  · simp; omega
  · simp; omega
theorem best_name (l : List UInt8) (h0 : l ≠ []) (h40 : l.length ≤ 100) : bestB l = (1, l.length) ↔ RName l := by
  have hpos : 0 < l.length := List.length_pos_iff.2 h0
  constructor
  · intro h
    have key : ∃ r ∈ rulesT, (r.1, lonB r.2 l) = (1, l.length) := by
      unfold bestB at h
      split at h
      · rw [ruleTo_all] at h
        rcases rules_fold true l rulesT (0, 0) with e | ⟨r, hr, e, -⟩
        · rw [e] at h; cases h
        · exact ⟨r, hr, e.symm.trans h⟩
      · rw [signTo_all] at h
        rcases signs_fold l signsT (ruleTo false l 36) with e | e
        · rw [e, ruleTo_all] at h
          rcases rules_fold false l rulesT (0, 0) with e | ⟨r, hr, e, -⟩
          · rw [e] at h; cases h
          · exact ⟨r, hr, e.symm.trans h⟩
        · rw [h] at e; cases e
    obtain ⟨r, hr, e⟩ := key
    injection e with e1 e2
    obtain ⟨p, hp, h1⟩ := rules1 r hr e1
    rw [lonB_short _ _ h40] at e2
    have := longP_takes _ _ e2 h0
    rcases h1 with h1 | h1
    · rw [h1] at this; exact ⟨p, hp, Or.inl this⟩
    · rw [h1] at this; exact ⟨p, hp, Or.inr this⟩
  · rintro ⟨p, hp, h⟩
    have hf : inCls (byt p 0) (byt l 0) = true ∧ 0 < lonB p l := by
      rcases h with h | h
      · have h1 := first_takes l p hp _ h
        exact ⟨h1, by rw [lonB_short _ _ h40, longP_full p l h0 h1 h]; exact hpos⟩
      · rw [runQ l p hp, rowS_is] at h
        obtain ⟨j, h1, h2, -⟩ := h
        rw [rowP_is, rowP_is] at h2
        obtain ⟨h4, ⟨h5, h6, -⟩, -⟩ := h2
        have h1 := first_takes l p hp _ h6
        refine ⟨h1, ?_⟩
        rw [lonB_short _ _ h40]
        have hne : 0 < j - 1 - 1 := ((plain_takes l _).1 ⟨p, hp, h6⟩).pos
        exact longP_pos p l h0 h1 _ hne (by omega) h6
    have hnm : nameTo l 4 = true := (nameTo_all l).2 ⟨p, hp, hf.2⟩
    have hq : ∃ q, (1, q) ∈ rulesT ∧ lonB q l = l.length := by
      rcases h with h | h
      · exact ⟨p, (rules1' p hp).1, by rw [lonB_short _ _ h40, longP_full p l h0 hf.1 h]⟩
      · exact ⟨_, (rules1' p hp).2, by rw [lonB_short _ _ h40, longP_full _ l h0 (by rw [first_app p _ hp]; exact hf.1) h]⟩
    obtain ⟨q, hq1, hq2⟩ := hq
    unfold bestB
    rw [if_pos hnm, ruleTo_all]
    have h3 := (rules_noWorse true l rulesT (0, 0)).2 _ hq1 ((allow1 q l).2 (by rw [hq2]; exact hpos)) (fun _ => Or.inl rfl)
    rcases rules_fold true l rulesT (0, 0) with e | ⟨r, hr, e, -⟩
    · rw [e] at h3
      unfold noWorse at h3
      simp only at h3
      omega
    · rw [e] at h3 ⊢
      have h5 := rulesK r hr
      have h6 := lonB_le r.2 l
      unfold noWorse at h3
      simp only at h3
      rw [hq2] at h3
      have e1 : r.1 = 1 := by omega
      have e2 : lonB r.2 l = l.length := by omega
      rw [e1, e2]
theorem rulesK6 : ∀ r ∈ rulesT, r.1 ≤ 6 := by decide
theorem best_le (l : List UInt8) : (bestB l).1 ≤ 6 ∧ (bestB l).2 ≤ l.length := by
  have hr : ∀ nm, (ruleTo nm l 36).1 ≤ 6 ∧ (ruleTo nm l 36).2 ≤ l.length := fun nm => by
    rw [ruleTo_all]
    rcases rules_fold nm l rulesT (0, 0) with e | ⟨r, hr, e, -⟩
    · rw [e]; exact ⟨by decide, Nat.zero_le _⟩
    · rw [e]
      exact ⟨rulesK6 r hr, lonB_le _ _⟩
  have hs : ∀ (ts : List (List UInt8)) (o : Nat × Nat), o.1 ≤ 6 ∧ o.2 ≤ l.length → (ts.foldl (signStep l) o).1 ≤ 6 ∧ (ts.foldl (signStep l) o).2 ≤ l.length := by
    intro ts
    induction ts with
    | nil => intro o h; exact h
    | cons t ts ih =>
      intro o h
      rw [List.foldl_cons]
      refine ih _ ?_
      unfold signStep
      split
      · rename_i hc
        simp only [Bool.and_eq_true, decide_eq_true_eq] at hc
        exact ⟨show 5 ≤ 6 by decide, hc.1.2⟩
      · exact h
  unfold bestB
  split
  · exact hr _
  · rw [signTo_all]; exact hs _ _ (hr _)
end Go.Proofs.YtjnimfnelacceaaGreatDoor
