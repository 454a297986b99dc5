/- The oracles are sound. sane() is true in every world. sane() is true in every world: the last step. -/
import Derived.Test.YtjnimfnelacceaaGreatDoorLot35
set_option linter.unusedSimpArgs false
set_option linter.unusedVariables false
namespace Go.Proofs.YtjnimfnelacceaaGreatDoor
open Go.RowKit

variable {P : Program} {B G : Nat} {w0 : World} {L : Lie}

theorem AR.flatL {l : List Value} {us : Array Value} (h : AR P L ⟨l⟩ us) (hf : l.all flat1 = true) : us = ⟨l⟩ := by
  obtain ⟨h1, h2⟩ := h
  apply Array.ext
  · exact h1.symm
  · intro i hi1 hi2
    have hi3 : i < l.length := by simpa using hi2
    have he : (⟨l⟩ : Array Value).getD i undef = l[i] := by simp [Array.getD, hi3]
    have := (h2 i hi2).eq_of_flat1 (by rw [he]; exact List.all_eq_true.1 hf _ (List.getElem_mem hi3))
    rw [he] at this
    have h4 : us.getD i undef = us[i] := by simp [Array.getD, hi1]
    rw [h4] at this
    rw [this]; simp
theorem VR.agg_flat {cs : Array Value} {v' : Value} (h : VR P L (.agg cs) v') (hf : cs.toList.all flat1 = true) : v' = .agg cs := by
  cases h with
  | agg _ us h1 h2 =>
    have : us = ⟨cs.toList⟩ := AR.flatL (l := cs.toList) (us := us) ⟨h1, h2⟩ hf
    rw [this]
theorem ok_flat {f : FuncId} {args' : Array Value} {w : World} {F : Fw} {v : Value} (hs : Sim P B G w0 L F.toW w) (hv : flatV v = true)
    (h : Calls P f args' w fun e w' => e = .returned v ∧ Below w.heap.size w w') :
    Calls P f args' w fun e w1 => ∃ M, L.le M ∧ Sim P B G w0 M F.toW w1 ∧ ResR P M (.ret v) e := by
  refine h.mono ?_
  rintro e w1 ⟨rfl, hb⟩
  obtain ⟨M, h1, _, _, h4⟩ := hs.under hb
  exact ⟨M, h1, h4, VR.of_flat hv⟩
/-- A block that the great world has made is taken into the small one. -/
theorem Sim.adopt {c w w1 : World} (h : Sim P B G w0 L c w) (hb : Below w.heap.size w w1) {g : Nat} (hg : w.heap.size ≤ g) {xs us : Array Value} {e : TypeId} (ho : w1.heap[g]? = some (.cells us e (0, 0)))
    (hsz : xs.size ≤ us.size) (hx : ∀ i, i < xs.size → VR P L (xs.getD i undef) (us.getD i undef)) :
    ∃ M, L.le M ∧ M.n = L.n + 1 ∧ M.at_ L.n = g ∧ M.sh = w1.shape? ∧ Sim P B G w0 M { c with heap := c.heap.push (.cells xs e) } w1 := by
  obtain ⟨M1, l1, n1, a1, s1⟩ := h.under hb
  have hn := h.n
  have hle : L.le ⟨L.n + 1, fun r => if r = L.n then g else L.at_ r, w1.shape?⟩ := by
    refine ⟨Nat.le_succ _, fun r hr => by show (if r = L.n then _ else _) = _; rw [if_neg (by omega)], fun r s hs => ?_⟩
    have := l1.2.2 r s hs
    rw [s1.sh] at this
    exact this
  have old : ∀ r, r < L.n → (fun r => if r = L.n then g else L.at_ r) r = L.at_ r := fun r hr => by show (if r = L.n then _ else _) = _; rw [if_neg (by omega)]
  have split : ∀ r x, (c.heap.push (.cells xs e))[r]? = some x → (r < L.n ∧ c.heap[r]? = some x) ∨ (r = L.n ∧ x = .cells xs e) := by
    intro r x hx
    rw [Array.getElem?_push] at hx
    split at hx
    · rename_i he
      injection hx with hx
      exact Or.inr ⟨by rw [he, hn], hx.symm⟩
    · exact Or.inl ⟨by rw [hn]; exact (Array.getElem?_eq_some_iff.1 hx).1, hx⟩
  refine ⟨⟨L.n + 1, fun r => if r = L.n then g else L.at_ r, w1.shape?⟩, hle, rfl, if_pos rfl, rfl, ?_⟩
  refine ⟨by show L.n + 1 = (c.heap.push _).size; rw [Array.size_push, hn], rfl, fun k hk => (old k (Nat.lt_of_lt_of_le hk h.gle)).trans (h.glob k hk), Nat.le_succ_of_le h.gle, Nat.le_succ_of_le h.ble, ?_, ?_, ?_, s1.below, ?_⟩
  · intro r s x y hr hs ax ay he
    have he : (if r = L.n then g else L.at_ r) = (if s = L.n then g else L.at_ s) := he
    rcases split r x hr with ⟨hr1, hr2⟩ | ⟨rfl, rfl⟩ <;> rcases split s y hs with ⟨hs1, hs2⟩ | ⟨rfl, rfl⟩
    · rw [if_neg (by omega), if_neg (by omega)] at he; exact h.inj r s x y hr2 hs2 ax ay he
    · rw [if_neg (by omega), if_pos rfl] at he
      have := at_lt h hr2 ax
      omega
    · rw [if_pos rfl, if_neg (by omega)] at he
      have := at_lt h hs2 ay
      omega
    · rfl
  · intro r x hr ax
    show ∃ o', w1.heap[if r = L.n then g else L.at_ r]? = some o' ∧ _
    rcases split r x hr with ⟨hr1, hr2⟩ | ⟨rfl, rfl⟩
    · obtain ⟨x', hx', hor⟩ := h.obj r x hr2 ax
      rw [if_neg (by omega)]
      exact ⟨x', (hb.block _ (at_lt h hr2 ax)).trans hx', hor.mono hle⟩
    · rw [if_pos rfl]
      exact ⟨_, ho, rfl, rfl, rfl, hsz, fun i hi => (hx i hi).mono hle⟩
  · intro r hB hr
    show w0.heap.size ≤ (if r = L.n then g else L.at_ r)
    have hr : r < L.n + 1 := hr
    by_cases hrn : r = L.n
    · rw [if_pos hrn]; have := h.below.size; omega
    · rw [if_neg hrn]; exact h.fresh r hB (by omega)
  · intro r x hr
    rcases split r x hr with ⟨_, hr2⟩ | ⟨_, rfl⟩
    · exact h.nov r x hr2
    · rfl
theorem pushF_some {c c1 : Fw} {o : Obj} {f : Nat → Value} {r : Res} (h : pushF c o f = some (r, c1)) : big c.n ∧ r = .ret (f c.n) ∧ c1 = c.push o := by
  unfold pushF at h
  rw [forceN_eq] at h
  obtain ⟨hb, h⟩ := bre_none h
  rw [bigR_eq] at hb
  injection h with h
  injection h with h1 h2
  refine ⟨of_decide_eq_true hb, h1.symm, ?_⟩
  rw [← h2, setP_eq]; rfl
theorem Sim.adoptF {F : Fw} {w w1 : World} (h : Sim P B G w0 L F.toW w) (hbig : big F.n) (hb : Below w.heap.size w w1) {g : Nat} (hg : w.heap.size ≤ g) {xs us : Array Value} {e : TypeId} (ho : w1.heap[g]? = some (.cells us e (0, 0)))
    (hsz : xs.size ≤ us.size) (hx : ∀ i, i < xs.size → VR P L (xs.getD i undef) (us.getD i undef)) :
    ∃ M, L.le M ∧ M.n = F.n + 1 ∧ M.at_ F.n = g ∧ M.sh = w1.shape? ∧ Sim P B G w0 M (F.push (.cells xs e)).toW w1 := by
  obtain ⟨M, m1, m2, m3, m4, m5⟩ := h.adopt hb hg ho hsz hx
  have hn : L.n = F.n := by rw [h.n, Fw.size]
  rw [hn] at m2 m3
  exact ⟨M, m1, m2, m3, m4, m5.heap (Fw.push_heap F _ hbig)⟩

/-! ### Each oracle -/
def OneOk (P : Program) (B G : Nat) (w0 : World) (f : FuncId) (o : List Value → Fw → RF) : Prop :=
  ∀ args F r F1, o args F = some (r, F1) → ∀ L w args', Sim P B G w0 L F.toW w → AR P L ⟨args⟩ args' →
    Calls P f args' w fun e w1 => ∃ M, L.le M ∧ Sim P B G w0 M F1.toW w1 ∧ ResR P M r e
theorem env_of {L : Lie} {c w : World} (hE : Env w0) (h : Sim P B G w0 L c w) : Env w := hE.below h.below
theorem nine_of {L : Lie} {c w : World} (h9 : 9 ≤ w0.heap.size) (h : Sim P B G w0 L c w) : 9 ≤ w.heap.size := Nat.le_trans h9 h.below.size
theorem short_le {s : ByteArray} (h : shortB s.data.toList = true) : s.size ≤ 20000 := by
  unfold shortB at h
  rw [lenR_eq] at h
  have := Nat.le_of_ble_eq_true h
  rwa [len_data] at this
theorem max_of {s : ByteArray} (h : s.size ≤ 20000) : s.size ≤ maxLen := by unfold maxLen; omega
theorem ok36 (hE : Env w0) (h9 : 9 ≤ w0.heap.size) : OneOk Tryz.prog B G w0 36 o36 := by
  intro args F r F1 h L w args' hs ha
  unfold o36 at h
  split at h
  · rename_i s
    obtain ⟨hb, h⟩ := bre_none h
    injection h with h
    injection h with h1 h2
    subst h1 h2
    have := ha.flatL rfl
    subst this
    exact ok_flat hs rfl (isName_any s w (env_of hE hs) (max_of (short_le hb)) (nine_of h9 hs))
  · cases h
theorem ok86 (hE : Env w0) (h9 : 9 ≤ w0.heap.size) : OneOk Tryz.prog B G w0 86 o86 := by
  intro args F r F1 h L w args' hs ha
  unfold o86 at h
  split at h
  · rename_i s
    obtain ⟨hb, h⟩ := bre_none h
    injection h with h
    injection h with h1 h2
    subst h1 h2
    have := ha.flatL rfl
    subst this
    exact ok_flat hs rfl (kind_any s w (env_of hE hs) (max_of (short_le hb)) (nine_of h9 hs))
  · cases h
theorem ok15 (hE : Env w0) : OneOk Tryz.prog B G w0 15 o15 := by
  intro args F r F1 h L w args' hs ha
  unfold o15 at h
  split at h
  · rename_i s
    injection h with h
    injection h with h1 h2
    subst h1 h2
    have := ha.flatL rfl
    subst this
    exact ok_flat hs rfl (isReserved_any s w (env_of hE hs))
  · cases h
theorem ok94 (hE : Env w0) (h9 : 9 ≤ w0.heap.size) : OneOk Tryz.prog B G w0 94 o94 := by
  intro args F r F1 h L w args' hs ha
  unfold o94 at h
  split at h
  · rename_i cs
    split at h
    · rename_i k n s a m hcs
      obtain ⟨hb, h⟩ := bre_none h
      injection h with h
      injection h with h1 h2
      subst h1 h2
      have e1 : args'.size = 1 := ha.1.symm
      have e2 := ha.2 0 (by simp)
      have hv : args'.getD 0 undef = .agg cs := VR.agg_flat (by simpa using e2) (by rw [hcs]; rfl)
      have e3 : args' = #[.agg cs] := by
        apply Array.ext
        · simp [e1]
        · intro i hi1 hi2
          have : i = 0 := by simp at hi2; exact hi2
          subst this
          simpa [Array.getD, hi1] using hv
      have e4 : cs = #[.int .i64 k, .int .i64 n, .string s, .int .i64 a, .int .i64 m] := by apply Array.ext'; simpa using hcs
      subst e3 e4
      exact ok_flat hs rfl (check_tok k n a m s w (env_of hE hs) (max_of (short_le hb)) (nine_of h9 hs))
    · cases h
  · cases h
theorem ok37 (hE : Env w0) : OneOk Tryz.prog B G w0 37 o37 := by
  intro args F r F1 h L w args' hs ha
  unfold o37 at h
  split at h
  · rename_i s t
    obtain ⟨hb, h⟩ := bre_none h
    injection h with h
    injection h with h1 h2
    subst h1 h2
    have := ha.flatL rfl
    subst this
    obtain ⟨m, hm⟩ := (env_of hE hs).mx
    refine ok_flat hs (by simp [flatV, flat1, strOf]) ((Tryz.strings_Cut s t m w (by have := short_le hb; omega) hm).mono ?_)
    rintro e w' ⟨he, n, rfl⟩
    exact ⟨he, below_drewN (Below.refl _ _) n⟩
  · cases h
theorem ok53 (hE : Env w0) : OneOk Tryz.prog B G w0 53 o53 := by
  intro args F r F1 h L w args' hs ha
  unfold o53 at h
  split at h
  · rename_i s
    obtain ⟨hb, h⟩ := bre_none h
    injection h with h
    injection h with h1 h2
    subst h1 h2
    have := ha.flatL rfl
    subst this
    exact ok_flat hs (by simp [flatV, flat1]) (number_any s w (by have := short_le hb; omega) (env_of hE hs))
  · cases h
theorem strs_flat (ls : List (List UInt8)) : (ls.map fun l => Value.string ⟨l.toArray⟩).all flat1 = true := by
  induction ls with
  | nil => rfl
  | cons x l ih => simp [flat1]
theorem cells_flat {l : List Value} (h : l.all flat1 = true) (i : Nat) (hi : i < l.toArray.size) : VR P L (l.toArray.getD i undef) (l.toArray.getD i undef) := by
  have hi' : i < l.length := by simpa using hi
  have : l.toArray.getD i undef = l[i] := by simp [Array.getD, hi']
  rw [this]
  exact VR.of_flat1 (List.all_eq_true.1 h _ (List.getElem_mem hi'))
theorem ok38 (hE : Env w0) : OneOk Tryz.prog B G w0 38 o38 := by
  intro args F r F1 h L w args' hs ha
  unfold o38 at h
  split at h
  · rename_i s
    obtain ⟨hb, h⟩ := bre_none h
    obtain ⟨hasc, h⟩ := bre_none h
    obtain ⟨hbig, rfl, rfl⟩ := pushF_some h
    have := ha.flatL rfl
    subst this
    refine (Tryz.strings_Fields s w (by have := short_le hb; omega) (fun j b hj => ?_) (env_of hE hs).spc).mono ?_
    · have := List.all_eq_true.1 hasc b (List.mem_of_getElem? hj)
      have := Nat.le_of_ble_eq_true this
      omega
    · rintro e w1 ⟨rfl, rfl⟩
      obtain ⟨M, m1, m2, m3, m4, m5⟩ := hs.adoptF hbig ((Below.refl _ _).alloc (Nat.le_refl _) _) (Nat.le_refl _) (World.alloc_heap_new w _) (Nat.le_refl _) (fun i hi => cells_flat (strs_flat _) i hi)
      refine ⟨M, m1, m5, ?_⟩
      show VR _ M (.slice (some ⟨F.n, 0, none⟩) _ _) (.slice (some ⟨w.heap.size, 0, none⟩) _ _)
      rw [← m3]
      exact .slice _ _ _ _ _ (by omega) (.inl rfl)
  · cases h
theorem rowTk_flat (l : List Tk) : (rowTk l).all flat1 = true := by
  induction l with
  | nil => rfl
  | cons x l ih => show ((encTk x ++ rowTk l).all flat1) = true; rw [List.all_append, ih]; rfl
theorem tokCells : Tryz.prog.cellsOf 127 = 5 := by kernel_rfl
theorem ok9 (hE : Env w0) (h9 : 9 ≤ w0.heap.size) : OneOk Tryz.prog B G w0 9 o9 := by
  intro args F r F1 h L w args' hs ha
  unfold o9 at h
  split at h
  · rename_i s
    obtain ⟨hb, h⟩ := bre_none h
    split at h
    · cases h
    · rename_i t ts hts
      obtain ⟨hbig, rfl, rfl⟩ := pushF_some h
      have := ha.flatL rfl
      subst this
      refine (tokens_any s w (env_of hE hs) (max_of (short_le hb)) (nine_of h9 hs)).mono ?_
      rintro e w1 ⟨v, rfl, hown, hbw⟩
      rw [hts] at hown
      rcases hown.2 with ⟨_, hn⟩ | ⟨g, cap, cur, rfl, hg, hgb, hcap, _, hcs, htk⟩
      · simp at hn
      · have hcur : (rowTk (t :: ts)).length ≤ cur.size := by rw [rowTk_length, hcs]; exact Nat.mul_le_mul_right 5 hcap
        obtain ⟨M, m1, m2, m3, m4, m5⟩ := hs.adoptF (xs := ⟨rowTk (t :: ts)⟩) hbig hbw hg hgb (by simpa using hcur) (fun i hi => by
          simp only [List.size_toArray] at hi
          have he : cur.getD i undef = (⟨rowTk (t :: ts)⟩ : Array Value).getD i undef := by
            have h1 : i < cur.size := by omega
            have h2 : cur.toList[i]? = (rowTk (t :: ts))[i]? := by
              rw [← htk, List.getElem?_take_of_lt (by rw [← rowTk_length]; exact hi)]
            simp only [Array.getD, h1, hi, List.size_toArray, dite_true]
            rw [List.getElem?_eq_getElem (by simpa using h1), List.getElem?_eq_getElem hi] at h2
            injection h2
          rw [he]
          exact VR.of_flat1 (L := L) (by have := List.all_eq_true.1 (rowTk_flat (t :: ts)) _ (List.getElem_mem hi); simpa [Array.getD, hi] using this))
        refine ⟨M, m1, m5, ?_⟩
        show VR _ M (.slice (some ⟨F.n, 0, none⟩) _ _) (.slice (some ⟨g, 0, none⟩) _ _)
        rw [← m3]
        refine .slice _ _ _ _ _ (by omega) (.inr ⟨hcap, 127, cur.size, ?_, ?_⟩)
        · rw [m4, m3]; unfold World.shape?; rw [hgb]
        · rw [tokCells, hcs]; omega
  · cases h
end Go.Proofs.YtjnimfnelacceaaGreatDoor
set_option maxRecDepth 100000
namespace Go.Proofs.YtjnimfnelacceaaGreatDoor
open Go.RowKit

variable {B G : Nat} {w0 : World}

theorem allStr_some : ∀ {vs : List Value} {ls : List (List UInt8)}, allStr vs = some ls → vs = ls.map fun l => Value.string ⟨⟨l⟩⟩
  | [], ls, h => by simp only [allStr, Option.some.injEq] at h; subst h; rfl
  | .string s :: r, ls, h => by
    simp only [allStr] at h
    split at h
    · rename_i l hl
      injection h with h
      subst h
      rw [List.map_cons, allStr_some hl]
    · cases h
theorem ok83 : OneOk Tryz.prog B G w0 83 o83 := by
  intro args F r F1 h L w args' hs ha
  unfold o83 at h
  split at h
  · rename_i b o n c sep
    split at h
    · rename_i xs e fz hrd
      split at h
      · rename_i vs hvs
        split at h
        · rename_i ls hls
          obtain ⟨hnc, h⟩ := bre_none h
          obtain ⟨hlen, h⟩ := bre_none h
          injection h with h
          injection h with h1 h2
          subst h1 h2
          have hnb : n ≤ 100000 ∧ n ≤ c := by
            cases hb1 : Nat.ble n 100000 with
            | false => rw [hb1] at hnc; cases hnc
            | true => rw [hb1] at hnc; exact ⟨Nat.le_of_ble_eq_true hb1, Nat.le_of_ble_eq_true hnc⟩
          have hnc := hnb.2
          have hlen := Nat.le_of_ble_eq_true hlen
          rw [takeAtR_eq] at hvs
          rw [rdR_eq] at hrd
          obtain ⟨k1, k2, k3⟩ := takeAt_spec _ _ _ _ hvs
          have hvl := allStr_some hls
          have hll : ls.length = n := by rw [← k1, hvl, List.length_map]
          obtain ⟨hbn, us, hus, hfz, hxu, hvr⟩ := hs.cells (Fw.rd_some hrd)
          have e1 : args'.size = 2 := ha.1.symm
          have v0 : VR Tryz.prog L (.slice (some ⟨b, o, none⟩) n c) (args'.getD 0 undef) := by simpa using ha.2 0 (by simp)
          have v1 : VR Tryz.prog L (.string sep) (args'.getD 1 undef) := by simpa using ha.2 1 (by simp)
          have v1' := v1.eq_of_flat1 rfl
          generalize h0 : args'.getD 0 undef = a0 at v0
          cases v0 with
          | slice _ _ _ _ c' hb' hc' =>
          have e3 : args' = #[.slice (some ⟨L.at_ b, o, none⟩) n c', .string sep] := by
            apply Array.ext
            · simp [e1]
            · intro i hi1 hi2
              have hi3 : i < 2 := by simpa using hi2
              match i, hi3 with
              | 0, _ => simpa [Array.getD, hi1] using h0
              | 1, _ => simpa [Array.getD, hi1] using v1'
          subst e3
          have hcc : n ≤ c' := by rcases hc' with rfl | ⟨h, _⟩ <;> omega
          have hJ := Tryz.strings_Join (L.at_ b) o c' (ls.map fun l => (⟨⟨l⟩⟩ : ByteArray)) sep w (fun j x hj => by
            have hjn : j < n := by
              have := (List.getElem?_eq_some_iff.1 hj).1
              simpa [hll] using this
            have k4 := k3 j hjn
            have hxj : vs.getD j undef = .string x := by
              rw [hvl]
              rw [List.getElem?_map] at hj
              simp only [List.getD_eq_getElem?_getD, List.getElem?_map]
              cases hl : ls[j]? with
              | none => rw [hl] at hj; cases hj
              | some l => rw [hl] at hj; injection hj with hj; simp [← hj]
            rw [hxj] at k4
            have hlt : o + j < xs.size := by have := (List.getElem?_eq_some_iff.1 k4).1; simpa using this
            have hv := hvr (o + j) hlt
            have hx0 : xs.getD (o + j) undef = .string x := by
              have h5 : xs[o + j]? = some (.string x) := by rw [← Array.getElem?_toList]; exact k4
              simp only [Array.getD, hlt, dite_true]
              rw [Array.getElem?_eq_getElem hlt] at h5
              injection h5
            rw [hx0] at hv
            have := hv.eq_of_flat1 rfl
            rw [cell?_of hus, getElem?_of_getD (by omega), this]) (by have := (Array.getElem?_eq_some_iff.1 hus).1; exact this) (by
              simp only [List.length_map]
              omega) (by simp only [List.length_map]; omega) (by
              simp only [List.map_map]
              have : ((fun x : ByteArray => x.data.toList) ∘ fun l : List UInt8 => (⟨⟨l⟩⟩ : ByteArray)) = id := rfl
              rw [this, List.map_id]
              omega)
          simp only [List.length_map, List.map_map, hll] at hJ
          rw [show ((fun x : ByteArray => x.data.toList) ∘ fun l : List UInt8 => (⟨⟨l⟩⟩ : ByteArray)) = id from rfl, List.map_id] at hJ
          exact ok_flat hs rfl hJ
        · cases h
      · cases h
    · cases h
  · cases h

theorem orc_ok (hE : Env w0) (h9 : 9 ≤ w0.heap.size) : CallOk Tryz.prog B G w0 fun f args F => (orcS f).run args F := by
  intro f args F r F1 h L w args' hs ha
  have h : (orcS f).run args F = some (r, F1) := h
  unfold orcS at h
  have st : ∀ {x y : Oc} {k : Nat}, (bre x y (Nat.beq f k)).run args F = some (r, F1) → (f = k ∧ y.run args F = some (r, F1)) ∨ x.run args F = some (r, F1) := by
    intro x y k h
    cases hk : Nat.beq f k with
    | true => rw [hk] at h; exact .inl ⟨Nat.eq_of_beq_eq_true hk, h⟩
    | false => rw [hk] at h; exact .inr h
  rcases st h with ⟨rfl, h⟩ | h
  · exact ok38 hE args F r F1 h L w args' hs ha
  rcases st h with ⟨rfl, h⟩ | h
  · exact ok15 hE args F r F1 h L w args' hs ha
  rcases st h with ⟨rfl, h⟩ | h
  · exact ok36 hE h9 args F r F1 h L w args' hs ha
  rcases st h with ⟨rfl, h⟩ | h
  · exact ok86 hE h9 args F r F1 h L w args' hs ha
  rcases st h with ⟨rfl, h⟩ | h
  · exact ok94 hE h9 args F r F1 h L w args' hs ha
  rcases st h with ⟨rfl, h⟩ | h
  · exact ok37 hE args F r F1 h L w args' hs ha
  rcases st h with ⟨rfl, h⟩ | h
  · exact ok53 hE args F r F1 h L w args' hs ha
  rcases st h with ⟨rfl, h⟩ | h
  · exact ok9 hE h9 args F r F1 h L w args' hs ha
  rcases st h with ⟨rfl, h⟩ | h
  · exact ok83 args F r F1 h L w args' hs ha
  · cases h
def entOne (P : Program) (f : Nat) : Bool := match P.funcs[f]? with
  | some fn => fn.body.isSome && !(fn.name == "runtime.NumGoroutine")
  | none => false
theorem ent_all : ((List.range 253).all fun f => !entS f || entOne Tryz.prog f) = true := by kernel_rfl
theorem memN_nil (f : Nat) : memN f [] = false := rfl
theorem ent_ok : EntOk Tryz.prog entS := by
  intro f hf args w
  have hlt : f < 253 := by
    unfold entS at hf
    cases hb : Nat.ble (Nat.succ f) 253 with
    | true => exact Nat.le_of_ble_eq_true hb
    | false => rw [hb] at hf; cases hf
  have h1 := List.all_eq_true.1 ent_all f (List.mem_range.2 hlt)
  rw [hf] at h1
  simp only [Bool.not_true, Bool.false_or] at h1
  unfold entOne at h1
  split at h1
  · rename_i fn hfn
    simp only [Bool.and_eq_true, Bool.not_eq_true', Option.isSome_iff_exists] at h1
    obtain ⟨⟨c, hc⟩, hn⟩ := h1
    exact MuLone.run_callFunc_enter hfn hn hc args w
  · cases h1
theorem plans_all : (Tryz.prog.funcs.toList.zipIdx.all fun p => match p.1.body with | some c => codeOk 9 (thePlans p.2) c | none => true) = true := by kernel_rfl
theorem plans_ok : PlansOk Tryz.prog 9 thePlans := by
  intro f fn code hf hb
  have hm : (fn, f) ∈ Tryz.prog.funcs.toList.zipIdx := by
    rw [List.mem_zipIdx_iff_getElem?]
    simpa using hf
  have := List.all_eq_true.1 plans_all _ hm
  simp only [hb] at this
  exact this
end Go.Proofs.YtjnimfnelacceaaGreatDoor
set_option maxRecDepth 100000
namespace Go.Proofs.YtjnimfnelacceaaGreatDoor
open Go.RowKit

theorem c0_sim (w : World) (h9 : 9 ≤ w.heap.size) : Sim Tryz.prog 9 9 w ⟨9, fun r => r, w.shape?⟩ c0.toW w := by
  have hd : ∀ (r : Nat) (o : Obj), c0.toW.heap[r]? = some o → o = Obj.coro none := by
    intro r o h
    rw [Fw.heap_get] at h
    split at h
    · injection h with h; rw [← h]; rfl
    · cases h
  refine ⟨by rw [Fw.size]; rfl, rfl, fun _ _ => rfl, Nat.le_refl _, Nat.le_refl _, ?_, ?_, ?_, Below.refl _ _, ?_⟩
  · intro r s o o' hr _ ha _ _
    rw [hd r o hr] at ha; cases ha
  · intro r o hr ha
    rw [hd r o hr] at ha; cases ha
  · intro r h1 h2
    have h2 : r < 9 := h2
    omega
  · intro r o hr
    rw [hd r o hr]; rfl
theorem isTrue_some {r : RF} (h : isTrue r = true) : ∃ F1, r = some (.ret (.bool true), F1) := by
  unfold isTrue at h
  split at h
  · exact ⟨_, rfl⟩
  · cases h
theorem sane_true (w : World) (hE : Env w) (h9 : 9 ≤ w.heap.size) : Calls Tryz.prog 4 #[] w fun e w' => e = .returned (.bool true) ∧ Below w.heap.size w w' := by
  obtain ⟨F1, hx⟩ := isTrue_some sane_run
  have hC := funE_spec (w0 := w) (G := 9) (B := 9) (P := Tryz.prog) (by kernel_rfl) ent_ok plans_ok (orc_ok hE h9) (fuel := 100000) 300
  refine (hC _ _ _ _ _ hx _ w #[] (c0_sim w h9) ⟨rfl, fun i h => absurd h (by simp)⟩).mono ?_
  rintro e w' ⟨M, _, hS, hR⟩
  cases e with
  | returned v =>
    have hR : VR Tryz.prog M (.bool true) v := hR
    exact ⟨by rw [hR.eq_of_flat1 rfl], hS.below⟩
  | _ => exact hR.elim
end Go.Proofs.YtjnimfnelacceaaGreatDoor
