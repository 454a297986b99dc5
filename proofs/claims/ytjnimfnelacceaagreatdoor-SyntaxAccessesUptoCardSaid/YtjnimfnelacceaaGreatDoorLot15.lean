/- Types in memory: equal ones; SameType. Copies of types: slices.Clone, copyType. Lists of types, parameters and strings: SameTypes, SameParams, SameStrings. Expressions: SameExpr, SameExprs. Loads and stores of great structs: a step each, whatever the number of cells. -/
import Derived.Test.YtjnimfnelacceaaGreatDoorLot14
import Derived.OwnWalk
import Derived.Shelf.Lays2
import Derived.Shelf.RegionOpenPlain
import Derived.Deep.LoopGhost
import Derived.Lib.Walk
import Derived.Lib.SliceRun
import Derived.Laws.OwnMore
import Derived.Deep.WholeRow
import Derived.StillTailTactics
set_option linter.unusedSimpArgs false
set_option linter.unusedVariables false
namespace Go.Proofs.YtjnimfnelacceaaGreatDoor
open Go.RowKit Go.Proofs.YtjnimfnelacceaaGreatDoorW.PrintLast

theorem drew_u {B : Nat} {a w : World} (h : Below B a w) : Below B a w.drew := ⟨h.os, h.tape, h.output, h.size, h.block⟩
def agg5 (f : Nat → Value) : Value := .agg #[f 0, f 1, f 2, f 3, f 4]
/-- n elements of m cells stand at a place (nothing is asked of the place where n is 0). -/
def Row (w : World) (m : Nat) (p : Option Addr) (n : Nat) (A : Nat → Nat → Value) : Prop :=
  ∀ i, i < n → ∃ b o, p = some ⟨b, o, none⟩ ∧ ∀ j, j < m → w.cell? ⟨b, o + i * m + j, none⟩ = some (A i j)
theorem Row.below {w w' : World} {m : Nat} {p : Option Addr} {n : Nat} {A : Nat → Nat → Value} (h : Row w m p n A) (hb : Below w.heap.size w w') : Row w' m p n A := by
  intro i hi
  obtain ⟨b, o, h1, h2⟩ := h i hi
  exact ⟨b, o, h1, fun j hj => below_cell hb (h2 j hj)⟩
theorem Row.at_ {w : World} {m : Nat} {p : Option Addr} {n : Nat} {A : Nat → Nat → Value} (h : Row w m p n A) (h0 : 0 < n) : ∃ b o, p = some ⟨b, o, none⟩ ∧ ∀ i, i < n → ∀ j, j < m → w.cell? ⟨b, o + i * m + j, none⟩ = some (A i j) := by
  obtain ⟨b, o, h1, -⟩ := h 0 h0
  refine ⟨b, o, h1, fun i hi j hj => ?_⟩
  obtain ⟨b', o', h2, h3⟩ := h i hi
  rw [h1] at h2
  injection h2 with h2
  injection h2 with h4 h5
  subst h4 h5
  exact h3 j hj
/-- Two values of type Type that are deeply equal. -/
inductive TyAl (w : World) : Value → Value → Prop
  | mk (k lo hi : Int) (s : ByteArray) (n : Nat) (p q : Option Addr) (c d : Nat) (A B : Nat → Nat → Value) (hn : n ≤ 1000000000000)
    (hA : Row w 5 p n A) (hB : Row w 5 q n B) (h : ∀ i, i < n → TyAl w (agg5 (A i)) (agg5 (B i))) :
    TyAl w (.agg #[.int .i64 k, .string s, .int .i64 lo, .int .i64 hi, .slice p n c]) (.agg #[.int .i64 k, .string s, .int .i64 lo, .int .i64 hi, .slice q n d])
theorem TyAl.under {w w' : World} {v u : Value} (h : TyAl w v u) (hb : Below w.heap.size w w') : TyAl w' v u := by
  induction h with
  | mk k lo hi s n p q c d A B hn hA hB h ih => exact TyAl.mk k lo hi s n p q c d A B hn (hA.below hb) (hB.below hb) ih
set_option maxRecDepth 100000 in
set_option maxHeartbeats 8000000 in
theorem sameType_any {w : World} {v u : Value} (h : TyAl w v u) : ∀ w', Below w.heap.size w w' → Calls Tryz.prog 42 #[v, u] w' fun e w'' => e = .returned (.bool true) ∧ Below w'.heap.size w' w'' := by
  induction h with
  | mk k lo hi s n p q c d A B hn hA hB h ih =>
    intro w' hb
    have HA := Lib.hid (hA.below hb)
    have HB := Lib.hid (hB.below hb)
    have HI := Lib.hid ih
    have HW := Lib.hid hb
    clear hA hB h ih hb
    go_enter Tryz.func42, Tryz.ntmps42
    go_wp2
    go_loopw [5] (fun v5 wr => ∃ i : Nat, i ≤ n ∧ v5 = .int .i64 i ∧ Hid (Below w'.heap.size w' wr ∧ wr.cell? ⟨w'.heap.size, 4, none⟩ = some (.slice p n c) ∧ wr.cell? ⟨w'.heap.size + 1, 4, none⟩ = some (.slice q n d))) (fun v5 _ => n - (intOf v5).toNat)
    case atStart => exact ⟨0, Nat.zero_le _, rfl, Lib.hid ⟨((Below.refl _ _).alloc (Nat.le_refl _) _).alloc (by simp) _, by simp [go_sem], by simp [go_sem]⟩⟩
    case round =>
      obtain ⟨i, hi, rfl, HR⟩ := hrel
      have b4 := HR.out.2.1
      have d4 := HR.out.2.2
      have l1 : w'.heap.size < wr.heap.size := World.block_lt_of_cell? wr _ b4
      have l2 : w'.heap.size + 1 < wr.heap.size := World.block_lt_of_cell? wr _ d4
      by_cases hlt : i < n
      · obtain ⟨pb, po, hp, hpc⟩ := (HA.out.below HR.out.1).at_ (by omega)
        obtain ⟨qb, qo, hq, hqc⟩ := (HB.out.below HR.out.1).at_ (by omega)
        subst hp hq
        have g0 : decide ((i : Int) < n) = true := decide_eq_true (by omega)
        have g1 : (0 : Int) ≤ i := by omega
        have g2 : (i : Int) < n := by omega
        have a0 := hpc i hlt 0 (by decide)
        have a1 := hpc i hlt 1 (by decide)
        have a2 := hpc i hlt 2 (by decide)
        have a3 := hpc i hlt 3 (by decide)
        have a4 := hpc i hlt 4 (by decide)
        have e0 := hqc i hlt 0 (by decide)
        have e1 := hqc i hlt 1 (by decide)
        have e2 := hqc i hlt 2 (by decide)
        have e3 := hqc i hlt 3 (by decide)
        have e4 := hqc i hlt 4 (by decide)
        clear hpc hqc
        simp only [Nat.add_zero] at a0 e0
        go_wp2_with fail
        refine still_tail2 10 (by kernel_rfl) (by kernel_rfl) ?_
        simp only [List.take_succ_cons, List.take_zero, List.drop_succ_cons, List.drop_zero]
        iterate 10 still_step
        refine wpStill_nil ?_
        go_wp2_with fail
        have hbr : Below w.heap.size w wr.drew := drew_u (HW.out.trans (HR.out.1.mono HW.out.size))
        refine (HI.out i hlt _ hbr).mono ?_
        rintro e w3 ⟨rfl, hb3⟩
        have hb4 : Below wr.heap.size wr w3 := (drew_u (Below.refl wr.heap.size wr)).trans (hb3.mono (Nat.le_refl _))
        have HR3 := Lib.hid (show Below w'.heap.size w' w3 ∧ w3.cell? ⟨w'.heap.size, 4, none⟩ = some (.slice (some ⟨pb, po, none⟩) n c) ∧ w3.cell? ⟨w'.heap.size + 1, 4, none⟩ = some (.slice (some ⟨qb, qo, none⟩) n d) from ⟨HR.out.1.trans (hb4.mono HR.out.1.size), below_cell hb4 b4, below_cell hb4 d4⟩)
        clear hb3 hb4 hbr a0 a1 a2 a3 a4 e0 e1 e2 e3 e4 b4 d4
        go_wp2
        go_roundw
        case rel => exact ⟨i + 1, by omega, by go_num, HR3⟩
        case measure => simp [intOf]; omega
      · have g0 : decide ((i : Int) < n) = false := decide_eq_false (by omega)
        go_wp2
        go_ret
        exact ⟨rfl, HR.out.1⟩
end Go.Proofs.YtjnimfnelacceaaGreatDoor
namespace Go.Proofs.YtjnimfnelacceaaGreatDoor
open Go.RowKit Go.Proofs.YtjnimfnelacceaaGreatDoorW.PrintLast

theorem info33 : (Tryz.prog.info? 33).map (fun i => (i.zero, i.size, i.bytes)) = some (some (.agg #[.int .i64 0, .string ⟨#[]⟩, .int .i64 0, .int .i64 0, .slice none 0 0]), 5, 64) := by kernel_rfl
def flat5 (A : Nat → Nat → Value) (n : Nat) : List Value := (List.range (n * 5)).map fun j => A (j / 5) (j % 5)
theorem flat5_get (A : Nat → Nat → Value) (n j : Nat) (u : Value) (h : (flat5 A n)[j]? = some u) : j < n * 5 ∧ u = A (j / 5) (j % 5) := by
  unfold flat5 at h
  rw [List.getElem?_map] at h
  by_cases hj : j < n * 5
  · rw [List.getElem?_range hj] at h
    exact ⟨hj, by simpa using h.symm⟩
  · rw [List.getElem?_eq_none (by simp; omega)] at h
    cases h
set_option maxHeartbeats 2000000 in
set_option maxRecDepth 100000 in
theorem clone_some (ad : Addr) (n c : Nat) (A : Nat → Nat → Value) (w : World) (hn : n ≤ 1000000000000) (hA : Row w 5 (some ad) n A) (h1 : ∀ i j, i < n → j < 5 → (A i j).oneCell' = true) :
    Calls Tryz.prog 44 #[.slice (some ad) n c] w fun e w' => ∃ v', e = .returned v' ∧ w'.ownsRow w.heap.size 33 5 v' n (flat5 A n) ∧ v' ≠ .slice none 0 0 ∧ Below w.heap.size w w' := by
  obtain ⟨i0, hi, hz0, hz1, hz2⟩ := info_parts info33
  have q31 : ∀ (w : World) (a : Option Addr) (n c n' c' : Nat), (binOp .eql 31 (.slice a n c) (.slice none n' c')).run Tryz.prog w = .ok (.bool a.isNone) w := fun w a n c n' c' => Lib.run_eql_slice_nil w _ _ a n c n' c' Tryz.underlying31
  have HA := Lib.hid hA
  have HO := Lib.hid h1
  clear hA h1
  go_enter Tryz.func44, Tryz.ntmps44
  go_wp2_with (at_builtin; refine wpList_append_own _ rfl _ _ 31 rfl w.heap.size 33 i0 (.agg #[.int .i64 0, .string ⟨#[]⟩, .int .i64 0, .int .i64 0, .slice none 0 0]) 5 64 Tryz.underlying31 hi hz0 hz1 hz2 rfl (by decide) _ _ _ rfl (World.ownsRow_made w #[] 0 (Nat.le_refl _) (Nat.zero_le _) rfl) ad n c (flat5 A n) rfl ?qc1 ?qc2 ?qc3 ?qc4 ?qc5 ?qc6 ?_)
  case qc1 => simp [flat5]
  case qc2 =>
    intro j u hj
    obtain ⟨h1, rfl⟩ := flat5_get A n j u hj
    obtain ⟨b, o, h2, h3⟩ := HA.out (j / 5) (by omega)
    injection h2 with h2
    subst h2
    have h4 := h3 (j % 5) (Nat.mod_lt _ (by decide))
    rw [show o + j / 5 * 5 + j % 5 = o + j by omega] at h4
    have hadd : (⟨b, o, none⟩ : Addr).add j = ⟨b, o + j, none⟩ := by unfold Addr.add; split <;> simp_all
    rw [hadd]
    exact Lib.cell?_alloc_some _ h4
  case qc3 =>
    intro u hu
    obtain ⟨j, hj, rfl⟩ := List.mem_map.1 hu
    rw [List.mem_range] at hj
    exact HO.out _ _ (by omega) (Nat.mod_lt _ (by decide))
  case qc4 => unfold maxLen; omega
  case qc5 => omega
  case qc6 => simp
  intro v' w1 hown hgrow hnil
  go_wp2
  go_ret
  refine ⟨v', rfl, by simpa using hown, ?_, ?_⟩
  · exact hnil
  · exact ((Below.refl _ w).alloc (Nat.le_refl _) _).grown hgrow (by simp) (by intro k hk; simp [Value.ownBlock] at hk; omega)
theorem clone_nil (n c : Nat) (w : World) : Calls Tryz.prog 44 #[.slice none n c] w fun e w' => e = .returned (.slice none 0 0) ∧ w' = w := by
  have q31 : ∀ (w : World) (a : Option Addr) (n c n' c' : Nat), (binOp .eql 31 (.slice a n c) (.slice none n' c')).run Tryz.prog w = .ok (.bool a.isNone) w := fun w a n c n' c' => Lib.run_eql_slice_nil w _ _ a n c n' c' Tryz.underlying31
  go_enter Tryz.func44, Tryz.ntmps44
  go_wp2
  go_ret
  exact ⟨rfl, rfl⟩
/-- Equal types, with the blocks in which they lie. -/
inductive TyIn (w : World) (S T : Nat → Prop) : Value → Value → Prop
  | mk (k lo hi : Int) (s : ByteArray) (n : Nat) (p q : Option Addr) (c d : Nat) (A B : Nat → Nat → Value) (hn : n ≤ 1000000000000)
    (hA : Row w 5 p n A) (hB : Row w 5 q n B) (hS : ∀ b o, p = some ⟨b, o, none⟩ → 0 < n → S b) (hT : ∀ b o, q = some ⟨b, o, none⟩ → 0 < n → T b) (h : ∀ i, i < n → TyIn w S T (agg5 (A i)) (agg5 (B i))) :
    TyIn w S T (.agg #[.int .i64 k, .string s, .int .i64 lo, .int .i64 hi, .slice p n c]) (.agg #[.int .i64 k, .string s, .int .i64 lo, .int .i64 hi, .slice q n d])
theorem TyIn.al {w : World} {S T : Nat → Prop} {v u : Value} (h : TyIn w S T v u) : TyAl w v u := by
  induction h with
  | mk k lo hi s n p q c d A B hn hA hB hS hT h ih => exact TyAl.mk k lo hi s n p q c d A B hn hA hB ih
theorem Row.lt {w : World} {m n b o : Nat} {A : Nat → Nat → Value} (h : Row w m (some ⟨b, o, none⟩) n A) (h0 : 0 < n) (hm : 0 < m) : b < w.heap.size := by
  obtain ⟨b', o', h1, h2⟩ := h 0 h0
  injection h1 with h1
  injection h1 with h3 h4
  subst h3
  exact World.block_lt_of_cell? w _ (h2 0 hm)
theorem TyAl.in_ {w : World} {v u : Value} (h : TyAl w v u) : TyIn w (fun b => b < w.heap.size) (fun b => b < w.heap.size) v u := by
  induction h with
  | mk k lo hi s n p q c d A B hn hA hB h ih =>
    exact TyIn.mk k lo hi s n p q c d A B hn hA hB (fun b o hp h0 => by subst hp; exact hA.lt h0 (by decide)) (fun b o hp h0 => by subst hp; exact hB.lt h0 (by decide)) ih
theorem Row.keep {w w' : World} {m n : Nat} {p : Option Addr} {A : Nat → Nat → Value} (h : Row w m p n A) (hk : ∀ b o, p = some ⟨b, o, none⟩ → 0 < n → ∀ o' x, w.cell? ⟨b, o', none⟩ = some x → w'.cell? ⟨b, o', none⟩ = some x) : Row w' m p n A := by
  intro i hi
  obtain ⟨b, o, h1, h2⟩ := h i hi
  exact ⟨b, o, h1, fun j hj => hk b o h1 (by omega) _ _ (h2 j hj)⟩
theorem TyIn.keep {w w' : World} {S T S' T' : Nat → Prop} {v u : Value} (h : TyIn w S T v u) (hk : ∀ b, (S b ∨ T b) → ∀ o x, w.cell? ⟨b, o, none⟩ = some x → w'.cell? ⟨b, o, none⟩ = some x) (hS' : ∀ b, S b → S' b) (hT' : ∀ b, T b → T' b) : TyIn w' S' T' v u := by
  induction h with
  | mk k lo hi s n p q c d A B hn hA hB hS hT h ih =>
    exact TyIn.mk k lo hi s n p q c d A B hn (hA.keep fun b o hp h0 => hk b (Or.inl (hS b o hp h0))) (hB.keep fun b o hp h0 => hk b (Or.inr (hT b o hp h0))) (fun b o hp h0 => hS' b (hS b o hp h0)) (fun b o hp h0 => hT' b (hT b o hp h0)) ih
theorem TyIn.under {w w' : World} {S T : Nat → Prop} {v u : Value} (h : TyIn w S T v u) (hb : Below w.heap.size w w') : TyIn w' S T v u := h.keep (fun _ _ _ _ hc => below_cell hb hc) (fun _ h => h) (fun _ h => h)
theorem TyIn.form {w : World} {S T : Nat → Prop} {f g : Nat → Value} (h : TyIn w S T (agg5 f) (agg5 g)) : ∃ k lo hi s p n c, f 0 = .int .i64 k ∧ f 1 = .string s ∧ f 2 = .int .i64 lo ∧ f 3 = .int .i64 hi ∧ f 4 = .slice p n c := by
  generalize hv : agg5 f = v at h
  generalize agg5 g = u at h
  cases h with
  | mk k lo hi s n p q c d A B hn hA hB hS hT h =>
    unfold agg5 at hv
    simp only [Value.agg.injEq, Array.mk.injEq, List.cons.injEq, and_true] at hv
    exact ⟨k, lo, hi, s, p, n, c, hv.1, hv.2.1, hv.2.2.1, hv.2.2.2.1, hv.2.2.2.2⟩
theorem TyIn.one {w : World} {S T : Nat → Prop} {f g : Nat → Value} (h : TyIn w S T (agg5 f) (agg5 g)) (j : Nat) (hj : j < 5) : (f j).oneCell' = true := by
  obtain ⟨k, lo, hi, s, p, n, c, h0, h1, h2, h3, h4⟩ := h.form
  match j, hj with
  | 0, _ => rw [h0]; rfl
  | 1, _ => rw [h1]; rfl
  | 2, _ => rw [h2]; rfl
  | 3, _ => rw [h3]; rfl
  | 4, _ => rw [h4]; rfl
end Go.Proofs.YtjnimfnelacceaaGreatDoor
namespace Go.Proofs.YtjnimfnelacceaaGreatDoor
open Go.RowKit Go.Proofs.YtjnimfnelacceaaGreatDoorW.PrintLast

def TysAl (w : World) (n : Nat) (p q : Option Addr) : Prop :=
  n ≤ 1000000000000 ∧ ∃ A B, Row w 5 p n A ∧ Row w 5 q n B ∧ ∀ i, i < n → TyAl w (agg5 (A i)) (agg5 (B i))
def ParsAl (w : World) (n : Nat) (p q : Option Addr) : Prop :=
  n ≤ 1000000000000 ∧ ∃ A B, Row w 6 p n A ∧ Row w 6 q n B ∧ ∀ i, i < n → (∃ s, A i 0 = .string s ∧ B i 0 = .string s) ∧ TyAl w (agg5 fun j => A i (j + 1)) (agg5 fun j => B i (j + 1))
def StrsAl (w : World) (n : Nat) (p q : Option Addr) : Prop :=
  n ≤ 1000000000000 ∧ ∃ A B, Row w 1 p n A ∧ Row w 1 q n B ∧ ∀ i, i < n → ∃ s, A i 0 = .string s ∧ B i 0 = .string s
theorem TysAl.under {w w' : World} {n : Nat} {p q : Option Addr} (h : TysAl w n p q) (hb : Below w.heap.size w w') : TysAl w' n p q := by
  obtain ⟨h1, A, B, h2, h3, h4⟩ := h
  exact ⟨h1, A, B, h2.below hb, h3.below hb, fun i hi => (h4 i hi).under hb⟩
theorem ParsAl.under {w w' : World} {n : Nat} {p q : Option Addr} (h : ParsAl w n p q) (hb : Below w.heap.size w w') : ParsAl w' n p q := by
  obtain ⟨h1, A, B, h2, h3, h4⟩ := h
  exact ⟨h1, A, B, h2.below hb, h3.below hb, fun i hi => ⟨(h4 i hi).1, (h4 i hi).2.under hb⟩⟩
theorem StrsAl.under {w w' : World} {n : Nat} {p q : Option Addr} (h : StrsAl w n p q) (hb : Below w.heap.size w w') : StrsAl w' n p q := by
  obtain ⟨h1, A, B, h2, h3, h4⟩ := h
  exact ⟨h1, A, B, h2.below hb, h3.below hb, h4⟩
set_option maxRecDepth 100000 in
set_option maxHeartbeats 8000000 in
theorem sameTypes_any {w : World} {n : Nat} {p q : Option Addr} (c d : Nat) (h : TysAl w n p q) :
    Calls Tryz.prog 39 #[.slice p n c, .slice q n d] w fun e w'' => e = .returned (.bool true) ∧ Below w.heap.size w w'' := by
  obtain ⟨hn, A, B, hA, hB, ih⟩ := h
  have HA := Lib.hid hA
  have HB := Lib.hid hB
  have HI := Lib.hid ih
  clear hA hB ih
  go_enter Tryz.func39, Tryz.ntmps39
  go_wp2
  go_loopw [5] (fun v5 wr => ∃ i : Nat, i ≤ n ∧ v5 = .int .i64 i ∧ Hid (Below w.heap.size w wr)) (fun v5 _ => n - (intOf v5).toNat)
  case atStart => exact ⟨0, Nat.zero_le _, rfl, Lib.hid (Below.refl _ _)⟩
  case round =>
    obtain ⟨i, hi, rfl, HR⟩ := hrel
    by_cases hlt : i < n
    · obtain ⟨pb, po, hp, hpc⟩ := (HA.out.below HR.out).at_ (by omega)
      obtain ⟨qb, qo, hq, hqc⟩ := (HB.out.below HR.out).at_ (by omega)
      subst hp hq
      have g0 : decide ((i : Int) < n) = true := decide_eq_true (by omega)
      have g1 : (0 : Int) ≤ i := by omega
      have g2 : (i : Int) < n := by omega
      have a0 := hpc i hlt 0 (by decide)
      have a1 := hpc i hlt 1 (by decide)
      have a2 := hpc i hlt 2 (by decide)
      have a3 := hpc i hlt 3 (by decide)
      have a4 := hpc i hlt 4 (by decide)
      have e0 := hqc i hlt 0 (by decide)
      have e1 := hqc i hlt 1 (by decide)
      have e2 := hqc i hlt 2 (by decide)
      have e3 := hqc i hlt 3 (by decide)
      have e4 := hqc i hlt 4 (by decide)
      clear hpc hqc
      simp only [Nat.add_zero] at a0 e0
      go_wp2_with fail
      refine still_tail2 8 (by kernel_rfl) (by kernel_rfl) ?_
      simp only [List.take_succ_cons, List.take_zero, List.drop_succ_cons, List.drop_zero]
      iterate 8 still_step
      refine wpStill_nil ?_
      go_wp2_with fail
      have hbr : Below w.heap.size w wr.drew := drew_u HR.out
      refine (sameType_any (HI.out i hlt) _ hbr).mono ?_
      rintro e w3 ⟨rfl, hb3⟩
      have HR3 := Lib.hid (hbr.trans (hb3.mono hbr.size))
      clear hb3 hbr a0 a1 a2 a3 a4 e0 e1 e2 e3 e4
      go_wp2
      go_roundw
      case rel => exact ⟨i + 1, by omega, by go_num, HR3⟩
      case measure => simp [intOf]; omega
    · have g0 : decide ((i : Int) < n) = false := decide_eq_false (by omega)
      go_wp2
      go_ret
      exact ⟨rfl, HR.out⟩
set_option maxRecDepth 100000 in
set_option maxHeartbeats 8000000 in
theorem sameParams_any {w : World} {n : Nat} {p q : Option Addr} (c d : Nat) (h : ParsAl w n p q) :
    Calls Tryz.prog 41 #[.slice p n c, .slice q n d] w fun e w'' => e = .returned (.bool true) ∧ Below w.heap.size w w'' := by
  obtain ⟨hn, A, B, hA, hB, ih⟩ := h
  have HA := Lib.hid hA
  have HB := Lib.hid hB
  have HI := Lib.hid ih
  clear hA hB ih
  go_enter Tryz.func41, Tryz.ntmps41
  go_wp2
  go_loopw [5] (fun v5 wr => ∃ i : Nat, i ≤ n ∧ v5 = .int .i64 i ∧ Hid (Below w.heap.size w wr)) (fun v5 _ => n - (intOf v5).toNat)
  case atStart => exact ⟨0, Nat.zero_le _, rfl, Lib.hid (Below.refl _ _)⟩
  case round =>
    obtain ⟨i, hi, rfl, HR⟩ := hrel
    by_cases hlt : i < n
    · obtain ⟨pb, po, hp, hpc⟩ := (HA.out.below HR.out).at_ (by omega)
      obtain ⟨qb, qo, hq, hqc⟩ := (HB.out.below HR.out).at_ (by omega)
      subst hp hq
      obtain ⟨⟨s, hs1, hs2⟩, hty⟩ := HI.out i hlt
      have HT := Lib.hid hty
      clear hty
      have g0 : decide ((i : Int) < n) = true := decide_eq_true (by omega)
      have g1 : (0 : Int) ≤ i := by omega
      have g2 : (i : Int) < n := by omega
      have a0 := hpc i hlt 0 (by decide)
      have a1 := hpc i hlt 1 (by decide)
      have a2 := hpc i hlt 2 (by decide)
      have a3 := hpc i hlt 3 (by decide)
      have a4 := hpc i hlt 4 (by decide)
      have a5 := hpc i hlt 5 (by decide)
      have e0 := hqc i hlt 0 (by decide)
      have e1 := hqc i hlt 1 (by decide)
      have e2 := hqc i hlt 2 (by decide)
      have e3 := hqc i hlt 3 (by decide)
      have e4 := hqc i hlt 4 (by decide)
      have e5 := hqc i hlt 5 (by decide)
      clear hpc hqc
      rw [hs1] at a0
      rw [hs2] at e0
      clear hs1 hs2
      simp only [Nat.add_zero] at a0 e0
      go_wp2_with fail
      refine still_tail2 22 (by kernel_rfl) (by kernel_rfl) ?_
      simp only [List.take_succ_cons, List.take_zero, List.drop_succ_cons, List.drop_zero]
      iterate 22 still_step
      refine wpStill_nil ?_
      go_wp2_with fail
      have hbr : Below w.heap.size w wr.drew := drew_u HR.out
      refine (sameType_any HT.out _ hbr).mono ?_
      rintro e w3 ⟨rfl, hb3⟩
      have HR3 := Lib.hid (hbr.trans (hb3.mono hbr.size))
      clear hb3 hbr a0 a1 a2 a3 a4 e0 e1 e2 e3 e4 a5 e5
      go_wp2
      go_roundw
      case rel => exact ⟨i + 1, by omega, by go_num, HR3⟩
      case measure => simp [intOf]; omega
    · have g0 : decide ((i : Int) < n) = false := decide_eq_false (by omega)
      go_wp2
      go_ret
      exact ⟨rfl, HR.out⟩
set_option maxRecDepth 100000 in
set_option maxHeartbeats 8000000 in
theorem sameStrings_any {w : World} {n : Nat} {p q : Option Addr} (c d : Nat) (h : StrsAl w n p q) :
    Calls Tryz.prog 12 #[.slice p n c, .slice q n d] w fun e w'' => e = .returned (.bool true) ∧ Below w.heap.size w w'' := by
  obtain ⟨hn, A, B, hA, hB, ih⟩ := h
  have HA := Lib.hid hA
  have HB := Lib.hid hB
  have HI := Lib.hid ih
  clear hA hB ih
  go_enter Tryz.func12, Tryz.ntmps12
  go_wp2
  go_loopw [5, 6] (fun v5 v6 wr => ∃ i : Nat, i ≤ n ∧ v5 = .bool true ∧ v6 = .int .i64 i ∧ Hid (Below w.heap.size w wr)) (fun _ v6 _ => n - (intOf v6).toNat)
  case atStart => exact ⟨0, Nat.zero_le _, rfl, rfl, Lib.hid (Below.refl _ _)⟩
  case round =>
    obtain ⟨i, hi, rfl, rfl, HR⟩ := hrel
    by_cases hlt : i < n
    · obtain ⟨pb, po, hp, hpc⟩ := (HA.out.below HR.out).at_ (by omega)
      obtain ⟨qb, qo, hq, hqc⟩ := (HB.out.below HR.out).at_ (by omega)
      subst hp hq
      obtain ⟨s, hs1, hs2⟩ := HI.out i hlt
      have g0 : decide ((i : Int) < n) = true := decide_eq_true (by omega)
      have g1 : (0 : Int) ≤ i := by omega
      have g2 : (i : Int) < n := by omega
      have a0 := hpc i hlt 0 (by decide)
      have e0 := hqc i hlt 0 (by decide)
      clear hpc hqc
      rw [hs1] at a0
      rw [hs2] at e0
      clear hs1 hs2
      simp only [Nat.add_zero, Nat.mul_one] at a0 e0
      go_wp2_with fail
      go_quiet (fail)
      go_wp2
      go_roundw
      case rel => exact ⟨i + 1, by omega, rfl, by go_num, Lib.hid (below_drewN HR.out _)⟩
      case measure => simp [intOf]; omega
    · have g0 : decide ((i : Int) < n) = false := decide_eq_false (by omega)
      go_wp2
      go_ret
      exact ⟨rfl, HR.out⟩
end Go.Proofs.YtjnimfnelacceaaGreatDoor
namespace Go.Proofs.YtjnimfnelacceaaGreatDoor
open Go.RowKit Go.Proofs.YtjnimfnelacceaaGreatDoorW.PrintLast

def agg11 (f : Nat → Value) : Value := .agg #[f 0, f 1, f 2, f 3, f 4, f 5, f 6, f 7, f 8, f 9, f 10]
/-- Two values of type Expr that are deeply equal. -/
inductive ExAl (w : World) : Value → Value → Prop
  | mk (k num : Int) (s : ByteArray) (t0 t1 t2 t3 t4 u0 u1 u2 u3 u4 : Value) (ht : TyAl w (.agg #[t0, t1, t2, t3, t4]) (.agg #[u0, u1, u2, u3, u4]))
    (np : Nat) (pp qp : Option Addr) (cp dp : Nat) (hp : ParsAl w np pp qp) (nk : Nat) (pk qk : Option Addr) (ck dk : Nat) (hk : StrsAl w nk pk qk)
    (n : Nat) (p q : Option Addr) (c d : Nat) (A B : Nat → Nat → Value) (hn : n ≤ 1000000000000)
    (hA : Row w 11 p n A) (hB : Row w 11 q n B) (h : ∀ i, i < n → ExAl w (agg11 (A i)) (agg11 (B i))) :
    ExAl w (.agg #[.int .i64 k, .string s, .int .i64 num, t0, t1, t2, t3, t4, .slice pp np cp, .slice pk nk ck, .slice p n c])
      (.agg #[.int .i64 k, .string s, .int .i64 num, u0, u1, u2, u3, u4, .slice qp np dp, .slice qk nk dk, .slice q n d])
theorem ExAl.under {w w' : World} {v u : Value} (h : ExAl w v u) (hb : Below w.heap.size w w') : ExAl w' v u := by
  induction h with
  | mk k num s t0 t1 t2 t3 t4 u0 u1 u2 u3 u4 ht np pp qp cp dp hp nk pk qk ck dk hk n p q c d A B hn hA hB h ih =>
    exact ExAl.mk k num s t0 t1 t2 t3 t4 u0 u1 u2 u3 u4 (ht.under hb) np pp qp cp dp (hp.under hb) nk pk qk ck dk (hk.under hb) n p q c d A B hn (hA.below hb) (hB.below hb) ih
set_option maxRecDepth 100000 in
set_option maxHeartbeats 8000000 in
theorem sameExprs_of {w : World} {n : Nat} {p q : Option Addr} (c d : Nat) {A B : Nat → Nat → Value} (hn : n ≤ 1000000000000) (hA : Row w 11 p n A) (hB : Row w 11 q n B)
    (ih : ∀ i, i < n → ∀ w', Below w.heap.size w w' → Calls Tryz.prog 43 #[agg11 (A i), agg11 (B i)] w' fun e w'' => e = .returned (.bool true) ∧ Below w'.heap.size w' w'') :
    Calls Tryz.prog 90 #[.slice p n c, .slice q n d] w fun e w'' => e = .returned (.bool true) ∧ Below w.heap.size w w'' := by
  have HA := Lib.hid hA
  have HB := Lib.hid hB
  have HI := Lib.hid ih
  clear hA hB ih
  go_enter Tryz.func90, Tryz.ntmps90
  go_wp2
  go_loopw [5] (fun v5 wr => ∃ i : Nat, i ≤ n ∧ v5 = .int .i64 i ∧ Hid (Below w.heap.size w wr)) (fun v5 _ => n - (intOf v5).toNat)
  case atStart => exact ⟨0, Nat.zero_le _, rfl, Lib.hid (Below.refl _ _)⟩
  case round =>
    obtain ⟨i, hi, rfl, HR⟩ := hrel
    by_cases hlt : i < n
    · obtain ⟨pb, po, hp, hpc⟩ := (HA.out.below HR.out).at_ (by omega)
      obtain ⟨qb, qo, hq, hqc⟩ := (HB.out.below HR.out).at_ (by omega)
      subst hp hq
      have g0 : decide ((i : Int) < n) = true := decide_eq_true (by omega)
      have g1 : (0 : Int) ≤ i := by omega
      have g2 : (i : Int) < n := by omega
      have a0 := hpc i hlt 0 (by decide)
      have a1 := hpc i hlt 1 (by decide)
      have a2 := hpc i hlt 2 (by decide)
      have a3 := hpc i hlt 3 (by decide)
      have a4 := hpc i hlt 4 (by decide)
      have a5 := hpc i hlt 5 (by decide)
      have a6 := hpc i hlt 6 (by decide)
      have a7 := hpc i hlt 7 (by decide)
      have a8 := hpc i hlt 8 (by decide)
      have a9 := hpc i hlt 9 (by decide)
      have a10 := hpc i hlt 10 (by decide)
      have e0 := hqc i hlt 0 (by decide)
      have e1 := hqc i hlt 1 (by decide)
      have e2 := hqc i hlt 2 (by decide)
      have e3 := hqc i hlt 3 (by decide)
      have e4 := hqc i hlt 4 (by decide)
      have e5 := hqc i hlt 5 (by decide)
      have e6 := hqc i hlt 6 (by decide)
      have e7 := hqc i hlt 7 (by decide)
      have e8 := hqc i hlt 8 (by decide)
      have e9 := hqc i hlt 9 (by decide)
      have e10 := hqc i hlt 10 (by decide)
      clear hpc hqc
      simp only [Nat.add_zero] at a0 e0
      go_wp2_with fail
      refine still_tail2 8 (by kernel_rfl) (by kernel_rfl) ?_
      simp only [List.take_succ_cons, List.take_zero, List.drop_succ_cons, List.drop_zero]
      iterate 8 still_step
      refine wpStill_nil ?_
      go_wp2_with fail
      have hbr : Below w.heap.size w wr.drew := drew_u HR.out
      refine (HI.out i hlt _ hbr).mono ?_
      rintro e w3 ⟨rfl, hb3⟩
      have HR3 := Lib.hid (hbr.trans (hb3.mono hbr.size))
      clear hb3 hbr a0 e0 a1 e1 a2 e2 a3 e3 a4 e4 a5 e5 a6 e6 a7 e7 a8 e8 a9 e9 a10 e10
      go_wp2
      go_roundw
      case rel => exact ⟨i + 1, by omega, by go_num, HR3⟩
      case measure => simp [intOf]; omega
    · have g0 : decide ((i : Int) < n) = false := decide_eq_false (by omega)
      go_wp2
      go_ret
      exact ⟨rfl, HR.out⟩
set_option maxRecDepth 100000 in
set_option maxHeartbeats 8000000 in
theorem sameExpr_any {w : World} {v u : Value} (h : ExAl w v u) : ∀ w', Below w.heap.size w w' → Calls Tryz.prog 43 #[v, u] w' fun e w'' => e = .returned (.bool true) ∧ Below w'.heap.size w' w'' := by
  induction h with
  | mk k num s t0 t1 t2 t3 t4 u0 u1 u2 u3 u4 ht np pp qp cp dp hp nk pk qk ck dk hk n p q c d A B hn hA hB h ih =>
    intro w' hb
    have HT := Lib.hid (ht.under hb)
    have HP := Lib.hid (hp.under hb)
    have HK := Lib.hid (hk.under hb)
    have HE := Lib.hid (fun w2 (hb2 : Below w'.heap.size w' w2) => sameExprs_of c d hn (hA.below (hb.trans (hb2.mono hb.size))) (hB.below (hb.trans (hb2.mono hb.size))) (fun i hi w3 hb3 => ih i hi w3 ((hb.trans (hb2.mono hb.size)).trans (hb3.mono (hb.trans (hb2.mono hb.size)).size))))
    clear hA hB h ih hb ht hp hk
    go_enter Tryz.func43, Tryz.ntmps43
    go_wp2_with fail
    have hb0 : Below w'.heap.size w' ((w'.alloc (.cells #[.int .i64 k, .string s, .int .i64 num, t0, t1, t2, t3, t4, .slice pp np cp, .slice pk nk ck, .slice p n c] 37)).alloc (.cells #[.int .i64 k, .string s, .int .i64 num, u0, u1, u2, u3, u4, .slice qp np dp, .slice qk nk dk, .slice q n d] 37)) := ((Below.refl _ _).alloc (Nat.le_refl _) _).alloc (by simp) _
    refine (sameType_any HT.out _ hb0).mono ?_
    rintro e w1 ⟨rfl, hb1⟩
    have x8 : w1.cell? ⟨w'.heap.size, 8, none⟩ = some (.slice pp np cp) := below_cell hb1 (by simp [go_sem])
    have y8 : w1.cell? ⟨w'.heap.size + 1, 8, none⟩ = some (.slice qp np dp) := below_cell hb1 (by simp [go_sem])
    have x9 : w1.cell? ⟨w'.heap.size, 9, none⟩ = some (.slice pk nk ck) := below_cell hb1 (by simp [go_sem])
    have y9 : w1.cell? ⟨w'.heap.size + 1, 9, none⟩ = some (.slice qk nk dk) := below_cell hb1 (by simp [go_sem])
    have x10 : w1.cell? ⟨w'.heap.size, 10, none⟩ = some (.slice p n c) := below_cell hb1 (by simp [go_sem])
    have y10 : w1.cell? ⟨w'.heap.size + 1, 10, none⟩ = some (.slice q n d) := below_cell hb1 (by simp [go_sem])
    have hbw : Below w'.heap.size w' w1 := hb0.trans (hb1.mono hb0.size)
    have HB1 := Lib.hid hbw
    clear hb0 hb1 hbw
    go_wp2_with fail
    refine (sameParams_any cp dp (HP.out.under HB1.out)).mono ?_
    rintro e w2 ⟨rfl, hb2⟩
    have x9 := below_cell hb2 x9
    have y9 := below_cell hb2 y9
    have x10 := below_cell hb2 x10
    have y10 := below_cell hb2 y10
    have HB2 := Lib.hid (HB1.out.trans (hb2.mono HB1.out.size))
    clear hb2 x8 y8
    go_wp2_with fail
    refine (sameStrings_any ck dk (HK.out.under HB2.out)).mono ?_
    rintro e w3 ⟨rfl, hb3⟩
    have x10 := below_cell hb3 x10
    have y10 := below_cell hb3 y10
    have HB3 := Lib.hid (HB2.out.trans (hb3.mono HB2.out.size))
    clear hb3 x9 y9
    go_wp2_with fail
    refine (HE.out _ HB3.out).mono ?_
    rintro e w4 ⟨rfl, hb4⟩
    have HB4 := Lib.hid (HB3.out.trans (hb4.mono HB3.out.size))
    clear hb4
    go_wp2
    go_ret
    exact ⟨rfl, HB4.out⟩
end Go.Proofs.YtjnimfnelacceaaGreatDoor
namespace Go.Proofs.YtjnimfnelacceaaGreatDoor
open Go.RowKit

/-- Cells of a block. -/
def BoxAt (w : World) (b : Nat) (X : Array Value) : Prop := ∀ i v, X[i]? = some v → w.cell? ⟨b, i, none⟩ = some v
theorem BoxAt.under {w w' : World} {b : Nat} {X : Array Value} (h : BoxAt w b X) (hb : Below w.heap.size w w') : BoxAt w' b X := fun i v hi => below_cell hb (h i v hi)
theorem wp_at {P : Program} {Q : Exit → Act → World → Prop} {c : Code} {a : Act} {w : World} (F : World → Prop) (hF : F w) (h : ∀ wx, F wx → c.wp P Q a wx) : c.wp P Q a w := h w hF
theorem box_new (w : World) (X : Array Value) (t : TypeId) : BoxAt (w.alloc (.cells X t)) w.heap.size X := fun i v hi => by simp [go_sem, hi]
section
variable {P : Program} {ops : Array Oper} {Q : Exit → Act → World → Prop}
/-- A struct out of cells that are known. -/
theorem run_loadAt_box (w : World) (t : TypeId) (b o : Nat) (X : Array Value) (fs : Array Field) (hu : P.underlying t = some (.struct fs)) (hi : (P.info? t).map (·.size) = some X.size)
    (hc : ∀ j v, X[j]? = some v → w.cell? ⟨b, o + j, none⟩ = some v) : (Instr.loadAt t (.pointer (some ⟨b, o, none⟩))).run P w = .ok (.agg X) w := by
  have hl : (loadCells ⟨b, o, none⟩ X.toList.length).run P w = .ok X.toList.toArray w :=
    run_loadCells_list (P := P) w ⟨b, o, none⟩ X.toList (fun j v hv => by
      have hadd : (⟨b, o, none⟩ : Addr).add j = ⟨b, o + j, none⟩ := by unfold Addr.add; split <;> simp_all
      rw [hadd]
      exact hc j v (by simpa using hv))
  simp only [Instr.loadAt, Instr.sureAddr, Sem.run_bind, Sem.run_pure, Result.andThen]
  cases hq : P.info? t with
  | none => simp [hq] at hi
  | some i =>
    have hs : i.size = X.size := by simpa [hq] using hi
    have hagg : (isAgg t).run P w = .ok true w := by
      unfold isAgg
      rw [Sem.run_bind, run_underlying hu w]
      simp_all
    simp only [Array.length_toList, Array.toArray_toList] at hl
    simp [loadVar, Sem.run_bind, hagg, sizeOf, typeInfo, hq, hs, hl]
theorem wpList_load_big {rest : List Oper} {oi : Oper} {a : Act} {w : World} (t : TypeId) (x : Operand) (hop : oi.op = .load t x) (hg : oi.guard = none) (b o : Nat) (X : Array Value) (fs : Array Field) (hu : P.underlying t = some (.struct fs))
    (hx : a.eval x = .pointer (some ⟨b, o, none⟩)) (hi : (P.info? t).map (·.size) = some X.size) (hc : ∀ j v, X[j]? = some v → w.cell? ⟨b, o + j, none⟩ = some v)
    (h : wpList P ops Q rest (a.put oi.dst (.agg X)) w) : wpList P ops Q (oi :: rest) a w := by
  refine wpList_plain hg fun K hK => ?_
  have hrun : (execOp a.eval oi).run P w = .ok (.value (.agg X)) w := by
    have := run_loadAt_box w t b o X fs hu hi hc
    unfold execOp
    simp only [hop, hx]
    simp only [Sem.run_bind, Sem.run_pure, Result.andThen, this]
  unfold Oper.wp
  rw [hrun]
  exact hK _ _ h
theorem wpList_store_new {rest : List Oper} {oi : Oper} {a : Act} {w : World} (t : TypeId) (p x : Operand) (hop : oi.op = .store t p x) (hg : oi.guard = none) (hd : oi.dst = none) (w0 : World) (Z X : Array Value) (hw : w = w0.alloc (.cells Z t))
    (hp : a.eval p = .pointer (some ⟨w0.heap.size, 0, none⟩)) (hx : a.eval x = .agg X) (hi : (P.info? t).map (·.size) = some X.size) (ho : Z.size = X.size) (h1 : X.all (·.oneCell') = true)
    (h : wpList P ops Q rest a (w0.alloc (.cells X t))) : wpList P ops Q (oi :: rest) a w := by
  refine wpList_plain hg fun K hK => ?_
  subst hw
  have hrun : (execOp a.eval oi).run P (w0.alloc (.cells Z t)) = .ok .skip (w0.alloc (.cells X t)) := by
    have := run_storeAt_new (P := P) w0 t Z X hi ho h1
    unfold execOp
    simp only [hop, hp, hx]
    simp only [Sem.run_bind, Sem.run_pure, Result.andThen, this]
  unfold Oper.wp
  rw [hrun]
  refine hK _ _ ?_
  rw [hd]
  exact h
theorem wpStill_load_big {R : Act → Prop} {rest : List Oper} {oi : Oper} {a : Act} {w : World} (t : TypeId) (x : Operand) (hop : oi.op = .load t x) (hg : oi.guard = none) (b o : Nat) (X : Array Value) (fs : Array Field) (hu : P.underlying t = some (.struct fs))
    (hx : a.eval x = .pointer (some ⟨b, o, none⟩)) (hi : (P.info? t).map (·.size) = some X.size) (hc : ∀ j v, X[j]? = some v → w.cell? ⟨b, o + j, none⟩ = some v)
    (h : wpStill P ops w R rest (a.put oi.dst (.agg X))) : wpStill P ops w R (oi :: rest) a := by
  refine wpStill_step fun K hK => ?_
  have hrun : (execOp a.eval oi).run P w = .ok (.value (.agg X)) w := by
    have := run_loadAt_box w t b o X fs hu hi hc
    unfold execOp
    simp only [hop, hx]
    simp only [Sem.run_bind, Sem.run_pure, Result.andThen, this]
  simp only [Region.wanted, hg, if_true]
  unfold Oper.still
  rw [hrun]
  exact ⟨rfl, hK _ h⟩
end
end Go.Proofs.YtjnimfnelacceaaGreatDoor
