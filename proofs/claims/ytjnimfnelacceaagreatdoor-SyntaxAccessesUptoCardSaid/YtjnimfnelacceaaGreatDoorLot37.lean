/- The reference's tables: plain names, rules, signs, by the evaluator. The reference: best, as a plain function. -/
import Derived.Test.YtjnimfnelacceaaGreatDoorLot36
import Derived.Test.YtjnimfnelacceaaGreatDoorLot12
import Derived.Test.YtjnimfnelacceaaGreatDoorLot14
set_option linter.unusedSimpArgs false
set_option linter.unusedVariables false
set_option maxRecDepth 100000
namespace Go.Proofs.YtjnimfnelacceaaGreatDoor
open Go.RowKit

def noO : FuncId → Oc := fun _ => ⟨fun _ _ => none⟩
theorem noO_ok {w0 : World} : CallOk Tryz.prog 9 9 w0 fun f args F => (noO f).run args F := by
  intro f args F r F1 h
  have h : none = some (r, F1) := h
  cases h
/-- The values of the cells of a returned slice. -/
def sliceOf : RF → Option (Nat × List Value)
  | some (.ret (.slice (some ⟨b, 0, none⟩) n _), F) => (match F.rd b with
    | some (.cells xs _ _) => some (n, xs.toList)
    | _ => none)
  | _ => none
def sameB : List UInt8 → List UInt8 → Bool
  | [], [] => true
  | a :: x, b :: y => if Nat.beq a.toNat b.toNat then sameB x y else false
  | _, _ => false
theorem sameB_eq : ∀ a b : List UInt8, sameB a b = true → a = b
  | [], [], _ => rfl
  | a :: x, b :: y, h => by
    unfold sameB at h
    split at h
    · rename_i he
      rw [sameB_eq x y h, UInt8.toNat_inj.1 (Nat.eq_of_beq_eq_true he)]
    · cases h
  | [], _ :: _, h => by cases h
  | _ :: _, [], h => by cases h
def sameV : List Value → List (List UInt8) → Bool
  | .string s :: vs, l :: ls => if sameB s.data.toList l then sameV vs ls else false
  | _, [] => true
  | _, _ => false
def sameR : List Value → List (Nat × List UInt8) → Bool
  | .int .i64 (.ofNat k) :: .string s :: vs, (m, l) :: ls => if Nat.beq k m then (if sameB s.data.toList l then sameR vs ls else false) else false
  | _, [] => true
  | _, _ => false
def plainT : List (List UInt8) := [[76], [76, 87, 42, 70], [66, 87, 42, 76], [66, 87, 42, 76, 87, 42, 70]]
def rulesT : List (Nat × List UInt8) :=
  (plainT.flatMap fun n => [(1, n), (1, n ++ [64, 65, 81, 42]), (3, n ++ [58]), (6, 63 :: n)] ++ plainT.map fun m => (6, 63 :: n ++ 58 :: m)) ++ [(2, [68, 68, 42]), (2, [45, 68, 68, 42]), (4, [35, 116]), (4, [35, 102])]
def signsT : List (List UInt8) := [[40], [41], [91], [93], [123], [125], [44], [59], [46], [61], [60], [62], [43], [45], [42], [47], [38], [124], [126], [63], [58, 61], [58, 58], [61, 62], [61, 61], [60, 61], [62, 61]]
def goodV (r : RF) (t : List (List UInt8)) : Bool := match sliceOf r with | some (n, vs) => if Nat.beq n t.length then sameV vs t else false | none => false
def goodR (r : RF) (t : List (Nat × List UInt8)) : Bool := match sliceOf r with | some (n, vs) => if Nat.beq n t.length then sameR vs t else false | none => false
theorem plain_run : goodV (funE Tryz.prog 9 entS thePlans noO 10000 20 203 [] c0) plainT = true := by kernel_rfl
theorem signs_run : goodV (funE Tryz.prog 9 entS thePlans noO 10000 20 207 [] c0) signsT = true := by kernel_rfl
theorem rules_run : goodR (funE Tryz.prog 9 entS thePlans noO 10000 20 202 [] c0) rulesT = true := by kernel_rfl
theorem sliceOf_some {r : RF} {n : Nat} {vs : List Value} (h : sliceOf r = some (n, vs)) : ∃ b c F xs e fz, r = some (.ret (.slice (some ⟨b, 0, none⟩) n c), F) ∧ F.rd b = some (.cells xs e fz) ∧ xs.toList = vs := by
  unfold sliceOf at h
  split at h
  · rename_i b n' c F
    split at h
    · rename_i xs e fz hrd
      injection h with h
      injection h with h1 h2
      subst h1
      exact ⟨b, c, F, xs, e, fz, rfl, hrd, h2⟩
    · cases h
  · cases h
/-- A call that the evaluator answers with a slice. -/
theorem slice_calls {f : FuncId} {n : Nat} {vs : List Value} (h : sliceOf (funE Tryz.prog 9 entS thePlans noO 10000 20 f [] c0) = some (n, vs)) (w : World) (h9 : 9 ≤ w.heap.size) :
    Calls Tryz.prog f #[] w fun e w' => Below w.heap.size w w' ∧ ∃ b c, e = .returned (.slice (some ⟨b, 0, none⟩) n c) ∧ ∀ (i : Nat) (v : Value), vs[i]? = some v → flat1 v = true → w'.cell? ⟨b, i, none⟩ = some v := by
  obtain ⟨b, c, F1, xs, e, fz, hx, hrd, rfl⟩ := sliceOf_some h
  have hC := funE_spec (w0 := w) (G := 9) (B := 9) (P := Tryz.prog) (by kernel_rfl) ent_ok plans_ok noO_ok (fuel := 10000) 20
  refine (hC _ _ _ _ _ hx _ w #[] (c0_sim w h9) ⟨rfl, fun i h => absurd h (by simp)⟩).mono ?_
  rintro en w' ⟨M, _, hS, hR⟩
  cases en with
  | returned v =>
    have hR : VR Tryz.prog M (.slice (some ⟨b, 0, none⟩) n c) v := hR
    refine ⟨hS.below, ?_⟩
    cases hR with
    | slice _ _ _ _ c' hb hc =>
    refine ⟨M.at_ b, c', rfl, fun i v hv hf => ?_⟩
    have hcell : F1.toW.cell? ⟨b, i, none⟩ = some v := by
      rw [cell?_of (F1.rd_some hrd)]
      simpa using hv
    obtain ⟨_, v', h1, h2⟩ := hS.load hcell
    rw [h1, h2.eq_of_flat1 hf]
  | _ => exact hR.elim
theorem sameV_spec : ∀ (vs : List Value) (ls : List (List UInt8)), sameV vs ls = true → ∀ (i : Nat) (l : List UInt8), ls[i]? = some l → ∃ s : ByteArray, vs[i]? = some (Value.string s) ∧ s.data.toList = l
  | vs, [], _, i, l, h => by simp at h
  | [], l :: ls, h, _, _, _ => by simp [sameV] at h
  | v :: vs, l :: ls, h, i, l', hl => by
    cases v with
    | string s =>
      simp only [sameV] at h
      split at h
      · rename_i he
        cases i with
        | zero => exact ⟨s, rfl, by rw [sameB_eq _ _ he]; simpa using hl⟩
        | succ i => exact sameV_spec vs ls h i l' (by simpa using hl)
      · cases h
    | _ => simp [sameV] at h
theorem sameR_spec : ∀ (vs : List Value) (ls : List (Nat × List UInt8)), sameR vs ls = true → ∀ (i k : Nat) (l : List UInt8), ls[i]? = some (k, l) → ∃ s : ByteArray, vs[2 * i]? = some (Value.int .i64 k) ∧ vs[2 * i + 1]? = some (Value.string s) ∧ s.data.toList = l
  | vs, [], _, i, k, l, h => by simp at h
  | [], l :: ls, h, _, _, _, _ => by simp [sameR] at h
  | [v], l :: ls, h, _, _, _, _ => by unfold sameR at h; split at h <;> simp_all
  | v :: u :: vs, (k, l) :: ls, h, i, k', l', hl => by
    unfold sameR at h
    split at h
    · rename_i m s vs' k2 l2 ls' e1 e2
      injection e1 with e1 e3
      injection e3 with e3 e4
      injection e2 with e2 e5
      injection e2 with e6 e7
      subst e1 e3 e4 e5 e6 e7
      split at h
      · rename_i hk
        split at h
        · rename_i hl2
          cases i with
          | zero =>
            simp only [List.getElem?_cons_zero, Option.some.injEq, Prod.mk.injEq] at hl
            refine ⟨s, ?_, rfl, ?_⟩
            · rw [← hl.1, ← Nat.eq_of_beq_eq_true hk]; rfl
            · rw [sameB_eq _ _ hl2]; exact hl.2
          | succ i =>
            have := sameR_spec vs ls h i k' l' (by simpa using hl)
            simpa [Nat.mul_add] using this
        · cases h
      · cases h
    · rename_i h2; cases h2
    · cases h
/-- A slice of strings that is there. -/
structure TabS (w : World) (b : Nat) (t : List (List UInt8)) : Prop where
  at_ : ∀ (i : Nat) (l : List UInt8), t[i]? = some l → ∃ s : ByteArray, w.cell? ⟨b, i, none⟩ = some (.string s) ∧ s.data.toList = l
structure TabR (w : World) (b : Nat) (t : List (Nat × List UInt8)) : Prop where
  at_ : ∀ (i k : Nat) (l : List UInt8), t[i]? = some (k, l) → ∃ s : ByteArray, w.cell? ⟨b, 2 * i, none⟩ = some (.int .i64 k) ∧ w.cell? ⟨b, 2 * i + 1, none⟩ = some (.string s) ∧ s.data.toList = l
theorem TabS.below {w w' : World} {b : Nat} {t : List (List UInt8)} (h : TabS w b t) (hb : Below w.heap.size w w') : TabS w' b t :=
  ⟨fun i l hl => by obtain ⟨s, h1, h2⟩ := h.at_ i l hl; exact ⟨s, below_cell hb h1, h2⟩⟩
theorem TabR.below {w w' : World} {b : Nat} {t : List (Nat × List UInt8)} (h : TabR w b t) (hb : Below w.heap.size w w') : TabR w' b t :=
  ⟨fun i k l hl => by obtain ⟨s, h1, h2, h3⟩ := h.at_ i k l hl; exact ⟨s, below_cell hb h1, below_cell hb h2, h3⟩⟩
theorem goodV_calls {f : FuncId} {t : List (List UInt8)} (h : goodV (funE Tryz.prog 9 entS thePlans noO 10000 20 f [] c0) t = true) (w : World) (h9 : 9 ≤ w.heap.size) :
    Calls Tryz.prog f #[] w fun e w' => Below w.heap.size w w' ∧ ∃ b c, e = .returned (.slice (some ⟨b, 0, none⟩) t.length c) ∧ TabS w' b t := by
  unfold goodV at h
  split at h
  · rename_i n vs hs
    split at h
    · rename_i hn
      have hn := Nat.eq_of_beq_eq_true hn
      subst hn
      refine (slice_calls hs w h9).mono ?_
      rintro e w' ⟨hb, b, c, rfl, hc⟩
      refine ⟨hb, b, c, rfl, ⟨fun i l hl => ?_⟩⟩
      obtain ⟨s, h1, h2⟩ := sameV_spec vs t h i l hl
      exact ⟨s, hc i _ h1 rfl, h2⟩
    · cases h
  · cases h
theorem goodR_calls {f : FuncId} {t : List (Nat × List UInt8)} (h : goodR (funE Tryz.prog 9 entS thePlans noO 10000 20 f [] c0) t = true) (w : World) (h9 : 9 ≤ w.heap.size) :
    Calls Tryz.prog f #[] w fun e w' => Below w.heap.size w w' ∧ ∃ b c, e = .returned (.slice (some ⟨b, 0, none⟩) t.length c) ∧ TabR w' b t := by
  unfold goodR at h
  split at h
  · rename_i n vs hs
    split at h
    · rename_i hn
      have hn := Nat.eq_of_beq_eq_true hn
      subst hn
      refine (slice_calls hs w h9).mono ?_
      rintro e w' ⟨hb, b, c, rfl, hc⟩
      refine ⟨hb, b, c, rfl, ⟨fun i k l hl => ?_⟩⟩
      obtain ⟨s, h1, h2, h3⟩ := sameR_spec vs t h i k l hl
      exact ⟨s, hc _ _ h1 rfl, hc _ _ h2 rfl, h3⟩
    · cases h
  · cases h
theorem rplain_any (w : World) (h9 : 9 ≤ w.heap.size) : Calls Tryz.prog 203 #[] w fun e w' => Below w.heap.size w w' ∧ ∃ b c, e = .returned (.slice (some ⟨b, 0, none⟩) 4 c) ∧ TabS w' b plainT := goodV_calls plain_run w h9
theorem rsigns_any (w : World) (h9 : 9 ≤ w.heap.size) : Calls Tryz.prog 207 #[] w fun e w' => Below w.heap.size w w' ∧ ∃ b c, e = .returned (.slice (some ⟨b, 0, none⟩) 26 c) ∧ TabS w' b signsT := goodV_calls signs_run w h9
theorem rrules_any (w : World) (h9 : 9 ≤ w.heap.size) : Calls Tryz.prog 202 #[] w fun e w' => Below w.heap.size w w' ∧ ∃ b c, e = .returned (.slice (some ⟨b, 0, none⟩) 36 c) ∧ TabR w' b rulesT := goodR_calls rules_run w h9
end Go.Proofs.YtjnimfnelacceaaGreatDoor
namespace Go.Proofs.YtjnimfnelacceaaGreatDoor
open Go.RowKit

def nameTo (l : List UInt8) (i : Nat) : Bool := (plainT.take i).any fun p => decide (0 < lonB p l)
def bestStep (name : Bool) (l : List UInt8) (out : Nat × Nat) (r : Nat × List UInt8) : Nat × Nat :=
  if (name && r.1 != 1 && r.1 != 3) || !allowB r.1 r.2 l then out
  else if decide (out.2 < lonB r.2 l) || (lonB r.2 l == out.2 && decide (r.1 < out.1)) then (r.1, lonB r.2 l) else out
def ruleTo (name : Bool) (l : List UInt8) (i : Nat) : Nat × Nat := (rulesT.take i).foldl (bestStep name l) (0, 0)
def signStep (l : List UInt8) (out : Nat × Nat) (t : List UInt8) : Nat × Nat := if decide (out.2 < t.length) && decide (t.length ≤ l.length) && l.take t.length == t then (5, t.length) else out
def signTo (l : List UInt8) (out : Nat × Nat) (i : Nat) : Nat × Nat := (signsT.take i).foldl (signStep l) out
def bestB (l : List UInt8) : Nat × Nat := if nameTo l 4 then ruleTo true l 36 else signTo l (ruleTo false l 36) 26
end Go.Proofs.YtjnimfnelacceaaGreatDoor
