/- One operation on a small world that is read and written fast. The evaluator: runs code in a small world that is read and written fast. -/
import Derived.Test.YtjnimfnelacceaaGreatDoorLot23
import Derived.LoopN
import Derived.Scope
import Derived.Defers
import Derived.StillTailTactics
set_option linter.unusedSimpArgs false
set_option linter.unusedVariables false
namespace Go.Proofs.YtjnimfnelacceaaGreatDoor
open Go.RowKit

variable {P : Program} {B G : Nat} {w0 : World} {L : Lie} {w : World}

theorem Quiet.build (t : TypeId) (ps : Array (Nat × Value)) : Quiet P (Instr.build t ps) := by
  unfold Instr.build
  refine .bind (.zeroValue t) fun z => ?_
  dsimp only
  refine .bind (.underlying t) fun d => ?_
  split
  · refine .bind (Quiet.arrayMapM (fun f => .bind (.sizeOf _) fun _ => .pure _) _) fun pl => ?_
    split
    · exact .pure _
    · exact .halt _
  · refine .bind (.sizeOf _) fun n => ?_
    split
    · exact .pure _
    · exact .halt _
  · exact .halt _
theorem Quiet.part (t : TypeId) (cs : Array Value) (o : Nat) : Quiet P (part t cs o) := by
  unfold Go.part
  refine .bind (.isAgg t) fun b => ?_
  split
  · exact .bind (.sizeOf _) fun _ => .pure _
  · split
    · exact .pure _
    · exact .halt _
theorem Quiet.field (t : TypeId) (v : Value) (f : Nat) : Quiet P (Instr.field t v f) := by
  unfold Instr.field
  refine .bind (.underlying t) fun d => ?_
  split
  · split
    · cases v with
      | agg cs => exact .bind (.pure _) fun _ => .part _ _ _
      | _ => exact .bind (.halt _) fun _ => .part _ _ _
    · exact .halt _
  · exact .halt _
theorem Quiet.run {α : Type} {e : Sem α} {a : α} {x y : World} (h : Quiet P e) (hr : e.run P x = .ok a y) (c : World) : e.run P c = .ok a c := by
  rcases h with ⟨b, h⟩ | ⟨hl, h⟩
  · rw [h x] at hr
    injection hr with e1 e2
    rw [h c, e1]
  · rw [h x] at hr; cases hr
def memF (P : Program) (B : Nat) (ρ : Operand → Value) (op : Op) (F : Fw) : Option (Value × Fw) :=
  match op with
  | .alloc t => (match zeroC P t with
    | some z => newF F t z.cells
    | none => none)
  | .box t x => newF F t (ρ x).cells
  | .build t ps => if zf P t = true then (match (Instr.build t (ps.map fun (i, x) => (i, ρ x))).run P default with
    | .ok v _ => some (v, F)
    | .halt _ _ => none) else none
  | .buildSlice t n ps => (match P.underlying t with
    | some (.slice elem) => (match bsCells P elem n (ps.map fun (i, x) => (i, ρ x)).toList with
      | some cells => sliceNewF F elem cells n
      | none => none)
    | _ => none)
  | .load t x => (match loadF P t (ρ x) F with
    | some v => some (v, F)
    | none => none)
  | .store t x v => (match storeF P B t (ρ x) (ρ v) F with
    | some F1 => some (undef, F1)
    | none => none)
  | .makeMap _ none => if big F.n then some (.map (some F.n), F.push (.map #[] 0)) else none
  | .makeSlice t l k => (match P.underlying t, ρ l, ρ k with
    | some (.slice e), .int _ a, .int _ b => if a = b ∧ 0 ≤ a then (match makeCells P e a.toNat with
      | some cells => sliceNewF F e cells a.toNat
      | none => none) else none
    | _, _, _ => none)
  | .slice t x (some lo) none none => (match sliceF P t (ρ x) (ρ lo) F with
    | some v => some (v, F)
    | none => none)
  | .field t x f => (match (Instr.field t (ρ x) f).run P default with
    | .ok v _ => some (v, F)
    | .halt _ _ => none)
  | .lookup t x k ok => (match lookupF P t (ρ x) (ρ k) ok F with
    | some v => some (v, F)
    | none => none)
  | .mapUpdate t m k x => (match updateF P B t (ρ m) (ρ k) (ρ x) F with
    | some F1 => some (undef, F1)
    | none => none)
  | .insert t m k x => (match updateF P B t (ρ m) (ρ k) (ρ x) F with
    | some F1 => some (undef, F1)
    | none => none)
  | .call k => (match k.callee with
    | .builtin .append => (match k.args.toList, k.argTypes.toList with
      | [x, y], [t, t2] => appendF P B t t2 (ρ x) (ρ y) F
      | _, _ => none)
    | _ => none)
  | _ => none
theorem newF_eq {F F1 : Fw} {e : TypeId} {cells : Array Value} {v : Value} (h : newF F e cells = some (v, F1)) : v = .pointer (some ⟨F.toW.heap.size, 0, none⟩) ∧ F1.toW.heap = F.toW.heap.push (.cells cells e) := by
  unfold newF at h
  split at h
  · rename_i hb
    injection h with h
    injection h with h1 h2
    subst h1 h2
    exact ⟨by rw [Fw.size], F.push_heap _ hb⟩
  · cases h
theorem sliceNewF_eq {F F1 : Fw} {e : TypeId} {cells : Array Value} {v : Value} {n : Nat} (h : sliceNewF F e cells n = some (v, F1)) : v = .slice (some ⟨F.toW.heap.size, 0, none⟩) n n ∧ F1.toW.heap = F.toW.heap.push (.cells cells e) := by
  unfold sliceNewF at h
  split at h
  · rename_i hb
    injection h with h
    injection h with h1 h2
    subst h1 h2
    exact ⟨by rw [Fw.size], F.push_heap _ hb⟩
  · cases h
theorem memF_eq {ρ : Operand → Value} {op : Op} {F F1 : Fw} {v : Value} (h : memF P B ρ op F = some (v, F1)) : ∃ c1, memC P B ρ op F.toW = some (v, c1) ∧ c1.heap = F1.toW.heap := by
  unfold memF at h
  unfold memC
  split at h
  · rename_i t
    split at h
    · rename_i z hz
      obtain ⟨hzf, hzr⟩ := zeroC_spec hz
      obtain ⟨rfl, h2⟩ := newF_eq h
      refine ⟨{ F.toW with heap := F.toW.heap.push (.cells z.cells t) }, ?_, h2.symm⟩
      dsimp only
      rw [if_pos hzf]
      unfold Instr.alloc
      simp only [Sem.run_bind, hzr, Result.andThen_ok]
      rfl
    · cases h
  · rename_i t x
    obtain ⟨rfl, h2⟩ := newF_eq h
    exact ⟨{ F.toW with heap := F.toW.heap.push (.cells (ρ x).cells t) }, rfl, h2.symm⟩
  · rename_i t ps
    split at h
    · rename_i hzf
      split at h
      · rename_i v0 c0 hr
        injection h with h
        injection h with h1 h2
        subst h1 h2
        refine ⟨F.toW, ?_, rfl⟩
        dsimp only
        rw [if_pos hzf, Quiet.run (.build t _) hr F.toW]
        rfl
      · cases h
    · cases h
  · rename_i t n ps
    split at h
    · rename_i elem hu
      split at h
      · rename_i cells hc
        obtain ⟨rfl, h2⟩ := sliceNewF_eq h
        obtain ⟨h3, h4⟩ := buildSliceF_eq hu hc F.toW
        refine ⟨{ F.toW with heap := F.toW.heap.push (.cells cells elem) }, ?_, h2.symm⟩
        dsimp only
        rw [if_pos h4, h3]
        rfl
      · cases h
    · cases h
  · rename_i t x
    split at h
    · rename_i u hu
      injection h with h
      injection h with h1 h2
      subst h1 h2
      exact ⟨F.toW, loadF_eq hu, rfl⟩
    · cases h
  · rename_i t x y
    split at h
    · rename_i F2 hs
      injection h with h
      injection h with h1 h2
      subst h1 h2
      obtain ⟨a, c1, ha, hB, hr, hh⟩ := storeF_eq hs
      refine ⟨c1, ?_, hh⟩
      dsimp only
      rw [ha] at hr ⊢
      dsimp only
      rw [if_pos hB, hr]
      rfl
    · cases h
  · rename_i t
    split at h
    · rename_i hb
      injection h with h
      injection h with h1 h2
      subst h1 h2
      refine ⟨{ F.toW with heap := F.toW.heap.push (.map #[] 0) }, ?_, (F.push_heap _ hb).symm⟩
      dsimp only
      rw [show (Instr.makeMap t none).run P F.toW = Result.ok (.map (some F.toW.heap.size)) { F.toW with heap := F.toW.heap.push (.map #[] 0) } from rfl, Fw.size]
      rfl
    · cases h
  · rename_i t l k
    split at h
    · rename_i e kl a kk b hu hl hk
      split at h
      · rename_i hc
        obtain ⟨rfl, h0⟩ := hc
        split at h
        · rename_i cells hcells
          obtain ⟨rfl, h2⟩ := sliceNewF_eq h
          obtain ⟨h3, h4⟩ := makeSliceF_eq (k := kl) (k' := kk) hu hcells F.toW
          refine ⟨{ F.toW with heap := F.toW.heap.push (.cells cells e) }, ?_, h2.symm⟩
          dsimp only
          rw [hl, hk, if_pos ⟨h4, rfl, rfl⟩]
          rw [Int.toNat_of_nonneg h0] at h3
          rw [h3]
          rfl
        · cases h
      · cases h
    · cases h
  · rename_i t x lo
    split at h
    · rename_i u hu
      injection h with h
      injection h with h1 h2
      subst h1 h2
      exact ⟨F.toW, by dsimp only; rw [sliceF_eq hu]; rfl, rfl⟩
    · cases h
  · rename_i t x f
    split at h
    · rename_i v0 c0 hr
      injection h with h
      injection h with h1 h2
      subst h1 h2
      refine ⟨F.toW, ?_, rfl⟩
      dsimp only
      rw [Quiet.run (.field t _ f) hr F.toW]
      rfl
    · cases h
  · rename_i t x k ok
    split at h
    · rename_i u hu
      injection h with h
      injection h with h1 h2
      subst h1 h2
      exact ⟨F.toW, by dsimp only; rw [lookupF_eq hu]; rfl, rfl⟩
    · cases h
  · rename_i t m k x
    split at h
    · rename_i F2 hs
      injection h with h
      injection h with h1 h2
      subst h1 h2
      obtain ⟨c1, hc, hh⟩ := updateF_eq hs
      exact ⟨c1, by dsimp only; rw [hc]; rfl, hh⟩
    · cases h
  · rename_i t m k x
    split at h
    · rename_i F2 hs
      injection h with h
      injection h with h1 h2
      subst h1 h2
      obtain ⟨c1, hc, hh⟩ := updateF_eq hs
      exact ⟨c1, by dsimp only; rw [hc]; rfl, hh⟩
    · cases h
  · rename_i k
    dsimp only
    split at h
    · rename_i hk
      simp only [hk]
      split at h
      · rename_i x y t t2 h1 h2
        simp only [h1, h2]
        exact appendF_eq h
      · cases h
    · cases h
  · cases h
theorem memF_spec {F F1 : Fw} (h : Sim P B G w0 L F.toW w) {ρ ρ' : Operand → Value} {o : Oper} {v : Value} (hρ : ∀ x ∈ o.op.operands.toList, VR P L (ρ x) (ρ' x)) (he : memF P B ρ o.op F = some (v, F1)) :
    Done P B G w0 L w ρ' o v F1.toW := by
  obtain ⟨c1, hc, hh⟩ := memF_eq he
  obtain ⟨M, w1, nx, v', h1, h2, h3, h4, h5⟩ := memC_spec h hρ hc
  exact ⟨M, w1, nx, v', h1, h2, h3, h4.heap hh.symm, h5⟩

/-! ### One dispatch, with small arms -/
def okV (F : Fw) : Option Value → Option (Value × Fw)
  | some v => some (v, F)
  | none => none
def okU : Option Fw → Option (Value × Fw)
  | some F => some (undef, F)
  | none => none
def pickC (c a b : Value) : Option Value := match c with
  | .bool b' => some (if b' then a else b)
  | _ => none
def nilCheckC (x : Value) : Option Value := match x with
  | .pointer (some a) => some (.pointer (some a))
  | .func (.func f) xs ys => some (.func (.func f) xs ys)
  | _ => none
def binAnyC (P : Program) (op : BinOp) (t : TypeId) (x y : Value) (yo : Operand) : Option Value := match binC P op t x y with
  | some v => some v
  | none => ifaceC P op t x y yo
def unC (u : UnOp) (x : Value) : Option Value := match u, x with
  | .not, .bool b => some (.bool (!b))
  | _, _ => none
def mkIfaceC (P : Program) (t : TypeId) (x : Value) : Option Value := match P.underlying t with
  | some (.interface _) => none
  | some _ => some (.iface t x)
  | none => none
def extractC (x : Value) (i : Nat) : Option Value := match x with
  | .tuple vs => vs[i]?
  | _ => none
def assertAnyC (P : Program) (x : Value) (t : TypeId) (ok : Bool) : Option Value := match ok with
  | true => assertC P x t
  | false => none
def allocF (P : Program) (t : TypeId) (F : Fw) : Option (Value × Fw) := match zeroC P t with
  | some z => newF F t z.cells
  | none => none
def buildF (P : Program) (ρ : Operand → Value) (t : TypeId) (ps : Array (Nat × Operand)) (F : Fw) : Option (Value × Fw) :=
  if zf P t = true then (match (Instr.build t (ps.map fun (i, x) => (i, ρ x))).run P default with
    | .ok v _ => some (v, F)
    | .halt _ _ => none) else none
def buildSliceF (P : Program) (ρ : Operand → Value) (t : TypeId) (n : Nat) (ps : Array (Nat × Operand)) (F : Fw) : Option (Value × Fw) := match P.underlying t with
    | some (.slice elem) => (match bsCells P elem n (ps.map fun (i, x) => (i, ρ x)).toList with
      | some cells => sliceNewF F elem cells n
      | none => none)
    | _ => none
def makeMapF (r : Option Operand) (F : Fw) : Option (Value × Fw) := match r with
  | none => if big F.n then some (.map (some F.n), F.push (.map #[] 0)) else none
  | some _ => none
def makeSliceF (P : Program) (t : TypeId) (l k : Value) (F : Fw) : Option (Value × Fw) := match P.underlying t, l, k with
    | some (.slice e), .int _ a, .int _ b => if a = b ∧ 0 ≤ a then (match makeCells P e a.toNat with
      | some cells => sliceNewF F e cells a.toNat
      | none => none) else none
    | _, _, _ => none
def sliceAnyF (P : Program) (ρ : Operand → Value) (t : TypeId) (x : Operand) (lo hi mx : Option Operand) (F : Fw) : Option (Value × Fw) := match lo, hi, mx with
  | some lo, none, none => okV F (sliceF P t (ρ x) (ρ lo) F)
  | _, _, _ => none
def fieldF (P : Program) (t : TypeId) (x : Value) (f : Nat) (F : Fw) : Option (Value × Fw) := match (Instr.field t x f).run P default with
    | .ok v _ => some (v, F)
    | .halt _ _ => none
def callAnyF (P : Program) (B : Nat) (ρ : Operand → Value) (k : Call) (F : Fw) : Option (Value × Fw) := match k.callee with
    | .builtin .append => (match k.args.toList, k.argTypes.toList with
      | [x, y], [t, t2] => appendF P B t t2 (ρ x) (ρ y) F
      | _, _ => none)
    | .builtin .len => okV F (callPC P ρ k)
    | .builtin .max => okV F (callPC P ρ k)
    | _ => none
def doF (P : Program) (B : Nat) (ρ : Operand → Value) (op : Op) (F : Fw) : Option (Value × Fw) :=
  match op with
  | .move x => some (ρ x, F)
  | .assign x => some (ρ x, F)
  | .pick x y z => okV F (pickC (ρ x) (ρ y) (ρ z))
  | .nilCheck x => okV F (nilCheckC (ρ x))
  | .binOp op t x y _ => okV F (binAnyC P op t (ρ x) (ρ y) y)
  | .typeAssert x _ t ok => okV F (assertAnyC P (ρ x) t ok)
  | .unOp u _ x => okV F (unC u (ρ x))
  | .makeInterface t x => okV F (mkIfaceC P t (ρ x))
  | .makeFunc fn xs ys => some (.func fn (xs.map ρ) (ys.map ρ), F)
  | .fieldAddr t x f => okV F (fieldAddrC P t (ρ x) f)
  | .indexAddr t x i => okV F (indexAddrC P t (ρ x) (ρ i))
  | .extract x i => okV F (extractC (ρ x) i)
  | .alloc t => allocF P t F
  | .box t x => newF F t (ρ x).cells
  | .build t ps => buildF P ρ t ps F
  | .buildSlice t n ps => buildSliceF P ρ t n ps F
  | .load t x => okV F (loadF P t (ρ x) F)
  | .store t x v => okU (storeF P B t (ρ x) (ρ v) F)
  | .makeMap _ r => makeMapF r F
  | .makeSlice t l k => makeSliceF P t (ρ l) (ρ k) F
  | .slice t x lo hi mx => sliceAnyF P ρ t x lo hi mx F
  | .field t x f => fieldF P t (ρ x) f F
  | .lookup t x k ok => okV F (lookupF P t (ρ x) (ρ k) ok F)
  | .mapUpdate t m k x => okU (updateF P B t (ρ m) (ρ k) (ρ x) F)
  | .insert t m k x => okU (updateF P B t (ρ m) (ρ k) (ρ x) F)
  | .call k => callAnyF P B ρ k F
  | _ => none
def pureS (P : Program) (ρ : Operand → Value) (op : Op) : Option Value :=
  match op with
  | .move x => some (ρ x)
  | .assign x => some (ρ x)
  | .pick x y z => pickC (ρ x) (ρ y) (ρ z)
  | .nilCheck x => nilCheckC (ρ x)
  | .binOp op t x y _ => binAnyC P op t (ρ x) (ρ y) y
  | .typeAssert x _ t ok => assertAnyC P (ρ x) t ok
  | .unOp u _ x => unC u (ρ x)
  | .makeInterface t x => mkIfaceC P t (ρ x)
  | .makeFunc fn xs ys => some (.func fn (xs.map ρ) (ys.map ρ))
  | .fieldAddr t x f => fieldAddrC P t (ρ x) f
  | .indexAddr t x i => indexAddrC P t (ρ x) (ρ i)
  | .extract x i => extractC (ρ x) i
  | .call k => callPC P ρ k
  | _ => none
theorem pureS_eq (P : Program) (ρ : Operand → Value) (op : Op) : pureS P ρ op = pureC P ρ op := by
  cases op with
  | unOp u t x =>
    cases u with
    | not =>
      show unC .not (ρ x) = (match ρ x with | .bool b => some (.bool (!b)) | _ => none)
      cases ρ x <;> rfl
    | _ => cases h : ρ x <;> simp [pureS, pureC, unC, h]
  | typeAssert x t a ok => cases ok <;> rfl
  | _ => rfl
theorem doF_eq (P : Program) (B : Nat) (ρ : Operand → Value) (op : Op) (F : Fw) : doF P B ρ op F = (match pureC P ρ op with
    | some v => some (v, F)
    | none => memF P B ρ op F) := by
  cases op with
  | unOp u t x =>
    cases u with
    | not =>
      show okV F (unC .not (ρ x)) = (match (match ρ x with | .bool b => some (.bool (!b)) | _ => none) with | some v => some (v, F) | none => none)
      cases ρ x <;> rfl
    | _ => cases h : ρ x <;> simp [doF, pureC, memF, unC, okV, h]
  | typeAssert x t a ok =>
    cases ok
    · rfl
    · show okV F (assertC P (ρ x) a) = (match assertC P (ρ x) a with | some v => some (v, F) | none => none)
      cases assertC P (ρ x) a <;> rfl
  | pick x y z =>
    show okV F (pickC (ρ x) (ρ y) (ρ z)) = (match (match ρ x with | .bool b => some (if b then ρ y else ρ z) | _ => none) with | some v => some (v, F) | none => none)
    cases ρ x <;> rfl
  | nilCheck x =>
    show okV F (nilCheckC (ρ x)) = (match (match ρ x with | .pointer (some a) => some (.pointer (some a)) | .func (.func f) xs ys => some (.func (.func f) xs ys) | _ => none) with | some v => some (v, F) | none => none)
    generalize ρ x = v
    unfold nilCheckC
    split <;> rfl
  | binOp o t x y yt =>
    show okV F (binAnyC P o t (ρ x) (ρ y) y) = (match (match binC P o t (ρ x) (ρ y) with | some v => some v | none => ifaceC P o t (ρ x) (ρ y) y) with | some v => some (v, F) | none => none)
    unfold binAnyC
    generalize (match binC P o t (ρ x) (ρ y) with | some v => some v | none => ifaceC P o t (ρ x) (ρ y) y) = r
    cases r <;> rfl
  | makeInterface t x =>
    show okV F (mkIfaceC P t (ρ x)) = (match mkIfaceC P t (ρ x) with | some v => some (v, F) | none => none)
    cases mkIfaceC P t (ρ x) <;> rfl
  | fieldAddr t x f =>
    show okV F (fieldAddrC P t (ρ x) f) = (match fieldAddrC P t (ρ x) f with | some v => some (v, F) | none => none)
    cases fieldAddrC P t (ρ x) f <;> rfl
  | indexAddr t x i =>
    show okV F (indexAddrC P t (ρ x) (ρ i)) = (match indexAddrC P t (ρ x) (ρ i) with | some v => some (v, F) | none => none)
    cases indexAddrC P t (ρ x) (ρ i) <;> rfl
  | extract x i =>
    show okV F (extractC (ρ x) i) = (match extractC (ρ x) i with | some v => some (v, F) | none => none)
    cases extractC (ρ x) i <;> rfl
  | load t x =>
    show okV F (loadF P t (ρ x) F) = (match loadF P t (ρ x) F with | some v => some (v, F) | none => none)
    cases loadF P t (ρ x) F <;> rfl
  | store t x v =>
    show okU (storeF P B t (ρ x) (ρ v) F) = (match storeF P B t (ρ x) (ρ v) F with | some F1 => some (undef, F1) | none => none)
    cases storeF P B t (ρ x) (ρ v) F <;> rfl
  | lookup t x k ok =>
    show okV F (lookupF P t (ρ x) (ρ k) ok F) = (match lookupF P t (ρ x) (ρ k) ok F with | some v => some (v, F) | none => none)
    cases lookupF P t (ρ x) (ρ k) ok F <;> rfl
  | mapUpdate t m k x =>
    show okU (updateF P B t (ρ m) (ρ k) (ρ x) F) = (match updateF P B t (ρ m) (ρ k) (ρ x) F with | some F1 => some (undef, F1) | none => none)
    cases updateF P B t (ρ m) (ρ k) (ρ x) F <;> rfl
  | insert t m k x =>
    show okU (updateF P B t (ρ m) (ρ k) (ρ x) F) = (match updateF P B t (ρ m) (ρ k) (ρ x) F with | some F1 => some (undef, F1) | none => none)
    cases updateF P B t (ρ m) (ρ k) (ρ x) F <;> rfl
  | makeMap t r => cases r <;> rfl
  | slice t x lo hi mx =>
    cases lo with
    | none => rfl
    | some lo =>
      cases hi with
      | some _ => rfl
      | none =>
        cases mx with
        | some _ => rfl
        | none =>
          show okV F (sliceF P t (ρ x) (ρ lo) F) = (match sliceF P t (ρ x) (ρ lo) F with | some v => some (v, F) | none => none)
          cases sliceF P t (ρ x) (ρ lo) F <;> rfl
  | call k =>
    obtain ⟨callee, args, argTypes⟩ := k
    cases callee with
    | builtin b =>
      cases b with
      | len =>
        show okV F (callPC P ρ ⟨.builtin .len, args, argTypes⟩) = (match callPC P ρ ⟨.builtin .len, args, argTypes⟩ with | some v => some (v, F) | none => none)
        cases callPC P ρ ⟨.builtin .len, args, argTypes⟩ <;> rfl
      | max =>
        show okV F (callPC P ρ ⟨.builtin .max, args, argTypes⟩) = (match callPC P ρ ⟨.builtin .max, args, argTypes⟩ with | some v => some (v, F) | none => none)
        cases callPC P ρ ⟨.builtin .max, args, argTypes⟩ <;> rfl
      | _ => rfl
    | _ => rfl
  | _ => rfl
end Go.Proofs.YtjnimfnelacceaaGreatDoor
namespace Go.Proofs.YtjnimfnelacceaaGreatDoor
open Go.RowKit

def eqA : Option Addr → Option Addr → Bool
  | none, none => true
  | some ⟨b, o, none⟩, some ⟨c, q, none⟩ => b == c && o == q
  | _, _ => false
def eqFn : Fn → Fn → Bool
  | .func f, .func g => f == g
  | _, _ => false
/-- Values that are the same. -/
def beqV : Nat → Value → Value → Bool
  | 0, _, _ => false
  | d + 1, x, y => match x, y with
    | .bool a, .bool b => a == b
    | .int k a, .int k' b => decide (k = k') && a == b
    | .string a, .string b => a.data.toList == b.data.toList
    | .pointer a, .pointer b => eqA a b
    | .slice a n c, .slice b m e => eqA a b && n == m && c == e
    | .map a, .map b => a == b
    | .func f xs ys, .func g us vs => eqFn f g && eqL (beqV d) xs.toList us.toList && eqL (beqV d) ys.toList vs.toList
    | .nilFunc, .nilFunc => true
    | .nilIface, .nilIface => true
    | .iface t v, .iface u w => t == u && beqV d v w
    | .agg xs, .agg us => eqL (beqV d) xs.toList us.toList
    | .tuple xs, .tuple us => eqL (beqV d) xs.toList us.toList
    | _, _ => false

/-- How a piece of code ends. -/
inductive Out where
  | normal
  | exit (id : Nat)
  | ret
  | pan (ch : List PanicEntry)
/-- How a call ends. -/
inductive Res where
  | ret (v : Value)
  | pan (ch : List PanicEntry)
/-- An activation: temporaries and deferred calls. -/
structure Fa where
  tmps : List Value
  defers : List Deferred
def Fa.toA (a : Fa) : Act := ⟨⟨a.tmps⟩, a.defers⟩
def Fa.eval (a : Fa) : Operand → Value
  | .tmp t => getL a.tmps t
  | .const v => v
  | .global g => .pointer (some ⟨g, 0, none⟩)
  | .func f => .func (.func f) #[] #[]
def Fa.put (a : Fa) (dst : Option Tmp) (v : Value) : Fa :=
  match dst with
  | some d => ⟨setL a.tmps d v, a.defers⟩
  | none => a
theorem Fa.eval_eq (a : Fa) (x : Operand) : a.eval x = a.toA.eval x := by
  cases x with
  | tmp t => exact getL_eq a.tmps t
  | _ => rfl
theorem Fa.put_eq (a : Fa) (dst : Option Tmp) (v : Value) : (a.put dst v).toA = a.toA.put dst v := by
  cases dst with
  | none => rfl
  | some d =>
    show (⟨⟨setL a.tmps d v⟩, a.defers⟩ : Act) = ⟨(⟨a.tmps⟩ : Array Value).setIfInBounds d v, a.defers⟩
    rw [setL_eq]
    congr 1
    apply Array.ext'
    simp
/-- How an operation ends. -/
inductive StepR where
  | next (a : Fa) (F : Fw)
  | pan (ch : List PanicEntry) (a : Fa) (F : Fw)
abbrev CallF := FuncId → List Value → Fw → Option (Res × Fw)
/-- In which order the operations of a region are done; alternatives have to come out alike. -/
inductive Plan where
  | done
  | pure (j : Nat) (p : Plan)
  | act (j : Nat) (p : Plan)
  | alt (p q : Plan)
/-- How a region is gone through whose order is drawn: it only reads · it reads, and then goes on in a chain · by a plan. -/
inductive RPlan where
  | still
  | tail (n : Nat)
  | tree (p : Plan)
  | float (l : List Nat)
def wantedF (ops : Array Oper) (o : Oper) (a : Fa) : Bool := match o.guard with
  | none => true
  | some _ => Region.wanted o (yielded ops a.toA.tmps)
/-- What a region has done: how it ends, the activation, the world, whether more than reading was done, and which operation made which blocks. -/
structure Did where
  out : Out
  a : Fa
  F : Fw
  dirty : Bool
  made : List (Nat × Nat × Nat)
def namesOf (x y : List (Nat × Nat × Nat)) : List Nat :=
  x.flatMap fun e => match y.find? (fun z => z.1 == e.1) with
    | some z => (List.range e.2.2).map (z.2.1 + ·)
    | none => []
def isoF (B n0 : Nat) (σl τl : List Nat) (F1 F2 : Fw) : Bool :=
  decide (n0 ≤ F1.n) && decide (B ≤ n0) && decide (n0 ≤ F2.n) &&
  (List.range (F1.n - n0)).all (fun r => sg n0 τl (sg n0 σl (r + n0)) == r + n0 && decide (n0 ≤ sg n0 σl (r + n0)) && decide (sg n0 σl (r + n0) < F2.n)) &&
  (List.range F1.n).all (fun r => eqO (sg n0 σl) F1.n (F1.at r) (F2.at (sg n0 σl r)))
def eqCh (σ : Nat → Nat) (m : Nat) (x y : List PanicEntry) : Bool := eqL (fun p q => eqS σ m 9 p.v q.v && p.recovered == q.recovered && p.goexit == q.goexit) x y
def isoR (B n0 : Nat) (x y : Did) : Bool :=
  if x.dirty = false ∧ y.dirty = false then
    (match x.out, y.out with
    | .normal, .normal => eqL (eqS id x.F.n 9) x.a.tmps y.a.tmps && eqL (eqD id x.F.n) x.a.defers y.a.defers
    | _, _ => false)
  else
    let σl := namesOf x.made y.made
    let τl := namesOf y.made x.made
    isoF B n0 σl τl x.F y.F &&
    (match x.out, y.out with
    | .normal, .normal => eqL (eqS (sg n0 σl) x.F.n 9) x.a.tmps y.a.tmps && eqL (eqD (sg n0 σl) x.F.n) x.a.defers y.a.defers
    | .pan ch, .pan dh => eqCh (sg n0 σl) x.F.n ch dh && eqL (eqD (sg n0 σl) x.F.n) x.a.defers y.a.defers
    | _, _ => false)
def isLoad : Op → Bool
  | .load .. | .lookup .. | .slice .. | .field .. | .build .. => true
  | _ => false

/-- An operation that writes and makes nothing. -/
def isFloat : Op → Bool
  | .move _ | .assign _ | .pick .. | .nilCheck _ | .binOp .. | .typeAssert .. | .unOp .. | .makeInterface .. | .makeFunc .. | .fieldAddr .. | .indexAddr .. | .extract .. => true
  | .load .. | .lookup .. | .field .. | .build .. | .slice .. => true
  | .call c => (match c.callee with | .builtin .len => true | .builtin .max => true | _ => false)
  | _ => false
def tmpOf : Operand → Option Nat
  | .tmp t => some t
  | _ => none
def slotsOf (ops : Array Oper) (o : Oper) : List Nat := o.op.operands.toList.filterMap tmpOf ++ (match o.guard with
  | some (j, _) => (match (ops[j]?).bind (·.dst) with
    | some t => [t]
    | none => [])
  | none => [])
def bindsOn (o : Oper) (j : Nat) : Bool := o.after.toList.any fun e => Region.binds .any e && e.on == j
/-- A variable is set that some operation of the region reads ahead of it. -/
def selfRead (ops : Array Oper) (o : Oper) : Bool := match o.op, o.dst with
  | .assign _, some t => ops.toList.any fun oi => (slotsOf ops oi).contains t && !(oi.after.toList.any fun e => Region.binds .any e && (match ops[e.on]? with | some x => x.dst == some t | none => false))
  | _, _ => false
/-- It may be done later. -/
def isFl (ops : Array Oper) (o : Oper) : Bool := if isFloat o.op = true then !selfRead ops o else false
theorem isFl_float {ops : Array Oper} {o : Oper} (h : isFl ops o = true) : isFloat o.op = true := by
  unfold isFl at h
  split at h
  · assumption
  · cases h
/-- Whatever reads what an operation gives that may be done later waits for it; and nothing else writes there. -/
def floatStatic (ops : Array Oper) : Bool := (List.range ops.size).all fun j => match ops[j]? with
  | some oj => !isFl ops oj || (match oj.dst with
    | some t => (List.range ops.size).all fun i => match ops[i]? with
      | some oi => (i == j || oi.dst != some t) && (!(slotsOf ops oi).contains t || bindsOn oi j)
      | none => true
    | none => false)
  | none => true

section
variable (P : Program) (B : Nat) (ent : FuncId → Bool) (call : CallF)

def callOp (o : Oper) (k : Call) (a : Fa) (F : Fw) : Option StepR :=
  match k.callee with
  | .value f => (match a.eval f with
    | .func (.func g) first cap => if ent g = true then
        (match call g (first.toList ++ (k.args.toList.map a.eval ++ cap.toList)) F with
        | some (.ret v, F1) => some (.next (a.put o.dst v) F1)
        | some (.pan ch, F1) => some (.pan ch a F1)
        | none => none) else none
    | _ => none)
  | _ => none
def deferOp (o : Oper) (k : Call) (a : Fa) (F : Fw) : Option StepR :=
  match k.callee with
  | .value f => (match a.eval f with
    | .func (.func g) first cap => some (.next ((⟨a.tmps, { target := .fn (.func g) cap, args := ⟨first.toList ++ k.args.toList.map a.eval⟩ } :: a.defers⟩ : Fa).put o.dst undef) F)
    | _ => none)
  | _ => none
def panicOp (x : Value) (a : Fa) (F : Fw) : Option StepR :=
  match x with
  | .iface t v => some (.pan [{ v := .iface t v, recovered := false }] a F)
  | _ => none
def restOp (o : Oper) (op : Op) (a : Fa) (F : Fw) : Option StepR :=
  match op with
  | .call k => callOp ent call o k a F
  | .defer k => deferOp o k a F
  | .panic x => panicOp (a.eval x) a F
  | _ => none
def stepF (o : Oper) (a : Fa) (F : Fw) : Option StepR :=
  match doF P B a.eval o.op F with
  | some (v, F1) => some (.next (a.put o.dst v) F1)
  | none => restOp ent call o o.op a F
def opsF (ops : Array Oper) : List Oper → Fa → Fw → Option (Out × Fa × Fw)
  | [], a, F => some (.normal, a, F)
  | o :: rest, a, F => if wantedF ops o a = true then
      (match stepF P B ent call o a F with
      | some (.next a1 F1) => opsF ops rest a1 F1
      | some (.pan ch a1 F1) => some (.pan ch, a1, F1)
      | none => none)
    else opsF ops rest (a.put o.dst undef) F
def planF (ops : Array Oper) : Plan → Fa → Fw → Option Did
  | .done, a, F => some ⟨.normal, a, F, false, []⟩
  | .pure j p, a, F => (match ops[j]? with
    | some o => if wantedF ops o a = true then (match pureS P a.eval o.op with
        | some v => planF ops p (a.put o.dst v) F
        | none => none)
      else planF ops p (a.put o.dst undef) F
    | none => none)
  | .act j p, a, F => (match ops[j]? with
    | some o => if wantedF ops o a = true then (match stepF P B ent call o a F with
        | some (.next a1 F1) => (match planF ops p a1 F1 with
          | some d => some ⟨d.out, d.a, d.F, d.dirty || !isLoad o.op, (j, F.n, F1.n - F.n) :: d.made⟩
          | none => none)
        | some (.pan ch a1 F1) => some ⟨.pan ch, a1, F1, true, [(j, F.n, F1.n - F.n)]⟩
        | none => none)
      else planF ops p (a.put o.dst undef) F
    | none => none)
  | .alt p q, a, F => (match planF ops p a F, planF ops q a F with
    | some x, some y => if isoR B F.n x y = true then some x else none
    | _, _ => none)
def readC (ρ : Operand → Value) (op : Op) (F : Fw) : Option Value :=
  match op with
  | .load t x => loadF P t (ρ x) F
  | .lookup t x k ok => lookupF P t (ρ x) (ρ k) ok F
  | .slice t x (some lo) none none => sliceF P t (ρ x) (ρ lo) F
  | _ => none
def stillF (ops : Array Oper) : List Oper → Fa → Fw → Option Fa
  | [], a, _ => some a
  | o :: rest, a, F => if wantedF ops o a = true then
      (match pureS P a.eval o.op with
      | some v => stillF ops rest (a.put o.dst v) F
      | none => (match readC P a.eval o.op F with
        | some v => stillF ops rest (a.put o.dst v) F
        | none => none))
    else stillF ops rest (a.put o.dst undef) F
/-- An operation that has been done ahead of others would give the same now. -/
def sameF (ops : Array Oper) (a : Fa) (F : Fw) (j : Nat) : Bool :=
  match ops[j]? with
  | some o => (match o.dst with
    | some t => if wantedF ops o a = true then (match doF P B a.eval o.op F with
        | some (v, _) => beqV 9 v (getL a.tmps t)
        | none => false)
      else beqV 9 undef (getL a.tmps t)
    | none => false)
  | none => false
/-- Operations that only read may be done later than here: what they give is looked at again behind each other operation. -/
def floatF (ops : Array Oper) : List Nat → List Nat → Fa → Fw → Option (Out × Fa × Fw)
  | [], _, a, F => some (.normal, a, F)
  | j :: rest, pend, a, F => (match ops[j]? with
    | some o => if isFl ops o = true then
        (if wantedF ops o a = true then (match doF P B a.eval o.op F with
          | some (v, _) => floatF ops rest (j :: pend) (a.put o.dst v) F
          | none => none)
        else floatF ops rest (j :: pend) (a.put o.dst undef) F)
      else if wantedF ops o a = true then (match stepF P B ent call o a F with
        | some (.next a1 F1) => if (pend.filter fun k => !bindsOn o k).all (sameF P B ops a1 F1) = true then floatF ops rest (pend.filter fun k => !bindsOn o k) a1 F1 else none
        | some (.pan ch a1 F1) => some (.pan ch, a1, F1)
        | none => none)
      else if (pend.filter fun k => !bindsOn o k).all (sameF P B ops (a.put o.dst undef) F) = true then floatF ops rest (pend.filter fun k => !bindsOn o k) (a.put o.dst undef) F else none
    | none => none)
def codeF (plans : Nat → Option RPlan) : Nat → Code → Fa → Fw → Option (Out × Fa × Fw)
  | 0, _, _, _ => none
  | n + 1, code, a, F => match code with
    | .skip | .label _ => some (.normal, a, F)
    | .region id ops draw => if draw = true then (match plans id with
        | some (.tree p) => (match planF P B ent call ops p a F with
          | some d => some (d.out, d.a, d.F)
          | none => none)
        | some .still => (match stillF P ops ops.toList a F with
          | some a1 => some (.normal, a1, F)
          | none => none)
        | some (.tail n) => (match stillF P ops (ops.toList.take n) a F with
          | some a1 => opsF P B ent call ops (ops.toList.drop n) a1 F
          | none => none)
        | some (.float l) => floatF P B ent call ops l [] a F
        | none => none)
        else opsF P B ent call ops ops.toList a F
    | .seq x y => (match codeF plans n x a F with
      | some (.normal, a1, F1) => codeF plans n y a1 F1
      | r => r)
    | .cond k x y => (match a.eval k with
      | .bool b => codeF plans n (if b then x else y) a F
      | _ => none)
    | .block id body => (match codeF plans n body a F with
      | some (.exit i, a1, F1) => if i = id then some (.normal, a1, F1) else some (.exit i, a1, F1)
      | r => r)
    | .loop body => (match codeF plans n body a F with
      | some (.normal, a1, F1) => codeF plans n (.loop body) a1 F1
      | r => r)
    | .scope body => codeF plans n body a F
    | .exit id => some (.exit id, a, F)
    | .ret => some (.ret, a, F)
    | _ => none
/-- The act with which a function's body begins. -/
def actOf (fn : Func) (args : List Value) : Fa := ⟨args ++ List.replicate (fn.ntmps - args.length) undef, []⟩
def resL (tmps : List Value) (F : Fw) : List ResultVar → Option (List Value)
  | [] => some []
  | .tmp t :: rest => (match resL tmps F rest with
    | some vs => some (getL tmps t :: vs)
    | none => none)
  | .cell x t :: rest => (match loadF P t (getL tmps x) F, resL tmps F rest with
    | some v, some vs => some (v :: vs)
    | _, _ => none)
def oneOr : List Value → Value
  | [v] => v
  | vs => .tuple ⟨vs⟩
/-- A deferred call of a function that neither defers nor recovers and has no results. -/
def plainF (plans : FuncId → Nat → Option RPlan) (fuel : Nat) (f : FuncId) (args : List Value) (F : Fw) : Option Fw :=
  match P.funcs[f]? with
  | some fn => (match fn.body with
    | some code => (match codeF P B ent call (plans f) fuel code (actOf fn args) F with
      | some (.normal, a1, F1) => if a1.defers.isEmpty = true ∧ fn.results.toList.isEmpty = true then some F1 else none
      | some (.ret, a1, F1) => if a1.defers.isEmpty = true ∧ fn.results.toList.isEmpty = true then some F1 else none
      | _ => none)
    | none => none)
  | none => none
/-- The first operation of a deferred call asks whether the frame below panics. -/
def recOp (code : Code) : Option (Oper × Code) :=
  match code with
  | .seq (.region _ ops false) rest => (match ops.toList with
    | [o] => (match o.op with
      | .call k => (match k.callee, o.guard with
        | .builtin .recover, none => some (o, rest)
        | _, _ => none)
      | _ => none)
    | _ => none)
  | _ => none
/-- What recover gives, and how the frame below goes on. -/
def recV : Option (List PanicEntry) → Option (Value × Option (List PanicEntry))
  | none => some (.nilIface, none)
  | some (e :: older) => if e.recovered = false ∧ e.goexit = false ∧ older.all (fun x => !x.goexit) = true then some (e.v, none) else none
  | some [] => none
/-- A deferred call of a function that begins with recover. -/
def recF (plans : FuncId → Nat → Option RPlan) (fuel : Nat) (f : FuncId) (args : List Value) (m : Option (List PanicEntry)) (F : Fw) : Option (Fw × Option (List PanicEntry)) :=
  match P.funcs[f]? with
  | some fn => (match fn.body with
    | some code => (match recOp code, recV m with
      | some (o, rest), some (v, m1) => (match codeF P B ent call (plans f) fuel rest ((actOf fn args).put o.dst v) F with
        | some (.normal, a1, F1) => if a1.defers.isEmpty = true ∧ fn.results.toList.isEmpty = true then some (F1, m1) else none
        | some (.ret, a1, F1) => if a1.defers.isEmpty = true ∧ fn.results.toList.isEmpty = true then some (F1, m1) else none
        | _ => none)
      | _, _ => none)
    | none => none)
  | none => none
def leaveF (plans : FuncId → Nat → Option RPlan) (fuel : Nat) (fn : Func) (tmps : List Value) (may : Bool) : List Deferred → Option (List PanicEntry) → Fw → Option (Res × Fw)
  | [], none, F => (match resL P tmps F fn.results.toList with
    | some vs => some (.ret (oneOr vs), F)
    | none => none)
  | [], some ch, F => some (.pan ch, F)
  | d :: ds, m, F => (match d.target with
    | .fn (.func g) cap => if ent g = true then (match plainF P B ent call plans fuel g (d.args.toList ++ cap.toList) F with
      | some F1 => leaveF plans fuel fn tmps may ds m F1
      | none => if may = true then (match recF P B ent call plans fuel g (d.args.toList ++ cap.toList) m F with
        | some (F1, m1) => leaveF plans fuel fn tmps may ds m1 F1
        | none => none) else none) else none
    | _ => none)
end
/-- No region is gone through by a plan with alternatives. -/
def noTree (plans : Nat → Option RPlan) : Code → Bool
  | .region id _ draw => !draw || (match plans id with | some (.tree _) | some (.float _) => false | _ => true)
  | .seq x y => noTree plans x && noTree plans y
  | .cond _ x y => noTree plans x && noTree plans y
  | .block _ x | .loop x | .scope x => noTree plans x
  | _ => true
def unrec : List PanicEntry → Bool
  | e :: _ => !e.recovered
  | [] => true
def funF (P : Program) (B : Nat) (ent : FuncId → Bool) (plans : FuncId → Nat → Option RPlan) (orc : CallF) (fuel : Nat) : Nat → CallF
  | 0, _, _, _ => none
  | n + 1, f, args, F =>
    match orc f args F with
    | some r => some r
    | none => (match P.funcs[f]? with
      | some fn => (match fn.body with
        | some code => (match codeF P B ent (funF P B ent plans orc fuel n) (plans f) fuel code (actOf fn args) F with
          | some (.normal, a1, F1) => leaveF P B ent (funF P B ent plans orc fuel n) plans fuel fn a1.tmps true a1.defers none F1
          | some (.ret, a1, F1) => leaveF P B ent (funF P B ent plans orc fuel n) plans fuel fn a1.tmps true a1.defers none F1
          | some (.pan ch, a1, F1) => if unrec ch = true then leaveF P B ent (funF P B ent plans orc fuel n) plans fuel fn a1.tmps (noTree (plans f) code) a1.defers (some ch) F1 else none
          | _ => none)
        | none => none)
      | none => none)

/-! ### What is asked of the plans -/
def heads : Plan → List Nat
  | .act j _ => [j]
  | .alt p q => heads p ++ heads q
  | _ => []
/-- Alternatives are operations. -/
def acts : Plan → Bool
  | .act _ _ => true
  | .alt p q => acts p && acts q
  | _ => false
/-- The plan fits the region from where these operations are done (b: an alternative beside it has been looked at). -/
def planOk (ops : Array Oper) : Plan → Bool → Array Bool → Bool
  | .done, b, listed => !b && (Region.ready .any ops listed).isEmpty
  | .pure j p, b, listed => !b && (Region.ready .any ops listed).contains j && Region.free .any ops listed j && planOk ops p false (listed.setIfInBounds j true)
  | .act j p, b, listed => (b || ((Region.ready .any ops listed).contains j && (Region.ready .any ops listed).all (· == j))) && planOk ops p false (listed.setIfInBounds j true)
  | .alt p q, b, listed => (b || (!(Region.ready .any ops listed).isEmpty && (Region.ready .any ops listed).all ((heads p ++ heads q).contains ·))) && acts p && acts q && planOk ops p true listed && planOk ops q true listed
def plen : Plan → Nat
  | .done => 0
  | .pure _ p | .act _ p => plen p + 1
  | .alt p q => max (plen p) (plen q)
/-- The steps fit the region. -/
def stepsOk (ops : Array Oper) : List Nat → Array Bool → Bool
  | [], listed => (Region.ready .any ops listed).isEmpty
  | j :: rest, listed => (match ops[j]? with
    | some o => (Region.ready .any ops listed).contains j && (isFl ops o || (Region.ready .any ops listed).all (· == j)) && stepsOk ops rest (listed.setIfInBounds j true)
    | none => false)
/-- The plans of a function fit its code. -/
def codeOk (G : Nat) (plans : Nat → Option RPlan) : Code → Bool
  | .region id ops draw => ops.toList.all (fun o => o.op.operands.toList.all (okX G)) && (!draw || (match plans id with
    | some (.tree p) => Region.noSelect ops && planOk ops p false (Array.replicate ops.size false) && decide (plen p ≤ ops.size)
    | some .still => Region.lexB .any ops
    | some (.tail n) => Region.lexTailB .any ops n
    | some (.float l) => Region.noSelect ops && floatStatic ops && stepsOk ops l (Array.replicate ops.size false) && decide (l.length ≤ ops.size)
    | none => true))
  | .seq x y => codeOk G plans x && codeOk G plans y
  | .cond k x y => okX G k && codeOk G plans x && codeOk G plans y
  | .block _ x | .loop x | .scope x => codeOk G plans x
  | _ => true
end Go.Proofs.YtjnimfnelacceaaGreatDoor
