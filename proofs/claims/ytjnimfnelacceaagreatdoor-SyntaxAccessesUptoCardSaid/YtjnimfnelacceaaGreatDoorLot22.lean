/- One operation that asks of memory, in the small world and in the great one. When a region draws its order: what asks nothing of memory may be done first. Equality of values and heaps up to where blocks lie, as a test. A small world that the kernel reads and writes fast. -/
import Derived.Test.YtjnimfnelacceaaGreatDoorLot21
import Derived.Orders
import Derived.Still
set_option linter.unusedSimpArgs false
set_option linter.unusedVariables false
namespace Go.Proofs.YtjnimfnelacceaaGreatDoor
open Go.RowKit

variable {P : Program} {B G : Nat} {w0 : World} {L : Lie} {c w : World}

def runV (r : Result Value) : Option (Value × World) := match r with | .ok v c => some (v, c) | .halt _ _ => none
def runU (r : Result Unit) : Option (Value × World) := match r with | .ok _ c => some (undef, c) | .halt _ _ => none
def memC (P : Program) (B : Nat) (ρ : Operand → Value) (op : Op) (c : World) : Option (Value × World) :=
  match op with
  | .alloc t => if zf P t = true then runV ((Instr.alloc t true (.tuple #[])).run P c) else none
  | .box t x => runV ((Instr.box t (ρ x)).run P c)
  | .build t ps => if zf P t = true then runV ((Instr.build t (ps.map fun (i, x) => (i, ρ x))).run P c) else none
  | .buildSlice t n ps => if elemOk P t = true then runV ((Instr.buildSlice t n (ps.map fun (i, x) => (i, ρ x))).run P c) else none
  | .load t x => runV ((Instr.loadAt t (ρ x)).run P c)
  | .store t x v => (match ρ x with
    | .pointer (some a) => if B ≤ a.block then runU ((Instr.storeAt t (.pointer (some a)) (ρ v)).run P c) else none
    | _ => none)
  | .makeMap t none => runV ((Instr.makeMap t none).run P c)
  | .makeSlice t l k => if elemOk P t = true ∧ flat1 (ρ l) = true ∧ flat1 (ρ k) = true then runV ((Instr.makeSlice t (ρ l) (ρ k)).run P c) else none
  | .slice t x (some lo) none none => (sliceC P t (ρ x) (ρ lo) c).map (·, c)
  | .field t x f => runV ((Instr.field t (ρ x) f).run P c)
  | .lookup t x k ok => (lookupC P t (ρ x) (ρ k) ok c).map (·, c)
  | .mapUpdate t m k x => (updateC P B t (ρ m) (ρ k) (ρ x) c).map (undef, ·)
  | .insert t m k x => (updateC P B t (ρ m) (ρ k) (ρ x) c).map (undef, ·)
  | .call k => (match k.callee with
    | .builtin .append => (match k.args.toList, k.argTypes.toList with
      | [x, y], [t, t2] => appendC P B t t2 (ρ x) (ρ y) c
      | _, _ => none)
    | _ => none)
  | _ => none
/-- What an operation has done in the great world, given what it gave in the small one. -/
def Done (P : Program) (B G : Nat) (w0 : World) (L : Lie) (w : World) (ρ' : Operand → Value) (o : Oper) (v : Value) (c1 : World) : Prop :=
  ∃ M w1 nx v', (execOp ρ' o).run P w = .ok nx w1 ∧ (nx = .value v' ∨ (nx = .skip ∧ v' = undef)) ∧ L.le M ∧ Sim P B G w0 M c1 w1 ∧ VR P M v v'
theorem Done.ofSims {ρ' : Operand → Value} {o : Oper} {v : Value} {c1 : World} {e e' : Sem Value} (h : Sims P B G w0 (VR P) L c w e e') (hr : runV (e.run P c) = some (v, c1))
    (hx : execOp ρ' o = (do Pure.pure (Next.value (← e')))) : Done P B G w0 L w ρ' o v c1 := by
  unfold runV at hr
  split at hr
  · rename_i v0 c0 he
    injection hr with hr
    injection hr with h1 h2
    subst h1 h2
    obtain ⟨M, w1, v', h1, h2, h3, h4⟩ := h _ _ he
    exact ⟨M, w1, .value v', v', by rw [hx]; simp only [Sem.run_bind, h1, Result.andThen_ok, Sem.run_pure], .inl rfl, h2, h3, h4⟩
  · cases hr
theorem memC_spec (h : Sim P B G w0 L c w) {ρ ρ' : Operand → Value} {o : Oper} {v : Value} {c1 : World} (hρ : ∀ x ∈ o.op.operands.toList, VR P L (ρ x) (ρ' x)) (he : memC P B ρ o.op c = some (v, c1)) :
    Done P B G w0 L w ρ' o v c1 := by
  unfold memC at he
  split at he
  · rename_i t ho
    split at he
    · rename_i hz
      exact .ofSims (Sims.alloc h t hz) he (by unfold execOp; rw [ho])
    · cases he
  · rename_i t x ho
    rw [ho] at hρ
    exact .ofSims (Sims.box h t (hρ x (by simp [Op.operands]))) he (by unfold execOp; rw [ho])
  · rename_i t ps ho
    rw [ho] at hρ
    split at he
    · rename_i hz
      refine .ofSims (Sims.build h t hz ps fun p hp => hρ p.2 ?_) he (by unfold execOp; rw [ho])
      simp only [Op.operands, List.mem_map]
      exact ⟨p, hp, rfl⟩
    · cases he
  · rename_i t n ps ho
    rw [ho] at hρ
    split at he
    · rename_i hz
      refine .ofSims (Sims.buildSlice h t n hz ps fun p hp => hρ p.2 ?_) he (by unfold execOp; rw [ho])
      simp only [Op.operands, List.mem_map]
      exact ⟨p, hp, rfl⟩
    · cases he
  · rename_i t x ho
    rw [ho] at hρ
    exact .ofSims (Sims.loadAt h t (hρ x (by simp [Op.operands]))) he (by unfold execOp; rw [ho])
  · rename_i t x y ho
    rw [ho] at hρ
    have hx := hρ x (by simp [Op.operands])
    have hy := hρ y (by simp [Op.operands])
    split at he
    · rename_i a ha
      split at he
      · rename_i hB
        rw [ha] at hx
        unfold runU at he
        split at he
        · rename_i u c0 hr
          injection he with he
          injection he with h1 h2
          subst h1 h2
          obtain ⟨M, w1, v', h1, h2, h3, _⟩ := Sims.storeAt h t hx hy (fun b hb => by injection hb with hb; injection hb with hb; rw [← hb]; exact hB) _ _ hr
          refine ⟨M, w1, .skip, undef, ?_, .inr ⟨rfl, rfl⟩, h2, h3, .undef⟩
          unfold execOp
          rw [ho]
          simp only [Sem.run_bind, h1, Result.andThen_ok, Sem.run_pure]
        · cases he
      · cases he
    · cases he
  · rename_i t ho
    exact .ofSims (Sims.makeMap h t) he (by unfold execOp; rw [ho]; rfl)
  · rename_i t l k ho
    rw [ho] at hρ
    split at he
    · rename_i hc
      obtain ⟨hz, hl, hk⟩ := hc
      have e1 := (hρ l (by simp [Op.operands])).eq_of_flat1 hl
      have e2 := (hρ k (by simp [Op.operands])).eq_of_flat1 hk
      exact .ofSims (Sims.makeSlice h t hz (ρ l) (ρ k)) he (by rw [← e1, ← e2]; unfold execOp; rw [ho])
    · cases he
  · rename_i t x lo ho
    rw [ho] at hρ
    cases hs : sliceC P t (ρ x) (ρ lo) c with
    | none => rw [hs] at he; cases he
    | some u =>
      rw [hs] at he
      injection he with he
      injection he with h1 h2
      subst h1 h2
      obtain ⟨v', h1, h2⟩ := sliceC_spec h (hρ x (by simp [Op.operands])) (hρ lo (by simp [Op.operands])) hs
      refine ⟨L, w, .value v', v', ?_, .inl rfl, L.le_refl, h, h2⟩
      unfold execOp
      rw [ho]
      simp only [Option.map_some, Option.map_none, Sem.run_bind, h1, Result.andThen_ok, Sem.run_pure]
  · rename_i t x f ho
    rw [ho] at hρ
    exact .ofSims (Sims.field h t (hρ x (by simp [Op.operands])) f) he (by unfold execOp; rw [ho])
  · rename_i t x k ok ho
    rw [ho] at hρ
    cases hs : lookupC P t (ρ x) (ρ k) ok c with
    | none => rw [hs] at he; cases he
    | some u =>
      rw [hs] at he
      injection he with he
      injection he with h1 h2
      subst h1 h2
      obtain ⟨v', h1, h2⟩ := lookupC_spec h (hρ x (by simp [Op.operands])) (hρ k (by simp [Op.operands])) hs
      refine ⟨L, w, .value v', v', ?_, .inl rfl, L.le_refl, h, h2⟩
      unfold execOp
      rw [ho]
      simp only [Sem.run_bind, h1, Result.andThen_ok, Sem.run_pure]
  · rename_i t m k x ho
    rw [ho] at hρ
    cases hs : updateC P B t (ρ m) (ρ k) (ρ x) c with
    | none => rw [hs] at he; cases he
    | some u =>
      rw [hs] at he
      injection he with he
      injection he with h1 h2
      subst h1 h2
      obtain ⟨M, w1, h1, h2, h3⟩ := updateC_spec h (hρ m (by simp [Op.operands])) (hρ k (by simp [Op.operands])) (hρ x (by simp [Op.operands])) hs
      refine ⟨M, w1, .skip, undef, ?_, .inr ⟨rfl, rfl⟩, h2, h3, .undef⟩
      unfold execOp
      rw [ho]
      simp only [Sem.run_bind, h1, Result.andThen_ok, Sem.run_pure]
  · rename_i t m k x ho
    rw [ho] at hρ
    cases hs : updateC P B t (ρ m) (ρ k) (ρ x) c with
    | none => rw [hs] at he; cases he
    | some u =>
      rw [hs] at he
      injection he with he
      injection he with h1 h2
      subst h1 h2
      obtain ⟨M, w1, h1, h2, h3⟩ := updateC_spec h (hρ m (by simp [Op.operands])) (hρ k (by simp [Op.operands])) (hρ x (by simp [Op.operands])) hs
      refine ⟨M, w1, .skip, undef, ?_, .inr ⟨rfl, rfl⟩, h2, h3, .undef⟩
      unfold execOp
      rw [ho]
      simp only [Sem.run_bind, h1, Result.andThen_ok, Sem.run_pure]
  · rename_i k ho
    rw [ho] at hρ
    obtain ⟨callee, args, argTypes⟩ := k
    dsimp only at he
    split at he
    · split at he
      · rename_i x y t t2 h1 h2
        have e1 : args = #[x, y] := Array.ext' h1
        have e2 : argTypes = #[t, t2] := Array.ext' h2
        subst e1 e2
        obtain ⟨M, w1, v', g1, g2, g3, g4⟩ := appendC_spec (ty := o.type) h (hρ x (by simp [Op.operands, Call.operands])) (hρ y (by simp [Op.operands, Call.operands])) he
        refine ⟨M, w1, .value v', v', ?_, .inl rfl, g2, g3, g4⟩
        unfold execOp
        rw [ho]
        simp only [resolve, invoke, builtin, pure_bind, List.map_toArray, List.map_cons, List.map_nil, Sem.run_bind, g1, Result.andThen_ok, Sem.run_pure]
      · cases he
    · cases he
  · cases he
end Go.Proofs.YtjnimfnelacceaaGreatDoor
namespace Go.Proofs.YtjnimfnelacceaaGreatDoor
open Go.RowKit

variable {P : Program} {ops : Array Oper} {md : Region.Mode} {Q : Exit → Act → World → Prop}

/-- An operation that gives the same in every world. -/
def Gives (P : Program) (ops : Array Oper) (o : Oper) (v : Value) (a : Act) : Prop :=
  (Region.wanted o (yielded ops a.tmps) = true ∧ ∀ w, (execOp a.eval o).run P w = .ok (.value v) w) ∨ (Region.wanted o (yielded ops a.tmps) = false ∧ v = undef)
theorem Gives.of_same {o : Oper} {v : Value} {a a' : Act} (hy : Gives P ops o v a) (he : execOp a'.eval o = execOp a.eval o)
    (hw : Region.wanted o (yielded ops a'.tmps) = Region.wanted o (yielded ops a.tmps)) : Gives P ops o v a' := by
  unfold Gives at *
  rw [he, hw]
  exact hy
theorem Gives.wpOp {i : Nat} {o : Oper} {v : Value} {a : Act} {w : World} (hi : ops[i]? = some o) (hy : Gives P ops o v a) {K : Act → World → Prop} (h : K (a.put o.dst v) w) : wpOp P ops Q i K a w := by
  unfold Go.wpOp
  simp only [hi]
  rcases hy with ⟨hw, hv⟩ | ⟨hw, rfl⟩
  · simp only [hw, if_true]
    left
    unfold Oper.wp
    rw [hv w]
    exact h
  · simp only [hw, Bool.false_eq_true, if_false]; exact h
/-- What is asked at a panic does not speak of the temporaries. -/
def PanicBlind (Q : Exit → Act → World → Prop) : Prop := ∀ ch a w dst v, Q (.panic ch) (Act.put a dst v) w → Q (.panic ch) a w
theorem wpOp_put {j : Nat} {oi oj : Oper} {v : Value} (hQ : PanicBlind Q) (hj : ops[j]? = some oj) (hap : oi.apart ops oj = true)
    (hsi : ∀ cs b, oi.op ≠ .select cs b) (hsj : ∀ cs b, oj.op ≠ .select cs b) {K : Act → World → Prop} {a : Act} {w : World}
    (hy : Gives P ops oi v a) (h : wpOp P ops Q j K (a.put oi.dst v) w) :
    wpOp P ops Q j (fun a' w' => Gives P ops oi v a' ∧ K (a'.put oi.dst v) w') a w := by
  obtain ⟨h1, h2, h3⟩ := Oper.apart_spec hap
  have keep : ∀ (a : Act), Gives P ops oi v a → ∀ u, Gives P ops oi v (a.put oj.dst u) := fun a hy u =>
    hy.of_same (execOp_put oi hsi a oj.dst u h3) (wanted_put oi a oj.dst u h3)
  unfold wpOp at *
  simp only [hj] at *
  rw [wanted_put oj a oi.dst v h1] at h
  split
  · rename_i hw
    simp only [hw, if_true] at h
    have hex := execOp_put oj hsj a oi.dst v h1
    rcases h with h | ⟨⟨hm, hk⟩, hl⟩
    · left
      unfold Oper.wp at *
      rw [hex] at h
      generalize (execOp a.eval oj).run P w = r at *
      cases r with
      | ok n w' =>
        cases n <;> simp only [Oper.upon] at h ⊢ <;> first | exact h.elim | skip
        case value u => exact ⟨keep a hy u, by rw [← Act.put_comm a v u h2]; exact h⟩
        case skip => exact ⟨keep a hy _, by rw [← Act.put_comm a v undef h2]; exact h⟩
        case enter f args =>
          refine h.mono fun e w'' he => ?_
          cases e with
          | returned u => exact ⟨keep a hy u, by rw [← Act.put_comm a v u h2]; exact he⟩
          | panicked ch => exact hQ _ _ _ _ _ he
          | outgrown => exact he
        case defer d =>
          have e1 : ({ a with defers := d :: a.defers } : Act).put oj.dst undef = { (a.put oj.dst undef) with defers := d :: a.defers } := by cases oj.dst <;> rfl
          have e2 : (({ (a.put oi.dst v) with defers := d :: (a.put oi.dst v).defers } : Act).put oj.dst undef) = (({ a with defers := d :: a.defers } : Act).put oj.dst undef).put oi.dst v := by
            have := Act.put_comm { a with defers := d :: a.defers } v undef h2
            rw [← this]
            cases oi.dst <;> rfl
          refine ⟨?_, by rw [← e2]; exact h⟩
          have hk := keep a hy undef
          rw [e1]
          exact hk
        case row row args => exact h.mono fun u w'' he => ⟨keep a hy u, by rw [← Act.put_comm a v u h2]; exact he⟩
      | halt x w' =>
        cases x <;> simp only [Oper.upon] at h ⊢ <;> first | exact h.elim | exact hQ _ _ _ _ _ h
    · right
      refine ⟨?_, hl⟩
      unfold Oper.asks at *
      rw [hex] at hm hk
      exact ⟨hm, hk⟩
  · rename_i hw
    simp only [hw] at h
    exact ⟨keep a hy _, by rw [← Act.put_comm a v undef h2]; exact h⟩
theorem wpAny_first {i : Nat} {oi : Oper} {v : Value} (hQ : PanicBlind Q) (hQn : True) (hi : ops[i]? = some oi) (hsel : ∀ (j : Nat) (o : Oper) cs b, ops[j]? = some o → o.op ≠ .select cs b) :
    ∀ (fuel : Nat) (listed : Array Bool) (a : Act) (w : World),
      (∀ j oj, ops[j]? = some oj → j ≠ i → listed.getD j true = false → (∀ e ∈ oj.after, Region.binds md e = true → e.on ≠ i) → oi.apart ops oj = true) →
      i ∈ Region.ready md ops listed → Gives P ops oi v a →
      wpAny P md ops Q fuel (listed.setIfInBounds i true) (a.put oi.dst v) w → wpAny P md ops Q (fuel + 1) listed a w := by
  intro fuel
  induction fuel with
  | zero =>
    intro listed a w _ hr hy H
    refine ⟨fun h => (by rw [h] at hr; cases hr), fun j hj => ?_⟩
    by_cases hji : j = i
    · subst hji; exact hy.wpOp hi H
    · have := ready_mono hj hji
      rw [H.1] at this
      cases this
  | succ fuel ih =>
    intro listed a w hfree hr hy H
    refine ⟨fun h => (by rw [h] at hr; cases hr), fun j hj => ?_⟩
    by_cases hji : j = i
    · subst hji; exact hy.wpOp hi H
    · have h1 := H.2 j (ready_mono hj hji)
      obtain ⟨hjun, oj, hoj, hall⟩ := mem_ready.1 hj
      have hnot : ∀ e ∈ oj.after, Region.binds md e = true → e.on ≠ i := fun e he hb heq => by
        have h1 := hall e he hb
        have h0 := (mem_ready.1 hr).1
        rw [heq] at h1
        rcases Nat.lt_or_ge i listed.size with h' | h'
        · simp [h'] at h0 h1; rw [h0] at h1; cases h1
        · simp [Array.getElem?_eq_none h'] at h1
      have h2 := wpOp_put hQ hoj (hfree j oj hoj hji hjun hnot) (fun cs b => hsel i oi cs b hi) (fun cs b => hsel j oj cs b hoj) hy h1
      have hfree' : ∀ k ok, ops[k]? = some ok → k ≠ i → (listed.setIfInBounds j true).getD k true = false →
          (∀ e ∈ ok.after, Region.binds md e = true → e.on ≠ i) → oi.apart ops ok = true := fun k ok hk hki hun hno => by
        refine hfree k ok hk hki ?_ hno
        by_cases hjk : j = k
        · subst hjk; exact hjun
        · rw [getD_set_ne true hjk] at hun; exact hun
      refine wpOp_mono (fun a' w' h3 => ih (listed.setIfInBounds j true) a' w' hfree' (ready_mono hr (Ne.symm hji)) h3.1 ?_) h2
      rw [Array.setIfInBounds_comm _ _ hji]
      exact h3.2
end Go.Proofs.YtjnimfnelacceaaGreatDoor
namespace Go.Proofs.YtjnimfnelacceaaGreatDoor
open Go.RowKit

variable {P : Program} {B G : Nat} {w0 : World} {L : Lie} {w : World}

def eqL {α : Type} (f : α → α → Bool) : List α → List α → Bool
  | [], [] => true
  | x :: xs, y :: ys => f x y && eqL f xs ys
  | _, _ => false
theorem eqL_get {α : Type} {f : α → α → Bool} : ∀ (xs ys : List α), eqL f xs ys = true → xs.length = ys.length ∧ ∀ (i : Nat) (x y : α), xs[i]? = some x → ys[i]? = some y → f x y = true
  | [], [], _ => ⟨rfl, fun i x y h => by simp at h⟩
  | [], _ :: _, h => by simp [eqL] at h
  | _ :: _, [], h => by simp [eqL] at h
  | x :: xs, y :: ys, h => by
    simp only [eqL, Bool.and_eq_true] at h
    obtain ⟨h1, h2⟩ := eqL_get xs ys h.2
    refine ⟨by simp [h1], fun i a b ha hb => ?_⟩
    cases i with
    | zero =>
      simp only [List.getElem?_cons_zero, Option.some.injEq] at ha hb
      rw [← ha, ← hb]; exact h.1
    | succ i => exact h2 i a b (by simpa using ha) (by simpa using hb)
def eqAddr (σ : Nat → Nat) (m : Nat) : Option Addr → Option Addr → Bool
  | none, none => true
  | some a, some b => decide (a.block < m) && σ a.block == b.block && a.off == b.off && a.spot.isNone && b.spot.isNone
  | _, _ => false
/-- The second value is the first one with its blocks' names turned by σ; all of them are below m. -/
def eqS (σ : Nat → Nat) (m : Nat) : Nat → Value → Value → Bool
  | 0, _, _ => false
  | _ + 1, .bool a, .bool b => a == b
  | _ + 1, .int k a, .int l b => k == l && a == b
  | _ + 1, .string a, .string b => a.data.toList == b.data.toList
  | _ + 1, .pointer a, .pointer b => eqAddr σ m a b
  | _ + 1, .slice a l c, .slice b k d => eqAddr σ m a b && l == k && c == d
  | _ + 1, .map none, .map none => true
  | _ + 1, .map (some a), .map (some b) => decide (a < m) && σ a == b
  | n + 1, .func f xs ys, .func g us vs => f == g && eqL (eqS σ m n) xs.toList us.toList && eqL (eqS σ m n) ys.toList vs.toList
  | _ + 1, .nilFunc, .nilFunc => true
  | n + 1, .iface t v, .iface u w => t == u && eqS σ m n v w
  | _ + 1, .nilIface, .nilIface => true
  | n + 1, .agg xs, .agg us => eqL (eqS σ m n) xs.toList us.toList
  | n + 1, .tuple xs, .tuple us => eqL (eqS σ m n) xs.toList us.toList
  | _, _, _ => false
/-- How the second small world lies, seen from the first one. -/
def Lie.pull (L : Lie) (σ : Nat → Nat) (m : Nat) : Lie := ⟨m, fun r => L.at_ (σ r), L.sh⟩
theorem AR.of_list {xs us : Array Value} (hl : xs.size = us.size) (h : ∀ (i : Nat) (x u : Value), xs[i]? = some x → us[i]? = some u → VR P L x u) : AR P L xs us :=
  ⟨hl, fun i hi => h i _ _ (getElem?_of_getD hi) (getElem?_of_getD (by rw [← hl]; exact hi))⟩
theorem eqL_AR {σ : Nat → Nat} {m n : Nat} {M : Lie} (ih : ∀ x y v, eqS σ m n x y = true → VR P L y v → VR P M x v) {xs ys us : Array Value} (h : eqL (eqS σ m n) xs.toList ys.toList = true) (ha : AR P L ys us) : AR P M xs us := by
  obtain ⟨hl, hg⟩ := eqL_get _ _ h
  have hl' : xs.size = ys.size := by simpa using hl
  refine ⟨hl'.trans ha.1, fun i hi => ?_⟩
  have hy : i < ys.size := by rw [← hl']; exact hi
  exact ih _ _ _ (hg i _ _ (by simpa using getElem?_of_getD hi) (by simpa using getElem?_of_getD hy)) (ha.2 i hy)
theorem eqS_sound {σ : Nat → Nat} {m : Nat} : ∀ (n : Nat) (x y v : Value), eqS σ m n x y = true → VR P L y v → VR P (L.pull σ m) x v := by
  intro n
  induction n with
  | zero => intro x y v h; simp [eqS] at h
  | succ n ih =>
    intro x y v h hv
    cases hv with
    | bool b => cases x <;> simp only [eqS, beq_iff_eq, Bool.false_eq_true] at h; rw [h]; exact .bool b
    | int k i => cases x <;> simp only [eqS, beq_iff_eq, Bool.false_eq_true, Bool.and_eq_true] at h; rw [h.1, h.2]; exact .int k i
    | string s =>
      cases x <;> simp only [eqS, beq_iff_eq, Bool.false_eq_true] at h
      rename_i a
      have : a = s := ByteArray.ext (Array.ext' h)
      rw [this]; exact .string s
    | nilP =>
      cases x <;> simp only [eqS, Bool.false_eq_true] at h
      rename_i a
      cases a with
      | none => exact .nilP
      | some a => cases h
    | ptr b o hb =>
      cases x <;> simp only [eqS, Bool.false_eq_true] at h
      rename_i a
      cases a with
      | none => cases h
      | some a =>
        obtain ⟨ab, ao, asp⟩ := a
        simp only [eqAddr, Bool.and_eq_true, decide_eq_true_eq, beq_iff_eq, Option.isNone_iff_eq_none] at h
        obtain ⟨⟨⟨⟨h1, h2⟩, h3⟩, h4⟩, _⟩ := h
        subst h2 h3 h4
        exact .ptr (L := L.pull σ m) ab ao h1
    | nilS l c =>
      cases x <;> simp only [eqS, Bool.false_eq_true, Bool.and_eq_true, beq_iff_eq] at h
      rename_i a _ _
      cases a with
      | none => rw [h.1.2, h.2]; exact .nilS l c
      | some a => exact absurd h.1.1 (by simp [eqAddr])
    | slice b o l c c' hb hc =>
      cases x <;> simp only [eqS, Bool.false_eq_true, Bool.and_eq_true, beq_iff_eq] at h
      rename_i a _ _
      cases a with
      | none => exact absurd h.1.1 (by simp [eqAddr])
      | some a =>
        obtain ⟨ab, ao, asp⟩ := a
        simp only [eqAddr, Bool.and_eq_true, decide_eq_true_eq, beq_iff_eq, Option.isNone_iff_eq_none] at h
        obtain ⟨⟨⟨⟨⟨⟨h1, h2⟩, h3⟩, h4⟩, _⟩, h5⟩, h6⟩ := h
        subst h2 h3 h4 h5 h6
        exact .slice (L := L.pull σ m) ab ao _ _ c' h1 hc
    | nilM =>
      cases x with
      | map a =>
        cases a with
        | none => exact .nilM
        | some a => cases h
      | _ => cases h
    | map r hr =>
      cases x with
      | map a =>
        cases a with
        | none => cases h
        | some a =>
          simp only [eqS, Bool.and_eq_true, decide_eq_true_eq, beq_iff_eq] at h
          obtain ⟨h1, h2⟩ := h
          subst h2
          exact .map (L := L.pull σ m) a h1
      | _ => cases h
    | func fn xs us ys vs h1 h2 g1 g2 =>
      cases x <;> simp only [eqS, Bool.false_eq_true, Bool.and_eq_true, beq_iff_eq] at h
      obtain ⟨⟨e0, e1⟩, e2⟩ := h
      have a1 := eqL_AR ih e1 ⟨h1, g1⟩
      have a2 := eqL_AR ih e2 ⟨h2, g2⟩
      rw [e0]
      exact .func fn _ _ _ _ a1.1 a2.1 a1.2 a2.2
    | nilF => cases x <;> simp only [eqS, Bool.false_eq_true] at h; exact .nilF
    | nilI => cases x <;> simp only [eqS, Bool.false_eq_true] at h; exact .nilI
    | iface t v v' hv =>
      cases x <;> simp only [eqS, Bool.false_eq_true, Bool.and_eq_true, beq_iff_eq] at h
      rw [h.1]
      exact .iface t _ _ (ih _ _ _ h.2 hv)
    | agg xs us hs hg =>
      cases x <;> simp only [eqS, Bool.false_eq_true] at h
      have a1 := eqL_AR ih h ⟨hs, hg⟩
      exact .agg _ _ a1.1 a1.2
    | tuple xs us hs hg =>
      cases x <;> simp only [eqS, Bool.false_eq_true] at h
      have a1 := eqL_AR ih h ⟨hs, hg⟩
      exact .tuple _ _ a1.1 a1.2
def eqM (σ : Nat → Nat) (m : Nat) (x y : MapEntry) : Bool := flat1 x.key && eqS σ m 9 x.key y.key && eqS id 0 9 x.key y.key && eqS σ m 9 x.val y.val && x.born == y.born
def eqO (σ : Nat → Nat) (m : Nat) : Obj → Obj → Bool
  | .cells xs e f, .cells us e' f' => eqL (eqS σ m 9) xs.toList us.toList && e == e' && f == (0, 0) && f' == (0, 0)
  | .map es k, .map fs k' => eqL (eqM σ m) es.toList fs.toList && k == k'
  | .coro none, .coro none => true
  | _, _ => false
def eqD (σ : Nat → Nat) (m : Nat) (x y : Deferred) : Bool :=
  (match x.target, y.target with
  | .fn f xs, .fn g us => f == g && eqL (eqS σ m 9) xs.toList us.toList
  | _, _ => false) && eqL (eqS σ m 9) x.args.toList y.args.toList

/-- A renaming of the blocks from n0 on. -/
def sg (n0 : Nat) (l : List Nat) (r : Nat) : Nat := if r < n0 then r else l.getD (r - n0) r
/-- The second small world is the first one but for the names of the blocks from n0 on. -/
def isoC (B n0 : Nat) (σl τl : List Nat) (c1 c2 : World) : Bool :=
  decide (n0 ≤ c1.heap.size) && decide (B ≤ n0) &&
  (List.range (c1.heap.size - n0)).all (fun r => sg n0 τl (sg n0 σl (r + n0)) == r + n0 && decide (n0 ≤ sg n0 σl (r + n0)) && decide (sg n0 σl (r + n0) < c2.heap.size)) &&
  (List.range c1.heap.size).all (fun r => match c1.heap[r]?, c2.heap[sg n0 σl r]? with
    | some o1, some o2 => eqO (sg n0 σl) c1.heap.size o1 o2
    | _, _ => false)
theorem eqM_sound {σ : Nat → Nat} {m : Nat} {x y z : MapEntry} (h : eqM σ m x y = true) (hr : MR P L y z) : MR P (L.pull σ m) x z := by
  unfold eqM at h
  simp only [Bool.and_eq_true, beq_iff_eq] at h
  obtain ⟨⟨⟨⟨h1, _⟩, h2⟩, h3⟩, h4⟩ := h
  obtain ⟨g1, g2, g3, g4⟩ := hr
  refine ⟨?_, h1, h4.trans g3, eqS_sound _ _ _ _ h3 g4⟩
  -- equal keys
  have key : ∀ (a b : Value), flat1 a = true → flat1 b = true → eqS id 0 9 a b = true → a = b := by
    intro a b ha hb hab
    cases a <;> cases b <;> first | (simp only [eqS, Bool.false_eq_true] at hab; done) | skip
    · simp only [eqS, beq_iff_eq] at hab; rw [hab]
    · simp only [eqS, beq_iff_eq, Bool.and_eq_true] at hab; rw [hab.1, hab.2]
    · simp only [eqS, beq_iff_eq] at hab
      rename_i s t
      have : s = t := ByteArray.ext (Array.ext' hab)
      rw [this]
    · rename_i s t
      cases s <;> cases t <;> first | rfl | (simp [flat1] at hb; done) | (simp [flat1] at ha; done)
    · rename_i s _ _ t _ _
      simp only [eqS, Bool.and_eq_true, beq_iff_eq] at hab
      cases s <;> cases t <;> first | (simp [flat1] at hb; done) | (simp [flat1] at ha; done) | (rw [hab.1.2, hab.2])
    · rename_i s t
      cases s <;> cases t <;> first | rfl | (simp [flat1] at hb; done) | (simp [flat1] at ha; done)
    · rename_i f xs ys g us vs
      simp only [flat1, Bool.and_eq_true, Array.isEmpty_iff] at ha hb
      simp only [eqS, Bool.and_eq_true, beq_iff_eq] at hab
      rw [hab.1.1, ha.1, ha.2, hb.1, hb.2]
    · rfl
    · cases ha
    · rfl
    · cases ha
    · cases ha
  exact (key _ _ h1 g2 h2).trans g1
theorem eqO_sound {σ : Nat → Nat} {m : Nat} {x y o : Obj} (h : eqO σ m x y = true) (ha : alive x = true) : alive y = true ∧ (OR P L y o → OR P (L.pull σ m) x o) := by
  unfold eqO at h
  split at h
  · simp only [Bool.and_eq_true, beq_iff_eq] at h
    obtain ⟨⟨⟨h1, h2⟩, h3⟩, h4⟩ := h
    refine ⟨rfl, fun hr => ?_⟩
    obtain ⟨hl, hg⟩ := eqL_get _ _ h1
    cases o with
    | cells vs e2 f2 =>
      obtain ⟨g1, g2, g3, g4, g5⟩ := hr
      rename_i xs e f us e' f'
      have hl' : xs.size = us.size := by simpa using hl
      refine ⟨g1.trans h2.symm, h3, g3, by omega, fun i hi => ?_⟩
      exact eqS_sound _ _ _ _ (hg i _ _ (by simpa using getElem?_of_getD hi) (by simpa using getElem?_of_getD (show i < us.size by omega))) (g5 i (by omega))
    | _ => exact hr.elim
  · simp only [Bool.and_eq_true, beq_iff_eq] at h
    obtain ⟨h1, h2⟩ := h
    refine ⟨rfl, fun hr => ?_⟩
    obtain ⟨hl, hg⟩ := eqL_get _ _ h1
    cases o with
    | map gs k2 =>
      obtain ⟨g1, g2, g3⟩ := hr
      rename_i es k fs k'
      have hl' : es.size = fs.size := by simpa using hl
      refine ⟨g1.trans h2.symm, hl'.trans g2, fun i x z hx hz => ?_⟩
      have hi := (Array.getElem?_eq_some_iff.1 hx).1
      obtain ⟨y, hy⟩ : ∃ y, fs[i]? = some y := ⟨_, Array.getElem?_eq_getElem (by omega)⟩
      exact eqM_sound (hg i x y (by simpa using hx) (by simpa using hy)) (g3 i y z hy hz)
    | _ => exact hr.elim
  · cases ha
  · cases h
theorem eqO_nov {σ : Nat → Nat} {m : Nat} {x y : Obj} (h : eqO σ m x y = true) : isView x = false := by
  unfold eqO at h
  split at h <;> first | rfl | cases h
theorem sg_lt {n0 : Nat} {l : List Nat} {r : Nat} (h : r < n0) : sg n0 l r = r := by unfold sg; rw [if_pos h]
theorem isoC_sound {B G n0 : Nat} {σl τl : List Nat} {c1 c2 : World} {L0 : Lie} (h : isoC B n0 σl τl c1 c2 = true) (hs : Sim P B G w0 L c2 w) (h0 : L0.le L) (hn0 : L0.n = n0) (hG : G ≤ n0) :
    Sim P B G w0 (L.pull (sg n0 σl) c1.heap.size) c1 w ∧ L0.le (L.pull (sg n0 σl) c1.heap.size) := by
  unfold isoC at h
  simp only [Bool.and_eq_true, decide_eq_true_eq, List.all_eq_true, List.mem_range, beq_iff_eq] at h
  obtain ⟨⟨⟨hn, hB⟩, hp⟩, ho⟩ := h
  have hb : ∀ r o, c1.heap[r]? = some o → ∃ o2, c2.heap[sg n0 σl r]? = some o2 ∧ eqO (sg n0 σl) c1.heap.size o o2 = true := by
    intro r o hr
    have hr' := (Array.getElem?_eq_some_iff.1 hr).1
    have := ho r hr'
    rw [hr] at this
    split at this
    · rename_i o1 o2 e1 e2
      injection e1 with e1
      subst e1
      exact ⟨o2, e2, this⟩
    · cases this
  have hσ : ∀ r, r < c1.heap.size → n0 ≤ r → sg n0 τl (sg n0 σl r) = r ∧ n0 ≤ sg n0 σl r ∧ sg n0 σl r < c2.heap.size := by
    intro r hr hr0
    have := hp (r - n0) (by omega)
    rw [Nat.sub_add_cancel hr0] at this
    exact ⟨this.1.1, this.1.2, this.2⟩
  refine ⟨⟨rfl, hs.sh, fun g hg => ?_, by show G ≤ c1.heap.size; omega, by show B ≤ c1.heap.size; omega, ?_, ?_, ?_, hs.below, ?_⟩, ?_, ?_, h0.2.2⟩
  · show L.at_ (sg n0 σl g) = g
    rw [sg_lt (by omega)]; exact hs.glob g hg
  · intro r s x y hx hy ax ay he
    obtain ⟨x2, hx2, ex⟩ := hb r x hx
    obtain ⟨y2, hy2, ey⟩ := hb s y hy
    have e := hs.inj _ _ _ _ hx2 hy2 (eqO_sound (P := P) (L := L) (o := x) ex ax).1 (eqO_sound (P := P) (L := L) (o := x) ey ay).1 he
    have hr' := (Array.getElem?_eq_some_iff.1 hx).1
    have hs' := (Array.getElem?_eq_some_iff.1 hy).1
    by_cases h1 : r < n0 <;> by_cases h2 : s < n0
    · rw [sg_lt h1, sg_lt h2] at e; exact e
    · rw [sg_lt h1] at e
      have := (hσ s hs' (by omega)).2.1
      omega
    · rw [sg_lt h2] at e
      have := (hσ r hr' (by omega)).2.1
      omega
    · have e1 := (hσ r hr' (by omega)).1
      have e2 := (hσ s hs' (by omega)).1
      rw [e] at e1
      exact e1.symm.trans e2
  · intro r x hx ax
    obtain ⟨x2, hx2, ex⟩ := hb r x hx
    obtain ⟨o', ho', hor⟩ := hs.obj _ _ hx2 (eqO_sound (P := P) (L := L) (o := x) ex ax).1
    exact ⟨o', ho', (eqO_sound ex ax).2 hor⟩
  · intro r hr hrn
    have hrn : r < c1.heap.size := hrn
    show _ ≤ L.at_ (sg n0 σl r)
    by_cases h1 : r < n0
    · rw [sg_lt h1]; exact hs.fresh r hr (by have := h0.1; omega)
    · obtain ⟨_, g2, g3⟩ := hσ r hrn (by omega)
      exact hs.fresh _ (by omega) (by rw [hs.n]; exact g3)
  · intro r o hr
    obtain ⟨o2, _, e⟩ := hb r o hr
    exact eqO_nov e
  · show L0.n ≤ c1.heap.size
    omega
  · intro r hr
    show L.at_ (sg n0 σl r) = L0.at_ r
    rw [sg_lt (by omega)]
    exact h0.2.1 r hr
end Go.Proofs.YtjnimfnelacceaaGreatDoor
namespace Go.Proofs.YtjnimfnelacceaaGreatDoor
open Go.RowKit

/-! ### A tree of blocks -/
inductive Tr where
  | leaf
  | node (v : Option Obj) (l r : Tr)
def Tr.get : Nat → Tr → Nat → Option Obj
  | 0, _, _ => none
  | _ + 1, .leaf, _ => none
  | d + 1, .node v l r, i => match i with
    | 0 => v
    | j + 1 => match j % 2 with
      | 0 => l.get d (j / 2)
      | _ + 1 => r.get d (j / 2)
def Tr.set : Nat → Tr → Nat → Obj → Tr
  | 0, t, _, _ => t
  | d + 1, .leaf, i, o => match i with
    | 0 => .node (some o) .leaf .leaf
    | j + 1 => match j % 2 with
      | 0 => .node none (Tr.set d .leaf (j / 2) o) .leaf
      | _ + 1 => .node none .leaf (Tr.set d .leaf (j / 2) o)
  | d + 1, .node v l r, i, o => match i with
    | 0 => .node (some o) l r
    | j + 1 => match j % 2 with
      | 0 => .node v (l.set d (j / 2) o) r
      | _ + 1 => .node v l (r.set d (j / 2) o)
theorem Tr.get_set_same : ∀ (d : Nat) (t : Tr) (i : Nat) (o : Obj), i + 1 < 2 ^ d → (t.set d i o).get d i = some o
  | 0, _, i, _, h => by simp at h
  | d + 1, .leaf, i, o, h => by
    cases i with
    | zero => rfl
    | succ j =>
      have hj : j / 2 + 1 < 2 ^ d := by rw [Nat.pow_succ] at h; omega
      simp only [Tr.set]
      cases hm : j % 2 with
      | zero => simp only [Tr.get, hm]; exact get_set_same d _ _ _ hj
      | succ k => simp only [Tr.get, hm]; exact get_set_same d _ _ _ hj
  | d + 1, .node v l r, i, o, h => by
    cases i with
    | zero => rfl
    | succ j =>
      have hj : j / 2 + 1 < 2 ^ d := by rw [Nat.pow_succ] at h; omega
      simp only [Tr.set]
      cases hm : j % 2 with
      | zero => simp only [Tr.get, hm]; exact get_set_same d _ _ _ hj
      | succ k => simp only [Tr.get, hm]; exact get_set_same d _ _ _ hj
theorem Tr.get_leaf (d i : Nat) : Tr.leaf.get d i = none := by cases d <;> rfl
theorem Tr.get_set_other : ∀ (d : Nat) (t : Tr) (i j : Nat) (o : Obj), i ≠ j → (t.set d i o).get d j = t.get d j
  | 0, _, _, _, _, _ => rfl
  | d + 1, .leaf, i, j, o, h => by
    cases i with
    | zero =>
      cases j with
      | zero => exact absurd rfl h
      | succ k => simp only [Tr.set, Tr.get]; split <;> exact Tr.get_leaf _ _
    | succ i =>
      simp only [Tr.set]
      cases hm : i % 2 with
      | zero =>
        cases j with
        | zero => rfl
        | succ k =>
          simp only [Tr.get]
          cases hk : k % 2 with
          | zero => simp only; rw [get_set_other d _ _ _ _ (by omega)]; exact Tr.get_leaf _ _
          | succ k' => exact Tr.get_leaf _ _
      | succ m =>
        cases j with
        | zero => rfl
        | succ k =>
          simp only [Tr.get]
          cases hk : k % 2 with
          | zero => exact Tr.get_leaf _ _
          | succ k' => simp only; rw [get_set_other d _ _ _ _ (by omega)]; exact Tr.get_leaf _ _
  | d + 1, .node v l r, i, j, o, h => by
    cases i with
    | zero =>
      cases j with
      | zero => exact absurd rfl h
      | succ k => rfl
    | succ i =>
      simp only [Tr.set]
      cases hm : i % 2 with
      | zero =>
        cases j with
        | zero => rfl
        | succ k =>
          simp only [Tr.get]
          cases hk : k % 2 with
          | zero => simp only; exact get_set_other d _ _ _ _ (by omega)
          | succ k' => rfl
      | succ m =>
        cases j with
        | zero => rfl
        | succ k =>
          simp only [Tr.get]
          cases hk : k % 2 with
          | zero => rfl
          | succ k' => simp only; exact get_set_other d _ _ _ _ (by omega)

/-- A small world: so many blocks; a block that the tree lacks is dead. -/
structure Fw where
  n : Nat
  hp : Tr
def depth : Nat := 24
def Fw.rd (F : Fw) (b : Nat) : Option Obj := if b < F.n then F.hp.get depth b else none
def Fw.at (F : Fw) (b : Nat) : Obj := (F.hp.get depth b).getD (.coro none)
def Fw.toW (F : Fw) : World := { (default : World) with heap := ((List.range F.n).map F.at).toArray }
def Fw.push (F : Fw) (o : Obj) : Fw := ⟨F.n + 1, F.hp.set depth F.n o⟩
def Fw.put (F : Fw) (b : Nat) (o : Obj) : Fw := ⟨F.n, F.hp.set depth b o⟩
theorem Fw.heap_get (F : Fw) (i : Nat) : F.toW.heap[i]? = if i < F.n then some (F.at i) else none := by
  show (((List.range F.n).map F.at).toArray)[i]? = _
  simp only [List.getElem?_toArray, List.getElem?_map, List.getElem?_range]
  split
  · rename_i h
    rw [List.getElem?_range h]; rfl
  · rename_i h
    rw [List.getElem?_eq_none (by simpa using h)]; rfl
theorem Fw.size (F : Fw) : F.toW.heap.size = F.n := by
  show (((List.range F.n).map F.at).toArray).size = _
  simp
theorem Fw.rd_some {F : Fw} {b : Nat} {o : Obj} (h : F.rd b = some o) : F.toW.heap[b]? = some o := by
  unfold Fw.rd at h
  split at h
  · rename_i hb
    rw [F.heap_get, if_pos hb]
    unfold Fw.at
    rw [h]; rfl
  · cases h
def big (n : Nat) : Prop := n < 10000000
instance (n : Nat) : Decidable (big n) := inferInstanceAs (Decidable (n < 10000000))
theorem Fw.push_heap (F : Fw) (o : Obj) (h : big F.n) : (F.push o).toW.heap = F.toW.heap.push o := by
  have h' : F.n + 1 < 2 ^ depth := by unfold depth; unfold big at h; omega
  apply Array.ext_getElem?
  intro i
  rw [Fw.heap_get, Array.getElem?_push, Fw.size, Fw.heap_get]
  show (if i < F.n + 1 then some ((F.push o).at i) else none) = _
  unfold Fw.at Fw.push
  by_cases hi : i = F.n
  · subst hi
    rw [if_pos (by omega), if_pos rfl, Tr.get_set_same _ _ _ _ h']; rfl
  · rw [if_neg hi]
    by_cases hlt : i < F.n
    · rw [if_pos (by omega), if_pos hlt, Tr.get_set_other _ _ _ _ _ (fun e => hi e.symm)]
    · rw [if_neg (by omega), if_neg hlt]
theorem Fw.put_heap (F : Fw) (b : Nat) (o : Obj) (hb : b < F.n) (h : big F.n) : (F.put b o).toW.heap = F.toW.heap.setIfInBounds b o := by
  have h' : b + 1 < 2 ^ depth := by unfold depth; unfold big at h; omega
  apply Array.ext_getElem?
  intro i
  rw [Fw.heap_get, Array.getElem?_setIfInBounds, Fw.size, Fw.heap_get]
  show (if i < F.n then some ((F.put b o).at i) else none) = _
  unfold Fw.at Fw.put
  by_cases hi : b = i
  · subst hi
    rw [if_pos hb, if_pos rfl, if_pos hb, Tr.get_set_same _ _ _ _ h']; rfl
  · rw [if_neg hi, Tr.get_set_other _ _ _ _ _ hi]

/-- Two worlds of one heap. -/
theorem Sim.heap {P : Program} {B G : Nat} {w0 : World} {L : Lie} {c c1 w : World} (h : Sim P B G w0 L c w) (hc : c1.heap = c.heap) : Sim P B G w0 L c1 w := h.same hc rfl rfl rfl rfl
end Go.Proofs.YtjnimfnelacceaaGreatDoor
