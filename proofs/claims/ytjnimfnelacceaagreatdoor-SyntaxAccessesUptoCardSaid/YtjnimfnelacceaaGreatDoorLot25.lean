/- What the evaluator gives holds in the great world: operations. What the evaluator gives holds in the great world: regions. -/
import Derived.Test.YtjnimfnelacceaaGreatDoorLot24
set_option linter.unusedSimpArgs false
set_option linter.unusedVariables false
namespace Go.Proofs.YtjnimfnelacceaaGreatDoor
open Go.RowKit

section
variable {P : Program} {B G : Nat} {w0 : World} {L : Lie} {w : World} {ent : FuncId → Bool} {call : CallF}

def ChR (P : Program) (L : Lie) : List PanicEntry → List PanicEntry → Prop
  | [], [] => True
  | p :: ps, q :: qs => (VR P L p.v q.v ∧ p.recovered = q.recovered ∧ p.goexit = q.goexit) ∧ ChR P L ps qs
  | _, _ => False
def DR (P : Program) (L : Lie) (d d' : Deferred) : Prop := (∃ fn cap cap', d.target = .fn fn cap ∧ d'.target = .fn fn cap' ∧ AR P L cap cap') ∧ AR P L d.args d'.args
def DLR (P : Program) (L : Lie) : List Deferred → List Deferred → Prop
  | [], [] => True
  | d :: ds, e :: es => DR P L d e ∧ DLR P L ds es
  | _, _ => False
def CR (P : Program) (L : Lie) (a : Fa) (a' : Act) : Prop := AR P L ⟨a.tmps⟩ a'.tmps ∧ DLR P L a.defers a'.defers
theorem ChR.mono {M : Lie} (hl : L.le M) : ∀ {x y : List PanicEntry}, ChR P L x y → ChR P M x y
  | [], [], _ => trivial
  | _ :: _, _ :: _, h => ⟨⟨h.1.1.mono hl, h.1.2⟩, ChR.mono hl h.2⟩
  | [], _ :: _, h => h.elim
  | _ :: _, [], h => h.elim
theorem DR.mono {M : Lie} (hl : L.le M) {x y : Deferred} (h : DR P L x y) : DR P M x y := by
  obtain ⟨⟨fn, cap, cap', h1, h2, h3⟩, h4⟩ := h
  exact ⟨⟨fn, cap, cap', h1, h2, h3.mono hl⟩, h4.mono hl⟩
theorem DLR.mono {M : Lie} (hl : L.le M) : ∀ {x y : List Deferred}, DLR P L x y → DLR P M x y
  | [], [], _ => trivial
  | _ :: _, _ :: _, h => ⟨h.1.mono hl, DLR.mono hl h.2⟩
  | [], _ :: _, h => h.elim
  | _ :: _, [], h => h.elim
theorem CR.mono {M : Lie} (hl : L.le M) {a : Fa} {a' : Act} (h : CR P L a a') : CR P M a a' := ⟨h.1.mono hl, h.2.mono hl⟩
theorem CR.put {a : Fa} {a' : Act} (h : CR P L a a') (dst : Option Tmp) {v v' : Value} (hv : VR P L v v') : CR P L (a.put dst v) (a'.put dst v') := by
  cases dst with
  | none => exact h
  | some d =>
    refine ⟨?_, h.2⟩
    have e : (⟨setL a.tmps d v⟩ : Array Value) = (⟨a.tmps⟩ : Array Value).setIfInBounds d v := by
      apply Array.ext'
      simp [setL_eq]
    show AR P L ⟨setL a.tmps d v⟩ (a'.tmps.setIfInBounds d v')
    rw [e]
    exact h.1.set hv d
theorem CR.eval {a : Fa} {a' : Act} {c : World} (h : CR P L a a') (hs : Sim P B G w0 L c w) {x : Operand} (hx : okX G x = true) : VR P L (a.eval x) (a'.eval x) := by
  cases x with
  | tmp t =>
    show VR P L (getL a.tmps t) (a'.tmps.getD t undef)
    rw [getL_eq]
    exact h.1.getD t
  | const v => exact .of_flat hx
  | global g =>
    simp only [okX, decide_eq_true_eq] at hx
    have := VR.ptr (P := P) (L := L) g 0 (Nat.lt_of_lt_of_le hx hs.gle)
    rw [hs.glob g hx] at this
    exact this
  | func f => exact .func _ _ _ _ _ rfl rfl (fun i h => absurd h (by simp)) (fun i h => absurd h (by simp))
def ResR (P : Program) (L : Lie) : Res → Ending → Prop
  | .ret v, .returned v' => VR P L v v'
  | .pan ch, .panicked dh => ChR P L ch dh
  | _, _ => False
/-- Calls of the evaluator are calls in the great world. -/
def CallOk (P : Program) (B G : Nat) (w0 : World) (call : CallF) : Prop :=
  ∀ f args F r F1, call f args F = some (r, F1) → ∀ L w args', Sim P B G w0 L F.toW w → AR P L ⟨args⟩ args' →
    Calls P f args' w fun e w1 => ∃ M, L.le M ∧ Sim P B G w0 M F1.toW w1 ∧ ResR P M r e
def EntOk (P : Program) (ent : FuncId → Bool) : Prop := ∀ f, ent f = true → ∀ args w, (callFunc f args).run P w = .ok (.enter f args) w
/-- Where an operation goes on. -/
def StepK (P : Program) (B G : Nat) (w0 : World) (L : Lie) (a' : Act) (K : Act → World → Prop) (Q : Exit → Act → World → Prop) : StepR → Prop
  | .next a1 F1 => ∀ M a1' w1, L.le M → Sim P B G w0 M F1.toW w1 → CR P M a1 a1' → K a1' w1
  | .pan ch a1 F1 => ∀ M ch' w1, L.le M → Sim P B G w0 M F1.toW w1 → ChR P M ch ch' → CR P M a1 a' → Q (.panic ch') a' w1

theorem array_of_list (xs : Array Value) : (⟨xs.toList⟩ : Array Value) = xs := rfl
theorem callOp_spec (hE : EntOk P ent) (hC : CallOk P B G w0 call) {o : Oper} {k : Call} {a : Fa} {F : Fw} {sr : StepR} {a' : Act} (ho : o.op = .call k) (hs : Sim P B G w0 L F.toW w) (hr : CR P L a a')
    (hx : ∀ x ∈ o.op.operands.toList, okX G x = true) (he : callOp ent call o k a F = some sr) {K : Act → World → Prop} {Q : Exit → Act → World → Prop} (hk : StepK P B G w0 L a' K Q sr) : o.wp P a' w K Q := by
  unfold callOp at he
  split at he
  · rename_i f hf
    have hxf : okX G f = true := hx f (by rw [ho]; simp [Op.operands, Call.operands, hf])
    have hargs : ∀ x ∈ k.args.toList, okX G x = true := fun x hxx => hx x (by rw [ho]; simp only [Op.operands, Call.operands, hf, Array.toList_append, List.mem_append]; exact .inr hxx)
    have hv := hr.eval hs hxf
    split at he
    · rename_i g first cap hg
      rw [hg] at hv
      cases hq : a'.eval f <;> rw [hq] at hv <;> cases hv
      rename_i us vs h1 g1 h2 g2
      have hfirst : AR P L first us := ⟨h1, g1⟩
      have hcap : AR P L cap vs := ⟨h2, g2⟩
      have hmid : AR P L (k.args.map a.eval) (k.args.map a'.eval) := AR.map k.args fun x hxx => hr.eval hs (hargs x hxx)
      have hall := hfirst.append (hmid.append hcap)
      have hrun : (execOp a'.eval o).run P w = (callFunc g (us ++ (k.args.map a'.eval ++ vs))).run P w := by
        unfold execOp
        rw [ho]
        simp only [resolve, hf, hq, Deferred.ofValue, pure_bind, invoke, Array.append_assoc]
      split at he
      · rename_i hent
        unfold Oper.wp
        rw [hrun, hE g hent]
        simp only [Oper.upon]
        have hlist : (⟨first.toList ++ (k.args.toList.map a.eval ++ cap.toList)⟩ : Array Value) = first ++ (k.args.map a.eval ++ cap) := by apply Array.ext'; simp
        split at he
        · rename_i v F1 hc
          injection he with he
          subst he
          refine (hC _ _ _ _ _ hc L w _ hs (by rw [hlist]; exact hall)).mono fun e w1 hR => ?_
          obtain ⟨M, hle, hS, hv⟩ := hR
          cases e with
          | returned v' => exact hk M _ w1 hle hS ((hr.mono hle).put o.dst hv)
          | panicked ch => exact hv.elim
          | outgrown => exact hv.elim
        · rename_i ch F1 hc
          injection he with he
          subst he
          refine (hC _ _ _ _ _ hc L w _ hs (by rw [hlist]; exact hall)).mono fun e w1 hR => ?_
          obtain ⟨M, hle, hS, hv⟩ := hR
          cases e with
          | returned v' => exact hv.elim
          | panicked ch' => exact hk M ch' w1 hle hS hv (hr.mono hle)
          | outgrown => exact hv.elim
        · cases he
      · cases he
    · cases he
  · cases he
theorem stepF_spec (hE : EntOk P ent) (hC : CallOk P B G w0 call) {o : Oper} {a : Fa} {F : Fw} {sr : StepR} {a' : Act} (hs : Sim P B G w0 L F.toW w) (hr : CR P L a a')
    (hx : ∀ x ∈ o.op.operands.toList, okX G x = true) (he : stepF P B ent call o a F = some sr) {K : Act → World → Prop} {Q : Exit → Act → World → Prop} (hk : StepK P B G w0 L a' K Q sr) : o.wp P a' w K Q := by
  have hρ : ∀ x ∈ o.op.operands.toList, VR P L (a.eval x) (a'.eval x) := fun x hxx => hr.eval hs (hx x hxx)
  unfold stepF at he
  rw [doF_eq] at he
  cases hv : pureC P a.eval o.op with
  | some v =>
    rw [hv] at he
    dsimp only at he
    injection he with he
    subst he
    obtain ⟨v', h1, h2⟩ := pureC_spec hρ hv
    unfold Oper.wp
    rw [h2 w]
    exact hk L _ w L.le_refl hs (hr.put o.dst h1)
  | none =>
    rw [hv] at he
    dsimp only at he
    split at he
    · rename_i v F1 hm
      injection he with he
      subst he
      obtain ⟨M, w1, nx, v', h1, h2, h3, h4, h5⟩ := memF_spec hs hρ hm
      unfold Oper.wp
      rw [h1]
      rcases h2 with rfl | ⟨rfl, rfl⟩
      · exact hk M _ w1 h3 h4 ((hr.mono h3).put o.dst h5)
      · exact hk M _ w1 h3 h4 ((hr.mono h3).put o.dst h5)
    · unfold restOp at he
      split at he
      · rename_i k ho
        exact callOp_spec hE hC ho hs hr hx he hk
      · rename_i k ho
        unfold deferOp at he
        split at he
        · rename_i f hf
          have hxf : okX G f = true := hx f (by rw [ho]; simp [Op.operands, Call.operands, hf])
          have hargs : ∀ x ∈ k.args.toList, okX G x = true := fun x hxx => hx x (by rw [ho]; simp only [Op.operands, Call.operands, hf, Array.toList_append, List.mem_append]; exact .inr hxx)
          have hv := hr.eval hs hxf
          split at he
          · rename_i g first cap hg
            injection he with he
            subst he
            rw [hg] at hv
            cases hq : a'.eval f <;> rw [hq] at hv <;> cases hv
            rename_i us vs h1 g1 h2 g2
            have hfirst : AR P L first us := ⟨h1, g1⟩
            have hcap : AR P L cap vs := ⟨h2, g2⟩
            have hmid : AR P L (k.args.map a.eval) (k.args.map a'.eval) := AR.map k.args fun x hxx => hr.eval hs (hargs x hxx)
            have hlist : (⟨first.toList ++ k.args.toList.map a.eval⟩ : Array Value) = first ++ k.args.map a.eval := by apply Array.ext'; simp
            unfold Oper.wp
            have hrun : (execOp a'.eval o).run P w = .ok (.defer { target := .fn (.func g) vs, args := us ++ k.args.map a'.eval }) w := by
              unfold execOp
              rw [ho]
              simp only [resolve, hf, hq, Deferred.ofValue, pure_bind, Sem.run_pure]
            rw [hrun]
            simp only [Oper.upon]
            have hda : AR P L ⟨first.toList ++ k.args.toList.map a.eval⟩ (us ++ k.args.map a'.eval) := by rw [hlist]; exact hfirst.append hmid
            have hcr : CR P L ⟨a.tmps, { target := .fn (.func g) cap, args := ⟨first.toList ++ k.args.toList.map a.eval⟩ } :: a.defers⟩ { a' with defers := { target := .fn (.func g) vs, args := us ++ k.args.map a'.eval } :: a'.defers } :=
              ⟨hr.1, (show DR P L _ _ ∧ DLR P L _ _ from ⟨⟨⟨_, _, _, rfl, rfl, hcap⟩, hda⟩, hr.2⟩)⟩
            exact hk L _ w L.le_refl hs (hcr.put o.dst .undef)
          · cases he
        · cases he
      · rename_i x ho
        have hv := hρ x (by rw [ho]; simp [Op.operands])
        unfold panicOp at he
        split at he
        · rename_i t v hxv
          injection he with he
          subst he
          rw [hxv] at hv
          cases hq : a'.eval x <;> rw [hq] at hv <;> cases hv
          rename_i v' hvv
          unfold Oper.wp
          have hrun : (execOp a'.eval o).run P w = .halt (.panic (.iface t v')) w := by
            unfold execOp
            rw [ho]
            simp only [hq, Instr.panic, Sem.run_bind]
            rfl
          rw [hrun]
          simp only [Oper.upon]
          exact hk L _ w L.le_refl hs ⟨⟨.iface t _ _ hvv, rfl, rfl⟩, trivial⟩ hr
        · cases he
      · cases he
end
end Go.Proofs.YtjnimfnelacceaaGreatDoor
namespace Go.Proofs.YtjnimfnelacceaaGreatDoor
open Go.RowKit

section
variable {P : Program} {B G : Nat} {w0 : World} {L : Lie} {w : World} {ent : FuncId → Bool} {call : CallF}

/-- How a piece of code ends, in the great world. -/
def OutR (P : Program) (M : Lie) (full : Bool) (out : Out) (a : Fa) : Exit → Act → Prop
  | .normal, a' => (match out with | .normal => CR P M a a' | _ => False)
  | .exit j, a' => (match out with | .exit i => j = i ∧ CR P M a a' | _ => False)
  | .ret, a' => (match out with | .ret => CR P M a a' | _ => False)
  | .panic dh, a' => (match out with | .pan ch => ChR P M ch dh ∧ DLR P M a.defers a'.defers ∧ (full = true → AR P M ⟨a.tmps⟩ a'.tmps) | _ => False)
  | _, _ => False
def OutQ (P : Program) (B G : Nat) (w0 : World) (L : Lie) (full : Bool) (out : Out) (a : Fa) (F : Fw) : Exit → Act → World → Prop :=
  fun e a' w1 => ∃ M, L.le M ∧ Sim P B G w0 M F.toW w1 ∧ OutR P M full out a e a'
theorem OutQ.mono {M : Lie} (hl : L.le M) {full : Bool} {out : Out} {a : Fa} {F : Fw} {e : Exit} {a' : Act} {w1 : World} (h : OutQ P B G w0 M full out a F e a' w1) : OutQ P B G w0 L full out a F e a' w1 := by
  obtain ⟨N, h1, h2, h3⟩ := h
  exact ⟨N, Lie.le_trans hl h1, h2, h3⟩
theorem OutQ.blind {out : Out} {a : Fa} {F : Fw} : PanicBlind (OutQ P B G w0 L false out a F) := by
  rintro ch a' w1 dst v ⟨M, h1, h2, h3⟩
  refine ⟨M, h1, h2, ?_⟩
  cases out with
  | pan c =>
    obtain ⟨g1, g2, _⟩ := h3
    refine ⟨g1, ?_, fun h => by cases h⟩
    cases dst <;> exact g2
  | _ => exact h3.elim
theorem yielded_eq {ops : Array Oper} {a : Fa} {a' : Act} (h : CR P L a a') (j : Nat) : yielded ops a.toA.tmps j = yielded ops a'.tmps j := by
  unfold yielded
  cases hd : (ops[j]?).bind (·.dst) with
  | none => rfl
  | some t =>
    simp only [Option.bind_some]
    show (match (⟨a.tmps⟩ : Array Value)[t]? with | some (.bool b) => some b | _ => none) = _
    by_cases ht : t < (⟨a.tmps⟩ : Array Value).size
    · have ht' : t < a'.tmps.size := by rw [← h.1.1]; exact ht
      have hv := h.1.2 t ht
      rw [getElem?_of_getD ht, getElem?_of_getD ht']
      generalize (⟨a.tmps⟩ : Array Value).getD t undef = x at hv ⊢
      generalize a'.tmps.getD t undef = y at hv ⊢
      cases hv <;> rfl
    · have ht' : ¬ t < a'.tmps.size := by rw [← h.1.1]; exact ht
      rw [Array.getElem?_eq_none (Nat.le_of_not_lt ht), Array.getElem?_eq_none (Nat.le_of_not_lt ht')]
theorem wantedF_eq {ops : Array Oper} {o : Oper} {a : Fa} {a' : Act} (h : CR P L a a') : wantedF ops o a = Region.wanted o (yielded ops a'.tmps) := by
  unfold wantedF Region.wanted
  cases hg : o.guard with
  | none => rfl
  | some g =>
    obtain ⟨j, b⟩ := g
    simp only [hg]
    rw [yielded_eq h j]

/-! ### A region in the text's order -/
theorem opsF_spec (hE : EntOk P ent) (hC : CallOk P B G w0 call) {full : Bool} {ops : Array Oper} : ∀ (l : List Oper) (a : Fa) (F : Fw) (L : Lie) (w : World) (a' : Act) (r : Out × Fa × Fw),
    (∀ o ∈ l, ∀ x ∈ o.op.operands.toList, okX G x = true) → Sim P B G w0 L F.toW w → CR P L a a' → opsF P B ent call ops l a F = some r → wpList P ops (OutQ P B G w0 L full r.1 r.2.1 r.2.2) l a' w
  | [], a, F, L, w, a', r, _, hs, hr, he => by
    simp only [opsF, Option.some.injEq] at he
    subst he
    exact ⟨L, L.le_refl, hs, hr⟩
  | o :: l, a, F, L, w, a', r, hx, hs, hr, he => by
    unfold opsF at he
    unfold wpList
    rw [← wantedF_eq (ops := ops) (o := o) hr]
    split at he
    · rename_i hw
      rw [if_pos hw]
      left
      split at he
      · rename_i a1 F1 hst
        refine stepF_spec hE hC hs hr (hx o List.mem_cons_self) hst fun M a1' w1 hle hS hR => ?_
        have := opsF_spec hE hC (full := full) l a1 F1 M w1 a1' r (fun o' ho => hx o' (List.mem_cons_of_mem _ ho)) hS hR he
        exact wpList_mono (fun e a2 w2 h => OutQ.mono hle h) l a1' w1 this
      · rename_i ch a1 F1 hst
        injection he with he
        subst he
        exact stepF_spec hE hC hs hr (hx o List.mem_cons_self) hst fun M ch' w1 hle hS hch hd => ⟨M, hle, hS, hch, hd.2, fun _ => hd.1⟩
      · cases he
    · rename_i hw
      rw [if_neg hw]
      exact opsF_spec hE hC l _ F L w _ r (fun o' ho => hx o' (List.mem_cons_of_mem _ ho)) hs (hr.put o.dst .undef) he
where
  Oper_monoQ {o : Oper} {a : Act} {w : World} {K K' : Act → World → Prop} {Q Q' : Exit → Act → World → Prop} (hK : ∀ a w, K a w → K' a w) (hQ : ∀ e a w, Q e a w → Q' e a w) (h : o.wp P a w K Q) : o.wp P a w K' Q' := by
    unfold Oper.wp at *
    generalize (execOp a.eval o).run P w = r at *
    cases r with
    | ok n w' =>
      cases n <;> simp only [Oper.upon] at h ⊢ <;> first | exact h.elim | exact hK _ _ h | skip
      case enter f args =>
        refine h.mono fun e w'' he => ?_
        cases e with
        | returned u => exact hK _ _ he
        | panicked ch => exact hQ _ _ _ he
        | outgrown => obtain ⟨a0, w0, h0⟩ := he; exact ⟨a0, w0, hQ _ _ _ h0⟩
      case row row args => exact h.mono fun u w'' he => hK _ _ he
    | halt x w' => cases x <;> simp only [Oper.upon] at h ⊢ <;> first | exact h.elim | exact hQ _ _ _ h
  wpList_mono {ops : Array Oper} {Q Q' : Exit → Act → World → Prop} (hQ : ∀ e a w, Q e a w → Q' e a w) : ∀ (l : List Oper) (a : Act) (w : World), wpList P ops Q l a w → wpList P ops Q' l a w
    | [], _, _, h => hQ _ _ _ h
    | o :: l, a, w, h => by
      unfold wpList at *
      split
      · rename_i hw
        rw [if_pos hw] at h
        rcases h with h | ⟨h1, a0, w0, h2⟩
        · exact .inl (Oper_monoQ (wpList_mono hQ l) hQ h)
        · exact .inr ⟨h1, a0, w0, hQ _ _ _ h2⟩
      · rename_i hw
        rw [if_neg hw] at h
        exact wpList_mono hQ l _ _ h
theorem wpOp_monoQ {ops : Array Oper} {Q Q' : Exit → Act → World → Prop} (hQ : ∀ e a w, Q e a w → Q' e a w) {K K' : Act → World → Prop} (hK : ∀ a w, K a w → K' a w) {i : Nat} {a : Act} {w : World}
    (h : wpOp P ops Q i K a w) : wpOp P ops Q' i K' a w := by
  unfold Go.wpOp at *
  split
  · rename_i ho; simp only [ho] at h; exact hK _ _ h
  · rename_i o ho
    simp only [ho] at h
    split
    · rename_i hw
      rw [if_pos hw] at h
      rcases h with h | ⟨h1, a0, w0, h2⟩
      · exact .inl (opsF_spec.Oper_monoQ hK hQ h)
      · exact .inr ⟨h1, a0, w0, hQ _ _ _ h2⟩
    · rename_i hw
      rw [if_neg hw] at h
      exact hK _ _ h
theorem wpAny_monoQ {ops : Array Oper} {Q Q' : Exit → Act → World → Prop} (hQ : ∀ e a w, Q e a w → Q' e a w) : ∀ (n : Nat) (listed : Array Bool) (a : Act) (w : World), wpAny P .any ops Q n listed a w → wpAny P .any ops Q' n listed a w
  | 0, _, _, _, h => ⟨h.1, hQ _ _ _ h.2⟩
  | n + 1, _, _, _, h => ⟨fun h0 => hQ _ _ _ (h.1 h0), fun i hi => wpOp_monoQ hQ (fun a w => wpAny_monoQ hQ n _ a w) (h.2 i hi)⟩

/-! ### Alternatives that come out alike -/
theorem eqD_sound {σ : Nat → Nat} {m : Nat} {x y z : Deferred} (h : eqD σ m x y = true) (hr : DR P L y z) : DR P (L.pull σ m) x z := by
  unfold eqD at h
  rw [Bool.and_eq_true] at h
  obtain ⟨h1, h2⟩ := h
  obtain ⟨⟨fn, cap, cap', e1, e2, e3⟩, e4⟩ := hr
  split at h1
  · rename_i f xs g us hx hy
    simp only [Bool.and_eq_true, beq_iff_eq] at h1
    rw [hy] at e1
    injection e1 with e5 e6
    subst e5 e6
    refine ⟨⟨f, xs, cap', hx, by rw [h1.1]; exact e2, eqL_AR (eqS_sound 9) h1.2 e3⟩, eqL_AR (eqS_sound 9) h2 e4⟩
  · cases h1
theorem eqDL_sound {σ : Nat → Nat} {m : Nat} : ∀ (xs ys zs : List Deferred), eqL (eqD σ m) xs ys = true → DLR P L ys zs → DLR P (L.pull σ m) xs zs
  | [], [], [], _, _ => trivial
  | [], [], _ :: _, _, h => h.elim
  | [], _ :: _, _, h, _ => by simp [eqL] at h
  | _ :: _, [], _, h, _ => by simp [eqL] at h
  | _ :: _, _ :: _, [], _, h => h.elim
  | x :: xs, y :: ys, z :: zs, h, hr => by
    simp only [eqL, Bool.and_eq_true] at h
    exact ⟨eqD_sound h.1 hr.1, eqDL_sound xs ys zs h.2 hr.2⟩
theorem eqCh_sound {σ : Nat → Nat} {m : Nat} : ∀ (xs ys zs : List PanicEntry), eqCh σ m xs ys = true → ChR P L ys zs → ChR P (L.pull σ m) xs zs
  | [], [], [], _, _ => trivial
  | [], [], _ :: _, _, h => h.elim
  | [], _ :: _, _, h, _ => by simp [eqCh, eqL] at h
  | _ :: _, [], _, h, _ => by simp [eqCh, eqL] at h
  | _ :: _, _ :: _, [], _, h => h.elim
  | x :: xs, y :: ys, z :: zs, h, hr => by
    unfold eqCh at h
    simp only [eqL, Bool.and_eq_true, beq_iff_eq] at h
    obtain ⟨⟨⟨h1, h2⟩, h3⟩, h4⟩ := h
    exact ⟨⟨eqS_sound 9 _ _ _ h1 hr.1.1, h2.trans hr.1.2.1, h3.trans hr.1.2.2⟩, eqCh_sound xs ys zs h4 hr.2⟩
theorem isoF_isoC {n0 : Nat} {σl τl : List Nat} {F1 F2 : Fw} (h : isoF B n0 σl τl F1 F2 = true) : isoC B n0 σl τl F1.toW F2.toW = true := by
  unfold isoF at h
  unfold isoC
  simp only [Bool.and_eq_true, decide_eq_true_eq, List.all_eq_true, List.mem_range, beq_iff_eq, Fw.size] at h ⊢
  obtain ⟨⟨⟨⟨h1, h2⟩, h3⟩, h4⟩, h5⟩ := h
  refine ⟨⟨⟨h1, h2⟩, h4⟩, fun r hr => ?_⟩
  have e1 : F1.toW.heap[r]? = some (F1.at r) := by rw [Fw.heap_get, if_pos hr]
  have hlt : sg n0 σl r < F2.n := by
    by_cases hn : r < n0
    · rw [sg_lt hn]; omega
    · have := (h4 (r - n0) (by omega)).2
      rw [Nat.sub_add_cancel (by omega)] at this
      exact this
  have e2 : F2.toW.heap[sg n0 σl r]? = some (F2.at (sg n0 σl r)) := by rw [Fw.heap_get, if_pos hlt]
  rw [e1, e2]
  exact h5 r hr
theorem planF_clean {ops : Array Oper} : ∀ (p : Plan) (a : Fa) (F : Fw) (d : Did), planF P B ent call ops p a F = some d → d.dirty = false → d.F = F
  | .done, a, F, d, h, _ => by simp only [planF, Option.some.injEq] at h; rw [← h]
  | .pure j p, a, F, d, h, hd => by
    unfold planF at h
    split at h
    · split at h
      · split at h
        · exact planF_clean p _ F d h hd
        · cases h
      · exact planF_clean p _ F d h hd
    · cases h
  | .act j p, a, F, d, h, hd => by
    unfold planF at h
    split at h
    · rename_i o ho
      split at h
      · split at h
        · rename_i a1 F1 hst
          split at h
          · rename_i d1 hd1
            injection h with h
            subst h
            simp only [Bool.or_eq_false_iff, Bool.not_eq_false'] at hd
            have e1 := planF_clean p a1 F1 d1 hd1 hd.1
            show d1.F = F
            rw [e1]
            -- a load leaves the world as it is
            unfold stepF at hst
            rw [doF_eq] at hst
            cases hpc : pureC P a.eval o.op with
            | some v =>
              rw [hpc] at hst
              dsimp only at hst
              injection hst with hst; injection hst with _ hst; exact hst.symm
            | none =>
              rw [hpc] at hst
              dsimp only at hst
              split at hst
              · rename_i v F2 hm
                injection hst with hst
                injection hst with _ hst
                subst hst
                have hl := hd.2
                unfold memF at hm
                split at hm <;> rename_i heq <;> first | (rw [show o.op = _ from heq] at hl; simp [isLoad] at hl; done) | skip
                all_goals (try split at hm)
                all_goals (try split at hm)
                all_goals first | (injection hm with hm; injection hm with _ hm; exact hm.symm) | cases hm
              · have hl := hd.2
                unfold restOp at hst
                split at hst <;> rename_i heq <;> first | (rw [show o.op = _ from heq] at hl; simp [isLoad] at hl; done) | cases hst
          · cases h
        · injection h with h
          subst h
          cases hd
        · cases h
      · exact planF_clean p _ F d h hd
    · cases h
  | .alt p q, a, F, d, h, hd => by
    unfold planF at h
    split at h
    · rename_i x y hx hy
      split at h
      · injection h with h
        subst h
        exact planF_clean p a F x hx hd
      · cases h
    · cases h
theorem pull_id (M : Lie) : M.pull id M.n = M := rfl
theorem isoR_sound {F : Fw} {x y : Did} (hl : Sim P B G w0 L F.toW w) (hx : x.dirty = false → x.F = F) (hy : y.dirty = false → y.F = F) (h : isoR B F.n x y = true) {e : Exit} {a' : Act} {w1 : World}
    (hq : OutQ P B G w0 L false y.out y.a y.F e a' w1) : OutQ P B G w0 L false x.out x.a x.F e a' w1 := by
  obtain ⟨M, hle, hS, hO⟩ := hq
  have hLn : L.n = F.n := by rw [hl.n, Fw.size]
  unfold isoR at h
  split at h
  · rename_i hc
    have ex := hx hc.1
    have ey := hy hc.2
    rw [ey] at hS
    rw [ex] at h ⊢
    have hMn : M.n = F.n := by rw [hS.n, Fw.size]
    refine ⟨M, hle, hS, ?_⟩
    split at h
    · rename_i hxo hyo
      rw [hyo] at hO
      rw [hxo]
      rw [Bool.and_eq_true, ← hMn] at h
      cases e with
      | normal =>
        obtain ⟨g1, g2⟩ := hO
        exact ⟨eqL_AR (M := M.pull id M.n) (eqS_sound 9) h.1 g1, eqDL_sound (σ := id) (m := M.n) _ _ _ h.2 g2⟩
      | _ => exact hO.elim
    · cases h
  · rw [Bool.and_eq_true] at h
    obtain ⟨h1, h2⟩ := h
    obtain ⟨g1, g2⟩ := isoC_sound (isoF_isoC h1) hS hle hLn (by rw [← hLn]; exact hl.gle)
    rw [Fw.size] at g1 g2
    refine ⟨_, g2, g1, ?_⟩
    split at h2
    · rename_i hxo hyo
      rw [hyo] at hO
      rw [hxo]
      rw [Bool.and_eq_true] at h2
      cases e with
      | normal =>
        obtain ⟨k1, k2⟩ := hO
        exact ⟨eqL_AR (eqS_sound 9) h2.1 k1, eqDL_sound _ _ _ h2.2 k2⟩
      | _ => exact hO.elim
    · rename_i ch dh hxo hyo
      rw [hyo] at hO
      rw [hxo]
      rw [Bool.and_eq_true] at h2
      cases e with
      | panic zh =>
        obtain ⟨k1, k2, _⟩ := hO
        exact ⟨eqCh_sound _ _ _ h2.1 k1, eqDL_sound _ _ _ h2.2 k2, fun h => by cases h⟩
      | _ => exact hO.elim
    · cases h2
end
end Go.Proofs.YtjnimfnelacceaaGreatDoor
