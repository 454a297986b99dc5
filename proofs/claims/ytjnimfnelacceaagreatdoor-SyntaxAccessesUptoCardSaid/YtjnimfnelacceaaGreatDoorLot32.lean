/- What the kernel's evaluator gives, the evaluator gives: regions and code. -/
import Derived.Test.YtjnimfnelacceaaGreatDoorLot31
set_option linter.unusedSimpArgs false
set_option linter.unusedVariables false
namespace Go.Proofs.YtjnimfnelacceaaGreatDoor
open Go.RowKit

variable {P : Program} {B n : Nat} {ent : FuncId → Bool} {call : CallF}

theorem ore_some {β γ : Type} {k : β → Option γ} {x : Option β} {r : γ} (h : ore k x = some r) : ∃ b, x = some b ∧ k b = some r := by
  cases x with
  | none => cases h
  | some b => exact ⟨b, rfl, h⟩
theorem bre_none {β : Type} {y : Option β} {b : Bool} {r : β} (h : bre none y b = some r) : b = true ∧ y = some r := by
  cases b with
  | false => cases h
  | true => exact ⟨rfl, h⟩

/-! ### One step -/
/-- How a step in the kernel's form goes. -/
def StepsTo (P : Program) (B n : Nat) (ent : FuncId → Bool) (call : CallF) (o : Oper) (e : Ev12) (F : Fw) (run : (Ev12 → Fw → OutO) → OutO) : Prop :=
  (∀ k, run k = none) ∨ (∃ ch F1, stepF P B ent call o (faE n e) F = some (.pan ch (faE n e) F1) ∧ ∀ k, run k = some (.pan ch, e, F1)) ∨
  (∃ e1 F1, stepF P B ent call o (faE n e) F = some (.next (faE n e1) F1) ∧ ∀ k, run k = k e1 F1)
theorem cmSt_run (hn : n ≤ 289) (o : Oper) (c : Cm) (e : Ev12) (F : Fw) (h : c.sem e F = doF P B (faE n e).eval o.op F) : StepsTo P B n ent call o e F ((cmSt o.dst c).run call e F) := by
  have next : ∀ v F1, doF P B (faE n e).eval o.op F = some (v, F1) → stepF P B ent call o (faE n e) F = some (.next (faE n ((putE o.dst).run v e)) F1) := fun v F1 hd => by
    unfold stepF
    rw [hd, putE_eq hn]
  cases c with
  | tot f => exact .inr (.inr ⟨_, F, next (f e) F h.symm, fun _ => rfl⟩)
  | par f =>
    have h' : okV F (f e F) = doF P B (faE n e).eval o.op F := h
    cases hf : f e F with
    | none => exact .inl fun k => by show ore _ (f e F) = none; rw [hf]; rfl
    | some v =>
      rw [hf] at h'
      exact .inr (.inr ⟨_, F, next v F h'.symm, fun k => by show ore _ (f e F) = _; rw [hf]; rfl⟩)
  | mem f =>
    have h' : f e F = doF P B (faE n e).eval o.op F := h
    cases hf : f e F with
    | none => exact .inl fun k => by show ore _ (f e F) = none; rw [hf]; rfl
    | some r =>
      obtain ⟨v, F1⟩ := r
      rw [hf] at h'
      exact .inr (.inr ⟨_, F1, next v F1 h'.symm, fun k => by show ore _ (f e F) = _; rw [hf]; rfl⟩)
theorem sel2_withDs (k : Nat) (d : Deferred) (e : Ev12) : (sel2R k).run (withDs d e) = (sel2R k).run e := by
  match k with
  | 0 => rfl
  | 1 => rfl
  | 2 => rfl
  | 3 => rfl
  | 4 => rfl
  | 5 => rfl
  | 6 => rfl
  | 7 => rfl
  | 8 => rfl
  | 9 => rfl
  | 10 => rfl
  | 11 => rfl
  | 12 => rfl
  | 13 => rfl
  | 14 => rfl
  | 15 => rfl
  | 16 => rfl
  | k + 17 => rfl
theorem sel2_setDs (k : Nat) (d : List Deferred) (e : Ev12) : (sel2R k).run (setDs d e) = (sel2R k).run e := by
  match k with
  | 0 => rfl
  | 1 => rfl
  | 2 => rfl
  | 3 => rfl
  | 4 => rfl
  | 5 => rfl
  | 6 => rfl
  | 7 => rfl
  | 8 => rfl
  | 9 => rfl
  | 10 => rfl
  | 11 => rfl
  | 12 => rfl
  | 13 => rfl
  | 14 => rfl
  | 15 => rfl
  | 16 => rfl
  | k + 17 => rfl
theorem withDs_eq (d : Deferred) (e : Ev12) : faE n (withDs d e) = ⟨listE n e, d :: e.ds⟩ := by
  have : listE n (withDs d e) = listE n e := by
    unfold listE
    refine List.map_congr_left fun t _ => ?_
    unfold getE
    rw [sel2_withDs]
  show (⟨listE n (withDs d e), (withDs d e).ds⟩ : Fa) = _
  rw [this]; rfl
theorem setDs_eq (d : List Deferred) (e : Ev12) : faE n (setDs d e) = ⟨listE n e, d⟩ := by
  have : listE n (setDs d e) = listE n e := by
    unfold listE
    refine List.map_congr_left fun t _ => ?_
    unfold getE
    rw [sel2_setDs]
  show (⟨listE n (setDs d e), (setDs d e).ds⟩ : Fa) = _
  rw [this]; rfl
theorem putE_defer (hn : n ≤ 289) (dst : Option Tmp) (v : Value) (d : Deferred) (e : Ev12) : faE n ((putE dst).run v (withDs d e)) = (⟨listE n e, d :: e.ds⟩ : Fa).put dst v := by
  rw [putE_eq hn, withDs_eq]
theorem stE_run (hn : n ≤ 289) (o : Oper) (e : Ev12) (F : Fw) : StepsTo P B n ent call o e F ((stE P B n ent o).run call e F) := by
  unfold stE
  split
  · rename_i k ho
    have hdo : ∀ f, k.callee = .value f → doF P B (faE n e).eval o.op F = none := fun f hf => by
      rw [ho]
      show callAnyF P B _ k F = none
      unfold callAnyF
      rw [hf]
    split
    · rename_i f hf
      have hst : stepF P B ent call o (faE n e) F = callOp ent call o k (faE n e) F := by
        unfold stepF
        rw [hdo f hf]
        show restOp ent call o o.op (faE n e) F = _
        rw [ho]; rfl
      show StepsTo P B n ent call o e F fun kk => backE (fun v F1 => kk ((putE o.dst).run v e) F1) e (callE ent call ((evE n f).run e) ((arE n k.args.toList).run e) F)
      rw [evE_eq, arE_eq]
      cases hc : callE ent call ((faE n e).eval f) (k.args.toList.map (faE n e).eval) F with
      | none => exact .inl fun kk => rfl
      | some r =>
        obtain ⟨q, F1⟩ := r
        unfold callE at hc
        split at hc
        · rename_i g first cap hg
          obtain ⟨hent, hc⟩ := bre_none hc
          rw [appR_eq, appR_eq] at hc
          have hcall : callOp ent call o k (faE n e) F = (match call g (first.toList ++ (k.args.toList.map (faE n e).eval ++ cap.toList)) F with
              | some (.ret v, F1) => some (.next ((faE n e).put o.dst v) F1)
              | some (.pan ch, F1) => some (.pan ch (faE n e) F1)
              | none => none) := by
            unfold callOp
            simp only [hf, hg, hent, if_true]
            rfl
          rw [hc] at hcall
          cases q with
          | ret v => exact .inr (.inr ⟨(putE o.dst).run v e, F1, by rw [hst, hcall, putE_eq hn], fun kk => rfl⟩)
          | pan ch => exact .inr (.inl ⟨ch, F1, by rw [hst, hcall], fun kk => rfl⟩)
        · cases hc
    · have : (cmSt o.dst (cmE P B n o.op)) = (cmSt o.dst (cmE P B n o.op)) := rfl
      exact cmSt_run hn o _ e F (cmE_sem _ e F)
  · rename_i k ho
    have hdo : doF P B (faE n e).eval o.op F = none := by rw [ho]; rfl
    have hst : stepF P B ent call o (faE n e) F = deferOp o k (faE n e) F := by
      unfold stepF
      rw [hdo]
      show restOp ent call o o.op (faE n e) F = _
      rw [ho]; rfl
    split
    · rename_i f hf
      show StepsTo P B n ent call o e F fun kk => defE o.dst ((evE n f).run e) ((arE n k.args.toList).run e) e F kk
      rw [evE_eq, arE_eq]
      unfold defE
      split
      · rename_i g first cap hg
        refine .inr (.inr ⟨_, F, ?_, fun kk => rfl⟩)
        rw [hst, putE_defer hn, appR_eq]
        unfold deferOp
        simp only [hf, hg]
        rfl
      · exact .inl fun kk => rfl
    · exact .inl fun kk => rfl
  · rename_i x ho
    have hdo : doF P B (faE n e).eval o.op F = none := by rw [ho]; rfl
    have hst : stepF P B ent call o (faE n e) F = panicOp ((faE n e).eval x) (faE n e) F := by
      unfold stepF
      rw [hdo]
      show restOp ent call o o.op (faE n e) F = _
      rw [ho]; rfl
    show StepsTo P B n ent call o e F fun _ => panE ((evE n x).run e) e F
    rw [evE_eq]
    unfold panE
    split
    · rename_i t v hv
      refine .inr (.inl ⟨_, F, ?_, fun kk => rfl⟩)
      rw [hst, hv]; rfl
    · exact .inl fun kk => rfl
  · exact cmSt_run hn o _ e F (cmE_sem _ e F)

/-! ### Guards -/
noncomputable def Wk.on (w : Wk) (e : Ev12) : Bool := match w with
  | .yes => true
  | .no => false
  | .slot b g => isBool b (g.run e)
theorem isBool_eq (b : Bool) (v : Value) : isBool b v = ((match v with | .bool c => some c | _ => none) == some b) := by
  cases v with
  | bool c => cases b <;> cases c <;> rfl
  | _ => rfl
theorem waE_on (ops : Array Oper) (o : Oper) (e : Ev12) : (waE n ops o).on e = wantedF ops o (faE n e) := by
  unfold waE wantedF Region.wanted
  cases hg : o.guard with
  | none => rfl
  | some g =>
    obtain ⟨j, b⟩ := g
    simp only [hg]
    unfold yielded
    cases hd : (ops[j]?).bind (·.dst) with
    | none => rfl
    | some t =>
      simp only [Option.bind_some]
      show isBool b ((geR n t).run e) = _
      rw [isBool_eq, geR_eq]
      show _ = ((match (⟨listE n e⟩ : Array Value)[t]? with | some (.bool b) => some b | _ => none) == some b)
      rw [getL_eq]
      by_cases ht : t < (⟨listE n e⟩ : Array Value).size
      · rw [getElem?_of_getD ht]
        show _ = ((match some ((listE n e).toArray.getD t undef) with | some (.bool b) => some b | _ => none) == some b)
        generalize (listE n e).toArray.getD t undef = v
        cases v <;> rfl
      · rw [Array.getElem?_eq_none (Nat.le_of_not_lt ht)]
        have e1 : (listE n e).toArray.getD t undef = undef := by
          have : ¬ t < (listE n e).length := ht
          simp [Array.getD, this]
        rw [e1]; rfl
theorem guardE_run (x y : Rg) (w : Wk) (e : Ev12) (F : Fw) : (guardE x y w).run call e F = if w.on e = true then y.run call e F else x.run call e F := by
  cases w with
  | yes => rfl
  | no => rfl
  | slot b g => exact bre_eq _ _ _
theorem guardS_run (x y : Sl) (w : Wk) (e : Ev12) (F : Fw) : (guardS x y w).run e F = if w.on e = true then y.run e F else x.run e F := by
  cases w with
  | yes => rfl
  | no => rfl
  | slot b g => exact bre_eq _ _ _
theorem guardM_run (x y : Sm) (w : Wk) (e : Ev12) (F : Fw) : (guardM x y w).run e F = if w.on e = true then y.run e F else x.run e F := by
  cases w with
  | yes => rfl
  | no => rfl
  | slot b g => exact bre_eq _ _ _

/-! ### Regions -/
theorem opsE_ok (hn : n ≤ 289) (ops : Array Oper) : ∀ (l : List Oper) (e : Ev12) (F : Fw) (o : Out) (e1 : Ev12) (F1 : Fw), (opsE P B n ent ops l).run call e F = some (o, e1, F1) → opsF P B ent call ops l (faE n e) F = some (o, faE n e1, F1)
  | [], e, F, o, e1, F1, h => by
    have h : some (Out.normal, e, F) = some (o, e1, F1) := h
    injection h with h
    injection h with h1 h2
    injection h2 with h2 h3
    subst h1 h2 h3
    rfl
  | op :: l, e, F, o, e1, F1, h => by
    have h : (guardE ⟨fun call e F => (opsE P B n ent ops l).run call ((putE op.dst).run undef e) F⟩ ⟨fun call e F => (stE P B n ent op).run call e F ((opsE P B n ent ops l).run call)⟩ (waE n ops op)).run call e F = some (o, e1, F1) := h
    rw [guardE_run, waE_on] at h
    unfold opsF
    by_cases hw : wantedF ops op (faE n e) = true
    · rw [if_pos hw] at h
      rw [if_pos hw]
      have h : (stE P B n ent op).run call e F ((opsE P B n ent ops l).run call) = some (o, e1, F1) := h
      rcases stE_run hn op e F with hk | ⟨ch, F2, hs, hk⟩ | ⟨e2, F2, hs, hk⟩
      · rw [hk] at h; cases h
      · rw [hk] at h
        injection h with h
        injection h with h1 h2
        injection h2 with h2 h3
        subst h1 h2 h3
        rw [hs]
      · rw [hk] at h
        rw [hs]
        exact opsE_ok hn ops l e2 F2 o e1 F1 h
    · rw [if_neg hw] at h
      rw [if_neg hw]
      have h : (opsE P B n ent ops l).run call ((putE op.dst).run undef e) F = some (o, e1, F1) := h
      have := opsE_ok hn ops l _ F o e1 F1 h
      rw [putE_eq hn] at this
      exact this
theorem isRead_spec {ρ : Operand → Value} {op : Op} {F F1 : Fw} {v : Value} (hr : isRead op = true) (h : doF P B ρ op F = some (v, F1)) : (match pureS P ρ op with | some v => some v | none => readC P ρ op F) = some v := by
  have key : ∀ r : Option Value, okV F r = some (v, F1) → r = some v := fun r hr => by
    cases r with
    | none => cases hr
    | some u => simp only [okV, Option.some.injEq, Prod.mk.injEq] at hr; rw [hr.1]
  cases op with
  | move x => simp only [doF, Option.some.injEq, Prod.mk.injEq] at h; simp only [pureS, h.1]
  | assign x => simp only [doF, Option.some.injEq, Prod.mk.injEq] at h; simp only [pureS, h.1]
  | makeFunc fn xs ys => simp only [doF, Option.some.injEq, Prod.mk.injEq] at h; simp only [pureS, h.1]
  | load t x => exact key _ h
  | lookup t x k ok => exact key _ h
  | slice t x lo hi mx =>
    cases lo with
    | none => cases hr
    | some lo =>
      cases hi with
      | some _ => cases hr
      | none =>
        cases mx with
        | some _ => cases hr
        | none => exact key _ h
  | call k =>
    obtain ⟨callee, args, ts⟩ := k
    cases callee with
    | builtin b => cases b <;> first | (have := key _ h; simp only [pureS, this]) | cases hr
    | _ => cases hr
  | _ => first | (have := key _ h; simp only [pureS, this]) | cases hr
theorem stillE_ok (hn : n ≤ 289) (ops : Array Oper) : ∀ (l : List Oper) (e : Ev12) (F : Fw) (e1 : Ev12), (stillE P B n ops l).run e F = some e1 → stillF P ops l (faE n e) F = some (faE n e1)
  | [], e, F, e1, h => by
    have h : some e = some e1 := h
    injection h with h
    subst h
    rfl
  | op :: l, e, F, e1, h => by
    have h : (guardS ⟨fun e F => (stillE P B n ops l).run ((putE op.dst).run undef e) F⟩
      (bre ⟨fun _ _ => none⟩ ⟨fun e F => ore (fun v => (stillE P B n ops l).run ((putE op.dst).run v e) F) ((cmV (cmE P B n op.op)).run e F)⟩ (isRead op.op)) (waE n ops op)).run e F = some e1 := h
    rw [guardS_run, waE_on] at h
    unfold stillF
    by_cases hw : wantedF ops op (faE n e) = true
    · rw [if_pos hw] at h
      rw [if_pos hw]
      cases hr : isRead op.op with
      | false => rw [hr] at h; cases h
      | true =>
        rw [hr] at h
        have h : ore (fun v => (stillE P B n ops l).run ((putE op.dst).run v e) F) ((cmV (cmE P B n op.op)).run e F) = some e1 := h
        obtain ⟨v, hv, h⟩ := ore_some h
        rw [cmV_do] at hv
        cases hd : doF P B (faE n e).eval op.op F with
        | none => rw [hd] at hv; cases hv
        | some r =>
          obtain ⟨u, F2⟩ := r
          rw [hd] at hv
          simp only [Option.map_some, Option.some.injEq] at hv
          subst hv
          have hq := isRead_spec hr hd
          have ih := stillE_ok hn ops l _ F e1 h
          rw [putE_eq hn] at ih
          cases hp : pureS P (faE n e).eval op.op with
          | some u2 =>
            rw [hp] at hq
            simp only [Option.some.injEq] at hq
            subst hq
            exact ih
          | none =>
            rw [hp] at hq
            dsimp only at hq ⊢
            rw [hq]
            exact ih
    · rw [if_neg hw] at h
      rw [if_neg hw]
      have h : (stillE P B n ops l).run ((putE op.dst).run undef e) F = some e1 := h
      have := stillE_ok hn ops l _ F e1 h
      rw [putE_eq hn] at this
      exact this
theorem smE_eq (ops : Array Oper) (j : Nat) (e : Ev12) (F : Fw) : (smE P B n ops j).run e F = sameF P B ops (faE n e) F j := by
  unfold smE sameF
  cases ops[j]? with
  | none => rfl
  | some o =>
    dsimp only
    cases o.dst with
    | none => rfl
    | some t =>
      dsimp only
      rw [guardM_run, waE_on]
      by_cases hw : wantedF ops o (faE n e) = true
      · rw [if_pos hw, if_pos hw]
        show beqO ((geR n t).run e) ((cmV (cmE P B n o.op)).run e F) = _
        rw [cmV_do, geR_eq]
        cases doF P B (faE n e).eval o.op F with
        | none => rfl
        | some r => rfl
      · rw [if_neg hw, if_neg hw]
        show beqV 9 undef ((geR n t).run e) = _
        rw [geR_eq]; rfl
theorem smsE_eq (ops : Array Oper) (l : List Nat) (e : Ev12) (F : Fw) : (smsE P B n ops l).run e F = l.all (sameF P B ops (faE n e) F) := by
  induction l with
  | nil => rfl
  | cons j l ih =>
    show bre false ((smsE P B n ops l).run e F) ((smE P B n ops j).run e F) = _
    rw [ih, smE_eq, bre_eq, List.all_cons]
    cases sameF P B ops (faE n e) F j <;> simp
theorem floatE_ok (hn : n ≤ 289) (ops : Array Oper) : ∀ (l pend : List Nat) (e : Ev12) (F : Fw) (o : Out) (e1 : Ev12) (F1 : Fw), (floatE P B n ent ops l pend).run call e F = some (o, e1, F1) → floatF P B ent call ops l pend (faE n e) F = some (o, faE n e1, F1)
  | [], pend, e, F, o, e1, F1, h => by
    have h : some (Out.normal, e, F) = some (o, e1, F1) := h
    injection h with h
    injection h with h1 h2
    injection h2 with h2 h3
    subst h1 h2 h3
    rfl
  | j :: l, pend, e, F, o, e1, F1, h => by
    have h : (match ops[j]? with
      | some o => bre
          (guardE ⟨fun call e F => bre none ((floatE P B n ent ops l (pend.filter fun k => !bindsOn o k)).run call ((putE o.dst).run undef e) F) ((smsE P B n ops (pend.filter fun k => !bindsOn o k)).run ((putE o.dst).run undef e) F)⟩
            ⟨fun call e F => (stE P B n ent o).run call e F fun e1 F1 => bre none ((floatE P B n ent ops l (pend.filter fun k => !bindsOn o k)).run call e1 F1) ((smsE P B n ops (pend.filter fun k => !bindsOn o k)).run e1 F1)⟩ (waE n ops o))
          (guardE ⟨fun call e F => (floatE P B n ent ops l (j :: pend)).run call ((putE o.dst).run undef e) F⟩
            ⟨fun call e F => ore (fun v => (floatE P B n ent ops l (j :: pend)).run call ((putE o.dst).run v e) F) ((cmV (cmE P B n o.op)).run e F)⟩ (waE n ops o)) (isFl ops o)
      | none => ⟨fun _ _ _ => none⟩).run call e F = some (o, e1, F1) := h
    unfold floatF
    cases hj : ops[j]? with
    | none => rw [hj] at h; cases h
    | some op =>
      rw [hj] at h
      dsimp only at h ⊢
      cases hf : isFl ops op with
      | true =>
        rw [hf] at h
        rw [if_pos rfl]
        have h : (guardE ⟨fun call e F => (floatE P B n ent ops l (j :: pend)).run call ((putE op.dst).run undef e) F⟩
            ⟨fun call e F => ore (fun v => (floatE P B n ent ops l (j :: pend)).run call ((putE op.dst).run v e) F) ((cmV (cmE P B n op.op)).run e F)⟩ (waE n ops op)).run call e F = some (o, e1, F1) := h
        rw [guardE_run, waE_on] at h
        by_cases hw : wantedF ops op (faE n e) = true
        · rw [if_pos hw] at h
          rw [if_pos hw]
          have h : ore (fun v => (floatE P B n ent ops l (j :: pend)).run call ((putE op.dst).run v e) F) ((cmV (cmE P B n op.op)).run e F) = some (o, e1, F1) := h
          obtain ⟨v, hv, h⟩ := ore_some h
          rw [cmV_do] at hv
          cases hd : doF P B (faE n e).eval op.op F with
          | none => rw [hd] at hv; cases hv
          | some r =>
            obtain ⟨u, F2⟩ := r
            rw [hd] at hv
            simp only [Option.map_some, Option.some.injEq] at hv
            subst hv
            have ih := floatE_ok hn ops l (j :: pend) _ F o e1 F1 h
            rw [putE_eq hn] at ih
            exact ih
        · rw [if_neg hw] at h
          rw [if_neg hw]
          have h : (floatE P B n ent ops l (j :: pend)).run call ((putE op.dst).run undef e) F = some (o, e1, F1) := h
          have ih := floatE_ok hn ops l (j :: pend) _ F o e1 F1 h
          rw [putE_eq hn] at ih
          exact ih
      | false =>
        rw [hf] at h
        rw [if_neg (by simp)]
        have h : (guardE ⟨fun call e F => bre none ((floatE P B n ent ops l (pend.filter fun k => !bindsOn op k)).run call ((putE op.dst).run undef e) F) ((smsE P B n ops (pend.filter fun k => !bindsOn op k)).run ((putE op.dst).run undef e) F)⟩
            ⟨fun call e F => (stE P B n ent op).run call e F fun e1 F1 => bre none ((floatE P B n ent ops l (pend.filter fun k => !bindsOn op k)).run call e1 F1) ((smsE P B n ops (pend.filter fun k => !bindsOn op k)).run e1 F1)⟩ (waE n ops op)).run call e F = some (o, e1, F1) := h
        rw [guardE_run, waE_on] at h
        by_cases hw : wantedF ops op (faE n e) = true
        · rw [if_pos hw] at h
          rw [if_pos hw]
          have h : (stE P B n ent op).run call e F (fun e1 F1 => bre none ((floatE P B n ent ops l (pend.filter fun k => !bindsOn op k)).run call e1 F1) ((smsE P B n ops (pend.filter fun k => !bindsOn op k)).run e1 F1)) = some (o, e1, F1) := h
          rcases stE_run hn op e F with hk | ⟨ch, F2, hs, hk⟩ | ⟨e2, F2, hs, hk⟩
          · rw [hk] at h; cases h
          · rw [hk] at h
            injection h with h
            injection h with h1 h2
            injection h2 with h2 h3
            subst h1 h2 h3
            rw [hs]
          · rw [hk] at h
            rw [hs]
            obtain ⟨hb, h⟩ := bre_none h
            rw [smsE_eq] at hb
            dsimp only
            rw [if_pos hb]
            exact floatE_ok hn ops l _ e2 F2 o e1 F1 h
        · rw [if_neg hw] at h
          rw [if_neg hw]
          have h : bre none ((floatE P B n ent ops l (pend.filter fun k => !bindsOn op k)).run call ((putE op.dst).run undef e) F) ((smsE P B n ops (pend.filter fun k => !bindsOn op k)).run ((putE op.dst).run undef e) F) = some (o, e1, F1) := h
          obtain ⟨hb, h⟩ := bre_none h
          rw [smsE_eq, putE_eq hn] at hb
          rw [if_pos hb]
          have ih := floatE_ok hn ops l _ _ F o e1 F1 h
          rw [putE_eq hn] at ih
          exact ih
end Go.Proofs.YtjnimfnelacceaaGreatDoor
