/- What the evaluator gives holds in the great world: functions. The plans of the regions whose order is drawn (printed by a program). -/
import Derived.Test.YtjnimfnelacceaaGreatDoorLot27
set_option linter.unusedSimpArgs false
set_option linter.unusedVariables false
namespace Go.Proofs.YtjnimfnelacceaaGreatDoor
open Go.RowKit

section
variable {P : Program} {B G : Nat} {w0 : World} {L : Lie} {w : World} {ent : FuncId → Bool} {call : CallF}

def resSem (tmps' : Array Value) : ResultVar → Sem Value
  | .tmp t => Pure.pure (tmps'.getD t undef)
  | .cell a t => do loadVar t (← asAddr (tmps'.getD a undef))
theorem results_eq (fn : Func) (tmps' : Array Value) : results fn tmps' = (do
    let vs ← fn.results.mapM (resSem tmps')
    Pure.pure (if h : vs.size = 1 then vs[0] else .tuple vs)) := by
  unfold results
  congr 1
theorem resL_spec {tmps : List Value} {tmps' : Array Value} {F : Fw} (hs : Sim P B G w0 L F.toW w) (ht : AR P L ⟨tmps⟩ tmps') : ∀ (l : List ResultVar) (vs : List Value), resL P tmps F l = some vs →
    ∃ us : List Value, (l.mapM (resSem tmps')).run P w = Result.ok us w ∧ AR P L ⟨vs⟩ ⟨us⟩
  | [], vs, h => by
    simp only [resL, Option.some.injEq] at h
    subst h
    exact ⟨[], by rw [List.mapM_nil]; rfl, .nil⟩
  | .tmp t :: l, vs, h => by
    simp only [resL] at h
    split at h
    · rename_i vs' hv
      injection h with h
      subst h
      obtain ⟨us, h1, h2⟩ := resL_spec hs ht l vs' hv
      refine ⟨tmps'.getD t undef :: us, ?_, ?_⟩
      · rw [List.mapM_cons]
        simp only [resSem, Sem.run_bind, Sem.run_pure, Result.andThen_ok, h1]
      · have h3 : VR P L (getL tmps t) (tmps'.getD t undef) := by rw [getL_eq]; exact ht.getD t
        have := (AR.one h3).append h2
        have e1 : (⟨getL tmps t :: vs'⟩ : Array Value) = #[getL tmps t] ++ ⟨vs'⟩ := by apply Array.ext'; simp
        have e2 : (⟨tmps'.getD t undef :: us⟩ : Array Value) = #[tmps'.getD t undef] ++ ⟨us⟩ := by apply Array.ext'; simp
        rw [e1, e2]; exact this
    · cases h
  | .cell x t :: l, vs, h => by
    simp only [resL] at h
    split at h
    · rename_i v vs' hl hv
      injection h with h
      subst h
      obtain ⟨us, h1, h2⟩ := resL_spec hs ht l vs' hv
      have h3 : VR P L (getL tmps x) (tmps'.getD x undef) := by rw [getL_eq]; exact ht.getD x
      obtain ⟨a', v', e, hr, hvv⟩ := loadF_real hl hs h3
      refine ⟨v' :: us, ?_, ?_⟩
      · rw [List.mapM_cons]
        simp only [resSem, Sem.run_bind, e, asAddr, Sem.run_pure, Result.andThen_ok, hr, h1]
      · have := (AR.one hvv).append h2
        have e1 : (⟨v :: vs'⟩ : Array Value) = #[v] ++ ⟨vs'⟩ := by apply Array.ext'; simp
        have e2 : (⟨v' :: us⟩ : Array Value) = #[v'] ++ ⟨us⟩ := by apply Array.ext'; simp
        rw [e1, e2]; exact this
    · cases h
theorem results_spec {fn : Func} {tmps : List Value} {tmps' : Array Value} {F : Fw} {vs : List Value} (hs : Sim P B G w0 L F.toW w) (ht : AR P L ⟨tmps⟩ tmps') (h : resL P tmps F fn.results.toList = some vs) :
    ∃ v', (results fn tmps').run P w = .ok v' w ∧ VR P L (oneOr vs) v' := by
  obtain ⟨us, h1, h2⟩ := resL_spec hs ht _ _ h
  refine ⟨if h : us.toArray.size = 1 then us.toArray[0] else .tuple us.toArray, ?_, ?_⟩
  · rw [results_eq, Array.mapM_eq_mapM_toList]
    simp only [Sem.run_bind, Sem.run_map, h1, Result.andThen_ok, Sem.run_pure]
  · have hl : vs.length = us.length := h2.1
    cases vs with
    | nil =>
      cases us with
      | nil => exact .tuple _ _ rfl (fun i h => absurd h (by simp))
      | cons => simp at hl
    | cons v vs =>
      cases vs with
      | nil =>
        cases us with
        | nil => simp at hl
        | cons u us =>
          cases us with
          | nil =>
            have := h2.2 0 (by simp)
            simpa [oneOr, Array.getD] using this
          | cons => simp at hl
      | cons v2 vs =>
        have hne : ¬ us.toArray.size = 1 := by simp only [List.size_toArray]; rw [← hl]; simp
        rw [dif_neg hne]
        exact .tuple _ _ h2.1 h2.2
/-- The plans of all functions fit their codes. -/
def PlansOk (P : Program) (G : Nat) (plans : FuncId → Nat → Option RPlan) : Prop := ∀ f fn code, P.funcs[f]? = some fn → fn.body = some code → codeOk G (plans f) code = true
theorem actOf_spec {fn : Func} {args : List Value} {args' : Array Value} (h : AR P L ⟨args⟩ args') : CR P L (actOf fn args) { tmps := args' ++ Array.replicate (fn.ntmps - args'.size) undef, defers := [] } := by
  refine ⟨?_, trivial⟩
  have hl : args.length = args'.size := h.1
  have e : (⟨args ++ List.replicate (fn.ntmps - args.length) undef⟩ : Array Value) = ⟨args⟩ ++ Array.replicate (fn.ntmps - args'.size) undef := by apply Array.ext'; simp [hl]
  show AR P L ⟨args ++ List.replicate (fn.ntmps - args.length) undef⟩ _
  rw [e]
  refine h.append ⟨rfl, fun i hi => ?_⟩
  have : (Array.replicate (fn.ntmps - args'.size) undef).getD i undef = undef := by
    simp only [Array.size_replicate] at hi
    simp [Array.getD, hi]
  rw [this]; exact .undef
theorem plainF_spec (hm : P.follows .mixedOrders = true) (hE : EntOk P ent) (hC : CallOk P B G w0 call) {plans : FuncId → Nat → Option RPlan} (hP : PlansOk P G plans) {fuel : Nat} {f : FuncId} {args : List Value} {args' : Array Value} {F F1 : Fw}
    (h : plainF P B ent call plans fuel f args F = some F1) (hs : Sim P B G w0 L F.toW w) (ha : AR P L ⟨args⟩ args') (u : FrameMode) :
    CallsD P f args' u w fun e u' w1 => u' = u ∧ (∃ v, e = .returned v) ∧ ∃ M, L.le M ∧ Sim P B G w0 M F1.toW w1 := by
  unfold plainF at h
  split at h
  · rename_i fn hf
    split at h
    · rename_i code hb
      refine callsD_of_wp (R := fun e w1 => (∃ v, e = .returned v) ∧ ∃ M, L.le M ∧ Sim P B G w0 M F1.toW w1) hf hb ?_
      have hres : ∀ (r : Out × Fa × Fw), (r.2.1.defers.isEmpty = true ∧ fn.results.toList.isEmpty = true) → r.2.2 = F1 → (r.1 = .normal ∨ r.1 = .ret) → codeF P B ent call (plans f) fuel code (actOf fn args) F = some r →
          code.wp P (bodyPost P fn (fun e w1 => (∃ v, e = .returned v) ∧ ∃ M, L.le M ∧ Sim P B G w0 M F1.toW w1)) { tmps := args' ++ Array.replicate (fn.ntmps - args'.size) undef, defers := [] } w := by
        rintro ⟨out, a1, F2⟩ ⟨hd, hr⟩ rfl ho hc
        refine wp_mono ((codeF_spec hm hE hC (full := noTree (plans f) code) fuel).1 code _ F L w _ _ hc (hP f fn code hf hb) (fun e => e) hs (actOf_spec ha)) fun e a2 w2 hq => ?_
        obtain ⟨M, hle, hS, hO⟩ := hq
        have hd' : a1.defers = [] := by simpa using hd
        have hr' : fn.results = #[] := by simpa using hr
        have fin : CR P M a1 a2 → a2.defers = [] ∧ ∃ v, (results fn a2.tmps).run P w2 = .ok v w2 ∧ ((∃ v', Ending.returned v = .returned v') ∧ ∃ M, L.le M ∧ Sim P B G w0 M F2.toW w2) := by
          intro hcr
          refine ⟨?_, .tuple #[], ?_, ⟨_, rfl⟩, M, hle, hS⟩
          · have := hcr.2
            rw [hd'] at this
            cases hx : a2.defers with
            | nil => rfl
            | cons => rw [hx] at this; exact this.elim
          · rw [results_eq, hr', Array.mapM_eq_mapM_toList, List.mapM_nil]
            simp
        rcases ho with rfl | rfl
        · cases e with
          | normal => exact fin hO
          | _ => exact hO.elim
        · cases e with
          | ret => exact fin hO
          | _ => exact hO.elim
      split at h
      · rename_i a1 F2 hc
        split at h
        · rename_i hd
          injection h with h
          exact hres _ hd h (.inl rfl) hc
        · cases h
      · rename_i a1 F2 hc
        split at h
        · rename_i hd
          injection h with h
          exact hres _ hd h (.inr rfl) hc
        · cases h
      · cases h
    · cases h
  · cases h
theorem recOp_spec {code rest : Code} {o : Oper} (h : recOp code = some (o, rest)) : ∃ id ops k, code = .seq (.region id ops false) rest ∧ ops.toList = [o] ∧ o.op = .call k ∧ k.callee = .builtin .recover ∧ o.guard = none := by
  unfold recOp at h
  split at h
  · rename_i id ops rest'
    split at h
    · rename_i o' ho
      split at h
      · rename_i k hk
        split at h
        · rename_i h1 h2
          injection h with h
          injection h with h3 h4
          subst h3 h4
          exact ⟨id, ops, k, rfl, ho, hk, h1, h2⟩
        · cases h
      · cases h
    · cases h
  · cases h
/-- The mode of a frame that leaves. -/
def ModeR (P : Program) (L : Lie) : Option (List PanicEntry) → FrameMode → Prop
  | none, .returning => True
  | some ch, .panicking dh => ChR P L ch dh ∧ unrec ch = true
  | _, _ => False
theorem chain_goexit : ∀ {ch dh : List PanicEntry}, ChR P L ch dh → ch.all (fun x => !x.goexit) = true → dh.dropWhile (!·.goexit) = []
  | [], [], _, _ => rfl
  | [], _ :: _, h, _ => h.elim
  | _ :: _, [], h, _ => h.elim
  | c :: cs, d :: ds, h, ha => by
    simp only [List.all_cons, Bool.and_eq_true] at ha
    have e := h.1.2.2
    rw [List.dropWhile_cons, if_pos (by rw [← e]; exact ha.1)]
    exact chain_goexit h.2 ha.2
theorem recF_spec (hm : P.follows .mixedOrders = true) (hE : EntOk P ent) (hC : CallOk P B G w0 call) {plans : FuncId → Nat → Option RPlan} (hP : PlansOk P G plans) {fuel : Nat} {f : FuncId} {args : List Value} {args' : Array Value} {F F1 : Fw}
    {m m1 : Option (List PanicEntry)} {u : FrameMode} (h : recF P B ent call plans fuel f args m F = some (F1, m1)) (hs : Sim P B G w0 L F.toW w) (ha : AR P L ⟨args⟩ args') (hmo : ModeR P L m u) :
    CallsD P f args' u w fun e u' w1 => (∃ v, e = .returned v) ∧ (∃ M, L.le M ∧ Sim P B G w0 M F1.toW w1) ∧ m1 = none ∧ settle u' = .returning := by
  unfold recF at h
  split at h
  · rename_i fn hf
    split at h
    · rename_i code hb
      split at h
      · rename_i o rest v mm hro hrv
        obtain ⟨id, ops, k, rfl, hops, hok, hk, hg⟩ := recOp_spec hro
        refine callsD_of_wpS hf hb fun c₀ cs hu => ?_
        -- what recover gives
        obtain ⟨v', u1, hrec, hv, hset, hmm⟩ : ∃ v' u1, (recoverD (c₀ :: cs) = some (v', { c₀ with mode := u1 } :: cs) ∨ (recoverD (c₀ :: cs) = none ∧ v' = .nilIface ∧ u1 = u)) ∧ VR P L v v' ∧ settle u1 = .returning ∧ mm = none := by
          cases m with
          | none =>
            cases u with
            | returning =>
              simp only [recV, Option.some.injEq, Prod.mk.injEq] at hrv
              obtain ⟨rfl, rfl⟩ := hrv
              exact ⟨.nilIface, .returning, .inr ⟨by simp only [recoverD, hu], rfl, rfl⟩, .nilI, rfl, rfl⟩
            | _ => exact hmo.elim
          | some ch =>
            cases u with
            | panicking dh =>
              cases ch with
              | nil => cases hrv
              | cons c cs' =>
                cases dh with
                | nil => exact hmo.1.elim
                | cons d ds =>
                  simp only [recV] at hrv
                  split at hrv
                  · rename_i hc
                    obtain ⟨c1, c2, c3⟩ := hc
                    injection hrv with hrv
                    injection hrv with e1 e2
                    subst e1 e2
                    obtain ⟨⟨g1, g2, g3⟩, g4⟩ := hmo.1
                    obtain ⟨dv, dr, dg⟩ := d
                    simp only at g1 g2 g3
                    rw [c1] at g2
                    rw [c2] at g3
                    subst g2 g3
                    refine ⟨dv, .panicking ({ v := dv, recovered := true } :: ds), .inl (by simp only [recoverD, hu]), g1, ?_, rfl⟩
                    unfold settle
                    simp only [chain_goexit g4 c3]
                  · cases hrv
            | _ => exact hmo.elim
        subst hmm
        have hsz : ops.size = 1 := by rw [← Array.length_toList, hops]; rfl
        have h0 : ops[0]? = some o := by rw [← Array.getElem?_toList, hops]; rfl
        refine wpS_seq (wpS_region ?_)
        rw [hsz]
        show wpOpsS P ops _ [0] _ _ w
        have hw : Region.wanted o (yielded ops (args' ++ Array.replicate (fn.ntmps - args'.size) undef)) = true := by unfold Region.wanted; rw [hg]
        have hex : ∀ ρ, (execOp ρ o).run P w = .ok .recover w := fun ρ => by
          unfold execOp
          rw [hok]
          simp only [resolve, hk, pure_bind, invoke, builtin, Sem.run_pure]
        have hcr := (actOf_spec (fn := fn) ha).put o.dst hv
        have fin : ∀ cs1, cs1 = { c₀ with mode := u1 } :: cs → rest.wpS P (bodyPostS P fn c₀ cs fun e u' w1 => (∃ v, e = .returned v) ∧ (∃ M, L.le M ∧ Sim P B G w0 M F1.toW w1) ∧ m1 = none ∧ settle u' = .returning)
            (({ tmps := args' ++ Array.replicate (fn.ntmps - args'.size) undef, defers := [] } : Act).put o.dst v') cs1 w := by
          rintro cs1 rfl
          have hcok : codeOk G (plans f) rest = true := by
            have := hP f fn _ hf hb
            simp only [codeOk, Bool.and_eq_true] at this
            exact this.2
          have hres : ∀ (r : Out × Fa × Fw), (r.2.1.defers.isEmpty = true ∧ fn.results.toList.isEmpty = true) → r.2.2 = F1 → (r.1 = .normal ∨ r.1 = .ret) → m1 = none →
              codeF P B ent call (plans f) fuel rest ((actOf fn args).put o.dst v) F = some r →
              rest.wpS P (bodyPostS P fn c₀ cs fun e u' w1 => (∃ v, e = .returned v) ∧ (∃ M, L.le M ∧ Sim P B G w0 M F1.toW w1) ∧ m1 = none ∧ settle u' = .returning)
                (({ tmps := args' ++ Array.replicate (fn.ntmps - args'.size) undef, defers := [] } : Act).put o.dst v') ({ c₀ with mode := u1 } :: cs) w := by
            rintro ⟨out, a1, F2⟩ ⟨hd, hr⟩ rfl ho hm1 hc
            refine wpS_of_wp (wp_mono ((codeF_spec hm hE hC (full := false) fuel).1 rest _ F L w _ _ hc hcok (fun e => by cases e) hs hcr) fun e a2 w2 hq => ?_)
            obtain ⟨M, hle, hS, hO⟩ := hq
            have hd' : a1.defers = [] := by simpa using hd
            have hr' : fn.results = #[] := by simpa using hr
            have fin : CR P M a1 a2 → a2.defers = [] ∧ ∃ u', ({ c₀ with mode := u1 } :: cs : List Frame) = { c₀ with mode := u' } :: cs ∧ ∃ v, (results fn a2.tmps).run P w2 = .ok v w2 ∧
                ((∃ v', Ending.returned v = .returned v') ∧ (∃ M, L.le M ∧ Sim P B G w0 M F2.toW w2) ∧ m1 = none ∧ settle u' = .returning) := by
              intro hcr
              refine ⟨?_, u1, rfl, .tuple #[], ?_, ⟨_, rfl⟩, ⟨M, hle, hS⟩, hm1, hset⟩
              · have := hcr.2
                rw [hd'] at this
                cases hx : a2.defers with
                | nil => rfl
                | cons => rw [hx] at this; exact this.elim
              · rw [results_eq, hr', Array.mapM_eq_mapM_toList, List.mapM_nil]
                simp
            rcases ho with rfl | rfl
            · cases e with
              | normal => exact fin hO
              | _ => exact hO.elim
            · cases e with
              | ret => exact fin hO
              | _ => exact hO.elim
          split at h
          · rename_i a1 F2 hc
            split at h
            · rename_i hd
              injection h with h
              injection h with h1 h2
              exact hres _ hd h1 (.inl rfl) h2.symm hc
            · cases h
          · rename_i a1 F2 hc
            split at h
            · rename_i hd
              injection h with h
              injection h with h1 h2
              exact hres _ hd h1 (.inr rfl) h2.symm hc
            · cases h
          · cases h
        unfold wpOpsS
        simp only [h0]
        rw [if_pos hw, hex]
        dsimp only
        rcases hrec with hrec | ⟨hrec, rfl, rfl⟩
        · rw [hrec]
          exact fin _ rfl
        · rw [hrec]
          exact fin _ (by rw [show c₀ = { c₀ with mode := u1 } from by rw [← hu]])
      · cases h
    · cases h
  · cases h
def FinR (P : Program) (B G : Nat) (w0 : World) (L : Lie) (r : Res) (F : Fw) : Ending → World → Prop := fun e w1 => ∃ M, L.le M ∧ Sim P B G w0 M F.toW w1 ∧ ResR P M r e
theorem FinR.mono {M : Lie} (hl : L.le M) {r : Res} {F : Fw} {e : Ending} {w1 : World} (h : FinR P B G w0 M r F e w1) : FinR P B G w0 L r F e w1 := by
  obtain ⟨N, h1, h2⟩ := h
  exact ⟨N, Lie.le_trans hl h1, h2⟩
theorem ModeR.settle {m : Option (List PanicEntry)} {u : FrameMode} (h : ModeR P L m u) : settle u = u ∧ u ≠ .run := by
  cases m with
  | none =>
    cases u with
    | returning => exact ⟨rfl, by simp⟩
    | _ => exact h.elim
  | some ch =>
    cases u with
    | panicking dh =>
      refine ⟨?_, by simp⟩
      obtain ⟨h1, h2⟩ := h
      cases dh with
      | nil => rfl
      | cons d ds =>
        cases ch with
        | nil => exact h1.elim
        | cons c cs =>
          have e := h1.1.2.1
          simp only [unrec, Bool.not_eq_true'] at h2
          rw [h2] at e
          obtain ⟨v, rec, ge⟩ := d
          simp only at e
          subst e
          rfl
    | _ => exact h.elim
theorem leaveF_spec (hm : P.follows .mixedOrders = true) (hE : EntOk P ent) (hC : CallOk P B G w0 call) {plans : FuncId → Nat → Option RPlan} (hP : PlansOk P G plans) {fuel : Nat} {fn : Func} {tmps : List Value} {tmps' : Array Value} {may : Bool} :
    ∀ (ds : List Deferred) (m : Option (List PanicEntry)) (F : Fw) (L : Lie) (w : World) (ds' : List Deferred) (u : FrameMode) (r : Res) (F2 : Fw),
      leaveF P B ent call plans fuel fn tmps may ds m F = some (r, F2) → DLR P L ds ds' → (m = none ∨ may = true → AR P L ⟨tmps⟩ tmps') → Sim P B G w0 L F.toW w → ModeR P L m u → Leaves P fn tmps' (FinR P B G w0 L r F2) ds' u w
  | [], none, F, L, w, ds', u, r, F2, h, hd, ht, hs, hmo => by
    simp only [leaveF] at h
    split at h
    · rename_i vs hv
      injection h with h
      injection h with h1 h2
      subst h1 h2
      cases ds' with
      | cons => exact hd.elim
      | nil =>
        cases u with
        | returning =>
          obtain ⟨v', g1, g2⟩ := results_spec hs (ht (.inl rfl)) hv
          exact ⟨v', g1, L, L.le_refl, hs, g2⟩
        | _ => exact hmo.elim
    · cases h
  | [], some ch, F, L, w, ds', u, r, F2, h, hd, ht, hs, hmo => by
    simp only [leaveF, Option.some.injEq, Prod.mk.injEq] at h
    obtain ⟨h1, h2⟩ := h
    subst h1 h2
    cases ds' with
    | cons => exact hd.elim
    | nil =>
      cases u with
      | panicking dh => exact ⟨L, L.le_refl, hs, hmo.1⟩
      | _ => exact hmo.elim
  | d :: ds, m, F, L, w, ds', u, r, F2, h, hd, ht, hs, hmo => by
    cases ds' with
    | nil => exact hd.elim
    | cons d' ds' =>
      obtain ⟨⟨⟨fnn, cap, cap', t1, t2, hcap⟩, hargs⟩, hds⟩ := hd
      obtain ⟨tgt', args'⟩ := d'
      simp only at t2
      subst t2
      unfold leaveF at h
      rw [t1] at h
      obtain ⟨hset, hrun⟩ := hmo.settle
      split at h
      · rename_i g cap0 heq
        injection heq with e1 e2
        subst e1 e2
        split at h
        · rename_i hent
          split at h
          · rename_i F1 hpl
            have hlist : (⟨d.args.toList ++ cap.toList⟩ : Array Value) = d.args ++ cap := by apply Array.ext'; simp
            have hcd := plainF_spec hm hE hC hP hpl hs (by rw [hlist]; exact hargs.append hcap) u
            refine leaves_cons hrun (show (callFunc g (args' ++ cap')).run P w = .ok (.enter g (args' ++ cap')) w from hE g hent _ _) (hcd.mono fun e u' w1 hR => ?_)
            obtain ⟨rfl, ⟨v, rfl⟩, M, hle, hS⟩ := hR
            have hmo' : ModeR P M m u' := by
              cases m with
              | none => cases u' with
                | returning => trivial
                | _ => exact hmo.elim
              | some ch =>
                cases u' with
                | panicking dh => exact ⟨hmo.1.mono hle, hmo.2⟩
                | _ => exact hmo.elim
            have := leaveF_spec hm hE hC hP ds m F1 M w1 ds' u' r F2 h (hds.mono hle) (fun e => (ht e).mono hle) hS hmo'
            show Leaves P fn tmps' _ ds' (settle u') w1
            rw [hset]
            exact leaves_mono (fun e w2 hh => FinR.mono hle hh) ds' u' w1 this
          · split at h
            · rename_i hmay
              split at h
              · rename_i F1 m1 hre
                have hlist : (⟨d.args.toList ++ cap.toList⟩ : Array Value) = d.args ++ cap := by apply Array.ext'; simp
                have hcd := recF_spec hm hE hC hP hre hs (by rw [hlist]; exact hargs.append hcap) hmo
                refine leaves_cons hrun (show (callFunc g (args' ++ cap')).run P w = .ok (.enter g (args' ++ cap')) w from hE g hent _ _) (hcd.mono fun e u' w1 hR => ?_)
                obtain ⟨⟨v, rfl⟩, ⟨M, hle, hS⟩, rfl, hse⟩ := hR
                have := leaveF_spec hm hE hC hP ds none F1 M w1 ds' .returning r F2 h (hds.mono hle) (fun _ => (ht (.inr hmay)).mono hle) hS trivial
                show Leaves P fn tmps' _ ds' (settle u') w1
                rw [hse]
                exact leaves_mono (fun e w2 hh => FinR.mono hle hh) ds' .returning w1 this
              · cases h
            · cases h
        · cases h
      · cases h
where
  leaves_mono {fn : Func} {tmps : Array Value} {R R' : Ending → World → Prop} (hR : ∀ e w, R e w → R' e w) : ∀ (ds : List Deferred) (u : FrameMode) (w : World), Leaves P fn tmps R ds u w → Leaves P fn tmps R' ds u w
    | [], .returning, w, h => let ⟨v, h1, h2⟩ := h; ⟨v, h1, hR _ _ h2⟩
    | [], .panicking ch, w, h => hR _ _ h
    | [], .run, w, h => h
    | d :: ds, u, w, h => by
      obtain ⟨h0, fv, cap, f, args, h1, h2, h3⟩ := h
      refine ⟨h0, fv, cap, f, args, h1, h2, h3.mono fun e u' w' he => ?_⟩
      cases e with
      | returned v => exact leaves_mono hR ds _ _ he
      | panicked ch => exact leaves_mono hR ds _ _ he
      | outgrown => exact hR _ _ he
/-- One level of calls. -/
def bodyF (P : Program) (B : Nat) (ent : FuncId → Bool) (plans : FuncId → Nat → Option RPlan) (fuel : Nat) (call : CallF) : CallF := fun f args F =>
  match P.funcs[f]? with
  | some fn => (match fn.body with
    | some code => (match codeF P B ent call (plans f) fuel code (actOf fn args) F with
      | some (.normal, a1, F1) => leaveF P B ent call plans fuel fn a1.tmps true a1.defers none F1
      | some (.ret, a1, F1) => leaveF P B ent call plans fuel fn a1.tmps true a1.defers none F1
      | some (.pan ch, a1, F1) => if unrec ch = true then leaveF P B ent call plans fuel fn a1.tmps (noTree (plans f) code) a1.defers (some ch) F1 else none
      | _ => none)
    | none => none)
  | none => none
theorem bodyF_spec (hm : P.follows .mixedOrders = true) (hE : EntOk P ent) {plans : FuncId → Nat → Option RPlan} (hP : PlansOk P G plans) {call : CallF} (hC : CallOk P B G w0 call) {fuel : Nat} : CallOk P B G w0 (bodyF P B ent plans fuel call) := by
    intro f args F r F1 h L w args' hs ha
    unfold bodyF at h
    split at h
    · rename_i fn hf
      split at h
      · rename_i code hb
        refine calls_of_wp_defers (R := FinR P B G w0 L r F1) hf hb ?_
        split at h
        · rename_i a1 F2 hc
          refine wp_mono ((codeF_spec hm hE hC (full := noTree (plans f) code) fuel).1 code _ F L w _ _ hc (hP f fn code hf hb) (fun e => e) hs (actOf_spec ha)) fun e a2 w2 hq => ?_
          obtain ⟨M, hle, hS, hOO⟩ := hq
          cases e with
          | normal => exact leaveF_spec.leaves_mono (fun e w3 hh => FinR.mono hle hh) _ _ _ (leaveF_spec hm hE hC hP _ none F2 M w2 a2.defers .returning r F1 h hOO.2 (fun _ => hOO.1) hS trivial)
          | _ => exact hOO.elim
        · rename_i a1 F2 hc
          refine wp_mono ((codeF_spec hm hE hC (full := noTree (plans f) code) fuel).1 code _ F L w _ _ hc (hP f fn code hf hb) (fun e => e) hs (actOf_spec ha)) fun e a2 w2 hq => ?_
          obtain ⟨M, hle, hS, hOO⟩ := hq
          cases e with
          | ret => exact leaveF_spec.leaves_mono (fun e w3 hh => FinR.mono hle hh) _ _ _ (leaveF_spec hm hE hC hP _ none F2 M w2 a2.defers .returning r F1 h hOO.2 (fun _ => hOO.1) hS trivial)
          | _ => exact hOO.elim
        · rename_i ch a1 F2 hc
          split at h
          · rename_i hun
            refine wp_mono ((codeF_spec hm hE hC (full := noTree (plans f) code) fuel).1 code _ F L w _ _ hc (hP f fn code hf hb) (fun e => e) hs (actOf_spec ha)) fun e a2 w2 hq => ?_
            obtain ⟨M, hle, hS, hOO⟩ := hq
            cases e with
            | panic dh => exact leaveF_spec.leaves_mono (fun e w3 hh => FinR.mono hle hh) _ _ _ (leaveF_spec hm hE hC hP _ (some ch) F2 M w2 a2.defers (.panicking dh) r F1 h hOO.2.1 (fun e => hOO.2.2 (e.resolve_left (by simp))) hS ⟨hOO.1, hun⟩)
            | _ => exact hOO.elim
          · cases h
        · cases h
      · cases h
    · cases h
theorem funF_spec (hm : P.follows .mixedOrders = true) (hE : EntOk P ent) {plans : FuncId → Nat → Option RPlan} (hP : PlansOk P G plans) {orc : CallF} (hO : CallOk P B G w0 orc) {fuel : Nat} : ∀ n : Nat, CallOk P B G w0 (funF P B ent plans orc fuel n)
  | 0 => fun f args F r F1 h => by cases h
  | n + 1 => by
    intro f args F r F1 h L w args' hs ha
    have hC := funF_spec hm hE hP hO (fuel := fuel) n
    unfold funF at h
    split at h
    · rename_i r0 ho
      injection h with h
      subst h
      exact hO f args F r F1 ho L w args' hs ha
    · exact bodyF_spec hm hE hP hC f args F r F1 h L w args' hs ha
end
end Go.Proofs.YtjnimfnelacceaaGreatDoor
namespace Go.Proofs.YtjnimfnelacceaaGreatDoor
open Go.RowKit

def plan3 : List (Nat × RPlan) := [(2, .float [0, 1, 2, 4, 3, 5, 6, 7, 8])]
def plan12 : List (Nat × RPlan) := [(5, .still)]
def plan17 : List (Nat × RPlan) := [(5, .float [0, 1, 2, 3, 4, 5, 6, 7, 8, 9, 10])]
def plan23 : List (Nat × RPlan) := [(16, .tree (.pure 0 (.pure 4 (.alt (.act 1 (.alt (.act 2 (.alt (.act 3 (.act 5 (.act 6 (.act 7 (.act 8 (.act 9 (.done))))))) (.act 5 (.alt (.act 3 (.act 6 (.act 7 (.act 8 (.act 9 (.done)))))) (.act 6 (.act 3 (.act 7 (.act 8 (.act 9 (.done)))))))))) (.act 5 (.alt (.act 2 (.alt (.act 3 (.act 6 (.act 7 (.act 8 (.act 9 (.done)))))) (.act 6 (.act 3 (.act 7 (.act 8 (.act 9 (.done)))))))) (.act 6 (.act 2 (.act 3 (.act 7 (.act 8 (.act 9 (.done))))))))))) (.alt (.act 2 (.alt (.act 1 (.alt (.act 3 (.act 5 (.act 6 (.act 7 (.act 8 (.act 9 (.done))))))) (.act 5 (.alt (.act 3 (.act 6 (.act 7 (.act 8 (.act 9 (.done)))))) (.act 6 (.act 3 (.act 7 (.act 8 (.act 9 (.done)))))))))) (.alt (.act 3 (.alt (.act 1 (.act 5 (.act 6 (.act 7 (.act 8 (.act 9 (.done))))))) (.act 5 (.alt (.act 1 (.act 6 (.act 7 (.act 8 (.act 9 (.done)))))) (.act 6 (.act 1 (.act 7 (.act 8 (.act 9 (.done)))))))))) (.act 5 (.alt (.act 1 (.alt (.act 3 (.act 6 (.act 7 (.act 8 (.act 9 (.done)))))) (.act 6 (.act 3 (.act 7 (.act 8 (.act 9 (.done)))))))) (.alt (.act 3 (.alt (.act 1 (.act 6 (.act 7 (.act 8 (.act 9 (.done)))))) (.act 6 (.act 1 (.act 7 (.act 8 (.act 9 (.done)))))))) (.act 6 (.alt (.act 1 (.act 3 (.act 7 (.act 8 (.act 9 (.done)))))) (.act 3 (.act 1 (.act 7 (.act 8 (.act 9 (.done)))))))))))))) (.act 5 (.alt (.act 1 (.alt (.act 2 (.alt (.act 3 (.act 6 (.act 7 (.act 8 (.act 9 (.done)))))) (.act 6 (.act 3 (.act 7 (.act 8 (.act 9 (.done)))))))) (.act 6 (.act 2 (.act 3 (.act 7 (.act 8 (.act 9 (.done))))))))) (.alt (.act 2 (.alt (.act 1 (.alt (.act 3 (.act 6 (.act 7 (.act 8 (.act 9 (.done)))))) (.act 6 (.act 3 (.act 7 (.act 8 (.act 9 (.done)))))))) (.alt (.act 3 (.alt (.act 1 (.act 6 (.act 7 (.act 8 (.act 9 (.done)))))) (.act 6 (.act 1 (.act 7 (.act 8 (.act 9 (.done)))))))) (.act 6 (.alt (.act 1 (.act 3 (.act 7 (.act 8 (.act 9 (.done)))))) (.act 3 (.act 1 (.act 7 (.act 8 (.act 9 (.done))))))))))) (.act 6 (.alt (.act 1 (.act 2 (.act 3 (.act 7 (.act 8 (.act 9 (.done))))))) (.act 2 (.alt (.act 1 (.act 3 (.act 7 (.act 8 (.act 9 (.done)))))) (.act 3 (.act 1 (.act 7 (.act 8 (.act 9 (.done))))))))))))))))))]
def plan31 : List (Nat × RPlan) := [(7, .float [0, 1, 2, 3, 4, 5]), (9, .float [0, 1, 2, 3, 4, 5]), (14, .float [0, 1, 2, 3, 4, 5, 6, 7]), (16, .tail 5), (18, .tail 4), (29, .tail 5), (34, .float [0, 1, 2, 3, 4, 5])]
def plan33 : List (Nat × RPlan) := [(7, .still), (10, .tail 6), (11, .float [0, 1, 2, 3, 4, 5, 6, 8, 7, 9]), (22, .float [0, 1, 2, 3, 4, 5, 6, 8, 7, 9]), (23, .tail 6)]
def plan47 : List (Nat × RPlan) := [(8, .float [0, 1, 2, 3, 4, 5, 6, 7])]
def plan48 : List (Nat × RPlan) := [(5, .float [0, 1, 2, 3, 4, 5, 6, 7, 8, 9, 10])]
def plan51 : List (Nat × RPlan) := [(7, .float [0, 1, 2, 3, 4, 5]), (8, .float [0, 3, 1, 2, 4, 5, 6, 7, 8])]
def plan62 : List (Nat × RPlan) := [(8, .float [0, 1, 2, 3, 4, 5, 6, 7])]
def plan72 : List (Nat × RPlan) := [(2, .float [0, 1, 2, 3, 4]), (5, .float [0, 1, 2, 3, 4, 5, 6, 7, 8, 9, 10, 11, 12, 13, 14, 15, 16, 17, 18, 19, 20, 21, 22, 23, 24, 25, 26, 27, 28, 29, 30, 31, 32, 33, 34, 35])]
def plan78 : List (Nat × RPlan) := [(2, .tail 11)]
def plan80 : List (Nat × RPlan) := [(1, .float [0, 1, 2, 3, 4, 5, 6, 7, 8, 9]), (2, .tail 6)]
def plan81 : List (Nat × RPlan) := [(7, .float [0, 1, 2, 4, 5, 3, 6, 7, 8]), (9, .float [0, 1, 2, 3, 4, 5])]
def plan95 : List (Nat × RPlan) := [(6, .float [0, 1, 2, 3, 4, 5, 6, 7]), (10, .float [0, 1, 2, 3, 4, 5, 6, 7, 8, 9])]
def plan96 : List (Nat × RPlan) := [(6, .float [0, 1, 2, 3, 4, 5, 6, 7])]
def plan107 : List (Nat × RPlan) := [(6, .still), (7, .float [0, 1, 2, 3, 4, 5, 6, 7, 8, 10, 11, 9, 12, 13]), (8, .float [0, 1, 2, 3, 4, 5, 6, 7, 10, 11, 8, 9, 12, 13]), (9, .float [0, 1, 2, 3, 4, 5, 6, 7, 8, 9, 13, 14, 10, 11, 12, 15, 16]), (10, .float [0, 1, 2, 4, 5, 3, 6, 7]), (11, .tail 12)]
def plan111 : List (Nat × RPlan) := [(1, .still), (3, .tail 8)]
def plan118 : List (Nat × RPlan) := [(0, .tail 5)]
def plan119 : List (Nat × RPlan) := [(0, .tail 6)]
def plan169 : List (Nat × RPlan) := [(4, .still), (5, .float [0, 1, 2, 3, 4, 5, 6, 7, 8, 9, 10, 11, 12, 13])]
def plan170 : List (Nat × RPlan) := [(3, .float [0, 1, 2, 3, 4, 5, 6])]
def plan171 : List (Nat × RPlan) := [(3, .still)]
def plan172 : List (Nat × RPlan) := [(4, .float [0, 1, 2, 3, 4, 5]), (6, .tree (.pure 0 (.pure 1 (.pure 2 (.pure 3 (.pure 5 (.alt (.act 4 (.alt (.act 6 (.act 7 (.act 8 (.act 9 (.act 10 (.done)))))) (.act 7 (.alt (.act 6 (.act 8 (.act 9 (.act 10 (.done))))) (.act 8 (.act 6 (.act 9 (.act 10 (.done))))))))) (.act 7 (.alt (.act 4 (.alt (.act 6 (.act 8 (.act 9 (.act 10 (.done))))) (.act 8 (.act 6 (.act 9 (.act 10 (.done))))))) (.act 8 (.act 4 (.act 6 (.act 9 (.act 10 (.done)))))))))))))))]
def plan197 : List (Nat × RPlan) := [(0, .float [0, 1, 2, 3, 4, 5, 6, 7]), (1, .tail 6)]
def plan202 : List (Nat × RPlan) := [(6, .float [0, 1, 2, 3, 4, 5, 6, 7, 8, 9, 10, 11, 12, 13, 14, 15, 16, 17, 18, 19, 20, 21, 22, 23, 24, 25, 26]), (10, .float [0, 1, 2, 3, 4, 5, 6, 7, 8, 9, 10, 11, 12, 13, 14, 15])]
def plan209 : List (Nat × RPlan) := [(1, .tail 11)]
def plan247 : List (Nat × RPlan) := [(10, .float [0, 1, 2, 3, 4, 5, 6, 7, 8])]
def plan248 : List (Nat × RPlan) := [(4, .float [0, 1, 2, 3, 4, 5, 6, 7, 8, 9]), (5, .float [0, 1, 2, 3, 4, 5, 6, 7, 8])]
def planList (f : Nat) : List (Nat × RPlan) :=
  if f = 3 then plan3 else
  if f = 12 then plan12 else
  if f = 17 then plan17 else
  if f = 23 then plan23 else
  if f = 31 then plan31 else
  if f = 33 then plan33 else
  if f = 47 then plan47 else
  if f = 48 then plan48 else
  if f = 51 then plan51 else
  if f = 62 then plan62 else
  if f = 72 then plan72 else
  if f = 78 then plan78 else
  if f = 80 then plan80 else
  if f = 81 then plan81 else
  if f = 95 then plan95 else
  if f = 96 then plan96 else
  if f = 107 then plan107 else
  if f = 111 then plan111 else
  if f = 118 then plan118 else
  if f = 119 then plan119 else
  if f = 169 then plan169 else
  if f = 170 then plan170 else
  if f = 171 then plan171 else
  if f = 172 then plan172 else
  if f = 197 then plan197 else
  if f = 202 then plan202 else
  if f = 209 then plan209 else
  if f = 247 then plan247 else
  if f = 248 then plan248 else
  []
def findPlan : List (Nat × RPlan) → Nat → Option RPlan
  | [], _ => none
  | (k, p) :: l, id => if k = id then some p else findPlan l id
def thePlans (f : FuncId) (id : Nat) : Option RPlan := findPlan (planList f) id
end Go.Proofs.YtjnimfnelacceaaGreatDoor
