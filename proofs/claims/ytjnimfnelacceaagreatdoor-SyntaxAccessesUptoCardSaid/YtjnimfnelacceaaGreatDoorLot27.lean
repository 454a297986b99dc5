/- What the evaluator gives holds in the great world: code. -/
import Derived.Test.YtjnimfnelacceaaGreatDoorLot26
set_option linter.unusedSimpArgs false
set_option linter.unusedVariables false
namespace Go.Proofs.YtjnimfnelacceaaGreatDoor
open Go.RowKit

section
variable {P : Program} {B G : Nat} {w0 : World} {L : Lie} {w : World} {ent : FuncId → Bool} {call : CallF}

theorem planF_spec (hE : EntOk P ent) (hC : CallOk P B G w0 call) {ops : Array Oper} (hsel : Region.noSelect ops = true) (hx : ∀ o ∈ ops.toList, ∀ x ∈ o.op.operands.toList, okX G x = true) :
    ∀ (p : Plan) (b : Bool) (listed : Array Bool) (a : Fa) (F : Fw) (L : Lie) (w : World) (a' : Act) (d : Did) (n : Nat),
      planF P B ent call ops p a F = some d → planOk ops p b listed = true → plen p ≤ n → Sim P B G w0 L F.toW w → CR P L a a' →
      (b = false → wpAny P .any ops (OutQ P B G w0 L false d.out d.a d.F) n listed a' w) ∧
      (acts p = true → ∃ m, n = m + 1 ∧ ∀ j ∈ heads p, wpOp P ops (OutQ P B G w0 L false d.out d.a d.F) j (wpAny P .any ops (OutQ P B G w0 L false d.out d.a d.F) m (listed.setIfInBounds j true)) a' w)
  | .done, b, listed, a, F, L, w, a', d, n, h, hok, hn, hs, hr => by
    simp only [planF, Option.some.injEq] at h
    subst h
    simp only [planOk, Bool.and_eq_true, Bool.not_eq_true', List.isEmpty_iff] at hok
    have hq : OutQ P B G w0 L false .normal a F .normal a' w := ⟨L, L.le_refl, hs, hr⟩
    refine ⟨fun _ => ?_, fun h => by cases h⟩
    cases n with
    | zero => exact ⟨hok.2, hq⟩
    | succ m => exact ⟨fun _ => hq, fun i hi => by rw [hok.2] at hi; cases hi⟩
  | .pure j p, b, listed, a, F, L, w, a', d, n, h, hok, hn, hs, hr => by
    simp only [planOk, Bool.and_eq_true, Bool.not_eq_true', List.contains_iff_mem] at hok
    obtain ⟨⟨⟨_, hready⟩, hfree⟩, hok⟩ := hok
    refine ⟨fun _ => ?_, fun h => by cases h⟩
    obtain ⟨m, rfl⟩ : ∃ m, n = m + 1 := ⟨n - 1, by simp only [plen] at hn; omega⟩
    have hn' : plen p ≤ m := by simp only [plen] at hn; omega
    unfold planF at h
    split at h
    · rename_i o ho
      have hxo : ∀ x ∈ o.op.operands.toList, okX G x = true := hx o (Array.mem_toList_iff.2 (Array.mem_of_getElem? ho))
      rw [wantedF_eq hr] at h
      split at h
      · rename_i hw
        rw [pureS_eq] at h
        split at h
        · rename_i v hv
          obtain ⟨v', h1, h2⟩ := pureC_spec (fun x hxx => hr.eval hs (hxo x hxx)) hv
          refine wpAny_first OutQ.blind trivial ho (Region.noSelect_spec hsel) m listed a' w (fun k ok hk hne hun hno => Region.free_spec ho hfree k ok hk hne hun hno) hready (.inl ⟨hw, h2⟩) ?_
          exact (planF_spec hE hC hsel hx p false _ _ F L w _ d m h hok hn' hs (hr.put o.dst h1)).1 rfl
        · cases h
      · rename_i hw
        refine wpAny_first OutQ.blind trivial ho (Region.noSelect_spec hsel) m listed a' w (fun k ok hk hne hun hno => Region.free_spec ho hfree k ok hk hne hun hno) hready (.inr ⟨by simpa using hw, rfl⟩) ?_
        exact (planF_spec hE hC hsel hx p false _ _ F L w _ d m h hok hn' hs (hr.put o.dst .undef)).1 rfl
    · cases h
  | .act j p, b, listed, a, F, L, w, a', d, n, h, hok, hn, hs, hr => by
    simp only [planOk, Bool.and_eq_true, Bool.or_eq_true] at hok
    obtain ⟨hb, hok⟩ := hok
    obtain ⟨m, rfl⟩ : ∃ m, n = m + 1 := ⟨n - 1, by simp only [plen] at hn; omega⟩
    have hn' : plen p ≤ m := by simp only [plen] at hn; omega
    have key : wpOp P ops (OutQ P B G w0 L false d.out d.a d.F) j (wpAny P .any ops (OutQ P B G w0 L false d.out d.a d.F) m (listed.setIfInBounds j true)) a' w := by
      unfold planF at h
      split at h
      · rename_i o ho
        have hxo : ∀ x ∈ o.op.operands.toList, okX G x = true := hx o (Array.mem_toList_iff.2 (Array.mem_of_getElem? ho))
        unfold Go.wpOp
        simp only [ho]
        rw [wantedF_eq hr] at h
        split at h
        · rename_i hw
          rw [if_pos hw]
          left
          split at h
          · rename_i a1 F1 hst
            split at h
            · rename_i d1 hd1
              injection h with h
              subst h
              refine stepF_spec hE hC hs hr hxo hst fun M a1' w1 hle hS hR => ?_
              exact wpAny_monoQ (fun e a2 w2 hq => OutQ.mono hle hq) m _ _ _ ((planF_spec hE hC hsel hx p false _ a1 F1 M w1 a1' d1 m hd1 hok hn' hS hR).1 rfl)
            · cases h
          · rename_i ch a1 F1 hst
            injection h with h
            subst h
            exact stepF_spec hE hC hs hr hxo hst fun M ch' w1 hle hS hch hd => ⟨M, hle, hS, hch, hd.2, fun h => by cases h⟩
          · cases h
        · rename_i hw
          rw [if_neg hw]
          exact (planF_spec hE hC hsel hx p false _ _ F L w _ d m h hok hn' hs (hr.put o.dst .undef)).1 rfl
      · cases h
    refine ⟨fun hbf => ?_, fun _ => ⟨m, rfl, fun i hi => ?_⟩⟩
    · rcases hb with hb | ⟨h1, h2⟩
      · rw [hbf] at hb; cases hb
      · refine ⟨fun h0 => (by rw [h0] at h1; cases h1), fun i hi => ?_⟩
        have := List.all_eq_true.1 h2 i hi
        rw [beq_iff_eq] at this
        rw [this]; exact key
    · have : i = j := by simpa [heads] using hi
      rw [this]; exact key
  | .alt p q, b, listed, a, F, L, w, a', d, n, h, hok, hn, hs, hr => by
    simp only [planOk, Bool.and_eq_true, Bool.or_eq_true] at hok
    obtain ⟨⟨⟨⟨hb, hap⟩, haq⟩, hokp⟩, hokq⟩ := hok
    unfold planF at h
    split at h
    · rename_i x y hpx hqy
      split at h
      · rename_i hiso
        injection h with h
        subst h
        have hnp : plen p ≤ n := by simp only [plen] at hn; omega
        have hnq : plen q ≤ n := by simp only [plen] at hn; omega
        obtain ⟨m, rfl, hp⟩ := (planF_spec hE hC hsel hx p true listed a F L w a' x n hpx hokp hnp hs hr).2 hap
        obtain ⟨m', hm', hq⟩ := (planF_spec hE hC hsel hx q true listed a F L w a' y (m + 1) hqy hokq hnq hs hr).2 haq
        have hmm : m' = m := by omega
        subst hmm
        have conv : ∀ e a2 w2, OutQ P B G w0 L false y.out y.a y.F e a2 w2 → OutQ P B G w0 L false x.out x.a x.F e a2 w2 := fun e a2 w2 hh =>
          isoR_sound hs (planF_clean p a F x hpx) (planF_clean q a F y hqy) hiso hh
        have all : ∀ j ∈ heads p ++ heads q, wpOp P ops (OutQ P B G w0 L false x.out x.a x.F) j (wpAny P .any ops (OutQ P B G w0 L false x.out x.a x.F) m' (listed.setIfInBounds j true)) a' w := by
          intro j hj
          rcases List.mem_append.1 hj with hj | hj
          · exact hp j hj
          · exact wpOp_monoQ conv (fun a2 w2 hh => wpAny_monoQ conv _ _ _ _ hh) (hq j hj)
        refine ⟨fun hbf => ?_, fun _ => ⟨m', rfl, all⟩⟩
        rcases hb with hb | ⟨h1, h2⟩
        · rw [hbf] at hb; cases hb
        · refine ⟨fun h0 => (by rw [h0] at h1; cases h1), fun i hi => ?_⟩
          exact all i (by simpa using List.all_eq_true.1 h2 i hi)
      · cases h
    · cases h

theorem loadF_real {t : TypeId} {x x' v : Value} {F : Fw} (h : loadF P t x F = some v) (hs : Sim P B G w0 L F.toW w) (hx : VR P L x x') :
    ∃ a' v', x' = .pointer (some a') ∧ (loadVar t a').run P w = .ok v' w ∧ VR P L v v' := by
  unfold loadF at h
  split at h
  · rename_i b o
    cases hx with
    | ptr _ _ hb =>
    split at h
    · rename_i xs e fz hrd
      obtain ⟨_, us, hw, _, hsz, hus⟩ := hs.cells (F.rd_some hrd)
      have hxs : xs.toList.length = xs.size := by simp
      refine ⟨⟨L.at_ b, o, none⟩, ?_⟩
      unfold Go.loadVar
      split at h
      · rename_i ha
        split at h
        · rename_i n hn
          split at h
          · rename_i r hr
            injection h with h
            subst h
            obtain ⟨h1, h2, h3⟩ := takeAt_spec _ _ _ _ hr
            have hlt : ∀ j, j < n → o + j < xs.size := fun j hj => by have := h2 (by omega); omega
            have hl := run_loadCells (P := P) w ⟨L.at_ b, o, none⟩ n (fun j => us.getD (o + j) undef) fun j hj => by
              rw [add_none, cell?_of hw]
              exact getElem?_of_getD (by have := hlt j hj; omega)
            refine ⟨.agg ((List.range n).map fun j => us.getD (o + j) undef).toArray, rfl, ?_, ?_⟩
            · simp only [Sem.run_bind, run_isAggC ha, Result.andThen_ok, if_true, run_sizeC hn, hl, Sem.run_pure]
            · refine .agg _ _ ?_ fun i hi => ?_
              · show r.length = _
                simp [h1]
              · have hi' : i < n := by rw [← h1]; exact hi
                have e1 : (⟨r⟩ : Array Value).getD i undef = xs.getD (o + i) undef := by
                  rw [← toList_getD]
                  have h4 := h3 i hi'
                  have h5 : xs.toList[o + i]? = some (xs.getD (o + i) undef) := by
                    have := getElem?_of_getD (hlt i hi')
                    simpa using this
                  rw [h5] at h4
                  injection h4 with h4
                  exact h4.symm
                have e2 : (((List.range n).map fun j => us.getD (o + j) undef).toArray).getD i undef = us.getD (o + i) undef := by simp [Array.getD, hi']
                rw [e1, e2]
                exact hus _ (hlt i hi')
          · cases h
        · cases h
      · rename_i ha
        rw [getO_eq] at h
        have hx : xs[o]? = some v := by simpa using h
        obtain ⟨ho, hv⟩ := getD_of_getElem? hx
        refine ⟨us.getD o undef, rfl, ?_, ?_⟩
        · have hc : w.cell? ⟨L.at_ b, o, none⟩ = some (us.getD o undef) := by rw [cell?_of hw]; exact getElem?_of_getD (by omega)
          simp only [Sem.run_bind, run_isAggC ha, Result.andThen_ok, Bool.false_eq_true, if_false, run_load_of hc]
        · rw [← hv]; exact hus o ho
      · cases h
    · cases h
  · cases h
/-- An operation that only reads. -/
theorem readC_spec {ρ ρ' : Operand → Value} {o : Oper} {v : Value} {F : Fw} (hs : Sim P B G w0 L F.toW w) (hρ : ∀ x ∈ o.op.operands.toList, VR P L (ρ x) (ρ' x)) (he : readC P ρ o.op F = some v) :
    ∃ v', VR P L v v' ∧ (execOp ρ' o).run P w = .ok (.value v') w := by
  unfold readC at he
  split at he
  · rename_i t x ho
    rw [ho] at hρ
    obtain ⟨a', v', h1, h2, h3⟩ := loadF_real he hs (hρ x (by simp [Op.operands]))
    refine ⟨v', h3, ?_⟩
    unfold execOp
    rw [ho]
    simp only [Instr.loadAt, h1, Instr.sureAddr, pure_bind, Sem.run_bind, h2, Result.andThen_ok, Sem.run_pure]
  · rename_i t x k ok ho
    rw [ho] at hρ
    obtain ⟨v', h1, h2⟩ := lookupC_spec hs (hρ x (by simp [Op.operands])) (hρ k (by simp [Op.operands])) (lookupF_eq he)
    refine ⟨v', h2, ?_⟩
    unfold execOp
    rw [ho]
    simp only [Sem.run_bind, h1, Result.andThen_ok, Sem.run_pure]
  · rename_i t x lo ho
    rw [ho] at hρ
    obtain ⟨v', h1, h2⟩ := sliceC_spec hs (hρ x (by simp [Op.operands])) (hρ lo (by simp [Op.operands])) (sliceF_eq he)
    refine ⟨v', h2, ?_⟩
    unfold execOp
    rw [ho]
    simp only [Option.map_some, Option.map_none, Sem.run_bind, h1, Result.andThen_ok, Sem.run_pure]
  · cases he
theorem stillF_spec {ops : Array Oper} {F : Fw} (hs : Sim P B G w0 L F.toW w) {K : Act → Prop} : ∀ (l : List Oper) (a : Fa) (a' : Act) (a1 : Fa), (∀ o ∈ l, ∀ x ∈ o.op.operands.toList, okX G x = true) → CR P L a a' →
    stillF P ops l a F = some a1 → (∀ a1', CR P L a1 a1' → K a1') → wpStill P ops w K l a'
  | [], a, a', a1, _, hr, h, hK => by
    simp only [stillF, Option.some.injEq] at h
    subst h
    exact hK a' hr
  | o :: l, a, a', a1, hx, hr, h, hK => by
    have hl : ∀ o ∈ l, ∀ x ∈ o.op.operands.toList, okX G x = true := fun o' ho => hx o' (List.mem_cons_of_mem _ ho)
    have hρ : ∀ x ∈ o.op.operands.toList, VR P L (a.eval x) (a'.eval x) := fun x hxx => hr.eval hs (hx o List.mem_cons_self x hxx)
    unfold stillF at h
    unfold wpStill
    rw [wantedF_eq hr] at h
    split at h
    · rename_i hw
      rw [if_pos hw]
      unfold Oper.still
      rw [pureS_eq] at h
      split at h
      · rename_i v hv
        obtain ⟨v', h1, h2⟩ := pureC_spec hρ hv
        rw [h2 w]
        exact ⟨rfl, stillF_spec hs l _ _ a1 hl (hr.put o.dst h1) h hK⟩
      · split at h
        · rename_i v hv
          obtain ⟨v', h1, h2⟩ := readC_spec hs hρ hv
          rw [h2]
          exact ⟨rfl, stillF_spec hs l _ _ a1 hl (hr.put o.dst h1) h hK⟩
        · cases h
    · rename_i hw
      rw [if_neg hw]
      exact stillF_spec hs l _ _ a1 hl (hr.put o.dst .undef) h hK

theorem rounds_mono {c : Code} {Q Q' : Exit → Act → World → Prop} (hQ : ∀ e a w, Q e a w → Q' e a w) : ∀ (n : Nat) (a : Act) (w : World), Code.rounds P c Q n a w → Code.rounds P c Q' n a w
  | 0, _, _, h => h
  | n + 1, a, w, h => by
    rw [rounds_succ] at h ⊢
    refine wp_mono h fun e a1 w1 he => ?_
    cases e <;> first | exact rounds_mono hQ n _ _ he | exact hQ _ _ _ he
theorem codeF_spec (hm : P.follows .mixedOrders = true) (hE : EntOk P ent) (hC : CallOk P B G w0 call) {plans : Nat → Option RPlan} {full : Bool} : ∀ (n : Nat),
    (∀ (code : Code) (a : Fa) (F : Fw) (L : Lie) (w : World) (a' : Act) (r : Out × Fa × Fw), codeF P B ent call plans n code a F = some r → codeOk G plans code = true → (full = true → noTree plans code = true) → Sim P B G w0 L F.toW w → CR P L a a' →
      code.wp P (OutQ P B G w0 L full r.1 r.2.1 r.2.2) a' w) ∧
    (∀ (code : Code) (a : Fa) (F : Fw) (L : Lie) (w : World) (a' : Act) (r : Out × Fa × Fw), codeF P B ent call plans n (.loop code) a F = some r → codeOk G plans code = true → (full = true → noTree plans code = true) → Sim P B G w0 L F.toW w → CR P L a a' →
      Code.rounds P code (OutQ P B G w0 L full r.1 r.2.1 r.2.2) n a' w) := by
  intro n
  induction n with
  | zero => exact ⟨fun _ _ _ _ _ _ _ h => (by cases h), fun _ _ _ _ _ _ _ h => (by cases h)⟩
  | succ n ih =>
    obtain ⟨ih1, ih2⟩ := ih
    have loops : ∀ (code : Code) (a : Fa) (F : Fw) (L : Lie) (w : World) (a' : Act) (r : Out × Fa × Fw), codeF P B ent call plans (n + 1) (.loop code) a F = some r → codeOk G plans code = true → (full = true → noTree plans code = true) → Sim P B G w0 L F.toW w → CR P L a a' →
        Code.rounds P code (OutQ P B G w0 L full r.1 r.2.1 r.2.2) (n + 1) a' w := by
      intro code a F L w a' r h hok hnt hs hr
      rw [rounds_succ]
      simp only [codeF] at h
      split at h
      · rename_i a1 F1 hb
        refine wp_mono (ih1 code a F L w a' _ hb hok hnt hs hr) fun e a2 w2 hq => ?_
        obtain ⟨M, hle, hS, hO⟩ := hq
        cases e with
        | normal => exact rounds_mono (fun e a3 w3 hh => OutQ.mono hle hh) n _ _ (ih2 code a1 F1 M w2 a2 r h hok hnt hS hO)
        | _ => exact hO.elim
      · rename_i hne
        refine wp_mono (ih1 code a F L w a' r h hok hnt hs hr) fun e a2 w2 hq => ?_
        cases e with
        | normal =>
          obtain ⟨M, hle, hS, hO⟩ := hq
          obtain ⟨out, a1, F1⟩ := r
          cases out with
          | normal => exact absurd h (hne a1 F1)
          | _ => exact hO.elim
        | _ => exact hq
    refine ⟨?_, loops⟩
    intro code a F L w a' r h hok hnt hs hr
    cases code with
    | skip =>
      simp only [codeF, Option.some.injEq] at h
      subst h
      exact wp_skip ⟨L, L.le_refl, hs, hr⟩
    | label l =>
      simp only [codeF, Option.some.injEq] at h
      subst h
      exact wp_label ⟨L, L.le_refl, hs, hr⟩
    | region id ops draw =>
      simp only [codeF] at h
      simp only [codeOk, Bool.and_eq_true, Bool.or_eq_true, List.all_eq_true] at hok
      obtain ⟨hx, hp⟩ := hok
      split at h
      · rename_i hd
        subst hd
        have hs1 : Sim P B G w0 L F.toW { w with drawn := w.drawn + 1 } := hs.same rfl rfl rfl rfl rfl
        rcases hp with hp | hp
        · cases hp
        split at h
        · rename_i p hpl
          rw [hpl] at hp
          simp only [Bool.and_eq_true, decide_eq_true_eq] at hp
          obtain ⟨⟨hsel, hpo⟩, hlen⟩ := hp
          split at h
          · rename_i d hd
            injection h with h
            subst h
            cases full with
            | true => have := hnt rfl; simp [noTree, hpl] at this
            | false => exact wp_region_any hm ((planF_spec hE hC hsel hx p false _ a F L _ a' d ops.size hd hpo hlen hs1 hr).1 rfl)
          · cases h
        · rename_i hpl
          rw [hpl] at hp
          split at h
          · rename_i a1 hst
            injection h with h
            subst h
            exact wp_region_still hm hp (stillF_spec hs1 ops.toList a a' a1 hx hr hst fun a1' hr1 => ⟨L, L.le_refl, hs1, hr1⟩)
          · cases h
        · rename_i n hpl
          rw [hpl] at hp
          split at h
          · rename_i a1 hst
            have hlit := wp_region_still_tail (P := P) (id := id) (Q := OutQ P B G w0 L full r.1 r.2.1 r.2.2) (a := a') (w := w) (l := ops.toList) n hm (by simpa using hp) (by
              refine stillF_spec (ops := ops.toList.toArray) hs1 (ops.toList.take n) a a' a1 (fun o ho => hx o (List.mem_of_mem_take ho)) hr (by simpa using hst) fun a1' hr1 => ?_
              have := opsF_spec hE hC (full := full) (ops := ops) (ops.toList.drop n) a1 F L _ a1' r (fun o ho => hx o (List.mem_of_mem_drop ho)) hs1 hr1 h
              simpa using this)
            simpa using hlit
          · cases h
        · rename_i l hpl
          rw [hpl] at hp
          simp only [Bool.and_eq_true, decide_eq_true_eq] at hp
          obtain ⟨⟨⟨_, hst⟩, hso⟩, hlen⟩ := hp
          cases full with
          | true => have := hnt rfl; simp [noTree, hpl] at this
          | false => exact floatF_wp hm hE hC hst hx h hso hlen hs1 hr
        · cases h
      · rename_i hd
        have hd : draw = false := by simpa using hd
        subst hd
        exact wp_region_list (opsF_spec hE hC ops.toList a F L w a' r hx hs hr h)
    | seq x y =>
      simp only [codeF] at h
      simp only [codeOk, Bool.and_eq_true] at hok
      have ntS : full = true → noTree plans x = true ∧ noTree plans y = true := fun e => by have := hnt e; simpa only [noTree, Bool.and_eq_true] using this
      refine wp_seq ?_
      split at h
      · rename_i a1 F1 hb
        refine wp_mono (ih1 x a F L w a' _ hb hok.1 (fun e => (ntS e).1) hs hr) fun e a2 w2 hq => ?_
        obtain ⟨M, hle, hS, hO⟩ := hq
        cases e with
        | normal => exact wp_mono (ih1 y a1 F1 M w2 a2 r h hok.2 (fun e => (ntS e).2) hS hO) fun e a3 w3 hh => OutQ.mono hle hh
        | _ => exact hO.elim
      · rename_i hne
        refine wp_mono (ih1 x a F L w a' r h hok.1 (fun e => (ntS e).1) hs hr) fun e a2 w2 hq => ?_
        cases e with
        | normal =>
          obtain ⟨M, hle, hS, hO⟩ := hq
          obtain ⟨out, a1, F1⟩ := r
          cases out with
          | normal => exact absurd h (hne a1 F1)
          | _ => exact hO.elim
        | _ => exact hq
    | cond k x y =>
      simp only [codeF] at h
      simp only [codeOk, Bool.and_eq_true] at hok
      obtain ⟨⟨hk, hx⟩, hy⟩ := hok
      have ntS : full = true → noTree plans x = true ∧ noTree plans y = true := fun e => by have := hnt e; simpa only [noTree, Bool.and_eq_true] using this
      have hv := hr.eval hs hk
      split at h
      · rename_i b hb
        rw [hb] at hv
        have hq := hv.eq_of_flat1 rfl
        refine wp_cond hq ?_
        cases b
        · exact ih1 y a F L w a' r h hy (fun e => (ntS e).2) hs hr
        · exact ih1 x a F L w a' r h hx (fun e => (ntS e).1) hs hr
      · cases h
    | block id body =>
      simp only [codeF] at h
      simp only [codeOk] at hok
      refine wp_block ?_
      split at h
      · rename_i i a1 F1 hb
        refine wp_mono (ih1 body a F L w a' _ hb hok hnt hs hr) fun e a2 w2 hq => ?_
        obtain ⟨M, hle, hS, hO⟩ := hq
        cases e with
        | exit j =>
          obtain ⟨rfl, hc⟩ := hO
          split at h
          · rename_i he
            injection h with h
            subst h
            show if j = id then _ else _
            rw [if_pos he]
            exact ⟨M, hle, hS, hc⟩
          · rename_i he
            injection h with h
            subst h
            show if j = id then _ else _
            rw [if_neg he]
            exact ⟨M, hle, hS, rfl, hc⟩
        | _ => exact hO.elim
      · rename_i hne
        refine wp_mono (ih1 body a F L w a' r h hok hnt hs hr) fun e a2 w2 hq => ?_
        cases e with
        | exit j =>
          obtain ⟨M, hle, hS, hO⟩ := hq
          obtain ⟨out, a1, F1⟩ := r
          cases out with
          | exit i => exact absurd h (hne i a1 F1)
          | _ => exact hO.elim
        | _ => exact hq
    | loop body =>
      simp only [codeOk] at hok
      exact wp_loop_rounds (n + 1) (loops body a F L w a' r h hok hnt hs hr)
    | scope body =>
      simp only [codeF] at h
      simp only [codeOk] at hok
      refine wp_scope_straight (wp_mono (ih1 body a F L w a' r h hok hnt hs hr) fun e a2 w2 hq => ?_)
      cases e with
      | goto l => obtain ⟨M, hle, hS, hO⟩ := hq; exact hO.elim
      | _ => exact hq
    | exit id =>
      simp only [codeF, Option.some.injEq] at h
      subst h
      exact wp_exit ⟨L, L.le_refl, hs, rfl, hr⟩
    | ret =>
      simp only [codeF, Option.some.injEq] at h
      subst h
      exact wp_ret ⟨L, L.le_refl, hs, hr⟩
    | _ => simp only [codeF] at h; cases h
end
end Go.Proofs.YtjnimfnelacceaaGreatDoor
