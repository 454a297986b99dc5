/- Operations of the model, in the small world and in the great one. More operations of the model, in the small world and in the great one. Slices, lengths, comparisons and maps, in the small world and in the great one. -/
import Derived.Test.YtjnimfnelacceaaGreatDoorLot18
import Derived.Lib.Strings
set_option linter.unusedSimpArgs false
set_option linter.unusedVariables false
namespace Go.Proofs.YtjnimfnelacceaaGreatDoor
open Go.RowKit

variable {P : Program} {B G : Nat} {w0 : World} {α β γ δ : Type} {L : Lie} {c w : World}

theorem Sims.never {R : Lie → α → β → Prop} {e : Sem α} {e' : Sem β} (h : ∀ x, ∃ hl y, e.run P x = .halt hl y) : Sims P B G w0 R L c w e e' := by
  intro a c1 ha
  obtain ⟨hl, y, hx⟩ := h c
  rw [hx] at ha; cases ha
theorem AR.set {xs us : Array Value} (h : AR P L xs us) {v v' : Value} (hv : VR P L v v') (i : Nat) : AR P L (xs.setIfInBounds i v) (us.setIfInBounds i v') := by
  refine ⟨by simpa using h.1, fun j hj => ?_⟩
  simp only [Array.size_setIfInBounds] at hj
  have hj' : j < us.size := by rw [← h.1]; exact hj
  by_cases he : i = j
  · subst he
    have e1 : (xs.setIfInBounds i v).getD i undef = v := by simp [Array.getD, hj]
    have e2 : (us.setIfInBounds i v').getD i undef = v' := by simp [Array.getD, hj']
    rw [e1, e2]; exact hv
  · have e1 : (xs.setIfInBounds i v).getD j undef = xs.getD j undef := by simp [Array.getD, hj, Array.getElem_setIfInBounds, he]
    have e2 : (us.setIfInBounds i v').getD j undef = us.getD j undef := by simp [Array.getD, hj', Array.getElem_setIfInBounds, he]
    rw [e1, e2]; exact h.2 j hj
theorem AR.flat {xs : Array Value} (h : xs.all flat1 = true) : AR P L xs xs := ⟨rfl, fun _ hi => .of_flat1 (all_getD h hi)⟩

/-- Two addresses, alike. -/
def RA (L : Lie) (a a' : Addr) : Prop := ∃ b o, a = ⟨b, o, none⟩ ∧ a' = ⟨L.at_ b, o, none⟩ ∧ b < L.n
theorem RA.mono {M : Lie} (hl : L.le M) {a a' : Addr} (h : RA L a a') : RA M a a' := by
  obtain ⟨b, o, rfl, rfl, hb⟩ := h
  exact ⟨b, o, rfl, by rw [hl.2.1 b hb], Nat.lt_of_lt_of_le hb hl.1⟩
theorem RA.add {a a' : Addr} (h : RA L a a') (n : Nat) : RA L (a.add n) (a'.add n) := by
  obtain ⟨b, o, rfl, rfl, hb⟩ := h
  exact ⟨b, o + n, add_none _ _ _, add_none _ _ _, hb⟩
theorem RA.vr {a a' : Addr} (h : RA L a a') : VR P L (.pointer (some a)) (.pointer (some a')) := by
  obtain ⟨b, o, rfl, rfl, hb⟩ := h
  exact .ptr b o hb
theorem Sims.sureAddr (h : Sim P B G w0 L c w) {v v' : Value} (hv : VR P L v v') : Sims P B G w0 (fun M a a' => RA M a a' ∧ v = .pointer (some a)) L c w (Instr.sureAddr v) (Instr.sureAddr v') := by
  cases hv with
  | ptr b o hb => exact Sims.pure h ⟨⟨b, o, rfl, rfl, hb⟩, rfl⟩
  | _ => exact Sims.never fun x => ⟨_, _, rfl⟩
theorem Sims.loadAt (h : Sim P B G w0 L c w) (t : TypeId) {v v' : Value} (hv : VR P L v v') : Sims P B G w0 (VR P) L c w (Instr.loadAt t v) (Instr.loadAt t v') := by
  unfold Instr.loadAt
  refine Sims.bind (Sims.sureAddr h hv) fun M c1 w1 a a' hle h1 ha => ?_
  obtain ⟨⟨b, o, rfl, rfl, hb⟩, _⟩ := ha
  exact Sims.loadVar h1 t hb
theorem Sims.storeAt (h : Sim P B G w0 L c w) (t : TypeId) {v v' x x' : Value} (hv : VR P L v v') (hx : VR P L x x') (hB : ∀ a, v = .pointer (some a) → B ≤ a.block) :
    Sims P B G w0 (fun _ _ _ => True) L c w (Instr.storeAt t v x) (Instr.storeAt t v' x') := by
  unfold Instr.storeAt
  refine Sims.bind (Sims.sureAddr h hv) fun M c1 w1 a a' hle h1 ha => ?_
  obtain ⟨⟨b, o, rfl, rfl, hb⟩, hva⟩ := ha
  exact Sims.storeVar h1 t (hB _ hva) hb (hx.mono hle)

/-! ### New blocks -/
theorem Sims.newRow (h : Sim P B G w0 L c w) (e : TypeId) {xs us : Array Value} (ha : AR P L xs us) :
    Sims P B G w0 (fun M a a' => ∃ b, a = ⟨b, 0, none⟩ ∧ a' = ⟨M.at_ b, 0, none⟩ ∧ b < M.n ∧ M.sh (M.at_ b) = some (e, us.size)) L c w (Go.newRow e xs) (Go.newRow e us) := by
  intro a c1 hr
  have hc : (Go.newRow e xs).run P c = Result.ok ⟨c.heap.size, 0, none⟩ { c with heap := c.heap.push (.cells xs e) } := rfl
  rw [hc] at hr
  injection hr with h1 h2
  subst h1 h2
  refine ⟨L.grow w (.cells us e), { w with heap := w.heap.push (.cells us e) }, ⟨w.heap.size, 0, none⟩, rfl, Lie.le_grow h _, h.new (.inl ?_) rfl, c.heap.size, rfl, ?_, ?_, ?_⟩
  · exact ⟨rfl, rfl, rfl, Nat.le_of_eq ha.1, fun i hi => (ha.2 i hi).mono (Lie.le_grow h _)⟩
  · show _ = (⟨if c.heap.size = L.n then w.heap.size else L.at_ c.heap.size, 0, none⟩ : Addr)
    rw [if_pos h.n.symm]
  · show c.heap.size < L.n + 1
    rw [h.n]; omega
  · show World.shape? { w with heap := w.heap.push (.cells us e) } (if c.heap.size = L.n then w.heap.size else L.at_ c.heap.size) = _
    rw [if_pos h.n.symm]
    unfold World.shape?
    simp
/-- The zero value of a type says nothing of where things lie. -/
def zf (P : Program) (t : TypeId) : Bool := match P.info? t with
  | some i => (match i.zero with | some z => z.cells.all flat1 | none => false)
  | none => false
theorem zf_spec {t : TypeId} (h : zf P t = true) {z : Value} (c : World) (hz : (zeroValue t).run P c = .ok z c) : z.cells.all flat1 = true := by
  have h2 : (zeroValue t).run P c = (match P.info? t with
    | some i => (match i.zero with | some z => Result.ok z c | none => .halt (.unsupported (.resourceLimit "a value of more than 2^22 cells")) c)
    | none => .halt (.stuck "no such type") c) := by
    unfold Go.zeroValue Go.typeInfo
    simp only [Sem.run_bind, Go.program, Sem.run, Result.andThen_ok]
    cases P.info? t with
    | none => rfl
    | some i =>
      cases hi : i.zero with
      | none => simp [hi]
      | some z => simp [hi]
  rw [h2] at hz
  unfold zf at h
  split at h
  · rename_i i hi
    rw [hi] at hz
    simp only at hz
    split at h
    · rename_i z' hz'
      rw [hz'] at hz
      injection hz with e1 e2
      rw [← e1]; exact h
    · cases h
  · cases h
theorem Sims.alloc (h : Sim P B G w0 L c w) (t : TypeId) (hz : zf P t = true) : Sims P B G w0 (VR P) L c w (Instr.alloc t true (.tuple #[])) (Instr.alloc t true (.tuple #[])) := by
  unfold Instr.alloc
  refine Sims.bind (Sims.quiet h (.zeroValue t)) fun M c1 w1 z z' hle h1 ha => ?_
  obtain ⟨rfl, hzz⟩ := ha
  have hf := zf_spec hz c1 (hzz c1)
  show Sims P B G w0 (VR P) M c1 w1 (Go.newVar t z' >>= fun a => Pure.pure (Value.pointer (some a))) (Go.newVar t z' >>= fun a => Pure.pure (Value.pointer (some a)))
  unfold Go.newVar
  refine Sims.bind (Sims.newRow h1 t (.flat hf)) fun N c2 w2 a a' hle2 h2 ha => ?_
  obtain ⟨b, rfl, rfl, hb, _⟩ := ha
  exact Sims.pure h2 (.ptr b 0 hb)
theorem Sims.box (h : Sim P B G w0 L c w) (t : TypeId) {v v' : Value} (hv : VR P L v v') : Sims P B G w0 (VR P) L c w (Instr.box t v) (Instr.box t v') := by
  unfold Instr.box Go.newVar
  refine Sims.bind (Sims.newRow h t hv.cells) fun N c2 w2 a a' hle2 h2 ha => ?_
  obtain ⟨b, rfl, rfl, hb, _⟩ := ha
  exact Sims.pure h2 (.ptr b 0 hb)

/-! ### Building -/
theorem foldl_set : ∀ (xs us : List Value) (off k : Nat) (cs ds : Array Value), xs.length = us.length → (∀ i, i < xs.length → VR P L (xs.getD i undef) (us.getD i undef)) → AR P L cs ds →
    AR P L ((xs.zipIdx k).foldl (fun cs (x : Value × Nat) => cs.setIfInBounds (off + x.2) x.1) cs) ((us.zipIdx k).foldl (fun cs (x : Value × Nat) => cs.setIfInBounds (off + x.2) x.1) ds)
  | [], [], _, _, _, _, _, _, h => h
  | [], _ :: _, _, _, _, _, hl, _, _ => by simp at hl
  | _ :: _, [], _, _, _, _, hl, _, _ => by simp at hl
  | x :: xs, u :: us, off, k, cs, ds, hl, hv, h => by
    simp only [List.zipIdx_cons, List.foldl_cons]
    refine foldl_set xs us off (k + 1) _ _ (by simpa using hl) (fun i hi => ?_) (h.set (by simpa using hv 0 (by simp)) _)
    have := hv (i + 1) (by simp; omega)
    simpa using this
theorem foldl_set' {xs us cs ds : Array Value} (h : AR P L xs us) (hc : AR P L cs ds) (off : Nat) :
    AR P L (xs.zipIdx.foldl (fun cs (x : Value × Nat) => cs.setIfInBounds (off + x.2) x.1) cs) (us.zipIdx.foldl (fun cs (x : Value × Nat) => cs.setIfInBounds (off + x.2) x.1) ds) := by
  rw [← Array.foldl_toList, ← Array.foldl_toList, Array.toList_zipIdx, Array.toList_zipIdx]
  refine foldl_set _ _ _ _ _ _ (by simpa using h.1) (fun i hi => ?_) hc
  rw [toList_getD, toList_getD]; exact h.getD i
theorem fill_rel (place : Nat → Option (Nat × Nat)) {ρ ρ' : Operand → Value} : ∀ (l : List (Nat × Operand)) (cs ds xs : Array Value), (∀ p ∈ l, VR P L (ρ p.2) (ρ' p.2)) → AR P L cs ds →
    Instr.fill place cs (l.map fun p => (p.1, ρ p.2)) = some xs → ∃ us, Instr.fill place ds (l.map fun p => (p.1, ρ' p.2)) = some us ∧ AR P L xs us
  | [], cs, ds, xs, _, h, he => by
    simp only [List.map_nil, Instr.fill, Option.some.injEq] at he ⊢
    subst he
    exact ⟨ds, rfl, h⟩
  | p :: l, cs, ds, xs, hp, h, he => by
    simp only [List.map_cons, Instr.fill] at he ⊢
    have hv := (hp p List.mem_cons_self).cells
    split at he
    · cases he
    · rename_i off size hpl
      split at he
      · cases he
      · rename_i hc
        have hc' : ¬((ρ' p.2).cells.size ≠ size || decide (off + (ρ' p.2).cells.size > ds.size)) = true := by rw [← hv.1, ← h.1]; exact hc
        rw [if_neg hc']
        exact fill_rel place l _ _ xs (fun q hq => hp q (List.mem_cons_of_mem _ hq)) (foldl_set' hv h off) he
end Go.Proofs.YtjnimfnelacceaaGreatDoor
namespace Go.Proofs.YtjnimfnelacceaaGreatDoor
open Go.RowKit

variable {P : Program} {B G : Nat} {w0 : World} {α β γ δ : Type} {L : Lie} {c w : World}

theorem Quiet.listMapM {f : α → Sem β} (h : ∀ a, Quiet P (f a)) : ∀ l : List α, Quiet P (l.mapM f)
  | [] => by rw [List.mapM_nil]; exact .pure _
  | a :: l => by
    rw [List.mapM_cons]
    exact .bind (h a) fun b => .bind (Quiet.listMapM h l) fun bs => .pure _
theorem Quiet.arrayMapM {f : α → Sem β} (h : ∀ a, Quiet P (f a)) (l : Array α) : Quiet P (l.mapM f) := by
  rw [Array.mapM_eq_mapM_toList]
  rw [← bind_pure_comp]
  exact .bind (Quiet.listMapM h _) fun bs => .pure _
theorem toList_parts (parts : Array (Nat × Operand)) (ρ : Operand → Value) : (parts.map fun (i, x) => (i, ρ x)).toList = parts.toList.map fun p => (p.1, ρ p.2) := by simp
theorem Sims.build (h : Sim P B G w0 L c w) (t : TypeId) (hz : zf P t = true) {ρ ρ' : Operand → Value} (parts : Array (Nat × Operand)) (hp : ∀ p ∈ parts.toList, VR P L (ρ p.2) (ρ' p.2)) :
    Sims P B G w0 (VR P) L c w (Instr.build t (parts.map fun (i, x) => (i, ρ x))) (Instr.build t (parts.map fun (i, x) => (i, ρ' x))) := by
  unfold Instr.build
  rw [toList_parts, toList_parts]
  refine Sims.bind (Sims.quiet h (.zeroValue t)) fun M c1 w1 z z' hle h1 ha => ?_
  obtain ⟨rfl, hzz⟩ := ha
  have hf := zf_spec hz c1 (hzz c1)
  dsimp only
  refine Sims.bind (Sims.quiet h1 (.underlying t)) fun N c2 w2 d d' hle2 h2 hd => ?_
  obtain ⟨rfl, _⟩ := hd
  have hpm : ∀ p ∈ parts.toList, VR P N (ρ p.2) (ρ' p.2) := fun p hpp => ((hp p hpp).mono hle).mono hle2
  split
  · refine Sims.bind (Sims.quiet h2 (Quiet.arrayMapM (fun f => .bind (.sizeOf _) fun _ => .pure _) _)) fun N3 c3 w3 pl pl' hle3 h3 hpl => ?_
    obtain ⟨rfl, _⟩ := hpl
    split
    · rename_i xs hxs
      obtain ⟨us, hus, hr⟩ := fill_rel (L := N3) _ parts.toList _ _ xs (fun p hpp => (hpm p hpp).mono hle3) (.flat hf) hxs
      rw [hus]
      exact Sims.pure h3 (.agg xs us hr.1 hr.2)
    · exact Sims.never fun x => ⟨_, _, rfl⟩
  · refine Sims.bind (Sims.quiet h2 (.sizeOf _)) fun N3 c3 w3 pl pl' hle3 h3 hpl => ?_
    obtain ⟨rfl, _⟩ := hpl
    split
    · rename_i xs hxs
      obtain ⟨us, hus, hr⟩ := fill_rel (L := N3) _ parts.toList _ _ xs (fun p hpp => (hpm p hpp).mono hle3) (.flat hf) hxs
      rw [hus]
      exact Sims.pure h3 (.agg xs us hr.1 hr.2)
    · exact Sims.never fun x => ⟨_, _, rfl⟩
  · exact Sims.never fun x => ⟨_, _, rfl⟩
theorem flat_range {z : Array Value} (h : z.all flat1 = true) (n : Nat) : ((Array.range n).map (z[· % z.size]!)).all flat1 = true := by
  rw [Array.all_eq_true]
  intro i hi
  simp only [Array.size_map, Array.size_range] at hi
  simp only [Array.getElem_map, Array.getElem_range]
  by_cases hz : z.size = 0
  · rw [getElem!_neg z _ (by omega)]; rfl
  · have hlt : i % z.size < z.size := Nat.mod_lt _ (by omega)
    rw [getElem!_pos z _ hlt]
    rw [Array.all_eq_true] at h
    exact h _ hlt
theorem Sims.zeros (h : Sim P B G w0 L c w) (e : TypeId) (n : Nat) (hz : zf P e = true) :
    Sims P B G w0 (fun _ z z' => z' = z ∧ z.all flat1 = true) L c w (if n = 0 then Pure.pure #[] else do Pure.pure (← zeroValue e).cells) (if n = 0 then Pure.pure #[] else do Pure.pure (← zeroValue e).cells) := by
  split
  · exact Sims.pure h ⟨rfl, by simp⟩
  · refine Sims.bind (Sims.quiet h (.zeroValue e)) fun M c1 w1 z z' hle h1 ha => ?_
    obtain ⟨rfl, hzz⟩ := ha
    exact Sims.pure h1 ⟨rfl, zf_spec hz c1 (hzz c1)⟩
/-- The type of a slice's elements. -/
def elemOk (P : Program) (t : TypeId) : Bool := match P.underlying t with
  | some (.slice e) => zf P e
  | _ => false
theorem run_underlying_eq {t : TypeId} {d : TypeDesc} {c : World} (h : (underlying t).run P c = .ok d c) : P.underlying t = some d := by
  unfold Go.underlying at h
  simp only [Sem.run_bind, Go.program, Sem.run, Result.andThen_ok] at h
  split at h
  · rename_i d' hd
    injection h with e1 e2
    rw [hd, e1]
  · cases h
theorem elemOk_spec {t : TypeId} {e : TypeId} {c : World} (h : elemOk P t = true) (hu : (underlying t).run P c = .ok (.slice e) c) : zf P e = true := by
  unfold elemOk at h
  rw [run_underlying_eq hu] at h
  exact h
theorem Sims.buildSlice (h : Sim P B G w0 L c w) (t : TypeId) (len : Nat) (hz : elemOk P t = true) {ρ ρ' : Operand → Value} (parts : Array (Nat × Operand)) (hp : ∀ p ∈ parts.toList, VR P L (ρ p.2) (ρ' p.2)) :
    Sims P B G w0 (VR P) L c w (Instr.buildSlice t len (parts.map fun (i, x) => (i, ρ x))) (Instr.buildSlice t len (parts.map fun (i, x) => (i, ρ' x))) := by
  unfold Instr.buildSlice
  rw [toList_parts, toList_parts]
  refine Sims.bind (Sims.quiet h (.underlying t)) fun M c1 w1 d d' hle h1 ha => ?_
  obtain ⟨rfl, hd⟩ := ha
  split
  · rename_i elem
    have hze := elemOk_spec hz (hd c1)
    refine Sims.bind (Sims.quiet h1 (.sizeOf _)) fun N c2 w2 n n' hle2 h2 hn => ?_
    obtain ⟨rfl, _⟩ := hn
    dsimp only
    split
    · exact Sims.never fun x => ⟨_, _, rfl⟩
    · have K : ∀ (N3 : Lie) (c3 w3 : World) (z : Array Value), N.le N3 → Sim P B G w0 N3 c3 w3 → z.all flat1 = true → Sims P B G w0 (VR P) N3 c3 w3
          (match Instr.fill (fun i => some (i * n', n')) ((Array.range (len * n')).map (z[· % z.size]!)) (parts.toList.map fun p => (p.1, ρ p.2)) with
            | some cells => do Pure.pure (Value.slice (some (← Go.newRow elem cells)) len len)
            | _ => stuck "buildSlice: a part of the wrong size")
          (match Instr.fill (fun i => some (i * n', n')) ((Array.range (len * n')).map (z[· % z.size]!)) (parts.toList.map fun p => (p.1, ρ' p.2)) with
            | some cells => do Pure.pure (Value.slice (some (← Go.newRow elem cells)) len len)
            | _ => stuck "buildSlice: a part of the wrong size") := by
        intro N3 c3 w3 z hle3 h3 hf
        split
        · rename_i xs hxs
          obtain ⟨us, hus, hr⟩ := fill_rel (L := N3) _ parts.toList _ _ xs (fun p hpp => (((hp p hpp).mono hle).mono hle2).mono hle3) (.flat (flat_range hf _)) hxs
          rw [hus]
          refine Sims.bind (Sims.newRow h3 elem hr) fun N4 c4 w4 a a' hle4 h4 ha => ?_
          obtain ⟨b, rfl, rfl, hb, _⟩ := ha
          exact Sims.pure h4 (.slice b 0 len len len hb (.inl rfl))
        · exact Sims.never fun x => ⟨_, _, rfl⟩
      split
      · exact K N c2 w2 #[] (Lie.le_refl _) h2 (by simp)
      · refine Sims.bind (Sims.quiet h2 (.zeroValue _)) fun N3 c3 w3 z z' hle3 h3 ha => ?_
        obtain ⟨rfl, hzz⟩ := ha
        exact K N3 c3 w3 _ hle3 h3 (zf_spec hze c3 (hzz c3))
  · exact Sims.never fun x => ⟨_, _, rfl⟩
theorem Quiet.askRoom (n : Nat) : Quiet P (askRoom n) := by
  unfold Go.askRoom
  split
  · exact .inl ⟨(), fun _ => rfl⟩
  · exact .pure _
theorem Quiet.asInt (v : Value) : Quiet P (asInt v) := by
  unfold Go.asInt Go.asIntOf
  split
  · exact .bind (.pure _) fun _ => .pure _
  · exact .bind (.halt _) fun _ => .pure _
  · exact .bind (.halt _) fun _ => .pure _
theorem Sims.makeSlice (h : Sim P B G w0 L c w) (t : TypeId) (hz : elemOk P t = true) (l k : Value) : Sims P B G w0 (VR P) L c w (Instr.makeSlice t l k) (Instr.makeSlice t l k) := by
  unfold Instr.makeSlice
  refine Sims.bind (Sims.quiet h (.underlying t)) fun M c1 w1 d d' hle h1 ha => ?_
  obtain ⟨rfl, hd⟩ := ha
  split
  · rename_i elem
    have hze := elemOk_spec hz (hd c1)
    refine Sims.bind (Sims.quiet h1 (.asInt _)) fun N c2 w2 n n' hle2 h2 hn => ?_
    obtain ⟨rfl, _⟩ := hn
    refine Sims.bind (Sims.quiet h2 (.asInt _)) fun N c2 w2 n n' hle2 h2 hn => ?_
    obtain ⟨rfl, _⟩ := hn
    refine Sims.bind (Sims.quiet h2 (.typeInfo _)) fun N c2 w2 n n' hle2 h2 hn => ?_
    obtain ⟨rfl, _⟩ := hn
    dsimp only
    split
    · split
      · exact Sims.never fun x => ⟨_, _, rfl⟩
      · split
        · exact Sims.never fun x => ⟨_, _, rfl⟩
        · exact Sims.never fun x => ⟨_, _, rfl⟩
    · refine Sims.bind (Sims.quiet h2 (.askRoom _)) fun N c2 w2 n n' hle2 h2 hn => ?_
      refine Sims.bind (Sims.quiet h2 (.sizeOf _)) fun N c2 w2 n n' hle2 h2 hn => ?_
      obtain ⟨rfl, _⟩ := hn
      have K : ∀ (N3 : Lie) (c3 w3 : World) (z : Array Value) (k j i : Nat), Sim P B G w0 N3 c3 w3 → z.all flat1 = true → Sims P B G w0 (VR P) N3 c3 w3
          (do Pure.pure (Value.slice (some (← Go.newRow elem ((Array.range k).map (z[· % z.size]!)))) j i)) (do Pure.pure (Value.slice (some (← Go.newRow elem ((Array.range k).map (z[· % z.size]!)))) j i)) := by
        intro N3 c3 w3 z k j i h3 hf
        refine Sims.bind (Sims.newRow h3 elem (.flat (flat_range hf _))) fun N4 c4 w4 a a' hle4 h4 ha => ?_
        obtain ⟨b, rfl, rfl, hb, _⟩ := ha
        exact Sims.pure h4 (.slice b 0 _ _ _ hb (.inl rfl))
      split
      · exact K _ _ _ #[] _ _ _ h2 (by simp)
      · refine Sims.bind (Sims.quiet h2 (.zeroValue _)) fun N3 c3 w3 z z' hle3 h3 ha => ?_
        obtain ⟨rfl, hzz⟩ := ha
        exact K _ _ _ _ _ _ _ h3 (zf_spec hze c3 (hzz c3))
  · exact Sims.never fun x => ⟨_, _, rfl⟩
theorem Sims.makeInterface (h : Sim P B G w0 L c w) (t : TypeId) {v v' : Value} (hv : VR P L v v') : Sims P B G w0 (VR P) L c w (Instr.makeInterface t v) (Instr.makeInterface t v') := by
  unfold Instr.makeInterface
  refine Sims.bind (Sims.quiet h (.underlying t)) fun N c2 w2 d d' hle2 h2 hd => ?_
  obtain ⟨rfl, _⟩ := hd
  split
  · exact Sims.never fun x => ⟨_, _, rfl⟩
  · exact Sims.pure h2 (.iface t _ _ (hv.mono hle2))
theorem AR.map {ρ ρ' : Operand → Value} (xs : Array Operand) (h : ∀ x ∈ xs.toList, VR P L (ρ x) (ρ' x)) : AR P L (xs.map ρ) (xs.map ρ') := by
  refine ⟨by simp, fun i hi => ?_⟩
  simp only [Array.size_map] at hi
  have e1 : (xs.map ρ).getD i undef = ρ xs[i] := by simp [Array.getD, hi]
  have e2 : (xs.map ρ').getD i undef = ρ' xs[i] := by simp [Array.getD, hi]
  rw [e1, e2]
  exact h _ (Array.mem_toList_iff.2 (Array.getElem_mem hi))
theorem Sims.makeFunc (h : Sim P B G w0 L c w) (fn : Fn) {ρ ρ' : Operand → Value} (xs ys : Array Operand) (hx : ∀ x ∈ xs.toList, VR P L (ρ x) (ρ' x)) (hy : ∀ x ∈ ys.toList, VR P L (ρ x) (ρ' x)) :
    Sims P B G w0 (VR P) L c w (Instr.makeFunc fn (xs.map ρ) (ys.map ρ)) (Instr.makeFunc fn (xs.map ρ') (ys.map ρ')) := by
  have h1 := AR.map xs hx
  have h2 := AR.map ys hy
  exact Sims.pure h (.func fn _ _ _ _ h1.1 h2.1 h1.2 h2.2)
theorem Sims.makeMap (h : Sim P B G w0 L c w) (t : TypeId) : Sims P B G w0 (VR P) L c w (Instr.makeMap t none) (Instr.makeMap t none) := by
  intro a c1 hr
  have hc : (Instr.makeMap t none).run P c = Result.ok (.map (some c.heap.size)) { c with heap := c.heap.push (.map #[] 0) } := rfl
  rw [hc] at hr
  injection hr with h1 h2
  subst h1 h2
  refine ⟨L.grow w (.map #[] 0), { w with heap := w.heap.push (.map #[] 0) }, .map (some w.heap.size), rfl, Lie.le_grow h _, h.new (.inl ⟨rfl, rfl, fun i x y hx => by simp at hx⟩) rfl, ?_⟩
  have e : VR P (L.grow w (.map #[] 0)) (.map (some L.n)) (.map (some ((L.grow w (.map #[] 0)).at_ L.n))) := .map _ (Nat.lt_succ_self _)
  have e2 : (L.grow w (.map #[] 0)).at_ L.n = w.heap.size := by show (if L.n = L.n then _ else _) = _; rw [if_pos rfl]
  rw [e2, h.n] at e
  exact e
theorem AR.extract {xs us : Array Value} (h : AR P L xs us) (i j : Nat) : AR P L (xs.extract i j) (us.extract i j) := by
  refine ⟨by simp [h.1], fun k hk => ?_⟩
  simp only [Array.size_extract] at hk
  have hk2 : k < min j us.size - i := by rw [← h.1]; exact hk
  have e1 : (xs.extract i j).getD k undef = xs.getD (i + k) undef := by simp [Array.getD, hk, show i + k < xs.size by omega]
  have e2 : (us.extract i j).getD k undef = us.getD (i + k) undef := by simp [Array.getD, hk2, show i + k < us.size by omega]
  rw [e1, e2]
  exact h.2 _ (by omega)
theorem Sims.part (h : Sim P B G w0 L c w) (t : TypeId) {xs us : Array Value} (hx : AR P L xs us) (off : Nat) : Sims P B G w0 (VR P) L c w (part t xs off) (part t us off) := by
  unfold Go.part
  refine Sims.bind (Sims.quiet h (.isAgg t)) fun M c1 w1 d d' hle h1 hd => ?_
  obtain ⟨rfl, _⟩ := hd
  have hx1 := hx.mono hle
  split
  · refine Sims.bind (Sims.quiet h1 (.sizeOf t)) fun N c2 w2 d d' hle2 h2 hd => ?_
    obtain ⟨rfl, _⟩ := hd
    have := (hx1.mono hle2).extract off (off + d')
    exact Sims.pure h2 (.agg _ _ this.1 this.2)
  · split
    · rename_i v hv
      obtain ⟨hi, he⟩ := getD_of_getElem? hv
      have hu : us[off]? = some (us.getD off undef) := getElem?_of_getD (by rw [← hx.1]; exact hi)
      rw [hu]
      refine Sims.pure h1 ?_
      rw [← he]; exact hx1.2 off hi
    · exact Sims.never fun x => ⟨_, _, rfl⟩
theorem Sims.field (h : Sim P B G w0 L c w) (t : TypeId) {v v' : Value} (hv : VR P L v v') (f : Nat) : Sims P B G w0 (VR P) L c w (Instr.field t v f) (Instr.field t v' f) := by
  unfold Instr.field
  refine Sims.bind (Sims.quiet h (.underlying t)) fun M c1 w1 d d' hle h1 hd => ?_
  obtain ⟨rfl, _⟩ := hd
  split
  · split
    · cases hv with
      | agg xs us hs hg => exact Sims.bind (Sims.pure (R := AR P) h1 ((show AR P L xs us from ⟨hs, hg⟩).mono hle)) fun N c2 w2 a a' hle2 h2 ha => Sims.part h2 _ ha _
      | _ => exact Sims.never fun x => ⟨_, _, rfl⟩
    · exact Sims.never fun x => ⟨_, _, rfl⟩
  · exact Sims.never fun x => ⟨_, _, rfl⟩
theorem Sims.extract (h : Sim P B G w0 L c w) {v v' : Value} (hv : VR P L v v') (i : Nat) : Sims P B G w0 (VR P) L c w (Instr.extract v i) (Instr.extract v' i) := by
  unfold Instr.extract
  cases hv with
  | tuple xs us hs hg =>
    simp only
    split
    · rename_i x hx
      obtain ⟨hi, he⟩ := getD_of_getElem? hx
      have hu : us[i]? = some (us.getD i undef) := getElem?_of_getD (by rw [← hs]; exact hi)
      rw [hu]
      refine Sims.pure h ?_
      rw [← he]; exact hg i hi
    · exact Sims.never fun x => ⟨_, _, rfl⟩
  | _ => exact Sims.never fun x => ⟨_, _, rfl⟩

/-! ### Addresses of parts -/
theorem Sims.fieldAt (h : Sim P B G w0 L c w) (t : TypeId) {v v' : Value} (hv : VR P L v v') (f : Nat) (hz : ∀ fs x, P.underlying t = some (.struct fs) → fs[f]? = some x → P.cellsOf x.type ≠ 0) :
    Sims P B G w0 (VR P) L c w (Instr.fieldAt t v f) (Instr.fieldAt t v' f) := by
  unfold Instr.fieldAt
  refine Sims.bind (Sims.quiet h (.underlying t)) fun M c1 w1 d d' hle h1 ha => ?_
  obtain ⟨rfl, hd⟩ := ha
  split
  · rename_i fs
    split
    · rename_i x hx
      have hne := hz fs x (run_underlying_eq (hd c1)) hx
      refine Sims.bind (Sims.sureAddr h1 (hv.mono hle)) fun N c2 w2 a a' hle2 h2 ha => ?_
      obtain ⟨ha, _⟩ := ha
      unfold Go.fieldPlace
      refine Sims.bind (R := fun M a a' => RA M a a') (Sims.bind (Sims.quiet h2 (.sizeOf _)) fun N3 c3 w3 n n' hle3 h3 hn => ?_) fun N4 c4 w4 a a' hle4 h4 ha => Sims.pure h4 ha.vr
      obtain ⟨rfl, hn⟩ := hn
      have hne2 : ¬ n' = 0 := by
        intro h0
        apply hne
        have := hn c3
        unfold Go.sizeOf Go.typeInfo at this
        simp only [Sem.run_bind, Go.program, Sem.run, Result.andThen_ok] at this
        unfold Program.cellsOf
        cases hi : P.info? x.type with
        | none => rfl
        | some i =>
          rw [hi] at this
          simp only [Sem.run_pure, Result.andThen_ok] at this
          injection this with e1 e2
          simp [e1, h0]
      rw [if_neg hne2, if_neg hne2]
      exact Sims.pure h3 ((ha.mono hle3).add _)
    · exact Sims.never fun x => ⟨_, _, rfl⟩
  · exact Sims.never fun x => ⟨_, _, rfl⟩
theorem never_bounds {e' : Sem β} {R : Lie → α → β → Prop} (k : IntKind) (x y : Int) (code : BoundsCode) : Sims P B G w0 R L c w (boundsPanic k x y code : Sem α) e' := by
  refine Sims.never fun z => ?_
  unfold boundsPanic
  split
  · exact ⟨_, _, rfl⟩
  · exact ⟨_, _, rfl⟩
theorem Sims.iteL {R : Lie → α → β → Prop} {p : Prop} [Decidable p] {e1 e2 : Sem α} {e' : Sem β} (h1 : Sims P B G w0 R L c w e1 e') (h2 : Sims P B G w0 R L c w e2 e') : Sims P B G w0 R L c w (if p then e1 else e2) e' := by
  split <;> assumption
theorem Sims.indexAt (h : Sim P B G w0 L c w) (t : TypeId) {v v' x x' : Value} (hv : VR P L v v') (hx : VR P L x x') : Sims P B G w0 (VR P) L c w (Instr.indexAt t v x) (Instr.indexAt t v' x') := by
  unfold Instr.indexAt
  cases hx with
  | int k i =>
    refine Sims.bind (Sims.pure (R := fun _ a a' => a = (k, i) ∧ a' = (k, i)) h ⟨rfl, rfl⟩) fun M c1 w1 a a' hle h1 ha => ?_
    obtain ⟨rfl, rfl⟩ := ha
    dsimp only
    refine Sims.bind (Sims.quiet h1 (.underlying t)) fun N c2 w2 d d' hle2 h2 ha => ?_
    obtain ⟨rfl, hd⟩ := ha
    have hv2 := (hv.mono hle).mono hle2
    cases d' with
    | slice elem =>
      cases hv2 with
      | slice b o l k1 k2 hb hc =>
        dsimp only
        refine Sims.bind (Sims.pure (R := fun _ a a' => a = (some ⟨b, o, none⟩, l, elem) ∧ a' = (some ⟨N.at_ b, o, none⟩, l, elem)) h2 ⟨rfl, rfl⟩) fun N3 c3 w3 a a' hle3 h3 ha => ?_
        obtain ⟨rfl, rfl⟩ := ha
        dsimp only
        refine Sims.bind (Sims.quiet h3 (.underlying t)) fun N4 c4 w4 d d' hle4 h4 ha => ?_
        obtain ⟨rfl, _⟩ := ha
        split
        · refine Sims.bind (Sims.quiet h4 (.sizeOf _)) fun N5 c5 w5 n n' hle5 h5 hn => ?_
          obtain ⟨rfl, _⟩ := hn
          refine Sims.pure h5 (RA.vr (RA.add ⟨b, o, rfl, ?_, ?_⟩ _))
          · rw [(Lie.le_trans hle3 (Lie.le_trans hle4 hle5)).2.1 b hb]
          · exact Nat.lt_of_lt_of_le hb (Lie.le_trans hle3 (Lie.le_trans hle4 hle5)).1
        · exact Sims.iteL (Sims.never fun x => ⟨_, _, rfl⟩) (never_bounds _ _ _ _)
      | nilS l k1 =>
        dsimp only
        refine Sims.bind (Sims.pure (R := fun _ a a' => a = (none, l, elem) ∧ a' = (none, l, elem)) h2 ⟨rfl, rfl⟩) fun N3 c3 w3 a a' hle3 h3 ha => ?_
        obtain ⟨rfl, rfl⟩ := ha
        dsimp only
        refine Sims.bind (Sims.quiet h3 (.underlying t)) fun N4 c4 w4 d d' hle4 h4 ha => ?_
        exact never_bounds _ _ _ _
      | _ => exact Sims.never fun x => ⟨_, _, rfl⟩
    | array len elem =>
      dsimp only
      refine Sims.bind (Sims.sureAddr h2 hv2) fun N3 c3 w3 a a' hle3 h3 ha => ?_
      obtain ⟨ha, _⟩ := ha
      refine Sims.bind (Sims.pure (R := fun M x y => x = (some a, len, elem) ∧ y = (some a', len, elem)) h3 ⟨rfl, rfl⟩) fun N4 c4 w4 x y hle4 h4 hxy => ?_
      obtain ⟨rfl, rfl⟩ := hxy
      dsimp only
      refine Sims.bind (Sims.quiet h4 (.underlying t)) fun N5 c5 w5 d d' hle5 h5 hd => ?_
      obtain ⟨rfl, _⟩ := hd
      split
      · refine Sims.bind (Sims.quiet h5 (.sizeOf _)) fun N6 c6 w6 n n' hle6 h6 hn => ?_
        obtain ⟨rfl, _⟩ := hn
        exact Sims.pure h6 (RA.vr (((ha.mono hle4).mono hle5).mono hle6 |>.add _))
      · exact Sims.iteL (Sims.never fun x => ⟨_, _, rfl⟩) (never_bounds _ _ _ _)
    | _ => exact Sims.never fun x => ⟨_, _, rfl⟩
  | _ => exact Sims.never fun x => ⟨_, _, rfl⟩
end Go.Proofs.YtjnimfnelacceaaGreatDoor
namespace Go.Proofs.YtjnimfnelacceaaGreatDoor
open Go.RowKit

variable {P : Program} {B G : Nat} {w0 : World} {α β γ δ : Type} {L : Lie} {c w : World}

theorem run_underlying_of {t : TypeId} {d : TypeDesc} (h : P.underlying t = some d) (w : World) : (underlying t).run P w = .ok d w := run_underlying h w
theorem run_sizeOf_of {t : TypeId} {n : Nat} (h : (P.info? t).map (·.size) = some n) (w : World) : (Go.sizeOf t).run P w = .ok n w := by
  unfold Go.sizeOf Go.typeInfo
  simp only [Sem.run_bind, Go.program, Sem.run, Result.andThen_ok]
  cases hi : P.info? t with
  | none => rw [hi] at h; cases h
  | some i =>
    rw [hi] at h
    injection h with h
    simp [hi, h]
theorem cellsOf_of {t : TypeId} {n : Nat} (h : (P.info? t).map (·.size) = some n) : P.cellsOf t = n := by
  unfold Program.cellsOf; rw [h]; rfl

/-! ### Part of a slice -/
/-- The blocks behind a slice are of its elements' size. -/
def rowOk (P : Program) (elem : TypeId) (c : World) (b : Nat) : Bool := match c.heap[b]? with
  | some (.cells _ e _) => P.cellsOf e == P.cellsOf elem
  | _ => false
/-- A slice from its l-th element on. -/
def sliceC (P : Program) (t : TypeId) (x : Value) (low : Value) (c : World) : Option Value :=
  match P.underlying t, x, low with
  | some (.slice elem), .slice (some a) len cap, .int _ i =>
    (match (P.info? elem).map (·.size) with
    | some n => if 0 ≤ i ∧ i ≤ len ∧ i.toNat < cap ∧ a.spot = none ∧ rowOk P elem c a.block = true then some (.slice (some ⟨a.block, a.off + i.toNat * n, none⟩) (len - i.toNat) (cap - i.toNat)) else none
    | none => none)
  | _, _, _ => none
theorem sliceC_spec (h : Sim P B G w0 L c w) {t : TypeId} {x x' low low' v : Value} (hx : VR P L x x') (hl : VR P L low low') (he : sliceC P t x low c = some v) :
    ∃ v', (Instr.sliceAt t x' (some low') none none).run P w = .ok v' w ∧ VR P L v v' := by
  unfold sliceC at he
  split at he
  · rename_i elem a len cap k i hu
    split at he
    · rename_i n hn
      split at he
      · rename_i hc
        obtain ⟨h0, hlen, hcap, hsp, hrow⟩ := hc
        injection he with he
        subst he
        cases hl with
        | int k i =>
          cases hx with
          | slice b o l cp cp' hb hcc =>
            have hcp : cap ≤ cp' := by rcases hcc with rfl | ⟨h1, _⟩ <;> omega
            refine ⟨.slice (some ⟨L.at_ b, o + i.toNat * n, none⟩) (len - i.toNat) (cp' - i.toNat), ?_, ?_⟩
            · unfold Instr.sliceAt
              simp only [Sem.run_bind, run_underlying_of hu, Result.andThen_ok]
              unfold Instr.slice
              simp only [Sem.run_bind, run_underlying_of hu, Result.andThen_ok]
              unfold Instr.sliceBounds Instr.sliceBound
              simp only [asIntOf, bind_pure_comp, pure_bind, map_pure]
              rw [if_pos ⟨h0, hlen⟩]
              simp only [Sem.run_bind, Sem.run_pure, Result.andThen_ok, pure_bind, run_sizeOf_of hn, Sem.run_map, Option.map_some]
              rw [if_neg (by omega)]
              simp only [Option.map_some, add_none]
            · refine .slice b _ _ _ _ hb ?_
              rcases hcc with rfl | ⟨h1, e, m, hs, hm⟩
              · exact .inl rfl
              · refine .inr ⟨by omega, e, m, hs, ?_⟩
                -- the block's elements are of the size n
                unfold rowOk at hrow
                dsimp only at hrow
                split at hrow
                · rename_i xs e' fz hh
                  obtain ⟨_, us, hw, _, _, _⟩ := h.cells hh
                  have : L.sh (L.at_ b) = some (e', us.size) := by rw [h.sh]; unfold World.shape?; simp only [hw]
                  rw [hs] at this
                  injection this with this
                  injection this with e1 e2
                  rw [beq_iff_eq, ← e1, cellsOf_of hn] at hrow
                  rw [hrow] at hm ⊢
                  have : i.toNat * n + (cp' - i.toNat) * n = cp' * n := by rw [← Nat.add_mul]; congr 1; omega
                  show o + i.toNat * n + (cp' - i.toNat) * n ≤ m
                  omega
                · cases hrow
      · cases he
    · cases he
  · cases he

/-! ### Lengths -/
def lenC (P : Program) (t : TypeId) (x : Value) : Option Value :=
  match P.underlying t, x with
  | some .string, .string s => some (goInt s.data.toList.length)
  | some (.slice _), .slice _ n _ => some (goInt n)
  | _, _ => none
theorem lenC_spec {t ty : TypeId} {x x' v : Value} (hx : VR P L x x') (he : lenC P t x = some v) (w : World) : (Builtin.len_ #[t] ty #[x']).run P w = .ok v w ∧ VR P L v v := by
  unfold lenC at he
  split at he
  · rename_i s hu
    injection he with he
    subst he
    cases hx
    refine ⟨?_, .int _ _⟩
    unfold Builtin.len_
    simp only [Sem.run_bind, List.getElem?_toArray, List.getElem?_cons_zero, run_underlying_of hu, Result.andThen_ok, Sem.run_pure]
    rw [show s.data.toList.length = s.size from by simp]
  · rename_i e a n k hu
    injection he with he
    subst he
    refine ⟨?_, .int _ _⟩
    unfold Builtin.len_
    cases hx <;> simp only [Sem.run_bind, List.getElem?_toArray, List.getElem?_cons_zero, run_underlying_of hu, Result.andThen_ok, Sem.run_pure]
  · cases he
def maxC : Value → Value → Option Value
  | .int k x, .int _ y => some (.int k (if y > x then y else x))
  | _, _ => none
theorem maxC_spec {ts : Array TypeId} {ty : TypeId} {x x' y y' v : Value} (hx : VR P L x x') (hy : VR P L y y') (he : maxC x y = some v) (w : World) : (Builtin.max_ ts ty #[x', y']).run P w = .ok v w ∧ VR P L v v := by
  unfold maxC at he
  split at he
  · injection he with he
    subst he
    cases hx; cases hy
    refine ⟨?_, .int _ _⟩
    unfold Builtin.max_
    simp [Builtin.max2]
  · cases he

/-! ### Binary operations -/
def strC (op : BinOp) (a b : List UInt8) : Option Value :=
  match op with
  | .add => if a.length + b.length ≤ 1000000 then some (.string ⟨⟨a ++ b⟩⟩) else none
  | .eql => some (.bool (a == b))
  | .neq => some (.bool (!(a == b)))
  | _ => none
def intC (op : BinOp) (k : IntKind) (a b : Int) : Option Value :=
  match op with
  | .add => some (.int k (k.wrap (a + b)))
  | .sub => some (.int k (k.wrap (a - b)))
  | .eql => some (.bool (a == b))
  | .neq => some (.bool (a != b))
  | .lss => some (.bool (a < b))
  | .leq => some (.bool (a ≤ b))
  | .gtr => some (.bool (a > b))
  | .geq => some (.bool (a ≥ b))
  | _ => none
def nilC (P : Program) (t : TypeId) (x y : Value) : Option Bool :=
  match P.underlying t, x, y with
  | some (.pointer _), .pointer a, .pointer none => some a.isNone
  | some (.slice _), .slice a _ _, .slice none _ _ => some a.isNone
  | some (.func _ _ _), .func _ _ _, .nilFunc => some false
  | some (.func _ _ _), .nilFunc, .nilFunc => some true
  | _, _, _ => none
def binC (P : Program) (op : BinOp) (t : TypeId) (x y : Value) : Option Value :=
  match x, y with
  | .int k a, .int k' b => if k = k' then intC op k a b else none
  | .string a, .string b => strC op a.data.toList b.data.toList
  | x, y => match op with
    | .eql => (nilC P t x y).map .bool
    | .neq => (nilC P t x y).map fun b => .bool (!b)
    | _ => none
theorem bytes_append (a b : ByteArray) : (⟨⟨a.data.toList ++ b.data.toList⟩⟩ : ByteArray) = a ++ b := by
  apply ByteArray.ext
  simp
theorem nilC_spec {t : TypeId} {x y x' y' : Value} {r : Bool} (hx : VR P L x x') (hy : VR P L y y') (he : nilC P t x y = some r) (w : World) : (Op.equal t x' y').run P w = .ok r w := by
  suffices key : ∀ d, (Op.equalIn (d + 1) t x' y').run P w = .ok r w from key 9999
  intro d
  unfold nilC at he
  split at he
  · rename_i e a hu
    injection he with he
    subst he
    cases hy
    cases hx <;> simp only [Op.equalIn, Sem.run_bind, run_underlying_of hu, Result.andThen_ok, Sem.run_pure] <;> rfl
  · rename_i e a l k l2 k2 hu
    injection he with he
    subst he
    cases hy
    cases hx <;> simp only [Op.equalIn, Sem.run_bind, run_underlying_of hu, Result.andThen_ok, Sem.run_pure] <;> rfl
  · rename_i hu
    injection he with he
    subst he
    cases hy
    cases hx
    simp only [Op.equalIn, Sem.run_bind, run_underlying_of hu, Result.andThen_ok, Sem.run_pure]
  · rename_i hu
    injection he with he
    subst he
    cases hy
    cases hx
    simp only [Op.equalIn, Sem.run_bind, run_underlying_of hu, Result.andThen_ok, Sem.run_pure]
  · cases he
theorem binC_spec {op : BinOp} {t : TypeId} {x y x' y' v : Value} {xo yo : Operand} (hx : VR P L x x') (hy : VR P L y y') (he : binC P op t x y = some v) (w : World) :
    (do eqGuard op t xo yo x' y'; binOp op t x' y' : Sem Value).run P w = .ok v w ∧ VR P L v v := by
  unfold binC at he
  split at he
  · rename_i k a k' b
    cases hx; cases hy
    split at he
    · rename_i hk
      subst hk
      unfold intC at he
      split at he <;> first | cases he | skip
      all_goals (refine ⟨?_, by first | exact .int _ _ | exact .bool _⟩; simp [eqGuard, binOp, Op.intArith, Op.intCmp])
    · cases he
  · rename_i a b
    cases hx; cases hy
    unfold strC at he
    split at he <;> first | cases he | skip
    · split at he
      · rename_i hlt
        injection he with he
        subst he
        refine ⟨?_, .string _⟩
        rw [bytes_append]
        have h1 : a.data.toList.length = a.size := by simp
        have h2 : b.data.toList.length = b.size := by simp
        have : ¬ ((a.size + b.size : Nat) : Int) > IntKind.i64.max := by
          have : IntKind.i64.max = 9223372036854775807 := by decide
          rw [this]; omega
        simp only [eqGuard, binOp, Op.stringOp, Sem.run_bind]
        simp only [if_neg this]
        simp
      · cases he
    all_goals (refine ⟨?_, .bool _⟩; simp [eqGuard, binOp, Op.stringOp, Lib.toList_data])
  · have hg : ∀ b, nilC P t x y = some b → (eqGuard op t xo yo x' y').run P w = .ok () w := by
      intro b hb
      unfold nilC at hb
      split at hb <;> first | cases hb | skip
      all_goals (cases hx <;> cases hy <;> simp [eqGuard])
    have hb : ∀ b, nilC P t x y = some b → (op = .eql → (binOp op t x' y').run P w = .ok (.bool b) w) ∧ (op = .neq → (binOp op t x' y').run P w = .ok (.bool (!b)) w) := by
      intro b hb
      have hq := nilC_spec hx hy hb w
      unfold nilC at hb
      split at hb <;> first | cases hb | skip
      all_goals (cases hx <;> cases hy <;> refine ⟨?_, ?_⟩ <;> rintro rfl <;> simp [binOp, hq])
    split at he
    · cases hn : nilC P t x y with
      | none => rw [hn] at he; cases he
      | some b =>
        rw [hn] at he
        injection he with he
        subst he
        refine ⟨?_, .bool _⟩
        rw [Sem.run_bind, hg b hn]
        exact (hb b hn).1 rfl
    · cases hn : nilC P t x y with
      | none => rw [hn] at he; cases he
      | some b =>
        rw [hn] at he
        injection he with he
        subst he
        refine ⟨?_, .bool _⟩
        rw [Sem.run_bind, hg b hn]
        exact (hb b hn).2 rfl
    · cases he
end Go.Proofs.YtjnimfnelacceaaGreatDoor
