/- The pieces of a text, collected: one round of the loop. The pieces of a text, collected: the iterator. The pieces of a text, collected: the iterator, walked. -/
import Derived.Test.YtjnimfnelacceaaGreatDoorLot07
import Derived.Test.YtjnimfnelacceaaGreatDoorLot08
import Derived.RangeFuncBox
import Derived.RangeFuncLeaves
import Derived.OwnWalkIn
import Derived.TacticsInMore
import Derived.LoopNIn
import Derived.LoopIn
import Derived.Recover
set_option linter.unusedSimpArgs false
set_option linter.unusedVariables false
namespace Go.Proofs.YtjnimfnelacceaaGreatDoor
open Go.RowKit

attribute [local go_sem] Oper.semAt_some

def encPc (x : Pc) : List Value := [.int .i64 x.kind, .int .i64 x.at_, .int .i64 x.len]
def rowPc (l : List Pc) : List Value := l.flatMap encPc
theorem rowPc_snoc (l : List Pc) (x : Pc) : rowPc (l ++ [x]) = rowPc l ++ encPc x := by simp [rowPc]
noncomputable def rfCode : Code → Code × Code
  | .seq _ (.seq _ (.seq _ (.seq (.seq _ (.block _ (.rangeFunc _ _ a b))) _))) => (a, b)
  | _ => (.skip, .skip)
noncomputable def pcAssign : Code := match Tryz.f60.body with | some c => (rfCode c).1 | none => .skip
noncomputable def pcBody : Code := match Tryz.f60.body with | some c => (rfCode c).2 | none => .skip
theorem pcInfo : (Tryz.prog.info? 125).map (fun i => (i.zero, i.size, i.bytes)) = some (some (.agg #[.int .i64 0, .int .i64 0, .int .i64 0]), 3, 24) := by kernel_rfl

/-- The loop's record, between two rounds. -/
noncomputable def pcRec (fn D : Nat) (t : Array Value) : Loop := { state := .ready, pending := none, fn, tmps := t, params := #[16], assign := pcAssign, body := pcBody, defers := D }

theorem size_set1 (w : World) (a : Addr) (v : Value) : (w.setCell a v).heap.size = w.heap.size := by simp [World.setCell]
/-- What a round leaves of the memory. -/
structure KeepR (W W' : World) (l lB : Nat) (v : Value) : Prop where
  size : W.heap.size ≤ W'.heap.size
  os : W'.os = W.os
  tape : W'.tape = W.tape
  output : W'.output = W.output
  block : ∀ j, j < W.heap.size → j ≠ l → j ≠ lB → some j ≠ v.ownBlock → W'.heap[j]? = W.heap[j]?
def RoundEnd (base l lB : Nat) (r : Loop) (v : Value) (k : Nat) (xs ys : List Value) (W : World) (e : Ending) (W' : World) : Prop :=
  e = .returned (.bool true) ∧ ∃ v', Boxed W' lB 121 v' ∧ W'.ownsRow base 125 3 v' (k + 1) (xs ++ ys) ∧ W'.heap[l]? = some (.loop r) ∧ KeepR W W' l lB v

set_option maxRecDepth 100000 in
set_option maxHeartbeats 1000000 in
theorem round_any (m base l lB fn D : Nat) (u0 u1 u3 u4 u5 u6 u7 u8 u9 u10 u11 u12 u13 u14 u15 u16 u17 u18 u19 u20 u21 : Value) (v : Value) (k : Nat) (xs : List Value) (x : Pc) (W : World)
    (hB : Boxed W lB 121 v) (hr : W.ownsRow base 125 3 v k xs) (hb : base ≤ W.heap.size) (hk : k ≤ 1000000)
    (hl : W.heap[l]? = some (.loop (pcRec fn D #[u0, u1, .pointer (some ⟨lB, 0, none⟩), u3, u4, u5, u6, u7, u8, u9, u10, u11, u12, u13, u14, u15, u16, u17, u18, u19, u20, u21]))) :
    YieldAt Fence.wide m Tryz.prog l #[.agg #[.int .i64 x.kind, .int .i64 x.at_, .int .i64 x.len]] W
      (RoundEnd base l lB (pcRec fn D #[u0, u1, .pointer (some ⟨lB, 0, none⟩), u3, u4, u5, u6, u7, u8, u9, u10, u11, u12, u13, u14, u15, u16, u17, u18, u19, u20, u21]) v k xs (encPc x) W) := by
  obtain ⟨i0, hi, hz0, hz1, hz2⟩ := info_parts pcInfo
  refine ⟨_, _, _, _, run_yield hl rfl, roundIn_of_wpIn trivial ?_⟩
  generalize hR : RoundEnd base l lB (pcRec fn D #[u0, u1, .pointer (some ⟨lB, 0, none⟩), u3, u4, u5, u6, u7, u8, u9, u10, u11, u12, u13, u14, u15, u16, u17, u18, u19, u20, u21]) v k xs (encPc x) W = R
  have HR := Lib.hid hR
  clear hR
  obtain ⟨px, hpx⟩ : ∃ px, px = (Value.agg #[.int .i64 x.kind, .int .i64 x.at_, .int .i64 x.len]) := ⟨_, rfl⟩
  rw [← hpx]
  simp only [pcRec, pcAssign, pcBody, Tryz.f60, rfCode, List.zip_toArray, List.zip_cons_cons, List.zip_nil_left, List.zip_nil_right, List.foldl_toArray', List.foldl_cons, List.foldl_nil, List.setIfInBounds_toArray, List.set_cons_succ, List.set_cons_zero]
  subst hpx
  gi_wp2
  have hlt : l < W.heap.size := (Array.getElem?_eq_some_iff.1 hl).1
  obtain ⟨O, hO⟩ : ∃ O, O = Obj.cells #[.int .i64 x.kind, .int .i64 x.at_, .int .i64 x.len] 125 := ⟨_, rfl⟩
  rw [← hO]
  have hl1 := (Below.heap_alloc W O l hlt).trans hl
  refine ⟨_, run_beginRound hl1 rfl, ?_⟩
  obtain ⟨W2, hW2⟩ : ∃ W2, W2 = (W.alloc O).putObj l (.loop { (pcRec fn D #[u0, u1, .pointer (some ⟨lB, 0, none⟩), u3, u4, u5, u6, u7, u8, u9, u10, u11, u12, u13, u14, u15, u16, u17, u18, u19, u20, u21]) with state := .busy }) := ⟨_, rfl⟩
  rw [← hW2]
  have hs2 : W2.heap.size = W.heap.size + 1 := by rw [hW2]; simp [World.putObj]
  have hg2 : (W.alloc O).grownBy W2 (some l) := by rw [hW2]; exact grownBy_putObj' _ _ _
  have hl2 : W2.heap[l]? = some (.loop { (pcRec fn D #[u0, u1, .pointer (some ⟨lB, 0, none⟩), u3, u4, u5, u6, u7, u8, u9, u10, u11, u12, u13, u14, u15, u16, u17, u18, u19, u20, u21]) with state := .busy }) := by
    rw [hW2]; exact World.putObj_heap_same (by simp; omega)
  have nl : ∀ {j : Nat} {c e f}, W.heap[j]? = some (.cells c e f) → j ≠ l := by
    rintro j c e f h rfl
    rw [hl] at h; cases h
  have hB2 : Boxed W2 lB 121 v := (hB.alloc O).kept hg2 (by have := nl hB; intro e; injection e with e; exact this e)
  have hr1 : (W.alloc O).ownsRow base 125 3 v k xs := hr.alloc O
  have hnl : v.ownBlock ≠ some l := by
    intro e
    rcases hr.2 with ⟨rfl, _⟩ | ⟨g, cap, cur, rfl, _, hgb, _⟩
    · cases e
    · exact nl hgb (by simpa [Value.ownBlock] using e)
  have hr2 : W2.ownsRow base 125 3 v k xs := hr1.kept hg2 (.inr hnl)
  have hp2 : W2.heap[W.heap.size]? = some O := by rw [hW2]; exact (World.putObj_heap_other (by omega)).trans (World.alloc_heap_new W O)
  have c0 : W2.cell? ⟨W.heap.size, 0, none⟩ = some (.int .i64 x.kind) := by simp [World.cell?, hp2, hO]
  have c1 : W2.cell? ⟨W.heap.size, 1, none⟩ = some (.int .i64 x.at_) := by simp [World.cell?, hp2, hO]
  have c2 : W2.cell? ⟨W.heap.size, 2, none⟩ = some (.int .i64 x.len) := by simp [World.cell?, hp2, hO]
  have cB := hB2.cell
  have hbB : base ≤ W2.heap.size := by omega
  have hkm : k + 1 ≤ maxLen := by unfold maxLen; omega
  have K1 := Lib.hid hW2
  have K2 := Lib.hid hl2
  have K3 := Lib.hid hs2
  have K4 := Lib.hid hl
  have K5 := Lib.hid hl1
  have K6 := Lib.hid hg2
  have K7 := Lib.hid hp2
  have K8 := Lib.hid hO
  clear hW2 hl2 hs2 hl hl1 hg2 hp2 hO
  gi_wp2_with (gi_at_builtin; refine wpListIn_append_own _ rfl _ _ 121 rfl base 125 i0 _ 3 24 Tryz.underlying121 hi hz0 hz1 hz2 rfl (by decide) v k xs rfl (hr2.alloc _) ⟨W2.heap.size, 0, none⟩ 1 1 [.int .i64 x.kind, .int .i64 x.at_, .int .i64 x.len] rfl rfl (by intro j u hj; match j, hj with | 0, hj => (simp at hj; subst hj; simp [Addr.add]) | 1, hj => (simp at hj; subst hj; simp [Addr.add]) | 2, hj => (simp at hj; subst hj; simp [Addr.add]) | j + 3, hj => simp at hj) (by simp [Value.oneCell']) (by omega) (by omega) (by simp; omega) ?_; intro v' w1 hown' hgrow _; obtain ⟨g', cap', rfl⟩ := ownsRow_succ hown'; have hv1 : Boxed w1 lB 121 v := (hB2.alloc _).kept hgrow (hB2.not_row (by decide) hr2); have hc1 := hv1.cell; have hf1 := hv1.frozen)
  have hv2 := hv1.set (.slice (some ⟨g', 0, none⟩) (k + 1) cap')
  have hr3 := hown'.kept (grownBy_setCell' w1 lB (.slice (some ⟨g', 0, none⟩) (k + 1) cap')) (.inr (hv1.not_row (by decide) hown').symm)
  have hl3 : (w1.setCell ⟨lB, 0, none⟩ (.slice (some ⟨g', 0, none⟩) (k + 1) cap')).heap[l]? = W2.heap[l]? := by
    rw [Below.heap_setCell _ _ _ _ (by show l ≠ lB; exact (nl hB).symm), hgrow.block l (by simp; have := K3.out; omega) (Ne.symm hnl)]
    exact Below.heap_alloc _ _ _ (by have := K3.out; omega)
  refine ⟨_, _, run_endRound none (hl3.trans K2.out), ?_⟩
  rw [← HR.out]
  refine ⟨rfl, _, hv2.kept (grownBy_putObj' _ _ _) (by have := nl hB; intro e; injection e with e; exact this e), hr3.kept (grownBy_putObj' _ _ _) (.inr ?_), ?_, ?_⟩
  · intro e
    rcases hr3.2 with ⟨h, _⟩ | ⟨g, cap, cur, h, _, hgb, _⟩
    · cases h
    · rw [h] at e
      simp only [Value.ownBlock, Option.some.injEq] at e
      subst e
      rw [hl3, K2.out] at hgb; cases hgb
  · rw [World.putObj_heap_same (by rw [size_set1]; have := hgrow.size; simp at this; have := K3.out; omega)]; rfl
  · have hsz : W.heap.size + 1 ≤ w1.heap.size := by have := hgrow.size; simp at this; have := K3.out; omega
    refine ⟨by simp [size_set1]; omega, ?_, ?_, ?_, fun j hj h1 h2 h3 => ?_⟩
    · show w1.os = _; rw [hgrow.os]; show W2.os = _; rw [K6.out.os]; rfl
    · show w1.tape = _; rw [hgrow.tape]; show W2.tape = _; rw [K6.out.tape]; rfl
    · show w1.output = _; rw [hgrow.output]; show W2.output = _; rw [K6.out.output]; rfl
    · rw [World.putObj_heap_other h1, Below.heap_setCell _ _ _ _ h2, hgrow.block j (by simp; have := K3.out; omega) h3, Below.heap_alloc _ _ _ (by have := K3.out; omega), K6.out.block j (by simp; omega) (by simpa using h1), Below.heap_alloc _ _ _ hj]
end Go.Proofs.YtjnimfnelacceaaGreatDoor
namespace Go.Proofs.YtjnimfnelacceaaGreatDoor
open Go.RowKit

attribute [local go_sem] Oper.semAt_some

theorem cell?_same {w w' : World} {a : Addr} (h : w'.heap[a.block]? = w.heap[a.block]?) : w'.cell? a = w.cell? a := by unfold World.cell?; rw [h]
theorem frozen?_same {w w' : World} {a : Addr} (h : w'.heap[a.block]? = w.heap[a.block]?) : w'.frozen? a = w.frozen? a := by unfold World.frozen?; rw [h]
theorem IsTab.same {w w' : World} {tb : Nat} (h : IsTab w tb) (ht : w'.heap[tb]? = w.heap[tb]?) : IsTab w' tb := ⟨fun c x hc hx => (cell?_same (a := ⟨tb, _, none⟩) ht).trans (h.at_ c x hc hx)⟩
theorem CutAt.same {w w' : World} {cb tb : Nat} {s : ByteArray} {p lk la ll : Nat} (h : CutAt w cb tb s p lk la ll) (hc : w'.heap[cb]? = w.heap[cb]?) (ht : w'.heap[tb]? = w.heap[tb]?) : CutAt w' cb tb s p lk la ll :=
  ⟨(cell?_same (a := ⟨cb, 0, none⟩) hc).trans h.text, (cell?_same (a := ⟨cb, 1, none⟩) hc).trans h.pos, (cell?_same (a := ⟨cb, 2, none⟩) hc).trans h.tab, (cell?_same (a := ⟨cb, 3, none⟩) hc).trans h.kind, (cell?_same (a := ⟨cb, 4, none⟩) hc).trans h.lat, (cell?_same (a := ⟨cb, 5, none⟩) hc).trans h.llen, fun o => (frozen?_same (a := ⟨cb, o, none⟩) hc).trans (h.free o), h.isTab.same ht, h.size, h.le, h.last⟩
theorem RulesAt.same {w w' : World} {rb : Nat} (h : RulesAt w rb) (ht : w'.heap[rb]? = w.heap[rb]?) : RulesAt w' rb :=
  ⟨(cell?_same (a := ⟨rb, 0, none⟩) ht).trans h.k0, (cell?_same (a := ⟨rb, 1, none⟩) ht).trans h.f0, (cell?_same (a := ⟨rb, 2, none⟩) ht).trans h.k1, (cell?_same (a := ⟨rb, 3, none⟩) ht).trans h.f1, (cell?_same (a := ⟨rb, 4, none⟩) ht).trans h.k2, (cell?_same (a := ⟨rb, 5, none⟩) ht).trans h.f2, (cell?_same (a := ⟨rb, 6, none⟩) ht).trans h.k3, (cell?_same (a := ⟨rb, 7, none⟩) ht).trans h.f3, (cell?_same (a := ⟨rb, 8, none⟩) ht).trans h.k4, (cell?_same (a := ⟨rb, 9, none⟩) ht).trans h.f4, (cell?_same (a := ⟨rb, 10, none⟩) ht).trans h.k5, (cell?_same (a := ⟨rb, 11, none⟩) ht).trans h.f5⟩
/-- What lay in W1 lies in W, but for three blocks. -/
structure Kept3 (W1 W : World) (a b c : Nat) : Prop where
  size : W1.heap.size ≤ W.heap.size
  os : W.os = W1.os
  tape : W.tape = W1.tape
  output : W.output = W1.output
  block : ∀ j, j < W1.heap.size → j ≠ a → j ≠ b → j ≠ c → W.heap[j]? = W1.heap[j]?
theorem Kept3.refl (W : World) (a b c : Nat) : Kept3 W W a b c := ⟨Nat.le_refl _, rfl, rfl, rfl, fun _ _ _ _ _ => rfl⟩
theorem Kept3.trans {A B C : World} {a b c : Nat} (h : Kept3 A B a b c) (k : Kept3 B C a b c) : Kept3 A C a b c :=
  ⟨Nat.le_trans h.size k.size, k.os.trans h.os, k.tape.trans h.tape, k.output.trans h.output, fun j hj h1 h2 h3 => (k.block j (Nat.lt_of_lt_of_le hj h.size) h1 h2 h3).trans (h.block j hj h1 h2 h3)⟩
theorem Kept3.below {A B : World} {a b c : Nat} (h : Below A.heap.size A B) : Kept3 A B a b c := ⟨h.size, h.os, h.tape, h.output, fun j hj _ _ _ => h.block j hj⟩
theorem Kept3.set (A : World) {a b c : Nat} (o : Nat) (v : Value) : Kept3 A (A.setCell ⟨a, o, none⟩ v) a b c :=
  ⟨by rw [size_set1]; exact Nat.le_refl _, rfl, rfl, rfl, fun j hj h1 _ _ => Below.heap_setCell _ _ _ _ h1⟩
theorem tabIs_same {P : Program} {n : String} {g : Nat} {k : IntKind} {zs : List Int} {w w' : World} (hg : P.globalNamed n = some g) (h : Lib.TabIs P w n k zs) (hb : w'.heap[g]? = w.heap[g]?) : Lib.TabIs P w' n k zs := by
  unfold Lib.TabIs World.var? at h ⊢
  rw [hg] at h ⊢
  simp only [Option.bind_some] at h ⊢
  rw [hb]; exact h
theorem Env.kept {w w' : World} {a b c : Nat} (h : Env w) (hk : Kept3 w w' a b c) (ha : 9 ≤ a) (hb : 9 ≤ b) (hc : 9 ≤ c) : Env w' := by
  obtain ⟨⟨x, h1, h2⟩, ⟨y, h3, h4⟩, h5, h6, ⟨m, h7⟩⟩ := h
  have same : ∀ {g v}, w.cell? ⟨g, 0, none⟩ = some v → g < 9 → w'.heap[g]? = w.heap[g]? := fun {g v} hv hg => hk.block g (World.block_lt_of_cell? w _ hv) (by omega) (by omega) (by omega)
  have same' : ∀ {n : String} {g : Nat} {k : IntKind} {zs : List Int}, Tryz.prog.globalNamed n = some g → Lib.TabIs Tryz.prog w n k zs → g < 9 → w'.heap[g]? = w.heap[g]? := fun {n g k zs} hg h hlt => by
    have := tabIs_below (w' := w) hg h (Below.refl _ _)
    unfold Lib.TabIs World.var? at h
    rw [hg] at h
    simp only [Option.bind_some] at h
    refine hk.block g ?_ (by omega) (by omega) (by omega)
    rcases Nat.lt_or_ge g w.heap.size with hl | hl
    · exact hl
    · rw [Array.getElem?_eq_none hl] at h
      simp at h
  refine ⟨⟨x, (cell?_same (a := ⟨_, 0, none⟩) (same h1 (by decide))).trans h1, h2⟩, ⟨y, (cell?_same (a := ⟨_, 0, none⟩) (same h3 (by decide))).trans h3, h4⟩, ?_, ?_, ⟨m, (cell?_same (a := ⟨_, 0, none⟩) (same h7 (by decide))).trans h7⟩⟩
  · exact tabIs_same (g := 5) (by kernel_rfl) h5 (same' (g := 5) (by kernel_rfl) h5 (by omega))
  · exact tabIs_same (g := 0) (by kernel_rfl) h6 (same' (g := 0) (by kernel_rfl) h6 (by omega))

/-- What the caller has between two rounds. -/
structure Kp (W1 W : World) (cb l lB : Nat) (r : Loop) (pre : List Pc) : Prop where
  keep : Kept3 W1 W cb l lB
  box : ∃ v, Boxed W lB 121 v ∧ W.ownsRow W1.heap.size 125 3 v pre.length (rowPc pre)
  loop : W.heap[l]? = some (.loop r)
theorem grownBy_of_below {A B : World} (h : Below A.heap.size A B) : A.grownBy B none := ⟨h.os, h.tape, h.output, h.size, fun j hj _ => h.block j hj⟩
theorem Kp.below {W1 W W' : World} {cb l lB : Nat} {r : Loop} {pre : List Pc} (h : Kp W1 W cb l lB r pre) (hb : Below W.heap.size W W') : Kp W1 W' cb l lB r pre := by
  obtain ⟨h1, ⟨v, h2, h3⟩, h4⟩ := h
  exact ⟨h1.trans (.below hb), ⟨v, (hb.block _ h2.lt).trans h2, h3.kept (grownBy_of_below hb) (by cases v.ownBlock <;> simp)⟩, (hb.block _ (Array.getElem?_eq_some_iff.1 h4).1).trans h4⟩
theorem Kp.drewN {W1 W : World} {cb l lB : Nat} {r : Loop} {pre : List Pc} (h : Kp W1 W cb l lB r pre) (n : Nat) : Kp W1 (W.drewN n) cb l lB r pre := h.below (below_drewN (Below.refl _ _) n)
theorem Kp.set {W1 W : World} {cb l lB : Nat} {r : Loop} {pre : List Pc} (h : Kp W1 W cb l lB r pre) (h1 : cb < W1.heap.size) (h2 : cb ≠ lB) (h3 : cb ≠ l) (o : Nat) (u : Value) : Kp W1 (W.setCell ⟨cb, o, none⟩ u) cb l lB r pre := by
  obtain ⟨k1, ⟨v, k2, k3⟩, k4⟩ := h
  have hg := grownBy_setCell' W cb u
  have hg' : W.grownBy (W.setCell ⟨cb, o, none⟩ u) (some cb) := ⟨rfl, rfl, rfl, by rw [size_set1]; exact Nat.le_refl _, fun k _ hk => Below.heap_setCell _ _ _ k (fun e => hk (by rw [e]))⟩
  refine ⟨k1.trans (.set _ _ _), ⟨v, k2.kept hg' (by simpa using h2.symm), k3.kept hg' ?_⟩, (Below.heap_setCell _ _ _ _ (Ne.symm h3)).trans k4⟩
  cases ho : v.ownBlock with
  | none => exact .inl rfl
  | some g =>
    have := k3.lt g ho
    right
    intro e
    injection e with e
    omega
/-- A round: one piece more. -/
theorem Kp.round {W1 W W' : World} {cb l lB : Nat} {r : Loop} {pre : List Pc} {x : Pc} (h : Kp W1 W cb l lB r pre) {v v' : Value} (hB : Boxed W lB 121 v) (hr : W.ownsRow W1.heap.size 125 3 v pre.length (rowPc pre))
    (h1 : Boxed W' lB 121 v') (h2 : W'.ownsRow W1.heap.size 125 3 v' (pre.length + 1) (rowPc pre ++ encPc x)) (h3 : W'.heap[l]? = some (.loop r)) (h4 : KeepR W W' l lB v) :
    Kp W1 W' cb l lB r (pre ++ [x]) ∧ ∀ j, j < W.heap.size → (j < W1.heap.size ∨ ∀ g, v.ownBlock = some g → j ≠ g) → j ≠ l → j ≠ lB → W'.heap[j]? = W.heap[j]? := by
  have hk : ∀ j, j < W.heap.size → (j < W1.heap.size ∨ ∀ g, v.ownBlock = some g → j ≠ g) → j ≠ l → j ≠ lB → W'.heap[j]? = W.heap[j]? := fun j hj hg a b => h4.block j hj a b (by
    intro e
    rcases hg with hg | hg
    · have := (hr.lt j e.symm).1; omega
    · exact hg j e.symm rfl)
  refine ⟨⟨?_, ⟨v', h1, by rw [rowPc_snoc, List.length_append]; exact h2⟩, h3⟩, hk⟩
  exact ⟨Nat.le_trans h.keep.size h4.size, h4.os.trans h.keep.os, h4.tape.trans h.keep.tape, h4.output.trans h.keep.output, fun j hj a b c => (hk j (Nat.lt_of_lt_of_le hj h.keep.size) (.inl hj) b c).trans (h.keep.block j hj a b c)⟩
/-- Between two rounds of the iterator. -/
structure It (W1 W : World) (cb tb l lB : Nat) (r : Loop) (s : ByteArray) (c : Cu) (pre : List Pc) : Prop where
  cut : CutAt W cb tb s c.p c.lk c.la c.ll
  good : goodCu s.data.toList c
  kp : Kp W1 W cb l lB r pre
  few : pre.length ≤ c.p
  rest : ∃ f, s.size < f + c.p ∧ piecesL s.data.toList = (pre ++ (cutL s.data.toList f c).1, (cutL s.data.toList f c).2)
theorem It.done {W1 W : World} {cb tb l lB : Nat} {r : Loop} {s : ByteArray} {c : Cu} {pre : List Pc} (h : It W1 W cb tb l lB r s c pre) (hp : ¬ c.p < s.size) : piecesL s.data.toList = (pre, none) := by
  obtain ⟨f, hf, he⟩ := h.rest
  have : ¬ c.p < s.data.toList.length := by rw [len_data]; exact hp
  cases f with
  | zero => rw [he]; simp [cutL]
  | succ f => rw [he]; simp only [cutL, if_neg this, List.append_nil]
theorem It.err {W1 W : World} {cb tb l lB : Nat} {r : Loop} {s : ByteArray} {c : Cu} {pre : List Pc} (h : It W1 W cb tb l lB r s c pre) (hp : c.p < s.size) {er : Nat} (hs : stepL s.data.toList c = .inr er) : piecesL s.data.toList = (pre, some (c.p, er)) := by
  obtain ⟨f, hf, he⟩ := h.rest
  have hp' : c.p < s.data.toList.length := by rw [len_data]; exact hp
  cases f with
  | zero => omega
  | succ f => rw [he]; simp only [cutL, if_pos hp', hs, List.append_nil]
theorem It.next {W1 W : World} {cb tb l lB : Nat} {r : Loop} {s : ByteArray} {c c' : Cu} {pre : List Pc} {x : Pc} (h : It W1 W cb tb l lB r s c pre) (hp : c.p < s.size) (hs : stepL s.data.toList c = .inl (x, c')) :
    goodCu s.data.toList c' ∧ (pre ++ [x]).length ≤ c'.p ∧ c.p < c'.p ∧ ∃ f, s.size < f + c'.p ∧ piecesL s.data.toList = ((pre ++ [x]) ++ (cutL s.data.toList f c').1, (cutL s.data.toList f c').2) := by
  obtain ⟨f, hf, he⟩ := h.rest
  have hp' : c.p < s.data.toList.length := by rw [len_data]; exact hp
  obtain ⟨g1, g2, _⟩ := stepL_good h.good hp' hs
  have := h.few
  refine ⟨g1, by simp; omega, g2, ?_⟩
  cases f with
  | zero => omega
  | succ f => exact ⟨f, by omega, by rw [he]; simp only [cutL, if_pos hp', hs, List.append_assoc, List.singleton_append]⟩
def posOf (w : World) (cb : Nat) : Nat := match w.cell? ⟨cb, 1, none⟩ with | some (.int _ i) => i.toNat | _ => 0
theorem posOf_eq {w : World} {cb p : Nat} (h : w.cell? ⟨cb, 1, none⟩ = some (.int .i64 p)) : posOf w cb = p := by unfold posOf; rw [h]; simp
/-- Ahead of a round: the piece lies in block pb. -/
structure Mid (W1 W : World) (cb tb xb l lB : Nat) (r : Loop) (s : ByteArray) (p : Nat) (c' : Cu) (x : Pc) (pre : List Pc) (pb : Nat) : Prop where
  kp : Kp W1 W cb l lB r pre
  cut : CutAt W cb tb s p c'.lk c'.la c'.ll
  xc : W.cell? ⟨xb, 0, none⟩ = some (.pointer (some ⟨cb, 0, none⟩))
  p0 : W.cell? ⟨pb, 0, none⟩ = some (.int .i64 x.kind)
  p1 : W.cell? ⟨pb, 1, none⟩ = some (.int .i64 x.at_)
  p2 : W.cell? ⟨pb, 2, none⟩ = some (.int .i64 x.len)
  far : W1.heap.size ≤ pb ∧ ∀ v g, Boxed W lB 121 v → v.ownBlock = some g → pb ≠ g
theorem stepL_le {l : List UInt8} {c : Cu} {k n : Nat} (h : nextL l c.p (operL c.lk ((l.drop c.la).take c.ll)) = .inl (k, n)) (hk : k ≤ 6) (hn : ¬ 6000 < c.n + 1) : stepL l c = .inl (⟨k, c.p, n⟩, ⟨c.p + n, k, c.p, n, c.n + 1⟩) := by
  unfold stepL; rw [h]; simp only; rw [if_pos hk, if_neg hn]
theorem stepL_many {l : List UInt8} {c : Cu} {k n : Nat} (h : nextL l c.p (operL c.lk ((l.drop c.la).take c.ll)) = .inl (k, n)) (hk : k ≤ 6) (hn : 6000 < c.n + 1) : stepL l c = .inr 2 := by
  unfold stepL; rw [h]; simp only; rw [if_pos hk, if_pos hn]
theorem stepL_gt {l : List UInt8} {c : Cu} {k n : Nat} (h : nextL l c.p (operL c.lk ((l.drop c.la).take c.ll)) = .inl (k, n)) (hk : ¬ k ≤ 6) : stepL l c = .inl (⟨k, c.p, n⟩, ⟨c.p + n, c.lk, c.la, c.ll, c.n⟩) := by
  unfold stepL; rw [h]; simp only; rw [if_neg hk]
/-- How the iterator ends. -/
def PEnd (cb l lB base : Nat) (r : Loop) (x : List Pc × Option (Nat × Nat)) (W : World) (e : Ending) (W' : World) : Prop :=
  Kept3 W W' cb l lB ∧ match x.2 with
  | none => (∃ v, e = .returned v) ∧ W'.heap[l]? = some (.loop r) ∧ ∃ v, Boxed W' lB 121 v ∧ W'.ownsRow base 125 3 v x.1.length (rowPc x.1)
  | some (p, er) => e = .panicked [{ v := wrongV p er, recovered := false }] ∧ ∃ v, Boxed W' lB 121 v
end Go.Proofs.YtjnimfnelacceaaGreatDoor
namespace Go.Proofs.YtjnimfnelacceaaGreatDoor
open Go.RowKit

attribute [local go_sem] Oper.semAt_some

set_option maxRecDepth 100000 in
set_option maxHeartbeats 4000000 in
theorem pieces1_any (m l lB fn D cb tb xb : Nat) (r : Loop) (s : ByteArray) (W : World) (hm : 1 ≤ m)
    (hY : ∀ (base : Nat) (v : Value) (k : Nat) (xs : List Value) (x : Pc) (W : World), Boxed W lB 121 v → W.ownsRow base 125 3 v k xs → base ≤ W.heap.size → k ≤ 1000000 → W.heap[l]? = some (.loop r) →
      YieldAt Fence.wide (m - 1) Tryz.prog l #[.agg #[.int .i64 x.kind, .int .i64 x.at_, .int .i64 x.len]] W (RoundEnd base l lB r v k xs (encPc x) W))
    (hE : Env W) (hC : CutAt W cb tb s 0 0 0 0) (hx : W.cell? ⟨xb, 0, none⟩ = some (.pointer (some ⟨cb, 0, none⟩))) (hB : Boxed W lB 121 (.slice none 0 0)) (hl : W.heap[l]? = some (.loop r))
    (d1 : cb ≠ lB) (d2 : tb ≠ cb ∧ tb ≠ lB) (d3 : xb ≠ cb ∧ xb ≠ lB) (g1 : 9 ≤ cb) (g2 : 9 ≤ l) (g3 : 9 ≤ lB) :
    Calls Tryz.prog 146 #[.func (.yield l) #[] #[], .pointer (some ⟨xb, 0, none⟩)] W fun e W' => ∃ base, W.heap.size ≤ base ∧ PEnd cb l lB base r (piecesL s.data.toList) W e W' := by
  go_enter Tryz.func146, Tryz.ntmps146
  go_wp2_with fail
  refine (rules_any _).mono ?_
  rintro e W1 ⟨rfl, hb1, hru⟩
  go_wp2_with fail
  have HY := Lib.hid hY
  clear hY
  have HU := Lib.hid hru
  have HB1 := Lib.hid hb1
  have HE := Lib.hid (hE.below hb1)
  have hlt1 : ∀ {j o}, W.heap[j]? = some o → j < W.heap.size := fun h => (Array.getElem?_eq_some_iff.1 h).1
  have hx1 := below_cell hb1 hx
  have HX := Lib.hid hx1
  have hcl : cb < W.heap.size := hC.lt
  have hsz1 := hb1.size
  have e0 : cb ≠ l := by
    have := hC.text
    rintro rfl
    unfold World.cell? at this
    rw [hl] at this; cases this
  have hI0 : It W1 W1 cb tb l lB r s ⟨0, 0, 0, 0, 0⟩ [] :=
    ⟨hC.below hb1, ⟨Nat.zero_le _, Nat.zero_le _, Nat.le_refl _⟩, ⟨.refl _ _ _ _, ⟨_, (hb1.block _ hB.lt).trans hB, World.ownsRow_nil _ _ _ _⟩, (hb1.block _ (hlt1 hl)).trans hl⟩, Nat.zero_le _, s.size + 1, by simp, by simp only [List.nil_append]; unfold piecesL; rw [len_data]⟩
  have HI := Lib.hid hI0
  have e1 : tb ≠ l := by
    have := hC.isTab.at_ 0 0 (by omega) (by omega)
    rintro rfl
    unfold World.cell? at this
    rw [hl] at this; cases this
  have e2 : xb ≠ l := by
    rintro rfl
    unfold World.cell? at hx
    rw [hl] at hx; cases hx
  have etb : tb < W.heap.size := World.block_lt_of_cell? _ _ (hC.isTab.at_ 0 0 (by omega) (by omega))
  have erl : W.heap.size ≠ cb ∧ W.heap.size ≠ l ∧ W.heap.size ≠ lB ∧ W.heap.size < W1.heap.size := ⟨by omega, by have := hlt1 hl; omega, by have := hB.lt; omega, World.block_lt_of_cell? _ _ hru.k0⟩
  have ell : l < W.heap.size := hlt1 hl
  have elB : lB < W.heap.size := hB.lt
  clear hI0 hx1 hru hE hC hx hB hl hb1
  go_loopw [4] (fun v4 wr => ∃ (c : Cu) (pre : List Pc), v4 = .int .i64 c.n ∧ Hid (It W1 wr cb tb l lB r s c pre)) (fun _ wr => s.size - posOf wr cb)
  case atStart => exact ⟨_, _, rfl, HI⟩
  case round =>
    clear HI
    obtain ⟨c, pre, rfl, HI⟩ := hrel
    have hcut := HI.out.cut
    have h0 := hcut.text
    have h1 := hcut.pos
    have hx : wr.cell? ⟨xb, 0, none⟩ = some (.pointer (some ⟨cb, 0, none⟩)) := (cell?_same (a := ⟨xb, 0, none⟩) (HI.out.kp.keep.block xb (World.block_lt_of_cell? _ _ HX.out) d3.1 e2 d3.2)).trans HX.out
    have hsz := hcut.size
    have HC := Lib.hid hcut
    clear hcut
    by_cases hp : c.p < s.size
    · have hd : decide ((c.p : Int) < s.size) = true := by simpa using hp
      have hn0 : c.n ≤ 20000 := by have := HI.out.good; have := this.2.2; omega
      go_wp2_with fail
      go_quiet (fail)
      go_wp2_with fail
      have hnx := next_any cb tb W.heap.size s c.p c.lk c.la c.ll (wr.drewN nq) (HC.out.below (below_drewN (Below.refl _ _) nq)) ((HE.out.kept HI.out.kp.keep g1 g2 g3).below (below_drewN (Below.refl _ _) nq))
        (((HU.out).same (HI.out.kp.keep.block _ erl.2.2.2 erl.1 erl.2.1 erl.2.2.1)).below (below_drewN (Below.refl _ _) nq)) hp
      rcases hN : nextL s.data.toList c.p (operL c.lk ((s.data.toList.drop c.la).take c.ll)) with ⟨k, n⟩ | er
      · rw [hN] at hnx
        simp only [endP] at hnx
        have hbd := nextL_bounds (by rw [len_data]; exact hp) hN
        rw [len_data] at hbd
        obtain ⟨hn1, hn2, hk8⟩ := hbd
        have HN := Lib.hid hN
        have HX2 := Lib.hid hnx
        clear hN hnx
        refine HX2.out.mono ?_
        rintro e w2 ⟨rfl, hb2⟩
        clear HX2
        have hx2 : w2.cell? ⟨xb, 0, none⟩ = some (.pointer (some ⟨cb, 0, none⟩)) := below_cell hb2 (by rw [World.cell?_drewN]; exact hx)
        have HP := Lib.hid ((HI.out.kp.drewN nq).below hb2)
        have HC2 := Lib.hid ((HC.out.below (below_drewN (Below.refl _ _) nq)).below hb2)
        have hsz2 : wr.heap.size ≤ w2.heap.size := hb2.size
        have HBL := Lib.hid hb2
        have h02 := HC2.out.text
        have h12 := HC2.out.pos
        have h32 := HC2.out.kind
        have h42 := HC2.out.lat
        have h52 := HC2.out.llen
        have hfr := HC2.out.free
        have nx : xb < w2.heap.size := World.block_lt_of_cell? w2 _ hx2
        have nc : cb < w2.heap.size := World.block_lt_of_cell? w2 _ h02
        have nx' : xb ≠ w2.heap.size := by omega
        have nc' : cb ≠ w2.heap.size := by omega
        clear hb2 h0 h1 hx
        have hO : ∀ v g, Boxed w2 lB 121 v → v.ownBlock = some g → g < w2.heap.size := by
          intro v g hv hg
          obtain ⟨v', hv', hr'⟩ := HP.out.box
          have : v = v' := by have h1 := hv.cell; have h2 := hv'.cell; rw [h1] at h2; injection h2
          subst this
          exact (hr'.lt g hg).2
        have HO := Lib.hid hO
        clear hO
        have hlB : lB < w2.heap.size := by obtain ⟨v', hv', _⟩ := HP.out.box; exact hv'.lt
        go_upto_if 24 with fail
        go_cut [4, 5] (fun s4 s5 wx => ∃ (x : Pc) (c' : Cu) (pb : Nat), s4 = .int .i64 c'.n ∧ s5 = .pointer (some ⟨pb, 0, none⟩) ∧ Hid (c'.p = c.p + x.len) ∧ Hid (stepL s.data.toList c = .inl (x, c')) ∧ Hid (Mid W1 wx cb tb xb l lB r s c.p c' x pre pb))
        case first =>
          by_cases hk6 : k ≤ 6
          · have hk6d : decide ((k : Int) ≤ 6) = true := decide_eq_true (by omega)
            by_cases hn6 : 6000 < c.n + 1
            · have hn6d : decide ((6000 : Int) < (c.n : Int) + 1) = true := by simp; omega
              have HE2 := Lib.hid (HI.out.err hp (stepL_many HN.out hk6 hn6))
              go_wp2_with fail
              refine (fail_any cb c.p 2 _ (below_cell ((Below.refl _ _).alloc (Nat.le_refl _) _) h12)).mono ?_
              rintro e w3 ⟨rfl, rfl⟩
              refine ⟨rfl, W1.heap.size, hsz1, ?_⟩
              rw [HE2.out]
              obtain ⟨vb, hvb, _⟩ := HP.out.box
              exact ⟨(Kept3.below HB1.out).trans (HP.out.keep.trans (.below ((Below.refl _ _).alloc (Nat.le_refl _) _))), rfl, vb, hvb.alloc _⟩
            · have hn6d : decide ((6000 : Int) < (c.n : Int) + 1) = false := by simp; omega
              have HS := Lib.hid (stepL_le HN.out hk6 hn6)
              go_wp2_with fail
              go_meet
              refine ⟨⟨k, c.p, n⟩, ⟨c.p + n, k, c.p, n, c.n + 1⟩, w2.heap.size, ?_, rfl, Lib.hid rfl, HS, Lib.hid ?_⟩
              · simp
              · have hk3 := ((HP.out.set (by omega) d1 e0 3 (.int .i64 k)).set (by omega) d1 e0 4 (.int .i64 c.p)).set (by omega) d1 e0 5 (.int .i64 n)
                have hh : ∀ j, j ≠ cb → (((w2.setCell ⟨cb, 3, none⟩ (.int .i64 k)).setCell ⟨cb, 4, none⟩ (.int .i64 c.p)).setCell ⟨cb, 5, none⟩ (.int .i64 n)).heap[j]? = w2.heap[j]? := fun j hj => by
                  rw [Below.heap_setCell _ _ _ _ hj, Below.heap_setCell _ _ _ _ hj, Below.heap_setCell _ _ _ _ hj]
                have h22 := HC2.out.tab
                have hc3 : CutAt (((w2.setCell ⟨cb, 3, none⟩ (.int .i64 k)).setCell ⟨cb, 4, none⟩ (.int .i64 c.p)).setCell ⟨cb, 5, none⟩ (.int .i64 n)) cb tb s c.p k c.p n := by
                  refine ⟨by simp [go_sem, h02], by simp [go_sem, h12], by simp [go_sem, h22], by simp [go_sem, h32, h42, h52], by simp [go_sem, h32, h42, h52], by simp [go_sem, h32, h42, h52], fun o => by simpa [go_sem] using hfr o, HC2.out.isTab.same (hh tb d2.1), hsz, by omega, by omega⟩
                have hx3 : (((w2.setCell ⟨cb, 3, none⟩ (.int .i64 k)).setCell ⟨cb, 4, none⟩ (.int .i64 c.p)).setCell ⟨cb, 5, none⟩ (.int .i64 n)).cell? ⟨xb, 0, none⟩ = some (.pointer (some ⟨cb, 0, none⟩)) := (cell?_same (a := ⟨xb, 0, none⟩) (hh xb d3.1)).trans hx2
                have hlB3 := (hh lB (Ne.symm d1))
                have hs3 : (((w2.setCell ⟨cb, 3, none⟩ (.int .i64 k)).setCell ⟨cb, 4, none⟩ (.int .i64 c.p)).setCell ⟨cb, 5, none⟩ (.int .i64 n)).heap.size = w2.heap.size := by rw [size_set1, size_set1, size_set1]
                clear hh h22
                generalize (((w2.setCell ⟨cb, 3, none⟩ (.int .i64 k)).setCell ⟨cb, 4, none⟩ (.int .i64 c.p)).setCell ⟨cb, 5, none⟩ (.int .i64 n)) = w3 at *
                have hb3 : Below w3.heap.size w3 (w3.alloc (.cells #[.int .i64 k, .int .i64 c.p, .int .i64 n] 125)) := (Below.refl _ _).alloc (Nat.le_refl _) _
                refine ⟨hk3.below hb3, hc3.below hb3, below_cell hb3 hx3, by rw [← hs3]; simp [go_sem], by rw [← hs3]; simp [go_sem], by rw [← hs3]; simp [go_sem], ?_, fun v g hv hg => ?_⟩
                · have := HP.out.keep.size; omega
                · have h5 : Boxed w2 lB 121 v := (hlB3.symm.trans (hb3.block lB (by omega)).symm).trans hv
                  have := HO.out v g h5 hg
                  omega
          · have hk6d : decide ((k : Int) ≤ 6) = false := decide_eq_false (by omega)
            have HS := Lib.hid (stepL_gt HN.out hk6)
            go_wp2_with fail
            go_meet
            refine ⟨⟨k, c.p, n⟩, ⟨c.p + n, c.lk, c.la, c.ll, c.n⟩, w2.heap.size, rfl, rfl, Lib.hid rfl, HS, Lib.hid ?_⟩
            have hb3 : Below w2.heap.size w2 (w2.alloc (.cells #[.int .i64 k, .int .i64 c.p, .int .i64 n] 125)) := (Below.refl _ _).alloc (Nat.le_refl _) _
            refine ⟨HP.out.below hb3, HC2.out.below hb3, below_cell hb3 hx2, by simp [go_sem], by simp [go_sem], by simp [go_sem], ?_, fun v g hv hg => ?_⟩
            · have := HP.out.keep.size; omega
            · have : Boxed w2 lB 121 v := (hb3.block lB hlB).symm.trans hv
              have := HO.out v g this hg
              omega
        case rest =>
          obtain ⟨x, c', pb, rfl, rfl, HQ, HS, HM⟩ := hcut
          clear HP HC2 HC HBL HO HN nx nc nx' nc' hx2 h02 h12 h32 h42 h52 hfr hsz2 hlB hn1 hn2 hk8
          have p0 := HM.out.p0
          have p1 := HM.out.p1
          have p2 := HM.out.p2
          obtain ⟨v, hv1, hv2⟩ := HM.out.kp.box
          have hy := HY.out W1.heap.size v pre.length (rowPc pre) x wc hv1 hv2 HM.out.kp.keep.size (by have := HI.out.few; omega) HM.out.kp.loop
          obtain ⟨f1, t1, a1, b1, hy1, hR⟩ := hy
          have V1 := Lib.hid hv1
          have V2 := Lib.hid hv2
          clear hv1 hv2
          go_upto_region 9 with fail
          refine (wpIn_wide (n := m)).1 ?_
          gi_wp2
          refine hR.mono ?_
          rintro e w4 ⟨rfl, v', hb4, hr4, hl4, hk4⟩
          clear hR hy1
          obtain ⟨hkp, hsame⟩ := HM.out.kp.round V1.out V2.out hb4 hr4 hl4 hk4
          have hcs := HM.out.kp.keep.size
          have exb : xb < W1.heap.size := World.block_lt_of_cell? _ _ HX.out
          have epb : pb < wc.heap.size := World.block_lt_of_cell? _ _ p0
          have s1 := hsame cb (by omega) (.inl (by omega)) e0 d1
          have s2 := hsame tb (by omega) (.inl (by omega)) e1 d2.2
          have s3 := hsame xb (by omega) (.inl exb) e2 d3.2
          have s4 := hsame pb epb (.inr fun g hg => HM.out.far.2 v g V1.out hg) (by have := HM.out.far.1; omega) (by have := HM.out.far.1; omega)
          have hc4 := HM.out.cut.same s1 s2
          have hx4 : w4.cell? ⟨xb, 0, none⟩ = some (.pointer (some ⟨cb, 0, none⟩)) := (cell?_same (a := ⟨xb, 0, none⟩) s3).trans HM.out.xc
          have hp4 : w4.cell? ⟨pb, 2, none⟩ = some (.int .i64 x.len) := (cell?_same (a := ⟨pb, 2, none⟩) s4).trans p2
          have h14 := hc4.pos
          have hf4 := hc4.free
          have hgl := HI.out.good
          have hnxt := HI.out.next hp HS.out
          have h20 : c'.p ≤ 20000 := by have := hnxt.1.1; rw [len_data] at this; omega
          have hlen : c.p + x.len ≤ 20000 := by have := HQ.out; omega
          have HC4 := Lib.hid hc4
          have HK := Lib.hid hkp
          have HNX := Lib.hid hnxt
          clear hb4 hr4 hl4 hk4 hkp hsame s1 s2 s3 s4 hc4 p0 p1 p2 hnxt hgl V1 V2
          gi_wp2
          go_wp2_with fail
          go_region
          have hv : ((c.p : Int) + x.len) = ((c'.p : Nat) : Int) := by have := HQ.out; omega
          rw [hv]
          have hcf : CutAt (w4.setCell ⟨cb, 1, none⟩ (.int .i64 c'.p)) cb tb s c'.p c'.lk c'.la c'.ll := by
            have q := HC4.out
            have q0 := q.text
            have q1 := q.pos
            have q2 := q.tab
            have q3 := q.kind
            have q4 := q.lat
            have q5 := q.llen
            refine ⟨by simp [go_sem, q0, q1], by simp [go_sem, q1], by simp [go_sem, q2, q1], by simp [go_sem, q3, q1], by simp [go_sem, q4, q1], by simp [go_sem, q5, q1], fun o => by simpa [go_sem] using hf4 o, q.isTab.same (Below.heap_setCell _ _ _ _ d2.1), q.size, ?_, q.last⟩
            have := HNX.out.1.1
            rw [len_data] at this
            exact this
          have hbd : Below (w4.setCell ⟨cb, 1, none⟩ (.int .i64 c'.p)).heap.size (w4.setCell ⟨cb, 1, none⟩ (.int .i64 c'.p)) (w4.setCell ⟨cb, 1, none⟩ (.int .i64 c'.p)).drew := below_drewN (Below.refl _ _) 1
          have hI := Lib.hid (show It W1 (w4.setCell ⟨cb, 1, none⟩ (.int .i64 c'.p)).drew cb tb l lB r s c' (pre ++ [x]) from ⟨hcf.below hbd, HNX.out.1, (HK.out.set (by omega) d1 e0 1 _).below hbd, HNX.out.2.1, HNX.out.2.2.2⟩)
          clear hcf hbd hv
          unfold Exit.inBlock
          go_roundw
          case rel => (repeat apply Exists.intro); exact ⟨⟨c', pre ++ [x], rfl, hI⟩, rfl⟩
          case measure =>
            rw [posOf_eq hI.out.cut.pos, posOf_eq HI.out.cut.pos]
            have := HNX.out.2.2.1
            omega
      · rw [hN] at hnx
        simp only [endP] at hnx
        have hst : stepL s.data.toList c = .inr er := by unfold stepL; rw [hN]
        have HE2 := Lib.hid (HI.out.err hp hst)
        have HX2 := Lib.hid hnx
        clear hN hst hnx
        refine HX2.out.mono ?_
        rintro e w2 ⟨rfl, hb2⟩
        clear HX2
        have HK := Lib.hid ((HI.out.kp.drewN nq).below hb2)
        refine ⟨rfl, W1.heap.size, hsz1, ?_⟩
        rw [HE2.out]
        obtain ⟨vb, hvb, _⟩ := HK.out.box
        exact ⟨(Kept3.below HB1.out).trans HK.out.keep, rfl, vb, hvb⟩
    · have hd : decide ((c.p : Int) < s.size) = false := by simpa using hp
      have hdn := HI.out.done hp
      have HD := Lib.hid hdn
      clear hdn
      go_wp2_with fail
      go_quiet (fail)
      go_wp2_with fail
      go_end0
      refine ⟨W1.heap.size, hsz1, ?_⟩
      rw [HD.out]
      obtain ⟨k1, k2, k3⟩ := HI.out.kp.drewN nq
      exact ⟨(Kept3.below HB1.out).trans k1, ⟨_, rfl⟩, k3, k2⟩
end Go.Proofs.YtjnimfnelacceaaGreatDoor
