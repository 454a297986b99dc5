/- The pieces of a text: the deferred function that recovers. The pieces of a text. The tokens of a text: as lists. -/
import Derived.Test.YtjnimfnelacceaaGreatDoorLot09
import Derived.RecoverIn
import Derived.LoadGo3
set_option linter.unusedSimpArgs false
set_option linter.unusedVariables false
namespace Go.Proofs.YtjnimfnelacceaaGreatDoor
open Go.RowKit

attribute [local go_sem] Oper.semAt_some

theorem recover_op {P : Program} {o : Oper} {k : Call} (hk : o.op = .call k) (hc : k.callee = .builtin .recover) (ρ : Operand → Value) (w : World) : (execOp ρ o).run P w = .ok .recover w := by
  unfold execOp
  rw [hk]
  simp only [resolve, hc, pure_bind, invoke, builtin, Sem.run_pure]

theorem assert_wrong (v : Value) (w : World) : (Instr.typeAssert (.iface 169 v) 20 169 true).run Tryz.prog w = .ok (.tuple #[v, .bool true]) w := by
  unfold Instr.typeAssert
  simp only [Sem.run_bind, run_underlying Tryz.underlying169, Result.andThen_ok]
  simp
theorem wanted_plain (o : Oper) (y) (h : o.guard = none) : Region.wanted o y = true := by unfold Region.wanted; rw [h]
set_option maxRecDepth 100000 in
set_option maxHeartbeats 4000000 in
theorem caught_no (n lB aB eB : Nat) (w : World) :
    CallsDIn Fence.wide n Tryz.prog 106 #[.pointer (some ⟨lB, 0, none⟩), .pointer (some ⟨aB, 0, none⟩), .pointer (some ⟨eB, 0, none⟩)] .returning w fun e u w' => (∃ v, e = .returned v) ∧ settle u = .returning ∧ w' = w := by
  refine callsDIn_of_wpSIn Tryz.func106 rfl trivial fun c₀ cs hu => ?_
  simp only [Tryz.ntmps106, List.size_toArray, List.length_cons, List.length_nil, Nat.reduceAdd, Nat.reduceSub, Array.replicate_succ, Array.replicate_zero, List.push_toArray, List.append_toArray, List.nil_append, List.cons_append]
  refine wpSIn_seq (wpSIn_region ?_)
  simp only [List.size_toArray, List.length_cons, List.length_nil, Nat.zero_add]
  show wpOpsSIn _ _ _ _ _ [0] _ _ _
  unfold wpOpsSIn
  simp only [List.getElem?_toArray, List.getElem?_cons_zero]
  refine ⟨fun _ _ => trivial, ?_⟩
  rw [if_pos (wanted_plain _ _ rfl), recover_op rfl rfl]
  have hr : recoverD (c₀ :: cs) = none := by simp only [recoverD, hu]
  dsimp only
  rw [hr]
  unfold wpOpsSIn
  refine wpSIn_of_wpIn rfl (wpIn_wide.2 ?_)
  simp only [Act.put, List.setIfInBounds_toArray, List.set_cons_succ, List.set_cons_zero]
  go_wp2
  refine ⟨rfl, c₀.mode, rfl, _, results_none rfl _ _ _, ⟨_, rfl⟩, by rw [hu]; rfl, rfl⟩
set_option maxRecDepth 100000 in
set_option maxHeartbeats 4000000 in
theorem caught_yes (n lB aB eB p er : Nat) (w : World) (vl va ve : Value) (h1 : Boxed w lB 121 vl) (h2 : Boxed w aB 3 va) (h3 : Boxed w eB 38 ve) (d1 : lB ≠ aB) (d2 : lB ≠ eB) (d3 : aB ≠ eB) :
    CallsDIn Fence.wide n Tryz.prog 106 #[.pointer (some ⟨lB, 0, none⟩), .pointer (some ⟨aB, 0, none⟩), .pointer (some ⟨eB, 0, none⟩)] (.panicking [{ v := wrongV p er, recovered := false }]) w fun e u w' => (∃ v, e = .returned v) ∧ settle u = .returning ∧ Boxed w' lB 121 (.slice none 0 0) ∧ Boxed w' aB 3 (.int .i64 p) ∧ Boxed w' eB 38 (.int .i64 er) ∧ Kept3 w w' lB aB eB := by
  refine callsDIn_of_wpSIn Tryz.func106 rfl trivial fun c₀ cs hu => ?_
  simp only [Tryz.ntmps106, List.size_toArray, List.length_cons, List.length_nil, Nat.reduceAdd, Nat.reduceSub, Array.replicate_succ, Array.replicate_zero, List.push_toArray, List.append_toArray, List.nil_append, List.cons_append]
  refine wpSIn_seq (wpSIn_region ?_)
  simp only [List.size_toArray, List.length_cons, List.length_nil, Nat.zero_add]
  show wpOpsSIn _ _ _ _ _ [0] _ _ _
  unfold wpOpsSIn
  simp only [List.getElem?_toArray, List.getElem?_cons_zero]
  refine ⟨fun _ _ => trivial, ?_⟩
  rw [if_pos (wanted_plain _ _ rfl), recover_op rfl rfl]
  have hr : recoverD (c₀ :: cs) = some (wrongV p er, { c₀ with mode := .panicking [{ v := wrongV p er, recovered := true }] } :: cs) := by simp only [recoverD, hu]
  dsimp only
  rw [hr]
  unfold wpOpsSIn
  refine wpSIn_of_wpIn rfl (wpIn_wide.2 ?_)
  simp only [Act.put, List.setIfInBounds_toArray, List.set_cons_succ, List.set_cons_zero, wrongV]
  have c1 := h1.cell
  have c2 := h2.cell
  have c3 := h3.cell
  have f1 := h1.frozen
  have f2 := h2.frozen
  have f3 := h3.frozen
  have l1 := h1.lt
  have l2 := h2.lt
  have l3 := h3.lt
  have B1 := Lib.hid h1
  have B2 := Lib.hid h2
  have B3 := Lib.hid h3
  clear h1 h2 h3
  have hta := assert_wrong (Value.agg #[Value.int IntKind.i64 ↑p, Value.int IntKind.i64 ↑er]) w
  go_wp2_with fail
  have n1 : lB ≠ w.heap.size := by omega
  have n2 : aB ≠ w.heap.size := by omega
  have n3 : eB ≠ w.heap.size := by omega
  go_region
  have b1 := B1.out.set (.slice none 0 0)
  have b2 : Boxed (w.setCell ⟨lB, 0, none⟩ (.slice none 0 0)) aB 3 va := (Below.heap_setCell _ _ _ _ (Ne.symm d1)).trans B2.out
  have b2' := b2.set (.int .i64 p)
  have b3 : Boxed ((w.setCell ⟨lB, 0, none⟩ (.slice none 0 0)).setCell ⟨aB, 0, none⟩ (.int .i64 p)) eB 38 ve := (Below.heap_setCell _ _ _ _ (Ne.symm d3)).trans ((Below.heap_setCell _ _ _ _ (Ne.symm d2)).trans B3.out)
  have b3' := b3.set (.int .i64 er)
  have b1' : Boxed (((w.setCell ⟨lB, 0, none⟩ (.slice none 0 0)).setCell ⟨aB, 0, none⟩ (.int .i64 p)).setCell ⟨eB, 0, none⟩ (.int .i64 er)) lB 121 (.slice none 0 0) := (Below.heap_setCell _ _ _ _ d2).trans ((Below.heap_setCell _ _ _ _ d1).trans b1)
  have b2'' : Boxed (((w.setCell ⟨lB, 0, none⟩ (.slice none 0 0)).setCell ⟨aB, 0, none⟩ (.int .i64 p)).setCell ⟨eB, 0, none⟩ (.int .i64 er)) aB 3 (.int .i64 p) := (Below.heap_setCell _ _ _ _ d3).trans b2'
  refine ⟨rfl, .panicking [{ v := wrongV p er, recovered := true }], rfl, _, results_none rfl _ _ _, ⟨_, rfl⟩, rfl, b1'.alloc _, b2''.alloc _, b3'.alloc _, ?_⟩
  refine ⟨?_, rfl, rfl, rfl, fun j hj h1 h2 h3 => ?_⟩
  · show _ ≤ (((((w.setCell ⟨lB, 0, none⟩ (.slice none 0 0)).setCell ⟨aB, 0, none⟩ (.int .i64 p)).setCell ⟨eB, 0, none⟩ (.int .i64 er)).alloc _).heap.size)
    rw [World.size_alloc, size_set1, size_set1, size_set1]; omega
  · show (((((w.setCell ⟨lB, 0, none⟩ (.slice none 0 0)).setCell ⟨aB, 0, none⟩ (.int .i64 p)).setCell ⟨eB, 0, none⟩ (.int .i64 er)).alloc _).heap[j]?) = _
    rw [Below.heap_alloc _ _ _ (by rw [size_set1, size_set1, size_set1]; exact hj), Below.heap_setCell _ _ _ _ h3, Below.heap_setCell _ _ _ _ h2, Below.heap_setCell _ _ _ _ h1]
end Go.Proofs.YtjnimfnelacceaaGreatDoor
namespace Go.Proofs.YtjnimfnelacceaaGreatDoor
open Go.RowKit

attribute [local go_sem] Oper.semAt_some

theorem ownsRow_base {w : World} {b b' : Nat} {e : TypeId} {size : Nat} {v : Value} {n : Nat} {xs : List Value} (h : w.ownsRow b e size v n xs) (hb : b' ≤ b) : w.ownsRow b' e size v n xs := by
  refine ⟨h.1, h.2.imp id ?_⟩
  rintro ⟨g, cap, cur, h1, h2, h3⟩
  exact ⟨g, cap, cur, h1, by omega, h3⟩
set_option maxHeartbeats 400000 in
theorem seqPieces_any (cb : Nat) (w : World) :
    Calls Tryz.prog 108 #[.pointer (some ⟨cb, 0, none⟩)] w fun e w' => e = .returned (.func (.func 146) #[] #[.pointer (some ⟨w.heap.size, 0, none⟩)]) ∧ w' = w.alloc (.cells #[.pointer (some ⟨cb, 0, none⟩)] 172) := by
  go_enter Tryz.func108, Tryz.ntmps108
  go_wp2
  go_ret
  exact ⟨rfl, rfl⟩
/-- What Pieces gives. -/
def PiecesEnd (s : ByteArray) (w : World) (e : Ending) (w' : World) : Prop := Below w.heap.size w w' ∧
  if 20000 < s.size then e = .returned (.tuple #[.slice none 0 0, .int .i64 0, .int .i64 2]) else
  match (piecesL s.data.toList).2 with
  | some (p, er) => e = .returned (.tuple #[.slice none 0 0, .int .i64 p, .int .i64 er])
  | none => ∃ v, e = .returned (.tuple #[v, .int .i64 0, .int .i64 0]) ∧ w'.ownsRow w.heap.size 125 3 v (piecesL s.data.toList).1.length (rowPc (piecesL s.data.toList).1)

theorem results_pieces (lB aB eB : Nat) (u0 u1 u5 u6 u7 u8 u9 u10 u11 u12 u13 u14 u15 u16 u17 u18 u19 u20 u21 vl va ve : Value) (w : World) (h1 : Boxed w lB 121 vl) (h2 : Boxed w aB 3 va) (h3 : Boxed w eB 38 ve) :
    (results Tryz.f60 #[u0, u1, .pointer (some ⟨lB, 0, none⟩), .pointer (some ⟨aB, 0, none⟩), .pointer (some ⟨eB, 0, none⟩), u5, u6, u7, u8, u9, u10, u11, u12, u13, u14, u15, u16, u17, u18, u19, u20, u21]).run Tryz.prog w = .ok (.tuple #[vl, va, ve]) w := by
  have c1 := h1.cell
  have c2 := h2.cell
  have c3 := h3.cell
  clear h1 h2 h3
  simp [results, Tryz.results60, go_sem, c1, c2, c3]
theorem boxed_put {W : World} {D B : Nat} {t : TypeId} {v : Value} {o : Obj} (hD : W.heap[D]? = some (.deferred (some []))) (h : Boxed W B t v) : Boxed (W.putObj D o) B t v :=
  (World.putObj_heap_other (by rintro rfl; rw [show W.heap[B]? = _ from h] at hD; cases hD)).trans h
theorem leave_ok (lB aB eB D : Nat) (u0 u1 u5 u6 u7 u8 u9 u10 u11 u12 u13 u14 u15 u16 u17 u18 u19 u20 u21 vl va ve : Value) (w : World) (R : Ending → World → Prop) (hD : w.heap[D]? = some (.deferred (some []))) (h1 : Boxed w lB 121 vl) (h2 : Boxed w aB 3 va) (h3 : Boxed w eB 38 ve)
    (hR : R (.returned (.tuple #[vl, va, ve])) (w.putObj D (.deferred none))) :
    LeavesInM Fence.wide 3 Tryz.prog Tryz.f60 #[u0, u1, .pointer (some ⟨lB, 0, none⟩), .pointer (some ⟨aB, 0, none⟩), .pointer (some ⟨eB, 0, none⟩), u5, u6, u7, u8, u9, u10, u11, u12, u13, u14, u15, u16, u17, u18, u19, u20, u21] R [{ target := .collected D, args := #[] }, { target := .fn (.func 106) #[.pointer (some ⟨lB, 0, none⟩), .pointer (some ⟨aB, 0, none⟩), .pointer (some ⟨eB, 0, none⟩)], args := #[] }] .returning w := by
  refine ⟨by simp, .inl ⟨_, _, rfl, run_takeDeferred hD, ?_⟩⟩
  refine ⟨by simp, .inr ⟨fun _ => by omega, .func 106, #[.pointer (some ⟨lB, 0, none⟩), .pointer (some ⟨aB, 0, none⟩), .pointer (some ⟨eB, 0, none⟩)], 106, #[.pointer (some ⟨lB, 0, none⟩), .pointer (some ⟨aB, 0, none⟩), .pointer (some ⟨eB, 0, none⟩)], rfl, (by simp [invoke, go_sem, enters_of Tryz.func106 (by kernel_rfl) rfl]), fun _ _ => trivial, ?_⟩⟩
  refine (caught_no 2 lB aB eB _).mono ?_
  rintro e u w' ⟨⟨v, rfl⟩, hs, rfl⟩
  show LeavesInM _ _ _ _ _ _ [] (settle u) _
  rw [hs]
  exact ⟨_, results_pieces lB aB eB u0 u1 u5 u6 u7 u8 u9 u10 u11 u12 u13 u14 u15 u16 u17 u18 u19 u20 u21 vl va ve _ (boxed_put hD h1) (boxed_put hD h2) (boxed_put hD h3), hR⟩
theorem leave_panic (lB aB eB D p er : Nat) (u0 u1 u5 u6 u7 u8 u9 u10 u11 u12 u13 u14 u15 u16 u17 u18 u19 u20 u21 vl va ve : Value) (w : World) (R : Ending → World → Prop) (hD : w.heap[D]? = some (.deferred (some []))) (h1 : Boxed w lB 121 vl) (h2 : Boxed w aB 3 va) (h3 : Boxed w eB 38 ve)
    (d1 : lB ≠ aB) (d2 : lB ≠ eB) (d3 : aB ≠ eB)
    (hR : ∀ w', Kept3 (w.putObj D (.deferred none)) w' lB aB eB → R (.returned (.tuple #[.slice none 0 0, .int .i64 p, .int .i64 er])) w') :
    LeavesInM Fence.wide 3 Tryz.prog Tryz.f60 #[u0, u1, .pointer (some ⟨lB, 0, none⟩), .pointer (some ⟨aB, 0, none⟩), .pointer (some ⟨eB, 0, none⟩), u5, u6, u7, u8, u9, u10, u11, u12, u13, u14, u15, u16, u17, u18, u19, u20, u21] R [{ target := .collected D, args := #[] }, { target := .fn (.func 106) #[.pointer (some ⟨lB, 0, none⟩), .pointer (some ⟨aB, 0, none⟩), .pointer (some ⟨eB, 0, none⟩)], args := #[] }] (.panicking [{ v := wrongV p er, recovered := false }]) w := by
  refine ⟨by simp, .inl ⟨_, _, rfl, run_takeDeferred hD, ?_⟩⟩
  refine ⟨by simp, .inr ⟨fun _ => by omega, .func 106, #[.pointer (some ⟨lB, 0, none⟩), .pointer (some ⟨aB, 0, none⟩), .pointer (some ⟨eB, 0, none⟩)], 106, #[.pointer (some ⟨lB, 0, none⟩), .pointer (some ⟨aB, 0, none⟩), .pointer (some ⟨eB, 0, none⟩)], rfl, (by simp [invoke, go_sem, enters_of Tryz.func106 (by kernel_rfl) rfl]), fun _ _ => trivial, ?_⟩⟩
  refine (caught_yes 2 lB aB eB p er _ vl va ve (boxed_put hD h1) (boxed_put hD h2) (boxed_put hD h3) d1 d2 d3).mono ?_
  rintro e u w' ⟨⟨v, rfl⟩, hs, k1, k2, k3, k4⟩
  show LeavesInM _ _ _ _ _ _ [] (settle u) _
  rw [hs]
  exact ⟨_, results_pieces lB aB eB u0 u1 u5 u6 u7 u8 u9 u10 u11 u12 u13 u14 u15 u16 u17 u18 u19 u20 u21 _ _ _ _ k1 k2 k3, hR w' k4⟩

theorem three_sets {W : World} {lB aB eB base n : Nat} {vl va ve ul ua ue v : Value} {xs : List Value} (h1 : Boxed W lB 121 vl) (h2 : Boxed W aB 3 va) (h3 : Boxed W eB 38 ve) (d1 : lB ≠ aB) (d2 : lB ≠ eB) (d3 : aB ≠ eB)
    (hr : W.ownsRow base 125 3 v n xs) (S : World) (hS : S = ((W.setCell ⟨lB, 0, none⟩ ul).setCell ⟨aB, 0, none⟩ ua).setCell ⟨eB, 0, none⟩ ue) :
    Boxed S lB 121 ul ∧ Boxed S aB 3 ua ∧ Boxed S eB 38 ue ∧ S.ownsRow base 125 3 v n xs ∧ S.heap.size = W.heap.size ∧ S.os = W.os ∧ S.tape = W.tape ∧ S.output = W.output ∧ ∀ j, j ≠ lB → j ≠ aB → j ≠ eB → S.heap[j]? = W.heap[j]? := by
  subst hS
  have b1 := h1.set ul
  have b2 : Boxed (W.setCell ⟨lB, 0, none⟩ ul) aB 3 va := (Below.heap_setCell _ _ _ _ (Ne.symm d1)).trans h2
  have b3 : Boxed ((W.setCell ⟨lB, 0, none⟩ ul).setCell ⟨aB, 0, none⟩ ua) eB 38 ve := (Below.heap_setCell _ _ _ _ (Ne.symm d3)).trans ((Below.heap_setCell _ _ _ _ (Ne.symm d2)).trans h3)
  have r1 := hr.kept (grownBy_setCell' W lB ul) (.inr (h1.not_row (by decide) hr).symm)
  have r2 := r1.kept (grownBy_setCell' _ aB ua) (.inr (b2.not_row (by decide) r1).symm)
  have r3 := r2.kept (grownBy_setCell' _ eB ue) (.inr (b3.not_row (by decide) r2).symm)
  exact ⟨(Below.heap_setCell _ _ _ _ d2).trans ((Below.heap_setCell _ _ _ _ d1).trans b1), (Below.heap_setCell _ _ _ _ d3).trans (b2.set ua), b3.set ue, r3, by rw [size_set1, size_set1, size_set1], rfl, rfl, rfl,
    fun j a b c => by rw [Below.heap_setCell _ _ _ _ c, Below.heap_setCell _ _ _ _ b, Below.heap_setCell _ _ _ _ a]⟩

set_option maxRecDepth 100000 in
set_option maxHeartbeats 4000000 in
theorem pieces_any (s : ByteArray) (w : World) (hE : Env w) (hs : s.size ≤ maxLen) (h9 : 9 ≤ w.heap.size) : Calls Tryz.prog 60 #[.string s] w (PiecesEnd s w) := by
  unfold maxLen at hs
  refine (callsIn_wide (n := 3)).1 (callsIn_of_wp_marks Tryz.func60 rfl trivial ?_ rfl)
  simp only [Tryz.ntmps60, List.size_toArray, List.length_cons, List.length_nil, Nat.reduceAdd, Nat.reduceSub, Array.replicate_succ, Array.replicate_zero, List.push_toArray, List.append_toArray, List.nil_append, List.cons_append]
  refine wpIn_wide.2 ?_
  by_cases hbig : 20000 < s.size
  · have hd : decide ((20000 : Int) < s.size) = true := by simp; omega
    go_wp2_with fail
    refine ⟨_, results_pieces _ _ _ _ _ _ _ _ _ _ _ _ _ _ _ _ _ _ _ _ _ _ (.slice none 0 0) (.int .i64 0) (.int .i64 2) _ (((Boxed.new w 121 (.slice none 0 0)).alloc _).alloc _) ?_ ?_, ?_⟩
    · have := Boxed.new (w.alloc (.cells #[.slice none 0 0] 121)) 3 (.int .i64 0)
      rw [World.size_alloc] at this
      exact this.alloc _
    · have := Boxed.new ((w.alloc (.cells #[.slice none 0 0] 121)).alloc (.cells #[.int .i64 0] 3)) 38 (.int .i64 2)
      rw [World.size_alloc, World.size_alloc] at this
      exact this
    · refine ⟨(((Below.refl _ _).alloc (Nat.le_refl _) _).alloc (by simp) _).alloc (by simp; omega) _, ?_⟩
      rw [if_pos hbig]
  · have hd : decide ((20000 : Int) < s.size) = false := by simp; omega
    go_wp2_with fail
    refine (newTable_any _).mono ?_
    rintro e w1 ⟨rfl, hb1, ht1⟩
    go_wp2_with fail
    refine (seqPieces_any _ _).mono ?_
    rintro e w2 ⟨rfl, rfl⟩
    go_wp2_with fail
    have B1 : Boxed (((w.alloc (.cells #[.slice none 0 0] 121)).alloc (.cells #[.int .i64 0] 3)).alloc (.cells #[.int .i64 0] 38)) w.heap.size 121 (.slice none 0 0) := ((Boxed.new w 121 (.slice none 0 0)).alloc _).alloc _
    have B2 : Boxed (((w.alloc (.cells #[.slice none 0 0] 121)).alloc (.cells #[.int .i64 0] 3)).alloc (.cells #[.int .i64 0] 38)) (w.heap.size + 1) 3 (.int .i64 0) := by
      have := Boxed.new (w.alloc (.cells #[.slice none 0 0] 121)) 3 (.int .i64 0)
      rw [World.size_alloc] at this
      exact this.alloc _
    have B3 : Boxed (((w.alloc (.cells #[.slice none 0 0] 121)).alloc (.cells #[.int .i64 0] 3)).alloc (.cells #[.int .i64 0] 38)) (w.heap.size + 1 + 1) 38 (.int .i64 0) := by
      have := Boxed.new ((w.alloc (.cells #[.slice none 0 0] 121)).alloc (.cells #[.int .i64 0] 3)) 38 (.int .i64 0)
      rw [World.size_alloc, World.size_alloc] at this
      exact this
    have hw0 : Below w.heap.size w (((w.alloc (.cells #[.slice none 0 0] 121)).alloc (.cells #[.int .i64 0] 3)).alloc (.cells #[.int .i64 0] 38)) := (((Below.refl _ _).alloc (Nat.le_refl _) _).alloc (by simp) _).alloc (by simp; omega) _
    have hz0 : (((w.alloc (.cells #[.slice none 0 0] 121)).alloc (.cells #[.int .i64 0] 3)).alloc (.cells #[.int .i64 0] 38)).heap.size = w.heap.size + 3 := by simp
    generalize (((w.alloc (.cells #[.slice none 0 0] 121)).alloc (.cells #[.int .i64 0] 3)).alloc (.cells #[.int .i64 0] 38)) = w0 at *
    rw [show w.heap.size + 1 + 1 + 1 = w0.heap.size by omega]
    obtain ⟨wA, hwA⟩ : ∃ wA, wA = ((w1.alloc (.cells #[.string s, .int .i64 0, .pointer (some ⟨w0.heap.size, 0, none⟩), .int .i64 0, .int .i64 0, .int .i64 0] 178)).alloc (.cells #[.pointer (some ⟨w1.heap.size, 0, none⟩)] 172)) := ⟨_, rfl⟩
    rw [← hwA]
    have hA : Below w1.heap.size w1 wA := by rw [hwA]; exact ((Below.refl _ _).alloc (Nat.le_refl _) _).alloc (by simp) _
    have hzA : wA.heap.size = w1.heap.size + 2 := by rw [hwA]; simp
    have hz1 := hb1.size
    have hC : CutAt wA w1.heap.size w0.heap.size s 0 0 0 0 := by
      refine ⟨by rw [hwA]; simp [go_sem], by rw [hwA]; simp [go_sem], by rw [hwA]; simp [go_sem], by rw [hwA]; simp [go_sem], by rw [hwA]; simp [go_sem], by rw [hwA]; simp [go_sem], fun o => by rw [hwA]; simp [go_sem], ht1.below hA, by omega, by omega, by omega⟩
    have hX : wA.cell? ⟨w1.heap.size + 1, 0, none⟩ = some (.pointer (some ⟨w1.heap.size, 0, none⟩)) := by
      have b : Boxed wA (w1.heap.size + 1) 172 (.pointer (some ⟨w1.heap.size, 0, none⟩)) := by
        rw [hwA]
        have := Boxed.new (w1.alloc (.cells #[.string s, .int .i64 0, .pointer (some ⟨w0.heap.size, 0, none⟩), .int .i64 0, .int .i64 0, .int .i64 0] 178)) 172 (.pointer (some ⟨w1.heap.size, 0, none⟩))
        rw [World.size_alloc] at this
        exact this
      exact b.cell
    have hz1' : w0.heap.size < w1.heap.size := World.block_lt_of_cell? _ _ (ht1.at_ 0 0 (by omega) (by omega))
    have hb0A : Below w0.heap.size w0 wA := below_then hb1 hA
    have hEA : Env wA := (hE.below hw0).below hb0A
    have C1 : Boxed wA w.heap.size 121 (.slice none 0 0) := (hb0A.block _ B1.lt).trans B1
    have C2 : Boxed wA (w.heap.size + 1) 3 (.int .i64 0) := (hb0A.block _ B2.lt).trans B2
    have C3 : Boxed wA (w.heap.size + 1 + 1) 38 (.int .i64 0) := (hb0A.block _ B3.lt).trans B3
    have hbA : Below w.heap.size w wA := below_then hw0 hb0A
    clear hwA B1 B2 B3 hb1 ht1 hb0A hw0 hE hA
    refine (wpIn_wide (n := 3)).1 ?_
    refine wpIn_rangeFunc fun fn _ => ?_
    obtain ⟨tm, htm⟩ : ∃ tm : Array Value, tm = #[.string s, undef, .pointer (some ⟨w.heap.size, 0, none⟩), .pointer (some ⟨w.heap.size + 1, 0, none⟩), .pointer (some ⟨w.heap.size + 1 + 1, 0, none⟩), undef, .string s, .int .i64 s.size, .bool false,
      .func (.func 106) #[] #[.pointer (some ⟨w.heap.size, 0, none⟩), .pointer (some ⟨w.heap.size + 1, 0, none⟩), .pointer (some ⟨w.heap.size + 1 + 1, 0, none⟩)], .string s, .agg #[.string s, .int .i64 0], .pointer (some ⟨w0.heap.size, 0, none⟩),
      .agg #[.string s, .int .i64 0, .pointer (some ⟨w0.heap.size, 0, none⟩), .int .i64 0, .int .i64 0, .int .i64 0], .pointer (some ⟨w1.heap.size, 0, none⟩), .func (.func 146) #[] #[.pointer (some ⟨w1.heap.size + 1, 0, none⟩)], undef, undef, undef, undef, undef, undef] := ⟨_, rfl⟩
    obtain ⟨W1, hW1⟩ : ∃ W1, W1 = (wA.alloc (.deferred (some []))).alloc (.loop (pcRec fn wA.heap.size tm)) := ⟨_, rfl⟩
    refine ⟨wA.heap.size + 1, [{ target := .collected wA.heap.size, args := #[] }], W1, { target := .fn (.func 146) #[.pointer (some ⟨w1.heap.size + 1, 0, none⟩)], args := #[.func (.yield (wA.heap.size + 1)) #[] #[]] }, W1, 146,
      #[.func (.yield (wA.heap.size + 1)) #[] #[], .pointer (some ⟨w1.heap.size + 1, 0, none⟩)], W1, ?_, ?_, fun _ _ => trivial, ?_, fun _ => by omega, callsIn_wide.2 ?_⟩
    · rw [hW1, htm]; exact run_enterLoop_outer _ _ _ _ _
    · simp [resolve, go_sem]
    · simp [invoke, go_sem, enters_of Tryz.func146 (by kernel_rfl) rfl]
    have hb1 : Below wA.heap.size wA W1 := by rw [hW1]; exact ((Below.refl _ _).alloc (Nat.le_refl _) _).alloc (by simp) _
    have hL1 : W1.heap[wA.heap.size + 1]? = some (.loop (pcRec fn wA.heap.size tm)) := by
      rw [hW1]; have := World.alloc_heap_new (wA.alloc (.deferred (some []))) (.loop (pcRec fn wA.heap.size tm)); rwa [World.size_alloc] at this
    have hD1 : W1.heap[wA.heap.size]? = some (.deferred (some [])) := by
      rw [hW1]; exact (Below.heap_alloc _ _ _ (by simp)).trans (World.alloc_heap_new wA _)
    have hzW : W1.heap.size = wA.heap.size + 2 := by rw [hW1]; simp
    clear hW1
    refine (pieces1_any 3 (wA.heap.size + 1) w.heap.size fn wA.heap.size w1.heap.size w0.heap.size (w1.heap.size + 1) (pcRec fn wA.heap.size tm) s W1 (by omega) (fun base v k xs x W h1 h2 h3 h4 h5 => ?_) (hEA.below hb1) (hC.below hb1) (below_cell hb1 hX) ((hb1.block _ C1.lt).trans C1) hL1
      (by omega) (by omega) (by omega) (by omega) (by omega) (by omega)).mono ?_
    · subst htm
      exact round_any 2 base _ _ fn _ _ _ _ _ _ _ _ _ _ _ _ _ _ _ _ _ _ _ _ _ _ v k xs x W h1 h2 h3 h4 h5
    · rintro e W2 ⟨base, hbase, hK, hend⟩
      have C2' : Boxed W2 (w.heap.size + 1) 3 (.int .i64 0) := (hK.block _ (by omega) (by omega) (by omega) (by omega)).trans ((hb1.block _ C2.lt).trans C2)
      have C3' : Boxed W2 (w.heap.size + 1 + 1) 38 (.int .i64 0) := (hK.block _ (by omega) (by omega) (by omega) (by omega)).trans ((hb1.block _ C3.lt).trans C3)
      have hD2 : W2.heap[wA.heap.size]? = some (.deferred (some [])) := (hK.block _ (by omega) (by omega) (by omega) (by omega)).trans hD1
      have hbe : Below w.heap.size w W2 := ⟨hK.os.trans (hb1.os.trans hbA.os), hK.tape.trans (hb1.tape.trans hbA.tape), hK.output.trans (hb1.output.trans hbA.output), by have := hK.size; omega, fun j hj => (hK.block j (by omega) (by omega) (by omega) (by omega)).trans ((hb1.block j (by omega)).trans (hbA.block j hj))⟩
      cases hpc : (piecesL s.data.toList).2 with
      | some q =>
        obtain ⟨p, er⟩ := q
        rw [hpc] at hend
        simp only at hend
        obtain ⟨rfl, vl, hvl⟩ := hend
        show LeavesInM _ _ _ _ _ _ _ _ _
        refine leave_panic _ _ _ wA.heap.size p er _ _ _ _ _ _ _ _ _ _ _ _ _ _ _ _ _ _ _ vl _ _ W2 _ hD2 hvl C2' C3' (by omega) (by omega) (by omega) fun w' hk => ?_
        refine ⟨⟨hk.os.trans hbe.os, hk.tape.trans hbe.tape, hk.output.trans hbe.output, by have := hk.size; have := hbe.size; simp at *; omega, fun j hj => (hk.block j (by simp; have := hbe.size; omega) (by omega) (by omega) (by omega)).trans ((World.putObj_heap_other (by omega)).trans (hbe.block j hj))⟩, ?_⟩
        rw [if_neg hbig, hpc]
      | none =>
        rw [hpc] at hend
        obtain ⟨⟨v, rfl⟩, hL2, vl, hvl, hrow⟩ := hend
        refine ⟨none, _, run_endLoop hL2 (by simp [pcRec]), ?_⟩
        have bp : ∀ {B t v}, Boxed W2 B t v → Boxed (W2.putObj (wA.heap.size + 1) (.loop { (pcRec fn wA.heap.size tm) with state := .exhausted })) B t v := fun {B t v} h =>
          (World.putObj_heap_other (by rintro rfl; rw [show W2.heap[_]? = _ from h] at hL2; cases hL2)).trans h
        have D1 := bp hvl
        have D2 := bp C2'
        have D3 := bp C3'
        have hr1 : (W2.putObj (wA.heap.size + 1) (.loop { (pcRec fn wA.heap.size tm) with state := .exhausted })).ownsRow base 125 3 vl (piecesL s.data.toList).1.length (rowPc (piecesL s.data.toList).1) := by
          refine hrow.kept (grownBy_putObj' _ _ _) ?_
          rcases hrow.2 with ⟨rfl, _⟩ | ⟨g, cap, cur, rfl, _, hgb, _⟩
          · exact .inl rfl
          · refine .inr fun e => ?_
            simp only [Value.ownBlock, Option.some.injEq] at e
            subst e
            rw [hL2] at hgb; cases hgb
        have hD3 : (W2.putObj (wA.heap.size + 1) (.loop { (pcRec fn wA.heap.size tm) with state := .exhausted })).heap[wA.heap.size]? = some (.deferred (some [])) := (World.putObj_heap_other (by omega)).trans hD2
        have hbe3 : Below w.heap.size w (W2.putObj (wA.heap.size + 1) (.loop { (pcRec fn wA.heap.size tm) with state := .exhausted })) := ⟨hbe.os, hbe.tape, hbe.output, by simp; exact hbe.size, fun j hj => (World.putObj_heap_other (by omega)).trans (hbe.block j hj)⟩
        dsimp only
        generalize (W2.putObj (wA.heap.size + 1) (.loop { (pcRec fn wA.heap.size tm) with state := .exhausted })) = W3 at *
        have hvs : (∃ g cap, vl = .slice (some ⟨g, 0, none⟩) (piecesL s.data.toList).1.length cap) ∨ vl = .slice none 0 0 := by
          rcases hr1.2 with ⟨h, _⟩ | ⟨g, cap, _, h, _⟩
          · exact .inr h
          · exact .inl ⟨g, cap, h⟩
        generalize hN : (piecesL s.data.toList).1.length = N at *
        have KN := Lib.hid hN
        have KP := Lib.hid hpc
        have K1 := Lib.hid D1
        have K2 := Lib.hid D2
        have K3 := Lib.hid D3
        have c1 := D1.cell
        have c2 := D2.cell
        have c3 := D3.cell
        have f1 := D1.frozen
        have f2 := D2.frozen
        have f3 := D3.frozen
        have KR := Lib.hid hr1
        have KD := Lib.hid hD3
        have KB := Lib.hid hbe3
        clear hN hpc D1 D2 D3 hr1 hD3 hbe3 bp hrow hvl hL2 C2' C3' hD2 hbe hK hb1 hL1 hD1 C1 C2 C3 hEA hbA hC hX htm
        rcases hvs with ⟨g, cap, rfl⟩ | rfl
        · skip
          go_wp2_with fail
          obtain ⟨S, hS⟩ : ∃ S, S = ((W3.setCell ⟨w.heap.size, 0, none⟩ (.slice (some ⟨g, 0, none⟩) N cap)).setCell ⟨w.heap.size + 1, 0, none⟩ (.int .i64 0)).setCell ⟨w.heap.size + 1 + 1, 0, none⟩ (.int .i64 0) := ⟨_, rfl⟩
          obtain ⟨g1, g2, g3, g4, g5, g6, g7, g8, g9⟩ := three_sets K1.out K2.out K3.out (by omega) (by omega) (by omega) KR.out S hS
          rw [← hS]
          show LeavesInM _ _ _ _ _ _ _ _ _
          refine leave_ok _ _ _ wA.heap.size _ _ _ _ _ _ _ _ _ _ _ _ _ _ _ _ _ _ _ _ _ _ S _ ((g9 _ (by omega) (by omega) (by omega)).trans KD.out) g1 g2 g3 ?_
          refine ⟨⟨g6.trans KB.out.os, g7.trans KB.out.tape, g8.trans KB.out.output, by simp [g5]; exact KB.out.size, fun j hj => (World.putObj_heap_other (by omega)).trans ((g9 j (by omega) (by omega) (by omega)).trans (KB.out.block j hj))⟩, ?_⟩
          rw [if_neg hbig, KP.out]
          refine ⟨_, rfl, ?_⟩
          rw [KN.out]
          refine ownsRow_base (g4.kept (grownBy_putObj' _ _ _) ?_) (by omega)
          right
          intro e
          simp only [Value.ownBlock, Option.some.injEq] at e
          subst e
          rcases g4.2 with ⟨h, _⟩ | ⟨g', cap', cur, h, _, hgb, _⟩
          · cases h
          · injection h with h _ _
            injection h with h
            injection h with h
            subst h
            have := (g9 _ (by omega) (by omega) (by omega)).trans KD.out
            rw [this] at hgb; cases hgb
        · skip
          go_wp2_with fail
          obtain ⟨S, hS⟩ : ∃ S, S = ((W3.setCell ⟨w.heap.size, 0, none⟩ (.slice none 0 0)).setCell ⟨w.heap.size + 1, 0, none⟩ (.int .i64 0)).setCell ⟨w.heap.size + 1 + 1, 0, none⟩ (.int .i64 0) := ⟨_, rfl⟩
          obtain ⟨g1, g2, g3, g4, g5, g6, g7, g8, g9⟩ := three_sets K1.out K2.out K3.out (by omega) (by omega) (by omega) KR.out S hS
          rw [← hS]
          show LeavesInM _ _ _ _ _ _ _ _ _
          refine leave_ok _ _ _ wA.heap.size _ _ _ _ _ _ _ _ _ _ _ _ _ _ _ _ _ _ _ _ _ _ S _ ((g9 _ (by omega) (by omega) (by omega)).trans KD.out) g1 g2 g3 ?_
          refine ⟨⟨g6.trans KB.out.os, g7.trans KB.out.tape, g8.trans KB.out.output, by simp [g5]; exact KB.out.size, fun j hj => (World.putObj_heap_other (by omega)).trans ((g9 j (by omega) (by omega) (by omega)).trans (KB.out.block j hj))⟩, ?_⟩
          rw [if_neg hbig, KP.out]
          refine ⟨_, rfl, ?_⟩
          rw [KN.out]
          refine ownsRow_base (g4.kept (grownBy_putObj' _ _ _) ?_) (by omega)
          exact .inl rfl
end Go.Proofs.YtjnimfnelacceaaGreatDoor
namespace Go.Proofs.YtjnimfnelacceaaGreatDoor
open Go.RowKit

/-- A token: kind, number, text, place. -/
structure Tk where
  kind : Nat
  num : Int
  text : List UInt8
  at_ : Nat
def tokOf (l : List UInt8) (p : Pc) : Tk := ⟨p.kind, if p.kind = 2 then (valueL ((l.drop p.at_).take p.len)).1 else 0, (l.drop p.at_).take p.len, p.at_⟩
def toksL (l : List UInt8) (ps : List Pc) : List Tk := (ps.filter fun p => decide (p.kind ≤ 6)).map (tokOf l)
def encTk (t : Tk) : List Value := [.int .i64 t.kind, .int .i64 t.num, .string ⟨⟨t.text⟩⟩, .int .i64 t.at_, .int .i64 0]
def rowTk (l : List Tk) : List Value := l.flatMap encTk
theorem rowTk_snoc (l : List Tk) (x : Tk) : rowTk (l ++ [x]) = rowTk l ++ encTk x := by simp [rowTk]
theorem rowTk_length (l : List Tk) : (rowTk l).length = l.length * 5 := by
  induction l with
  | nil => rfl
  | cons x l ih => simp only [rowTk, List.flatMap_cons, List.length_append, List.length_cons] at *; rw [ih]; simp [encTk]; omega
theorem rowPc_length (l : List Pc) : (rowPc l).length = l.length * 3 := by
  induction l with
  | nil => rfl
  | cons x l ih => simp only [rowPc, List.flatMap_cons, List.length_append, List.length_cons] at *; rw [ih]; simp [encPc]; omega
theorem rowPc_get {l : List Pc} {k : Nat} {x : Pc} (h : l[k]? = some x) : (rowPc l)[k * 3]? = some (.int .i64 x.kind) ∧ (rowPc l)[k * 3 + 1]? = some (.int .i64 x.at_) ∧ (rowPc l)[k * 3 + 2]? = some (.int .i64 x.len) := by
  induction l generalizing k with
  | nil => cases h
  | cons y l ih =>
    cases k with
    | zero => injection h with h; subst h; exact ⟨rfl, rfl, rfl⟩
    | succ k =>
      obtain ⟨h1, h2, h3⟩ := ih (show l[k]? = some x from h)
      have e : ∀ j, (rowPc (y :: l))[(k + 1) * 3 + j]? = (rowPc l)[k * 3 + j]? := fun j => by
        have : (k + 1) * 3 + j = (encPc y).length + (k * 3 + j) := by simp [encPc]; omega
        rw [this]
        show (encPc y ++ rowPc l)[_]? = _
        rw [List.getElem?_append_right (by omega), Nat.add_sub_cancel_left]
      exact ⟨(e 0).trans h1, (e 1).trans h2, (e 2).trans h3⟩
theorem toksL_snoc_in (l : List UInt8) (ps : List Pc) (x : Pc) (h : x.kind ≤ 6) : toksL l (ps ++ [x]) = toksL l ps ++ [tokOf l x] := by
  simp [toksL, List.filter_append, h]
theorem toksL_snoc_out (l : List UInt8) (ps : List Pc) (x : Pc) (h : ¬ x.kind ≤ 6) : toksL l (ps ++ [x]) = toksL l ps := by
  simp [toksL, List.filter_append, h]
theorem toksL_le (l : List UInt8) (ps : List Pc) : (toksL l ps).length ≤ ps.length := by
  simp only [toksL, List.length_map]; exact List.length_filter_le _ _
theorem cutL_in (l : List UInt8) : ∀ (f : Nat) (c : Cu), goodCu l c → ∀ x ∈ (cutL l f c).1, x.at_ + x.len ≤ l.length ∧ x.kind ≤ 8
  | 0, c, _ => by intro x hx; cases hx
  | f + 1, c, hg => by
    intro x hx
    simp only [cutL] at hx
    split at hx
    · rename_i hp
      split at hx
      · cases hx
      · rename_i y c' hs
        obtain ⟨g1, g2, g3, g4, g5⟩ := stepL_good hg hp hs
        rcases List.mem_cons.1 hx with rfl | hx
        · exact ⟨by have := g1.1; omega, g5⟩
        · exact cutL_in l f c' g1 x hx
    · cases hx
theorem cutL_len (l : List UInt8) : ∀ (f : Nat) (c : Cu), goodCu l c → (cutL l f c).1.length + c.p ≤ l.length
  | 0, c, hg => by simp only [cutL, List.length_nil]; have := hg.1; omega
  | f + 1, c, hg => by
    simp only [cutL]
    split
    · rename_i hp
      split
      · simp only [List.length_nil]; omega
      · rename_i y c' hs
        obtain ⟨g1, g2, g3, g4, g5⟩ := stepL_good hg hp hs
        have := cutL_len l f c' g1
        simp only [List.length_cons]; omega
    · simp only [List.length_nil]; have := hg.1; omega
theorem piecesL_in (l : List UInt8) : ∀ x ∈ (piecesL l).1, x.at_ + x.len ≤ l.length ∧ x.kind ≤ 8 := cutL_in l _ _ ⟨Nat.zero_le _, Nat.zero_le _, Nat.le_refl _⟩
theorem piecesL_len (l : List UInt8) : (piecesL l).1.length ≤ l.length := by
  have := cutL_len l (l.length + 1) ⟨0, 0, 0, 0, 0⟩ ⟨Nat.zero_le _, Nat.zero_le _, Nat.le_refl _⟩
  exact Nat.le_of_add_right_le this
/-- What Scan gives. -/
def ScanEnd (s : ByteArray) (w : World) (e : Ending) (w' : World) : Prop := Below w.heap.size w w' ∧
  if 20000 < s.size then e = .returned (.tuple #[.slice none 0 0, .int .i64 0, .int .i64 2]) else
  match (piecesL s.data.toList).2 with
  | some (p, er) => e = .returned (.tuple #[.slice none 0 0, .int .i64 p, .int .i64 er])
  | none => ∃ v, e = .returned (.tuple #[v, .int .i64 0, .int .i64 0]) ∧ w'.ownsRow w.heap.size 127 5 v (toksL s.data.toList (piecesL s.data.toList).1).length (rowTk (toksL s.data.toList (piecesL s.data.toList).1))
theorem tkInfo : (Tryz.prog.info? 127).map (fun i => (i.zero, i.size, i.bytes)) = some (some (.agg #[.int .i64 0, .int .i64 0, .string ⟨#[]⟩, .int .i64 0, .int .i64 0]), 5, 48) := by kernel_rfl
/-- Errors never have the number 0. -/
theorem cL_er : ∀ (l : List UInt8) (i : Nat) (o : Int) (er : Nat), cL l i o = .inr er → er ≠ 0
  | [], _, _, er, h => by simp [cL] at h; omega
  | [_], _, _, er, h => by simp [cL] at h; omega
  | a :: b :: r, i, o, er, h => by
    rw [cL] at h
    split at h
    · split at h
      · injection h with h; omega
      · exact cL_er r _ _ _ h
    · split at h
      · split at h
        · cases h
        · exact cL_er r _ _ _ h
      · exact cL_er (b :: r) _ _ _ h
theorem commentL_er {l : List UInt8} {er : Nat} (h : commentL l = .inr er) : er ≠ 0 := by
  unfold commentL at h
  split at h
  · split at h <;> cases h
  · exact cL_er _ _ _ _ h
theorem checkL_er {l : List UInt8} {p k n er : Nat} (h : checkL l p k n = some er) : er ≠ 0 := by
  unfold checkL at h
  repeat' split at h
  all_goals first | (cases h; done) | (injection h with h; omega)
theorem nextL_er {l : List UInt8} {p : Nat} {op : Bool} {er : Nat} (h : nextL l p op = .inr er) : er ≠ 0 := by
  unfold nextL at h
  split at h
  · split at h
    · cases h
    · injection h with h; subst h; exact commentL_er (by assumption)
  · split at h
    · cases h
    · split at h
      · cases h
      · injection h with h; subst h; exact checkL_er (by assumption)
theorem cutL_er (l : List UInt8) : ∀ (f : Nat) (c : Cu) (p er : Nat), (cutL l f c).2 = some (p, er) → er ≠ 0
  | 0, c, p, er, h => by cases h
  | f + 1, c, p, er, h => by
    simp only [cutL] at h
    split at h
    · split at h
      · rename_i e hs
        injection h with h
        injection h with _ h
        subst h
        unfold stepL at hs
        split at hs
        · injection hs with hs; subst hs; exact nextL_er (by assumption)
        · split at hs
          · split at hs
            · injection hs with hs; omega
            · cases hs
          · cases hs
      · exact cutL_er l f _ p er h
    · cases h
theorem piecesL_er {l : List UInt8} {p er : Nat} (h : (piecesL l).2 = some (p, er)) : er ≠ 0 := cutL_er l _ _ p er h
end Go.Proofs.YtjnimfnelacceaaGreatDoor
