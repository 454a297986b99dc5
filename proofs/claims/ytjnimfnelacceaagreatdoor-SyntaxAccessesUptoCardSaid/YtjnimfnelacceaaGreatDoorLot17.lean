/- Definitions: SameClass (of classes without slots), SameDef, SameDefs. Lists of definitions: SameDefs. A region whose operations make memory in an order that is drawn: each operation is shown once. -/
import Derived.Test.YtjnimfnelacceaaGreatDoorLot15
import Derived.Test.YtjnimfnelacceaaGreatDoorLot16
import Derived.Laws.CopyOwn
set_option linter.unusedSimpArgs false
set_option linter.unusedVariables false
namespace Go.Proofs.YtjnimfnelacceaaGreatDoor
open Go.RowKit Go.Proofs.YtjnimfnelacceaaGreatDoorW.PrintLast

set_option maxRecDepth 100000 in
set_option maxHeartbeats 8000000 in
theorem sameClass_any {w : World} (cn : ByteArray) (ns : Nat) (sp sq : Option Addr) (cs ds : Nat) (hs : StrsAl w ns sp sq) (tp tq : Option Addr) (ct dt : Nat) (ca cx : Bool) :
    Calls Tryz.prog 40 #[.agg #[.string cn, .slice sp ns cs, .slice tp 0 ct, .bool ca, .bool cx], .agg #[.string cn, .slice sq ns ds, .slice tq 0 dt, .bool ca, .bool cx]] w fun e w'' => e = .returned (.bool true) ∧ Below w.heap.size w w'' := by
  have HS := Lib.hid hs
  have e1 : (ca != ca) = false := by cases ca <;> rfl
  have e2 : (cx != cx) = false := by cases cx <;> rfl
  clear hs
  go_enter Tryz.func40, Tryz.ntmps40
  go_wp2_with fail
  have hb0 : Below w.heap.size w ((w.alloc (.cells #[.string cn, .slice sp ns cs, .slice tp 0 ct, .bool ca, .bool cx] 25)).alloc (.cells #[.string cn, .slice sq ns ds, .slice tq 0 dt, .bool ca, .bool cx] 25)) := ((Below.refl _ _).alloc (Nat.le_refl _) _).alloc (by simp) _
  refine (sameStrings_any cs ds (HS.out.under hb0)).mono ?_
  rintro e w1 ⟨rfl, hb1⟩
  have x2 : w1.cell? ⟨w.heap.size, 2, none⟩ = some (.slice tp 0 ct) := below_cell hb1 (by simp [go_sem])
  have y2 : w1.cell? ⟨w.heap.size + 1, 2, none⟩ = some (.slice tq 0 dt) := below_cell hb1 (by simp [go_sem])
  have x3 : w1.cell? ⟨w.heap.size, 3, none⟩ = some (.bool ca) := below_cell hb1 (by simp [go_sem])
  have y3 : w1.cell? ⟨w.heap.size + 1, 3, none⟩ = some (.bool ca) := below_cell hb1 (by simp [go_sem])
  have x4 : w1.cell? ⟨w.heap.size, 4, none⟩ = some (.bool cx) := below_cell hb1 (by simp [go_sem])
  have y4 : w1.cell? ⟨w.heap.size + 1, 4, none⟩ = some (.bool cx) := below_cell hb1 (by simp [go_sem])
  have HB1 := Lib.hid (hb0.trans (hb1.mono hb0.size))
  clear hb0 hb1
  go_wp2
  go_loopw [5] (fun v5 wr => v5 = .int .i64 0 ∧ wr = w1) (fun v5 _ => 0)
  case atStart => exact ⟨rfl, rfl⟩
  case round =>
    obtain ⟨rfl, rfl⟩ := hrel
    go_wp2
    go_ret
    exact ⟨rfl, HB1.out⟩
/-- Two values of type Def (whose classes have no slots) that are deeply equal. -/
inductive DfAl (w : World) : Value → Value → Prop
  | mk (k : Int) (cn : ByteArray) (ns : Nat) (sp sq : Option Addr) (cs ds : Nat) (hs : StrsAl w ns sp sq) (tp tq : Option Addr) (ct dt : Nat) (ca cx : Bool) (gn : ByteArray) (ga : Int) (gs : Bool) (mg : ByteArray) (np : Nat) (pp pq : Option Addr) (cp dp : Nat) (hp : ParsAl w np pp pq)
    (r0 r1 r2 r3 r4 ρ0 ρ1 ρ2 ρ3 ρ4 : Value) (hr : TyAl w (.agg #[r0, r1, r2, r3, r4]) (.agg #[ρ0, ρ1, ρ2, ρ3, ρ4])) (b0 b1 b2 b3 b4 b5 b6 b7 b8 b9 b10 β0 β1 β2 β3 β4 β5 β6 β7 β8 β9 β10 : Value) (hb : ExAl w (.agg #[b0, b1, b2, b3, b4, b5, b6, b7, b8, b9, b10]) (.agg #[β0, β1, β2, β3, β4, β5, β6, β7, β8, β9, β10]))
    (dg : ByteArray) (ny : Nat) (yp yq : Option Addr) (cy dy : Nat) (hy : TysAl w ny yp yq) (nm : ByteArray) (e0 e1 e2 e3 e4 e5 e6 e7 e8 e9 e10 ε0 ε1 ε2 ε3 ε4 ε5 ε6 ε7 ε8 ε9 ε10 : Value) (he : ExAl w (.agg #[e0, e1, e2, e3, e4, e5, e6, e7, e8, e9, e10]) (.agg #[ε0, ε1, ε2, ε3, ε4, ε5, ε6, ε7, ε8, ε9, ε10])) :
    DfAl w (.agg #[.int .i64 k, .string cn, .slice sp ns cs, .slice tp 0 ct, .bool ca, .bool cx, .string gn, .int .i64 ga, .bool gs, .string mg, .slice pp np cp, r0, r1, r2, r3, r4, b0, b1, b2, b3, b4, b5, b6, b7, b8, b9, b10, .string dg, .slice yp ny cy, .string nm, e0, e1, e2, e3, e4, e5, e6, e7, e8, e9, e10])
      (.agg #[.int .i64 k, .string cn, .slice sq ns ds, .slice tq 0 dt, .bool ca, .bool cx, .string gn, .int .i64 ga, .bool gs, .string mg, .slice pq np dp, ρ0, ρ1, ρ2, ρ3, ρ4, β0, β1, β2, β3, β4, β5, β6, β7, β8, β9, β10, .string dg, .slice yq ny dy, .string nm, ε0, ε1, ε2, ε3, ε4, ε5, ε6, ε7, ε8, ε9, ε10])
theorem DfAl.under {w w' : World} {v u : Value} (h : DfAl w v u) (h1 : Below w.heap.size w w') : DfAl w' v u := by
  cases h with
  | mk k cn ns sp sq cs ds hs tp tq ct dt ca cx gn ga gs mg np pp pq cp dp hp r0 r1 r2 r3 r4 ρ0 ρ1 ρ2 ρ3 ρ4 hr b0 b1 b2 b3 b4 b5 b6 b7 b8 b9 b10 β0 β1 β2 β3 β4 β5 β6 β7 β8 β9 β10 hb dg ny yp yq cy dy hy nm e0 e1 e2 e3 e4 e5 e6 e7 e8 e9 e10 ε0 ε1 ε2 ε3 ε4 ε5 ε6 ε7 ε8 ε9 ε10 he =>
    exact DfAl.mk k cn ns sp sq cs ds (hs.under h1) tp tq ct dt ca cx gn ga gs mg np pp pq cp dp (hp.under h1) r0 r1 r2 r3 r4 ρ0 ρ1 ρ2 ρ3 ρ4 (hr.under h1) b0 b1 b2 b3 b4 b5 b6 b7 b8 b9 b10 β0 β1 β2 β3 β4 β5 β6 β7 β8 β9 β10 (hb.under h1) dg ny yp yq cy dy (hy.under h1) nm e0 e1 e2 e3 e4 e5 e6 e7 e8 e9 e10 ε0 ε1 ε2 ε3 ε4 ε5 ε6 ε7 ε8 ε9 ε10 (he.under h1)

theorem box_sub {w : World} {b : Nat} {X M : Array Value} (h : BoxAt w b X) (o n : Nat) (hM : M = X.extract o (o + n)) : ∀ j v, M[j]? = some v → w.cell? ⟨b, o + j, none⟩ = some v := by
  intro j v hj
  subst hM
  rw [Array.getElem?_extract] at hj
  split at hj
  · exact h _ _ hj
  · cases hj
set_option maxRecDepth 100000 in
set_option maxHeartbeats 8000000 in
theorem sameDef_any {w : World} {v u : Value} (h : DfAl w v u) : Calls Tryz.prog 16 #[v, u] w fun e w'' => e = .returned (.bool true) ∧ Below w.heap.size w w'' := by
  cases h with
  | mk k cn ns sp sq cs ds hs tp tq ct dt ca cx gn ga gs mg np pp pq cp dp hp r0 r1 r2 r3 r4 ρ0 ρ1 ρ2 ρ3 ρ4 hr b0 b1 b2 b3 b4 b5 b6 b7 b8 b9 b10 β0 β1 β2 β3 β4 β5 β6 β7 β8 β9 β10 hb dg ny yp yq cy dy hy nm e0 e1 e2 e3 e4 e5 e6 e7 e8 e9 e10 ε0 ε1 ε2 ε3 ε4 ε5 ε6 ε7 ε8 ε9 ε10 he =>
    have HS := Lib.hid hs
    have HP := Lib.hid hp
    have HR := Lib.hid hr
    have HB := Lib.hid hb
    have HY := Lib.hid hy
    have HE := Lib.hid he
    clear hs hp hy he
    cases hr with
    | mk rk rl rh rs rn rp rq rc rd RA RB hrn hRA hRB hr' =>
    cases hb with
    | mk bk bnum bs t0 t1 t2 t3 t4 u0 u1 u2 u3 u4 ht bnp bpp bqp bcp bdp bhp bnk bpk bqk bck bdk bhk bn bp bq bc bd BA BB hbn hBA hBB hb' =>
    cases ht with
    | mk tk tl th ts tn tp' tq' tc td TA TB htn hTA hTB ht' =>
    clear hrn hRA hRB hr' bhp bhk hbn hBA hBB hb' htn hTA hTB ht'
    go_enter Tryz.func16, Tryz.ntmps16
    go_upto_region 1 with fail
    refine wp_at (fun wx => Below w.heap.size w wx ∧ BoxAt wx w.heap.size #[.int .i64 k, .string cn, .slice sp ns cs, .slice tp 0 ct, .bool ca, .bool cx, .string gn, .int .i64 ga, .bool gs, .string mg, .slice pp np cp, .int .i64 rk, .string rs, .int .i64 rl, .int .i64 rh, .slice rp rn rc, .int .i64 bk, .string bs, .int .i64 bnum, .int .i64 tk, .string ts, .int .i64 tl, .int .i64 th, .slice tp' tn tc, .slice bpp bnp bcp, .slice bpk bnk bck, .slice bp bn bc, .string dg, .slice yp ny cy, .string nm, e0, e1, e2, e3, e4, e5, e6, e7, e8, e9, e10] ∧ BoxAt wx (w.heap.size + 1) #[.int .i64 k, .string cn, .slice sq ns ds, .slice tq 0 dt, .bool ca, .bool cx, .string gn, .int .i64 ga, .bool gs, .string mg, .slice pq np dp, .int .i64 rk, .string rs, .int .i64 rl, .int .i64 rh, .slice rq rn rd, .int .i64 bk, .string bs, .int .i64 bnum, .int .i64 tk, .string ts, .int .i64 tl, .int .i64 th, .slice tq' tn td, .slice bqp bnp bdp, .slice bqk bnk bdk, .slice bq bn bd, .string dg, .slice yq ny dy, .string nm, ε0, ε1, ε2, ε3, ε4, ε5, ε6, ε7, ε8, ε9, ε10]) ⟨((Below.refl _ _).alloc (Nat.le_refl _) _).alloc (by simp) _, (box_new w _ _).under ((Below.refl _ _).alloc (Nat.le_refl _) _), by have := box_new (w.alloc (.cells #[.int .i64 k, .string cn, .slice sp ns cs, .slice tp 0 ct, .bool ca, .bool cx, .string gn, .int .i64 ga, .bool gs, .string mg, .slice pp np cp, .int .i64 rk, .string rs, .int .i64 rl, .int .i64 rh, .slice rp rn rc, .int .i64 bk, .string bs, .int .i64 bnum, .int .i64 tk, .string ts, .int .i64 tl, .int .i64 th, .slice tp' tn tc, .slice bpp bnp bcp, .slice bpk bnk bck, .slice bp bn bc, .string dg, .slice yp ny cy, .string nm, e0, e1, e2, e3, e4, e5, e6, e7, e8, e9, e10] 59)) #[.int .i64 k, .string cn, .slice sq ns ds, .slice tq 0 dt, .bool ca, .bool cx, .string gn, .int .i64 ga, .bool gs, .string mg, .slice pq np dp, .int .i64 rk, .string rs, .int .i64 rl, .int .i64 rh, .slice rq rn rd, .int .i64 bk, .string bs, .int .i64 bnum, .int .i64 tk, .string ts, .int .i64 tl, .int .i64 th, .slice tq' tn td, .slice bqp bnp bdp, .slice bqk bnk bdk, .slice bq bn bd, .string dg, .slice yq ny dy, .string nm, ε0, ε1, ε2, ε3, ε4, ε5, ε6, ε7, ε8, ε9, ε10] 59; simpa using this⟩ ?_
    rintro w0 ⟨hb0, hx0, hy0⟩
    generalize hV0 : Value.agg #[.int .i64 k, .string cn, .slice sp ns cs, .slice tp 0 ct, .bool ca, .bool cx, .string gn, .int .i64 ga, .bool gs, .string mg, .slice pp np cp, .int .i64 rk, .string rs, .int .i64 rl, .int .i64 rh, .slice rp rn rc, .int .i64 bk, .string bs, .int .i64 bnum, .int .i64 tk, .string ts, .int .i64 tl, .int .i64 th, .slice tp' tn tc, .slice bpp bnp bcp, .slice bpk bnk bck, .slice bp bn bc, .string dg, .slice yp ny cy, .string nm, e0, e1, e2, e3, e4, e5, e6, e7, e8, e9, e10] = v0
    generalize hV1 : Value.agg #[.int .i64 k, .string cn, .slice sq ns ds, .slice tq 0 dt, .bool ca, .bool cx, .string gn, .int .i64 ga, .bool gs, .string mg, .slice pq np dp, .int .i64 rk, .string rs, .int .i64 rl, .int .i64 rh, .slice rq rn rd, .int .i64 bk, .string bs, .int .i64 bnum, .int .i64 tk, .string ts, .int .i64 tl, .int .i64 th, .slice tq' tn td, .slice bqp bnp bdp, .slice bqk bnk bdk, .slice bq bn bd, .string dg, .slice yq ny dy, .string nm, ε0, ε1, ε2, ε3, ε4, ε5, ε6, ε7, ε8, ε9, ε10] = v1
    clear hV0 hV1
    go_upto_region 2 with (first
      | refine wpList_load_big 55 _ rfl rfl (w.heap.size) 9 (#[.string mg, .slice pp np cp, .int .i64 rk, .string rs, .int .i64 rl, .int .i64 rh, .slice rp rn rc, .int .i64 bk, .string bs, .int .i64 bnum, .int .i64 tk, .string ts, .int .i64 tl, .int .i64 th, .slice tp' tn tc, .slice bpp bnp bcp, .slice bpk bnk bck, .slice bp bn bc]) _ Tryz.underlying55 rfl (by kernel_rfl) (box_sub hx0 9 18 (by kernel_rfl)) ?_
      | refine wpList_store_new 55 _ _ rfl rfl rfl w0 (#[.string ⟨#[]⟩, .slice none 0 0, .int .i64 0, .string ⟨#[]⟩, .int .i64 0, .int .i64 0, .slice none 0 0, .int .i64 0, .string ⟨#[]⟩, .int .i64 0, .int .i64 0, .string ⟨#[]⟩, .int .i64 0, .int .i64 0, .slice none 0 0, .slice none 0 0, .slice none 0 0, .slice none 0 0]) (#[.string mg, .slice pp np cp, .int .i64 rk, .string rs, .int .i64 rl, .int .i64 rh, .slice rp rn rc, .int .i64 bk, .string bs, .int .i64 bnum, .int .i64 tk, .string ts, .int .i64 tl, .int .i64 th, .slice tp' tn tc, .slice bpp bnp bcp, .slice bpk bnk bck, .slice bp bn bc]) rfl rfl rfl (by kernel_rfl) rfl (by simp [Value.oneCell']) ?_
      | fail)
    refine wp_at (fun wx => Below w.heap.size w wx ∧ BoxAt wx w.heap.size #[.int .i64 k, .string cn, .slice sp ns cs, .slice tp 0 ct, .bool ca, .bool cx, .string gn, .int .i64 ga, .bool gs, .string mg, .slice pp np cp, .int .i64 rk, .string rs, .int .i64 rl, .int .i64 rh, .slice rp rn rc, .int .i64 bk, .string bs, .int .i64 bnum, .int .i64 tk, .string ts, .int .i64 tl, .int .i64 th, .slice tp' tn tc, .slice bpp bnp bcp, .slice bpk bnk bck, .slice bp bn bc, .string dg, .slice yp ny cy, .string nm, e0, e1, e2, e3, e4, e5, e6, e7, e8, e9, e10] ∧ BoxAt wx (w.heap.size + 1) #[.int .i64 k, .string cn, .slice sq ns ds, .slice tq 0 dt, .bool ca, .bool cx, .string gn, .int .i64 ga, .bool gs, .string mg, .slice pq np dp, .int .i64 rk, .string rs, .int .i64 rl, .int .i64 rh, .slice rq rn rd, .int .i64 bk, .string bs, .int .i64 bnum, .int .i64 tk, .string ts, .int .i64 tl, .int .i64 th, .slice tq' tn td, .slice bqp bnp bdp, .slice bqk bnk bdk, .slice bq bn bd, .string dg, .slice yq ny dy, .string nm, ε0, ε1, ε2, ε3, ε4, ε5, ε6, ε7, ε8, ε9, ε10] ∧ BoxAt wx w0.heap.size #[.string mg, .slice pp np cp, .int .i64 rk, .string rs, .int .i64 rl, .int .i64 rh, .slice rp rn rc, .int .i64 bk, .string bs, .int .i64 bnum, .int .i64 tk, .string ts, .int .i64 tl, .int .i64 th, .slice tp' tn tc, .slice bpp bnp bcp, .slice bpk bnk bck, .slice bp bn bc]) ⟨hb0.alloc hb0.size _, hx0.under ((Below.refl _ _).alloc (Nat.le_refl _) _), hy0.under ((Below.refl _ _).alloc (Nat.le_refl _) _), box_new w0 _ _⟩ ?_
    rintro w1 ⟨hb1, hx1, hy1, hm1⟩
    clear hx0 hy0
    go_upto_region 3 with (first
      | refine wpList_load_big 55 _ rfl rfl (w.heap.size + 1) 9 (#[.string mg, .slice pq np dp, .int .i64 rk, .string rs, .int .i64 rl, .int .i64 rh, .slice rq rn rd, .int .i64 bk, .string bs, .int .i64 bnum, .int .i64 tk, .string ts, .int .i64 tl, .int .i64 th, .slice tq' tn td, .slice bqp bnp bdp, .slice bqk bnk bdk, .slice bq bn bd]) _ Tryz.underlying55 rfl (by kernel_rfl) (box_sub hy1 9 18 (by kernel_rfl)) ?_
      | refine wpList_store_new 55 _ _ rfl rfl rfl w1 (#[.string ⟨#[]⟩, .slice none 0 0, .int .i64 0, .string ⟨#[]⟩, .int .i64 0, .int .i64 0, .slice none 0 0, .int .i64 0, .string ⟨#[]⟩, .int .i64 0, .int .i64 0, .string ⟨#[]⟩, .int .i64 0, .int .i64 0, .slice none 0 0, .slice none 0 0, .slice none 0 0, .slice none 0 0]) (#[.string mg, .slice pq np dp, .int .i64 rk, .string rs, .int .i64 rl, .int .i64 rh, .slice rq rn rd, .int .i64 bk, .string bs, .int .i64 bnum, .int .i64 tk, .string ts, .int .i64 tl, .int .i64 th, .slice tq' tn td, .slice bqp bnp bdp, .slice bqk bnk bdk, .slice bq bn bd]) rfl rfl rfl (by kernel_rfl) rfl (by simp [Value.oneCell']) ?_
      | fail)
    refine wp_at (fun wx => Below w.heap.size w wx ∧ BoxAt wx w.heap.size #[.int .i64 k, .string cn, .slice sp ns cs, .slice tp 0 ct, .bool ca, .bool cx, .string gn, .int .i64 ga, .bool gs, .string mg, .slice pp np cp, .int .i64 rk, .string rs, .int .i64 rl, .int .i64 rh, .slice rp rn rc, .int .i64 bk, .string bs, .int .i64 bnum, .int .i64 tk, .string ts, .int .i64 tl, .int .i64 th, .slice tp' tn tc, .slice bpp bnp bcp, .slice bpk bnk bck, .slice bp bn bc, .string dg, .slice yp ny cy, .string nm, e0, e1, e2, e3, e4, e5, e6, e7, e8, e9, e10] ∧ BoxAt wx (w.heap.size + 1) #[.int .i64 k, .string cn, .slice sq ns ds, .slice tq 0 dt, .bool ca, .bool cx, .string gn, .int .i64 ga, .bool gs, .string mg, .slice pq np dp, .int .i64 rk, .string rs, .int .i64 rl, .int .i64 rh, .slice rq rn rd, .int .i64 bk, .string bs, .int .i64 bnum, .int .i64 tk, .string ts, .int .i64 tl, .int .i64 th, .slice tq' tn td, .slice bqp bnp bdp, .slice bqk bnk bdk, .slice bq bn bd, .string dg, .slice yq ny dy, .string nm, ε0, ε1, ε2, ε3, ε4, ε5, ε6, ε7, ε8, ε9, ε10] ∧ BoxAt wx w0.heap.size #[.string mg, .slice pp np cp, .int .i64 rk, .string rs, .int .i64 rl, .int .i64 rh, .slice rp rn rc, .int .i64 bk, .string bs, .int .i64 bnum, .int .i64 tk, .string ts, .int .i64 tl, .int .i64 th, .slice tp' tn tc, .slice bpp bnp bcp, .slice bpk bnk bck, .slice bp bn bc] ∧ BoxAt wx w1.heap.size #[.string mg, .slice pq np dp, .int .i64 rk, .string rs, .int .i64 rl, .int .i64 rh, .slice rq rn rd, .int .i64 bk, .string bs, .int .i64 bnum, .int .i64 tk, .string ts, .int .i64 tl, .int .i64 th, .slice tq' tn td, .slice bqp bnp bdp, .slice bqk bnk bdk, .slice bq bn bd]) ⟨hb1.alloc hb1.size _, hx1.under ((Below.refl _ _).alloc (Nat.le_refl _) _), hy1.under ((Below.refl _ _).alloc (Nat.le_refl _) _), hm1.under ((Below.refl _ _).alloc (Nat.le_refl _) _), box_new w1 _ _⟩ ?_
    rintro w2 ⟨hb2, hx2, hy2, hm2, hn2⟩
    clear hx1 hy1 hm1 hb1 hb0
    generalize w0.heap.size = mb at *
    generalize w1.heap.size = nb at *
    have x0 := hx2 0 _ rfl
    have x6 := hx2 6 _ rfl
    have x7 := hx2 7 _ rfl
    have x8 := hx2 8 _ rfl
    have x27 := hx2 27 _ rfl
    have x28 := hx2 28 _ rfl
    have x29 := hx2 29 _ rfl
    have y0 := hy2 0 _ rfl
    have y6 := hy2 6 _ rfl
    have y7 := hy2 7 _ rfl
    have y8 := hy2 8 _ rfl
    have y27 := hy2 27 _ rfl
    have y28 := hy2 28 _ rfl
    have y29 := hy2 29 _ rfl
    have p0 := hm2 0 _ rfl
    have q0 := hn2 0 _ rfl
    have HW := Lib.hid (And.intro hb2 (And.intro hx2 (And.intro hy2 (And.intro hm2 hn2))))
    clear hb2 hx2 hy2 hm2 hn2
    go_wp2_with fail
    refine (sameTypes_any cy dy (HY.out.under HW.out.1)).mono ?_
    rintro e w3 ⟨rfl, hbk⟩
    have HW3 := Lib.hid (And.intro (HW.out.1.trans (hbk.mono HW.out.1.size)) (And.intro (HW.out.2.1.under hbk) (And.intro (HW.out.2.2.1.under hbk) (And.intro (HW.out.2.2.2.1.under hbk) (HW.out.2.2.2.2.under hbk)))))
    clear hbk x0 x6 x7 x8 x27 x28 x29 y0 y6 y7 y8 y27 y28 y29 p0 q0
    have x1 := HW3.out.2.1 1 _ rfl
    have x2 := HW3.out.2.1 2 _ rfl
    have x3 := HW3.out.2.1 3 _ rfl
    have x4 := HW3.out.2.1 4 _ rfl
    have x5 := HW3.out.2.1 5 _ rfl
    have y1 := HW3.out.2.2.1 1 _ rfl
    have y2 := HW3.out.2.2.1 2 _ rfl
    have y3 := HW3.out.2.2.1 3 _ rfl
    have y4 := HW3.out.2.2.1 4 _ rfl
    have y5 := HW3.out.2.2.1 5 _ rfl
    go_wp2_with fail
    refine (sameClass_any cn ns sp sq cs ds (HS.out.under HW3.out.1) tp tq ct dt ca cx).mono ?_
    rintro e w4 ⟨rfl, hbk⟩
    have HW4 := Lib.hid (And.intro (HW3.out.1.trans (hbk.mono HW3.out.1.size)) (And.intro (HW3.out.2.1.under hbk) (And.intro (HW3.out.2.2.1.under hbk) (And.intro (HW3.out.2.2.2.1.under hbk) (HW3.out.2.2.2.2.under hbk)))))
    clear hbk x1 x2 x3 x4 x5 y1 y2 y3 y4 y5
    have p1 := HW4.out.2.2.2.1 1 _ rfl
    have q1 := HW4.out.2.2.2.2 1 _ rfl
    go_wp2_with fail
    refine (sameParams_any cp dp (HP.out.under HW4.out.1)).mono ?_
    rintro e w5 ⟨rfl, hbk⟩
    have HW5 := Lib.hid (And.intro (HW4.out.1.trans (hbk.mono HW4.out.1.size)) (And.intro (HW4.out.2.1.under hbk) (And.intro (HW4.out.2.2.1.under hbk) (And.intro (HW4.out.2.2.2.1.under hbk) (HW4.out.2.2.2.2.under hbk)))))
    clear hbk p1 q1
    have p2 := HW5.out.2.2.2.1 2 _ rfl
    have p3 := HW5.out.2.2.2.1 3 _ rfl
    have p4 := HW5.out.2.2.2.1 4 _ rfl
    have p5 := HW5.out.2.2.2.1 5 _ rfl
    have p6 := HW5.out.2.2.2.1 6 _ rfl
    have q2 := HW5.out.2.2.2.2 2 _ rfl
    have q3 := HW5.out.2.2.2.2 3 _ rfl
    have q4 := HW5.out.2.2.2.2 4 _ rfl
    have q5 := HW5.out.2.2.2.2 5 _ rfl
    have q6 := HW5.out.2.2.2.2 6 _ rfl
    go_wp2_with fail
    refine (sameType_any HR.out _ HW5.out.1).mono ?_
    rintro e w6 ⟨rfl, hbk⟩
    have HW6 := Lib.hid (And.intro (HW5.out.1.trans (hbk.mono HW5.out.1.size)) (And.intro (HW5.out.2.1.under hbk) (And.intro (HW5.out.2.2.1.under hbk) (And.intro (HW5.out.2.2.2.1.under hbk) (HW5.out.2.2.2.2.under hbk)))))
    clear hbk p2 p3 p4 p5 p6 q2 q3 q4 q5 q6
    have p7 := HW6.out.2.2.2.1 7 _ rfl
    have p8 := HW6.out.2.2.2.1 8 _ rfl
    have p9 := HW6.out.2.2.2.1 9 _ rfl
    have p10 := HW6.out.2.2.2.1 10 _ rfl
    have p11 := HW6.out.2.2.2.1 11 _ rfl
    have p12 := HW6.out.2.2.2.1 12 _ rfl
    have p13 := HW6.out.2.2.2.1 13 _ rfl
    have p14 := HW6.out.2.2.2.1 14 _ rfl
    have p15 := HW6.out.2.2.2.1 15 _ rfl
    have p16 := HW6.out.2.2.2.1 16 _ rfl
    have p17 := HW6.out.2.2.2.1 17 _ rfl
    have q7 := HW6.out.2.2.2.2 7 _ rfl
    have q8 := HW6.out.2.2.2.2 8 _ rfl
    have q9 := HW6.out.2.2.2.2 9 _ rfl
    have q10 := HW6.out.2.2.2.2 10 _ rfl
    have q11 := HW6.out.2.2.2.2 11 _ rfl
    have q12 := HW6.out.2.2.2.2 12 _ rfl
    have q13 := HW6.out.2.2.2.2 13 _ rfl
    have q14 := HW6.out.2.2.2.2 14 _ rfl
    have q15 := HW6.out.2.2.2.2 15 _ rfl
    have q16 := HW6.out.2.2.2.2 16 _ rfl
    have q17 := HW6.out.2.2.2.2 17 _ rfl
    go_wp2_with fail
    refine (sameExpr_any HB.out _ HW6.out.1).mono ?_
    rintro e w7 ⟨rfl, hbk⟩
    have HW7 := Lib.hid (And.intro (HW6.out.1.trans (hbk.mono HW6.out.1.size)) (And.intro (HW6.out.2.1.under hbk) (And.intro (HW6.out.2.2.1.under hbk) (And.intro (HW6.out.2.2.2.1.under hbk) (HW6.out.2.2.2.2.under hbk)))))
    clear hbk p7 p8 p9 p10 p11 p12 p13 p14 p15 p16 p17 q7 q8 q9 q10 q11 q12 q13 q14 q15 q16 q17
    have x30 := HW7.out.2.1 30 _ rfl
    have x31 := HW7.out.2.1 31 _ rfl
    have x32 := HW7.out.2.1 32 _ rfl
    have x33 := HW7.out.2.1 33 _ rfl
    have x34 := HW7.out.2.1 34 _ rfl
    have x35 := HW7.out.2.1 35 _ rfl
    have x36 := HW7.out.2.1 36 _ rfl
    have x37 := HW7.out.2.1 37 _ rfl
    have x38 := HW7.out.2.1 38 _ rfl
    have x39 := HW7.out.2.1 39 _ rfl
    have x40 := HW7.out.2.1 40 _ rfl
    have y30 := HW7.out.2.2.1 30 _ rfl
    have y31 := HW7.out.2.2.1 31 _ rfl
    have y32 := HW7.out.2.2.1 32 _ rfl
    have y33 := HW7.out.2.2.1 33 _ rfl
    have y34 := HW7.out.2.2.1 34 _ rfl
    have y35 := HW7.out.2.2.1 35 _ rfl
    have y36 := HW7.out.2.2.1 36 _ rfl
    have y37 := HW7.out.2.2.1 37 _ rfl
    have y38 := HW7.out.2.2.1 38 _ rfl
    have y39 := HW7.out.2.2.1 39 _ rfl
    have y40 := HW7.out.2.2.1 40 _ rfl
    go_wp2_with fail
    refine (sameExpr_any HE.out _ HW7.out.1).mono ?_
    rintro e w8 ⟨rfl, hbk⟩
    have HW8 := Lib.hid (And.intro (HW7.out.1.trans (hbk.mono HW7.out.1.size)) (And.intro (HW7.out.2.1.under hbk) (And.intro (HW7.out.2.2.1.under hbk) (And.intro (HW7.out.2.2.2.1.under hbk) (HW7.out.2.2.2.2.under hbk)))))
    clear hbk x30 x31 x32 x33 x34 x35 x36 x37 x38 x39 x40 y30 y31 y32 y33 y34 y35 y36 y37 y38 y39 y40
    go_wp2
    go_ret
    exact ⟨rfl, HW8.out.1⟩
end Go.Proofs.YtjnimfnelacceaaGreatDoor
namespace Go.Proofs.YtjnimfnelacceaaGreatDoor
open Go.RowKit Go.Proofs.YtjnimfnelacceaaGreatDoorW.PrintLast

/-- n structs of m cells at a place. -/
def RowX (w : World) (m : Nat) (p : Option Addr) (n : Nat) (X : Nat → Array Value) : Prop :=
  ∀ i, i < n → (X i).size = m ∧ ∃ b o, p = some ⟨b, o, none⟩ ∧ ∀ j v, (X i)[j]? = some v → w.cell? ⟨b, o + i * m + j, none⟩ = some v
theorem RowX.under {w w' : World} {m : Nat} {p : Option Addr} {n : Nat} {X : Nat → Array Value} (h : RowX w m p n X) (hb : Below w.heap.size w w') : RowX w' m p n X := by
  intro i hi
  obtain ⟨h0, b, o, h1, h2⟩ := h i hi
  exact ⟨h0, b, o, h1, fun j v hj => below_cell hb (h2 j v hj)⟩
set_option maxRecDepth 100000 in
set_option maxHeartbeats 8000000 in
theorem sameDefs_any {w : World} {n : Nat} {p q : Option Addr} (c d : Nat) {X Y : Nat → Array Value} (hn : n ≤ 1000000000000) (hA : RowX w 41 p n X) (hB : RowX w 41 q n Y)
    (ih : ∀ i, i < n → DfAl w (.agg (X i)) (.agg (Y i))) :
    Calls Tryz.prog 5 #[.slice p n c, .slice q n d] w fun e w'' => e = .returned (.bool true) ∧ Below w.heap.size w w'' := by
  have HA := Lib.hid hA
  have HB := Lib.hid hB
  have HI := Lib.hid ih
  clear hA hB ih
  go_enter Tryz.func5, Tryz.ntmps5
  go_wp2
  go_loopw [5] (fun v5 wr => ∃ i : Nat, i ≤ n ∧ v5 = .int .i64 i ∧ Hid (Below w.heap.size w wr)) (fun v5 _ => n - (intOf v5).toNat)
  case atStart => exact ⟨0, Nat.zero_le _, rfl, Lib.hid (Below.refl _ _)⟩
  case round =>
    obtain ⟨i, hi, rfl, HR⟩ := hrel
    by_cases hlt : i < n
    · obtain ⟨hxs, pb, po, hp, hpc⟩ := HA.out.under HR.out i hlt
      obtain ⟨hys, qb, qo, hq, hqc⟩ := HB.out.under HR.out i hlt
      subst hp hq
      have g0 : decide ((i : Int) < n) = true := decide_eq_true (by omega)
      have g1 : (0 : Int) ≤ i := by omega
      have g2 : (i : Int) < n := by omega
      have HX := Lib.hid (And.intro (show (Tryz.prog.info? 59).map (·.size) = some (X i).size by rw [hxs]; kernel_rfl) hpc)
      have HY := Lib.hid (And.intro (show (Tryz.prog.info? 59).map (·.size) = some (Y i).size by rw [hys]; kernel_rfl) hqc)
      clear hpc hqc hxs hys
      go_wp2_with fail
      refine still_tail2 8 (by kernel_rfl) (by kernel_rfl) ?_
      simp only [List.take_succ_cons, List.take_zero, List.drop_succ_cons, List.drop_zero]
      iterate 3 still_step
      refine wpStill_load_big 59 _ rfl rfl pb (po + i * 41) (X i) _ Tryz.underlying59 rfl HX.out.1 HX.out.2 ?_
      iterate 3 still_step
      refine wpStill_load_big 59 _ rfl rfl qb (qo + i * 41) (Y i) _ Tryz.underlying59 rfl HY.out.1 HY.out.2 ?_
      refine wpStill_nil ?_
      go_wp2_with fail
      have hbr : Below w.heap.size w wr.drew := drew_u HR.out
      refine (sameDef_any ((HI.out i hlt).under hbr)).mono ?_
      rintro e w3 ⟨rfl, hb3⟩
      have HR3 := Lib.hid (hbr.trans (hb3.mono hbr.size))
      clear hb3 hbr
      go_wp2
      go_roundw
      case rel => exact ⟨i + 1, by omega, by go_num, HR3⟩
      case measure => simp [intOf]; omega
    · have g0 : decide ((i : Int) < n) = false := decide_eq_false (by omega)
      go_wp2
      go_ret
      exact ⟨rfl, HR.out⟩
end Go.Proofs.YtjnimfnelacceaaGreatDoor
namespace Go.Proofs.YtjnimfnelacceaaGreatDoor
open Go.RowKit Go.Proofs.YtjnimfnelacceaaGreatDoorW.PrintLast

/-- What an operation waits for. -/
def needsOf (md : Region.Mode) (o : Oper) : List Nat := (o.after.toList.filter (fun e => Region.binds md e)).map (fun e => e.on)
/-- The slots of what was made. -/
def mact (a0 : Act) (tr : List (Nat × Tmp)) (x : Nat → Value) : Act := putAll a0 (tr.map fun p => (p.2, x p.1))
def upd (x : Nat → Value) (i : Nat) (v : Value) : Nat → Value := fun j => if j = i then v else x j
theorem put_put (a : Act) (s t : Tmp) (u v : Value) (h : s ≠ t) : (a.put (some s) u).put (some t) v = (a.put (some t) v).put (some s) u := by
  simp only [Act.put]
  rw [Array.setIfInBounds_comm _ _ h]
theorem put_same (a : Act) (t : Tmp) (u v : Value) : (a.put (some t) u).put (some t) v = a.put (some t) v := by
  simp only [Act.put, Array.setIfInBounds_setIfInBounds]
theorem putAll_put : ∀ (L : List (Tmp × Value)) (a : Act) (t : Tmp) (v : Value), t ∉ L.map Prod.fst → (putAll a L).put (some t) v = putAll (a.put (some t) v) L
  | [], _, _, _, _ => rfl
  | (s, u) :: L, a, t, v, h => by
    simp only [List.map_cons, List.mem_cons, not_or] at h
    simp only [putAll]
    rw [putAll_put L _ t v h.2, put_put _ _ _ _ _ (Ne.symm h.1)]
theorem mact_put {x : Nat → Value} {i : Nat} {ti : Tmp} (v : Value) : ∀ (tr : List (Nat × Tmp)) (a0 : Act), (tr.map Prod.fst).Nodup → (tr.map Prod.snd).Nodup → (i, ti) ∈ tr → (mact a0 tr x).put (some ti) v = mact a0 tr (upd x i v)
  | [], _, _, _, h => by cases h
  | (j, tj) :: tr, a0, h1, h2, h => by
    simp only [List.map_cons, List.nodup_cons] at h1 h2
    unfold mact
    simp only [List.map_cons, putAll]
    rcases List.mem_cons.1 h with h | h
    · injection h with e1 e2
      subst e1 e2
      have e : (tr.map fun p => (p.2, upd x i v p.1)) = tr.map fun p => (p.2, x p.1) := by
        refine List.map_congr_left fun p hp => ?_
        have : p.1 ≠ i := fun e => h1.1 (e ▸ List.mem_map_of_mem hp)
        simp [upd, this]
      rw [e, putAll_put _ _ _ _ (by
        intro hm
        refine h2.1 ?_
        simpa using hm), put_same]
      simp [upd]
    · have hne : j ≠ i := fun e => h1.1 (by rw [e]; exact List.mem_map_of_mem (f := Prod.fst) h)
      have := mact_put (x := x) v tr (a0.put (some tj) (x j)) h1.2 h2.2 h
      unfold mact at this
      rw [this]
      simp [upd, hne]
theorem putAll_size : ∀ (L : List (Tmp × Value)) (a : Act), (putAll a L).tmps.size = a.tmps.size
  | [], _ => rfl
  | (t, v) :: L, a => by
    simp only [putAll]
    rw [putAll_size L]
    simp [Act.put]
theorem mact_eval {x : Nat → Value} {a0 : Act} {tr : List (Nat × Tmp)} {i : Nat} {ti : Tmp} (h1 : (tr.map Prod.fst).Nodup) (h2 : (tr.map Prod.snd).Nodup) (h : (i, ti) ∈ tr) (hs : ti < a0.tmps.size) : (mact a0 tr x).eval (.tmp ti) = x i := by
  have e : upd x i (x i) = x := by funext j; unfold upd; split <;> simp_all
  have := mact_put (x := x) (x i) tr a0 h1 h2 h
  rw [e] at this
  rw [← this]
  have hs' : ti < (mact a0 tr x).tmps.size := by unfold mact; rw [putAll_size]; exact hs
  simp [Act.put, Act.eval, hs']
theorem put_self (a : Act) (t : Tmp) : a.put (some t) (a.tmps.getD t undef) = a := by
  simp only [Act.put]
  congr 1
  apply Array.ext_getElem?
  intro i
  rw [Array.getElem?_setIfInBounds]
  by_cases e : t = i
  · subst e
    by_cases h : t < a.tmps.size
    · simp [h, Array.getD]
    · simp [h]
  · simp [e]
theorem putAll_self (a : Act) : ∀ L : List (Tmp × Value), (∀ p ∈ L, p.2 = a.tmps.getD p.1 undef) → putAll a L = a
  | [], _ => rfl
  | (t, v) :: L, h => by
    have h1 : v = a.tmps.getD t undef := h (t, v) (List.mem_cons_self ..)
    subst h1
    simp only [putAll]
    rw [put_self]
    exact putAll_self a L (fun p hp => h p (List.mem_cons_of_mem _ hp))
theorem vals_self (a : Act) : ∀ tr : List (Nat × Tmp), (tr.map Prod.fst).Nodup → ∃ x : Nat → Value, ∀ p ∈ tr, x p.1 = a.tmps.getD p.2 undef
  | [], _ => ⟨fun _ => undef, fun _ h => by cases h⟩
  | (j, t) :: tr, h => by
    simp only [List.map_cons, List.nodup_cons] at h
    obtain ⟨x, hx⟩ := vals_self a tr h.2
    refine ⟨upd x j (a.tmps.getD t undef), fun p hp => ?_⟩
    rcases List.mem_cons.1 hp with rfl | hp
    · simp [upd]
    · have : p.1 ≠ j := fun e => h.1 (e ▸ List.mem_map_of_mem (f := Prod.fst) hp)
      simp only [upd, this, if_false]
      exact hx p hp
theorem mact_self (tr : List (Nat × Tmp)) (a : Act) (h : (tr.map Prod.fst).Nodup) : ∃ x, mact a tr x = a := by
  obtain ⟨x, hx⟩ := vals_self a tr h
  refine ⟨x, putAll_self a _ (fun p hp => ?_)⟩
  obtain ⟨q, hq, rfl⟩ := List.mem_map.1 hp
  exact hx q hq
def GC (G0 : Nat → Prop) (w0 : World) (G : Nat → Prop) (w : World) : Prop := (∀ b, G b → (G0 b ∨ w0.heap.size ≤ b) ∧ b < w.heap.size) ∧ ∀ b, G0 b → G b
section
variable {P : Program} {ops : Array Oper} {Q : Exit → Act → World → Prop} {md : Region.Mode} {S : World → Prop} {ds : List Nat}
structure Mk (ops : Array Oper) (a0 : Act) (tr : List (Nat × Tmp)) (iA iS : Nat) (G0 : Nat → Prop) (F : Nat → Value → World → Prop) (Z : Array Value) (tt : TypeId) (w0 : World) (x : Nat → Value) (G : Nat → Prop) (l : Array Bool) (a : Act) (w : World) : Prop where
  size : l.size = ops.size
  open_ : l.getD iS true = false
  rest : ∀ i, l.getD i true = false → i ∈ tr.map Prod.fst ∨ i = iS
  act : a = mact a0 tr x
  below : Below w0.heap.size w0 w
  gc : GC G0 w0 G w
  fact : ∀ p ∈ tr, p.1 ≠ iA → l.getD p.1 true = true → Off G w (F p.1 (x p.1))
  own : l.getD iA true = true → ∃ g, x iA = .pointer (some ⟨g, 0, none⟩) ∧ w.heap[g]? = some (.cells Z tt (0, 0)) ∧ G g ∧ w0.heap.size ≤ g
theorem getD_set (l : Array Bool) (i j : Nat) (hi : i < l.size) : (l.setIfInBounds i true).getD j true = if j = i then true else l.getD j true := by
  simp only [Array.getD_eq_getD_getElem?, Array.getElem?_setIfInBounds]
  by_cases e : i = j
  · subst e; simp [hi]
  · simp [e, Ne.symm e]
theorem below_go {a b c : World} (h : Below a.heap.size a b) (k : Below b.heap.size b c) : Below a.heap.size a c := h.trans (k.mono h.size)
theorem makes_ {fuel : Nat} {l0 : Array Bool} {a0 : Act} {w0 : World} (tr : List (Nat × Tmp)) (iA iS : Nat) (tA : Tmp) (G0 : Nat → Prop) (F : Nat → Value → World → Prop) (Z : Array Value) (tt : TypeId)
    (ht : topoB md ops = true) (hn1 : (tr.map Prod.fst).Nodup) (hn2 : (tr.map Prod.snd).Nodup) (hA : (iA, tA) ∈ tr) (hd : (tr.all fun p => ((ops[p.1]?).map (·.dst)) == some (some p.2)) = true) (hSA : iS ∉ tr.map Prod.fst)
    (hlast : ((List.range ops.size).all fun i => i == iS || (match ops[iS]? with | some o => (needsOf md o).contains i | none => false)) = true)
    (hl0 : l0.size = ops.size) (hop : ((List.range ops.size).all fun i => l0.getD i true == !(((tr.map Prod.fst).contains i) || i == iS)) = true) (hiS : iS < ops.size)
    (hS : ∀ w, Below w0.heap.size w0 w → S w) (hG0 : ∀ b, G0 b → b < w0.heap.size)
    (make : ∀ i ti oi, (i, ti) ∈ tr → i ≠ iA → ops[i]? = some oi → ∀ x w G, Below w0.heap.size w0 w → GC G0 w0 G w → (∀ p ∈ tr, p.1 ≠ iA → (needsOf md oi).contains p.1 = true → Off G w (F p.1 (x p.1))) →
      ∀ K : Act → World → Prop, Shut (∀ v w', Below w.heap.size w w' → Off G w' (F i v) → K ((mact a0 tr x).put oi.dst v) w') → if Region.wanted oi (yielded ops (mact a0 tr x).tmps) = true then Oper.wp P oi (mact a0 tr x) w K Q else K ((mact a0 tr x).put oi.dst undef) w)
    (new : ∀ oi, ops[iA]? = some oi → ∀ x w, ∀ K : Act → World → Prop, Shut (K ((mact a0 tr x).put oi.dst (.pointer (some ⟨w.heap.size, 0, none⟩))) (w.alloc (.cells Z tt))) → if Region.wanted oi (yielded ops (mact a0 tr x).tmps) = true then Oper.wp P oi (mact a0 tr x) w K Q else K ((mact a0 tr x).put oi.dst undef) w)
    (tM : TypeId) (iM : Nat) (sM : Tmp) (hM : (iM, sM) ∈ tr) (hMA : iM ≠ iA) (hsz : (tr.all fun p => decide (p.2 < a0.tmps.size)) = true) (hst : (ops[iS]?).map (fun o => (o.op, o.guard, o.dst)) = some (Op.store tM (.tmp tA) (.tmp sM), none, none))
    (hinf : (P.info? tM).map (·.size) = some Z.size) (hF : ∀ v w, F iM v w → ∃ M, v = .agg M ∧ M.size = Z.size ∧ M.all (·.oneCell') = true)
    (done : ∀ x w G g M, Below w0.heap.size w0 (w.setRow g M) → GC G0 w0 G w → (∀ p ∈ tr, p.1 ≠ iA → Off G (w.setRow g M) (F p.1 (x p.1))) → x iA = .pointer (some ⟨g, 0, none⟩) → x iM = .agg M → BoxAt (w.setRow g M) g M → w0.heap.size ≤ g → g < (w.setRow g M).heap.size → (w.setRow g M).heap[g]? = some (.cells M tt (0, 0)) → G g → Q .normal (mact a0 tr x) (w.setRow g M))
    (hf : l0.toList.count false ≤ fuel) : wpAnyLast P md ops Q S ds fuel l0 a0 w0 := by
  obtain ⟨x0, ha0⟩ := mact_self tr a0 hn1
  have hl0' : ∀ i, i < ops.size → l0.getD i true = !(((tr.map Prod.fst).contains i) || i == iS) := fun i hi => by
    have := List.all_eq_true.1 hop i (List.mem_range.2 hi)
    simpa using this
  refine inv_ (fun a0 l a w => (∃ x G, Mk ops a0 tr iA iS G0 F Z tt w0 x G l a w) ∨ ((∀ i, l.getD i true = true) ∧ l.size = ops.size ∧ S w ∧ Q .normal a w)) ht (Or.inl ⟨x0, G0, ?_⟩) ?_ ?_ ?_ hf
  · refine ⟨hl0, ?_, fun i hi => ?_, ha0.symm, Below.refl _ _, ⟨fun b hb => ⟨Or.inl hb, hG0 b hb⟩, fun _ h => h⟩, fun p hp _ hl => ?_, fun hl => ?_⟩
    · rw [hl0' iS hiS]; simp
    · by_cases hlt : i < ops.size
      · rw [hl0' i hlt] at hi
        by_cases hm : i ∈ tr.map Prod.fst
        · exact Or.inl hm
        · right
          have : (tr.map Prod.fst).contains i = false := by simpa using hm
          rw [this] at hi
          simpa using hi
      · simp [Array.getD, hl0, hlt] at hi
    · have hlt : p.1 < ops.size := by
        have := List.all_eq_true.1 hd p hp
        by_cases hlt : p.1 < ops.size
        · exact hlt
        · simp [Array.getElem?_eq_none (Nat.le_of_not_lt hlt)] at this
      rw [hl0' p.1 hlt] at hl
      have : (tr.map Prod.fst).contains p.1 = true := by simpa using ⟨p.2, hp⟩
      rw [this] at hl
      simp at hl
    · have hp : ((iA, tA) : Nat × Tmp).1 ∈ tr.map Prod.fst := List.mem_map_of_mem hA
      have hlt : iA < ops.size := by
        have := List.all_eq_true.1 hd _ hA
        by_cases hlt : iA < ops.size
        · exact hlt
        · simp [Array.getElem?_eq_none (Nat.le_of_not_lt hlt)] at this
      rw [hl0' iA hlt] at hl
      have : (tr.map Prod.fst).contains iA = true := by simpa using hp
      rw [this] at hl
      simp at hl
  · rintro l a w (⟨x, G, h⟩ | ⟨-, h1, h2, -⟩)
    · exact ⟨h.size, hS w h.below⟩
    · exact ⟨h1, h2⟩
  · rintro l a w (⟨x, G, h⟩ | ⟨h1, -, -, -⟩) i oi ho hl hall K hK
    rotate_left
    · rw [h1 i] at hl; cases hl
    have hlt : i < l.size := by
      by_cases hlt : i < l.size
      · exact hlt
      · simp [Array.getD, hlt] at hl
    have hdst : ∀ t, (i, t) ∈ tr → oi.dst = some t := fun t hm => by
      have := List.all_eq_true.1 hd _ hm
      simpa [ho] using this
    have hdep : ∀ k, (needsOf md oi).contains k = true → l.getD k true = true := fun k hk => by
      rw [Array.all_eq_true_iff_forall_mem] at hall
      have h1 : k ∈ needsOf md oi := by simpa using hk
      unfold needsOf at h1
      obtain ⟨e, he, rfl⟩ := List.mem_map.1 h1
      rw [List.mem_filter] at he
      have h2 := hall e (by simpa using he.1)
      rw [he.2] at h2
      simp only [Bool.not_true, Bool.false_or] at h2
      by_cases h3 : e.on < l.size
      · simpa [Array.getD, h3] using h2
      · simp [Array.getD, h3]
    rw [h.act]
    rcases h.rest i hl with hm | rfl
    · obtain ⟨p, hp, rfl⟩ := List.mem_map.1 hm
      obtain ⟨i, ti⟩ := p
      have hne : i ≠ iS := fun e => hSA (e ▸ hm)
      have hput : ∀ v, (mact a0 tr x).put oi.dst v = mact a0 tr (upd x i v) := fun v => by rw [hdst ti hp]; exact mact_put v tr a0 hn1 hn2 hp
      by_cases e : i = iA
      · subst e
        refine new oi ho x w K (show Shut _ from ?_)
        rw [hput]
        refine hK _ _ (Or.inl ⟨upd x i (.pointer (some ⟨w.heap.size, 0, none⟩)), fun b => G b ∨ b = w.heap.size, ?_⟩)
        have hs := h.below.size
        refine ⟨by simpa using h.size, by rw [getD_set _ _ _ hlt, if_neg (Ne.symm hne)]; exact h.open_, fun j hj => ?_, rfl, h.below.alloc hs _, ⟨fun b hb => ?_, fun b hb => Or.inl (h.gc.2 b hb)⟩, fun q hq hqA hql => ?_, fun _ => ⟨w.heap.size, by simp [upd], heap_alloc_last w _, Or.inr rfl, hs⟩⟩
        · rw [getD_set _ _ _ hlt] at hj
          split at hj
          · cases hj
          · exact h.rest j hj
        · rw [World.size_alloc]
          rcases hb with hb | hb
          · have := h.gc.1 b hb; exact ⟨this.1, by omega⟩
          · exact ⟨Or.inr (by omega), by omega⟩
        · rw [getD_set _ _ _ hlt, if_neg hqA] at hql
          have := (h.fact q hq hqA hql).new (.cells Z tt)
          simpa [upd, hqA] using this
      · refine make i ti oi hp e ho x w G h.below h.gc (fun q hq hqA hqn => h.fact q hq hqA (hdep _ hqn)) K (fun v w' hb hF => ?_)
        rw [hput]
        refine hK _ _ (Or.inl ⟨upd x i v, G, ?_⟩)
        have hs := hb.size
        refine ⟨by simpa using h.size, by rw [getD_set _ _ _ hlt, if_neg (Ne.symm hne)]; exact h.open_, fun j hj => ?_, rfl, below_go h.below hb, ⟨fun b hb => ?_, h.gc.2⟩, fun q hq hqA hql => ?_, fun hlA => ?_⟩
        · rw [getD_set _ _ _ hlt] at hj
          split at hj
          · cases hj
          · exact h.rest j hj
        · have := h.gc.1 b hb; exact ⟨this.1, by omega⟩
        · by_cases eq : q.1 = i
          · rw [eq]
            simpa [upd] using hF
          · rw [getD_set _ _ _ hlt, if_neg eq] at hql
            have := (h.fact q hq hqA hql).under hb
            simpa [upd, eq] using this
        · rw [getD_set _ _ _ hlt, if_neg (Ne.symm e)] at hlA
          obtain ⟨g, g1, g2, g3, g4⟩ := h.own hlA
          exact ⟨g, by simp [upd, Ne.symm e, g1], (hb.block g (h.gc.1 g g3).2).trans g2, g3, g4⟩
    · have hall' : ∀ j, j ≠ i → l.getD j true = true := fun j hj => by
        by_cases hjl : j < ops.size
        · have := List.all_eq_true.1 hlast j (List.mem_range.2 hjl)
          rw [ho] at this
          simp only [Bool.or_eq_true, beq_iff_eq] at this
          rcases this with e | e
          · exact absurd e hj
          · exact hdep j e
        · simp [Array.getD, h.size, hjl]
      have hiA : iA ≠ i := fun e => hSA (e ▸ List.mem_map_of_mem (f := Prod.fst) hA)
      obtain ⟨g, g1, g2, g3, g4⟩ := h.own (hall' iA hiA)
      have hfact := fun q (hq : q ∈ tr) (hqA : q.1 ≠ iA) => h.fact q hq hqA (hall' _ (fun e => hSA (e ▸ List.mem_map_of_mem (f := Prod.fst) hq)))
      obtain ⟨M, eM, hM1, hM2⟩ := hF _ _ (hfact _ hM hMA).out
      have hst' := hst
      rw [ho] at hst'
      simp only [Option.map_some, Option.some.injEq, Prod.mk.injEq] at hst'
      obtain ⟨o1, o2, o3⟩ := hst'
      have hev : ∀ k tk, (k, tk) ∈ tr → (mact a0 tr x).eval (.tmp tk) = x k := fun k tk hk => mact_eval hn1 hn2 hk (by have := List.all_eq_true.1 hsz _ hk; simpa using this)
      have hw : Region.wanted oi (yielded ops (mact a0 tr x).tmps) = true := by unfold Region.wanted; rw [o2]
      have hrun := run_store_row (P := P) tM (.tmp tA) (.tmp sM) o1 g Z M tt ((hev iA tA hA).trans g1) ((hev iM sM hM).trans eM) g2 (by rw [hM1]; exact hinf) hM1.symm hM2
      rw [o3]
      refine skip_ hw o3 hrun ?_
      have hbs := below_setRow h.below g4 M
      refine hK _ _ (Or.inr ⟨fun j => ?_, by simpa using h.size, hS _ hbs, done x w G g M hbs h.gc (fun q hq hqA => (hfact q hq hqA).row g3 M) g1 eM (setRow_box g2) g4 (by rw [setRow_size]; exact (h.gc.1 g g3).2) (setRow_heap w g Z M tt (0, 0) g2) g3⟩)
      rw [getD_set _ _ _ hlt]
      split
      · rfl
      · exact hall' j ‹_›
  · rintro l a w (⟨x, G, h⟩ | ⟨-, -, -, h4⟩) hall
    · have := hall iS hiS
      rw [h.open_] at this
      cases this
    · exact h4
end
end Go.Proofs.YtjnimfnelacceaaGreatDoor
