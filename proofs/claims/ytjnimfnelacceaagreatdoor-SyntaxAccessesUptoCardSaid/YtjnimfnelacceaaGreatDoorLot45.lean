/- The law's function: it returns true, whatever class comes in. What comes in: types and slots, read out of memory. -/
import Derived.Test.YtjnimfnelacceaaGreatDoorLot43
import Derived.Test.YtjnimfnelacceaaGreatDoorLot44
import Derived.Test.YtjnimfnelacceaaGreatDoorLot36
import Derived.Test.YtjnimfnelacceaaGreatDoorRows
import Derived.OpenShut
import Derived.Deep.Slices
set_option linter.unusedSimpArgs false
set_option linter.unusedVariables false
namespace Go.Proofs.YtjnimfnelacceaaGreatDoor
open Go.RowKit Go.Proofs.YtjnimfnelacceaaGreatDoorW.PrintLast

theorem Slots.under {W w : World} {p : Option Addr} {n : Nat} {A : Nat → Nat → Value} {nm : Nat → ByteArray} {al : Nat → Int} (h : Slots W p n A nm al) (hb : Below W.heap.size W w) : Slots w p n A nm al :=
  ⟨h.row.below hb, h.name, h.kind, h.key, h.init, fun i hi => (h.ty i hi).under hb, h.size, h.hn⟩
theorem Accs.under {nm : Nat → ByteArray} {al : Nat → Int} {cn : ByteArray} {T : World → Nat → Value → Prop} {w w' : World} (hb : Below w.heap.size w w') (hT : ∀ i ty, T w i ty → T w' i ty) : ∀ (n : Nat) (xs : List (Array Value)), Accs nm al cn T w n xs → Accs nm al cn T w' n xs
  | 0, _, h => h
  | n + 1, xs, h => by
    unfold Accs at h ⊢
    by_cases h4 : al n = 4
    · rw [if_pos h4] at h ⊢
      exact Accs.under hb hT n xs h
    · rw [if_neg h4] at h ⊢
      obtain ⟨ys, X, Y, ty, ty1, ty2, e, h0, h1, h2, h3, hX, hY⟩ := h
      obtain ⟨b, b', t0, t1, t2, t3, t4, e1, e2, k1, k2⟩ := hX
      obtain ⟨g, g', s0, s1, s2, s3, s4, u0, u1, u2, u3, u4, f1, f2, f3, l1, l2⟩ := hY
      exact ⟨ys, X, Y, ty, ty1, ty2, e, Accs.under hb hT n ys h0, hT _ _ h1, hT _ _ h2, hT _ _ h3, ⟨b, b', t0, t1, t2, t3, t4, e1, e2, k1.under hb, k2.under hb⟩, ⟨g, g', s0, s1, s2, s3, s4, u0, u1, u2, u3, u4, f1, f2, f3, l1.under hb, l2.under hb⟩⟩
set_option maxRecDepth 100000 in
set_option maxHeartbeats 4000000 in
theorem law_any {W : World} {p : Option Addr} {n : Nat} {A : Nat → Nat → Value} {nm : Nat → ByteArray} {al : Nat → Int} (hs : Slots W p n A nm al) (c : Nat) (cn : ByteArray) (sp : Option Addr) (sn sc : Nat) (ab se : Bool) (hE : Env W) (h9 : 9 ≤ W.heap.size) :
    Calls Tryz.prog 3 #[.agg #[.string cn, .slice sp sn sc, .slice p n c, .bool ab, .bool se]] W fun e w => e = .returned (.bool true) ∧ Below W.heap.size W w := by
  have HS := Lib.hid hs
  have HE := Lib.hid (And.intro hE h9)
  clear hs hE h9
  go_enter Tryz.func3, Tryz.ntmps3
  go_wp2_with fail
  have HB0 := Lib.hid (show Below W.heap.size W (W.alloc (.cells #[.string cn, .slice sp sn sc, .slice p n c, .bool ab, .bool se] 25)) from (Below.refl _ _).alloc (Nat.le_refl _) _)
  refine (sane_true _ (HE.out.1.below HB0.out) (by have := HB0.out.size; have := HE.out.2; omega)).mono ?_
  rintro e w1 ⟨rfl, hb1⟩
  have hx1 := (box_new W #[.string cn, .slice sp sn sc, .slice p n c, .bool ab, .bool se] 25).under hb1
  have HB1 := Lib.hid (show Below W.heap.size W w1 from HB0.out.trans (hb1.mono HB0.out.size))
  clear hb1
  have y0 := hx1 0 _ rfl
  have y1 := hx1 1 _ rfl
  have y2 := hx1 2 _ rfl
  have y3 := hx1 3 _ rfl
  have y4 := hx1 4 _ rfl
  clear hx1
  go_wp2_with fail
  refine start_ (n := 9) (S := fun wx => wx.cell? ⟨W.heap.size, 0, none⟩ = some (.string cn) ∧ wx.cell? ⟨W.heap.size, 1, none⟩ = some (.slice sp sn sc) ∧ wx.cell? ⟨W.heap.size, 2, none⟩ = some (.slice p n c) ∧ wx.cell? ⟨W.heap.size, 3, none⟩ = some (.bool ab) ∧ wx.cell? ⟨W.heap.size, 4, none⟩ = some (.bool se)) (ds := []) #[false, false, false, false, false, false, false, false, false] (by kernel_rfl) rfl rfl ⟨y0, y1, y2, y3, y4⟩ (fun hS => ?_)
  clear y0 y1 y2 y3 y4
  refine pure_ (i := 0) (N := some 5) (v := ?_) (a' := ?_) #[true, false, false, false, false, false, false, false, false] rfl rfl (by kernel_rfl) (fun _ _ _ h => h) (Or.inl ⟨by rfl, ?_⟩) ?_ ?_
  rotate_left
  · intro w'
    go_simp
    with_reducible rfl
  rotate_left
  · simp only [Act.put, List.setIfInBounds_toArray, List.set_cons_zero, List.set_cons_succ, i64_w, i32_w]
    rfl
  refine pure_ (i := 1) (N := some 6) (v := ?_) (a' := ?_) #[true, true, false, false, false, false, false, false, false] rfl rfl (by kernel_rfl) (fun _ _ _ h => h) (Or.inl ⟨by rfl, ?_⟩) ?_ ?_
  rotate_left
  · intro w'
    go_simp
    with_reducible rfl
  rotate_left
  · simp only [Act.put, List.setIfInBounds_toArray, List.set_cons_zero, List.set_cons_succ, i64_w, i32_w]
    rfl
  refine take_ (i := 2) (N := some 7) (v := ?_) (a' := ?_) #[true, true, true, false, false, false, false, false, false] rfl rfl (by kernel_rfl) (fun _ _ _ h => h) (Or.inl ⟨by rfl, ?_⟩) hS ?_ ?_
  rotate_left
  · rintro wz ⟨y0, y1, y2, y3, y4⟩
    go_simp
    with_reducible rfl
  rotate_left
  · simp only [Act.put, List.setIfInBounds_toArray, List.set_cons_zero, List.set_cons_succ, i64_w, i32_w]
    rfl
  refine take_ (i := 4) (N := some 9) (v := ?_) (a' := ?_) #[true, true, true, false, true, false, false, false, false] rfl rfl (by kernel_rfl) (fun _ _ _ h => h) (Or.inl ⟨by rfl, ?_⟩) hS ?_ ?_
  rotate_left
  · rintro wz ⟨y0, y1, y2, y3, y4⟩
    go_simp
    with_reducible rfl
  rotate_left
  · simp only [Act.put, List.setIfInBounds_toArray, List.set_cons_zero, List.set_cons_succ, i64_w, i32_w]
    rfl
  refine one_ (i := 3) (N := some 8) #[true, true, true, true, true, false, false, false, false] rfl rfl (by kernel_rfl) (by decide) (fun K hK => ?_)
  refine goes_ Tryz.func6 (by kernel_rfl) rfl #[.agg #[.string cn, .slice sp sn sc, .slice p n c, .bool ab, .bool se]] (by rfl) rfl rfl (by (try simp only [List.map_toArray, List.map_cons, List.map_nil]); first | done | rfl) ?_
  have HBd := Lib.hid (show Below W.heap.size W w1.drew from drew_u HB1.out)
  refine (accessors_any (HS.out.under HBd.out) c cn sp sn sc ab se (HE.out.1.below HBd.out) (by have := HBd.out.size; have := HE.out.2; omega)).mono ?_
  rintro e w2 ⟨xs, q1, c1, rfl, hx, hax, hb2⟩
  have hS2 : w2.cell? ⟨W.heap.size, 0, none⟩ = some (.string cn) ∧ w2.cell? ⟨W.heap.size, 1, none⟩ = some (.slice sp sn sc) ∧ w2.cell? ⟨W.heap.size, 2, none⟩ = some (.slice p n c) ∧ w2.cell? ⟨W.heap.size, 3, none⟩ = some (.bool ab) ∧ w2.cell? ⟨W.heap.size, 4, none⟩ = some (.bool se) := ⟨below_cell hb2 hS.1, below_cell hb2 hS.2.1, below_cell hb2 hS.2.2.1, below_cell hb2 hS.2.2.2.1, below_cell hb2 hS.2.2.2.2⟩
  refine ⟨_, rfl, hK.out _ _ hS2 (fun _ => ?_)⟩
  clear hK K
  refine norm_ (a' := ?_) ?_ ?_
  rotate_left
  · show Act.put _ (some 8) _ = _
    simp only [Act.put, List.setIfInBounds_toArray, List.set_cons_zero, List.set_cons_succ, i64_w, i32_w]
    rfl
  refine one_ (i := 5) (N := some 10) #[true, true, true, true, true, true, false, false, false] rfl rfl (by kernel_rfl) (by decide) (fun K hK => ?_)
  refine goes_ Tryz.func7 (by kernel_rfl) rfl #[.agg #[.string cn, .slice sp sn sc, .slice p n c, .bool ab, .bool se]] (by rfl) rfl rfl (by (try simp only [List.map_toArray, List.map_cons, List.map_nil]); first | done | rfl) ?_
  have HB2 := Lib.hid (show Below W.heap.size W w2 from HBd.out.trans (hb2.mono HBd.out.size))
  refine (raccessors_any (HS.out.under HB2.out) c cn sp sn sc ab se (by have := HB2.out.size; have := HE.out.2; omega)).mono ?_
  rintro e w3 ⟨ys, q2, c2, rfl, hy, hay, hb3⟩
  have hS3 : w3.cell? ⟨W.heap.size, 0, none⟩ = some (.string cn) ∧ w3.cell? ⟨W.heap.size, 1, none⟩ = some (.slice sp sn sc) ∧ w3.cell? ⟨W.heap.size, 2, none⟩ = some (.slice p n c) ∧ w3.cell? ⟨W.heap.size, 3, none⟩ = some (.bool ab) ∧ w3.cell? ⟨W.heap.size, 4, none⟩ = some (.bool se) := ⟨below_cell hb3 hS2.1, below_cell hb3 hS2.2.1, below_cell hb3 hS2.2.2.1, below_cell hb3 hS2.2.2.2.1, below_cell hb3 hS2.2.2.2.2⟩
  refine ⟨_, rfl, hK.out _ _ hS3 (fun _ => ?_)⟩
  clear hK K
  have hax3 := Accs.under hb3 (fun i ty h => h.under hb3) n xs hax
  obtain ⟨hlen, hle, hal⟩ := accs_alike n xs ys hax3 hay
  have hx3 := hx.under hb3
  rw [← hlen] at hy
  rw [← hlen]
  have hn := HS.out.hn
  have HX := Lib.hid (sameDefs_any c1 c2 (by omega) hx3 hy hal)
  have HB3 := Lib.hid (show Below W.heap.size W w3 from HB2.out.trans (hb3.mono HB2.out.size))
  clear hx hax hax3 hay hx3 hy hal hle
  refine norm_ (a' := ?_) ?_ ?_
  rotate_left
  · show Act.put _ (some 10) _ = _
    simp only [Act.put, List.setIfInBounds_toArray, List.set_cons_zero, List.set_cons_succ, i64_w, i32_w]
    rfl
  refine one_ (i := 6) (N := some 11) #[true, true, true, true, true, true, true, false, false] rfl rfl (by kernel_rfl) (by decide) (fun K hK => ?_)
  refine goes_ Tryz.func5 (by kernel_rfl) rfl #[.slice q1 xs.length c1, .slice q2 xs.length c2] (by rfl) rfl rfl (by (try simp only [List.map_toArray, List.map_cons, List.map_nil]); first | done | rfl) ?_
  refine HX.out.mono ?_
  rintro e w4 ⟨rfl, hb4⟩
  refine ⟨_, rfl, hK.out _ _ ⟨below_cell hb4 hS3.1, below_cell hb4 hS3.2.1, below_cell hb4 hS3.2.2.1, below_cell hb4 hS3.2.2.2.1, below_cell hb4 hS3.2.2.2.2⟩ (fun _ => ?_)⟩
  clear hK K
  have HB4 := Lib.hid (show Below W.heap.size W w4 from HB3.out.trans (hb4.mono HB3.out.size))
  clear hb4
  refine norm_ (a' := ?_) ?_ ?_
  rotate_left
  · show Act.put _ (some 11) _ = _
    simp only [Act.put, List.setIfInBounds_toArray, List.set_cons_zero, List.set_cons_succ, i64_w, i32_w]
    rfl
  refine pure_ (i := 7) (N := some 12) (v := ?_) (a' := ?_) #[true, true, true, true, true, true, true, true, false] rfl rfl (by kernel_rfl) (fun _ _ _ h => h) (Or.inl ⟨by rfl, ?_⟩) ?_ ?_
  rotate_left
  · intro w'
    go_simp
    with_reducible rfl
  rotate_left
  · simp only [Act.put, List.setIfInBounds_toArray, List.set_cons_zero, List.set_cons_succ, i64_w, i32_w]
    rfl
  refine pure_ (i := 8) (N := some 2) (v := ?_) (a' := ?_) #[true, true, true, true, true, true, true, true, true] rfl rfl (by kernel_rfl) (fun _ _ _ h => h) (Or.inl ⟨by rfl, ?_⟩) ?_ ?_
  rotate_left
  · intro w'
    go_simp
    with_reducible rfl
  rotate_left
  · simp only [Act.put, List.setIfInBounds_toArray, List.set_cons_zero, List.set_cons_succ, i64_w, i32_w]
    rfl
  refine done_ (by kernel_rfl) ?_
  go_wp2
  go_ret
  exact ⟨rfl, HB4.out⟩
end Go.Proofs.YtjnimfnelacceaaGreatDoor
namespace Go.Proofs.YtjnimfnelacceaaGreatDoor
open Go.RowKit Go.ChangeShapes Go.WideShapes

section
variable {H : Type} {enc : TypeId × Value → H} {W : World} {sp : Nat → Bool} {held : Bool}
theorem bulk_one {H : Type} (d : DataW H) : 1 ≤ Rows.uptoBulk d := by
  cases d with
  | lit l => cases l <;> simp [Rows.uptoBulk]
  | nil => simp [Rows.uptoBulk]
  | ptr d => simp [Rows.uptoBulk]
  | slice elems spare => simp [Rows.uptoBulk]
  | agg parts => simp [Rows.uptoBulk]
  | iface t d => simp [Rows.uptoBulk]
  | map entries => simp [Rows.uptoBulk]
  | held h => simp [Rows.uptoBulk]
theorem bulk_part {H : Type} {d : DataW H} {l : List (DataW H)} (h : d ∈ l) : Rows.uptoBulk d ≤ Rows.uptoBulkAll l := by
  induction l with
  | nil => cases h
  | cons x r ih =>
    simp only [Rows.uptoBulkAll]
    cases List.mem_cons.1 h with
    | inl e => subst e; omega
    | inr e => have := ih e; omega
theorem bulk_len {H : Type} (l : List (DataW H)) : l.length ≤ Rows.uptoBulkAll l := by
  induction l with
  | nil => simp [Rows.uptoBulkAll]
  | cons x r ih => have := bulk_one x; simp only [Rows.uptoBulkAll, List.length_cons]; omega
theorem bulk_slice {H : Type} (elems spare : List (DataW H)) : Rows.uptoBulkAll elems + 1 ≤ Rows.uptoBulk (.slice elems spare) := by
  simp only [Rows.uptoBulk]
  omega
theorem bulk_agg {H : Type} {d : DataW H} {l : List (DataW H)} (h : d ∈ l) : Rows.uptoBulk d + 1 ≤ Rows.uptoBulk (.agg l) := by
  have := bulk_part h
  simp only [Rows.uptoBulk]
  omega
/-- A slice, read: its rows, and how each of them reads. -/
theorem rd_slice {t e : TypeId} {m fuel : Nat} {cs : List Value} {x : DataW H × List MemPlace} (ht : Tryz.prog.underlying t = some (.slice e)) (hc : Tryz.prog.cellsOf e = m) (hm : 0 < m) (h : DataW.trod enc Tryz.prog W 0 sp held fuel t cs = some x) :
    ∃ (p : Option Addr) (n c : Nat) (A : Nat → Nat → Value), cs = [.slice p n c] ∧ Row W m p n A ∧ n + 1 ≤ Rows.uptoBulk x.1 ∧ ∀ i, i < n → ∃ k z, k < fuel ∧ DataW.trod enc Tryz.prog W 0 sp held k e ((List.range m).map (A i)) = some z ∧ Rows.uptoBulk z.1 + 1 ≤ Rows.uptoBulk x.1 := by
  rcases DataW.trod_slice ht h with ⟨rfl, rfl⟩ | ⟨a, len, cap, elems, rest, k, rfl, rfl, rfl, -, -, -, hlen, hel, -, -⟩
  · exact ⟨none, 0, 0, fun _ _ => undef, rfl, fun i hi => absurd hi (Nat.not_lt_zero _), bulk_one _, fun i hi => absurd hi (Nat.not_lt_zero _)⟩
  · have each : ∀ i, i < len → ∃ cs', (∀ j, j < m → W.cell? ((a.add (i * m)).add j) = cs'[j]?) ∧ cs'.length = m ∧ ∃ z ∈ elems, DataW.trod enc Tryz.prog W 0 sp held k e cs' = some z := by
      intro i hi
      have h1 := hel i hi
      rw [hc, List.getElem?_eq_getElem (by omega)] at h1
      obtain ⟨cs', h2, h3⟩ := Option.bind_eq_some_iff.1 h1
      obtain ⟨-, h4, h5⟩ := World.cells?_some h2
      exact ⟨cs', h5, h4, _, List.getElem_mem _, h3⟩
    have hB := bulk_slice (elems.map (·.1)) (rest.map (·.1))
    have hL := bulk_len (elems.map (·.1))
    rw [List.length_map, hlen] at hL
    refine ⟨some a, len, cap, fun i j => if hi : i < len then ((each i hi).choose.getD j undef) else undef, rfl, fun i hi => ?_, ?_, fun i hi => ?_⟩
    · obtain ⟨h1, h2, -⟩ := (each i hi).choose_spec
      simp only [dif_pos hi]
      generalize (each i hi).choose = cs' at h1 h2 ⊢
      have hs : a.spot = none := by
        obtain ⟨cs0, k1, k2, -⟩ := each 0 (by omega)
        have k3 := k1 0 hm
        rw [List.getElem?_eq_getElem (by omega)] at k3
        simpa [Addr.add] using World.cell?_spot k3
      obtain ⟨b, o, spt⟩ := a
      obtain rfl : spt = none := hs
      refine ⟨b, o, rfl, fun j hj => ?_⟩
      have h3 := h1 j hj
      have hadd : ((⟨b, o, none⟩ : Addr).add (i * m)).add j = ⟨b, o + i * m + j, none⟩ := by
        rw [Go.Deep.add_add]
        unfold Addr.add
        split
        · rename_i hz
          have : i * m = 0 := by omega
          have : j = 0 := by omega
          simp_all
        · simp [Nat.add_assoc]
      rw [hadd, List.getElem?_eq_getElem (by omega)] at h3
      rw [h3]
      simp [List.getD_eq_getElem?_getD, List.getElem?_eq_getElem (show j < cs'.length by omega)]
    · show len + 1 ≤ Rows.uptoBulk (.slice (elems.map (·.1)) (rest.map (·.1)))
      omega
    · obtain ⟨-, h2, z, h3, h4⟩ := (each i hi).choose_spec
      simp only [dif_pos hi]
      generalize (each i hi).choose = cs' at h2 h4 ⊢
      refine ⟨k, z, Nat.lt_succ_self k, ?_, ?_⟩
      · have : (List.range m).map (fun j => cs'.getD j undef) = cs' := by
          refine List.ext_getElem? fun j => ?_
          by_cases hj : j < m
          · simp [hj, List.getD_eq_getElem?_getD, List.getElem?_eq_getElem (show j < cs'.length by omega)]
          · simp [hj, List.getElem?_eq_none (show cs'.length ≤ j by omega)]
        rw [this]
        exact h4
      · have := bulk_part (List.mem_map_of_mem (f := (·.1)) h3)
        show Rows.uptoBulk z.1 + 1 ≤ Rows.uptoBulk (.slice (elems.map (·.1)) (rest.map (·.1)))
        omega
theorem cInt : Tryz.prog.cellsOf 3 = 1 := by kernel_rfl
theorem cStr : Tryz.prog.cellsOf 9 = 1 := by kernel_rfl
theorem cBool : Tryz.prog.cellsOf 4 = 1 := by kernel_rfl
theorem cTy : Tryz.prog.cellsOf 33 = 5 := by kernel_rfl
theorem cTys : Tryz.prog.cellsOf 31 = 1 := by kernel_rfl
theorem cSlot : Tryz.prog.cellsOf 61 = 9 := by kernel_rfl
theorem cSlots : Tryz.prog.cellsOf 23 = 1 := by kernel_rfl
theorem cExprs : Tryz.prog.cellsOf 35 = 1 := by kernel_rfl
theorem cStrs : Tryz.prog.cellsOf 22 = 1 := by kernel_rfl
theorem cClass : Tryz.prog.cellsOf 25 = 5 := by kernel_rfl
theorem cExpr : Tryz.prog.cellsOf 37 = 11 := by kernel_rfl
theorem agg5_range (A : Nat → Value) : (List.range 5).map A = [A 0, A 1, A 2, A 3, A 4] := rfl
set_option maxRecDepth 100000 in
theorem rd_type : ∀ (fuel : Nat) (cs : List Value) (x : DataW H × List MemPlace), DataW.trod enc Tryz.prog W 0 sp held fuel 33 cs = some x → Rows.uptoBulk x.1 ≤ 1000000000000 →
    ∃ a0 a1 a2 a3 a4, cs = [a0, a1, a2, a3, a4] ∧ TyAl W (.agg #[a0, a1, a2, a3, a4]) (.agg #[a0, a1, a2, a3, a4]) := by
  intro fuel
  induction fuel using Nat.strongRecOn with
  | _ fuel ih =>
    intro cs x h hb
    obtain ⟨xs, n, rfl, rfl, hl, hxl, hf⟩ := DataW.trod_struct Tryz.underlying33 h
    rw [cTy] at hl
    have hxl : xs.length = 5 := hxl
    match cs, hl, xs, hxl with
    | [c0, c1, c2, c3, c4], _, [y0, y1, y2, y3, y4], _ =>
      have g0 : DataW.trod enc Tryz.prog W 0 sp held n 3 (([c0, c1, c2, c3, c4].drop 0).take (Tryz.prog.cellsOf 3)) = some y0 := hf 0 _ rfl
      have g1 : DataW.trod enc Tryz.prog W 0 sp held n 9 (([c0, c1, c2, c3, c4].drop 1).take (Tryz.prog.cellsOf 9)) = some y1 := hf 1 _ rfl
      have g2 : DataW.trod enc Tryz.prog W 0 sp held n 3 (([c0, c1, c2, c3, c4].drop 2).take (Tryz.prog.cellsOf 3)) = some y2 := hf 2 _ rfl
      have g3 : DataW.trod enc Tryz.prog W 0 sp held n 3 (([c0, c1, c2, c3, c4].drop 3).take (Tryz.prog.cellsOf 3)) = some y3 := hf 3 _ rfl
      have g4 : DataW.trod enc Tryz.prog W 0 sp held n 31 (([c0, c1, c2, c3, c4].drop 4).take (Tryz.prog.cellsOf 31)) = some y4 := hf 4 _ rfl
      rw [cInt] at g0 g2 g3
      rw [cStr] at g1
      rw [cTys] at g4
      obtain ⟨k, e0, -, -⟩ := DataW.trod_int Tryz.underlying3 g0
      obtain ⟨s, e1, -, -⟩ := DataW.trod_string Tryz.underlying9 g1
      obtain ⟨lo, e2, -, -⟩ := DataW.trod_int Tryz.underlying3 g2
      obtain ⟨hi, e3, -, -⟩ := DataW.trod_int Tryz.underlying3 g3
      obtain ⟨p, m, c, A, e4, hA, hn, hr⟩ := rd_slice Tryz.underlying31 cTy (by decide) g4
      simp only [List.drop_succ_cons, List.drop_zero, List.take_succ_cons, List.take_zero, List.cons.injEq, and_true] at e0 e1 e2 e3 e4
      subst e0 e1 e2 e3 e4
      have hb4 : Rows.uptoBulk y4.1 + 1 ≤ Rows.uptoBulk (.agg ([y0, y1, y2, y3, y4].map (·.1))) := bulk_agg (by simp)
      have hb4' : Rows.uptoBulk (.agg ([y0, y1, y2, y3, y4].map (·.1))) ≤ 1000000000000 := hb
      refine ⟨_, _, _, _, _, rfl, TyAl.mk k lo hi s m p p c c A A (by omega) hA hA (fun i hi => ?_)⟩
      obtain ⟨k', z, hk, hz, hbz⟩ := hr i hi
      obtain ⟨a0, a1, a2, a3, a4, e, ht⟩ := ih k' (by omega) _ _ hz (by omega)
      rw [agg5_range] at e
      simp only [List.cons.injEq, and_true] at e
      obtain ⟨rfl, rfl, rfl, rfl, rfl⟩ := e
      exact ht
set_option maxRecDepth 100000 in
theorem rd_slot {fuel : Nat} {cs : List Value} {x : DataW H × List MemPlace} (h : DataW.trod enc Tryz.prog W 0 sp held fuel 61 cs = some x) (hb : Rows.uptoBulk x.1 ≤ 1048576) :
    ∃ (s : ByteArray) (a1 a2 a3 a4 a5 : Value) (key : ByteArray) (al : Int) (q : Option Addr) (m c : Nat), cs = [.string s, a1, a2, a3, a4, a5, .string key, .int .i64 al, .slice q m c] ∧ TyAl W (.agg #[a1, a2, a3, a4, a5]) (.agg #[a1, a2, a3, a4, a5]) ∧ s.size ≤ 1048576 := by
  obtain ⟨xs, n, rfl, rfl, hl, hxl, hf⟩ := DataW.trod_struct Tryz.underlying61 h
  rw [cSlot] at hl
  have hxl : xs.length = 5 := hxl
  match cs, hl, xs, hxl with
  | [c0, c1, c2, c3, c4, c5, c6, c7, c8], _, [y0, y1, y2, y3, y4], _ =>
    have g0 : DataW.trod enc Tryz.prog W 0 sp held n 9 (([c0, c1, c2, c3, c4, c5, c6, c7, c8].drop 0).take (Tryz.prog.cellsOf 9)) = some y0 := hf 0 _ rfl
    have g1 : DataW.trod enc Tryz.prog W 0 sp held n 33 (([c0, c1, c2, c3, c4, c5, c6, c7, c8].drop 1).take (Tryz.prog.cellsOf 33)) = some y1 := hf 1 _ rfl
    have g2 : DataW.trod enc Tryz.prog W 0 sp held n 9 (([c0, c1, c2, c3, c4, c5, c6, c7, c8].drop 6).take (Tryz.prog.cellsOf 9)) = some y2 := hf 2 _ rfl
    have g3 : DataW.trod enc Tryz.prog W 0 sp held n 3 (([c0, c1, c2, c3, c4, c5, c6, c7, c8].drop 7).take (Tryz.prog.cellsOf 3)) = some y3 := hf 3 _ rfl
    have g4 : DataW.trod enc Tryz.prog W 0 sp held n 35 (([c0, c1, c2, c3, c4, c5, c6, c7, c8].drop 8).take (Tryz.prog.cellsOf 35)) = some y4 := hf 4 _ rfl
    rw [cStr] at g0 g2
    rw [cTy] at g1
    rw [cInt] at g3
    rw [cExprs] at g4
    have hb0 : Rows.uptoBulk y0.1 + 1 ≤ Rows.uptoBulk (.agg ([y0, y1, y2, y3, y4].map (·.1))) := bulk_agg (by simp)
    have hb1 : Rows.uptoBulk y1.1 + 1 ≤ Rows.uptoBulk (.agg ([y0, y1, y2, y3, y4].map (·.1))) := bulk_agg (by simp)
    have hb' : Rows.uptoBulk (.agg ([y0, y1, y2, y3, y4].map (·.1))) ≤ 1048576 := hb
    obtain ⟨s, e0, rfl, -⟩ := DataW.trod_string Tryz.underlying9 g0
    obtain ⟨a1, a2, a3, a4, a5, e1, ht⟩ := rd_type _ _ _ g1 (by omega)
    obtain ⟨key, e2, -, -⟩ := DataW.trod_string Tryz.underlying9 g2
    obtain ⟨al, e3, -, -⟩ := DataW.trod_int Tryz.underlying3 g3
    obtain ⟨q, m, c, A, e4, -, -, -⟩ := rd_slice Tryz.underlying35 cExpr (by decide) g4
    simp only [List.drop_succ_cons, List.drop_zero, List.take_succ_cons, List.take_zero, List.cons.injEq, and_true] at e0 e1 e2 e3 e4
    obtain ⟨rfl, rfl, rfl, rfl, rfl⟩ := e1
    subst e0 e2 e3 e4
    refine ⟨s, _, _, _, _, _, key, al, q, m, c, rfl, ht, ?_⟩
    have e : Rows.uptoBulk (DataW.lit (H := H) (.string s.data.toList)) = s.data.toList.length + 1 := by simp [Rows.uptoBulk]
    have e' : s.data.toList.length = s.size := by rw [Array.length_toList]; rfl
    have : Rows.uptoBulk (DataW.lit (H := H) (.string s.data.toList)) + 1 ≤ 1048576 := Nat.le_trans hb0 hb'
    omega
set_option maxRecDepth 100000 in
theorem rd_class {fuel : Nat} {cs : List Value} {x : DataW H × List MemPlace} (h : DataW.trod enc Tryz.prog W 0 sp held fuel 25 cs = some x) (hb : Rows.uptoBulk x.1 ≤ 1048576) :
    ∃ (cn : ByteArray) (q : Option Addr) (m c : Nat) (p : Option Addr) (n d : Nat) (ab se : Bool), cs = [.string cn, .slice q m c, .slice p n d, .bool ab, .bool se] ∧ ∃ A nm al, Slots W p n A nm al := by
  obtain ⟨xs, k, rfl, rfl, hl, hxl, hf⟩ := DataW.trod_struct Tryz.underlying25 h
  rw [cClass] at hl
  have hxl : xs.length = 5 := hxl
  match cs, hl, xs, hxl with
  | [c0, c1, c2, c3, c4], _, [y0, y1, y2, y3, y4], _ =>
    have g0 : DataW.trod enc Tryz.prog W 0 sp held k 9 (([c0, c1, c2, c3, c4].drop 0).take (Tryz.prog.cellsOf 9)) = some y0 := hf 0 _ rfl
    have g1 : DataW.trod enc Tryz.prog W 0 sp held k 22 (([c0, c1, c2, c3, c4].drop 1).take (Tryz.prog.cellsOf 22)) = some y1 := hf 1 _ rfl
    have g2 : DataW.trod enc Tryz.prog W 0 sp held k 23 (([c0, c1, c2, c3, c4].drop 2).take (Tryz.prog.cellsOf 23)) = some y2 := hf 2 _ rfl
    have g3 : DataW.trod enc Tryz.prog W 0 sp held k 4 (([c0, c1, c2, c3, c4].drop 3).take (Tryz.prog.cellsOf 4)) = some y3 := hf 3 _ rfl
    have g4 : DataW.trod enc Tryz.prog W 0 sp held k 4 (([c0, c1, c2, c3, c4].drop 4).take (Tryz.prog.cellsOf 4)) = some y4 := hf 4 _ rfl
    rw [cStr] at g0
    rw [cStrs] at g1
    rw [cSlots] at g2
    rw [cBool] at g3 g4
    have hb2 : Rows.uptoBulk y2.1 + 1 ≤ Rows.uptoBulk (.agg ([y0, y1, y2, y3, y4].map (·.1))) := bulk_agg (by simp)
    have hb' : Rows.uptoBulk (.agg ([y0, y1, y2, y3, y4].map (·.1))) ≤ 1048576 := hb
    obtain ⟨cn, e0, -, -⟩ := DataW.trod_string Tryz.underlying9 g0
    obtain ⟨q, m, c, _, e1, -, -, -⟩ := rd_slice Tryz.underlying22 cStr (by decide) g1
    obtain ⟨p, n, d, A, e2, hA, hn, hr⟩ := rd_slice Tryz.underlying23 cSlot (by decide) g2
    obtain ⟨ab, e3, -⟩ := DataW.trod_bool Tryz.underlying4 g3
    obtain ⟨se, e4, -⟩ := DataW.trod_bool Tryz.underlying4 g4
    simp only [List.drop_succ_cons, List.drop_zero, List.take_succ_cons, List.take_zero, List.cons.injEq, and_true] at e0 e1 e2 e3 e4
    subst e0 e1 e2 e3 e4
    have each : ∀ i, i < n → ∃ (s : ByteArray) (key : ByteArray) (al : Int) (q : Option Addr) (m c : Nat), A i 0 = .string s ∧ A i 6 = .string key ∧ A i 7 = .int .i64 al ∧ A i 8 = .slice q m c ∧ TyAl W (tyv A i) (tyv A i) ∧ s.size ≤ 1048576 := by
      intro i hi
      obtain ⟨k', z, hk, hz, hbz⟩ := hr i hi
      obtain ⟨s, a1, a2, a3, a4, a5, key, al, q', m', c', e, ht, hs⟩ := rd_slot hz (by omega)
      have e9 : (List.range 9).map (A i) = [A i 0, A i 1, A i 2, A i 3, A i 4, A i 5, A i 6, A i 7, A i 8] := rfl
      rw [e9] at e
      simp only [List.cons.injEq, and_true] at e
      obtain ⟨f0, f1, f2, f3, f4, f5, f6, f7, f8⟩ := e
      refine ⟨s, key, al, q', m', c', f0, f6, f7, f8, ?_, hs⟩
      unfold tyv
      rw [f1, f2, f3, f4, f5]
      exact ht
    refine ⟨cn, q, m, c, p, n, d, ab, se, rfl, A, fun i => if hi : i < n then (each i hi).choose else ⟨#[]⟩, fun i => if hi : i < n then (each i hi).choose_spec.choose_spec.choose else 0, hA, fun i hi => ?_, fun i hi => ?_, fun i hi => ?_, fun i hi => ?_, fun i hi => ?_, fun i hi => ?_, by omega⟩
    · simp only [dif_pos hi]
      obtain ⟨q', m', c', h0, -⟩ := (each i hi).choose_spec.choose_spec.choose_spec
      exact h0
    · simp only [dif_pos hi]
      obtain ⟨q', m', c', -, -, h0, -⟩ := (each i hi).choose_spec.choose_spec.choose_spec
      exact h0
    · obtain ⟨s, key, al, q', m', c', h0, h1, h2, h3, h4, h5⟩ := each i hi
      exact ⟨key, h1⟩
    · obtain ⟨s, key, al, q', m', c', h0, h1, h2, h3, h4, h5⟩ := each i hi
      exact ⟨q', m', c', h3⟩
    · obtain ⟨s, key, al, q', m', c', h0, h1, h2, h3, h4, h5⟩ := each i hi
      exact h4
    · simp only [dif_pos hi]
      obtain ⟨q', m', c', -, -, -, -, -, h0⟩ := (each i hi).choose_spec.choose_spec.choose_spec
      exact Nat.le_trans h0 (by decide)
end
end Go.Proofs.YtjnimfnelacceaaGreatDoor
