/- Accessors of the program. -/
import Derived.Test.YtjnimfnelacceaaGreatDoorLot42
set_option linter.unusedSimpArgs false
set_option linter.unusedVariables false
namespace Go.Proofs.YtjnimfnelacceaaGreatDoor
open Go.RowKit Go.Proofs.YtjnimfnelacceaaGreatDoorW.PrintLast

set_option maxRecDepth 100000 in
set_option maxHeartbeats 8000000 in
theorem accessors_any {W : World} {p : Option Addr} {n : Nat} {A : Nat → Nat → Value} {nm : Nat → ByteArray} {al : Nat → Int} (hs : Slots W p n A nm al) (c : Nat) (cn : ByteArray) (sp : Option Addr) (sn sc : Nat) (ab se : Bool) (hE : Env W) (h9 : 9 ≤ W.heap.size) :
    Calls Tryz.prog 6 #[.agg #[.string cn, .slice sp sn sc, .slice p n c, .bool ab, .bool se]] W (AccEnd nm al cn (fun w i ty => TyAl w ty (tyv A i)) n W) := by
  have HS := Lib.hid hs
  have HE := Lib.hid (And.intro hE h9)
  have hn := hs.hn
  clear hs hE h9
  go_enter Tryz.func6, Tryz.ntmps6
  go_wp2_with fail
  have H0 := Lib.hid (show AccAt nm al cn (fun w i ty => TyAl w ty (tyv A i)) #[.string cn, .slice sp sn sc, .slice p n c, .bool ab, .bool se] W (W.heap.size + 1) (.slice none 0 0) 0 [] (W.alloc (.cells #[.string cn, .slice sp sn sc, .slice p n c, .bool ab, .bool se] 25)) from
    ⟨(Below.refl _ _).alloc (Nat.le_refl _) _, box_new _ _ _, World.ownsRow_nil .., by simp, by simp, fun _ _ _ => rfl⟩)
  refine wp_at (fun wx => Hid (AccAt nm al cn (fun w i ty => TyAl w ty (tyv A i)) #[.string cn, .slice sp sn sc, .slice p n c, .bool ab, .bool se] W (W.heap.size + 1) (.slice none 0 0) 0 [] wx)) H0 ?_
  clear H0
  intro w1 H0
  go_loopw [3, 13] (fun v3 v13 wr => ∃ i : Nat, i ≤ n ∧ v13 = .int .i64 i ∧ Hid (∃ xs, AccAt nm al cn (fun w i ty => TyAl w ty (tyv A i)) #[.string cn, .slice sp sn sc, .slice p n c, .bool ab, .bool se] W (W.heap.size + 1) v3 i xs wr)) (fun _ v13 _ => n - (intOf v13).toNat)
  case atStart => exact ⟨0, Nat.zero_le _, rfl, Lib.hid ⟨[], H0.out⟩⟩
  case round =>
    clear H0
    obtain ⟨i, hi, rfl, HR⟩ := hrel
    obtain ⟨xs, hr⟩ := HR.out
    clear HR
    have HR := Lib.hid hr
    have hw1 := hr.below.size
    have b0 : wr.cell? ⟨W.heap.size, 0, none⟩ = some (.string cn) := hr.box 0 _ rfl
    have l1 : W.heap.size < wr.heap.size := World.block_lt_of_cell? wr _ b0
    by_cases hlt : i < n
    · obtain ⟨k, s, lo, hi', q, m, c5, key, q8, m8, c8, a0, a1, a2, a3, a4, a5, a6, a7, a8⟩ := slot_at HS.out hlt
      obtain ⟨pb, po, rfl, hpc⟩ := (HS.out.row.below hr.below).at_ (by omega)
      have e0 := hpc i hlt 0 (by decide)
      have e1 := hpc i hlt 1 (by decide)
      have e2 := hpc i hlt 2 (by decide)
      have e3 := hpc i hlt 3 (by decide)
      have e4 := hpc i hlt 4 (by decide)
      have e5 := hpc i hlt 5 (by decide)
      have e6 := hpc i hlt 6 (by decide)
      have e7 := hpc i hlt 7 (by decide)
      have e8 := hpc i hlt 8 (by decide)
      rw [a0] at e0
      rw [a1] at e1
      rw [a2] at e2
      rw [a3] at e3
      rw [a4] at e4
      rw [a5] at e5
      rw [a6] at e6
      rw [a7] at e7
      rw [a8] at e8
      simp only [Nat.add_zero] at e0
      clear hpc hr
      have g0 : decide ((i : Int) < n) = true := decide_eq_true (by omega)
      have g1 : (0 : Int) ≤ i := by omega
      have g2 : (i : Int) < n := by omega
      have HA := Lib.hid (show tyv A i = .agg #[.int .i64 k, .string s, .int .i64 lo, .int .i64 hi', .slice q m c5] from by unfold tyv; rw [a1, a2, a3, a4, a5])
      clear a0 a1 a2 a3 a4 a5 a6 a7 a8
      by_cases h4 : al i = 4
      · have d4 : decide (al i = 4) = true := decide_eq_true h4
        go_wp2_with fail
        have hr := HR.out
        refine ⟨⟨i + 1, by omega, by go_num, Lib.hid ⟨xs, ?_⟩⟩, by simp [intOf]; omega⟩
        refine ⟨hr.below.alloc hw1 _, hr.box.under ((Below.refl _ _).alloc (Nat.le_refl _) _), own_below hr.own ((Below.refl _ _).alloc (Nat.le_refl _) _), by have := hr.len; omega, hr.cells, (hr.off.under ((Below.refl _ _).alloc (Nat.le_refl _) _)).imp fun w h => ?_⟩
        unfold Accs
        rw [if_pos h4]
        exact h
      · have d4 : decide (al i = 4) = false := decide_eq_false h4
        have HC := Lib.hid (fun (w' : World) (hb : Below W.heap.size W w') => copyType_in (HS.out.ty i hlt).in_ w' hb)
        rw [HA.out] at HC
        go_wp2_with fail
        have hbc : Below wr.heap.size wr ((wr.alloc (.cells #[.string (nm i), .int .i64 k, .string s, .int .i64 lo, .int .i64 hi', .slice q m c5, .string key, .int .i64 (al i), .slice q8 m8 c8] 61)).alloc (.cells (parO cn) 63)) := ((Below.refl _ _).alloc (Nat.le_refl _) _).alloc (by simp) _
        refine (HC.out _ (HR.out.below.trans (hbc.mono hw1))).mono ?_
        rintro e w2 ⟨v2, rfl, hty2, hb2⟩
        obtain ⟨k2, lo2, hi2, s2, p2, n2, c2, rfl⟩ := hty2.shape
        have hbc2 : Below wr.heap.size wr w2 := hbc.trans (hb2.mono hbc.size)
        have x5 : BoxAt w2 wr.heap.size #[.string (nm i), .int .i64 k, .string s, .int .i64 lo, .int .i64 hi', .slice q m c5, .string key, .int .i64 (al i), .slice q8 m8 c8] := ((box_new wr _ _).under ((Below.refl _ _).alloc (Nat.le_refl _) _)).under hb2
        have x6 : BoxAt w2 (wr.heap.size + 1) (parO cn) := by
          have := (box_new (wr.alloc (.cells #[.string (nm i), .int .i64 k, .string s, .int .i64 lo, .int .i64 hi', .slice q m c5, .string key, .int .i64 (al i), .slice q8 m8 c8] 61)) (parO cn) 63).under hb2
          rw [World.size_alloc] at this
          exact this
        have hz2 : wr.heap.size + 2 ≤ w2.heap.size := by have := hb2.size; simpa using this
        have HTY := Lib.hid (And.intro hty2 (And.intro x5 (And.intro x6 hbc2)))
        clear hty2 x5 x6 hbc2 hbc hb2
        go_wp2_with fail
        refine wp_at (fun wx => Hid (At7 W wr #[.string (nm i), .int .i64 k, .string s, .int .i64 lo, .int .i64 hi', .slice q m c5, .string key, .int .i64 (al i), .slice q8 m8 c8] #[.string VAL, .int .i64 k2, .string s2, .int .i64 lo2, .int .i64 hi2, .slice p2 n2 c2] cn (.agg #[.int .i64 k2, .string s2, .int .i64 lo2, .int .i64 hi2, .slice p2 n2 c2]) (.agg #[.int .i64 k, .string s, .int .i64 lo, .int .i64 hi', .slice q m c5]) w2.heap.size wx)) (Lib.hid ⟨HTY.out.2.2.2.alloc (by omega) _, HTY.out.2.1.under ((Below.refl _ _).alloc (Nat.le_refl _) _), HTY.out.2.2.1.under ((Below.refl _ _).alloc (Nat.le_refl _) _), box_new _ _ _, (HTY.out.1.under ((Below.refl _ _).alloc (Nat.le_refl _) _)).keep (fun _ _ _ _ h => h) (fun b hb => (by have := hz2; have : ((wr.alloc (.cells #[.string (nm i), .int .i64 k, .string s, .int .i64 lo, .int .i64 hi', .slice q m c5, .string key, .int .i64 (al i), .slice q8 m8 c8] 61)).alloc (.cells (parO cn) 63)).heap.size ≤ b := hb; simp at this; omega)) (fun _ h => h), by simp, hz2⟩) ?_
        clear HTY
        intro w3 H7
        have y0 := H7.out.slot 0 _ rfl
        have y1 := H7.out.slot 1 _ rfl
        have y2 := H7.out.slot 2 _ rfl
        have y3 := H7.out.slot 3 _ rfl
        have y4 := H7.out.slot 4 _ rfl
        have y5 := H7.out.slot 5 _ rfl
        have z0 := H7.out.par 0 _ rfl
        have z1 := H7.out.par 1 _ rfl
        have z2 := H7.out.par 2 _ rfl
        have z3 := H7.out.par 3 _ rfl
        have z4 := H7.out.par 4 _ rfl
        have z5 := H7.out.par 5 _ rfl
        refine start_ (n := 15) (S := fun wx => wx.cell? ⟨wr.heap.size, 0, none⟩ = some (.string (nm i)) ∧ wx.cell? ⟨wr.heap.size, 1, none⟩ = some (.int .i64 k) ∧ wx.cell? ⟨wr.heap.size, 2, none⟩ = some (.string s) ∧ wx.cell? ⟨wr.heap.size, 3, none⟩ = some (.int .i64 lo) ∧ wx.cell? ⟨wr.heap.size, 4, none⟩ = some (.int .i64 hi') ∧ wx.cell? ⟨wr.heap.size, 5, none⟩ = some (.slice q m c5) ∧ wx.cell? ⟨wr.heap.size + 1, 0, none⟩ = some (.string OBJ) ∧ wx.cell? ⟨wr.heap.size + 1, 1, none⟩ = some (.int .i64 1) ∧ wx.cell? ⟨wr.heap.size + 1, 2, none⟩ = some (.string cn) ∧ wx.cell? ⟨wr.heap.size + 1, 3, none⟩ = some (.int .i64 0) ∧ wx.cell? ⟨wr.heap.size + 1, 4, none⟩ = some (.int .i64 0) ∧ wx.cell? ⟨wr.heap.size + 1, 5, none⟩ = some (.slice none 0 0)) (ds := []) #[false, false, false, false, false, false, false, false, false, false, false, false, false, false, false] (by kernel_rfl) rfl rfl ⟨y0, y1, y2, y3, y4, y5, z0, z1, z2, z3, z4, z5⟩ (fun hS => ?_)
        refine pure_ (i := 0) (N := some 28) (v := ?_) (a' := ?_) #[true, false, false, false, false, false, false, false, false, false, false, false, false, false, false] rfl rfl (by kernel_rfl) (fun _ _ _ h => h) (Or.inl ⟨by rfl, ?_⟩) ?_ ?_
        rotate_left
        · intro w'
          go_simp
          with_reducible rfl
        rotate_left
        · simp only [Act.put, List.setIfInBounds_toArray, List.set_cons_zero, List.set_cons_succ, i64_w, i32_w]
          rfl
        refine take_ (i := 1) (N := some 29) (v := ?_) (a' := ?_) #[true, true, false, false, false, false, false, false, false, false, false, false, false, false, false] rfl rfl (by kernel_rfl) (fun _ _ _ h => h) (Or.inl ⟨by rfl, ?_⟩) hS ?_ ?_
        rotate_left
        · rintro wz ⟨y0, y1, y2, y3, y4, y5, z0, z1, z2, z3, z4, z5⟩
          go_simp
          with_reducible rfl
        rotate_left
        · simp only [Act.put, List.setIfInBounds_toArray, List.set_cons_zero, List.set_cons_succ, i64_w, i32_w]
          rfl
        refine take_ (i := 2) (N := some 30) (v := ?_) (a' := ?_) #[true, true, true, false, false, false, false, false, false, false, false, false, false, false, false] rfl rfl (by kernel_rfl) (fun _ _ _ h => h) (Or.inl ⟨by rfl, ?_⟩) hS ?_ ?_
        rotate_left
        · rintro wz ⟨y0, y1, y2, y3, y4, y5, z0, z1, z2, z3, z4, z5⟩
          go_simp
          with_reducible rfl
        rotate_left
        · simp only [Act.put, List.setIfInBounds_toArray, List.set_cons_zero, List.set_cons_succ, i64_w, i32_w]
          rfl
        refine pure_ (i := 4) (N := some 32) (v := ?_) (a' := ?_) #[true, true, true, false, true, false, false, false, false, false, false, false, false, false, false] rfl rfl (by kernel_rfl) (fun _ _ _ h => h) (Or.inl ⟨by rfl, ?_⟩) ?_ ?_
        rotate_left
        · intro w'
          go_simp
          with_reducible rfl
        rotate_left
        · simp only [Act.put, List.setIfInBounds_toArray, List.set_cons_zero, List.set_cons_succ, i64_w, i32_w]
          rfl
        refine take_ (i := 5) (N := some 33) (v := ?_) (a' := ?_) #[true, true, true, false, true, true, false, false, false, false, false, false, false, false, false] rfl rfl (by kernel_rfl) (fun _ _ _ h => h) (Or.inl ⟨by rfl, ?_⟩) hS ?_ ?_
        rotate_left
        · rintro wz ⟨y0, y1, y2, y3, y4, y5, z0, z1, z2, z3, z4, z5⟩
          go_simp
          with_reducible rfl
        rotate_left
        · simp only [Act.put, List.setIfInBounds_toArray, List.set_cons_zero, List.set_cons_succ, i64_w, i32_w]
          rfl
        refine pure_ (i := 7) (N := some 35) (v := ?_) (a' := ?_) #[true, true, true, false, true, true, false, true, false, false, false, false, false, false, false] rfl rfl (by kernel_rfl) (fun _ _ _ h => h) (Or.inl ⟨by rfl, ?_⟩) ?_ ?_
        rotate_left
        · intro w'
          go_simp
          with_reducible rfl
        rotate_left
        · simp only [Act.put, List.setIfInBounds_toArray, List.set_cons_zero, List.set_cons_succ, i64_w, i32_w]
          rfl
        refine take_ (i := 8) (N := some 36) (v := ?_) (a' := ?_) #[true, true, true, false, true, true, false, true, true, false, false, false, false, false, false] rfl rfl (by kernel_rfl) (fun _ _ _ h => h) (Or.inl ⟨by rfl, ?_⟩) hS ?_ ?_
        rotate_left
        · rintro wz ⟨y0, y1, y2, y3, y4, y5, z0, z1, z2, z3, z4, z5⟩
          go_simp
          with_reducible rfl
        rotate_left
        · simp only [Act.put, List.setIfInBounds_toArray, List.set_cons_zero, List.set_cons_succ, i64_w, i32_w]
          rfl
        have HW3 := Lib.hid (show Below W.heap.size W w3.drew from drew_u (HR.out.below.trans (H7.out.below.mono hw1)))
        have HG := Lib.hid (show ∀ b, ownB u3 b → W.heap.size + 1 ≤ b ∧ b < wr.heap.size from fun b hb => HR.out.own.lt b hb)
        refine makes_ [(3, 31), (6, 34), (9, 37), (10, 38), (11, 39), (12, 40), (13, 8)] 13 14 8 (ownB u3) (F8 (nm i) cn (.agg #[.int .i64 k, .string s, .int .i64 lo, .int .i64 hi', .slice q m c5])) #[.string ⟨#[]⟩, .slice none 0 0, .int .i64 0, .string ⟨#[]⟩, .int .i64 0, .int .i64 0, .slice none 0 0, .int .i64 0, .string ⟨#[]⟩, .int .i64 0, .int .i64 0, .string ⟨#[]⟩, .int .i64 0, .int .i64 0, .slice none 0 0, .slice none 0 0, .slice none 0 0, .slice none 0 0] 55 (by kernel_rfl) (by decide) (by decide) (by decide) (by kernel_rfl) (by decide) (by kernel_rfl) (by rfl) (by kernel_rfl) (by decide) ?hS ?hG0 ?make ?new 55 12 40 (by decide) (by decide) (by rfl) (by kernel_rfl) info55s ?hF ?done (by decide)
        case hS =>
          intro w hb
          exact ⟨below_cell hb hS.1, below_cell hb hS.2.1, below_cell hb hS.2.2.1, below_cell hb hS.2.2.2.1, below_cell hb hS.2.2.2.2.1, below_cell hb hS.2.2.2.2.2.1, below_cell hb hS.2.2.2.2.2.2.1, below_cell hb hS.2.2.2.2.2.2.2.1, below_cell hb hS.2.2.2.2.2.2.2.2.1, below_cell hb hS.2.2.2.2.2.2.2.2.2.1, below_cell hb hS.2.2.2.2.2.2.2.2.2.2.1, below_cell hb hS.2.2.2.2.2.2.2.2.2.2.2⟩
        case hG0 =>
          intro b hb
          have h1 := (HG.out b hb).2
          have h2 := H7.out.below.size
          show b < w3.heap.size
          omega
        case make =>
          intro j tj oj hm hne ho x w G hb hgc hf K hK
          simp only [List.mem_cons, Prod.mk.injEq, List.not_mem_nil, or_false] at hm
          rcases hm with ⟨rfl, rfl⟩ | ⟨rfl, rfl⟩ | ⟨rfl, rfl⟩ | ⟨rfl, rfl⟩ | ⟨rfl, rfl⟩ | ⟨rfl, rfl⟩ | ⟨rfl, rfl⟩
          · change some _ = some oj at ho
            injection ho with ho
            subst ho
            refine value_ (w1 := w.alloc (.cells (parO cn) 63)) (v := .slice (some ⟨w.heap.size, 0, none⟩) 1 1) (by rfl) rfl ?_ (hK.out _ _ ((Below.refl _ _).alloc (Nat.le_refl _) _) ?_)
            · simp only [mact, List.map_cons, List.map_nil, putAll, Act.put, List.setIfInBounds_toArray, List.set_cons_zero, List.set_cons_succ, parO]
              go_simp
              try rfl
            · refine (Off.box (box_new w _ _) (fun hg => ?_)).imp (fun w' h => ⟨_, rfl, h⟩)
              have := (hgc.1 _ hg).2
              omega
          · change some _ = some oj at ho
            injection ho with ho
            subst ho
            refine goes_ Tryz.func17 (by kernel_rfl) rfl #[.agg #[.int .i64 k, .string s, .int .i64 lo, .int .i64 hi', .slice q m c5]] (by rfl) rfl rfl (by simp only [mact, List.map_toArray, List.map_cons, List.map_nil, putAll, Act.put, List.setIfInBounds_toArray, List.set_cons_zero, List.set_cons_succ]; rfl) ?_
            refine (HC.out w (HW3.out.trans (hb.mono HW3.out.size))).mono ?_
            rintro e w5 ⟨v5, rfl, hty5, hb5⟩
            obtain ⟨k5, lo5, hi5, s5, p5, n5, c5', rfl⟩ := hty5.shape
            refine ⟨_, rfl, hK.out _ _ hb5 ((Off.ty hty5 (fun b hb hg => ?_) (fun b hb hg => ?_)).imp (fun w' h => ⟨k5, lo5, hi5, s5, p5, n5, c5', rfl, h⟩))⟩
            · have := (hgc.1 _ hg).2
              omega
            · have h1 := HW3.out.size
              rcases (hgc.1 _ hg).1 with h2 | h2
              · have := (HG.out b h2).1
                omega
              · omega
          · change some _ = some oj at ho
            injection ho with ho
            subst ho
            refine goes_ Tryz.func18 (by kernel_rfl) rfl #[.string OBJ] (by rfl) rfl rfl (by (simp only [List.map_toArray, List.map_cons, List.map_nil]); rfl) ?_
            refine (variable_any OBJ w).mono ?_
            rintro e w5 ⟨rfl, hb5⟩
            exact ⟨_, rfl, hK.out _ _ hb5 (fun _ _ _ => rfl)⟩
          · change some _ = some oj at ho
            injection ho with ho
            subst ho
            have e9 : x 9 = .agg (varE OBJ) := (hf (9, 37) (by simp) (by decide) (by rfl)).out
            refine value_ (w1 := w.alloc (.cells (varE OBJ) 37)) (v := .slice (some ⟨w.heap.size, 0, none⟩) 1 1) (by rfl) rfl ?_ (hK.out _ _ ((Below.refl _ _).alloc (Nat.le_refl _) _) ?_)
            · simp only [mact, List.map_cons, List.map_nil, putAll, Act.put, List.setIfInBounds_toArray, List.set_cons_zero, List.set_cons_succ, e9, varE]
              go_simp
            · refine (Off.box (box_new w _ _) (fun hg => ?_)).imp (fun w' h => ⟨_, rfl, h⟩)
              have := (hgc.1 _ hg).2
              omega
          · change some _ = some oj at ho
            injection ho with ho
            subst ho
            have h10 : Off G w (fun w => ∃ b, x 10 = .slice (some ⟨b, 0, none⟩) 1 1 ∧ BoxAt w b (varE OBJ)) := hf (10, 38) (by simp) (by decide) (by rfl)
            obtain ⟨b10, e10, -⟩ := h10.out
            refine value_ (w1 := w) (v := .agg (exM 15 (nm i) ⟨b10, 0, none⟩ 1)) (by rfl) rfl ?_ (hK.out _ _ (Below.refl _ _) ?_)
            · simp only [mact, List.map_cons, List.map_nil, putAll, Act.put, List.setIfInBounds_toArray, List.set_cons_zero, List.set_cons_succ, e10, exM]
              go_simp
            · refine h10.imp (fun w' h => ?_)
              obtain ⟨b', e', h'⟩ := h
              have := e10.symm.trans e'
              simp only [Value.slice.injEq, Option.some.injEq, Addr.mk.injEq, and_true] at this
              subst this
              exact ⟨_, rfl, h'⟩
          · change some _ = some oj at ho
            injection ho with ho
            subst ho
            have h3 : Off G w (fun w => ∃ b, x 3 = .slice (some ⟨b, 0, none⟩) 1 1 ∧ BoxAt w b (parO cn)) := hf (3, 31) (by simp) (by decide) (by rfl)
            have h6 : Off G w (fun w => TyQ w (x 6) (.agg #[.int .i64 k, .string s, .int .i64 lo, .int .i64 hi', .slice q m c5])) := hf (6, 34) (by simp) (by decide) (by rfl)
            have h11 : Off G w (fun w => ∃ b, x 11 = .agg (exM 15 (nm i) ⟨b, 0, none⟩ 1) ∧ BoxAt w b (varE OBJ)) := hf (11, 39) (by simp) (by decide) (by rfl)
            obtain ⟨b3, f3, -⟩ := h3.out
            obtain ⟨k6, lo6, hi6, s6, p6, n6, c6, f6, -⟩ := h6.out
            obtain ⟨b11, f11, -⟩ := h11.out
            refine value_ (w1 := w) (v := .agg (metM 15 (nm i) (nm i) ⟨b3, 0, none⟩ ⟨b11, 0, none⟩ 1 (.int .i64 k6) (.string s6) (.int .i64 lo6) (.int .i64 hi6) (.slice p6 n6 c6))) (by rfl) rfl ?_ (hK.out _ _ (Below.refl _ _) ?_)
            · simp only [mact, List.map_cons, List.map_nil, putAll, Act.put, List.setIfInBounds_toArray, List.set_cons_zero, List.set_cons_succ, f3, f6, f11, exM, metM]
              go_simp
            · refine ((h3.and h6).and h11).imp (fun w' h => ?_)
              obtain ⟨⟨⟨b', e', h'⟩, ⟨_, _, _, _, _, _, _, -, hty⟩⟩, ⟨b'', e'', h''⟩⟩ := h
              have := f3.symm.trans e'
              simp only [Value.slice.injEq, Option.some.injEq, Addr.mk.injEq, and_true] at this
              subst this
              have := f11.symm.trans e''
              simp only [exM, Value.agg.injEq, Array.mk.injEq, List.cons.injEq, Value.slice.injEq, Option.some.injEq, Addr.mk.injEq, and_true, true_and] at this
              subst this
              rw [f6] at hty
              exact ⟨_, rfl, b3, b11, k6, lo6, hi6, s6, p6, n6, c6, rfl, h', h'', hty⟩
          · exact absurd rfl hne
        case new =>
          intro oj ho x w K hK
          change some _ = some oj at ho
          injection ho with ho
          subst ho
          refine value_ (by rfl) rfl ?_ hK.out
          go_simp
        case hF =>
          intro v w hv
          obtain ⟨M, e, hm⟩ := (show ∃ M, v = .agg M ∧ MetG w (nm i) cn (.agg #[.int .i64 k, .string s, .int .i64 lo, .int .i64 hi', .slice q m c5]) M from hv)
          exact ⟨M, e, hm.size.1, hm.size.2⟩
        case done =>
          intro x w4 G g8 M8 hbs hgc hf hx eM hbx hge hlt8 _ _
          have hL : Off G (w4.setRow g8 M8) (fun w => ∃ M, x 12 = .agg M ∧ MetG w (nm i) cn (.agg #[.int .i64 k, .string s, .int .i64 lo, .int .i64 hi', .slice q m c5]) M) := hf (12, 40) (by simp) (by decide)
          have hL2 : Off (ownB u3) (w4.setRow g8 M8) (fun w => MetG w (nm i) cn (.agg #[.int .i64 k, .string s, .int .i64 lo, .int .i64 hi', .slice q m c5]) M8) := (hL.less (fun b hb => hgc.2 b hb)).imp (fun w' h => by
            obtain ⟨M', e', h'⟩ := h
            have := eM.symm.trans e'
            injection this with this
            subst this
            exact h')
          have hMs := hL2.out.size
          simp only [mact, List.map_cons, List.map_nil, putAll, Act.put, List.setIfInBounds_toArray, List.set_cons_zero, List.set_cons_succ, hx]
          have H8 := Lib.hid (show At7 W wr #[.string (nm i), .int .i64 k, .string s, .int .i64 lo, .int .i64 hi', .slice q m c5, .string key, .int .i64 (al i), .slice q8 m8 c8] #[.string VAL, .int .i64 k2, .string s2, .int .i64 lo2, .int .i64 hi2, .slice p2 n2 c2] cn (.agg #[.int .i64 k2, .string s2, .int .i64 lo2, .int .i64 hi2, .slice p2 n2 c2]) (.agg #[.int .i64 k, .string s, .int .i64 lo, .int .i64 hi', .slice q m c5]) w2.heap.size (w4.setRow g8 M8) ∧ Off (ownB u3) (w4.setRow g8 M8) (fun w => MetG w (nm i) cn (.agg #[.int .i64 k, .string s, .int .i64 lo, .int .i64 hi', .slice q m c5]) M8) ∧ BoxAt (w4.setRow g8 M8) g8 M8 ∧ M8.size = 18 ∧ M8.all (·.oneCell') = true ∧ w3.heap.size ≤ g8 ∧ g8 < (w4.setRow g8 M8).heap.size from by
            have k7 := H7.out
            have hbd : Below w3.heap.size w3 (w4.setRow g8 M8) := (drew_u (Below.refl _ w3)).trans hbs
            refine ⟨⟨k7.below.trans (hbd.mono k7.below.size), k7.slot.under hbd, k7.par.under hbd, k7.val.under hbd, k7.ty.under hbd, Nat.lt_of_lt_of_le k7.lt hbd.size, k7.ge⟩, hL2, hbx, hMs.1, hMs.2, hge, hlt8⟩)
          clear hL hL2 hbx hbs hf hgc hMs hge hlt8
          generalize w4.setRow g8 M8 = w5 at H8 ⊢
          go_wp2_with fail
          have y0 := H8.out.1.slot 0 _ rfl
          have y1 := H8.out.1.slot 1 _ rfl
          have y2 := H8.out.1.slot 2 _ rfl
          have y3 := H8.out.1.slot 3 _ rfl
          have y4 := H8.out.1.slot 4 _ rfl
          have y5 := H8.out.1.slot 5 _ rfl
          have z0 := H8.out.1.par 0 _ rfl
          have z1 := H8.out.1.par 1 _ rfl
          have z2 := H8.out.1.par 2 _ rfl
          have z3 := H8.out.1.par 3 _ rfl
          have z4 := H8.out.1.par 4 _ rfl
          have z5 := H8.out.1.par 5 _ rfl
          have v0 := H8.out.1.val 0 _ rfl
          have v1 := H8.out.1.val 1 _ rfl
          have v2 := H8.out.1.val 2 _ rfl
          have v3 := H8.out.1.val 3 _ rfl
          have v4 := H8.out.1.val 4 _ rfl
          have v5 := H8.out.1.val 5 _ rfl
          refine start_ (n := 18) (S := fun wx => wx.cell? ⟨wr.heap.size, 0, none⟩ = some (.string (nm i)) ∧ wx.cell? ⟨wr.heap.size, 1, none⟩ = some (.int .i64 k) ∧ wx.cell? ⟨wr.heap.size, 2, none⟩ = some (.string s) ∧ wx.cell? ⟨wr.heap.size, 3, none⟩ = some (.int .i64 lo) ∧ wx.cell? ⟨wr.heap.size, 4, none⟩ = some (.int .i64 hi') ∧ wx.cell? ⟨wr.heap.size, 5, none⟩ = some (.slice q m c5) ∧ wx.cell? ⟨wr.heap.size + 1, 0, none⟩ = some (.string OBJ) ∧ wx.cell? ⟨wr.heap.size + 1, 1, none⟩ = some (.int .i64 1) ∧ wx.cell? ⟨wr.heap.size + 1, 2, none⟩ = some (.string cn) ∧ wx.cell? ⟨wr.heap.size + 1, 3, none⟩ = some (.int .i64 0) ∧ wx.cell? ⟨wr.heap.size + 1, 4, none⟩ = some (.int .i64 0) ∧ wx.cell? ⟨wr.heap.size + 1, 5, none⟩ = some (.slice none 0 0) ∧ wx.cell? ⟨w2.heap.size, 0, none⟩ = some (.string VAL) ∧ wx.cell? ⟨w2.heap.size, 1, none⟩ = some (.int .i64 k2) ∧ wx.cell? ⟨w2.heap.size, 2, none⟩ = some (.string s2) ∧ wx.cell? ⟨w2.heap.size, 3, none⟩ = some (.int .i64 lo2) ∧ wx.cell? ⟨w2.heap.size, 4, none⟩ = some (.int .i64 hi2) ∧ wx.cell? ⟨w2.heap.size, 5, none⟩ = some (.slice p2 n2 c2)) (ds := []) #[false, false, false, false, false, false, false, false, false, false, false, false, false, false, false, false, false, false] (by kernel_rfl) rfl rfl ⟨y0, y1, y2, y3, y4, y5, z0, z1, z2, z3, z4, z5, v0, v1, v2, v3, v4, v5⟩ (fun hS => ?_)
          refine pure_ (i := 0) (N := some 41) (v := ?_) (a' := ?_) #[true, false, false, false, false, false, false, false, false, false, false, false, false, false, false, false, false, false] rfl rfl (by kernel_rfl) (fun _ _ _ h => h) (Or.inl ⟨by rfl, ?_⟩) ?_ ?_
          rotate_left
          · intro w'
            go_simp
            with_reducible rfl
          rotate_left
          · simp only [Act.put, List.setIfInBounds_toArray, List.set_cons_zero, List.set_cons_succ, i64_w, i32_w]
            rfl
          refine take_ (i := 1) (N := some 42) (v := ?_) (a' := ?_) #[true, true, false, false, false, false, false, false, false, false, false, false, false, false, false, false, false, false] rfl rfl (by kernel_rfl) (fun _ _ _ h => h) (Or.inl ⟨by rfl, ?_⟩) hS ?_ ?_
          rotate_left
          · rintro wz ⟨y0, y1, y2, y3, y4, y5, z0, z1, z2, z3, z4, z5, v0, v1, v2, v3, v4, v5⟩
            go_simp
            with_reducible rfl
          rotate_left
          · simp only [Act.put, List.setIfInBounds_toArray, List.set_cons_zero, List.set_cons_succ, i64_w, i32_w]
            rfl
          refine take_ (i := 3) (N := some 44) (v := ?_) (a' := ?_) #[true, true, false, true, false, false, false, false, false, false, false, false, false, false, false, false, false, false] rfl rfl (by kernel_rfl) (fun _ _ _ h => h) (Or.inl ⟨by rfl, ?_⟩) hS ?_ ?_
          rotate_left
          · rintro wz ⟨y0, y1, y2, y3, y4, y5, z0, z1, z2, z3, z4, z5, v0, v1, v2, v3, v4, v5⟩
            go_simp
            with_reducible rfl
          rotate_left
          · simp only [Act.put, List.setIfInBounds_toArray, List.set_cons_zero, List.set_cons_succ, i64_w, i32_w]
            rfl
          refine take_ (i := 4) (N := some 45) (v := ?_) (a' := ?_) #[true, true, false, true, true, false, false, false, false, false, false, false, false, false, false, false, false, false] rfl rfl (by kernel_rfl) (fun _ _ _ h => h) (Or.inl ⟨by rfl, ?_⟩) hS ?_ ?_
          rotate_left
          · rintro wz ⟨y0, y1, y2, y3, y4, y5, z0, z1, z2, z3, z4, z5, v0, v1, v2, v3, v4, v5⟩
            go_simp
            with_reducible rfl
          rotate_left
          · simp only [Act.put, List.setIfInBounds_toArray, List.set_cons_zero, List.set_cons_succ, i64_w, i32_w]
            rfl
          refine pure_ (i := 6) (N := some 47) (v := ?_) (a' := ?_) #[true, true, false, true, true, false, true, false, false, false, false, false, false, false, false, false, false, false] rfl rfl (by kernel_rfl) (fun _ _ _ h => h) (Or.inl ⟨by rfl, ?_⟩) ?_ ?_
          rotate_left
          · intro w'
            go_simp
            with_reducible rfl
          rotate_left
          · simp only [Act.put, List.setIfInBounds_toArray, List.set_cons_zero, List.set_cons_succ, i64_w, i32_w]
            rfl
          refine take_ (i := 7) (N := some 48) (v := ?_) (a' := ?_) #[true, true, false, true, true, false, true, true, false, false, false, false, false, false, false, false, false, false] rfl rfl (by kernel_rfl) (fun _ _ _ h => h) (Or.inl ⟨by rfl, ?_⟩) hS ?_ ?_
          rotate_left
          · rintro wz ⟨y0, y1, y2, y3, y4, y5, z0, z1, z2, z3, z4, z5, v0, v1, v2, v3, v4, v5⟩
            go_simp
            with_reducible rfl
          rotate_left
          · simp only [Act.put, List.setIfInBounds_toArray, List.set_cons_zero, List.set_cons_succ, i64_w, i32_w]
            rfl
          refine pure_ (i := 9) (N := some 50) (v := ?_) (a' := ?_) #[true, true, false, true, true, false, true, true, false, true, false, false, false, false, false, false, false, false] rfl rfl (by kernel_rfl) (fun _ _ _ h => h) (Or.inl ⟨by rfl, ?_⟩) ?_ ?_
          rotate_left
          · intro w'
            go_simp
            with_reducible rfl
          rotate_left
          · simp only [Act.put, List.setIfInBounds_toArray, List.set_cons_zero, List.set_cons_succ, i64_w, i32_w]
            rfl
          refine take_ (i := 10) (N := some 51) (v := ?_) (a' := ?_) #[true, true, false, true, true, false, true, true, false, true, true, false, false, false, false, false, false, false] rfl rfl (by kernel_rfl) (fun _ _ _ h => h) (Or.inl ⟨by rfl, ?_⟩) hS ?_ ?_
          rotate_left
          · rintro wz ⟨y0, y1, y2, y3, y4, y5, z0, z1, z2, z3, z4, z5, v0, v1, v2, v3, v4, v5⟩
            go_simp
            with_reducible rfl
          rotate_left
          · simp only [Act.put, List.setIfInBounds_toArray, List.set_cons_zero, List.set_cons_succ, i64_w, i32_w]
            rfl
          have HW5 := Lib.hid (show Below W.heap.size W w5.drew from drew_u (HR.out.below.trans (H8.out.1.below.mono hw1)))
          refine makes_ [(2, 43), (5, 46), (8, 49), (11, 52), (12, 53), (13, 54), (14, 55), (15, 56), (16, 9)] 16 17 9 (ownB u3) (F9 (nm i) cn (.int .i64 k2) (.string s2) (.int .i64 lo2) (.int .i64 hi2) (.slice p2 n2 c2) (.agg #[.int .i64 k, .string s, .int .i64 lo, .int .i64 hi', .slice q m c5])) #[.string ⟨#[]⟩, .slice none 0 0, .int .i64 0, .string ⟨#[]⟩, .int .i64 0, .int .i64 0, .slice none 0 0, .int .i64 0, .string ⟨#[]⟩, .int .i64 0, .int .i64 0, .string ⟨#[]⟩, .int .i64 0, .int .i64 0, .slice none 0 0, .slice none 0 0, .slice none 0 0, .slice none 0 0] 55 (by kernel_rfl) (by decide) (by decide) (by decide) (by kernel_rfl) (by decide) (by kernel_rfl) (by rfl) (by kernel_rfl) (by decide) ?hS9 ?hG9 ?make9 ?new9 55 15 56 (by decide) (by decide) (by rfl) (by kernel_rfl) info55s ?hF9 ?done9 (by decide)
          case hS9 =>
            intro w hb
            exact ⟨below_cell hb hS.1, below_cell hb hS.2.1, below_cell hb hS.2.2.1, below_cell hb hS.2.2.2.1, below_cell hb hS.2.2.2.2.1, below_cell hb hS.2.2.2.2.2.1, below_cell hb hS.2.2.2.2.2.2.1, below_cell hb hS.2.2.2.2.2.2.2.1, below_cell hb hS.2.2.2.2.2.2.2.2.1, below_cell hb hS.2.2.2.2.2.2.2.2.2.1, below_cell hb hS.2.2.2.2.2.2.2.2.2.2.1, below_cell hb hS.2.2.2.2.2.2.2.2.2.2.2.1, below_cell hb hS.2.2.2.2.2.2.2.2.2.2.2.2.1, below_cell hb hS.2.2.2.2.2.2.2.2.2.2.2.2.2.1, below_cell hb hS.2.2.2.2.2.2.2.2.2.2.2.2.2.2.1, below_cell hb hS.2.2.2.2.2.2.2.2.2.2.2.2.2.2.2.1, below_cell hb hS.2.2.2.2.2.2.2.2.2.2.2.2.2.2.2.2.1, below_cell hb hS.2.2.2.2.2.2.2.2.2.2.2.2.2.2.2.2.2⟩
          case hG9 =>
            intro b hb
            have h1 := (HG.out b hb).2
            have h2 := H8.out.1.below.size
            show b < w5.heap.size
            omega
          case make9 =>
            intro j tj oj hm hne ho x w G hb hgc hf K hK
            simp only [List.mem_cons, Prod.mk.injEq, List.not_mem_nil, or_false] at hm
            rcases hm with ⟨rfl, rfl⟩ | ⟨rfl, rfl⟩ | ⟨rfl, rfl⟩ | ⟨rfl, rfl⟩ | ⟨rfl, rfl⟩ | ⟨rfl, rfl⟩ | ⟨rfl, rfl⟩ | ⟨rfl, rfl⟩ | ⟨rfl, rfl⟩
            · change some _ = some oj at ho
              injection ho with ho
              subst ho
              refine goes_ Tryz.func14 (by kernel_rfl) rfl #[.string (nm i)] (by rfl) rfl rfl (by simp only [mact, List.map_cons, List.map_nil, putAll, Act.put, List.setIfInBounds_toArray, List.set_cons_zero, List.set_cons_succ, List.map_toArray]; rfl) ?_
              refine (setter_any (nm i) w (HE.out.1.below (HW5.out.trans (hb.mono HW5.out.size))) (by have := HS.out.size i hlt; omega) (by have h1 := HW5.out.size; have h2 := hb.size; have h3 := HE.out.2; omega)).mono ?_
              rintro e w6 ⟨rfl, hb6⟩
              rw [setterP_is]
              exact ⟨_, rfl, hK.out _ _ hb6 (fun _ _ _ => rfl)⟩
            · change some _ = some oj at ho
              injection ho with ho
              subst ho
              refine value_ (w1 := w.alloc (.cells (par2 (.int .i64 k2) (.string s2) (.int .i64 lo2) (.int .i64 hi2) (.slice p2 n2 c2) cn) 63)) (v := .slice (some ⟨w.heap.size, 0, none⟩) 2 2) (by rfl) rfl ?_ (hK.out _ _ ((Below.refl _ _).alloc (Nat.le_refl _) _) ?_)
              · simp only [mact, List.map_cons, List.map_nil, putAll, Act.put, List.setIfInBounds_toArray, List.set_cons_zero, List.set_cons_succ, par2]
                go_simp
              · refine (Off.box (box_new w _ _) (fun hg => ?_)).imp (fun w' h => ⟨_, rfl, h⟩)
                have := (hgc.1 _ hg).2
                omega
            · change some _ = some oj at ho
              injection ho with ho
              subst ho
              refine goes_ Tryz.func17 (by kernel_rfl) rfl #[.agg #[.int .i64 k, .string s, .int .i64 lo, .int .i64 hi', .slice q m c5]] (by rfl) rfl rfl (by simp only [mact, List.map_cons, List.map_nil, putAll, Act.put, List.setIfInBounds_toArray, List.set_cons_zero, List.set_cons_succ, List.map_toArray]; rfl) ?_
              refine (HC.out w (HW5.out.trans (hb.mono HW5.out.size))).mono ?_
              rintro e w6 ⟨v5, rfl, hty5, hb5⟩
              obtain ⟨k5, lo5, hi5, s5, p5, n5, c5', rfl⟩ := hty5.shape
              refine ⟨_, rfl, hK.out _ _ hb5 ((Off.ty hty5 (fun b hb hg => ?_) (fun b hb hg => ?_)).imp (fun w' h => ⟨k5, lo5, hi5, s5, p5, n5, c5', rfl, h⟩))⟩
              · have := (hgc.1 _ hg).2
                omega
              · have h1 := HW5.out.size
                rcases (hgc.1 _ hg).1 with h2 | h2
                · have := (HG.out b h2).1
                  omega
                · omega
            · change some _ = some oj at ho
              injection ho with ho
              subst ho
              refine goes_ Tryz.func18 (by kernel_rfl) rfl #[.string OBJ] (by rfl) rfl rfl (by (simp only [List.map_toArray, List.map_cons, List.map_nil]); rfl) ?_
              refine (variable_any OBJ w).mono ?_
              rintro e w6 ⟨rfl, hb5⟩
              exact ⟨_, rfl, hK.out _ _ hb5 (fun _ _ _ => rfl)⟩
            · change some _ = some oj at ho
              injection ho with ho
              subst ho
              refine goes_ Tryz.func18 (by kernel_rfl) rfl #[.string VAL] (by rfl) rfl rfl (by (simp only [List.map_toArray, List.map_cons, List.map_nil]); rfl) ?_
              refine (variable_any VAL w).mono ?_
              rintro e w6 ⟨rfl, hb5⟩
              exact ⟨_, rfl, hK.out _ _ hb5 (fun _ _ _ => rfl)⟩
            · change some _ = some oj at ho
              injection ho with ho
              subst ho
              have e11 : x 11 = .agg (varE OBJ) := (hf (11, 52) (by simp) (by decide) (by rfl)).out
              have e12 : x 12 = .agg (varE VAL) := (hf (12, 53) (by simp) (by decide) (by rfl)).out
              refine value_ (w1 := w.alloc (.cells args2 37)) (v := .slice (some ⟨w.heap.size, 0, none⟩) 2 2) (by rfl) rfl ?_ (hK.out _ _ ((Below.refl _ _).alloc (Nat.le_refl _) _) ?_)
              · simp only [mact, List.map_cons, List.map_nil, putAll, Act.put, List.setIfInBounds_toArray, List.set_cons_zero, List.set_cons_succ, e11, e12, varE, args2]
                go_simp
              · refine (Off.box (box_new w _ _) (fun hg => ?_)).imp (fun w' h => ⟨_, rfl, h⟩)
                have := (hgc.1 _ hg).2
                omega
            · change some _ = some oj at ho
              injection ho with ho
              subst ho
              have h13 : Off G w (fun w => ∃ b, x 13 = .slice (some ⟨b, 0, none⟩) 2 2 ∧ BoxAt w b args2) := hf (13, 54) (by simp) (by decide) (by rfl)
              obtain ⟨b10, e10, -⟩ := h13.out
              refine value_ (w1 := w) (v := .agg (exM 16 (nm i) ⟨b10, 0, none⟩ 2)) (by rfl) rfl ?_ (hK.out _ _ (Below.refl _ _) ?_)
              · simp only [mact, List.map_cons, List.map_nil, putAll, Act.put, List.setIfInBounds_toArray, List.set_cons_zero, List.set_cons_succ, e10, exM]
                go_simp
              · refine h13.imp (fun w' h => ?_)
                obtain ⟨b', e', h'⟩ := h
                have := e10.symm.trans e'
                simp only [Value.slice.injEq, Option.some.injEq, Addr.mk.injEq, and_true] at this
                subst this
                exact ⟨_, rfl, h'⟩
            · change some _ = some oj at ho
              injection ho with ho
              subst ho
              have h2 : Off G w (fun w => x 2 = .string (strB (setterR (nm i).data.toList))) := hf (2, 43) (by simp) (by decide) (by rfl)
              have h5 : Off G w (fun w => ∃ b, x 5 = .slice (some ⟨b, 0, none⟩) 2 2 ∧ BoxAt w b (par2 (.int .i64 k2) (.string s2) (.int .i64 lo2) (.int .i64 hi2) (.slice p2 n2 c2) cn)) := hf (5, 46) (by simp) (by decide) (by rfl)
              have h8 : Off G w (fun w => TyQ w (x 8) (.agg #[.int .i64 k, .string s, .int .i64 lo, .int .i64 hi', .slice q m c5])) := hf (8, 49) (by simp) (by decide) (by rfl)
              have h14 : Off G w (fun w => ∃ b, x 14 = .agg (exM 16 (nm i) ⟨b, 0, none⟩ 2) ∧ BoxAt w b args2) := hf (14, 55) (by simp) (by decide) (by rfl)
              have f2 := h2.out
              obtain ⟨b3, f3, -⟩ := h5.out
              obtain ⟨k6, lo6, hi6, s6, p6, n6, c6, f6, -⟩ := h8.out
              obtain ⟨b11, f11, -⟩ := h14.out
              refine value_ (w1 := w) (v := .agg (metM 16 (strB (setterR (nm i).data.toList)) (nm i) ⟨b3, 0, none⟩ ⟨b11, 0, none⟩ 2 (.int .i64 k6) (.string s6) (.int .i64 lo6) (.int .i64 hi6) (.slice p6 n6 c6))) (by rfl) rfl ?_ (hK.out _ _ (Below.refl _ _) ?_)
              · simp only [mact, List.map_cons, List.map_nil, putAll, Act.put, List.setIfInBounds_toArray, List.set_cons_zero, List.set_cons_succ, f2, f3, f6, f11, exM, metM]
                go_simp
              · refine ((h5.and h8).and h14).imp (fun w' h => ?_)
                obtain ⟨⟨⟨b', e', h'⟩, ⟨_, _, _, _, _, _, _, -, hty⟩⟩, ⟨b'', e'', h''⟩⟩ := h
                have := f3.symm.trans e'
                simp only [Value.slice.injEq, Option.some.injEq, Addr.mk.injEq, and_true] at this
                subst this
                have := f11.symm.trans e''
                simp only [exM, Value.agg.injEq, Array.mk.injEq, List.cons.injEq, Value.slice.injEq, Option.some.injEq, Addr.mk.injEq, and_true, true_and] at this
                subst this
                rw [f6] at hty
                exact ⟨_, rfl, b3, b11, k6, lo6, hi6, s6, p6, n6, c6, rfl, h', h'', hty⟩
            · exact absurd rfl hne
          case new9 =>
            intro oj ho x w K hK
            change some _ = some oj at ho
            injection ho with ho
            subst ho
            refine value_ (by rfl) rfl ?_ hK.out
            go_simp
          case hF9 =>
            intro v w hv
            obtain ⟨M, e, hm⟩ := (show ∃ M, v = .agg M ∧ MetS w (nm i) cn (.int .i64 k2) (.string s2) (.int .i64 lo2) (.int .i64 hi2) (.slice p2 n2 c2) (.agg #[.int .i64 k, .string s, .int .i64 lo, .int .i64 hi', .slice q m c5]) M from hv)
            exact ⟨M, e, hm.size.1, hm.size.2⟩
          case done9 =>
            intro x w6 G g9 M9 hbs hgc hf hx eM hbx hge hlt9 _ _
            have hL : Off G (w6.setRow g9 M9) (fun w => ∃ M, x 15 = .agg M ∧ MetS w (nm i) cn (.int .i64 k2) (.string s2) (.int .i64 lo2) (.int .i64 hi2) (.slice p2 n2 c2) (.agg #[.int .i64 k, .string s, .int .i64 lo, .int .i64 hi', .slice q m c5]) M) := hf (15, 56) (by simp) (by decide)
            have hL2 : Off (ownB u3) (w6.setRow g9 M9) (fun w => MetS w (nm i) cn (.int .i64 k2) (.string s2) (.int .i64 lo2) (.int .i64 hi2) (.slice p2 n2 c2) (.agg #[.int .i64 k, .string s, .int .i64 lo, .int .i64 hi', .slice q m c5]) M9) := (hL.less (fun b hb => hgc.2 b hb)).imp (fun w' h => by
              obtain ⟨M', e', h'⟩ := h
              have := eM.symm.trans e'
              injection this with this
              subst this
              exact h')
            have hMs := hL2.out.size
            simp only [mact, List.map_cons, List.map_nil, putAll, Act.put, List.setIfInBounds_toArray, List.set_cons_zero, List.set_cons_succ, hx]
            have H9 := Lib.hid (show Below wr.heap.size wr (w6.setRow g9 M9) ∧ BoxAt (w6.setRow g9 M9) g8 M8 ∧ BoxAt (w6.setRow g9 M9) g9 M9 ∧ Off (ownB u3) (w6.setRow g9 M9) (fun w => (TyAl w (.agg #[.int .i64 k2, .string s2, .int .i64 lo2, .int .i64 hi2, .slice p2 n2 c2]) (.agg #[.int .i64 k, .string s, .int .i64 lo, .int .i64 hi', .slice q m c5]) ∧ MetG w (nm i) cn (.agg #[.int .i64 k, .string s, .int .i64 lo, .int .i64 hi', .slice q m c5]) M8) ∧ MetS w (nm i) cn (.int .i64 k2) (.string s2) (.int .i64 lo2) (.int .i64 hi2) (.slice p2 n2 c2) (.agg #[.int .i64 k, .string s, .int .i64 lo, .int .i64 hi', .slice q m c5]) M9) from by
              have k8 := H8.out
              have hbd : Below w5.heap.size w5 (w6.setRow g9 M9) := (drew_u (Below.refl _ w5)).trans hbs
              have hty : Off (ownB u3) w5 (fun w => TyAl w (.agg #[.int .i64 k2, .string s2, .int .i64 lo2, .int .i64 hi2, .slice p2 n2 c2]) (.agg #[.int .i64 k, .string s, .int .i64 lo, .int .i64 hi', .slice q m c5])) := Off.ty k8.1.ty (fun b hb hg => (by have := (HG.out b hg).2; have : wr.heap.size ≤ b := hb; omega)) (fun b hb hg => (by have := (HG.out b hg).1; have : b < W.heap.size := hb; omega))
              exact ⟨k8.1.below.trans (hbd.mono k8.1.below.size), k8.2.2.1.under hbd, hbx, ((hty.under hbd).and (k8.2.1.under hbd)).and hL2⟩)
            clear hL hL2 hbx hbs hf hgc hMs hge hlt9
            generalize w6.setRow g9 M9 = w7 at H9 ⊢
            obtain ⟨⟨-, hg8⟩, hs9⟩ := H9.out.2.2.2.out
            obtain ⟨b8, b8', k8, lo8, hi8, s8, p8, n8, c8', rfl, -⟩ := hg8
            obtain ⟨b9, b9', k9, lo9, hi9, s9, p9, n9, c9, rfl, -⟩ := hs9
            have HOW := Lib.hid (own_below HR.out.own (H9.out.1))
            have HL := HR.out.len

            go_wp2_with (first
              | refine wpList_load_big 55 _ rfl rfl g8 0 #[.string (nm i), .slice (some ⟨b8, 0, none⟩) 1 1, .int .i64 k8, .string s8, .int .i64 lo8, .int .i64 hi8, .slice p8 n8 c8', .int .i64 15, .string (nm i), .int .i64 0, .int .i64 0, .string ⟨#[]⟩, .int .i64 0, .int .i64 0, .slice none 0 0, .slice none 0 0, .slice none 0 0, .slice (some ⟨b8', 0, none⟩) 1 1] _ Tryz.underlying55 rfl info55s (fun j v hj => by rw [Nat.zero_add]; exact H9.out.2.1 j v hj) ?_
              | refine wpList_load_big 55 _ rfl rfl g9 0 #[.string (strB (setterR (nm i).data.toList)), .slice (some ⟨b9, 0, none⟩) 2 2, .int .i64 k9, .string s9, .int .i64 lo9, .int .i64 hi9, .slice p9 n9 c9, .int .i64 16, .string (nm i), .int .i64 0, .int .i64 0, .string ⟨#[]⟩, .int .i64 0, .int .i64 0, .slice none 0 0, .slice none 0 0, .slice none 0 0, .slice (some ⟨b9', 0, none⟩) 2 2] _ Tryz.underlying55 rfl info55s (fun j v hj => by rw [Nat.zero_add]; exact H9.out.2.2.1 j v hj) ?_
              | refine append_two _ rfl (.tmp 57) (.tmp 62) rfl (W.heap.size + 1) u3 xs.length (flat xs) rfl HOW.out rfl rfl (by simp [Value.oneCell']) (by omega) (by have := H9.out.1.size; omega) ?_)
            intro v' w' how hgr hvb
            have HN := Lib.hid (acc_step HR.out h4 HA.out H9.out.1 H9.out.2.2.2 how hgr hvb)
            go_wp2
            go_roundw
            case rel => exact ⟨i + 1, by omega, by go_num, Lib.hid ⟨_, HN.out⟩⟩
            case measure => simp [intOf]; omega
    · obtain rfl : i = n := by omega
      obtain ⟨q, c5, rfl, hx⟩ := acc_end HR.out.own HR.out.cells
      have HX := Lib.hid hx
      clear hx
      have g0 : decide ((i : Int) < i) = false := decide_eq_false (by omega)
      go_wp2
      go_ret
      exact ⟨_, _, _, rfl, HX.out, HR.out.off.out, HR.out.below⟩
end Go.Proofs.YtjnimfnelacceaaGreatDoor
