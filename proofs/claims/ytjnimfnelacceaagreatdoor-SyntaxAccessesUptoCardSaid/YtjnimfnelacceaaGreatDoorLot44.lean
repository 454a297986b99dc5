/- Accessors of the reference. -/
import Derived.Test.YtjnimfnelacceaaGreatDoorLot42
set_option linter.unusedSimpArgs false
set_option linter.unusedVariables false
namespace Go.Proofs.YtjnimfnelacceaaGreatDoor
open Go.RowKit Go.Proofs.YtjnimfnelacceaaGreatDoorW.PrintLast

theorem run_load_op {P : Program} {oi : Oper} {a : Act} {w : World} (t : TypeId) (x : Operand) (hop : oi.op = .load t x) (b o : Nat) (X : Array Value) (fs : Array Field) (hu : P.underlying t = some (.struct fs))
    (hx : a.eval x = .pointer (some ⟨b, o, none⟩)) (hi : (P.info? t).map (·.size) = some X.size) (hc : ∀ j v, X[j]? = some v → w.cell? ⟨b, o + j, none⟩ = some v) : (execOp a.eval oi).run P w = .ok (.value (.agg X)) w := by
  have := run_loadAt_box w t b o X fs hu hi hc
  unfold execOp
  simp only [hop, hx]
  simp only [Sem.run_bind, Sem.run_pure, Result.andThen, this]
/-- A struct is stored in the middle of a row. -/
theorem wpList_store_seg {P : Program} {ops : Array Oper} {Q : Exit → Act → World → Prop} {rest : List Oper} {oi : Oper} {a : Act} {w : World} (t : TypeId) (p x : Operand) (hop : oi.op = .store t p x) (hgd : oi.guard = none) (hd : oi.dst = none) (g o : Nat) (cur C X : Array Value) (tt : TypeId)
    (hp : a.eval p = .pointer (some ⟨g, o, none⟩)) (hx : a.eval x = .agg C) (hg : w.heap[g]? = some (.cells cur tt (0, 0))) (hi : (P.info? t).map (·.size) = some C.size) (ho : o + C.size ≤ cur.size) (h1 : C.all (·.oneCell') = true)
    (hX : (cur.toList.take o ++ C.toList ++ cur.toList.drop (o + C.size)).toArray = X) (h : wpList P ops Q rest a (w.setRow g X)) : wpList P ops Q (oi :: rest) a w := by
  refine wpList_plain hgd fun K hK => ?_
  have h2 := run_storeCells_at (P := P) g o tt C.toList 0 cur w hg (by simpa using ho) (fun v hv => (Array.all_eq_true_iff_forall_mem.1 h1) v (by simpa using hv))
  have h3 : (storeVar t ⟨g, o, none⟩ (.agg C)).run P w = .ok () (w.setRow g X) := by
    cases hq : P.info? t with
    | none => simp [hq] at hi
    | some i =>
      have hs : C.size = i.size := by simp [hq] at hi; omega
      simp only [Nat.add_zero, Array.length_toList] at h2
      rw [hX] at h2
      simp [storeVar, sizeOf, typeInfo, hq, Value.cells, hs, h2]
  unfold Oper.wp execOp
  simp only [hop, hp, hx, Instr.storeAt, Instr.sureAddr, Sem.run_bind, Sem.run_pure, Result.andThen_ok, h3]
  refine hK _ _ ?_
  rw [hd]
  exact h
theorem info33s : (Tryz.prog.info? 33).map (·.size) = some 5 := by kernel_rfl
theorem mdef_seg (gn : ByteArray) (pp t0 t1 t2 t3 t4 b0 b1 b2 b3 b4 b5 b6 b7 b8 b9 b10 u0 u1 u2 u3 u4 : Value) :
    ((mdef gn pp t0 t1 t2 t3 t4 b0 b1 b2 b3 b4 b5 b6 b7 b8 b9 b10).toList.take 11 ++ (#[u0, u1, u2, u3, u4] : Array Value).toList ++ (mdef gn pp t0 t1 t2 t3 t4 b0 b1 b2 b3 b4 b5 b6 b7 b8 b9 b10).toList.drop (11 + (#[u0, u1, u2, u3, u4] : Array Value).size)).toArray = mdef gn pp u0 u1 u2 u3 u4 b0 b1 b2 b3 b4 b5 b6 b7 b8 b9 b10 := rfl
theorem mdef_fits (gn : ByteArray) (pp t0 t1 t2 t3 t4 b0 b1 b2 b3 b4 b5 b6 b7 b8 b9 b10 u0 u1 u2 u3 u4 : Value) : 11 + (#[u0, u1, u2, u3, u4] : Array Value).size ≤ (mdef gn pp t0 t1 t2 t3 t4 b0 b1 b2 b3 b4 b5 b6 b7 b8 b9 b10).size := by
  show 11 + 5 ≤ 41
  decide
theorem ty_one (k lo hi : Int) (s : ByteArray) (q : Option Addr) (m c : Nat) : (#[.int .i64 k, .string s, .int .i64 lo, .int .i64 hi, .slice q m c] : Array Value).all (·.oneCell') = true := by simp [Value.oneCell']
def metR (gn nm : ByteArray) (p q : Addr) : Array Value :=
  mdef gn (.slice (some p) 2 2) (.int .i64 0) (.string ⟨#[]⟩) (.int .i64 0) (.int .i64 0) (.slice none 0 0) (.int .i64 16) (.string nm) (.int .i64 0) (.int .i64 0) (.string ⟨#[]⟩) (.int .i64 0) (.int .i64 0) (.slice none 0 0) (.slice none 0 0) (.slice none 0 0) (.slice (some q) 2 2)
def MetR (w : World) (nm cn : ByteArray) (t0 t1 t2 t3 t4 : Value) (M : Array Value) : Prop :=
  ∃ b b', M = metR (strB (setterR nm.data.toList)) nm ⟨b, 0, none⟩ ⟨b', 0, none⟩ ∧ BoxAt w b (par2 t0 t1 t2 t3 t4 cn) ∧ BoxAt w b' args2
theorem MetR.size {w : World} {nm cn : ByteArray} {t0 t1 t2 t3 t4 : Value} {M : Array Value} (h : MetR w nm cn t0 t1 t2 t3 t4 M) : M.size = 41 ∧ M.all (·.oneCell') = true := by
  obtain ⟨b, b', rfl, -⟩ := h
  exact ⟨rfl, by simp [metR, mdef, Value.oneCell']⟩
def FR (nm cn : ByteArray) (t0 t1 t2 t3 t4 : Value) : Nat → Value → World → Prop
  | 2 => fun v _ => v = .string (strB (setterR nm.data.toList))
  | 7 => fun v w => ∃ b, v = .slice (some ⟨b, 0, none⟩) 2 2 ∧ BoxAt w b (par2 t0 t1 t2 t3 t4 cn)
  | 12 => fun v w => ∃ b, v = .slice (some ⟨b, 0, none⟩) 2 2 ∧ BoxAt w b args2
  | 13 => fun v w => ∃ b, v = .agg (exM 16 nm ⟨b, 0, none⟩ 2) ∧ BoxAt w b args2
  | _ => fun v w => ∃ M, v = .agg M ∧ MetR w nm cn t0 t1 t2 t3 t4 M
structure AtR (W wr : World) (SL : Array Value) (cn : ByteArray) (X8 : Array Value) (g8 : Nat) (w : World) : Prop where
  below : Below wr.heap.size wr w
  slot : BoxAt w wr.heap.size SL
  obj : BoxAt w (W.heap.size + 1) (parO cn)
  it : BoxAt w (W.heap.size + 2) #[.int .i64 3, .string OBJ, .int .i64 0, .int .i64 0, .string ⟨#[]⟩, .int .i64 0, .int .i64 0, .slice none 0 0, .slice none 0 0, .slice none 0 0, .slice none 0 0]
  par : BoxAt w (wr.heap.size + 1) (parO cn)
  var : BoxAt w (wr.heap.size + 2) (varE OBJ)
  row : w.heap[g8]? = some (.cells X8 59 (0, 0))
  ge : wr.heap.size + 3 ≤ g8
theorem AtR.under {W wr w w' : World} {SL X8 : Array Value} {cn : ByteArray} {g8 : Nat} (h : AtR W wr SL cn X8 g8 w) (hb : Below w.heap.size w w') : AtR W wr SL cn X8 g8 w' := by
  have hlt : g8 < w.heap.size := (Array.getElem?_eq_some_iff.1 h.row).1
  exact ⟨h.below.trans (hb.mono h.below.size), h.slot.under hb, h.obj.under hb, h.it.under hb, h.par.under hb, h.var.under hb, (hb.block g8 hlt).trans h.row, h.ge⟩
theorem box_row {w : World} {b g : Nat} {X Y : Array Value} (h : BoxAt w b X) (hne : b ≠ g) : BoxAt (w.setRow g Y) b X := fun i v hi => by
  rw [cell_setRow_other _ _ _ _ hne]
  exact h i v hi
theorem box_at {w : World} {g : Nat} {X : Array Value} {t : TypeId} {fr : Nat × Nat} (h : w.heap[g]? = some (.cells X t fr)) : BoxAt w g X := fun i v hi => by
  simp only [World.cell?, h]
  simpa using hi
set_option maxRecDepth 100000 in
set_option maxHeartbeats 8000000 in
theorem raccessors_any {W : World} {p : Option Addr} {n : Nat} {A : Nat → Nat → Value} {nm : Nat → ByteArray} {al : Nat → Int} (hs : Slots W p n A nm al) (c : Nat) (cn : ByteArray) (sp : Option Addr) (sn sc : Nat) (ab se : Bool) (h9 : 9 ≤ W.heap.size) :
    Calls Tryz.prog 7 #[.agg #[.string cn, .slice sp sn sc, .slice p n c, .bool ab, .bool se]] W (AccEnd nm al cn (fun _ i ty => ty = tyv A i) n W) := by
  have HS := Lib.hid hs
  have HE := Lib.hid h9
  have hn := hs.hn
  clear hs h9
  go_enter Tryz.func7, Tryz.ntmps7
  go_wp2_with (refine wpList_store_new 37 (.tmp 5) (.tmp 14) rfl rfl rfl ((W.alloc (.cells #[.string cn, .slice sp sn sc, .slice p n c, .bool ab, .bool se] 25)).alloc (.cells (parO cn) 63)) _ #[.int .i64 3, .string OBJ, .int .i64 0, .int .i64 0, .string ⟨#[]⟩, .int .i64 0, .int .i64 0, .slice none 0 0, .slice none 0 0, .slice none 0 0, .slice none 0 0] rfl (by show Value.pointer (some ⟨W.heap.size + 2, 0, none⟩) = _; simp [World.size_alloc]) rfl info37s rfl rfl ?_)
  have H0 := Lib.hid (show AccAt nm al cn (fun _ i ty => ty = tyv A i) #[.string cn, .slice sp sn sc, .slice p n c, .bool ab, .bool se] W (W.heap.size + 3) (.slice none 0 0) 0 [] (((W.alloc (.cells #[.string cn, .slice sp sn sc, .slice p n c, .bool ab, .bool se] 25)).alloc (.cells (parO cn) 63)).alloc (.cells #[.int .i64 3, .string OBJ, .int .i64 0, .int .i64 0, .string ⟨#[]⟩, .int .i64 0, .int .i64 0, .slice none 0 0, .slice none 0 0, .slice none 0 0, .slice none 0 0] 37)) ∧ BoxAt (((W.alloc (.cells #[.string cn, .slice sp sn sc, .slice p n c, .bool ab, .bool se] 25)).alloc (.cells (parO cn) 63)).alloc (.cells #[.int .i64 3, .string OBJ, .int .i64 0, .int .i64 0, .string ⟨#[]⟩, .int .i64 0, .int .i64 0, .slice none 0 0, .slice none 0 0, .slice none 0 0, .slice none 0 0] 37)) (W.heap.size + 1) (parO cn) ∧ BoxAt (((W.alloc (.cells #[.string cn, .slice sp sn sc, .slice p n c, .bool ab, .bool se] 25)).alloc (.cells (parO cn) 63)).alloc (.cells #[.int .i64 3, .string OBJ, .int .i64 0, .int .i64 0, .string ⟨#[]⟩, .int .i64 0, .int .i64 0, .slice none 0 0, .slice none 0 0, .slice none 0 0, .slice none 0 0] 37)) (W.heap.size + 2) #[.int .i64 3, .string OBJ, .int .i64 0, .int .i64 0, .string ⟨#[]⟩, .int .i64 0, .int .i64 0, .slice none 0 0, .slice none 0 0, .slice none 0 0, .slice none 0 0] from by
    have b1 := (box_new (W.alloc (.cells #[.string cn, .slice sp sn sc, .slice p n c, .bool ab, .bool se] 25)) (parO cn) 63).under ((Below.refl _ _).alloc (Nat.le_refl _) (.cells #[.int .i64 3, .string OBJ, .int .i64 0, .int .i64 0, .string ⟨#[]⟩, .int .i64 0, .int .i64 0, .slice none 0 0, .slice none 0 0, .slice none 0 0, .slice none 0 0] 37))
    have b2 := box_new ((W.alloc (.cells #[.string cn, .slice sp sn sc, .slice p n c, .bool ab, .bool se] 25)).alloc (.cells (parO cn) 63)) #[.int .i64 3, .string OBJ, .int .i64 0, .int .i64 0, .string ⟨#[]⟩, .int .i64 0, .int .i64 0, .slice none 0 0, .slice none 0 0, .slice none 0 0, .slice none 0 0] 37
    rw [World.size_alloc] at b1 b2
    rw [World.size_alloc] at b2
    refine ⟨⟨(((Below.refl _ _).alloc (Nat.le_refl _) _).alloc (by simp) _).alloc (by simp; omega) _, ((box_new W _ _).under ((Below.refl _ _).alloc (Nat.le_refl _) _)).under ((Below.refl _ _).alloc (Nat.le_refl _) _), World.ownsRow_nil .., by simp, by simp, fun _ _ _ => rfl⟩, b1, b2⟩)
  refine wp_at (fun wx => Hid (AccAt nm al cn (fun _ i ty => ty = tyv A i) #[.string cn, .slice sp sn sc, .slice p n c, .bool ab, .bool se] W (W.heap.size + 3) (.slice none 0 0) 0 [] wx ∧ BoxAt wx (W.heap.size + 1) (parO cn) ∧ BoxAt wx (W.heap.size + 2) #[.int .i64 3, .string OBJ, .int .i64 0, .int .i64 0, .string ⟨#[]⟩, .int .i64 0, .int .i64 0, .slice none 0 0, .slice none 0 0, .slice none 0 0, .slice none 0 0])) H0 ?_
  clear H0
  intro w1 H0
  go_loopw [3, 6] (fun v3 v6 wr => ∃ i : Nat, i ≤ n ∧ v6 = .int .i64 i ∧ Hid (∃ xs, AccAt nm al cn (fun _ i ty => ty = tyv A i) #[.string cn, .slice sp sn sc, .slice p n c, .bool ab, .bool se] W (W.heap.size + 3) v3 i xs wr ∧ BoxAt wr (W.heap.size + 1) (parO cn) ∧ BoxAt wr (W.heap.size + 2) #[.int .i64 3, .string OBJ, .int .i64 0, .int .i64 0, .string ⟨#[]⟩, .int .i64 0, .int .i64 0, .slice none 0 0, .slice none 0 0, .slice none 0 0, .slice none 0 0])) (fun _ v6 _ => n - (intOf v6).toNat)
  case atStart => exact ⟨0, Nat.zero_le _, rfl, Lib.hid ⟨[], H0.out⟩⟩
  case round =>
    clear H0
    obtain ⟨i, hi, rfl, HR⟩ := hrel
    obtain ⟨xs, hr, hob, hit⟩ := HR.out
    clear HR
    have HR := Lib.hid hr
    have HB := Lib.hid (And.intro hob hit)
    have hw1 := hr.below.size
    have b2 : wr.cell? ⟨W.heap.size, 2, none⟩ = some (.slice p n c) := hr.box 2 _ rfl
    have l1 : W.heap.size < wr.heap.size := World.block_lt_of_cell? wr _ b2
    by_cases hlt : i < n
    · obtain ⟨k, s, lo, hi', q, m, c5, key, q8, m8, c8, a0, a1, a2, a3, a4, a5, a6, a7, a8⟩ := slot_at HS.out hlt
      obtain ⟨pb, po, rfl, hpc⟩ := (HS.out.row.below hr.below).at_ (by omega)
      have e0 := hpc i hlt 0 (by decide)
      have e1 := hpc i hlt 1 (by decide)
      have e2 := hpc i hlt 2 (by decide)
      have e3 := hpc i hlt 3 (by decide)
      have e4 := hpc i hlt 4 (by decide)
      have e5 := hpc i hlt 5 (by decide)
      have e6 := hpc i hlt 6 (by decide)
      have e7 := hpc i hlt 7 (by decide)
      have e8 := hpc i hlt 8 (by decide)
      rw [a0] at e0
      rw [a1] at e1
      rw [a2] at e2
      rw [a3] at e3
      rw [a4] at e4
      rw [a5] at e5
      rw [a6] at e6
      rw [a7] at e7
      rw [a8] at e8
      simp only [Nat.add_zero] at e0
      clear hpc hr
      have g0 : decide ((i : Int) < n) = true := decide_eq_true (by omega)
      have g1 : (0 : Int) ≤ i := by omega
      have g2 : (i : Int) < n := by omega
      have HA := Lib.hid (show tyv A i = .agg #[.int .i64 k, .string s, .int .i64 lo, .int .i64 hi', .slice q m c5] from by unfold tyv; rw [a1, a2, a3, a4, a5])
      clear a0 a1 a2 a3 a4 a5 a6 a7 a8
      by_cases h4 : al i = 4
      · have d4 : decide (al i = 4) = true := decide_eq_true h4
        clear hob hit
        go_wp2_with fail
        have hr := HR.out
        have hba : ∀ o, Below wr.heap.size wr (wr.alloc o) := fun o => (Below.refl _ _).alloc (Nat.le_refl _) _
        refine ⟨⟨i + 1, by omega, by go_num, Lib.hid ⟨xs, ?_, HB.out.1.under (hba _), HB.out.2.under (hba _)⟩⟩, by simp [intOf]; omega⟩
        refine ⟨hr.below.alloc hw1 _, hr.box.under (hba _), own_below hr.own (hba _), by have := hr.len; omega, hr.cells, (hr.off.under (hba _)).imp fun w h => ?_⟩
        unfold Accs
        rw [if_pos h4]
        exact h
      · have d4 : decide (al i = 4) = false := decide_eq_false h4
        have z0 := hob 0 _ rfl
        have z1 := hob 1 _ rfl
        have z2 := hob 2 _ rfl
        have z3 := hob 3 _ rfl
        have z4 := hob 4 _ rfl
        have z5 := hob 5 _ rfl
        have l2 : W.heap.size + 1 < wr.heap.size := World.block_lt_of_cell? wr _ z0
        have l3 : W.heap.size + 2 < wr.heap.size := World.block_lt_of_cell? wr _ (hit 0 _ rfl)
        clear hob hit
        have hbA : Below wr.heap.size wr (wr.alloc (.cells #[.string (nm i), .int .i64 k, .string s, .int .i64 lo, .int .i64 hi', .slice q m c5, .string key, .int .i64 (al i), .slice q8 m8 c8] 61)) := (Below.refl _ _).alloc (Nat.le_refl _) _
        have hbB : Below wr.heap.size wr ((wr.alloc (.cells #[.string (nm i), .int .i64 k, .string s, .int .i64 lo, .int .i64 hi', .slice q m c5, .string key, .int .i64 (al i), .slice q8 m8 c8] 61)).alloc (.cells (parO cn) 63)) := hbA.alloc hbA.size _
        have HBB := Lib.hid hbB
        clear hbA hbB
        go_wp2_with (refine wpList_load_big 37 _ rfl rfl (W.heap.size + 2) 0 #[.int .i64 3, .string OBJ, .int .i64 0, .int .i64 0, .string ⟨#[]⟩, .int .i64 0, .int .i64 0, .slice none 0 0, .slice none 0 0, .slice none 0 0, .slice none 0 0] _ Tryz.underlying37 rfl info37s (fun j v hj => by rw [Nat.zero_add]; exact (HB.out.2.under HBB.out) j v hj) ?_)
        refine (accessor_any (nm i) (some ⟨wr.heap.size + 1, 0, none⟩) 1 1 (.int .i64 15) (.string (nm i)) (.int .i64 0) (.int .i64 0) (.string ⟨#[]⟩) (.int .i64 0) (.int .i64 0) (.slice none 0 0) (.slice none 0 0) (.slice none 0 0) (.slice (some ⟨wr.heap.size + 2, 0, none⟩) 1 1) (by simp [Value.oneCell']) _).mono ?_
        rintro e w2 ⟨rfl, hb2⟩
        have H2 := Lib.hid (show Below wr.heap.size wr w2 ∧ BoxAt w2 wr.heap.size #[.string (nm i), .int .i64 k, .string s, .int .i64 lo, .int .i64 hi', .slice q m c5, .string key, .int .i64 (al i), .slice q8 m8 c8] ∧ BoxAt w2 (wr.heap.size + 1) (parO cn) ∧ BoxAt w2 (wr.heap.size + 2) (varE OBJ) ∧ wr.heap.size + 3 ≤ w2.heap.size from by
          have hbC := HBB.out.alloc HBB.out.size (.cells #[.int .i64 3, .string OBJ, .int .i64 0, .int .i64 0, .string ⟨#[]⟩, .int .i64 0, .int .i64 0, .slice none 0 0, .slice none 0 0, .slice none 0 0, .slice none 0 0] 37)
          have x1 := (((box_new wr #[.string (nm i), .int .i64 k, .string s, .int .i64 lo, .int .i64 hi', .slice q m c5, .string key, .int .i64 (al i), .slice q8 m8 c8] 61).under ((Below.refl _ _).alloc (Nat.le_refl _) (.cells (parO cn) 63))).under ((Below.refl _ _).alloc (Nat.le_refl _) (.cells #[.int .i64 3, .string OBJ, .int .i64 0, .int .i64 0, .string ⟨#[]⟩, .int .i64 0, .int .i64 0, .slice none 0 0, .slice none 0 0, .slice none 0 0, .slice none 0 0] 37))).under hb2
          have x2 := ((box_new (wr.alloc (.cells #[.string (nm i), .int .i64 k, .string s, .int .i64 lo, .int .i64 hi', .slice q m c5, .string key, .int .i64 (al i), .slice q8 m8 c8] 61)) (parO cn) 63).under ((Below.refl _ _).alloc (Nat.le_refl _) (.cells #[.int .i64 3, .string OBJ, .int .i64 0, .int .i64 0, .string ⟨#[]⟩, .int .i64 0, .int .i64 0, .slice none 0 0, .slice none 0 0, .slice none 0 0, .slice none 0 0] 37))).under hb2
          have x3 := (box_new ((wr.alloc (.cells #[.string (nm i), .int .i64 k, .string s, .int .i64 lo, .int .i64 hi', .slice q m c5, .string key, .int .i64 (al i), .slice q8 m8 c8] 61)).alloc (.cells (parO cn) 63)) #[.int .i64 3, .string OBJ, .int .i64 0, .int .i64 0, .string ⟨#[]⟩, .int .i64 0, .int .i64 0, .slice none 0 0, .slice none 0 0, .slice none 0 0, .slice none 0 0] 37).under hb2
          simp only [World.size_alloc] at x2 x3
          have hz := hb2.size
          simp only [World.size_alloc] at hz
          exact ⟨hbC.trans (hb2.mono hbC.size), x1, x2, x3, by omega⟩)
        clear hb2
        go_wp2_with (refine wpList_store_new 59 (.tmp 8) (.tmp 39) rfl rfl rfl w2 _ (mdef (nm i) (.slice (some ⟨wr.heap.size + 1, 0, none⟩) 1 1) (.int .i64 0) (.string ⟨#[]⟩) (.int .i64 0) (.int .i64 0) (.slice none 0 0) (.int .i64 15) (.string (nm i)) (.int .i64 0) (.int .i64 0) (.string ⟨#[]⟩) (.int .i64 0) (.int .i64 0) (.slice none 0 0) (.slice none 0 0) (.slice none 0 0) (.slice (some ⟨wr.heap.size + 2, 0, none⟩) 1 1)) rfl rfl rfl info59s rfl (by simp [mdef, Value.oneCell']) ?_)
        refine wp_at (fun wx => Hid (AtR W wr #[.string (nm i), .int .i64 k, .string s, .int .i64 lo, .int .i64 hi', .slice q m c5, .string key, .int .i64 (al i), .slice q8 m8 c8] cn (mdef (nm i) (.slice (some ⟨wr.heap.size + 1, 0, none⟩) 1 1) (.int .i64 0) (.string ⟨#[]⟩) (.int .i64 0) (.int .i64 0) (.slice none 0 0) (.int .i64 15) (.string (nm i)) (.int .i64 0) (.int .i64 0) (.string ⟨#[]⟩) (.int .i64 0) (.int .i64 0) (.slice none 0 0) (.slice none 0 0) (.slice none 0 0) (.slice (some ⟨wr.heap.size + 2, 0, none⟩) 1 1)) w2.heap.size wx)) (Lib.hid (by
          have h := H2.out
          have hba : Below w2.heap.size w2 (w2.alloc (.cells (mdef (nm i) (.slice (some ⟨wr.heap.size + 1, 0, none⟩) 1 1) (.int .i64 0) (.string ⟨#[]⟩) (.int .i64 0) (.int .i64 0) (.slice none 0 0) (.int .i64 15) (.string (nm i)) (.int .i64 0) (.int .i64 0) (.string ⟨#[]⟩) (.int .i64 0) (.int .i64 0) (.slice none 0 0) (.slice none 0 0) (.slice none 0 0) (.slice (some ⟨wr.heap.size + 2, 0, none⟩) 1 1)) 59)) := (Below.refl _ _).alloc (Nat.le_refl _) _
          have hbw := h.1.trans (hba.mono h.1.size)
          exact ⟨hbw, h.2.1.under hba, HB.out.1.under hbw, HB.out.2.under hbw, h.2.2.1.under hba, h.2.2.2.1.under hba, heap_alloc_last w2 _, h.2.2.2.2⟩)) ?_
        have hz2 := H2.out.2.2.2.2
        clear H2
        intro w3 H7
        have y0 := H7.out.slot 0 _ rfl
        have y1 := H7.out.slot 1 _ rfl
        have y2 := H7.out.slot 2 _ rfl
        have y3 := H7.out.slot 3 _ rfl
        have y4 := H7.out.slot 4 _ rfl
        have y5 := H7.out.slot 5 _ rfl
        have z0 := H7.out.obj 0 _ rfl
        have z1 := H7.out.obj 1 _ rfl
        have z2 := H7.out.obj 2 _ rfl
        have z3 := H7.out.obj 3 _ rfl
        have z4 := H7.out.obj 4 _ rfl
        have z5 := H7.out.obj 5 _ rfl
        have HIT := H7.out.it
        refine start_ (n := 17) (S := fun wx => wx.cell? ⟨wr.heap.size, 0, none⟩ = some (.string (nm i)) ∧ wx.cell? ⟨wr.heap.size, 1, none⟩ = some (.int .i64 k) ∧ wx.cell? ⟨wr.heap.size, 2, none⟩ = some (.string s) ∧ wx.cell? ⟨wr.heap.size, 3, none⟩ = some (.int .i64 lo) ∧ wx.cell? ⟨wr.heap.size, 4, none⟩ = some (.int .i64 hi') ∧ wx.cell? ⟨wr.heap.size, 5, none⟩ = some (.slice q m c5) ∧ wx.cell? ⟨W.heap.size + 1, 0, none⟩ = some (.string OBJ) ∧ wx.cell? ⟨W.heap.size + 1, 1, none⟩ = some (.int .i64 1) ∧ wx.cell? ⟨W.heap.size + 1, 2, none⟩ = some (.string cn) ∧ wx.cell? ⟨W.heap.size + 1, 3, none⟩ = some (.int .i64 0) ∧ wx.cell? ⟨W.heap.size + 1, 4, none⟩ = some (.int .i64 0) ∧ wx.cell? ⟨W.heap.size + 1, 5, none⟩ = some (.slice none 0 0) ∧ BoxAt wx (W.heap.size + 2) #[.int .i64 3, .string OBJ, .int .i64 0, .int .i64 0, .string ⟨#[]⟩, .int .i64 0, .int .i64 0, .slice none 0 0, .slice none 0 0, .slice none 0 0, .slice none 0 0]) (ds := []) #[false, false, false, false, false, false, false, false, false, false, false, false, false, false, false, false, false] (by kernel_rfl) rfl rfl ⟨y0, y1, y2, y3, y4, y5, z0, z1, z2, z3, z4, z5, HIT⟩ (fun hS => ?_)
        clear HIT
        refine pure_ (i := 0) (N := some 40) (v := ?_) (a' := ?_) #[true, false, false, false, false, false, false, false, false, false, false, false, false, false, false, false, false] rfl rfl (by kernel_rfl) (fun _ _ _ h => h) (Or.inl ⟨by rfl, ?_⟩) ?_ ?_
        rotate_left
        · intro w'
          go_simp
          with_reducible rfl
        rotate_left
        · simp only [Act.put, List.setIfInBounds_toArray, List.set_cons_zero, List.set_cons_succ, i64_w, i32_w]
          rfl
        refine take_ (i := 1) (N := some 41) (v := ?_) (a' := ?_) #[true, true, false, false, false, false, false, false, false, false, false, false, false, false, false, false, false] rfl rfl (by kernel_rfl) (fun _ _ _ h => h) (Or.inl ⟨by rfl, ?_⟩) hS ?_ ?_
        rotate_left
        · rintro wz ⟨y0, y1, y2, y3, y4, y5, z0, z1, z2, z3, z4, z5, hit⟩
          go_simp
          with_reducible rfl
        rotate_left
        · simp only [Act.put, List.setIfInBounds_toArray, List.set_cons_zero, List.set_cons_succ, i64_w, i32_w]
          rfl
        refine pure_ (i := 3) (N := some 43) (v := ?_) (a' := ?_) #[true, true, false, true, false, false, false, false, false, false, false, false, false, false, false, false, false] rfl rfl (by kernel_rfl) (fun _ _ _ h => h) (Or.inl ⟨by rfl, ?_⟩) ?_ ?_
        rotate_left
        · intro w'
          go_simp
          with_reducible rfl
        rotate_left
        · simp only [Act.put, List.setIfInBounds_toArray, List.set_cons_zero, List.set_cons_succ, i64_w, i32_w]
          rfl
        refine take_ (i := 4) (N := some 44) (v := ?_) (a' := ?_) #[true, true, false, true, true, false, false, false, false, false, false, false, false, false, false, false, false] rfl rfl (by kernel_rfl) (fun _ _ _ h => h) (Or.inl ⟨by rfl, ?_⟩) hS ?_ ?_
        rotate_left
        · rintro wz ⟨y0, y1, y2, y3, y4, y5, z0, z1, z2, z3, z4, z5, hit⟩
          go_simp
          with_reducible rfl
        rotate_left
        · simp only [Act.put, List.setIfInBounds_toArray, List.set_cons_zero, List.set_cons_succ, i64_w, i32_w]
          rfl
        refine pure_ (i := 5) (N := some 45) (v := ?_) (a' := ?_) #[true, true, false, true, true, true, false, false, false, false, false, false, false, false, false, false, false] rfl rfl (by kernel_rfl) (fun _ _ _ h => h) (Or.inl ⟨by rfl, ?_⟩) ?_ ?_
        rotate_left
        · intro w'
          go_simp
          with_reducible rfl
        rotate_left
        · simp only [Act.put, List.setIfInBounds_toArray, List.set_cons_zero, List.set_cons_succ, i64_w, i32_w]
          rfl
        refine take_ (i := 6) (N := some 46) (v := ?_) (a' := ?_) #[true, true, false, true, true, true, true, false, false, false, false, false, false, false, false, false, false] rfl rfl (by kernel_rfl) (fun _ _ _ h => h) (Or.inl ⟨by rfl, ?_⟩) hS ?_ ?_
        rotate_left
        · rintro wz ⟨y0, y1, y2, y3, y4, y5, z0, z1, z2, z3, z4, z5, hit⟩
          go_simp
          with_reducible rfl
        rotate_left
        · simp only [Act.put, List.setIfInBounds_toArray, List.set_cons_zero, List.set_cons_succ, i64_w, i32_w]
          rfl
        refine pure_ (i := 8) (N := some 48) (v := ?_) (a' := ?_) #[true, true, false, true, true, true, true, false, true, false, false, false, false, false, false, false, false] rfl rfl (by kernel_rfl) (fun _ _ _ h => h) (Or.inl ⟨by rfl, ?_⟩) ?_ ?_
        rotate_left
        · intro w'
          go_simp
          with_reducible rfl
        rotate_left
        · simp only [Act.put, List.setIfInBounds_toArray, List.set_cons_zero, List.set_cons_succ, i64_w, i32_w]
          rfl
        refine take_ (i := 9) (N := some 49) (v := ?_) (a' := ?_) #[true, true, false, true, true, true, true, false, true, true, false, false, false, false, false, false, false] rfl rfl (by kernel_rfl) (fun _ _ _ h => h) (Or.inl ⟨by rfl, ?_⟩) hS ?_ ?_
        rotate_left
        · rintro wz ⟨y0, y1, y2, y3, y4, y5, z0, z1, z2, z3, z4, z5, hit⟩
          go_simp
          with_reducible rfl
        rotate_left
        · simp only [Act.put, List.setIfInBounds_toArray, List.set_cons_zero, List.set_cons_succ, i64_w, i32_w]
          rfl
        refine take_ (i := 10) (N := some 50) (v := .agg #[.int .i64 3, .string OBJ, .int .i64 0, .int .i64 0, .string ⟨#[]⟩, .int .i64 0, .int .i64 0, .slice none 0 0, .slice none 0 0, .slice none 0 0, .slice none 0 0]) (a' := ?_) #[true, true, false, true, true, true, true, false, true, true, true, false, false, false, false, false, false] rfl rfl (by kernel_rfl) (fun _ _ _ h => h) (Or.inl ⟨by rfl, fun wz hz => run_load_op 37 _ rfl (W.heap.size + 2) 0 #[.int .i64 3, .string OBJ, .int .i64 0, .int .i64 0, .string ⟨#[]⟩, .int .i64 0, .int .i64 0, .slice none 0 0, .slice none 0 0, .slice none 0 0, .slice none 0 0] _ Tryz.underlying37 rfl info37s (fun j v hj => by rw [Nat.zero_add]; exact hz.2.2.2.2.2.2.2.2.2.2.2.2 j v hj)⟩) hS ?_ ?_
        rotate_left
        · simp only [Act.put, List.setIfInBounds_toArray, List.set_cons_zero, List.set_cons_succ, i64_w, i32_w]
          rfl
        refine pure_ (i := 11) (N := some 51) (v := ?_) (a' := ?_) #[true, true, false, true, true, true, true, false, true, true, true, true, false, false, false, false, false] rfl rfl (by kernel_rfl) (fun _ _ _ h => h) (Or.inl ⟨by rfl, ?_⟩) ?_ ?_
        rotate_left
        · intro w'
          go_simp
          with_reducible rfl
        rotate_left
        · simp only [Act.put, List.setIfInBounds_toArray, List.set_cons_zero, List.set_cons_succ, i64_w, i32_w]
          rfl
        have HW3 := Lib.hid (show Below W.heap.size W w3.drew from drew_u (HR.out.below.trans (H7.out.below.mono hw1)))
        have HG := Lib.hid (show ∀ b, ownB u3 b → W.heap.size + 3 ≤ b ∧ b < wr.heap.size from fun b hb => HR.out.own.lt b hb)
        refine makes_ [(2, 42), (7, 47), (12, 52), (13, 53), (14, 54), (15, 9)] 15 16 9 (fun b => ownB u3 b ∨ b = w2.heap.size) (FR (nm i) cn (.int .i64 k) (.string s) (.int .i64 lo) (.int .i64 hi') (.slice q m c5)) #[.int .i64 0, .string ⟨#[]⟩, .slice none 0 0, .slice none 0 0, .bool false, .bool false, .string ⟨#[]⟩, .int .i64 0, .bool false, .string ⟨#[]⟩, .slice none 0 0, .int .i64 0, .string ⟨#[]⟩, .int .i64 0, .int .i64 0, .slice none 0 0, .int .i64 0, .string ⟨#[]⟩, .int .i64 0, .int .i64 0, .string ⟨#[]⟩, .int .i64 0, .int .i64 0, .slice none 0 0, .slice none 0 0, .slice none 0 0, .slice none 0 0, .string ⟨#[]⟩, .slice none 0 0, .string ⟨#[]⟩, .int .i64 0, .string ⟨#[]⟩, .int .i64 0, .int .i64 0, .string ⟨#[]⟩, .int .i64 0, .int .i64 0, .slice none 0 0, .slice none 0 0, .slice none 0 0, .slice none 0 0] 59 (by kernel_rfl) (by decide) (by decide) (by decide) (by kernel_rfl) (by decide) (by kernel_rfl) (by rfl) (by kernel_rfl) (by decide) ?hS ?hG0 ?make ?new 59 14 54 (by decide) (by decide) (by rfl) (by kernel_rfl) info59s ?hF ?done (by decide)
        case hS =>
          intro w hb
          exact ⟨below_cell hb hS.1, below_cell hb hS.2.1, below_cell hb hS.2.2.1, below_cell hb hS.2.2.2.1, below_cell hb hS.2.2.2.2.1, below_cell hb hS.2.2.2.2.2.1, below_cell hb hS.2.2.2.2.2.2.1, below_cell hb hS.2.2.2.2.2.2.2.1, below_cell hb hS.2.2.2.2.2.2.2.2.1, below_cell hb hS.2.2.2.2.2.2.2.2.2.1, below_cell hb hS.2.2.2.2.2.2.2.2.2.2.1, below_cell hb hS.2.2.2.2.2.2.2.2.2.2.2.1, hS.2.2.2.2.2.2.2.2.2.2.2.2.under hb⟩
        case hG0 =>
          intro b hb
          have h2 := H7.out.below.size
          have h3 : w2.heap.size < w3.heap.size := (Array.getElem?_eq_some_iff.1 H7.out.row).1
          show b < w3.heap.size
          rcases hb with hb | hb
          · have h1 := (HG.out b hb).2
            omega
          · omega
        case make =>
          intro j tj oj hm hne ho x w G hb hgc hf K hK
          simp only [List.mem_cons, Prod.mk.injEq, List.not_mem_nil, or_false] at hm
          rcases hm with ⟨rfl, rfl⟩ | ⟨rfl, rfl⟩ | ⟨rfl, rfl⟩ | ⟨rfl, rfl⟩ | ⟨rfl, rfl⟩ | ⟨rfl, rfl⟩
          · change some _ = some oj at ho
            injection ho with ho
            subst ho
            refine goes_ Tryz.func20 (by kernel_rfl) rfl #[.string (nm i)] (by rfl) rfl rfl (by simp only [mact, List.map_cons, List.map_nil, putAll, Act.put, List.setIfInBounds_toArray, List.set_cons_zero, List.set_cons_succ, List.map_toArray]; rfl) ?_
            refine (rsetter_any (nm i) w (by have h1 := HW3.out.size; have h2 := hb.size; have h3 := HE.out; omega) (by have := HS.out.size i hlt; omega)).mono ?_
            rintro e w6 ⟨rfl, hb6⟩
            exact ⟨_, rfl, hK.out _ _ hb6 (fun _ _ _ => rfl)⟩
          · change some _ = some oj at ho
            injection ho with ho
            subst ho
            refine value_ (w1 := w.alloc (.cells (par2 (.int .i64 k) (.string s) (.int .i64 lo) (.int .i64 hi') (.slice q m c5) cn) 63)) (v := .slice (some ⟨w.heap.size, 0, none⟩) 2 2) (by rfl) rfl ?_ (hK.out _ _ ((Below.refl _ _).alloc (Nat.le_refl _) _) ?_)
            · simp only [mact, List.map_cons, List.map_nil, putAll, Act.put, List.setIfInBounds_toArray, List.set_cons_zero, List.set_cons_succ, par2]
              go_simp
              try rfl
            · refine (Off.box (box_new w _ _) (fun hg => ?_)).imp (fun w' h => ⟨_, rfl, h⟩)
              have := (hgc.1 _ hg).2
              omega
          · change some _ = some oj at ho
            injection ho with ho
            subst ho
            refine value_ (w1 := w.alloc (.cells args2 37)) (v := .slice (some ⟨w.heap.size, 0, none⟩) 2 2) (by rfl) rfl ?_ (hK.out _ _ ((Below.refl _ _).alloc (Nat.le_refl _) _) ?_)
            · simp only [mact, List.map_cons, List.map_nil, putAll, Act.put, List.setIfInBounds_toArray, List.set_cons_zero, List.set_cons_succ, varE, args2]
              go_simp
              try rfl
            · refine (Off.box (box_new w _ _) (fun hg => ?_)).imp (fun w' h => ⟨_, rfl, h⟩)
              have := (hgc.1 _ hg).2
              omega
          · change some _ = some oj at ho
            injection ho with ho
            subst ho
            have h13 : Off G w (fun w => ∃ b, x 12 = .slice (some ⟨b, 0, none⟩) 2 2 ∧ BoxAt w b args2) := hf (12, 52) (by simp) (by decide) (by rfl)
            obtain ⟨b10, e10, -⟩ := h13.out
            refine value_ (w1 := w) (v := .agg (exM 16 (nm i) ⟨b10, 0, none⟩ 2)) (by rfl) rfl ?_ (hK.out _ _ (Below.refl _ _) ?_)
            · simp only [mact, List.map_cons, List.map_nil, putAll, Act.put, List.setIfInBounds_toArray, List.set_cons_zero, List.set_cons_succ, e10, exM]
              go_simp
            · refine h13.imp (fun w' h => ?_)
              obtain ⟨b', e', h'⟩ := h
              have := e10.symm.trans e'
              simp only [Value.slice.injEq, Option.some.injEq, Addr.mk.injEq, and_true] at this
              subst this
              exact ⟨_, rfl, h'⟩
          · change some _ = some oj at ho
            injection ho with ho
            subst ho
            have h2 : Off G w (fun w => x 2 = .string (strB (setterR (nm i).data.toList))) := hf (2, 42) (by simp) (by decide) (by rfl)
            have h7 : Off G w (fun w => ∃ b, x 7 = .slice (some ⟨b, 0, none⟩) 2 2 ∧ BoxAt w b (par2 (.int .i64 k) (.string s) (.int .i64 lo) (.int .i64 hi') (.slice q m c5) cn)) := hf (7, 47) (by simp) (by decide) (by rfl)
            have h13 : Off G w (fun w => ∃ b, x 13 = .agg (exM 16 (nm i) ⟨b, 0, none⟩ 2) ∧ BoxAt w b args2) := hf (13, 53) (by simp) (by decide) (by rfl)
            have f2 := h2.out
            obtain ⟨b3, f3, -⟩ := h7.out
            obtain ⟨b11, f11, -⟩ := h13.out
            refine goes_ Tryz.func19 (by kernel_rfl) rfl #[.string (strB (setterR (nm i).data.toList)), .slice (some ⟨b3, 0, none⟩) 2 2, .agg (exM 16 (nm i) ⟨b11, 0, none⟩ 2)] (by rfl) rfl rfl (by simp only [mact, List.map_cons, List.map_nil, putAll, Act.put, List.setIfInBounds_toArray, List.set_cons_zero, List.set_cons_succ, List.map_toArray]; show #[_, _, _] = #[_, _, _]; simp only [Act.eval]; rw [← f2, ← f3, ← f11]; rfl) ?_
            refine (accessor_any (strB (setterR (nm i).data.toList)) (some ⟨b3, 0, none⟩) 2 2 (.int .i64 16) (.string (nm i)) (.int .i64 0) (.int .i64 0) (.string ⟨#[]⟩) (.int .i64 0) (.int .i64 0) (.slice none 0 0) (.slice none 0 0) (.slice none 0 0) (.slice (some ⟨b11, 0, none⟩) 2 2) (by simp [Value.oneCell']) w).mono ?_
            rintro e w6 ⟨rfl, hb6⟩
            refine ⟨_, rfl, hK.out _ _ hb6 (((h7.and h13).under hb6).imp (fun w' h => ?_))⟩
            obtain ⟨⟨b', e', h'⟩, ⟨b'', e'', h''⟩⟩ := h
            have := f3.symm.trans e'
            simp only [Value.slice.injEq, Option.some.injEq, Addr.mk.injEq, and_true] at this
            subst this
            have := f11.symm.trans e''
            simp only [exM, Value.agg.injEq, Array.mk.injEq, List.cons.injEq, Value.slice.injEq, Option.some.injEq, Addr.mk.injEq, and_true, true_and] at this
            subst this
            exact ⟨_, rfl, _, _, rfl, h', h''⟩
          · exact absurd rfl hne
        case new =>
          intro oj ho x w K hK
          change some _ = some oj at ho
          injection ho with ho
          subst ho
          refine value_ (by rfl) rfl ?_ hK.out
          go_simp
        case hF =>
          intro v w hv
          obtain ⟨M, e, hm⟩ := (show ∃ M, v = .agg M ∧ MetR w (nm i) cn (.int .i64 k) (.string s) (.int .i64 lo) (.int .i64 hi') (.slice q m c5) M from hv)
          exact ⟨M, e, hm.size.1, hm.size.2⟩
        case done =>
          intro x w4 G g9 M9 hbs hgc hf hx eM hbx hge hlt8 hrow hG9
          have hL : Off G (w4.setRow g9 M9) (fun w => ∃ M, x 14 = .agg M ∧ MetR w (nm i) cn (.int .i64 k) (.string s) (.int .i64 lo) (.int .i64 hi') (.slice q m c5) M) := hf (14, 54) (by simp) (by decide)
          have hL2 : Off (fun b => (ownB u3 b ∨ b = w2.heap.size) ∨ b = g9) (w4.setRow g9 M9) (fun w => MetR w (nm i) cn (.int .i64 k) (.string s) (.int .i64 lo) (.int .i64 hi') (.slice q m c5) M9) := (hL.less (fun b hb => by
              rcases hb with hb | rfl
              · exact hgc.2 b hb
              · exact hG9)).imp (fun w' h => by
            obtain ⟨M', e', h'⟩ := h
            have := eM.symm.trans e'
            injection this with this
            subst this
            exact h')
          simp only [mact, List.map_cons, List.map_nil, putAll, Act.put, List.setIfInBounds_toArray, List.set_cons_zero, List.set_cons_succ, hx]
          obtain ⟨b9, b9', rfl, -⟩ := hL2.out
          have H8 := Lib.hid (show AtR W wr #[.string (nm i), .int .i64 k, .string s, .int .i64 lo, .int .i64 hi', .slice q m c5, .string key, .int .i64 (al i), .slice q8 m8 c8] cn (mdef (nm i) (.slice (some ⟨wr.heap.size + 1, 0, none⟩) 1 1) (.int .i64 0) (.string ⟨#[]⟩) (.int .i64 0) (.int .i64 0) (.slice none 0 0) (.int .i64 15) (.string (nm i)) (.int .i64 0) (.int .i64 0) (.string ⟨#[]⟩) (.int .i64 0) (.int .i64 0) (.slice none 0 0) (.slice none 0 0) (.slice none 0 0) (.slice (some ⟨wr.heap.size + 2, 0, none⟩) 1 1)) w2.heap.size (w4.setRow g9 (metR (strB (setterR (nm i).data.toList)) (nm i) ⟨b9, 0, none⟩ ⟨b9', 0, none⟩)) ∧ (w4.setRow g9 (metR (strB (setterR (nm i).data.toList)) (nm i) ⟨b9, 0, none⟩ ⟨b9', 0, none⟩)).heap[g9]? = some (.cells (metR (strB (setterR (nm i).data.toList)) (nm i) ⟨b9, 0, none⟩ ⟨b9', 0, none⟩) 59 (0, 0)) ∧ Off (fun b => (ownB u3 b ∨ b = w2.heap.size) ∨ b = g9) (w4.setRow g9 (metR (strB (setterR (nm i).data.toList)) (nm i) ⟨b9, 0, none⟩ ⟨b9', 0, none⟩)) (fun w => BoxAt w b9 (par2 (.int .i64 k) (.string s) (.int .i64 lo) (.int .i64 hi') (.slice q m c5) cn) ∧ BoxAt w b9' args2) ∧ w2.heap.size < g9 from by
            have hbd : Below w3.heap.size w3 (w4.setRow g9 (metR (strB (setterR (nm i).data.toList)) (nm i) ⟨b9, 0, none⟩ ⟨b9', 0, none⟩)) := (drew_u (Below.refl _ w3)).trans hbs
            refine ⟨H7.out.under hbd, hrow, hL2.imp (fun w h => ?_), ?_⟩
            · obtain ⟨b, b', e, k1, k2⟩ := h
              simp only [metR, mdef, Array.mk.injEq, List.cons.injEq, Value.slice.injEq, Option.some.injEq, Addr.mk.injEq, and_true, true_and] at e
              obtain ⟨rfl, rfl⟩ := e
              exact ⟨k1, k2⟩
            · have h1 : w2.heap.size < w3.heap.size := (Array.getElem?_eq_some_iff.1 H7.out.row).1
              have h2 : w3.heap.size ≤ g9 := hge
              omega)
          clear hL hL2 hbx hbs hf hgc hge hlt8 hrow eM hS HE hG9
          generalize w4.setRow g9 (metR (strB (setterR (nm i).data.toList)) (nm i) ⟨b9, 0, none⟩ ⟨b9', 0, none⟩) = w5 at H8 ⊢
          clear H7 y0 y1 y2 y3 y4 y5 z0 z1 z2 z3 z4 z5
          have y1 := H8.out.1.slot 1 _ rfl
          have y2 := H8.out.1.slot 2 _ rfl
          have y3 := H8.out.1.slot 3 _ rfl
          have y4 := H8.out.1.slot 4 _ rfl
          have y5 := H8.out.1.slot 5 _ rfl
          go_upto_region 12 with (refine wpList_store_seg 33 (.tmp 58) (.tmp 56) rfl rfl rfl w2.heap.size 11 (mdef (nm i) (.slice (some ⟨wr.heap.size + 1, 0, none⟩) 1 1) (.int .i64 0) (.string ⟨#[]⟩) (.int .i64 0) (.int .i64 0) (.slice none 0 0) (.int .i64 15) (.string (nm i)) (.int .i64 0) (.int .i64 0) (.string ⟨#[]⟩) (.int .i64 0) (.int .i64 0) (.slice none 0 0) (.slice none 0 0) (.slice none 0 0) (.slice (some ⟨wr.heap.size + 2, 0, none⟩) 1 1)) #[.int .i64 k, .string s, .int .i64 lo, .int .i64 hi', .slice q m c5] (mdef (nm i) (.slice (some ⟨wr.heap.size + 1, 0, none⟩) 1 1) (.int .i64 k) (.string s) (.int .i64 lo) (.int .i64 hi') (.slice q m c5) (.int .i64 15) (.string (nm i)) (.int .i64 0) (.int .i64 0) (.string ⟨#[]⟩) (.int .i64 0) (.int .i64 0) (.slice none 0 0) (.slice none 0 0) (.slice none 0 0) (.slice (some ⟨wr.heap.size + 2, 0, none⟩) 1 1)) 59 rfl rfl H8.out.1.row info33s (mdef_fits ..) (ty_one ..) (mdef_seg ..) ?_)
          have H9 := Lib.hid (show Below wr.heap.size wr (w5.setRow w2.heap.size (mdef (nm i) (.slice (some ⟨wr.heap.size + 1, 0, none⟩) 1 1) (.int .i64 k) (.string s) (.int .i64 lo) (.int .i64 hi') (.slice q m c5) (.int .i64 15) (.string (nm i)) (.int .i64 0) (.int .i64 0) (.string ⟨#[]⟩) (.int .i64 0) (.int .i64 0) (.slice none 0 0) (.slice none 0 0) (.slice none 0 0) (.slice (some ⟨wr.heap.size + 2, 0, none⟩) 1 1))) ∧ BoxAt (w5.setRow w2.heap.size (mdef (nm i) (.slice (some ⟨wr.heap.size + 1, 0, none⟩) 1 1) (.int .i64 k) (.string s) (.int .i64 lo) (.int .i64 hi') (.slice q m c5) (.int .i64 15) (.string (nm i)) (.int .i64 0) (.int .i64 0) (.string ⟨#[]⟩) (.int .i64 0) (.int .i64 0) (.slice none 0 0) (.slice none 0 0) (.slice none 0 0) (.slice (some ⟨wr.heap.size + 2, 0, none⟩) 1 1))) wr.heap.size #[.string (nm i), .int .i64 k, .string s, .int .i64 lo, .int .i64 hi', .slice q m c5, .string key, .int .i64 (al i), .slice q8 m8 c8] ∧ (w5.setRow w2.heap.size (mdef (nm i) (.slice (some ⟨wr.heap.size + 1, 0, none⟩) 1 1) (.int .i64 k) (.string s) (.int .i64 lo) (.int .i64 hi') (.slice q m c5) (.int .i64 15) (.string (nm i)) (.int .i64 0) (.int .i64 0) (.string ⟨#[]⟩) (.int .i64 0) (.int .i64 0) (.slice none 0 0) (.slice none 0 0) (.slice none 0 0) (.slice (some ⟨wr.heap.size + 2, 0, none⟩) 1 1))).heap[w2.heap.size]? = some (.cells (mdef (nm i) (.slice (some ⟨wr.heap.size + 1, 0, none⟩) 1 1) (.int .i64 k) (.string s) (.int .i64 lo) (.int .i64 hi') (.slice q m c5) (.int .i64 15) (.string (nm i)) (.int .i64 0) (.int .i64 0) (.string ⟨#[]⟩) (.int .i64 0) (.int .i64 0) (.slice none 0 0) (.slice none 0 0) (.slice none 0 0) (.slice (some ⟨wr.heap.size + 2, 0, none⟩) 1 1)) 59 (0, 0)) ∧ (w5.setRow w2.heap.size (mdef (nm i) (.slice (some ⟨wr.heap.size + 1, 0, none⟩) 1 1) (.int .i64 k) (.string s) (.int .i64 lo) (.int .i64 hi') (.slice q m c5) (.int .i64 15) (.string (nm i)) (.int .i64 0) (.int .i64 0) (.string ⟨#[]⟩) (.int .i64 0) (.int .i64 0) (.slice none 0 0) (.slice none 0 0) (.slice none 0 0) (.slice (some ⟨wr.heap.size + 2, 0, none⟩) 1 1))).heap[g9]? = some (.cells (metR (strB (setterR (nm i).data.toList)) (nm i) ⟨b9, 0, none⟩ ⟨b9', 0, none⟩) 59 (0, 0)) ∧ Off (fun b => (ownB u3 b ∨ b = w2.heap.size) ∨ b = g9) (w5.setRow w2.heap.size (mdef (nm i) (.slice (some ⟨wr.heap.size + 1, 0, none⟩) 1 1) (.int .i64 k) (.string s) (.int .i64 lo) (.int .i64 hi') (.slice q m c5) (.int .i64 15) (.string (nm i)) (.int .i64 0) (.int .i64 0) (.string ⟨#[]⟩) (.int .i64 0) (.int .i64 0) (.slice none 0 0) (.slice none 0 0) (.slice none 0 0) (.slice (some ⟨wr.heap.size + 2, 0, none⟩) 1 1))) (fun w => (BoxAt w b9 (par2 (.int .i64 k) (.string s) (.int .i64 lo) (.int .i64 hi') (.slice q m c5) cn) ∧ BoxAt w b9' args2) ∧ BoxAt w (wr.heap.size + 1) (parO cn) ∧ BoxAt w (wr.heap.size + 2) (varE OBJ)) ∧ w2.heap.size < g9 from by
            have k := H8.out
            refine ⟨below_setRow k.1.below (by omega) _, box_row k.1.slot (by omega), setRow_heap _ _ _ _ _ _ k.1.row, (setRow_other _ _ _ _ (by have := k.2.2.2; omega)).trans k.2.1, ?_, k.2.2.2⟩
            refine (k.2.2.1.and ((Off.box k.1.par ?_).and (Off.box k.1.var ?_))).row (Or.inl (Or.inr rfl)) _
            · rintro ((h | h) | h)
              · have := (HG.out _ h).2; omega
              · omega
              · have := k.2.2.2; omega
            · rintro ((h | h) | h)
              · have := (HG.out _ h).2; omega
              · omega
              · have := k.2.2.2; omega)
          clear H8 y1 y2 y3 y4 y5
          generalize w5.setRow w2.heap.size (mdef (nm i) (.slice (some ⟨wr.heap.size + 1, 0, none⟩) 1 1) (.int .i64 k) (.string s) (.int .i64 lo) (.int .i64 hi') (.slice q m c5) (.int .i64 15) (.string (nm i)) (.int .i64 0) (.int .i64 0) (.string ⟨#[]⟩) (.int .i64 0) (.int .i64 0) (.slice none 0 0) (.slice none 0 0) (.slice none 0 0) (.slice (some ⟨wr.heap.size + 2, 0, none⟩) 1 1)) = w6 at H9 ⊢
          have y1 := H9.out.2.1 1 _ rfl
          have y2 := H9.out.2.1 2 _ rfl
          have y3 := H9.out.2.1 3 _ rfl
          have y4 := H9.out.2.1 4 _ rfl
          have y5 := H9.out.2.1 5 _ rfl
          go_upto_region 13 with (refine wpList_store_seg 33 (.tmp 62) (.tmp 60) rfl rfl rfl g9 11 (metR (strB (setterR (nm i).data.toList)) (nm i) ⟨b9, 0, none⟩ ⟨b9', 0, none⟩) #[.int .i64 k, .string s, .int .i64 lo, .int .i64 hi', .slice q m c5] (accM 16 (strB (setterR (nm i).data.toList)) (nm i) ⟨b9, 0, none⟩ ⟨b9', 0, none⟩ 2 (.int .i64 k) (.string s) (.int .i64 lo) (.int .i64 hi') (.slice q m c5)) 59 rfl rfl H9.out.2.2.2.1 info33s (mdef_fits ..) (ty_one ..) (mdef_seg ..) ?_)
          have H10 := Lib.hid (show Below wr.heap.size wr (w6.setRow g9 (accM 16 (strB (setterR (nm i).data.toList)) (nm i) ⟨b9, 0, none⟩ ⟨b9', 0, none⟩ 2 (.int .i64 k) (.string s) (.int .i64 lo) (.int .i64 hi') (.slice q m c5))) ∧ BoxAt (w6.setRow g9 (accM 16 (strB (setterR (nm i).data.toList)) (nm i) ⟨b9, 0, none⟩ ⟨b9', 0, none⟩ 2 (.int .i64 k) (.string s) (.int .i64 lo) (.int .i64 hi') (.slice q m c5))) w2.heap.size #[.int .i64 3, .string ⟨#[]⟩, .slice none 0 0, .slice none 0 0, .bool false, .bool false, .string ⟨#[]⟩, .int .i64 0, .bool false, .string (nm i), .slice (some ⟨wr.heap.size + 1, 0, none⟩) 1 1, .int .i64 k, .string s, .int .i64 lo, .int .i64 hi', .slice q m c5, .int .i64 15, .string (nm i), .int .i64 0, .int .i64 0, .string ⟨#[]⟩, .int .i64 0, .int .i64 0, .slice none 0 0, .slice none 0 0, .slice none 0 0, .slice (some ⟨wr.heap.size + 2, 0, none⟩) 1 1, .string ⟨#[]⟩, .slice none 0 0, .string ⟨#[]⟩, .int .i64 0, .string ⟨#[]⟩, .int .i64 0, .int .i64 0, .string ⟨#[]⟩, .int .i64 0, .int .i64 0, .slice none 0 0, .slice none 0 0, .slice none 0 0, .slice none 0 0] ∧ BoxAt (w6.setRow g9 (accM 16 (strB (setterR (nm i).data.toList)) (nm i) ⟨b9, 0, none⟩ ⟨b9', 0, none⟩ 2 (.int .i64 k) (.string s) (.int .i64 lo) (.int .i64 hi') (.slice q m c5))) g9 #[.int .i64 3, .string ⟨#[]⟩, .slice none 0 0, .slice none 0 0, .bool false, .bool false, .string ⟨#[]⟩, .int .i64 0, .bool false, .string (strB (setterR (nm i).data.toList)), .slice (some ⟨b9, 0, none⟩) 2 2, .int .i64 k, .string s, .int .i64 lo, .int .i64 hi', .slice q m c5, .int .i64 16, .string (nm i), .int .i64 0, .int .i64 0, .string ⟨#[]⟩, .int .i64 0, .int .i64 0, .slice none 0 0, .slice none 0 0, .slice none 0 0, .slice (some ⟨b9', 0, none⟩) 2 2, .string ⟨#[]⟩, .slice none 0 0, .string ⟨#[]⟩, .int .i64 0, .string ⟨#[]⟩, .int .i64 0, .int .i64 0, .string ⟨#[]⟩, .int .i64 0, .int .i64 0, .slice none 0 0, .slice none 0 0, .slice none 0 0, .slice none 0 0] ∧ Off (ownB u3) (w6.setRow g9 (accM 16 (strB (setterR (nm i).data.toList)) (nm i) ⟨b9, 0, none⟩ ⟨b9', 0, none⟩ 2 (.int .i64 k) (.string s) (.int .i64 lo) (.int .i64 hi') (.slice q m c5))) (fun w => (BoxAt w b9 (par2 (.int .i64 k) (.string s) (.int .i64 lo) (.int .i64 hi') (.slice q m c5) cn) ∧ BoxAt w b9' args2) ∧ BoxAt w (wr.heap.size + 1) (parO cn) ∧ BoxAt w (wr.heap.size + 2) (varE OBJ)) from by
            have k := H9.out
            have hne := k.2.2.2.2.2
            refine ⟨below_setRow k.1 (by omega) _, box_row (box_at k.2.2.1) (by omega), setRow_box k.2.2.2.1, (k.2.2.2.2.1.row (Or.inr rfl) _).less (fun b hb => Or.inl (Or.inl hb))⟩)
          clear H9 y1 y2 y3 y4 y5
          generalize w6.setRow g9 (accM 16 (strB (setterR (nm i).data.toList)) (nm i) ⟨b9, 0, none⟩ ⟨b9', 0, none⟩ 2 (.int .i64 k) (.string s) (.int .i64 lo) (.int .i64 hi') (.slice q m c5)) = w7 at H10 ⊢
          have HOW := Lib.hid (own_below HR.out.own H10.out.1)
          have HL := HR.out.len
          go_wp2_with (first
            | refine wpList_load_big 59 _ rfl rfl w2.heap.size 0 #[.int .i64 3, .string ⟨#[]⟩, .slice none 0 0, .slice none 0 0, .bool false, .bool false, .string ⟨#[]⟩, .int .i64 0, .bool false, .string (nm i), .slice (some ⟨wr.heap.size + 1, 0, none⟩) 1 1, .int .i64 k, .string s, .int .i64 lo, .int .i64 hi', .slice q m c5, .int .i64 15, .string (nm i), .int .i64 0, .int .i64 0, .string ⟨#[]⟩, .int .i64 0, .int .i64 0, .slice none 0 0, .slice none 0 0, .slice none 0 0, .slice (some ⟨wr.heap.size + 2, 0, none⟩) 1 1, .string ⟨#[]⟩, .slice none 0 0, .string ⟨#[]⟩, .int .i64 0, .string ⟨#[]⟩, .int .i64 0, .int .i64 0, .string ⟨#[]⟩, .int .i64 0, .int .i64 0, .slice none 0 0, .slice none 0 0, .slice none 0 0, .slice none 0 0] _ Tryz.underlying59 rfl info59s (fun j v hj => by rw [Nat.zero_add]; exact H10.out.2.1 j v hj) ?_
            | refine wpList_load_big 59 _ rfl rfl g9 0 #[.int .i64 3, .string ⟨#[]⟩, .slice none 0 0, .slice none 0 0, .bool false, .bool false, .string ⟨#[]⟩, .int .i64 0, .bool false, .string (strB (setterR (nm i).data.toList)), .slice (some ⟨b9, 0, none⟩) 2 2, .int .i64 k, .string s, .int .i64 lo, .int .i64 hi', .slice q m c5, .int .i64 16, .string (nm i), .int .i64 0, .int .i64 0, .string ⟨#[]⟩, .int .i64 0, .int .i64 0, .slice none 0 0, .slice none 0 0, .slice none 0 0, .slice (some ⟨b9', 0, none⟩) 2 2, .string ⟨#[]⟩, .slice none 0 0, .string ⟨#[]⟩, .int .i64 0, .string ⟨#[]⟩, .int .i64 0, .int .i64 0, .string ⟨#[]⟩, .int .i64 0, .int .i64 0, .slice none 0 0, .slice none 0 0, .slice none 0 0, .slice none 0 0] _ Tryz.underlying59 rfl info59s (fun j v hj => by rw [Nat.zero_add]; exact H10.out.2.2.1 j v hj) ?_
            | refine append_two _ rfl (.tmp 63) (.tmp 66) rfl (W.heap.size + 3) u3 xs.length (flat xs) rfl HOW.out rfl rfl (by simp [Value.oneCell']) (by omega) (by have := H10.out.1.size; omega) ?_)
          intro v' w' how hgr hvb
          have HN := Lib.hid (acc_stepT (ty := .agg #[.int .i64 k, .string s, .int .i64 lo, .int .i64 hi', .slice q m c5]) (ty1 := .agg #[.int .i64 k, .string s, .int .i64 lo, .int .i64 hi', .slice q m c5]) (ty2 := .agg #[.int .i64 k, .string s, .int .i64 lo, .int .i64 hi', .slice q m c5]) (X := (accM 15 (nm i) (nm i) ⟨wr.heap.size + 1, 0, none⟩ ⟨wr.heap.size + 2, 0, none⟩ 1 (.int .i64 k) (.string s) (.int .i64 lo) (.int .i64 hi') (.slice q m c5))) (Y := (accM 16 (strB (setterR (nm i).data.toList)) (nm i) ⟨b9, 0, none⟩ ⟨b9', 0, none⟩ 2 (.int .i64 k) (.string s) (.int .i64 lo) (.int .i64 hi') (.slice q m c5))) HR.out (by omega) h4 H10.out.1 rfl rfl (H10.out.2.2.2.imp (fun w h => ⟨HA.out.symm, HA.out.symm, HA.out.symm, ⟨_, _, _, _, _, _, _, rfl, rfl, h.2.1, h.2.2⟩, ⟨_, _, _, _, _, _, _, _, _, _, _, _, rfl, rfl, rfl, h.1.1, h.1.2⟩⟩)) how hgr hvb)
          have HQ := Lib.hid (show BoxAt w' (W.heap.size + 1) (parO cn) ∧ BoxAt w' (W.heap.size + 2) #[.int .i64 3, .string OBJ, .int .i64 0, .int .i64 0, .string ⟨#[]⟩, .int .i64 0, .int .i64 0, .slice none 0 0, .slice none 0 0, .slice none 0 0, .slice none 0 0] from by
            have hz := hgr.size
            have hzz := H10.out.1.size
            rw [World.size_alloc] at hz
            have hk : ∀ b, b < wr.heap.size → b ≤ W.heap.size + 2 → w'.heap[b]? = wr.heap[b]? := fun b hb hb2 => (hgr.block b (by rw [World.size_alloc]; omega) (fun e => by have := (HG.out b e.symm).1; omega)).trans (((((Below.refl _ w7).alloc (Nat.le_refl _) _).block b (by omega))).trans (H10.out.1.block b hb))
            refine ⟨fun j v hj => ?_, fun j v hj => ?_⟩
            · rw [World.cell?_of_block (w := wr) (a := ⟨W.heap.size + 1, j, none⟩) (hk (W.heap.size + 1) (by omega) (by omega))]
              exact HB.out.1 j v hj
            · rw [World.cell?_of_block (w := wr) (a := ⟨W.heap.size + 2, j, none⟩) (hk (W.heap.size + 2) (by omega) (by omega))]
              exact HB.out.2 j v hj)
          clear how hgr hvb
          go_wp2
          refine ⟨⟨i + 1, by omega, by go_num, Lib.hid ⟨_, HN.out, HQ.out⟩⟩, by simp [intOf]; omega⟩
    · obtain rfl : i = n := by omega
      obtain ⟨q, c5, rfl, hx⟩ := acc_end HR.out.own HR.out.cells
      have HX := Lib.hid hx
      clear hx
      have g0 : decide ((i : Int) < i) = false := decide_eq_false (by omega)
      clear hob hit
      go_wp2
      go_ret
      exact ⟨_, _, _, rfl, HX.out, HR.out.off.out, HR.out.below⟩
end Go.Proofs.YtjnimfnelacceaaGreatDoor
