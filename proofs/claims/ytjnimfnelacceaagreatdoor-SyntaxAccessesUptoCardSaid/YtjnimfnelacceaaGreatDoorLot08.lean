/- The cutter's table. -/
import Derived.Test.YtjnimfnelacceaaGreatDoorLot07
import Derived.StillTailTactics
import Derived.BigRegion
import Derived.Deep.DeepCutAuto
set_option linter.unusedSimpArgs false
set_option linter.unusedVariables false
namespace Go.Proofs.YtjnimfnelacceaaGreatDoor
open Go.RowKit

theorem in_any (t : ByteArray) (vb c : Nat) (hc : c < 256) (w : World) (h : w.cell? ⟨vb, 0, none⟩ = some (.int .i64 c)) (r : Int) (hr : Lib.indexByte t.data.toList c.toUInt8 = r) :
    Calls Tryz.prog 144 #[.string t, .pointer (some ⟨vb, 0, none⟩)] w fun e w' => e = .returned (.bool (decide (0 ≤ r))) ∧ w' = w := by
  have hi := byte_is' t c r hr
  have HI := Lib.hid hi
  clear hi hr
  have hm : ((c : Int) % 256) = c := by omega
  have c0 : (c : Int) < 256 := by omega
  go_enter Tryz.func144, Tryz.ntmps144
  go_wp2_with fail
  refine (HI.out (c : Int) rfl _).mono ?_
  rintro e w' ⟨rfl, rfl⟩
  go_wp2
  go_ret
  exact ⟨rfl, rfl⟩

/-- The table's cells, filled for the bytes below n, and for the byte n in the classes below j. -/
structure TabTo (w : World) (tb n j : Nat) : Prop where
  at_ : ∀ c x, c < 6 → x < 256 → w.cell? ⟨tb, c * 256 + x, none⟩ = some (.bool (if x < n ∨ (x = n ∧ c < j) then cls c x else false))
  free : ∀ o, w.frozen? ⟨tb, o, none⟩ = false
theorem TabTo.drewN {w : World} {tb n j : Nat} (h : TabTo w tb n j) (m : Nat) : TabTo (w.drewN m) tb n j :=
  ⟨fun c x hc hx => by rw [World.cell?_drewN]; exact h.at_ c x hc hx, fun o => by have := h.free o; simpa [go_sem] using this⟩
theorem TabTo.lt {w : World} {tb n j : Nat} (h : TabTo w tb n j) : tb < w.heap.size := World.block_lt_of_cell? w _ (h.at_ 0 0 (by omega) (by omega))
theorem TabTo.alloc {w : World} {tb n j : Nat} (h : TabTo w tb n j) (o : Obj) : TabTo (w.alloc o) tb n j :=
  ⟨fun c x hc hx => below_cell ((Below.refl _ _).alloc (Nat.le_refl _) _) (h.at_ c x hc hx), fun a => (((Below.refl w.heap.size w).alloc (Nat.le_refl _) o).frozen (p := ⟨tb, a, none⟩) h.lt).trans (h.free a)⟩
theorem TabTo.set {w : World} {tb n j a : Nat} {b : Bool} (h : TabTo w tb n j) (hn : n < 256) (ha : a = j * 256 + n) (hj : j < 6) (hb : cls j n = b) : TabTo (w.setCell ⟨tb, a, none⟩ (.bool b)) tb n (j + 1) := by
  subst ha
  refine ⟨fun c x hc hx => ?_, fun o => by have := h.free o; simpa [go_sem] using this⟩
  by_cases he : c * 256 + x = j * 256 + n
  · have e1 : c = j := by omega
    have e2 : x = n := by omega
    subst e1 e2
    rw [World.cell?_setCell_same' _ _ _ (by rw [h.at_ c x hc hx]; rfl), if_pos (Or.inr ⟨rfl, by omega⟩), hb]
  · have hne : (⟨tb, j * 256 + n, none⟩ : Addr) ≠ ⟨tb, c * 256 + x, none⟩ := by
      intro e
      injection e with e1 e2
      omega
    rw [World.cell?_setCell_other _ _ _ _ hne, h.at_ c x hc hx]
    congr 3
    apply propext
    constructor
    · rintro (h | ⟨h1, h2⟩)
      · exact Or.inl h
      · exact Or.inr ⟨h1, by omega⟩
    · rintro (h | ⟨h1, h2⟩)
      · exact Or.inl h
      · exact Or.inr ⟨h1, by omega⟩
theorem TabTo.next {w : World} {tb n : Nat} (h : TabTo w tb n 6) : TabTo w tb (n + 1) 0 :=
  ⟨fun c x hc hx => by
    rw [h.at_ c x hc hx]
    congr 3
    apply propext
    constructor
    · rintro (h | ⟨h1, h2⟩) <;> exact Or.inl (by omega)
    · rintro (h | ⟨h1, h2⟩)
      · by_cases hx : x = n
        · exact Or.inr ⟨hx, hc⟩
        · exact Or.inl (by omega)
      · omega, h.free⟩
theorem zero213 : Tryz.zeroCells213 = Array.replicate 1536 (.bool false) := by kernel_rfl

theorem ws_is (c : Nat) (hc : c < 256) : decide ((0 : Int) ≤ Lib.indexByte [33, 36, 38, 42, 60, 62, 124, 94, 37, 95, 126, 63, 43, 45, 47, 61] c.toUInt8) = clsOf wsigns c := by
  have key : ∀ y : Fin 256, (decide ((0 : Int) ≤ Lib.indexByte [33, 36, 38, 42, 60, 62, 124, 94, 37, 95, 126, 63, 43, 45, 47, 61] y.val.toUInt8)) = clsOf wsigns y.val := by decide +kernel
  exact key ⟨c, hc⟩
theorem fs_is (c : Nat) (hc : c < 256) : decide ((0 : Int) ≤ Lib.indexByte [43, 45, 47, 61] c.toUInt8) = clsOf [43, 45, 47, 61] c := by
  have key : ∀ y : Fin 256, (decide ((0 : Int) ≤ Lib.indexByte [43, 45, 47, 61] y.val.toUInt8)) = clsOf [43, 45, 47, 61] y.val := by decide +kernel
  exact key ⟨c, hc⟩
theorem bs_is (c : Nat) (hc : c < 256) : decide ((0 : Int) ≤ Lib.indexByte [60, 36, 37, 42, 95] c.toUInt8) = clsOf [60, 36, 37, 42, 95] c := by
  have key : ∀ y : Fin 256, (decide ((0 : Int) ≤ Lib.indexByte [60, 36, 37, 42, 95] y.val.toUInt8)) = clsOf [60, 36, 37, 42, 95] y.val := by decide +kernel
  exact key ⟨c, hc⟩
/-- 'in' at a string of which it is known what it answers. -/
theorem in_is (t : ByteArray) (c : Nat) (hc : c < 256) (b : Bool) (hb : decide ((0 : Int) ≤ Lib.indexByte t.data.toList c.toUInt8) = b) (vb : Nat) (w : World) (h : w.cell? ⟨vb, 0, none⟩ = some (.int .i64 c)) :
    Calls Tryz.prog 144 #[.string t, .pointer (some ⟨vb, 0, none⟩)] w fun e w' => e = .returned (.bool b) ∧ w' = w := by
  rw [← hb]; exact in_any t vb c hc w h _ rfl

theorem still_tail {P : Program} {id : Nat} {Q : Exit → Act → World → Prop} {a : Act} {w : World} {l : List Oper} (n : Nat) (hm : P.follows .mixedOrders = true) (hB : Region.lexTailB .any l.toArray n = true)
    (h : wpStill P l.toArray w.drew (fun a' => wpList P l.toArray Q (l.drop n) a' w.drew) (l.take n) a) : (Code.region id l.toArray true).wp P Q a w := wp_region_still_tail n hm hB h

theorem idx_ok (k : Nat) (h : k < 256) : (k : Int) < 256 := by omega
/-- What holds in a round, when j classes are done. -/
structure Rd (w wx : World) (k j : Nat) (s1 s2 s3 s8 : Value) : Prop where
  e1 : s1 = .pointer (some ⟨w.heap.size, 0, none⟩)
  e2 : ∃ vb, s2 = .pointer (some ⟨vb, 0, none⟩) ∧ s3 = .func (.func 144) #[] #[.pointer (some ⟨vb, 0, none⟩)] ∧ wx.cell? ⟨vb, 0, none⟩ = some (.int .i64 k) ∧ w.heap.size < vb
  e8 : s8 = .int .i64 k
  tab : TabTo wx w.heap.size k j
  low : Below w.heap.size w wx

theorem Rd.put {w wx : World} {k j a : Nat} {s1 s2 s3 s8 : Value} {b : Bool} (h : Rd w wx k j s1 s2 s3 s8) (hn : k < 256) (ha : a = j * 256 + k) (hj : j < 6) (hb : cls j k = b) :
    Rd w (wx.setCell ⟨w.heap.size, a, none⟩ (.bool b)) k (j + 1) s1 s2 s3 s8 := by
  obtain ⟨h1, ⟨vb, h2, h3, h4, h5⟩, h6, h7, h8⟩ := h
  refine ⟨h1, ⟨vb, h2, h3, ?_, h5⟩, h6, h7.set hn ha hj hb, h8.setCell (p := ⟨w.heap.size, a, none⟩) (Nat.le_refl _) _⟩
  rw [World.cell?_setCell_other _ _ _ _ (by intro e; injection e with e1 e2; omega), h4]
theorem Rd.drewN {w wx : World} {k j : Nat} {s1 s2 s3 s8 : Value} (h : Rd w wx k j s1 s2 s3 s8) (n : Nat) : Rd w (wx.drewN n) k j s1 s2 s3 s8 := by
  obtain ⟨h1, ⟨vb, h2, h3, h4, h5⟩, h6, h7, h8⟩ := h
  exact ⟨h1, ⟨vb, h2, h3, by rw [World.cell?_drewN]; exact h4, h5⟩, h6, h7.drewN n, below_drewN h8 n⟩
theorem Rd.drew {w wx : World} {k j : Nat} {s1 s2 s3 s8 : Value} (h : Rd w wx k j s1 s2 s3 s8) : Rd w wx.drew k j s1 s2 s3 s8 := h.drewN 1
theorem clsW_is (k : Nat) : cls 2 k = (clsL k || clsD k || clsOf wsigns k) := rfl
theorem clsF_is (k : Nat) : cls 3 k = ((clsL k || clsD k || clsOf wsigns k) && !clsOf [43, 45, 47, 61] k) := rfl
theorem clsQ_is (k : Nat) : cls 5 k = (clsL k || clsD k || k == 45) := rfl

set_option maxRecDepth 100000 in
set_option maxHeartbeats 4000000 in
theorem newTable_any (w : World) :
    Calls Tryz.prog 107 #[] w fun e w' => e = .returned (.pointer (some ⟨w.heap.size, 0, none⟩)) ∧ Below w.heap.size w w' ∧ IsTab w' w.heap.size := by
  go_enter Tryz.func107, Tryz.ntmps107
  go_wp2_with fail
  go_loopw [8] (fun v wr => ∃ k : Nat, k ≤ 256 ∧ v = .int .i64 k ∧ Hid (TabTo wr w.heap.size k 0) ∧ Hid (Below w.heap.size w wr)) (fun v _ => 256 - (intOf v).toNat)
  case atStart =>
    refine ⟨0, by omega, rfl, Lib.hid ⟨fun c x hc hx => ?_, fun o => by simp [go_sem]⟩, Lib.hid ((Below.refl _ _).alloc (Nat.le_refl _) _)⟩
    rw [World.cell?_alloc_new, zero213, if_neg (by omega), Array.getElem?_replicate, if_pos (by omega)]
  case round =>
    obtain ⟨k, hk, rfl, HT, HB⟩ := hrel
    by_cases hlt : k < 256
    · have hlt' : (k : Int) < 256 := by omega
      have k0 : (0 : Int) ≤ k := by omega
      have hlt2 := HT.out.lt
      go_upto_region 7 with fail
      go_cut [1, 2, 3, 4, 5, 8] (fun s1 s2 s3 s4 s5 s8 wx => Hid (Rd w wx k 0 s1 s2 s3 s8) ∧ s4 = .bool (clsL k) ∧ s5 = .bool (clsD k))
      case first =>
        have hcl : ∃ b1 b2 b3 b4 : Bool, decide ((97 : Int) ≤ k) = b1 ∧ decide ((k : Int) ≤ 122) = b2 ∧ decide ((48 : Int) ≤ k) = b3 ∧ decide ((k : Int) ≤ 57) = b4 ∧ clsL k = (b1 && b2) ∧ clsD k = (b3 && b4) := by
          refine ⟨_, _, _, _, rfl, rfl, rfl, rfl, ?_, ?_⟩
          · unfold clsL; congr 1 <;> (apply decide_eq_decide.2; omega)
          · unfold clsD; congr 1 <;> (apply decide_eq_decide.2; omega)
        obtain ⟨b1, b2, b3, b4, g1, g2, g3, g4, gL, gD⟩ := hcl
        have G1 := Lib.hid gL
        have G2 := Lib.hid gD
        clear gL gD
        cases b1 <;> cases b2 <;> cases b3 <;> cases b4
        all_goals first | (exfalso; clear HT HB; simp at g1 g2 g3 g4; omega) | skip
        all_goals
          go_quiet (fail)
          go_wp2_with fail
          go_meet
          exact ⟨Lib.hid ⟨rfl, ⟨_, rfl, rfl, by simp [go_sem], by omega⟩, rfl, (HT.out.alloc _).drewN _, below_drewN ((HB.out.alloc (by omega) _)) _⟩, by rw [G1.out]; rfl, by rw [G2.out]; rfl⟩
      case rest =>
        obtain ⟨HR, rfl, rfl⟩ := hcut
        obtain ⟨rfl, ⟨vb, rfl, rfl, hcell, hvb⟩, rfl, hT, hB⟩ := HR.out
        clear HR HT HB
        have HT := Lib.hid hT
        have HB := Lib.hid hB
        have q0 := hT.at_ 0 k (by omega) (by omega)
        have q1 := hT.at_ 1 k (by omega) (by omega)
        simp only [Nat.zero_mul, Nat.zero_add, Nat.reduceMul] at q0 q1
        have hfr := hT.free
        clear hT hB
        generalize hbl : clsL k = bl at *
        generalize hbd : clsD k = bd at *
        have HL := Lib.hid hbl
        have HD := Lib.hid hbd
        clear hbl hbd
        go_upto_region 8 with fail
        go_cut [1, 2, 3, 4, 5, 8] (fun s1 s2 s3 s4 s5 s8 wx => Hid (Rd w wx k 2 s1 s2 s3 s8) ∧ s4 = .bool bl ∧ s5 = .bool bd)
        case first =>
          go_region
          go_wp2_with fail
          go_meet
          have HR0 : Rd w wc k 0 (.pointer (some ⟨w.heap.size, 0, none⟩)) (.pointer (some ⟨vb, 0, none⟩)) (.func (.func 144) #[] #[.pointer (some ⟨vb, 0, none⟩)]) (.int .i64 k) := ⟨rfl, ⟨vb, rfl, rfl, hcell, hvb⟩, rfl, HT.out, HB.out⟩
          exact ⟨Lib.hid (((HR0.put hlt (by omega) (by omega) HL.out).put hlt (by omega) (by omega) HD.out).drew), rfl, rfl⟩
        case rest =>
          clear HT HB hcell hvb q0 q1 hfr
          clear vb
          have HWS := ws_is k hlt
          have HFS := fs_is k hlt
          have HBS := bs_is k hlt
          generalize hbw : clsOf wsigns k = bw at *
          generalize hbf : clsOf [43, 45, 47, 61] k = bf at *
          generalize hbb : clsOf [60, 36, 37, 42, 95] k = bb at *
          have KW := Lib.hid hbw
          have KF := Lib.hid hbf
          have KB := Lib.hid hbb
          clear hbw hbf hbb
          have IW := Lib.hid (in_is ⟨#[33, 36, 38, 42, 60, 62, 124, 94, 37, 95, 126, 63, 43, 45, 47, 61]⟩ k hlt _ HWS)
          have IF := Lib.hid (in_is ⟨#[43, 45, 47, 61]⟩ k hlt _ HFS)
          have IB := Lib.hid (in_is ⟨#[60, 36, 37, 42, 95]⟩ k hlt _ HBS)
          clear HWS HFS HBS
          obtain ⟨HR, rfl, rfl⟩ := hcut
          obtain ⟨rfl, ⟨vb, rfl, rfl, hcell, hvb⟩, rfl, hT, -⟩ := HR.out
          have q := hT.at_ 2 k (by omega) (by omega)
          have hfr := hT.free
          clear hT
          simp only [Nat.reduceMul] at q
          go_upto_region 9 with fail
          go_cut [1, 2, 3, 4, 5, 8] (fun s1 s2 s3 s4 s5 s8 wx => Hid (Rd w wx k 3 s1 s2 s3 s8) ∧ s4 = .bool bl ∧ s5 = .bool bd)
          case first =>
            cases bl
            · cases bd
              · refine still_tail 13 (by kernel_rfl) (by kernel_rfl) ?_
                simp only [List.take_succ_cons, List.take_zero, List.drop_succ_cons, List.drop_zero]
                iterate 8 still_step
                still_call (IW.out vb _ (by simp [go_sem, *]))
                iterate 4 still_step
                refine wpStill_nil ?_
                go_wp2_with fail
                go_meet
                exact ⟨Lib.hid (HR.out.drew.put hlt (by omega) (by omega) (by rw [clsW_is, HL.out, HD.out, KW.out]; rfl)), rfl, rfl⟩
              · refine still_tail 13 (by kernel_rfl) (by kernel_rfl) ?_
                simp only [List.take_succ_cons, List.take_zero, List.drop_succ_cons, List.drop_zero]
                iterate 13 still_step
                refine wpStill_nil ?_
                go_wp2_with fail
                go_meet
                exact ⟨Lib.hid (HR.out.drew.put hlt (by omega) (by omega) (by rw [clsW_is, HL.out, HD.out]; rfl)), rfl, rfl⟩
            · cases bd
              all_goals
                refine still_tail 13 (by kernel_rfl) (by kernel_rfl) ?_
                simp only [List.take_succ_cons, List.take_zero, List.drop_succ_cons, List.drop_zero]
                iterate 13 still_step
                refine wpStill_nil ?_
                go_wp2_with fail
                go_meet
                exact ⟨Lib.hid (HR.out.drew.put hlt (by omega) (by omega) (by rw [clsW_is, HL.out, HD.out]; rfl)), rfl, rfl⟩
          case rest =>
            clear HR hcell hvb q hfr
            clear vb
            obtain ⟨HR, rfl, rfl⟩ := hcut
            obtain ⟨rfl, ⟨vb, rfl, rfl, hcell, hvb⟩, rfl, hT, -⟩ := HR.out
            have q := hT.at_ 2 k (by omega) (by omega)
            rw [if_pos (Or.inr ⟨rfl, by omega⟩), clsW_is, HL.out, HD.out, KW.out] at q
            have q3 := hT.at_ 3 k (by omega) (by omega)
            have hfr := hT.free
            clear hT
            simp only [Nat.reduceMul] at q q3
            generalize hcw : (bl || bd || bw) = cw at *
            have KC := Lib.hid hcw
            clear hcw
            go_upto_region 10 with fail
            go_cut [1, 2, 3, 4, 5, 8] (fun s1 s2 s3 s4 s5 s8 wx => Hid (Rd w wx k 4 s1 s2 s3 s8) ∧ s4 = .bool bl ∧ s5 = .bool bd)
            case first =>
              cases cw
              · refine still_tail 16 (by kernel_rfl) (by kernel_rfl) ?_
                simp only [List.take_succ_cons, List.take_zero, List.drop_succ_cons, List.drop_zero]
                iterate 16 still_step
                refine wpStill_nil ?_
                go_wp2_with fail
                go_meet
                exact ⟨Lib.hid (HR.out.drew.put hlt (by omega) (by omega) (by rw [clsF_is, HL.out, HD.out, KW.out, KC.out]; rfl)), rfl, rfl⟩
              · refine still_tail 16 (by kernel_rfl) (by kernel_rfl) ?_
                simp only [List.take_succ_cons, List.take_zero, List.drop_succ_cons, List.drop_zero]
                iterate 10 still_step
                still_call (IF.out vb _ (by simp [go_sem, *]))
                iterate 5 still_step
                refine wpStill_nil ?_
                go_wp2_with fail
                go_meet
                exact ⟨Lib.hid (HR.out.drew.put hlt (by omega) (by omega) (by rw [clsF_is, HL.out, HD.out, KW.out, KC.out, KF.out]; rfl)), rfl, rfl⟩
            case rest =>
              clear HR hcell hvb q q3 hfr
              clear vb
              obtain ⟨HR, rfl, rfl⟩ := hcut
              obtain ⟨rfl, ⟨vb, rfl, rfl, hcell, hvb⟩, rfl, hT, -⟩ := HR.out
              have q := hT.at_ 4 k (by omega) (by omega)
              have hfr := hT.free
              clear hT
              simp only [Nat.reduceMul] at q
              go_upto_region 11 with fail
              go_cut [1, 2, 3, 4, 5, 8] (fun s1 s2 s3 s4 s5 s8 wx => Hid (Rd w wx k 5 s1 s2 s3 s8) ∧ s4 = .bool bl ∧ s5 = .bool bd)
              case first =>
                refine still_tail 7 (by kernel_rfl) (by kernel_rfl) ?_
                simp only [List.take_succ_cons, List.take_zero, List.drop_succ_cons, List.drop_zero]
                iterate 3 still_step
                still_call (IB.out vb _ (by simp [go_sem, *]))
                iterate 3 still_step
                refine wpStill_nil ?_
                go_wp2_with fail
                go_meet
                exact ⟨Lib.hid (HR.out.drew.put hlt (by omega) (by omega) KB.out), rfl, rfl⟩
              case rest =>
                clear HR hcell hvb q hfr
                clear vb
                obtain ⟨HR, rfl, rfl⟩ := hcut
                obtain ⟨rfl, ⟨vb, rfl, rfl, hcell, hvb⟩, rfl, hT, -⟩ := HR.out
                have q := hT.at_ 5 k (by omega) (by omega)
                have hfr := hT.free
                clear hT
                simp only [Nat.reduceMul] at q
                go_upto_region 11 with fail
                cases bl
                · cases bd
                  · have h45 := int_eq k 45
                    refine still_tail 13 (by kernel_rfl) (by kernel_rfl) ?_
                    simp only [List.take_succ_cons, List.take_zero, List.drop_succ_cons, List.drop_zero]
                    iterate 13 still_step
                    refine wpStill_nil ?_
                    go_wp2_with fail
                    have hR6 : Rd w _ k 6 _ _ _ _ := HR.out.drew.put (a := 1280 + k) (b := ((k : Int) == 45)) hlt (by omega) (by omega) (by rw [clsQ_is, HL.out, HD.out]; rw [show ((k : Int) == 45) = (k == 45) from h45]; rfl)
                    have HT := Lib.hid hR6.tab.next
                    have HB := Lib.hid hR6.low
                    clear hR6
                    go_roundw
                    case rel => exact ⟨k + 1, by omega, by go_num, HT, HB⟩
                    case measure => simp [intOf]; omega
                  · skip
                    refine still_tail 13 (by kernel_rfl) (by kernel_rfl) ?_
                    simp only [List.take_succ_cons, List.take_zero, List.drop_succ_cons, List.drop_zero]
                    iterate 13 still_step
                    refine wpStill_nil ?_
                    go_wp2_with fail
                    have hR6 : Rd w _ k 6 _ _ _ _ := HR.out.drew.put (a := 1280 + k) (b := true) hlt (by omega) (by omega) (by rw [clsQ_is, HL.out, HD.out]; rfl)
                    have HT := Lib.hid hR6.tab.next
                    have HB := Lib.hid hR6.low
                    clear hR6
                    go_roundw
                    case rel => exact ⟨k + 1, by omega, by go_num, HT, HB⟩
                    case measure => simp [intOf]; omega
                · cases bd
                  all_goals
                    refine still_tail 13 (by kernel_rfl) (by kernel_rfl) ?_
                    simp only [List.take_succ_cons, List.take_zero, List.drop_succ_cons, List.drop_zero]
                    iterate 13 still_step
                    refine wpStill_nil ?_
                    go_wp2_with fail
                    have hR6 : Rd w _ k 6 _ _ _ _ := HR.out.drew.put (a := 1280 + k) (b := true) hlt (by omega) (by omega) (by rw [clsQ_is, HL.out, HD.out]; rfl)
                    have HT := Lib.hid hR6.tab.next
                    have HB := Lib.hid hR6.low
                    clear hR6
                    go_roundw
                    case rel => exact ⟨k + 1, by omega, by go_num, HT, HB⟩
                    case measure => simp [intOf]; omega
    · have : k = 256 := by omega
      subst this
      go_wp2
      go_ret
      exact ⟨rfl, HB.out, ⟨fun c x hc hx => by rw [HT.out.at_ c x hc hx, if_pos (Or.inl hx)]⟩⟩
end Go.Proofs.YtjnimfnelacceaaGreatDoor
