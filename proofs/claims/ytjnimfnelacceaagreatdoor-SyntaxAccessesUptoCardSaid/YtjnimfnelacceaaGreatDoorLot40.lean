/- The reference: piece, at the beginning of a text. -/
import Derived.Test.YtjnimfnelacceaaGreatDoorLot14
import Derived.Test.YtjnimfnelacceaaGreatDoorLot38
import Derived.Test.YtjnimfnelacceaaGreatDoorLot39
set_option linter.unusedSimpArgs false
set_option linter.unusedVariables false
namespace Go.Proofs.YtjnimfnelacceaaGreatDoor
open Go.RowKit

theorem member_callsW (b : Nat) (hb : b < 256) (w : World) : Calls Tryz.prog 168 #[.int .u8 87, .int .u8 b] w fun e w' => e = .returned (.bool (clsW b)) ∧ ∃ n, w' = w.drewN n := member_calls 87 b hb w
/-- Is there an error (a hash, a byte, a length) at a text whose best token is none that is a number? -/
def badR (l : List UInt8) : Bool :=
  if byt l 0 == 35 && ((bestB l).1 == 0 || (decide (2 < l.length) && clsW (byt l 2))) then true else if (bestB l).1 == 0 then true else (bestB l).1 != 5 && decide (40 < (bestB l).2)
def PieceEnd (s : ByteArray) (w : World) (e : Ending) (w' : World) : Prop := Below w.heap.size w w' ∧ ∃ k n er : Int, e = .returned (.agg #[.int .i64 k, .int .i64 0, .int .i64 n, .int .i64 er]) ∧
  (comB s.data.toList = true → k = 8 ∨ er ≠ 0) ∧
  (comB s.data.toList = false → blankN (byt s.data.toList 0) = true → k = 7) ∧
  (comB s.data.toList = false → blankN (byt s.data.toList 0) = false →
    ((bestB s.data.toList).1 = 2 → k = 2 ∨ er ≠ 0) ∧
    ((bestB s.data.toList).1 ≠ 2 → if badR s.data.toList = true then er ≠ 0 else k = (bestB s.data.toList).1 ∧ n = (bestB s.data.toList).2 ∧ er = 0))
theorem below_set4 {w w1 : World} (h : Below w.heap.size w w1) (a b c d : Value) : Below w.heap.size w ((((w1.setCell ⟨w.heap.size, 0, none⟩ a).setCell ⟨w.heap.size, 1, none⟩ b).setCell ⟨w.heap.size, 2, none⟩ c).setCell ⟨w.heap.size, 3, none⟩ d) :=
  (((h.setCell (p := ⟨w.heap.size, 0, none⟩) (Nat.le_refl _) _).setCell (p := ⟨w.heap.size, 1, none⟩) (Nat.le_refl _) _).setCell (p := ⟨w.heap.size, 2, none⟩) (Nat.le_refl _) _).setCell (p := ⟨w.heap.size, 3, none⟩) (Nat.le_refl _) _
set_option maxRecDepth 100000 in
set_option maxHeartbeats 4000000 in
theorem piece_any (s : ByteArray) (w : World) (h9 : 9 ≤ w.heap.size) (h0 : 0 < s.size) (hs : s.size ≤ 20000) :
    Calls Tryz.prog 128 #[.string s, .int .i64 0, .bool false] w (PieceEnd s w) := by
  have HCO := Lib.hid (fun w => rcomment_any s w h0 hs)
  have HBL := Lib.hid blank_any
  have HBE := Lib.hid (fun w h => best_any s w h (by omega))
  have HIN := Lib.hid (rintegral_any s)
  have HMW := Lib.hid member_callsW
  have HLE := Lib.hid (best_le s.data.toList)
  have z0 : (0 : Int) < s.size := by omega
  have z1 : (0 : Int) ≤ 0 := by omega
  have z2 : decide ((0 : Int) < s.size) = true := decide_eq_true z0
  go_enter Tryz.func128, Tryz.ntmps128
  go_wp2_with fail
  refine (HCO.out _).mono ?_
  rintro e w1 ⟨hb1, k, n, er, rfl, hc0, hc1⟩
  have hz : ∀ j : Nat, j < 4 → w1.cell? ⟨w.heap.size, j, none⟩ = some (.int .i64 0) := fun j hj => below_cell hb1 (by match j, hj with | 0, _ => simp [go_sem] | 1, _ => simp [go_sem] | 2, _ => simp [go_sem] | 3, _ => simp [go_sem])
  have hf : ∀ j : Nat, w1.frozen? ⟨w.heap.size, j, none⟩ = false := fun j => (hb1.frozen (p := ⟨w.heap.size, j, none⟩) (by simp)).trans (by simp [go_sem])
  have hbw : Below w.heap.size w w1 := by
    have h2 : Below w.heap.size w (w.alloc (.cells #[.int .i64 0, .int .i64 0, .int .i64 0, .int .i64 0] 201)) := (Below.refl _ _).alloc (Nat.le_refl _) _
    exact h2.trans (hb1.mono h2.size)
  have hsz : w.heap.size + 1 ≤ w1.heap.size := by have := hb1.size; simpa using this
  have HB1 := Lib.hid hbw
  clear hb1 hbw
  have a0 := hz 0 (by decide)
  have a1 := hz 1 (by decide)
  have a2 := hz 2 (by decide)
  have a3 := hz 3 (by decide)
  have f0 := hf 0
  have f1 := hf 1
  have f2 := hf 2
  have f3 := hf 3
  clear hz hf
  have l1 : w.heap.size < w1.heap.size := by omega
  have l2 : w.heap.size ≠ w1.heap.size := by omega
  cases hcom : comB s.data.toList with
  | true =>
    have hk := hc1 hcom
    have HK := Lib.hid (And.intro hcom hk)
    clear hc0 hc1 hcom hk
    by_cases hk0 : k = 0
    · have e1 : (k != 0) = false := by rw [bne_eq_false_iff_eq]; exact hk0
      have e2 : (er != 0) = true := by rw [bne_iff_ne]; have := HK.out.2; omega
      clear hk0
      go_wp2
      refine bodyPost_ret (v := .agg #[.int .i64 k, .int .i64 0, .int .i64 n, .int .i64 er]) (by simp [results, Tryz.results128, go_sem, *]) rfl ⟨(below_set4 HB1.out _ _ _ _).alloc (by simp; omega) _, k, n, er, rfl, fun _ => HK.out.2, fun h => (by rw [HK.out.1] at h; cases h), fun h => (by rw [HK.out.1] at h; cases h)⟩
    · have e1 : (k != 0) = true := by rw [bne_iff_ne]; exact hk0
      clear hk0
      go_wp2
      refine bodyPost_ret (v := .agg #[.int .i64 k, .int .i64 0, .int .i64 n, .int .i64 er]) (by simp [results, Tryz.results128, go_sem, *]) rfl ⟨(below_set4 HB1.out _ _ _ _).alloc (by simp; omega) _, k, n, er, rfl, fun _ => HK.out.2, fun h => (by rw [HK.out.1] at h; cases h), fun h => (by rw [HK.out.1] at h; cases h)⟩
  | false =>
    obtain ⟨rfl, rfl, rfl⟩ := hc0 hcom
    have HCM := Lib.hid hcom
    clear hc0 hc1 hcom
    go_wp2
    go_loopw [8] (fun v8 wr => ∃ n : Nat, n ≤ s.size ∧ v8 = .int .i64 n ∧ Hid (0 < n → blankN (byt s.data.toList 0) = true) ∧ wr = w1.alloc (.cells #[.int .i64 0, .int .i64 0, .int .i64 0, .int .i64 0] 201)) (fun v8 _ => s.size - (intOf v8).toNat)
    case atStart => exact ⟨0, Nat.zero_le _, rfl, Lib.hid (fun h => absurd h (Nat.lt_irrefl _)), rfl⟩
    case round =>
      obtain ⟨n, hn, rfl, HN, rfl⟩ := hrel
      by_cases hlt : n < s.size
      · have g0 : decide ((n : Int) < s.size) = true := decide_eq_true (by omega)
        have g1 : (0 : Int) ≤ n := by omega
        have g2 : (n : Int) < s.size := by omega
        have hq := byt_idx s n hlt
        go_wp2_with fail
        refine (HBL.out _ (byt_lt _ _) _).mono ?_
        rintro e wx ⟨rfl, rfl⟩
        cases hbn : blankN (byt s.data.toList n) with
        | true =>
          have hne : 0 < n + 1 → blankN (byt s.data.toList 0) = true := fun _ => by
            by_cases e0 : n = 0
            · subst e0; exact hbn
            · exact HN.out (by omega)
          have HNE := Lib.hid hne
          clear hne hbn
          go_wp2
          go_roundw
          case rel => exact ⟨n + 1, by omega, by go_num, HNE, trivial⟩
          case measure => simp [intOf]; omega
        | false =>
          by_cases hn0 : n = 0
          · subst hn0
            have HB0 := Lib.hid hbn
            clear hbn hq HN g0 g1 g2
            go_wp2_with fail
            refine (HBE.out _ (by simp; omega)).mono ?_
            rintro e w2 ⟨rfl, hb2⟩
            have hle := HLE.out
            rw [len_data] at hle
            generalize hbb : bestB s.data.toList = bb at *
            obtain ⟨bk, bn⟩ := bb
            simp only at hle
            obtain ⟨hle1, hle2⟩ := hle
            have b0 : w2.cell? ⟨w.heap.size, 0, none⟩ = some (.int .i64 0) := below_cell hb2 (by simp [go_sem, *])
            have b1 : w2.cell? ⟨w.heap.size, 1, none⟩ = some (.int .i64 0) := below_cell hb2 (by simp [go_sem, *])
            have b2 : w2.cell? ⟨w.heap.size, 2, none⟩ = some (.int .i64 0) := below_cell hb2 (by simp [go_sem, *])
            have b3 : w2.cell? ⟨w.heap.size, 3, none⟩ = some (.int .i64 0) := below_cell hb2 (by simp [go_sem, *])
            have d0 : w2.frozen? ⟨w.heap.size, 0, none⟩ = false := (hb2.frozen (p := ⟨w.heap.size, 0, none⟩) (by simp; omega)).trans (by simp [go_sem, *])
            have d1 : w2.frozen? ⟨w.heap.size, 1, none⟩ = false := (hb2.frozen (p := ⟨w.heap.size, 1, none⟩) (by simp; omega)).trans (by simp [go_sem, *])
            have d2 : w2.frozen? ⟨w.heap.size, 2, none⟩ = false := (hb2.frozen (p := ⟨w.heap.size, 2, none⟩) (by simp; omega)).trans (by simp [go_sem, *])
            have d3 : w2.frozen? ⟨w.heap.size, 3, none⟩ = false := (hb2.frozen (p := ⟨w.heap.size, 3, none⟩) (by simp; omega)).trans (by simp [go_sem, *])
            have m1 : w.heap.size < w2.heap.size := by have := hb2.size; simp at this; omega
            have m2 : w.heap.size ≠ w2.heap.size := by omega
            have hbw : Below w.heap.size w w2 := by
              have h2 : Below w.heap.size w (w1.alloc (.cells #[.int .i64 0, .int .i64 0, .int .i64 0, .int .i64 0] 201)) := HB1.out.alloc (by omega) _
              exact h2.trans (hb2.mono (by simp; omega))
            have HB2 := Lib.hid hbw
            have HBB := Lib.hid hbb
            clear hbw hb2 hbb a0 a1 a2 a3 f0 f1 f2 f3 l1 l2 hsz HLE HBE HBL HCO
            by_cases hk2 : bk = 2
            · subst hk2
              go_wp2_with fail
              refine (HIN.out bn _ hs hle2).mono ?_
              rintro e w3 ⟨hb3, er, rfl⟩
              have c0 : w3.cell? ⟨w.heap.size, 0, none⟩ = some (.int .i64 0) := below_cell hb3 (by simp [go_sem, *])
              have c1 : w3.cell? ⟨w.heap.size, 1, none⟩ = some (.int .i64 0) := below_cell hb3 (by simp [go_sem, *])
              have c2 : w3.cell? ⟨w.heap.size, 2, none⟩ = some (.int .i64 0) := below_cell hb3 (by simp [go_sem, *])
              have c3 : w3.cell? ⟨w.heap.size, 3, none⟩ = some (.int .i64 0) := below_cell hb3 (by simp [go_sem, *])
              have n0 : w3.cell? ⟨w2.heap.size, 0, none⟩ = some (.int .i64 2) := below_cell hb3 (by simp [go_sem, *])
              have n1 : w3.cell? ⟨w2.heap.size, 1, none⟩ = some (.int .i64 bn) := below_cell hb3 (by simp [go_sem, *])
              have e0 : w3.frozen? ⟨w.heap.size, 0, none⟩ = false := (hb3.frozen (p := ⟨w.heap.size, 0, none⟩) (by simp; omega)).trans (by simp [go_sem, *])
              have e1 : w3.frozen? ⟨w.heap.size, 1, none⟩ = false := (hb3.frozen (p := ⟨w.heap.size, 1, none⟩) (by simp; omega)).trans (by simp [go_sem, *])
              have e2 : w3.frozen? ⟨w.heap.size, 2, none⟩ = false := (hb3.frozen (p := ⟨w.heap.size, 2, none⟩) (by simp; omega)).trans (by simp [go_sem, *])
              have e3 : w3.frozen? ⟨w.heap.size, 3, none⟩ = false := (hb3.frozen (p := ⟨w.heap.size, 3, none⟩) (by simp; omega)).trans (by simp [go_sem, *])
              have hbw : Below w.heap.size w w3 := by
                have h2 : Below w.heap.size w (w2.alloc (.cells #[.int .i64 2, .int .i64 bn] 238)) := HB2.out.alloc (by omega) _
                exact h2.trans (hb3.mono (by simp; omega))
              have HB3 := Lib.hid hbw
              clear hbw hb3 b0 b1 b2 b3 d0 d1 d2 d3
              by_cases her : er = 0
              · subst her
                go_wp2
                refine bodyPost_ret (v := .agg #[.int .i64 2, .int .i64 0, .int .i64 bn, .int .i64 0]) (by simp [results, Tryz.results128, go_sem, *]) rfl ⟨below_set4 HB3.out _ _ _ _, 2, bn, 0, rfl, fun h => (by rw [HCM.out] at h; cases h), fun _ h => (by rw [HB0.out] at h; cases h), fun _ _ => ⟨fun _ => Or.inl rfl, fun h => absurd (by rw [HBB.out]) h⟩⟩
              · have q1 : (er != 0) = true := by rw [bne_iff_ne]; exact her
                have HER := Lib.hid her
                clear her
                go_wp2
                refine bodyPost_ret (v := .agg #[.int .i64 0, .int .i64 0, .int .i64 0, .int .i64 er]) (by simp [results, Tryz.results128, go_sem, *]) rfl ⟨below_set4 HB3.out _ _ _ _, 0, 0, er, rfl, fun h => (by rw [HCM.out] at h; cases h), fun _ h => (by rw [HB0.out] at h; cases h), fun _ _ => ⟨fun _ => Or.inr HER.out, fun h => absurd (by rw [HBB.out]) h⟩⟩
            · have p2 : ((bk : Int) == 2) = false := by rw [beq_eq_false_iff_ne]; omega
              have hq0 := byt_idx s 0 h0
              have HK2 := Lib.hid hk2
              clear hk2 HIN
              by_cases h35 : byt s.data.toList 0 = 35
              · have r0 : ((byt s.data.toList 0 : Int) == 35) = true := by rw [beq_iff_eq]; omega
                by_cases hk0 : bk = 0
                · subst hk0
                  have hbad : badR s.data.toList = true := by unfold badR; rw [HBB.out, h35]; rfl
                  have HBAD := Lib.hid hbad
                  clear hbad h35
                  go_wp2
                  refine bodyPost_ret (v := .agg #[.int .i64 0, .int .i64 0, .int .i64 0, .int .i64 12]) (by simp [results, Tryz.results128, go_sem, *]) rfl ⟨(below_set4 HB2.out _ _ _ _).alloc (by simp; omega) _, 0, 0, 12, rfl, fun h => (by rw [HCM.out] at h; cases h), fun _ h => (by rw [HB0.out] at h; cases h), fun _ _ => ⟨fun h => absurd (by rw [HBB.out] at h; exact h) HK2.out, fun _ => by rw [if_pos HBAD.out]; decide⟩⟩
                · have p0 : ((bk : Int) == 0) = false := by rw [beq_eq_false_iff_ne]; omega
                  by_cases h2 : 2 < s.size
                  · have s2 : decide ((2 : Int) < s.size) = true := decide_eq_true (by omega)
                    have s3 : (2 : Int) < s.size := by omega
                    have s4 : (0 : Int) ≤ 2 := by omega
                    have hq2 := byt_idx s 2 h2
                    have h2l : 2 < s.data.toList.length := by rw [len_data]; exact h2
                    have hmw := HMW.out _ (byt_lt s.data.toList 2)
                    cases hcw : clsW (byt s.data.toList 2) with
                    | true =>
                      have hbad : badR s.data.toList = true := by unfold badR; rw [HBB.out]; simp [h35, h2, hcw]
                      have HBAD := Lib.hid hbad
                      rw [hcw] at hmw
                      have HMX := Lib.hid hmw
                      clear hbad hcw h35 hk0 h2l hmw
                      go_wp2_with fail
                      refine (HMX.out _).mono ?_
                      rintro e w3 ⟨rfl, q3, rfl⟩
                      go_wp2
                      refine bodyPost_ret (v := .agg #[.int .i64 0, .int .i64 0, .int .i64 0, .int .i64 12]) (by simp [results, Tryz.results128, go_sem, *]) rfl ⟨(by repeat (first | with_reducible refine below_drewN ?_ _ | with_reducible exact HB2.out.alloc (by omega) _ | with_reducible refine Below.setCell ?_ (by simp) _ | with_reducible exact HB2.out)), 0, 0, 12, rfl, fun h => (by rw [HCM.out] at h; cases h), fun _ h => (by rw [HB0.out] at h; cases h), fun _ _ => ⟨fun h => absurd (by rw [HBB.out] at h; exact h) HK2.out, fun _ => by rw [if_pos HBAD.out]; decide⟩⟩
                    | false =>
                      rw [hcw] at hmw
                      have HMX := Lib.hid hmw
                      clear hmw
                      by_cases hk5 : bk = 5
                      · have p5 : ((bk : Int) != 5) = false := by rw [bne_eq_false_iff_eq]; omega
                        have hbad : badR s.data.toList = false := by unfold badR; rw [HBB.out]; simp [h35, h2, hcw, hk0, hk5]
                        have HBAD := Lib.hid hbad
                        clear hbad hk5 hk0 h35 h2l hcw
                        go_wp2_with fail
                        refine (HMX.out _).mono ?_
                        rintro e w3 ⟨rfl, q3, rfl⟩
                        go_wp2
                        refine bodyPost_ret (v := .agg #[.int .i64 bk, .int .i64 0, .int .i64 bn, .int .i64 0]) (by simp [results, Tryz.results128, go_sem, *]) rfl ⟨(by repeat (first | with_reducible refine below_drewN ?_ _ | with_reducible exact HB2.out.alloc (by omega) _ | with_reducible refine Below.setCell ?_ (by simp) _ | with_reducible exact HB2.out)), bk, bn, 0, rfl, fun h => (by rw [HCM.out] at h; cases h), fun _ h => (by rw [HB0.out] at h; cases h), fun _ _ => ⟨fun h => absurd (by rw [HBB.out] at h; exact h) HK2.out, fun _ => by rw [if_neg (by rw [HBAD.out]; decide), HBB.out]; exact ⟨rfl, rfl, rfl⟩⟩⟩
                      · have p5 : ((bk : Int) != 5) = true := by rw [bne_iff_ne]; omega
                        by_cases h40 : 40 < bn
                        · have p6 : decide ((40 : Int) < bn) = true := decide_eq_true (by omega)
                          have p6n : decide (40 < bn) = true := decide_eq_true (by omega)
                          have hbad : badR s.data.toList = true := by unfold badR; rw [HBB.out]; simp [h35, h2, hcw, hk0, hk5, h40]
                          have HBAD := Lib.hid hbad
                          clear hbad hk5 hk0 h40 h35 h2l hcw
                          go_wp2_with fail
                          refine (HMX.out _).mono ?_
                          rintro e w3 ⟨rfl, q3, rfl⟩
                          go_wp2
                          refine bodyPost_ret (v := .agg #[.int .i64 0, .int .i64 0, .int .i64 0, .int .i64 2]) (by simp [results, Tryz.results128, go_sem, *]) rfl ⟨(by repeat (first | with_reducible refine below_drewN ?_ _ | with_reducible exact HB2.out.alloc (by omega) _ | with_reducible refine Below.setCell ?_ (by simp) _ | with_reducible exact HB2.out)), 0, 0, 2, rfl, fun h => (by rw [HCM.out] at h; cases h), fun _ h => (by rw [HB0.out] at h; cases h), fun _ _ => ⟨fun h => absurd (by rw [HBB.out] at h; exact h) HK2.out, fun _ => by rw [if_pos HBAD.out]; decide⟩⟩
                        · have p6 : decide ((40 : Int) < bn) = false := decide_eq_false (by omega)
                          have p6n : decide (40 < bn) = false := decide_eq_false (by omega)
                          have hbad : badR s.data.toList = false := by unfold badR; rw [HBB.out]; simp [h35, h2, hcw, hk0, hk5, h40]
                          have HBAD := Lib.hid hbad
                          clear hbad hk5 hk0 h40 h35 h2l hcw
                          go_wp2_with fail
                          refine (HMX.out _).mono ?_
                          rintro e w3 ⟨rfl, q3, rfl⟩
                          go_wp2
                          refine bodyPost_ret (v := .agg #[.int .i64 bk, .int .i64 0, .int .i64 bn, .int .i64 0]) (by simp [results, Tryz.results128, go_sem, *]) rfl ⟨(by repeat (first | with_reducible refine below_drewN ?_ _ | with_reducible exact HB2.out.alloc (by omega) _ | with_reducible refine Below.setCell ?_ (by simp) _ | with_reducible exact HB2.out)), bk, bn, 0, rfl, fun h => (by rw [HCM.out] at h; cases h), fun _ h => (by rw [HB0.out] at h; cases h), fun _ _ => ⟨fun h => absurd (by rw [HBB.out] at h; exact h) HK2.out, fun _ => by rw [if_neg (by rw [HBAD.out]; decide), HBB.out]; exact ⟨rfl, rfl, rfl⟩⟩⟩
                  · have s2 : decide ((2 : Int) < s.size) = false := decide_eq_false (by omega)
                    have h2l : ¬ 2 < s.data.toList.length := by rw [len_data]; exact h2
                    by_cases hk5 : bk = 5
                    · have p5 : ((bk : Int) != 5) = false := by rw [bne_eq_false_iff_eq]; omega
                      have hbad : badR s.data.toList = false := by unfold badR; rw [HBB.out]; simp [h35, h2, hk0, hk5]
                      have HBAD := Lib.hid hbad
                      clear hbad hk5 hk0 h35 h2l
                      go_wp2
                      refine bodyPost_ret (v := .agg #[.int .i64 bk, .int .i64 0, .int .i64 bn, .int .i64 0]) (by simp [results, Tryz.results128, go_sem, *]) rfl ⟨(below_set4 HB2.out _ _ _ _).alloc (by simp; omega) _, bk, bn, 0, rfl, fun h => (by rw [HCM.out] at h; cases h), fun _ h => (by rw [HB0.out] at h; cases h), fun _ _ => ⟨fun h => absurd (by rw [HBB.out] at h; exact h) HK2.out, fun _ => by rw [if_neg (by rw [HBAD.out]; decide), HBB.out]; exact ⟨rfl, rfl, rfl⟩⟩⟩
                    · have p5 : ((bk : Int) != 5) = true := by rw [bne_iff_ne]; omega
                      by_cases h40 : 40 < bn
                      · have p6 : decide ((40 : Int) < bn) = true := decide_eq_true (by omega)
                        have p6n : decide (40 < bn) = true := decide_eq_true (by omega)
                        have hbad : badR s.data.toList = true := by unfold badR; rw [HBB.out]; simp [h35, h2, hk0, hk5, h40]
                        have HBAD := Lib.hid hbad
                        clear hbad hk5 hk0 h40 h35 h2l
                        go_wp2
                        refine bodyPost_ret (v := .agg #[.int .i64 0, .int .i64 0, .int .i64 0, .int .i64 2]) (by simp [results, Tryz.results128, go_sem, *]) rfl ⟨(below_set4 HB2.out _ _ _ _).alloc (by simp; omega) _, 0, 0, 2, rfl, fun h => (by rw [HCM.out] at h; cases h), fun _ h => (by rw [HB0.out] at h; cases h), fun _ _ => ⟨fun h => absurd (by rw [HBB.out] at h; exact h) HK2.out, fun _ => by rw [if_pos HBAD.out]; decide⟩⟩
                      · have p6 : decide ((40 : Int) < bn) = false := decide_eq_false (by omega)
                        have p6n : decide (40 < bn) = false := decide_eq_false (by omega)
                        have hbad : badR s.data.toList = false := by unfold badR; rw [HBB.out]; simp [h35, h2, hk0, hk5, h40]
                        have HBAD := Lib.hid hbad
                        clear hbad hk5 hk0 h40 h35 h2l
                        go_wp2
                        refine bodyPost_ret (v := .agg #[.int .i64 bk, .int .i64 0, .int .i64 bn, .int .i64 0]) (by simp [results, Tryz.results128, go_sem, *]) rfl ⟨(below_set4 HB2.out _ _ _ _).alloc (by simp; omega) _, bk, bn, 0, rfl, fun h => (by rw [HCM.out] at h; cases h), fun _ h => (by rw [HB0.out] at h; cases h), fun _ _ => ⟨fun h => absurd (by rw [HBB.out] at h; exact h) HK2.out, fun _ => by rw [if_neg (by rw [HBAD.out]; decide), HBB.out]; exact ⟨rfl, rfl, rfl⟩⟩⟩
              · have r0 : ((byt s.data.toList 0 : Int) == 35) = false := by rw [beq_eq_false_iff_ne]; omega
                by_cases hk0 : bk = 0
                · subst hk0
                  have hbad : badR s.data.toList = true := by unfold badR; rw [HBB.out]; simp [h35]
                  have HBAD := Lib.hid hbad
                  clear hbad h35
                  go_wp2
                  refine bodyPost_ret (v := .agg #[.int .i64 0, .int .i64 0, .int .i64 0, .int .i64 10]) (by simp [results, Tryz.results128, go_sem, *]) rfl ⟨(below_set4 HB2.out _ _ _ _).alloc (by simp; omega) _, 0, 0, 10, rfl, fun h => (by rw [HCM.out] at h; cases h), fun _ h => (by rw [HB0.out] at h; cases h), fun _ _ => ⟨fun h => absurd (by rw [HBB.out] at h; exact h) HK2.out, fun _ => by rw [if_pos HBAD.out]; decide⟩⟩
                · have p0 : ((bk : Int) == 0) = false := by rw [beq_eq_false_iff_ne]; omega
                  by_cases hk5 : bk = 5
                  · have p5 : ((bk : Int) != 5) = false := by rw [bne_eq_false_iff_eq]; omega
                    have hbad : badR s.data.toList = false := by unfold badR; rw [HBB.out]; simp [h35, hk0, hk5]
                    have HBAD := Lib.hid hbad
                    clear hbad hk5 hk0 h35
                    go_wp2
                    refine bodyPost_ret (v := .agg #[.int .i64 bk, .int .i64 0, .int .i64 bn, .int .i64 0]) (by simp [results, Tryz.results128, go_sem, *]) rfl ⟨(below_set4 HB2.out _ _ _ _).alloc (by simp; omega) _, bk, bn, 0, rfl, fun h => (by rw [HCM.out] at h; cases h), fun _ h => (by rw [HB0.out] at h; cases h), fun _ _ => ⟨fun h => absurd (by rw [HBB.out] at h; exact h) HK2.out, fun _ => by rw [if_neg (by rw [HBAD.out]; decide), HBB.out]; exact ⟨rfl, rfl, rfl⟩⟩⟩
                  · have p5 : ((bk : Int) != 5) = true := by rw [bne_iff_ne]; omega
                    by_cases h40 : 40 < bn
                    · have p6 : decide ((40 : Int) < bn) = true := decide_eq_true (by omega)
                      have p6n : decide (40 < bn) = true := decide_eq_true (by omega)
                      have hbad : badR s.data.toList = true := by unfold badR; rw [HBB.out]; simp [h35, hk0, hk5, h40]
                      have HBAD := Lib.hid hbad
                      clear hbad hk5 hk0 h40 h35
                      go_wp2
                      refine bodyPost_ret (v := .agg #[.int .i64 0, .int .i64 0, .int .i64 0, .int .i64 2]) (by simp [results, Tryz.results128, go_sem, *]) rfl ⟨(below_set4 HB2.out _ _ _ _).alloc (by simp; omega) _, 0, 0, 2, rfl, fun h => (by rw [HCM.out] at h; cases h), fun _ h => (by rw [HB0.out] at h; cases h), fun _ _ => ⟨fun h => absurd (by rw [HBB.out] at h; exact h) HK2.out, fun _ => by rw [if_pos HBAD.out]; decide⟩⟩
                    · have p6 : decide ((40 : Int) < bn) = false := decide_eq_false (by omega)
                      have p6n : decide (40 < bn) = false := decide_eq_false (by omega)
                      have hbad : badR s.data.toList = false := by unfold badR; rw [HBB.out]; simp [h35, hk0, hk5, h40]
                      have HBAD := Lib.hid hbad
                      clear hbad hk5 hk0 h40 h35
                      go_wp2
                      refine bodyPost_ret (v := .agg #[.int .i64 bk, .int .i64 0, .int .i64 bn, .int .i64 0]) (by simp [results, Tryz.results128, go_sem, *]) rfl ⟨(below_set4 HB2.out _ _ _ _).alloc (by simp; omega) _, bk, bn, 0, rfl, fun h => (by rw [HCM.out] at h; cases h), fun _ h => (by rw [HB0.out] at h; cases h), fun _ _ => ⟨fun h => absurd (by rw [HBB.out] at h; exact h) HK2.out, fun _ => by rw [if_neg (by rw [HBAD.out]; decide), HBB.out]; exact ⟨rfl, rfl, rfl⟩⟩⟩
          · have HBY := Lib.hid (HN.out (by omega))
            have g3 : decide ((0 : Int) < n) = true := decide_eq_true (by omega)
            have g3n : decide (0 < n) = true := decide_eq_true (by omega)
            clear hbn hq hn0
            go_wp2
            refine bodyPost_ret (v := .agg #[.int .i64 7, .int .i64 0, .int .i64 n, .int .i64 0]) (by simp [results, Tryz.results128, go_sem, *]) rfl ⟨(below_set4 HB1.out _ _ _ _).alloc (by simp; omega) _, 7, n, 0, rfl, fun h => (by rw [HCM.out] at h; cases h), fun _ _ => rfl, fun _ h => (by rw [HBY.out] at h; cases h)⟩
      · have g0 : decide ((n : Int) < s.size) = false := decide_eq_false (by omega)
        have g3 : decide ((0 : Int) < n) = true := decide_eq_true (by omega)
        have g3n : decide (0 < n) = true := decide_eq_true (by omega)
        have HBY := Lib.hid (HN.out (by omega))
        go_wp2_with fail
        refine bodyPost_ret (v := .agg #[.int .i64 7, .int .i64 0, .int .i64 n, .int .i64 0]) (by simp [results, Tryz.results128, go_sem, *]) rfl ⟨(below_set4 HB1.out _ _ _ _).alloc (by simp; omega) _, 7, n, 0, rfl, fun h => (by rw [HCM.out] at h; cases h), fun _ _ => rfl, fun _ h => (by rw [HBY.out] at h; cases h)⟩
end Go.Proofs.YtjnimfnelacceaaGreatDoor
