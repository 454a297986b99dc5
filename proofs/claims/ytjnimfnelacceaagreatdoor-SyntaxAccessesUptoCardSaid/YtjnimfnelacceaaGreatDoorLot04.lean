/- The longest rule. -/
import Derived.Test.YtjnimfnelacceaaGreatDoorLot03
import Derived.Laws.EntriesVeiled
set_option linter.unusedSimpArgs false
set_option linter.unusedVariables false
namespace Go.Proofs.YtjnimfnelacceaaGreatDoor
open Go.RowKit

theorem below_drewN {B : Nat} {a w : World} (h : Below B a w) (n : Nat) : Below B a (w.drewN n) := ⟨h.os, h.tape, h.output, h.size, h.block⟩
theorem below_cell {w w1 : World} (h : Below w.heap.size w w1) {a : Addr} {v : Value} (hc : w.cell? a = some v) : w1.cell? a = some v := (h.cell (World.block_lt_of_cell? w a hc)).trans hc
theorem below_then {w w1 w2 : World} (h : Below w.heap.size w w1) (k : Below w1.heap.size w1 w2) : Below w.heap.size w w2 :=
  h.trans ⟨k.os, k.tape, k.output, k.size, fun i hi => k.block i (Nat.lt_of_lt_of_le hi h.size)⟩
theorem IsTab.below {w w1 : World} {tb : Nat} (h : IsTab w tb) (hb : Below w.heap.size w w1) : IsTab w1 tb := ⟨fun c x hc hx => below_cell hb (h.at_ c x hc hx)⟩
theorem CutAt.lt {w : World} {cb tb : Nat} {s : ByteArray} {p lk la ll : Nat} (h : CutAt w cb tb s p lk la ll) : cb < w.heap.size := World.block_lt_of_cell? w _ h.text
theorem CutAt.below {w w1 : World} {cb tb : Nat} {s : ByteArray} {p lk la ll : Nat} (h : CutAt w cb tb s p lk la ll) (hb : Below w.heap.size w w1) : CutAt w1 cb tb s p lk la ll :=
  ⟨below_cell hb h.text, below_cell hb h.pos, below_cell hb h.tab, below_cell hb h.kind, below_cell hb h.lat, below_cell hb h.llen, fun o => (hb.frozen (p := ⟨cb, o, none⟩) h.lt).trans (h.free o), h.isTab.below hb, h.size, h.le, h.last⟩

/-- The rules, as they lie in a block. -/
structure RulesAt (w : World) (rb : Nat) : Prop where
  k0 : w.cell? ⟨rb, 0, none⟩ = some (.int .i64 1)
  f0 : w.cell? ⟨rb, 1, none⟩ = some (.func (.func 177) #[] #[])
  k1 : w.cell? ⟨rb, 2, none⟩ = some (.int .i64 2)
  f1 : w.cell? ⟨rb, 3, none⟩ = some (.func (.func 178) #[] #[])
  k2 : w.cell? ⟨rb, 4, none⟩ = some (.int .i64 3)
  f2 : w.cell? ⟨rb, 5, none⟩ = some (.func (.func 179) #[] #[])
  k3 : w.cell? ⟨rb, 6, none⟩ = some (.int .i64 4)
  f3 : w.cell? ⟨rb, 7, none⟩ = some (.func (.func 180) #[] #[])
  k4 : w.cell? ⟨rb, 8, none⟩ = some (.int .i64 5)
  f4 : w.cell? ⟨rb, 9, none⟩ = some (.func (.func 181) #[] #[])
  k5 : w.cell? ⟨rb, 10, none⟩ = some (.int .i64 6)
  f5 : w.cell? ⟨rb, 11, none⟩ = some (.func (.func 182) #[] #[])
theorem RulesAt.below {w w1 : World} {rb : Nat} (h : RulesAt w rb) (hb : Below w.heap.size w w1) : RulesAt w1 rb :=
  ⟨below_cell hb h.k0, below_cell hb h.f0, below_cell hb h.k1, below_cell hb h.f1, below_cell hb h.k2, below_cell hb h.f2, below_cell hb h.k3, below_cell hb h.f3, below_cell hb h.k4, below_cell hb h.f4, below_cell hb h.k5, below_cell hb h.f5⟩

def ruleStep (named : Bool) (a : Nat × Nat) (r : Nat × Nat) : Nat × Nat := if named && r.1 != 1 && r.1 != 3 then a else if a.2 < r.2 then r else a
def ruleList (t : List UInt8) (op : Bool) : List (Nat × Nat) := [(1, nameL t), (2, integerL t op), (3, keywordL t), (4, hashL t), (5, signL t), (6, patternL t)]
def longestL (t : List UInt8) (op : Bool) : Nat × Nat := (ruleList t op).foldl (ruleStep (decide (0 < plainL t))) (0, 0)

theorem fold_step {α β : Type} (f : β → α → β) (l : List α) (k : Nat) (x : α) (b r : β) (h : (l.take k).foldl f b = r) (hk : l[k]? = some x) : (l.take (k + 1)).foldl f b = f r x := by
  rw [List.take_add_one, hk, List.foldl_append, h]; rfl

set_option maxHeartbeats 400000 in
theorem rules_any (w : World) : Calls Tryz.prog 147 #[] w fun e w' => e = .returned (.slice (some ⟨w.heap.size, 0, none⟩) 6 6) ∧ Below w.heap.size w w' ∧ RulesAt w' w.heap.size := by
  go_enter Tryz.func147, Tryz.ntmps147
  go_wp2
  go_ret
  exact ⟨rfl, (Below.refl _ _).alloc (Nat.le_refl _) _, by constructor <;> simp [go_sem]⟩

section
variable (cb tb : Nat) (s t : ByteArray) (p lk la ll : Nat) (w : World) (h : CutAt w cb tb s p lk la ll) (hs : t.size ≤ 1000000)
include h hs
theorem rule_name : Calls Tryz.prog 177 #[.pointer (some ⟨cb, 0, none⟩), .string t] w fun e w' => e = .returned (.int .i64 (nameL t.data.toList : Nat)) ∧ Below w.heap.size w w' := by
  refine (name_any cb tb t w hs h.tab h.isTab).mono ?_
  rintro e w' ⟨rfl, n, rfl⟩
  exact ⟨rfl, below_drewN (Below.refl _ _) n⟩
theorem rule_integer : Calls Tryz.prog 178 #[.pointer (some ⟨cb, 0, none⟩), .string t] w fun e w' => e = .returned (.int .i64 (integerL t.data.toList (operL lk ((s.data.toList.drop la).take ll)) : Nat)) ∧ Below w.heap.size w w' := by
  refine (integer_any cb tb s t p lk la ll w h hs).mono ?_
  rintro e w' ⟨rfl, n, rfl⟩
  exact ⟨rfl, below_drewN (Below.refl _ _) n⟩
theorem rule_keyword : Calls Tryz.prog 179 #[.pointer (some ⟨cb, 0, none⟩), .string t] w fun e w' => e = .returned (.int .i64 (keywordL t.data.toList : Nat)) ∧ Below w.heap.size w w' := by
  refine (keyword_any cb tb t w hs h.tab h.isTab).mono ?_
  rintro e w' ⟨rfl, n, rfl⟩
  exact ⟨rfl, below_drewN (Below.refl _ _) n⟩
theorem rule_hash : Calls Tryz.prog 180 #[.pointer (some ⟨cb, 0, none⟩), .string t] w fun e w' => e = .returned (.int .i64 (hashL t.data.toList : Nat)) ∧ Below w.heap.size w w' := by
  have := h
  have := hs
  refine (hash_any cb t w).mono ?_
  rintro e w' ⟨rfl, rfl⟩
  exact ⟨rfl, Below.refl _ _⟩
theorem rule_sign : Calls Tryz.prog 181 #[.pointer (some ⟨cb, 0, none⟩), .string t] w fun e w' => e = .returned (.int .i64 (signL t.data.toList : Nat)) ∧ Below w.heap.size w w' := by
  have := h
  exact sign_any cb t w hs
theorem rule_pattern : Calls Tryz.prog 182 #[.pointer (some ⟨cb, 0, none⟩), .string t] w fun e w' => e = .returned (.int .i64 (patternL t.data.toList : Nat)) ∧ Below w.heap.size w w' := by
  refine (pattern_any cb tb t w hs h.tab h.isTab).mono ?_
  rintro e w' ⟨rfl, n, rfl⟩
  exact ⟨rfl, below_drewN (Below.refl _ _) n⟩
end

set_option maxHeartbeats 8000000 in
set_option maxRecDepth 100000 in
theorem longest_any (cb tb rb : Nat) (s : ByteArray) (p lk la ll : Nat) (w : World) (h : CutAt w cb tb s p lk la ll) (hR : RulesAt w rb) :
    Calls Tryz.prog 185 #[.pointer (some ⟨cb, 0, none⟩), .slice (some ⟨rb, 0, none⟩) 6 6] w fun e w' =>
      e = .returned (.tuple #[.int .i64 ((longestL ((s.data.toList.drop p).take 100) (operL lk ((s.data.toList.drop la).take ll))).1 : Nat), .int .i64 ((longestL ((s.data.toList.drop p).take 100) (operL lk ((s.data.toList.drop la).take ll))).2 : Nat)]) ∧ Below w.heap.size w w' := by
  have hsz : s.size ≤ 20000 := h.size
  have ha := ahead_any cb s p w h.text h.pos h.le (by omega)
  have hte : (s.extract p (min s.size (p + 100))).data.toList = (s.data.toList.drop p).take 100 := by
    rw [Lib.extract_data]
    by_cases hm : s.size ≤ p + 100
    · rw [Nat.min_eq_left hm, List.take_of_length_le (by rw [List.length_drop, len_data]; omega), List.take_of_length_le (by rw [List.length_drop, len_data]; omega)]
    · rw [Nat.min_eq_right (by omega), Nat.add_sub_cancel_left]
  have hts : (s.extract p (min s.size (p + 100))).size ≤ 1000000 := by rw [ByteArray.size_extract]; omega
  rw [← hte]
  generalize s.extract p (min s.size (p + 100)) = t at *
  generalize ho : operL lk ((s.data.toList.drop la).take ll) = op
  generalize hrl : ruleList t.data.toList op = rl
  have hlong : longestL t.data.toList op = rl.foldl (ruleStep (decide (0 < plainL t.data.toList))) (0, 0) := by unfold longestL; rw [hrl]
  have hpl := fun n => plain_any cb tb t (w.drewN n) (by omega) (h.drewN n).tab (h.drewN n).isTab
  generalize plainL t.data.toList = pn at *
  have HA := Lib.hid ha
  have HP := Lib.hid hpl
  have HC := Lib.hid h
  have HR := Lib.hid hR
  have HL := Lib.hid hlong
  have HRL := Lib.hid hrl
  have HO := Lib.hid ho
  clear ha hpl h hR hlong hrl ho hte
  have nm : ∃ named : Bool, decide (0 < pn) = named := ⟨_, rfl⟩
  obtain ⟨named, hnm⟩ := nm
  have HN := Lib.hid hnm
  go_enter Tryz.func185, Tryz.ntmps185
  go_wp2_with fail
  refine HA.out.mono ?_
  rintro e w' ⟨rfl, m0, rfl⟩
  go_wp2_with fail
  refine (HP.out _).mono ?_
  rintro e w' ⟨rfl, m1, rfl⟩
  go_wp2_with fail
  clear hnm
  have HC1 := Lib.hid (HC.out.drewN (m0 + m1))
  have HR1 := Lib.hid (HR.out.below (below_drewN (Below.refl _ _) (m0 + m1)))
  have HB1 := Lib.hid (below_drewN (Below.refl w.heap.size w) (m0 + m1))
  generalize hW : w.drewN (m0 + m1) = W at *
  clear hW
  go_loopw [4, 5, 9, 10, 21] (fun v4 v5 _ _ v21 wr => ∃ (k : Nat) (r : Nat × Nat), k ≤ 6 ∧ v4 = .int .i64 (r.1 : Nat) ∧ v5 = .int .i64 (r.2 : Nat) ∧ v21 = .int .i64 k ∧ Hid ((rl.take k).foldl (ruleStep named) (0, 0) = r) ∧ Hid (CutAt wr cb tb s p lk la ll) ∧ Hid (RulesAt wr rb) ∧ Hid (Below w.heap.size w wr)) (fun _ _ _ _ v21 _ => 6 - (intOf v21).toNat)
  case atStart => exact ⟨0, (0, 0), by omega, rfl, rfl, rfl, rfl, HC1, HR1, HB1⟩
  case round =>
    clear HC1 HR1 HB1 HA HP HC HR
    obtain ⟨k, ⟨kd, n⟩, hk, rfl, rfl, rfl, HF, HCk, HRk, HBk⟩ := hrel
    have hlt : rb < wr.heap.size := World.block_lt_of_cell? wr _ HRk.out.k0
    rcases (by omega : k = 0 ∨ k = 1 ∨ k = 2 ∨ k = 3 ∨ k = 4 ∨ k = 5 ∨ k = 6) with rfl | rfl | rfl | rfl | rfl | rfl | rfl
    · have c0 := HRk.out.k0
      have c1 := HRk.out.f0
      have HE : Hid (rl[0]? = some (1, nameL t.data.toList)) := by rw [← HRL.out]; rfl
      cases named
      all_goals
          go_wp2_with fail
          refine (rule_name cb tb s t p lk la ll _ (HCk.out.below (((Below.refl _ _).alloc (Nat.le_refl _) _))) hts).mono ?_
          rintro e w' ⟨rfl, hX⟩
          skip
          have hcell : w'.cell? ⟨wr.heap.size, 0, none⟩ = some (.int .i64 1) := below_cell hX (by simp [go_sem])
          have HX := Lib.hid (below_then ((Below.refl wr.heap.size wr).alloc (Nat.le_refl _) _) hX)
          clear hX
          generalize hv : nameL t.data.toList = v at *
          clear hv
          by_cases hvn : n < v
          · have hvn' : (n : Int) < v := by omega
            have HS := Lib.hid (fold_step _ _ _ _ _ _ HF.out HE.out)
            rw [show ruleStep _ (kd, n) (1, v) = (1, v) from by unfold ruleStep; rw [if_neg (by simp), if_pos hvn]] at HS
            go_wp2
            go_roundw
            case rel => exact ⟨1, (1, v), by omega, rfl, rfl, by go_num, HS, Lib.hid (HCk.out.below HX.out), Lib.hid (HRk.out.below HX.out), Lib.hid (below_then HBk.out HX.out)⟩
            case measure => simp [intOf]
          · have hvn' : ¬ (n : Int) < v := by omega
            have HS := Lib.hid (fold_step _ _ _ _ _ _ HF.out HE.out)
            rw [show ruleStep _ (kd, n) (1, v) = (kd, n) from by unfold ruleStep; rw [if_neg (by simp), if_neg hvn]] at HS
            go_wp2
            go_roundw
            case rel => exact ⟨1, (kd, n), by omega, rfl, rfl, by go_num, HS, Lib.hid (HCk.out.below HX.out), Lib.hid (HRk.out.below HX.out), Lib.hid (below_then HBk.out HX.out)⟩
            case measure => simp [intOf]
    · have c0 := HRk.out.k1
      have c1 := HRk.out.f1
      have HE : Hid (rl[1]? = some (2, integerL t.data.toList op)) := by rw [← HRL.out]; rfl
      cases named
      · go_wp2_with fail
        refine (rule_integer cb tb s t p lk la ll _ (HCk.out.below (((Below.refl _ _).alloc (Nat.le_refl _) _))) hts).mono ?_
        rintro e w' ⟨rfl, hX⟩
        rw [HO.out]
        have hcell : w'.cell? ⟨wr.heap.size, 0, none⟩ = some (.int .i64 2) := below_cell hX (by simp [go_sem])
        have HX := Lib.hid (below_then ((Below.refl wr.heap.size wr).alloc (Nat.le_refl _) _) hX)
        clear hX
        generalize hv : integerL t.data.toList op = v at *
        clear hv
        by_cases hvn : n < v
        · have hvn' : (n : Int) < v := by omega
          have HS := Lib.hid (fold_step _ _ _ _ _ _ HF.out HE.out)
          rw [show ruleStep false (kd, n) (2, v) = (2, v) from by unfold ruleStep; rw [if_neg (by simp), if_pos hvn]] at HS
          go_wp2
          go_roundw
          case rel => exact ⟨2, (2, v), by omega, rfl, rfl, by go_num, HS, Lib.hid (HCk.out.below HX.out), Lib.hid (HRk.out.below HX.out), Lib.hid (below_then HBk.out HX.out)⟩
          case measure => simp [intOf]
        · have hvn' : ¬ (n : Int) < v := by omega
          have HS := Lib.hid (fold_step _ _ _ _ _ _ HF.out HE.out)
          rw [show ruleStep false (kd, n) (2, v) = (kd, n) from by unfold ruleStep; rw [if_neg (by simp), if_neg hvn]] at HS
          go_wp2
          go_roundw
          case rel => exact ⟨2, (kd, n), by omega, rfl, rfl, by go_num, HS, Lib.hid (HCk.out.below HX.out), Lib.hid (HRk.out.below HX.out), Lib.hid (below_then HBk.out HX.out)⟩
          case measure => simp [intOf]
      · have HX := Lib.hid ((Below.refl wr.heap.size wr).alloc (Nat.le_refl _) (.cells #[.int .i64 2, .func (.func 178) #[] #[]] 250))
        have HS := Lib.hid (fold_step _ _ _ _ _ _ HF.out HE.out)
        rw [show ruleStep true (kd, n) (2, integerL t.data.toList op) = (kd, n) from by unfold ruleStep; rw [if_pos (by simp)]] at HS
        go_wp2
        go_roundw
        case rel => exact ⟨2, (kd, n), by omega, rfl, rfl, by go_num, HS, Lib.hid (HCk.out.below HX.out), Lib.hid (HRk.out.below HX.out), Lib.hid (below_then HBk.out HX.out)⟩
        case measure => simp [intOf]
    · have c0 := HRk.out.k2
      have c1 := HRk.out.f2
      have HE : Hid (rl[2]? = some (3, keywordL t.data.toList)) := by rw [← HRL.out]; rfl
      cases named
      all_goals
          go_wp2_with fail
          refine (rule_keyword cb tb s t p lk la ll _ (HCk.out.below (((Below.refl _ _).alloc (Nat.le_refl _) _))) hts).mono ?_
          rintro e w' ⟨rfl, hX⟩
          skip
          have hcell : w'.cell? ⟨wr.heap.size, 0, none⟩ = some (.int .i64 3) := below_cell hX (by simp [go_sem])
          have HX := Lib.hid (below_then ((Below.refl wr.heap.size wr).alloc (Nat.le_refl _) _) hX)
          clear hX
          generalize hv : keywordL t.data.toList = v at *
          clear hv
          by_cases hvn : n < v
          · have hvn' : (n : Int) < v := by omega
            have HS := Lib.hid (fold_step _ _ _ _ _ _ HF.out HE.out)
            rw [show ruleStep _ (kd, n) (3, v) = (3, v) from by unfold ruleStep; rw [if_neg (by simp), if_pos hvn]] at HS
            go_wp2
            go_roundw
            case rel => exact ⟨3, (3, v), by omega, rfl, rfl, by go_num, HS, Lib.hid (HCk.out.below HX.out), Lib.hid (HRk.out.below HX.out), Lib.hid (below_then HBk.out HX.out)⟩
            case measure => simp [intOf]
          · have hvn' : ¬ (n : Int) < v := by omega
            have HS := Lib.hid (fold_step _ _ _ _ _ _ HF.out HE.out)
            rw [show ruleStep _ (kd, n) (3, v) = (kd, n) from by unfold ruleStep; rw [if_neg (by simp), if_neg hvn]] at HS
            go_wp2
            go_roundw
            case rel => exact ⟨3, (kd, n), by omega, rfl, rfl, by go_num, HS, Lib.hid (HCk.out.below HX.out), Lib.hid (HRk.out.below HX.out), Lib.hid (below_then HBk.out HX.out)⟩
            case measure => simp [intOf]
    · have c0 := HRk.out.k3
      have c1 := HRk.out.f3
      have HE : Hid (rl[3]? = some (4, hashL t.data.toList)) := by rw [← HRL.out]; rfl
      cases named
      · go_wp2_with fail
        refine (rule_hash cb tb s t p lk la ll _ (HCk.out.below (((Below.refl _ _).alloc (Nat.le_refl _) _))) hts).mono ?_
        rintro e w' ⟨rfl, hX⟩
        skip
        have hcell : w'.cell? ⟨wr.heap.size, 0, none⟩ = some (.int .i64 4) := below_cell hX (by simp [go_sem])
        have HX := Lib.hid (below_then ((Below.refl wr.heap.size wr).alloc (Nat.le_refl _) _) hX)
        clear hX
        generalize hv : hashL t.data.toList = v at *
        clear hv
        by_cases hvn : n < v
        · have hvn' : (n : Int) < v := by omega
          have HS := Lib.hid (fold_step _ _ _ _ _ _ HF.out HE.out)
          rw [show ruleStep false (kd, n) (4, v) = (4, v) from by unfold ruleStep; rw [if_neg (by simp), if_pos hvn]] at HS
          go_wp2
          go_roundw
          case rel => exact ⟨4, (4, v), by omega, rfl, rfl, by go_num, HS, Lib.hid (HCk.out.below HX.out), Lib.hid (HRk.out.below HX.out), Lib.hid (below_then HBk.out HX.out)⟩
          case measure => simp [intOf]
        · have hvn' : ¬ (n : Int) < v := by omega
          have HS := Lib.hid (fold_step _ _ _ _ _ _ HF.out HE.out)
          rw [show ruleStep false (kd, n) (4, v) = (kd, n) from by unfold ruleStep; rw [if_neg (by simp), if_neg hvn]] at HS
          go_wp2
          go_roundw
          case rel => exact ⟨4, (kd, n), by omega, rfl, rfl, by go_num, HS, Lib.hid (HCk.out.below HX.out), Lib.hid (HRk.out.below HX.out), Lib.hid (below_then HBk.out HX.out)⟩
          case measure => simp [intOf]
      · have HX := Lib.hid ((Below.refl wr.heap.size wr).alloc (Nat.le_refl _) (.cells #[.int .i64 4, .func (.func 180) #[] #[]] 250))
        have HS := Lib.hid (fold_step _ _ _ _ _ _ HF.out HE.out)
        rw [show ruleStep true (kd, n) (4, hashL t.data.toList) = (kd, n) from by unfold ruleStep; rw [if_pos (by simp)]] at HS
        go_wp2
        go_roundw
        case rel => exact ⟨4, (kd, n), by omega, rfl, rfl, by go_num, HS, Lib.hid (HCk.out.below HX.out), Lib.hid (HRk.out.below HX.out), Lib.hid (below_then HBk.out HX.out)⟩
        case measure => simp [intOf]
    · have c0 := HRk.out.k4
      have c1 := HRk.out.f4
      have HE : Hid (rl[4]? = some (5, signL t.data.toList)) := by rw [← HRL.out]; rfl
      cases named
      · go_wp2_with fail
        refine (rule_sign cb tb s t p lk la ll _ (HCk.out.below (((Below.refl _ _).alloc (Nat.le_refl _) _))) hts).mono ?_
        rintro e w' ⟨rfl, hX⟩
        skip
        have hcell : w'.cell? ⟨wr.heap.size, 0, none⟩ = some (.int .i64 5) := below_cell hX (by simp [go_sem])
        have HX := Lib.hid (below_then ((Below.refl wr.heap.size wr).alloc (Nat.le_refl _) _) hX)
        clear hX
        generalize hv : signL t.data.toList = v at *
        clear hv
        by_cases hvn : n < v
        · have hvn' : (n : Int) < v := by omega
          have HS := Lib.hid (fold_step _ _ _ _ _ _ HF.out HE.out)
          rw [show ruleStep false (kd, n) (5, v) = (5, v) from by unfold ruleStep; rw [if_neg (by simp), if_pos hvn]] at HS
          go_wp2
          go_roundw
          case rel => exact ⟨5, (5, v), by omega, rfl, rfl, by go_num, HS, Lib.hid (HCk.out.below HX.out), Lib.hid (HRk.out.below HX.out), Lib.hid (below_then HBk.out HX.out)⟩
          case measure => simp [intOf]
        · have hvn' : ¬ (n : Int) < v := by omega
          have HS := Lib.hid (fold_step _ _ _ _ _ _ HF.out HE.out)
          rw [show ruleStep false (kd, n) (5, v) = (kd, n) from by unfold ruleStep; rw [if_neg (by simp), if_neg hvn]] at HS
          go_wp2
          go_roundw
          case rel => exact ⟨5, (kd, n), by omega, rfl, rfl, by go_num, HS, Lib.hid (HCk.out.below HX.out), Lib.hid (HRk.out.below HX.out), Lib.hid (below_then HBk.out HX.out)⟩
          case measure => simp [intOf]
      · have HX := Lib.hid ((Below.refl wr.heap.size wr).alloc (Nat.le_refl _) (.cells #[.int .i64 5, .func (.func 181) #[] #[]] 250))
        have HS := Lib.hid (fold_step _ _ _ _ _ _ HF.out HE.out)
        rw [show ruleStep true (kd, n) (5, signL t.data.toList) = (kd, n) from by unfold ruleStep; rw [if_pos (by simp)]] at HS
        go_wp2
        go_roundw
        case rel => exact ⟨5, (kd, n), by omega, rfl, rfl, by go_num, HS, Lib.hid (HCk.out.below HX.out), Lib.hid (HRk.out.below HX.out), Lib.hid (below_then HBk.out HX.out)⟩
        case measure => simp [intOf]
    · have c0 := HRk.out.k5
      have c1 := HRk.out.f5
      have HE : Hid (rl[5]? = some (6, patternL t.data.toList)) := by rw [← HRL.out]; rfl
      cases named
      · go_wp2_with fail
        refine (rule_pattern cb tb s t p lk la ll _ (HCk.out.below (((Below.refl _ _).alloc (Nat.le_refl _) _))) hts).mono ?_
        rintro e w' ⟨rfl, hX⟩
        skip
        have hcell : w'.cell? ⟨wr.heap.size, 0, none⟩ = some (.int .i64 6) := below_cell hX (by simp [go_sem])
        have HX := Lib.hid (below_then ((Below.refl wr.heap.size wr).alloc (Nat.le_refl _) _) hX)
        clear hX
        generalize hv : patternL t.data.toList = v at *
        clear hv
        by_cases hvn : n < v
        · have hvn' : (n : Int) < v := by omega
          have HS := Lib.hid (fold_step _ _ _ _ _ _ HF.out HE.out)
          rw [show ruleStep false (kd, n) (6, v) = (6, v) from by unfold ruleStep; rw [if_neg (by simp), if_pos hvn]] at HS
          go_wp2
          go_roundw
          case rel => exact ⟨6, (6, v), by omega, rfl, rfl, by go_num, HS, Lib.hid (HCk.out.below HX.out), Lib.hid (HRk.out.below HX.out), Lib.hid (below_then HBk.out HX.out)⟩
          case measure => simp [intOf]
        · have hvn' : ¬ (n : Int) < v := by omega
          have HS := Lib.hid (fold_step _ _ _ _ _ _ HF.out HE.out)
          rw [show ruleStep false (kd, n) (6, v) = (kd, n) from by unfold ruleStep; rw [if_neg (by simp), if_neg hvn]] at HS
          go_wp2
          go_roundw
          case rel => exact ⟨6, (kd, n), by omega, rfl, rfl, by go_num, HS, Lib.hid (HCk.out.below HX.out), Lib.hid (HRk.out.below HX.out), Lib.hid (below_then HBk.out HX.out)⟩
          case measure => simp [intOf]
      · have HX := Lib.hid ((Below.refl wr.heap.size wr).alloc (Nat.le_refl _) (.cells #[.int .i64 6, .func (.func 182) #[] #[]] 250))
        have HS := Lib.hid (fold_step _ _ _ _ _ _ HF.out HE.out)
        rw [show ruleStep true (kd, n) (6, patternL t.data.toList) = (kd, n) from by unfold ruleStep; rw [if_pos (by simp)]] at HS
        go_wp2
        go_roundw
        case rel => exact ⟨6, (kd, n), by omega, rfl, rfl, by go_num, HS, Lib.hid (HCk.out.below HX.out), Lib.hid (HRk.out.below HX.out), Lib.hid (below_then HBk.out HX.out)⟩
        case measure => simp [intOf]
    · have hfin : longestL t.data.toList op = (kd, n) := by
        rw [HL.out, HN.out, ← HF.out, List.take_of_length_le (by rw [← HRL.out]; exact Nat.le_refl 6)]
      have HFIN := Lib.hid hfin
      clear hfin
      go_wp2
      go_ret2
      exact ⟨by rw [HFIN.out]; rfl, HBk.out⟩
end Go.Proofs.YtjnimfnelacceaaGreatDoor
