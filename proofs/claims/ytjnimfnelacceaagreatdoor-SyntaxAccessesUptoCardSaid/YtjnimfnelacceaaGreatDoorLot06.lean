/- The cutter's check of a token that was taken. -/
import Derived.Test.YtjnimfnelacceaaGreatDoorLot05
set_option linter.unusedSimpArgs false
set_option linter.unusedVariables false
namespace Go.Proofs.YtjnimfnelacceaaGreatDoor
open Go.RowKit

def endU (p : Nat) : Option Nat → Ending
  | none => .returned (.tuple #[])
  | some er => .panicked [{ v := wrongV p er, recovered := false }]
def nextB (l : List UInt8) (k : Nat) : Nat := match l.drop k with | b :: _ => b.toNat | [] => 0
def checkL (l : List UInt8) (p kind n : Nat) : Option Nat :=
  if kind = 2 then
    (if (valueL ((l.drop p).take n)).2 = false then some 11 else if 100 ≤ n then some 11 else if clsL (nextB l (p + n)) = true then some 11
      else if nextB l (p + n) = 0 then none else if (0 : Int) ≤ Lib.indexByte [95, 63, 33, 36] (nextB l (p + n)).toUInt8 then some 11 else none)
  else if kind = 4 then (if clsW (nextB l (p + n)) = true then some 12 else none)
  else if kind = 1 ∨ kind = 3 ∨ kind = 6 then (if 40 < n then some 2 else none)
  else if kind = 0 then (if Lib.hasPrefix (l.drop p) [35] then some 12 else some 10)
  else none
theorem nextB_lt (l : List UInt8) (k : Nat) : nextB l k < 256 := by
  unfold nextB
  split
  · rename_i b _ _
    exact b.toNat_lt
  · omega
theorem nextB_some (s : ByteArray) (k : Nat) (h : k < s.size) : nextB s.data.toList k = s[k].toNat := by unfold nextB; rw [drop_data s k h]
theorem nextB_none (s : ByteArray) (k : Nat) (h : ¬ k < s.size) : nextB s.data.toList k = 0 := by unfold nextB; rw [List.drop_of_length_le (by rw [len_data]; omega)]
theorem byte_is' (t : ByteArray) (c : Nat) (r : Int) (h : Lib.indexByte t.data.toList c.toUInt8 = r) (x : Int) (hx : x = c) (w : World) :
    Calls Tryz.prog 145 #[.string t, .int .u8 x] w fun e w' => e = .returned (.int .i64 r) ∧ w' = w := by subst hx; exact byte_is t c r h w

theorem starts_is (cb : Nat) (s pf : ByteArray) (k : Nat) (b : Bool) (hb : Lib.hasPrefix (s.data.toList.drop k) pf.data.toList = b) (w : World) {tb lk la ll : Nat} (h : CutAt w cb tb s k lk la ll) :
    Calls Tryz.prog 183 #[.pointer (some ⟨cb, 0, none⟩), .string pf] w fun e w' => e = .returned (.bool b) ∧ ∃ n, w' = w.drewN n := by
  rw [← hb]; exact starts_any cb s pf k w h.text h.pos h.le (by have := h.size; omega)

set_option maxRecDepth 100000 in
set_option maxHeartbeats 16000000 in
theorem check_any (cb tb : Nat) (s : ByteArray) (p lk la ll kind n : Nat) (w : World) (h : CutAt w cb tb s p lk la ll) (hE : Env w) (hk : kind ≤ 6) (hn : p + n ≤ s.size) :
    Calls Tryz.prog 186 #[.pointer (some ⟨cb, 0, none⟩), .int .i64 kind, .int .i64 n] w fun e w' => e = endU p (checkL s.data.toList p kind n) ∧ Below w.heap.size w w' := by
  have h0 := h.text
  have h1 := h.pos
  have h2 := h.tab
  have hle := h.le
  have hsz := h.size
  have i0 : (0 : Int) ≤ p := by omega
  have i1 : (p : Int) ≤ p + n := by omega
  have i2 : (p : Int) + n ≤ s.size := by omega
  have hval := fun w hE => value_any (s.extract p (p + n)) w (by rw [ByteArray.size_extract]; omega) hE
  rw [Lib.extract_data, Nat.add_sub_cancel_left] at hval
  have hstart := fun pf w => starts_any cb s pf p w
  have hfail := fun er w => fail_any (w := w) cb p er
  have hidx := fun r (h : Lib.indexByte [95, 63, 33, 36] (nextB s.data.toList (p + n)).toUInt8 = r) => byte_is' ⟨#[95, 63, 33, 36]⟩ (nextB s.data.toList (p + n)) r h
  have hb := nextB_lt s.data.toList (p + n)
  have HV := Lib.hid hval
  have HS := Lib.hid hstart
  have HF := Lib.hid hfail
  have HI := Lib.hid hidx
  have HC := Lib.hid h
  have HE := Lib.hid hE
  clear hval hstart hfail hidx h hE
  generalize hx1 : valueL ((s.data.toList.drop p).take n) = vv at *
  obtain ⟨v1, v2⟩ := vv
  have HX1 := Lib.hid hx1
  clear hx1
  by_cases hnx : p + n < s.size
  · have d1 : decide ((p : Int) + n < s.size) = true := by simp; omega
    have d2 : (p : Int) + n < s.size := by omega
    have d3 : (0 : Int) ≤ (p : Int) + n := by omega
    have hnb := nextB_some s (p + n) hnx
    rcases (by omega : kind = 0 ∨ kind = 1 ∨ kind = 2 ∨ kind = 3 ∨ kind = 4 ∨ kind = 5 ∨ kind = 6) with rfl | rfl | rfl | rfl | rfl | rfl | rfl
    · cases hx : Lib.hasPrefix (s.data.toList.drop p) [35]
      · have HX := Lib.hid hx
        have HCK := Lib.hid (show checkL s.data.toList p 0 n = some 10 from by unfold checkL; simp [hx])
        clear hx
        go_enter Tryz.func186, Tryz.ntmps186
        go_wp2
        go_quiet (fail)
        go_wp2
        go_quiet (fail)
        go_wp2
        go_quiet (fail)
        go_wp2_with fail
        refine (starts_is cb s ⟨#[35]⟩ p false (by exact HX.out) _ (HC.out.drewN _)).mono ?_
        rintro e w' ⟨rfl, m9, rfl⟩
        go_wp2_with fail
        refine (HF.out _ _ (HC.out.drewN _).pos).mono ?_
        rintro e w' ⟨rfl, rfl⟩
        exact ⟨rfl, by rw [HCK.out]; rfl, below_drewN (Below.refl _ _) _⟩
      · have HX := Lib.hid hx
        have HCK := Lib.hid (show checkL s.data.toList p 0 n = some 12 from by unfold checkL; simp [hx])
        clear hx
        go_enter Tryz.func186, Tryz.ntmps186
        go_wp2
        go_quiet (fail)
        go_wp2
        go_quiet (fail)
        go_wp2
        go_quiet (fail)
        go_wp2_with fail
        refine (starts_is cb s ⟨#[35]⟩ p true (by exact HX.out) _ (HC.out.drewN _)).mono ?_
        rintro e w' ⟨rfl, m9, rfl⟩
        go_wp2_with fail
        refine (HF.out _ _ (HC.out.drewN _).pos).mono ?_
        rintro e w' ⟨rfl, rfl⟩
        exact ⟨rfl, by rw [HCK.out]; rfl, below_drewN (Below.refl _ _) _⟩
    · by_cases hgt : 40 < n
      · have hgt' : (40 : Int) < n := by omega
        have HCK := Lib.hid (show checkL s.data.toList p 1 n = some 2 from by unfold checkL; simp [hgt])
        go_enter Tryz.func186, Tryz.ntmps186
        go_wp2
        go_quiet (fail)
        go_wp2
        go_quiet (fail)
        go_wp2
        go_quiet (fail)
        go_wp2_with fail
        refine (HF.out _ _ (HC.out.drewN _).pos).mono ?_
        rintro e w' ⟨rfl, rfl⟩
        exact ⟨rfl, by rw [HCK.out]; rfl, below_drewN (Below.refl _ _) _⟩
      · have hgt' : ¬ (40 : Int) < n := by omega
        have HCK := Lib.hid (show checkL s.data.toList p 1 n = none from by unfold checkL; simp; omega)
        go_enter Tryz.func186, Tryz.ntmps186
        go_wp2
        go_quiet (fail)
        go_wp2
        go_quiet (fail)
        go_wp2
        go_quiet (fail)
        go_wp2
        first | go_end0 | refine bodyPost_ret (results_none rfl _ _ _) rfl ?_
        exact ⟨by rw [HCK.out]; rfl, below_drewN (Below.refl _ _) _⟩
    · cases v2
      · have HCK := Lib.hid (show checkL s.data.toList p 2 n = some 11 from by unfold checkL; simp [HX1.out])
        go_enter Tryz.func186, Tryz.ntmps186
        go_wp2
        go_quiet (fail)
        go_wp2
        go_quiet (fail)
        go_wp2
        go_quiet (fail)
        go_wp2_with fail
        refine (HV.out _ (HE.out.below (below_drewN (Below.refl _ _) _))).mono ?_
        rintro e w' ⟨rfl, hB⟩
        have HB := Lib.hid (below_then (below_drewN (Below.refl w.heap.size w) _) hB)
        clear hB
        have HC2 := Lib.hid (HC.out.below HB.out)
        go_wp2_with fail
        refine (HF.out _ _ HC2.out.pos).mono ?_
        rintro e w' ⟨rfl, rfl⟩
        exact ⟨rfl, by rw [HCK.out]; rfl, HB.out⟩
      · by_cases hg : 100 ≤ n
        · have hg' : (100 : Int) ≤ n := by omega
          have HCK := Lib.hid (show checkL s.data.toList p 2 n = some 11 from by unfold checkL; simp [HX1.out, hg])
          go_enter Tryz.func186, Tryz.ntmps186
          go_wp2
          go_quiet (fail)
          go_wp2
          go_quiet (fail)
          go_wp2
          go_quiet (fail)
          go_wp2_with fail
          refine (HV.out _ (HE.out.below (below_drewN (Below.refl _ _) _))).mono ?_
          rintro e w' ⟨rfl, hB⟩
          have HB := Lib.hid (below_then (below_drewN (Below.refl w.heap.size w) _) hB)
          clear hB
          have HC2 := Lib.hid (HC.out.below HB.out)
          go_wp2_with fail
          refine (HF.out _ _ HC2.out.pos).mono ?_
          rintro e w' ⟨rfl, rfl⟩
          exact ⟨rfl, by rw [HCK.out]; rfl, HB.out⟩
        · have hg' : ¬ (100 : Int) ≤ n := by omega
          cases hL : clsL s[p + n].toNat
          · by_cases hz : s[p + n].toNat = 0
            · have hz' : ((s[p + n].toNat : Int) != 0) = false := by rw [hz]; rfl
              have HCK := Lib.hid (show checkL s.data.toList p 2 n = none from by unfold checkL; rw [hnb]; simp [HX1.out, hz, hg, show clsL 0 = false from by decide])
              have b1 : (s[p + n].toNat : Int) < 256 := by have := s[p + n].toNat_lt; omega
              have b2 : s[p + n].toNat < 256 := by omega
              have HLf := Lib.hid hL
              clear hnb hz hL
              go_enter Tryz.func186, Tryz.ntmps186
              go_wp2
              go_quiet (fail)
              go_wp2
              go_quiet (fail)
              go_wp2
              go_quiet (fail)
              go_wp2_with fail
              refine (HV.out _ (HE.out.below (below_drewN (Below.refl _ _) _))).mono ?_
              rintro e w' ⟨rfl, hB⟩
              have HB := Lib.hid (below_then (below_drewN (Below.refl w.heap.size w) _) hB)
              clear hB
              have HC2 := Lib.hid (HC.out.below HB.out)
              have g1 := HC2.out.pos
              have g2 := HC2.out.tab
              have t0 := HC2.out.isTab.at_ 0 s[p + n].toNat (by omega) b2
              simp only [cls, Nat.zero_mul, Nat.zero_add, HLf.out] at t0
              generalize s[p + n] = bb at *
              go_wp2
              first | go_end0 | refine bodyPost_ret (results_none rfl _ _ _) rfl ?_
              exact ⟨by rw [HCK.out]; rfl, HB.out⟩
            · have hz' : ((s[p + n].toNat : Int) != 0) = true := by rw [bne_iff_ne]; omega
              obtain ⟨r, hr⟩ : ∃ r, Lib.indexByte [95, 63, 33, 36] (nextB s.data.toList (p + n)).toUInt8 = r := ⟨_, rfl⟩
              have hi2 := HI.out r hr (s[p + n].toNat : Int) (by rw [hnb])
              have HI2 := Lib.hid hi2
              have HLf := Lib.hid hL
              have b1 : (s[p + n].toNat : Int) < 256 := by have := s[p + n].toNat_lt; omega
              have b2 : s[p + n].toNat < 256 := by omega
              by_cases hr0 : (0 : Int) ≤ r
              · have HCK := Lib.hid (show checkL s.data.toList p 2 n = some 11 from by unfold checkL; rw [hr, hnb]; simp [HX1.out, hL, hz, hr0])
                clear hnb hz hL hi2 hr
                go_enter Tryz.func186, Tryz.ntmps186
                go_wp2
                go_quiet (fail)
                go_wp2
                go_quiet (fail)
                go_wp2
                go_quiet (fail)
                go_wp2_with fail
                refine (HV.out _ (HE.out.below (below_drewN (Below.refl _ _) _))).mono ?_
                rintro e w' ⟨rfl, hB⟩
                have HB := Lib.hid (below_then (below_drewN (Below.refl w.heap.size w) _) hB)
                clear hB
                have HC2 := Lib.hid (HC.out.below HB.out)
                have g1 := HC2.out.pos
                have g2 := HC2.out.tab
                have t0 := HC2.out.isTab.at_ 0 s[p + n].toNat (by omega) b2
                simp only [cls, Nat.zero_mul, Nat.zero_add, HLf.out] at t0
                generalize s[p + n] = bb at *
                go_wp2_with fail
                refine (HI2.out _).mono ?_
                rintro e w'' ⟨rfl, rfl⟩
                go_wp2_with fail
                refine (HF.out _ _ HC2.out.pos).mono ?_
                rintro e w' ⟨rfl, rfl⟩
                exact ⟨rfl, by rw [HCK.out]; rfl, HB.out⟩
              · have HCK := Lib.hid (show checkL s.data.toList p 2 n = none from by unfold checkL; rw [hr, hnb]; simp [HX1.out, hL, hz, hr0, hg])
                have hr1 : r < 0 := by omega
                clear hnb hz hL hi2 hr hr0
                go_enter Tryz.func186, Tryz.ntmps186
                go_wp2
                go_quiet (fail)
                go_wp2
                go_quiet (fail)
                go_wp2
                go_quiet (fail)
                go_wp2_with fail
                refine (HV.out _ (HE.out.below (below_drewN (Below.refl _ _) _))).mono ?_
                rintro e w' ⟨rfl, hB⟩
                have HB := Lib.hid (below_then (below_drewN (Below.refl w.heap.size w) _) hB)
                clear hB
                have HC2 := Lib.hid (HC.out.below HB.out)
                have g1 := HC2.out.pos
                have g2 := HC2.out.tab
                have t0 := HC2.out.isTab.at_ 0 s[p + n].toNat (by omega) b2
                simp only [cls, Nat.zero_mul, Nat.zero_add, HLf.out] at t0
                generalize s[p + n] = bb at *
                go_wp2_with fail
                refine (HI2.out _).mono ?_
                rintro e w'' ⟨rfl, rfl⟩
                go_wp2
                first | go_end0 | refine bodyPost_ret (results_none rfl _ _ _) rfl ?_
                exact ⟨by rw [HCK.out]; rfl, HB.out⟩
          · have HCK := Lib.hid (show checkL s.data.toList p 2 n = some 11 from by unfold checkL; rw [hnb]; simp [HX1.out, hL])
            have HLf := Lib.hid hL
            have b1 : (s[p + n].toNat : Int) < 256 := by have := s[p + n].toNat_lt; omega
            have b2 : s[p + n].toNat < 256 := by omega
            clear hnb hL
            go_enter Tryz.func186, Tryz.ntmps186
            go_wp2
            go_quiet (fail)
            go_wp2
            go_quiet (fail)
            go_wp2
            go_quiet (fail)
            go_wp2_with fail
            refine (HV.out _ (HE.out.below (below_drewN (Below.refl _ _) _))).mono ?_
            rintro e w' ⟨rfl, hB⟩
            have HB := Lib.hid (below_then (below_drewN (Below.refl w.heap.size w) _) hB)
            clear hB
            have HC2 := Lib.hid (HC.out.below HB.out)
            have g1 := HC2.out.pos
            have g2 := HC2.out.tab
            have t0 := HC2.out.isTab.at_ 0 s[p + n].toNat (by omega) b2
            simp only [cls, Nat.zero_mul, Nat.zero_add, HLf.out] at t0
            go_wp2_with fail
            refine (HF.out _ _ HC2.out.pos).mono ?_
            rintro e w' ⟨rfl, rfl⟩
            exact ⟨rfl, by rw [HCK.out]; rfl, HB.out⟩
    · by_cases hgt : 40 < n
      · have hgt' : (40 : Int) < n := by omega
        have HCK := Lib.hid (show checkL s.data.toList p 3 n = some 2 from by unfold checkL; simp [hgt])
        go_enter Tryz.func186, Tryz.ntmps186
        go_wp2
        go_quiet (fail)
        go_wp2
        go_quiet (fail)
        go_wp2
        go_quiet (fail)
        go_wp2_with fail
        refine (HF.out _ _ (HC.out.drewN _).pos).mono ?_
        rintro e w' ⟨rfl, rfl⟩
        exact ⟨rfl, by rw [HCK.out]; rfl, below_drewN (Below.refl _ _) _⟩
      · have hgt' : ¬ (40 : Int) < n := by omega
        have HCK := Lib.hid (show checkL s.data.toList p 3 n = none from by unfold checkL; simp; omega)
        go_enter Tryz.func186, Tryz.ntmps186
        go_wp2
        go_quiet (fail)
        go_wp2
        go_quiet (fail)
        go_wp2
        go_quiet (fail)
        go_wp2
        first | go_end0 | refine bodyPost_ret (results_none rfl _ _ _) rfl ?_
        exact ⟨by rw [HCK.out]; rfl, below_drewN (Below.refl _ _) _⟩
    · have b1 : (s[p + n].toNat : Int) < 256 := by have := s[p + n].toNat_lt; omega
      have t0 := HC.out.isTab.at_ 2 s[p + n].toNat (by omega) (by omega)
      simp only [cls, Nat.reduceMul] at t0
      cases hL : clsW s[p + n].toNat <;> rw [hL] at t0
      · have HCK := Lib.hid (show checkL s.data.toList p 4 n = none from by unfold checkL; rw [hnb]; simp [hL])
        clear hnb hL
        go_enter Tryz.func186, Tryz.ntmps186
        go_wp2
        go_quiet (fail)
        go_wp2
        go_quiet (fail)
        go_wp2
        go_quiet (fail)
        go_wp2
        first | go_end0 | refine bodyPost_ret (results_none rfl _ _ _) rfl ?_
        exact ⟨by rw [HCK.out]; rfl, below_drewN (Below.refl _ _) _⟩
      · have HCK := Lib.hid (show checkL s.data.toList p 4 n = some 12 from by unfold checkL; rw [hnb]; simp [hL])
        clear hnb hL
        go_enter Tryz.func186, Tryz.ntmps186
        go_wp2
        go_quiet (fail)
        go_wp2
        go_quiet (fail)
        go_wp2
        go_quiet (fail)
        go_wp2_with fail
        refine (HF.out _ _ (HC.out.drewN _).pos).mono ?_
        rintro e w' ⟨rfl, rfl⟩
        exact ⟨rfl, by rw [HCK.out]; rfl, below_drewN (Below.refl _ _) _⟩
    · have HCK := Lib.hid (show checkL s.data.toList p 5 n = none from by unfold checkL; simp)
      go_enter Tryz.func186, Tryz.ntmps186
      go_wp2
      go_quiet (fail)
      go_wp2
      go_quiet (fail)
      go_wp2
      go_quiet (fail)
      go_wp2
      first | go_end0 | refine bodyPost_ret (results_none rfl _ _ _) rfl ?_
      exact ⟨by rw [HCK.out]; rfl, below_drewN (Below.refl _ _) _⟩
    · by_cases hgt : 40 < n
      · have hgt' : (40 : Int) < n := by omega
        have HCK := Lib.hid (show checkL s.data.toList p 6 n = some 2 from by unfold checkL; simp [hgt])
        go_enter Tryz.func186, Tryz.ntmps186
        go_wp2
        go_quiet (fail)
        go_wp2
        go_quiet (fail)
        go_wp2
        go_quiet (fail)
        go_wp2_with fail
        refine (HF.out _ _ (HC.out.drewN _).pos).mono ?_
        rintro e w' ⟨rfl, rfl⟩
        exact ⟨rfl, by rw [HCK.out]; rfl, below_drewN (Below.refl _ _) _⟩
      · have hgt' : ¬ (40 : Int) < n := by omega
        have HCK := Lib.hid (show checkL s.data.toList p 6 n = none from by unfold checkL; simp; omega)
        go_enter Tryz.func186, Tryz.ntmps186
        go_wp2
        go_quiet (fail)
        go_wp2
        go_quiet (fail)
        go_wp2
        go_quiet (fail)
        go_wp2
        first | go_end0 | refine bodyPost_ret (results_none rfl _ _ _) rfl ?_
        exact ⟨by rw [HCK.out]; rfl, below_drewN (Below.refl _ _) _⟩
  · have d1 : decide ((p : Int) + n < s.size) = false := by simp; omega
    have hnb := nextB_none s (p + n) hnx
    rcases (by omega : kind = 0 ∨ kind = 1 ∨ kind = 2 ∨ kind = 3 ∨ kind = 4 ∨ kind = 5 ∨ kind = 6) with rfl | rfl | rfl | rfl | rfl | rfl | rfl
    · cases hx : Lib.hasPrefix (s.data.toList.drop p) [35]
      · have HX := Lib.hid hx
        have HCK := Lib.hid (show checkL s.data.toList p 0 n = some 10 from by unfold checkL; simp [hx])
        clear hx
        go_enter Tryz.func186, Tryz.ntmps186
        go_wp2
        go_quiet (fail)
        go_wp2
        go_quiet (fail)
        go_wp2_with fail
        refine (starts_is cb s ⟨#[35]⟩ p false (by exact HX.out) _ (HC.out.drewN _)).mono ?_
        rintro e w' ⟨rfl, m9, rfl⟩
        go_wp2_with fail
        refine (HF.out _ _ (HC.out.drewN _).pos).mono ?_
        rintro e w' ⟨rfl, rfl⟩
        exact ⟨rfl, by rw [HCK.out]; rfl, below_drewN (Below.refl _ _) _⟩
      · have HX := Lib.hid hx
        have HCK := Lib.hid (show checkL s.data.toList p 0 n = some 12 from by unfold checkL; simp [hx])
        clear hx
        go_enter Tryz.func186, Tryz.ntmps186
        go_wp2
        go_quiet (fail)
        go_wp2
        go_quiet (fail)
        go_wp2_with fail
        refine (starts_is cb s ⟨#[35]⟩ p true (by exact HX.out) _ (HC.out.drewN _)).mono ?_
        rintro e w' ⟨rfl, m9, rfl⟩
        go_wp2_with fail
        refine (HF.out _ _ (HC.out.drewN _).pos).mono ?_
        rintro e w' ⟨rfl, rfl⟩
        exact ⟨rfl, by rw [HCK.out]; rfl, below_drewN (Below.refl _ _) _⟩
    · by_cases hgt : 40 < n
      · have hgt' : (40 : Int) < n := by omega
        have HCK := Lib.hid (show checkL s.data.toList p 1 n = some 2 from by unfold checkL; simp [hgt])
        go_enter Tryz.func186, Tryz.ntmps186
        go_wp2
        go_quiet (fail)
        go_wp2
        go_quiet (fail)
        go_wp2_with fail
        refine (HF.out _ _ (HC.out.drewN _).pos).mono ?_
        rintro e w' ⟨rfl, rfl⟩
        exact ⟨rfl, by rw [HCK.out]; rfl, below_drewN (Below.refl _ _) _⟩
      · have hgt' : ¬ (40 : Int) < n := by omega
        have HCK := Lib.hid (show checkL s.data.toList p 1 n = none from by unfold checkL; simp; omega)
        go_enter Tryz.func186, Tryz.ntmps186
        go_wp2
        go_quiet (fail)
        go_wp2
        go_quiet (fail)
        go_wp2
        first | go_end0 | refine bodyPost_ret (results_none rfl _ _ _) rfl ?_
        exact ⟨by rw [HCK.out]; rfl, below_drewN (Below.refl _ _) _⟩
    · cases v2
      · have HCK := Lib.hid (show checkL s.data.toList p 2 n = some 11 from by unfold checkL; simp [HX1.out])
        go_enter Tryz.func186, Tryz.ntmps186
        go_wp2
        go_quiet (fail)
        go_wp2
        go_quiet (fail)
        go_wp2_with fail
        refine (HV.out _ (HE.out.below (below_drewN (Below.refl _ _) _))).mono ?_
        rintro e w' ⟨rfl, hB⟩
        have HB := Lib.hid (below_then (below_drewN (Below.refl w.heap.size w) _) hB)
        clear hB
        have HC2 := Lib.hid (HC.out.below HB.out)
        go_wp2_with fail
        refine (HF.out _ _ HC2.out.pos).mono ?_
        rintro e w' ⟨rfl, rfl⟩
        exact ⟨rfl, by rw [HCK.out]; rfl, HB.out⟩
      · by_cases hg : 100 ≤ n
        · have hg' : (100 : Int) ≤ n := by omega
          have HCK := Lib.hid (show checkL s.data.toList p 2 n = some 11 from by unfold checkL; simp [HX1.out, hg])
          go_enter Tryz.func186, Tryz.ntmps186
          go_wp2
          go_quiet (fail)
          go_wp2
          go_quiet (fail)
          go_wp2_with fail
          refine (HV.out _ (HE.out.below (below_drewN (Below.refl _ _) _))).mono ?_
          rintro e w' ⟨rfl, hB⟩
          have HB := Lib.hid (below_then (below_drewN (Below.refl w.heap.size w) _) hB)
          clear hB
          have HC2 := Lib.hid (HC.out.below HB.out)
          go_wp2_with fail
          refine (HF.out _ _ HC2.out.pos).mono ?_
          rintro e w' ⟨rfl, rfl⟩
          exact ⟨rfl, by rw [HCK.out]; rfl, HB.out⟩
        · have hg' : ¬ (100 : Int) ≤ n := by omega
          have HCK := Lib.hid (show checkL s.data.toList p 2 n = none from by unfold checkL; rw [hnb]; simp [HX1.out, show clsL 0 = false from by decide, hg])
          clear hnb
          go_enter Tryz.func186, Tryz.ntmps186
          go_wp2
          go_quiet (fail)
          go_wp2
          go_quiet (fail)
          go_wp2_with fail
          refine (HV.out _ (HE.out.below (below_drewN (Below.refl _ _) _))).mono ?_
          rintro e w' ⟨rfl, hB⟩
          have HB := Lib.hid (below_then (below_drewN (Below.refl w.heap.size w) _) hB)
          clear hB
          have HC2 := Lib.hid (HC.out.below HB.out)
          have g1 := HC2.out.pos
          have g2 := HC2.out.tab
          have t0 := HC2.out.isTab.at_ 0 0 (by omega) (by omega)
          simp only [cls, Nat.zero_mul, Nat.zero_add, show clsL 0 = false from by decide] at t0
          go_wp2
          first | go_end0 | refine bodyPost_ret (results_none rfl _ _ _) rfl ?_
          exact ⟨by rw [HCK.out]; rfl, HB.out⟩
    · by_cases hgt : 40 < n
      · have hgt' : (40 : Int) < n := by omega
        have HCK := Lib.hid (show checkL s.data.toList p 3 n = some 2 from by unfold checkL; simp [hgt])
        go_enter Tryz.func186, Tryz.ntmps186
        go_wp2
        go_quiet (fail)
        go_wp2
        go_quiet (fail)
        go_wp2_with fail
        refine (HF.out _ _ (HC.out.drewN _).pos).mono ?_
        rintro e w' ⟨rfl, rfl⟩
        exact ⟨rfl, by rw [HCK.out]; rfl, below_drewN (Below.refl _ _) _⟩
      · have hgt' : ¬ (40 : Int) < n := by omega
        have HCK := Lib.hid (show checkL s.data.toList p 3 n = none from by unfold checkL; simp; omega)
        go_enter Tryz.func186, Tryz.ntmps186
        go_wp2
        go_quiet (fail)
        go_wp2
        go_quiet (fail)
        go_wp2
        first | go_end0 | refine bodyPost_ret (results_none rfl _ _ _) rfl ?_
        exact ⟨by rw [HCK.out]; rfl, below_drewN (Below.refl _ _) _⟩
    · have t0 := HC.out.isTab.at_ 2 0 (by omega) (by omega)
      simp only [cls, Nat.reduceMul, Nat.add_zero, show clsW 0 = false from by decide] at t0
      have HCK := Lib.hid (show checkL s.data.toList p 4 n = none from by unfold checkL; rw [hnb]; simp [show clsW 0 = false from by decide])
      clear hnb
      go_enter Tryz.func186, Tryz.ntmps186
      go_wp2
      go_quiet (fail)
      go_wp2
      go_quiet (fail)
      go_wp2
      first | go_end0 | refine bodyPost_ret (results_none rfl _ _ _) rfl ?_
      exact ⟨by rw [HCK.out]; rfl, below_drewN (Below.refl _ _) _⟩
    · have HCK := Lib.hid (show checkL s.data.toList p 5 n = none from by unfold checkL; simp)
      go_enter Tryz.func186, Tryz.ntmps186
      go_wp2
      go_quiet (fail)
      go_wp2
      go_quiet (fail)
      go_wp2
      first | go_end0 | refine bodyPost_ret (results_none rfl _ _ _) rfl ?_
      exact ⟨by rw [HCK.out]; rfl, below_drewN (Below.refl _ _) _⟩
    · by_cases hgt : 40 < n
      · have hgt' : (40 : Int) < n := by omega
        have HCK := Lib.hid (show checkL s.data.toList p 6 n = some 2 from by unfold checkL; simp [hgt])
        go_enter Tryz.func186, Tryz.ntmps186
        go_wp2
        go_quiet (fail)
        go_wp2
        go_quiet (fail)
        go_wp2_with fail
        refine (HF.out _ _ (HC.out.drewN _).pos).mono ?_
        rintro e w' ⟨rfl, rfl⟩
        exact ⟨rfl, by rw [HCK.out]; rfl, below_drewN (Below.refl _ _) _⟩
      · have hgt' : ¬ (40 : Int) < n := by omega
        have HCK := Lib.hid (show checkL s.data.toList p 6 n = none from by unfold checkL; simp; omega)
        go_enter Tryz.func186, Tryz.ntmps186
        go_wp2
        go_quiet (fail)
        go_wp2
        go_quiet (fail)
        go_wp2
        first | go_end0 | refine bodyPost_ret (results_none rfl _ _ _) rfl ?_
        exact ⟨by rw [HCK.out]; rfl, below_drewN (Below.refl _ _) _⟩
end Go.Proofs.YtjnimfnelacceaaGreatDoor
