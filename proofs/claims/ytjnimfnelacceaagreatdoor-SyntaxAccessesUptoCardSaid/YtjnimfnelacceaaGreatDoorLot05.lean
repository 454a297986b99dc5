/- The cutter's comments. What the package-level variables of the library hold; integers' texts. -/
import Derived.Test.YtjnimfnelacceaaGreatDoorLot04
import Derived.Lib.AtoiErrMem
import Derived.Lib.SmallJoins
set_option linter.unusedSimpArgs false
set_option linter.unusedVariables false
namespace Go.Proofs.YtjnimfnelacceaaGreatDoor
open Go.RowKit

/-- How a call ends that gives a number, or leaves with an error at a place. -/
def endOf (p : Nat) : Nat ⊕ Nat → Ending
  | .inl n => .returned (.int .i64 n)
  | .inr er => .panicked [{ v := wrongV p er, recovered := false }]

def cL : List UInt8 → Nat → Int → Nat ⊕ Nat
  | [], _, _ => .inr 13
  | [_], _, _ => .inr 13
  | a :: b :: r, i, o =>
    if a == 47 && b == 42 then (if 100 < o + 1 then .inr 6 else cL r (i + 2) (o + 1))
    else if a == 42 && b == 47 then (if o - 1 = 0 then .inl (i + 2) else cL r (i + 2) (o - 1))
    else cL (b :: r) (i + 1) o
def commentL (l : List UInt8) : Nat ⊕ Nat :=
  if Lib.hasPrefix l [47, 47] then (if 0 ≤ Lib.indexByte l 10 then .inl (Lib.indexByte l 10).toNat else .inl l.length) else cL l 0 0

theorem pref2 (a b c d : UInt8) (r : List UInt8) : Lib.hasPrefix (c :: d :: r) [a, b] = (a == c && b == d) := by
  simp [Lib.hasPrefix, List.isPrefixOf]
theorem pref2_len {l : List UInt8} {a b : UInt8} (h : Lib.hasPrefix l [a, b] = true) : ∃ r, l = a :: b :: r := by
  match l with
  | [] => simp [Lib.hasPrefix, List.isPrefixOf] at h
  | [_] => simp [Lib.hasPrefix, List.isPrefixOf] at h
  | c :: d :: r =>
    rw [pref2, Bool.and_eq_true, beq_iff_eq, beq_iff_eq] at h
    exact ⟨r, by rw [h.1, h.2]⟩
theorem cL_open {l : List UInt8} (i : Nat) (o : Int) (h : Lib.hasPrefix l [47, 42] = true) : cL l i o = if 100 < o + 1 then .inr 6 else cL (l.drop 2) (i + 2) (o + 1) := by
  obtain ⟨r, rfl⟩ := pref2_len h
  rw [cL, if_pos (by decide)]; rfl
theorem cL_close {l : List UInt8} (i : Nat) (o : Int) (h : Lib.hasPrefix l [42, 47] = true) : cL l i o = if o - 1 = 0 then .inl (i + 2) else cL (l.drop 2) (i + 2) (o - 1) := by
  obtain ⟨r, rfl⟩ := pref2_len h
  rw [cL, if_neg (by decide), if_pos (by decide)]; rfl
theorem cL_other {l : List UInt8} (i : Nat) (o : Int) (h1 : Lib.hasPrefix l [47, 42] = false) (h2 : Lib.hasPrefix l [42, 47] = false) : cL l i o = cL (l.drop 1) (i + 1) o := by
  match l with
  | [] => rfl
  | [_] => rfl
  | c :: d :: r =>
    rw [pref2] at h1 h2
    rw [cL, if_neg, if_neg]
    · rfl
    · rw [Bool.and_comm, Bool.eq_false_iff] at h2
      intro h
      apply h2
      rw [Bool.and_eq_true, beq_iff_eq, beq_iff_eq] at h ⊢
      exact ⟨h.2.symm, h.1.symm⟩
    · rw [Bool.and_comm, Bool.eq_false_iff] at h1
      intro h
      apply h1
      rw [Bool.and_eq_true, beq_iff_eq, beq_iff_eq] at h ⊢
      exact ⟨h.2.symm, h.1.symm⟩
theorem ext_pref (t p : ByteArray) (i : Nat) (b : Bool) (h : Lib.hasPrefix (t.data.toList.drop i) p.data.toList = b) (w : World) :
    Calls Tryz.prog 223 #[.string (t.extract i t.size), .string p] w fun e w' => e = .returned (.bool b) ∧ w' = w :=
  pref_is _ p b (by rw [Lib.extract_to_end]; exact h) w
theorem byte_is (t : ByteArray) (c : Nat) (r : Int) (h : Lib.indexByte t.data.toList c.toUInt8 = r) (w : World) :
    Calls Tryz.prog 145 #[.string t, .int .u8 (c : Int)] w fun e w' => e = .returned (.int .i64 r) ∧ w' = w := by
  have := Tryz.strings_IndexByte t (c : Int) w
  rw [Int.toNat_natCast] at this
  rw [← h]
  exact this
theorem indexByte_lt : ∀ (l : List UInt8) (c : UInt8), Lib.indexByte l c < l.length ∧ -1 ≤ Lib.indexByte l c
  | [], _ => by simp [Lib.indexByte]
  | b :: l, c => by
    have := indexByte_lt l c
    simp only [Lib.indexByte, List.length_cons]
    split
    · omega
    · split
      · omega
      · rename_i h
        have : Lib.indexByte l c ≠ -1 := by simpa using h
        omega

set_option maxHeartbeats 1600000 in
theorem comment_any (cb tb : Nat) (s : ByteArray) (p lk la ll : Nat) (w : World) (h : CutAt w cb tb s p lk la ll) :
    Calls Tryz.prog 184 #[.pointer (some ⟨cb, 0, none⟩)] w fun e w' => e = endOf p (commentL (s.data.toList.drop p)) ∧ ∃ n, w' = w.drewN n := by
  have h0 := h.text
  have h1 := h.pos
  have hle := h.le
  have hsz := h.size
  have i0 : (0 : Int) ≤ p := by omega
  have i1 : (p : Int) ≤ s.size := by omega
  have hte := Lib.extract_to_end s p
  have hts : (s.extract p s.size).size ≤ 20000 := by rw [ByteArray.size_extract]; omega
  have HC := Lib.hid h
  clear h
  generalize hte0 : s.extract p s.size = t at *
  rw [← hte]
  have HT := Lib.hid hte0
  clear hte0
  have hfail := fun er w => fail_any (w := w) cb p er
  have HF := Lib.hid hfail
  clear hfail hte
  cases hx : Lib.hasPrefix t.data.toList [47, 47]
  · have HX := Lib.hid hx
    have hv : commentL t.data.toList = cL t.data.toList 0 0 := by unfold commentL; rw [hx]; rfl
    generalize hR : cL t.data.toList 0 0 = R at *
    have HR := Lib.hid hR
    have HV := Lib.hid hv
    clear hx hv hR
    go_enter Tryz.func184, Tryz.ntmps184
    go_wp2
    go_quiet (fail)
    go_wp2_with fail
    rw [HT.out]
    refine (pref_is t _ false (by exact HX.out) _).mono ?_
    rintro e w' ⟨rfl, rfl⟩
    go_wp2_with fail
    go_loopw [5, 6] (fun v5 v6 wr => ∃ (i : Nat) (o : Int), i ≤ t.size ∧ -(i : Int) ≤ o ∧ o ≤ 100 ∧ v5 = .int .i64 o ∧ v6 = .int .i64 i ∧ Hid (cL (t.data.toList.drop i) i o = R) ∧ ∃ q, wr = w.drewN q) (fun _ v6 _ => t.size - (intOf v6).toNat)
    case atStart => exact ⟨0, 0, Nat.zero_le _, by omega, by omega, rfl, rfl, HR, _, rfl⟩
    case round =>
      obtain ⟨i, o, hi, ho1, ho2, rfl, rfl, HI, q, rfl⟩ := hrel
      by_cases hlt : i < t.size
      · have hlt' : (i : Int) < t.size := by omega
        have i2 : (0 : Int) ≤ i := by omega
        have i3 : (i : Int) ≤ t.size := by omega
        cases ha : Lib.hasPrefix (t.data.toList.drop i) [47, 42]
        · cases hb : Lib.hasPrefix (t.data.toList.drop i) [42, 47]
          · have hs := cL_other i o ha hb
            rw [HI.out, List.drop_drop] at hs
            have HS := Lib.hid hs.symm
            have HA := Lib.hid ha
            have HB := Lib.hid hb
            clear hs ha hb
            go_wp2_with fail
            refine (ext_pref t _ i false (by exact HA.out) _).mono ?_
            rintro e w' ⟨rfl, rfl⟩
            go_wp2_with fail
            refine (ext_pref t _ i false (by exact HB.out) _).mono ?_
            rintro e w' ⟨rfl, rfl⟩
            go_wp2
            go_roundw
            case rel => exact ⟨i + 1, o, by omega, by omega, by omega, rfl, by go_num, HS, _, rfl⟩
            case measure => simp [intOf]; omega
          · have hs := cL_close i o hb
            rw [HI.out, List.drop_drop] at hs
            obtain ⟨r2, hr2⟩ := pref2_len hb
            have hl2 : i + 2 ≤ t.size := by
              have := congrArg List.length hr2
              rw [List.length_drop, len_data] at this
              simp only [List.length_cons] at this
              omega
            have HA := Lib.hid ha
            have HB := Lib.hid hb
            clear ha hb hr2
            by_cases o1 : o - 1 = 0
            · rw [if_pos o1] at hs
              have HS := Lib.hid hs
              clear hs
              have o2 : ((o - 1) == 0) = true := by rw [beq_iff_eq]; exact o1
              clear o1
              go_wp2_with fail
              refine (ext_pref t _ i false (by exact HA.out) _).mono ?_
              rintro e w' ⟨rfl, rfl⟩
              go_wp2_with fail
              refine (ext_pref t _ i true (by exact HB.out) _).mono ?_
              rintro e w' ⟨rfl, rfl⟩
              go_wp2
              go_ret
              exact ⟨by rw [HV.out, HS.out]; exact ret_int (by omega), _, rfl⟩
            · rw [if_neg o1] at hs
              have HS := Lib.hid hs.symm
              clear hs
              have o2 : ((o - 1) == 0) = false := by rw [beq_eq_false_iff_ne]; exact o1
              clear o1
              go_wp2_with fail
              refine (ext_pref t _ i false (by exact HA.out) _).mono ?_
              rintro e w' ⟨rfl, rfl⟩
              go_wp2_with fail
              refine (ext_pref t _ i true (by exact HB.out) _).mono ?_
              rintro e w' ⟨rfl, rfl⟩
              go_wp2
              go_roundw
              case rel => exact ⟨i + 2, o - 1, by omega, by omega, by omega, rfl, by go_num, HS, _, rfl⟩
              case measure => simp [intOf]; omega
        · have hs := cL_open i o ha
          rw [HI.out, List.drop_drop] at hs
          obtain ⟨r2, hr2⟩ := pref2_len ha
          have hl2 : i + 2 ≤ t.size := by
            have := congrArg List.length hr2
            rw [List.length_drop, len_data] at this
            simp only [List.length_cons] at this
            omega
          have HA := Lib.hid ha
          clear ha hr2
          by_cases o1 : 100 < o + 1
          · rw [if_pos o1] at hs
            have HS := Lib.hid hs
            clear hs
            go_wp2_with fail
            refine (ext_pref t _ i true (by exact HA.out) _).mono ?_
            rintro e w' ⟨rfl, rfl⟩
            go_wp2_with fail
            refine (HF.out _ _ (HC.out.drewN _).pos).mono ?_
            rintro e w' ⟨rfl, rfl⟩
            exact ⟨rfl, by rw [HV.out, HS.out]; rfl, _, rfl⟩
          · rw [if_neg o1] at hs
            have HS := Lib.hid hs.symm
            clear hs
            go_wp2_with fail
            refine (ext_pref t _ i true (by exact HA.out) _).mono ?_
            rintro e w' ⟨rfl, rfl⟩
            go_wp2
            go_roundw
            case rel => exact ⟨i + 2, o + 1, by omega, by omega, by omega, rfl, by go_num, HS, _, rfl⟩
            case measure => simp [intOf]; omega
      · have he : i = t.size := by omega
        have hs := HI.out
        rw [List.drop_of_length_le (by rw [len_data]; omega), cL] at hs
        have HS := Lib.hid hs
        clear hs he
        have hlt' : ¬ (i : Int) < t.size := by omega
        go_wp2_with fail
        refine (HF.out _ _ (HC.out.drewN _).pos).mono ?_
        rintro e w' ⟨rfl, rfl⟩
        exact ⟨rfl, by rw [HV.out, ← HS.out]; rfl, _, rfl⟩
  · have HX := Lib.hid hx
    have hb := indexByte_lt t.data.toList 10
    rw [len_data] at hb
    have hv : commentL t.data.toList = if 0 ≤ Lib.indexByte t.data.toList 10 then .inl (Lib.indexByte t.data.toList 10).toNat else .inl t.size := by unfold commentL; rw [hx, len_data]; rfl
    generalize hr : Lib.indexByte t.data.toList 10 = r at *
    have HI := Lib.hid hr
    have HV := Lib.hid hv
    clear hx hv hr
    by_cases r0 : 0 ≤ r
    · go_enter Tryz.func184, Tryz.ntmps184
      go_wp2
      go_quiet (fail)
      go_wp2_with fail
      rw [HT.out]
      refine (pref_is t _ true (by exact HX.out) _).mono ?_
      rintro e w' ⟨rfl, rfl⟩
      go_wp2_with fail
      refine (byte_is t 10 r (by exact HI.out) _).mono ?_
      rintro e w' ⟨rfl, rfl⟩
      go_wp2
      go_ret
      exact ⟨by rw [HV.out, if_pos r0]; exact ret_int (by omega), _, rfl⟩
    · go_enter Tryz.func184, Tryz.ntmps184
      go_wp2
      go_quiet (fail)
      go_wp2_with fail
      rw [HT.out]
      refine (pref_is t _ true (by exact HX.out) _).mono ?_
      rintro e w' ⟨rfl, rfl⟩
      go_wp2_with fail
      refine (byte_is t 10 r (by exact HI.out) _).mono ?_
      rintro e w' ⟨rfl, rfl⟩
      go_wp2
      go_ret
      exact ⟨by rw [HV.out, if_neg (by omega)]; rfl, _, rfl⟩
end Go.Proofs.YtjnimfnelacceaaGreatDoor
namespace Go.Proofs.YtjnimfnelacceaaGreatDoor
open Go.RowKit

def IsIf (v : Value) : Prop := v = Value.nilIface ∨ ∃ te pe, v = Value.iface te pe
/-- What the walks ask of the library's variables. -/
structure Env (w : World) : Prop where
  syn : ∃ ev, w.cell? ⟨3, 0, none⟩ = some ev ∧ IsIf ev
  rng : ∃ ev, w.cell? ⟨4, 0, none⟩ = some ev ∧ IsIf ev
  pow : Lib.TabIs Tryz.prog w "internal/strconv.uint64pow10" .u64 Lib.pow10Tab
  spc : Lib.TabIs Tryz.prog w "strings.asciiSpace" .u8 Lib.asciiSpaceTab
  mx : ∃ m, w.cell? ⟨2, 0, none⟩ = some (.int .i64 m)
theorem tabIs_below {P : Program} {n : String} {g : Nat} {k : IntKind} {zs : List Int} {w w' : World} (hg : P.globalNamed n = some g) (h : Lib.TabIs P w n k zs) (hb : Below w.heap.size w w') : Lib.TabIs P w' n k zs := by
  unfold Lib.TabIs World.var? at h ⊢
  rw [hg] at h ⊢
  simp only [Option.bind_some] at h ⊢
  have hlt : g < w.heap.size := by
    rcases Nat.lt_or_ge g w.heap.size with hl | hl
    · exact hl
    · rw [Array.getElem?_eq_none hl] at h; simp at h
  rw [hb.block g hlt]; exact h
theorem Env.below {w w1 : World} (h : Env w) (hb : Below w.heap.size w w1) : Env w1 := by
  obtain ⟨⟨a, h1, h2⟩, ⟨b, h3, h4⟩, h5, h6, ⟨m, h7⟩⟩ := h
  exact ⟨⟨a, below_cell hb h1, h2⟩, ⟨b, below_cell hb h3, h4⟩, tabIs_below (g := 5) (by kernel_rfl) h5 hb, tabIs_below (g := 0) (by kernel_rfl) h6 hb, ⟨m, below_cell hb h7⟩⟩

/-- The value of an integer's text, and whether it is one as it is written. -/
def valueL (l : List UInt8) : Int × Bool :=
  match Lib.atoiAll l with
  | .ok v => (v, Lib.itoa v == l)
  | .range => (Lib.atoiSat l, false)
  | _ => (0, false)
theorem ret_ib {a b : Int} {x y : Bool} (h : a = b) (g : x = y) : Ending.returned (.tuple #[.int .i64 a, .bool x]) = .returned (.tuple #[.int .i64 b, .bool y]) := by rw [h, g]
theorem below_grow' (w : World) (k : Nat) (os : Array Obj) : Below w.heap.size w («Sort».grow (w.drewN k) os) :=
  ⟨rfl, rfl, rfl, by show w.heap.size ≤ (w.heap ++ os).size; rw [Array.size_append]; omega, fun j hj => by show (w.heap ++ os)[j]? = _; rw [Array.getElem?_append_left hj]⟩
theorem atoi_range {l : List UInt8} {v : Int} (h : Lib.atoiAll l = .ok v) : -9223372036854775808 ≤ v ∧ v ≤ 9223372036854775807 := by
  unfold Lib.atoiAll at h
  split at h
  · cases h
  · dsimp only at h
    split at h
    · cases h
    · cases h
    · split at h
      · cases h
      · split at h
        · cases h
        · injection h with h
          subst h
          split <;> omega

set_option maxHeartbeats 800000 in
theorem value_any (s : ByteArray) (w : World) (hs : s.size ≤ 1000000) (hE : Env w) :
    Calls Tryz.prog 61 #[.string s] w fun e w' => e = .returned (.tuple #[.int .i64 (valueL s.data.toList).1, .bool (valueL s.data.toList).2]) ∧ Below w.heap.size w w' := by
  have HE := Lib.hid hE
  cases h : Lib.atoiAll s.data.toList with
  | ok v =>
    have hb := atoi_range h
    have ha := Tryz.strconv_Atoi_ok s (by omega) v h
    have hi := fun w hp => Tryz.strconv_Itoa v hb.1 hb.2 w hp
    have hv : valueL s.data.toList = (v, Lib.itoa v == s.data.toList) := by unfold valueL; rw [h]
    have hq : ((⟨(Lib.itoa v).toArray⟩ : ByteArray).toList == s.toList) = (Lib.itoa v == s.data.toList) := by rw [Lib.toList_data, Lib.toList_data]
    have HA := Lib.hid ha
    have HI := Lib.hid hi
    have HV := Lib.hid hv
    clear ha hi hv h
    have hb1 := hb.1
    have hb2 := hb.2
    go_enter Tryz.func61, Tryz.ntmps61
    go_wp2_with fail
    refine (HA.out _).mono ?_
    rintro e w' ⟨rfl, hw⟩
    have hB : Below w.heap.size w w' := by
      rcases hw with rfl | ⟨t, rfl⟩
      · exact Below.refl _ _
      · exact Lib.bytesWorld_below _ _ _
    clear hw
    have HB := Lib.hid hB
    clear hB
    go_wp2_with fail
    refine (HI.out _ (HE.out.below HB.out).pow).mono ?_
    rintro e w'' ⟨rfl, k, os, rfl⟩
    go_wp2
    go_ret2
    refine ⟨?_, below_then HB.out (below_grow' _ _ _)⟩
    rw [HV.out]
    exact ret_ib rfl (by rw [Lib.toList_data])
  | range =>
    obtain ⟨ev, he, hi⟩ := hE.rng
    have ha := Tryz.strconv_Atoi_range s (by omega) h ev w he hi
    have hv : valueL s.data.toList = (Lib.atoiSat s.data.toList, false) := by unfold valueL; rw [h]
    have HA := Lib.hid ha
    have HV := Lib.hid hv
    clear ha hv h he hi
    go_enter Tryz.func61, Tryz.ntmps61
    go_wp2_with fail
    refine HA.out.mono ?_
    rintro e w' ⟨N, rfl, hN, hc, hB⟩
    go_wp2
    go_ret2
    exact ⟨by rw [HV.out]; rfl, hB⟩
  | _ =>
    obtain ⟨ev, he, hi⟩ := hE.syn
    have ha := Tryz.strconv_Atoi_syntax s (by omega) h ev w he hi
    have hv : valueL s.data.toList = (0, false) := by unfold valueL; rw [h]
    have HA := Lib.hid ha
    have HV := Lib.hid hv
    clear ha hv h he hi
    go_enter Tryz.func61, Tryz.ntmps61
    go_wp2_with fail
    refine HA.out.mono ?_
    rintro e w' ⟨N, rfl, hN, hc, hB⟩
    go_wp2
    go_ret2
    exact ⟨by rw [HV.out]; rfl, hB⟩
end Go.Proofs.YtjnimfnelacceaaGreatDoor
