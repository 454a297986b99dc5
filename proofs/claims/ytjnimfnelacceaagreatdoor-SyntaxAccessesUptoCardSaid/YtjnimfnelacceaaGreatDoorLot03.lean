/- The cutter's rules. The cutter's rules: names, keywords, hashes. The cutter's rules: operators, integers, what lies ahead. The cutter's rules: integers, patterns; where it stands. The cutter's rules: pattern variables, signs; the way out. The cutter's rules: signs. -/
import Derived.Test.YtjnimfnelacceaaGreatDoorLot01
import Derived.Test.YtjnimfnelacceaaGreatDoorLot02
import Derived.Lib.IndexBytes
set_option linter.unusedSimpArgs false
set_option linter.unusedVariables false
namespace Go.Proofs.YtjnimfnelacceaaGreatDoor
open Go.RowKit

def colonL (l : List UInt8) (n : Nat) : Bool :=
  match l.drop n with
  | c :: r => c == 58 && (match r with | [] => true | d :: _ => d != 58 && d != 61)
  | [] => false
theorem len_data (s : ByteArray) : s.data.toList.length = s.size := by show s.data.toList.length = s.data.size; simp
theorem drop_data (s : ByteArray) (k : Nat) (h : k < s.size) : s.data.toList.drop k = s[k] :: s.data.toList.drop (k + 1) := by
  rw [List.drop_eq_getElem_cons (by rw [len_data]; exact h)]
  rfl

theorem byte_eq (b : UInt8) (c : Nat) (hc : c < 256) : ((b.toNat : Int) == (c : Int)) = (b == UInt8.ofNat c) := by
  rw [Bool.eq_iff_iff, beq_iff_eq, beq_iff_eq, ← UInt8.toNat_inj, UInt8.toNat_ofNat']
  constructor <;> intro h <;> omega
theorem byte_ne (b : UInt8) (c : Nat) (hc : c < 256) : ((b.toNat : Int) != (c : Int)) = (b != UInt8.ofNat c) := by
  simp only [bne, byte_eq b c hc]

set_option maxHeartbeats 400000 in
theorem colon_any (s : ByteArray) (n : Nat) (w : World) (hs : s.size ≤ 9223372036854775807) (hn : n ≤ 9223372036854775806) :
    Calls Tryz.prog 225 #[.string s, .int .i64 n] w fun e w' => e = .returned (.bool (colonL s.data.toList n)) ∧ w' = w := by
  by_cases h : n < s.size
  · have hd : decide ((n : Int) < s.size) = true := by simpa using h
    have e58 : ((s[n].toNat : Int) == 58) = (s[n] == 58) := byte_eq s[n] 58 (by omega)
    by_cases hl : n + 1 < s.size
    · have e1 : ((n : Int) + 1 == s.size) = false := by rw [beq_eq_false_iff_ne]; omega
      have f58 : ((s[n + 1].toNat : Int) != 58) = (s[n + 1] != 58) := byte_ne _ 58 (by omega)
      have f61 : ((s[n + 1].toNat : Int) != 61) = (s[n + 1] != 61) := byte_ne _ 61 (by omega)
      have hv : colonL s.data.toList n = (s[n] == 58 && (s[n + 1] != 58 && s[n + 1] != 61)) := by
        unfold colonL; rw [drop_data s n h, drop_data s (n + 1) hl]
      generalize (s[n] == 58) = x at *
      generalize (s[n + 1] != 58) = y at *
      generalize (s[n + 1] != 61) = z at *
      have HV := Lib.hid hv
      clear hv
      cases x <;> cases y <;> cases z
      all_goals
        go_enter Tryz.func225, Tryz.ntmps225
        go_wp2
        go_ret
        exact ⟨by rw [HV.out]; rfl, rfl⟩
    · have e1 : ((n : Int) + 1 == s.size) = true := by rw [beq_iff_eq]; omega
      have hv : colonL s.data.toList n = (s[n] == 58) := by
        unfold colonL; rw [drop_data s n h, List.drop_of_length_le (by rw [len_data]; omega)]; simp
      generalize (s[n] == 58) = x at *
      have HV := Lib.hid hv
      clear hv
      cases x
      all_goals
        go_enter Tryz.func225, Tryz.ntmps225
        go_wp2
        go_ret
        exact ⟨by rw [HV.out]; rfl, rfl⟩
  · have hd : decide ((n : Int) < s.size) = false := by simpa using h
    have hv : colonL s.data.toList n = false := by unfold colonL; rw [List.drop_of_length_le (by rw [len_data]; omega)]
    have HV := Lib.hid hv
    clear hv
    go_enter Tryz.func225, Tryz.ntmps225
    go_wp2
    go_ret
    exact ⟨by rw [HV.out]; rfl, rfl⟩

/-! ### plain, whatever the string -/
def plainL (l : List UInt8) : Nat :=
  match l with
  | [] => 0
  | b :: _ => if clsL b.toNat || clsB b.toNat then plainAux (l.takeWhile fun b => clsW b.toNat) 0 false 0 else 0
def runL (f : Nat → Bool) (l : List UInt8) : Nat := (l.takeWhile fun b => f b.toNat).length
theorem runLen_eq (f : Nat → Bool) (s : ByteArray) : runLen f s = runL f s.data.toList := rfl
theorem take_runLen (f : Nat → Bool) (s : ByteArray) : s.data.toList.take (runLen f s) = s.data.toList.takeWhile fun b => f b.toNat := by
  unfold runLen
  generalize s.data.toList = l
  induction l with
  | nil => rfl
  | cons b r ih => cases h : f b.toNat <;> simp [List.takeWhile_cons, h, ih]
theorem plain_any (cb tb : Nat) (s : ByteArray) (w : World) (hs : s.size ≤ 9223372036854775807)
    (h2 : w.cell? ⟨cb, 2, none⟩ = some (.pointer (some ⟨tb, 0, none⟩))) (ht : IsTab w tb) :
    Calls Tryz.prog 221 #[.pointer (some ⟨cb, 0, none⟩), .string s] w fun e w' => e = .returned (.int .i64 (plainL s.data.toList)) ∧ ∃ n, w' = w.drewN n := by
  by_cases h0 : 0 < s.size
  · have hl := drop_data s 0 h0
    rw [List.drop_zero] at hl
    by_cases hLB : (clsL s[0].toNat || clsB s[0].toNat) = true
    · have := plain_some cb tb s w hs h0 hLB h2 ht
      rw [take_runLen] at this
      rw [show plainL s.data.toList = plainAux (s.data.toList.takeWhile fun b => clsW b.toNat) 0 false 0 from by unfold plainL; rw [hl]; simp only []; rw [if_pos hLB]]
      exact this
    · rw [Bool.not_eq_true, Bool.or_eq_false_iff] at hLB
      rw [show plainL s.data.toList = 0 from by unfold plainL; rw [hl]; simp only []; rw [if_neg (by simp [hLB])]]
      exact plain_not cb tb s w hs h0 hLB.1 hLB.2 h2 ht
  · have he : s = ⟨#[]⟩ := by
      have : s.data.toList = [] := List.eq_nil_of_length_eq_zero (by rw [len_data]; omega)
      cases s with | mk d => cases d; simp_all
    subst he
    exact plain_none cb tb w h2
theorem plainAux_le : ∀ (l : List UInt8) (i : Nat) (b : Bool) (n : Nat), n ≤ i → plainAux l i b n ≤ i + l.length
  | [], _, _, _, h => by simpa [plainAux] using h
  | c :: r, i, b, n, h => by
    rw [plainAux]
    have := plainAux_le r (i + 1) (b || clsL c.toNat) (if b || clsL c.toNat then (if clsF c.toNat then i + 1 else n) else n) (by split <;> (try split) <;> omega)
    simp only [List.length_cons]
    omega
theorem plainL_le (l : List UInt8) : plainL l ≤ l.length := by
  unfold plainL
  cases l with
  | nil => exact Nat.le_refl _
  | cons b r =>
    simp only []
    split
    · have := plainAux_le ((b :: r).takeWhile fun b => clsW b.toNat) 0 false 0 (Nat.le_refl _)
      have := (List.takeWhile_sublist (fun b : UInt8 => clsW b.toNat) (l := b :: r)).length_le
      omega
    · omega
theorem runL_le (f : Nat → Bool) (l : List UInt8) : runL f l ≤ l.length := (List.takeWhile_sublist _).length_le
end Go.Proofs.YtjnimfnelacceaaGreatDoor
namespace Go.Proofs.YtjnimfnelacceaaGreatDoor
open Go.RowKit

def nameL (l : List UInt8) : Nat :=
  match (if plainL l = 0 then [] else l.drop (plainL l)) with
  | c :: r => if c == 64 then (if decide (0 < runL clsQ r) && (match r with | d :: _ => d != 45 | [] => false) then plainL l + 1 + runL clsQ r else plainL l) else plainL l
  | [] => plainL l
def keywordL (l : List UInt8) : Nat := if decide (0 < plainL l) && colonL l (plainL l) then plainL l + 1 else 0
def hashL (l : List UInt8) : Nat := if Lib.hasPrefix l [35, 116] || Lib.hasPrefix l [35, 102] then 2 else 0

set_option maxHeartbeats 800000 in
theorem name_any (cb tb : Nat) (s : ByteArray) (w : World) (hs : s.size ≤ 1000000)
    (h2 : w.cell? ⟨cb, 2, none⟩ = some (.pointer (some ⟨tb, 0, none⟩))) (ht : IsTab w tb) :
    Calls Tryz.prog 177 #[.pointer (some ⟨cb, 0, none⟩), .string s] w fun e w' => e = .returned (.int .i64 (nameL s.data.toList)) ∧ ∃ n, w' = w.drewN n := by
  have hp := plain_any cb tb s w (by omega) h2 ht
  have hb := plainL_le s.data.toList
  rw [len_data] at hb
  generalize hn : plainL s.data.toList = n at *
  have HN := Lib.hid hn
  have HP := Lib.hid hp
  have HT := Lib.hid ht
  clear hn hp ht
  by_cases h0 : n = 0
  · subst h0
    have hv : nameL s.data.toList = 0 := by unfold nameL; rw [HN.out]; rfl
    have HV := Lib.hid hv
    clear hv
    go_enter Tryz.func177, Tryz.ntmps177
    go_wp2_with fail
    refine HP.out.mono ?_
    rintro e w' ⟨rfl, m0, rfl⟩
    go_wp2
    go_ret
    exact ⟨by rw [HV.out]; rfl, _, rfl⟩
  · have p0 : (0 : Int) < n := by omega
    by_cases h1 : n < s.size
    · have d1 : decide ((n : Int) < s.size) = true := by simpa using h1
      have e64 : ((s[n].toNat : Int) == 64) = (s[n] == 64) := byte_eq s[n] 64 (by omega)
      have hv : nameL s.data.toList = if s[n] == 64 then (if decide (0 < runL clsQ (s.data.toList.drop (n + 1))) && (match s.data.toList.drop (n + 1) with | d :: _ => d != 45 | [] => false) then n + 1 + runL clsQ (s.data.toList.drop (n + 1)) else n) else n := by
        unfold nameL; rw [HN.out, if_neg h0, drop_data s n h1]
      generalize (s[n] == 64) = x at *
      cases x
      · simp only [Bool.false_eq_true, if_false] at hv
        have HV := Lib.hid hv
        clear hv
        go_enter Tryz.func177, Tryz.ntmps177
        go_wp2_with fail
        refine HP.out.mono ?_
        rintro e w' ⟨rfl, m0, rfl⟩
        go_wp2
        go_ret
        exact ⟨ret_int (by rw [HV.out]), _, rfl⟩
      · simp only [if_true] at hv
        have HV := Lib.hid hv
        clear hv
        go_enter Tryz.func177, Tryz.ntmps177
        go_wp2_with fail
        refine HP.out.mono ?_
        rintro e w' ⟨rfl, m0, rfl⟩
        go_wp2_with fail
        refine (all_any cb tb (s.extract (n + 1) s.size) clsQ 5 _ (by rw [ByteArray.size_extract]; omega) (by omega) (by rw [World.cell?_drewN]; exact h2) (fun x hx => by rw [World.cell?_drewN]; exact HT.out.at_ 5 x (by omega) hx)).mono ?_
        rintro e w' ⟨rfl, m1, rfl⟩
        rw [runLen_eq, Lib.extract_to_end]
        have hq := runL_le clsQ (s.data.toList.drop (n + 1))
        rw [List.length_drop, len_data] at hq
        have hv := HV.out
        clear HV
        generalize hrq : runL clsQ (s.data.toList.drop (n + 1)) = q at *
        clear hrq
        by_cases q0 : q = 0
        · subst q0
          have HV := Lib.hid hv
          clear hv
          go_wp2
          go_ret
          exact ⟨ret_int (by rw [HV.out]; simp), _, rfl⟩
        · have q1 : (0 : Int) < q := by omega
          have q2 : 0 < q := by omega
          have l1 : n + 1 < s.size := by omega
          have l2 : (n : Int) + 1 < s.size := by omega
          have f45 : ((s[n + 1].toNat : Int) != 45) = (s[n + 1] != 45) := byte_ne s[n + 1] 45 (by omega)
          have hv3 : nameL s.data.toList = if (s[n + 1] != 45) = true then n + 1 + q else n := by rw [hv, drop_data s (n + 1) l1]; simp [q2]
          clear hv
          cases hx : (s[n + 1] != 45) <;> rw [hx] at f45 <;> rw [hx] at hv3
          all_goals
            have HV := Lib.hid hv3
            clear hv3 hx
            go_wp2
            go_ret
            exact ⟨ret_int (by rw [HV.out]; simp), _, rfl⟩
    · have d1 : decide ((n : Int) < s.size) = false := by simpa using h1
      have hv : nameL s.data.toList = n := by unfold nameL; rw [HN.out, if_neg h0, List.drop_of_length_le (by rw [len_data]; omega)]
      have HV := Lib.hid hv
      clear hv
      go_enter Tryz.func177, Tryz.ntmps177
      go_wp2_with fail
      refine HP.out.mono ?_
      rintro e w' ⟨rfl, m0, rfl⟩
      go_wp2
      go_ret
      exact ⟨ret_int (by rw [HV.out]), _, rfl⟩

set_option maxHeartbeats 400000 in
theorem keyword_any (cb tb : Nat) (s : ByteArray) (w : World) (hs : s.size ≤ 1000000)
    (h2 : w.cell? ⟨cb, 2, none⟩ = some (.pointer (some ⟨tb, 0, none⟩))) (ht : IsTab w tb) :
    Calls Tryz.prog 179 #[.pointer (some ⟨cb, 0, none⟩), .string s] w fun e w' => e = .returned (.int .i64 (keywordL s.data.toList)) ∧ ∃ n, w' = w.drewN n := by
  have hp := plain_any cb tb s w (by omega) h2 ht
  have hb := plainL_le s.data.toList
  rw [len_data] at hb
  have hv : keywordL s.data.toList = if decide (0 < plainL s.data.toList) && colonL s.data.toList (plainL s.data.toList) then plainL s.data.toList + 1 else 0 := rfl
  generalize hn : plainL s.data.toList = n at *
  have hc := fun w => colon_any s n w (by omega) (by omega)
  generalize colonL s.data.toList n = x at *
  have HP := Lib.hid hp
  have HC := Lib.hid hc
  clear hn hp hc
  by_cases h0 : n = 0
  · subst h0
    have HV := Lib.hid hv
    clear hv
    go_enter Tryz.func179, Tryz.ntmps179
    go_wp2_with fail
    refine HP.out.mono ?_
    rintro e w' ⟨rfl, m0, rfl⟩
    go_wp2
    go_ret
    exact ⟨ret_int (by rw [HV.out]; rfl), _, rfl⟩
  · have p0 : (0 : Int) < n := by omega
    have p1 : (0 < n) := by omega
    have HV := Lib.hid hv
    clear hv
    cases x
    all_goals
      go_enter Tryz.func179, Tryz.ntmps179
      go_wp2_with fail
      refine HP.out.mono ?_
      rintro e w' ⟨rfl, m0, rfl⟩
      go_wp2_with fail
      refine (HC.out _).mono ?_
      rintro e w' ⟨rfl, rfl⟩
      go_wp2
      go_ret
      exact ⟨ret_int (by rw [HV.out]; simp [p1]), _, rfl⟩

set_option maxHeartbeats 400000 in
theorem hash_any (cb : Nat) (s : ByteArray) (w : World) :
    Calls Tryz.prog 180 #[.pointer (some ⟨cb, 0, none⟩), .string s] w fun e w' => e = .returned (.int .i64 (hashL s.data.toList)) ∧ w' = w := by
  have h1 := fun w => Tryz.strings_HasPrefix s ⟨#[35, 116]⟩ w
  have h2 := fun w => Tryz.strings_HasPrefix s ⟨#[35, 102]⟩ w
  have hv : hashL s.data.toList = if Lib.hasPrefix s.data.toList [35, 116] || Lib.hasPrefix s.data.toList [35, 102] then 2 else 0 := rfl
  simp only at h1 h2
  generalize Lib.hasPrefix s.data.toList [35, 116] = x at *
  generalize Lib.hasPrefix s.data.toList [35, 102] = y at *
  have H1 := Lib.hid h1
  have H2 := Lib.hid h2
  have HV := Lib.hid hv
  clear h1 h2 hv
  cases x <;> cases y
  all_goals
    go_enter Tryz.func180, Tryz.ntmps180
    go_wp2_with fail
    refine (H1.out _).mono ?_
    rintro e w' ⟨rfl, rfl⟩
    go_wp2_with (refine (H2.out _).mono ?_; rintro e w' ⟨rfl, rfl⟩)
    go_ret
    exact ⟨ret_int (by rw [HV.out]; rfl), rfl⟩
end Go.Proofs.YtjnimfnelacceaaGreatDoor
namespace Go.Proofs.YtjnimfnelacceaaGreatDoor
open Go.RowKit

/-- The cutter at block cb: its text, where it is, its table, the last token. -/
structure CutAt (w : World) (cb tb : Nat) (s : ByteArray) (at_ : Nat) (lk la ll : Nat) : Prop where
  text : w.cell? ⟨cb, 0, none⟩ = some (.string s)
  pos : w.cell? ⟨cb, 1, none⟩ = some (.int .i64 at_)
  tab : w.cell? ⟨cb, 2, none⟩ = some (.pointer (some ⟨tb, 0, none⟩))
  kind : w.cell? ⟨cb, 3, none⟩ = some (.int .i64 lk)
  lat : w.cell? ⟨cb, 4, none⟩ = some (.int .i64 la)
  llen : w.cell? ⟨cb, 5, none⟩ = some (.int .i64 ll)
  free : ∀ o, w.frozen? ⟨cb, o, none⟩ = false
  isTab : IsTab w tb
  size : s.size ≤ 20000
  le : at_ ≤ s.size
  last : la + ll ≤ s.size

def operL (lk : Nat) (t : List UInt8) : Bool := lk == 1 || lk == 2 || lk == 4 || (lk == 5 && (t == [41] || t == [93]))

theorem int_eq (a b : Nat) : ((a : Int) == (b : Int)) = (a == b) := by rw [Bool.eq_iff_iff, beq_iff_eq, beq_iff_eq]; omega

theorem ext_list (s : ByteArray) (a n : Nat) : (s.extract a (a + n)).toList = (s.data.toList.drop a).take n := by
  rw [Lib.toList_data, Lib.extract_data, Nat.add_sub_cancel_left]

set_option maxHeartbeats 400000 in
theorem operator_any (cb tb : Nat) (s : ByteArray) (p lk la ll : Nat) (w : World) (h : CutAt w cb tb s p lk la ll) :
    Calls Tryz.prog 224 #[.pointer (some ⟨cb, 0, none⟩)] w fun e w' => e = .returned (.bool (operL lk ((s.data.toList.drop la).take ll))) ∧ ∃ n, w' = w.drewN n := by
  obtain ⟨h0, h1, h2, h3, h4, h5, hf, ht, hs, hle, hl⟩ := h
  have i0 : (0 : Int) ≤ la := by omega
  have i1 : (la : Int) ≤ la + ll := by omega
  have i2 : (la : Int) + ll ≤ s.size := by omega
  have e1 := int_eq lk 1
  have e2 := int_eq lk 2
  have e4 := int_eq lk 4
  have e5 := int_eq lk 5
  have hv : operL lk ((s.data.toList.drop la).take ll) = (lk == 1 || lk == 2 || lk == 4 || (lk == 5 && ((s.data.toList.drop la).take ll == [41] || (s.data.toList.drop la).take ll == [93]))) := rfl
  clear ht h1 h2
  generalize (lk == 1) = x1 at *
  generalize (lk == 2) = x2 at *
  generalize (lk == 4) = x4 at *
  generalize (lk == 5) = x5 at *
  have HV := Lib.hid hv
  clear hv
  cases x1
  · cases x2
    · cases x4
      · cases x5
        · go_enter Tryz.func224, Tryz.ntmps224
          go_wp2
          go_ret
          exact ⟨by rw [HV.out]; rfl, 0, rfl⟩
        · have hv := HV.out
          rw [← ext_list] at hv
          clear HV
          by_cases hA : (s.extract la (la + ll)).toList = [41]
          · have HV := Lib.hid hv
            clear hv
            go_enter Tryz.func224, Tryz.ntmps224
            go_wp2
            go_quiet (fail)
            go_wp2
            go_ret
            exact ⟨by rw [← ext_list, HV.out, hA]; rfl, _, rfl⟩
          · by_cases hB : (s.extract la (la + ll)).toList = [93]
            all_goals
              have HV := Lib.hid hv
              clear hv
              go_enter Tryz.func224, Tryz.ntmps224
              go_wp2
              go_quiet (fail)
              go_wp2
              go_ret
              exact ⟨by rw [← ext_list, HV.out]; simp [hA, hB], _, rfl⟩
      all_goals
        go_enter Tryz.func224, Tryz.ntmps224
        go_wp2
        go_ret
        exact ⟨by rw [HV.out]; rfl, 0, rfl⟩
    all_goals
      go_enter Tryz.func224, Tryz.ntmps224
      go_wp2
      go_ret
      exact ⟨by rw [HV.out]; rfl, 0, rfl⟩
  all_goals
    go_enter Tryz.func224, Tryz.ntmps224
    go_wp2
    go_ret
    exact ⟨by rw [HV.out]; rfl, 0, rfl⟩
end Go.Proofs.YtjnimfnelacceaaGreatDoor
namespace Go.Proofs.YtjnimfnelacceaaGreatDoor
open Go.RowKit

theorem ret_str {a b : ByteArray} (h : a = b) : Ending.returned (.string a) = .returned (.string b) := by rw [h]
theorem CutAt.drewN {w : World} {cb tb : Nat} {s : ByteArray} {p lk la ll : Nat} (h : CutAt w cb tb s p lk la ll) (n : Nat) : CutAt (w.drewN n) cb tb s p lk la ll :=
  ⟨h.text, h.pos, h.tab, h.kind, h.lat, h.llen, h.free, h.isTab.drewN n, h.size, h.le, h.last⟩

def integerL (l : List UInt8) (op : Bool) : Nat :=
  if Lib.hasPrefix l [45] && !op then (if 0 < runL clsD (l.drop 1) then 1 + runL clsD (l.drop 1) else 0) else runL clsD l

set_option maxHeartbeats 800000 in
theorem integer_any (cb tb : Nat) (s t : ByteArray) (p lk la ll : Nat) (w : World) (h : CutAt w cb tb s p lk la ll) (hs : t.size ≤ 1000000) :
    Calls Tryz.prog 178 #[.pointer (some ⟨cb, 0, none⟩), .string t] w fun e w' =>
      e = .returned (.int .i64 (integerL t.data.toList (operL lk ((s.data.toList.drop la).take ll)))) ∧ ∃ n, w' = w.drewN n := by
  have h1 := fun w => Tryz.strings_HasPrefix t ⟨#[45]⟩ w
  have ho := fun w h => operator_any cb tb s p lk la ll w h
  have hv : ∀ op, integerL t.data.toList op = if Lib.hasPrefix t.data.toList [45] && !op then (if 0 < runL clsD (t.data.toList.drop 1) then 1 + runL clsD (t.data.toList.drop 1) else 0) else runL clsD t.data.toList := fun _ => rfl
  have hx1 : Lib.hasPrefix t.data.toList [45] = true → 1 ≤ t.size := by
    intro hh
    rw [← len_data]
    cases hl : t.data.toList with
    | nil => rw [hl] at hh; simp [Lib.hasPrefix] at hh
    | cons => simp
  simp only at h1
  generalize Lib.hasPrefix t.data.toList [45] = x at *
  generalize operL lk ((s.data.toList.drop la).take ll) = y at *
  have hv := hv y
  have H1 := Lib.hid h1
  have HO := Lib.hid ho
  have HX := Lib.hid hx1
  have HC := Lib.hid h
  clear h1 ho hx1 h
  have k0 : ∀ (w' : World), CutAt w' cb tb s p lk la ll → Calls Tryz.prog 222 #[.pointer (some ⟨cb, 0, none⟩), .string t, .int .i64 1] w' fun e w'' => e = .returned (.int .i64 (runL clsD t.data.toList)) ∧ ∃ n, w'' = w'.drewN n := by
    intro w' hw
    refine (all_any cb tb t clsD 1 w' (by omega) (by omega) hw.tab (fun x hx => hw.isTab.at_ 1 x (by omega) hx)).mono ?_
    rintro e w'' ⟨rfl, hn⟩
    exact ⟨rfl, hn⟩
  have k1 : ∀ (w' : World), 1 ≤ t.size → CutAt w' cb tb s p lk la ll → Calls Tryz.prog 222 #[.pointer (some ⟨cb, 0, none⟩), .string (t.extract 1 t.size), .int .i64 1] w' fun e w'' => e = .returned (.int .i64 (runL clsD (t.data.toList.drop 1))) ∧ ∃ n, w'' = w'.drewN n := by
    intro w' hm hw
    refine (all_any cb tb (t.extract 1 t.size) clsD 1 w' (by rw [ByteArray.size_extract]; omega) (by omega) hw.tab (fun x hx => hw.isTab.at_ 1 x (by omega) hx)).mono ?_
    rintro e w'' ⟨rfl, hn⟩
    rw [runLen_eq, Lib.extract_to_end]
    exact ⟨rfl, hn⟩
  have b0 := runL_le clsD t.data.toList
  have b1 := runL_le clsD (t.data.toList.drop 1)
  rw [List.length_drop] at b1
  rw [len_data] at b0 b1
  generalize runL clsD t.data.toList = q at *
  generalize runL clsD (t.data.toList.drop 1) = r at *
  have K0 := Lib.hid k0
  have K1 := Lib.hid k1
  clear k0 k1
  cases x
  · simp only [Bool.false_and, Bool.false_eq_true, if_false] at hv
    have HV := Lib.hid hv
    clear hv
    by_cases q0 : q = 0
    · subst q0
      go_enter Tryz.func178, Tryz.ntmps178
      go_wp2_with fail
      refine (H1.out _).mono ?_
      rintro e w' ⟨rfl, rfl⟩
      go_wp2_with fail
      refine (K0.out _ HC.out).mono ?_
      rintro e w'' ⟨rfl, m1, rfl⟩
      go_wp2
      go_ret
      exact ⟨ret_int (by rw [HV.out]; rfl), _, rfl⟩
    · have q1 : (0 : Int) < q := by omega
      go_enter Tryz.func178, Tryz.ntmps178
      go_wp2_with fail
      refine (H1.out _).mono ?_
      rintro e w' ⟨rfl, rfl⟩
      go_wp2_with fail
      refine (K0.out _ HC.out).mono ?_
      rintro e w'' ⟨rfl, m1, rfl⟩
      go_wp2
      go_ret
      exact ⟨ret_int (by rw [HV.out]), _, rfl⟩
  · have hsz := HX.out rfl
    have hsz' : (1 : Int) ≤ t.size := by omega
    cases y
    · simp only [Bool.not_false, Bool.and_self, if_true] at hv
      have HV := Lib.hid hv
      clear hv
      by_cases r0 : r = 0
      · subst r0
        go_enter Tryz.func178, Tryz.ntmps178
        go_wp2_with fail
        refine (H1.out _).mono ?_
        rintro e w' ⟨rfl, rfl⟩
        go_wp2_with fail
        refine (HO.out _ HC.out).mono ?_
        rintro e w'' ⟨rfl, m1, rfl⟩
        go_wp2_with fail
        refine (K1.out _ hsz (HC.out.drewN _)).mono ?_
        rintro e w'' ⟨rfl, m2, rfl⟩
        go_wp2
        go_ret
        exact ⟨ret_int (by rw [HV.out]; rfl), _, rfl⟩
      · have r1 : (0 : Int) < r := by omega
        have r2 : 0 < r := by omega
        go_enter Tryz.func178, Tryz.ntmps178
        go_wp2_with fail
        refine (H1.out _).mono ?_
        rintro e w' ⟨rfl, rfl⟩
        go_wp2_with fail
        refine (HO.out _ HC.out).mono ?_
        rintro e w'' ⟨rfl, m1, rfl⟩
        go_wp2_with fail
        refine (K1.out _ hsz (HC.out.drewN _)).mono ?_
        rintro e w'' ⟨rfl, m2, rfl⟩
        go_wp2
        go_ret
        exact ⟨ret_int (by rw [HV.out, if_pos r2]; rfl), _, rfl⟩
    · simp only [Bool.not_true, Bool.and_false, Bool.false_eq_true, if_false] at hv
      have HV := Lib.hid hv
      clear hv
      by_cases q0 : q = 0
      · subst q0
        go_enter Tryz.func178, Tryz.ntmps178
        go_wp2_with fail
        refine (H1.out _).mono ?_
        rintro e w' ⟨rfl, rfl⟩
        go_wp2_with fail
        refine (HO.out _ HC.out).mono ?_
        rintro e w'' ⟨rfl, m1, rfl⟩
        go_wp2_with fail
        refine (K0.out _ (HC.out.drewN _)).mono ?_
        rintro e w'' ⟨rfl, m2, rfl⟩
        go_wp2
        go_ret
        exact ⟨ret_int (by rw [HV.out]; rfl), _, rfl⟩
      · have q1 : (0 : Int) < q := by omega
        go_enter Tryz.func178, Tryz.ntmps178
        go_wp2_with fail
        refine (H1.out _).mono ?_
        rintro e w' ⟨rfl, rfl⟩
        go_wp2_with fail
        refine (HO.out _ HC.out).mono ?_
        rintro e w'' ⟨rfl, m1, rfl⟩
        go_wp2_with fail
        refine (K0.out _ (HC.out.drewN _)).mono ?_
        rintro e w'' ⟨rfl, m2, rfl⟩
        go_wp2
        go_ret
        exact ⟨ret_int (by rw [HV.out]), _, rfl⟩

set_option maxHeartbeats 400000 in
theorem starts_any (cb : Nat) (s p : ByteArray) (k : Nat) (w : World) (h0 : w.cell? ⟨cb, 0, none⟩ = some (.string s)) (h1 : w.cell? ⟨cb, 1, none⟩ = some (.int .i64 k)) (hk : k ≤ s.size) (hs : s.size ≤ 1000000) :
    Calls Tryz.prog 183 #[.pointer (some ⟨cb, 0, none⟩), .string p] w fun e w' => e = .returned (.bool (Lib.hasPrefix (s.data.toList.drop k) p.data.toList)) ∧ ∃ n, w' = w.drewN n := by
  have hp := fun w => Tryz.strings_HasPrefix (s.extract k s.size) p w
  rw [Lib.extract_to_end] at hp
  have HP := Lib.hid hp
  clear hp
  have i0 : (0 : Int) ≤ k := by omega
  have i1 : (k : Int) ≤ s.size := by omega
  go_enter Tryz.func183, Tryz.ntmps183
  go_wp2
  go_quiet ((exact Calls.quiet_of_same (HP.out _)))
  go_wp2
  go_ret
  exact ⟨rfl, _, rfl⟩

set_option maxHeartbeats 400000 in
theorem ahead_any (cb : Nat) (s : ByteArray) (k : Nat) (w : World) (h0 : w.cell? ⟨cb, 0, none⟩ = some (.string s)) (h1 : w.cell? ⟨cb, 1, none⟩ = some (.int .i64 k)) (hk : k ≤ s.size) (hs : s.size ≤ 1000000) :
    Calls Tryz.prog 226 #[.pointer (some ⟨cb, 0, none⟩)] w fun e w' => e = .returned (.string (s.extract k (min s.size (k + 100)))) ∧ ∃ n, w' = w.drewN n := by
  have i0 : (0 : Int) ≤ k := by omega
  have i1 : (k : Int) ≤ s.size := by omega
  go_enter Tryz.func226, Tryz.ntmps226
  go_wp2
  go_quiet (fail)
  go_wp2
  go_ret
  exact ⟨ret_str (by rw [show (min (s.size : Int) ((k : Int) + 100)).toNat = min s.size (k + 100) from by omega]), _, rfl⟩
end Go.Proofs.YtjnimfnelacceaaGreatDoor
namespace Go.Proofs.YtjnimfnelacceaaGreatDoor
open Go.RowKit

def patternL (l : List UInt8) : Nat :=
  if Lib.hasPrefix l [63] then
    (if plainL (l.drop 1) = 0 then 0 else
      if colonL l (plainL (l.drop 1) + 1) then
        (if 0 < plainL (l.drop (plainL (l.drop 1) + 1 + 1)) then plainL (l.drop 1) + 1 + 1 + plainL (l.drop (plainL (l.drop 1) + 1 + 1)) else plainL (l.drop 1) + 1)
      else plainL (l.drop 1) + 1)
  else 0

theorem colonL_lt {l : List UInt8} {n : Nat} (h : colonL l n = true) : n < l.length := by
  unfold colonL at h
  cases hd : l.drop n with
  | nil => rw [hd] at h; simp at h
  | cons c r =>
    have := congrArg List.length hd
    simp only [List.length_drop, List.length_cons] at this
    omega

set_option maxHeartbeats 1600000 in
theorem pattern_any (cb tb : Nat) (t : ByteArray) (w : World) (hs : t.size ≤ 1000000)
    (h2 : w.cell? ⟨cb, 2, none⟩ = some (.pointer (some ⟨tb, 0, none⟩))) (ht : IsTab w tb) :
    Calls Tryz.prog 182 #[.pointer (some ⟨cb, 0, none⟩), .string t] w fun e w' => e = .returned (.int .i64 (patternL t.data.toList)) ∧ ∃ n, w' = w.drewN n := by
  have h1 := fun w => Tryz.strings_HasPrefix t ⟨#[63]⟩ w
  have hx1 : Lib.hasPrefix t.data.toList [63] = true → 1 ≤ t.size := by
    intro hh
    rw [← len_data]
    cases hl : t.data.toList with
    | nil => rw [hl] at hh; simp [Lib.hasPrefix] at hh
    | cons => simp
  have kp : ∀ (m k : Nat), m ≤ t.size → Calls Tryz.prog 221 #[.pointer (some ⟨cb, 0, none⟩), .string (t.extract m t.size)] (w.drewN k) fun e w'' => e = .returned (.int .i64 (plainL (t.data.toList.drop m))) ∧ ∃ n, w'' = w.drewN n := by
    intro m k hm
    refine (plain_any cb tb (t.extract m t.size) (w.drewN k) (by rw [ByteArray.size_extract]; omega) (by rw [World.cell?_drewN]; exact h2) (ht.drewN k)).mono ?_
    rintro e w'' ⟨rfl, n, rfl⟩
    rw [Lib.extract_to_end]
    exact ⟨rfl, _, World.drewN_drewN ..⟩
  have hv : patternL t.data.toList = if Lib.hasPrefix t.data.toList [63] then
    (if plainL (t.data.toList.drop 1) = 0 then 0 else
      if colonL t.data.toList (plainL (t.data.toList.drop 1) + 1) then
        (if 0 < plainL (t.data.toList.drop (plainL (t.data.toList.drop 1) + 1 + 1)) then plainL (t.data.toList.drop 1) + 1 + 1 + plainL (t.data.toList.drop (plainL (t.data.toList.drop 1) + 1 + 1)) else plainL (t.data.toList.drop 1) + 1)
      else plainL (t.data.toList.drop 1) + 1)
    else 0 := rfl
  simp only at h1
  generalize Lib.hasPrefix t.data.toList [63] = x at *
  have H1 := Lib.hid h1
  clear h1 h2 ht
  cases x
  · clear kp
    simp only [Bool.false_eq_true, if_false] at hv
    have HV := Lib.hid hv
    clear hv
    go_enter Tryz.func182, Tryz.ntmps182
    go_wp2_with fail
    refine (H1.out _).mono ?_
    rintro e w' ⟨rfl, rfl⟩
    go_wp2
    go_ret
    exact ⟨ret_int (by rw [HV.out]; rfl), 0, rfl⟩
  · have hsz := hx1 rfl
    have hsz' : (1 : Int) ≤ t.size := by omega
    simp only [if_true] at hv
    have b1 := plainL_le (t.data.toList.drop 1)
    rw [List.length_drop, len_data] at b1
    have k1 := kp 1 0 (by omega)
    generalize plainL (t.data.toList.drop 1) = n at *
    have K1 := Lib.hid k1
    have KP := Lib.hid kp
    clear k1 kp
    by_cases n0 : n = 0
    · subst n0
      simp only [if_true] at hv
      have HV := Lib.hid hv
      clear hv
      go_enter Tryz.func182, Tryz.ntmps182
      go_wp2_with fail
      refine (H1.out _).mono ?_
      rintro e w' ⟨rfl, rfl⟩
      go_wp2_with fail
      refine K1.out.mono ?_
      rintro e w' ⟨rfl, m1, rfl⟩
      go_wp2
      go_ret
      exact ⟨ret_int (by rw [HV.out]; rfl), _, rfl⟩
    · rw [if_neg n0] at hv
      have n1 : ((n : Int) == 0) = false := by rw [beq_eq_false_iff_ne]; omega
      have hc := fun w => colon_any t (n + 1) w (by omega) (by omega)
      have hcl : colonL t.data.toList (n + 1) = true → n + 1 + 1 ≤ t.size := fun h => by have := colonL_lt h; rw [len_data] at this; omega
      generalize colonL t.data.toList (n + 1) = y at *
      have HC := Lib.hid hc
      clear hc
      cases y
      · simp only [Bool.false_eq_true, if_false] at hv
        have HV := Lib.hid hv
        clear hv
        go_enter Tryz.func182, Tryz.ntmps182
        go_wp2_with fail
        refine (H1.out _).mono ?_
        rintro e w' ⟨rfl, rfl⟩
        go_wp2_with fail
        refine K1.out.mono ?_
        rintro e w' ⟨rfl, m1, rfl⟩
        go_wp2_with fail
        refine (HC.out _).mono ?_
        rintro e w' ⟨rfl, rfl⟩
        go_wp2
        go_ret
        exact ⟨ret_int (by rw [HV.out]; omega), _, rfl⟩
      · have hcl := hcl rfl
        have hcl' : (n : Int) + 1 + 1 ≤ t.size := by omega
        simp only [if_true] at hv
        have b2 := plainL_le (t.data.toList.drop (n + 1 + 1))
        rw [List.length_drop, len_data] at b2
        have k2 := fun k => KP.out (n + 1 + 1) k hcl
        generalize plainL (t.data.toList.drop (n + 1 + 1)) = r at *
        have K2 := Lib.hid k2
        clear k2
        by_cases r0 : r = 0
        · subst r0
          have HV := Lib.hid hv
          clear hv
          go_enter Tryz.func182, Tryz.ntmps182
          go_wp2_with fail
          refine (H1.out _).mono ?_
          rintro e w' ⟨rfl, rfl⟩
          go_wp2_with fail
          refine K1.out.mono ?_
          rintro e w' ⟨rfl, m1, rfl⟩
          go_wp2_with fail
          refine (HC.out _).mono ?_
          rintro e w' ⟨rfl, rfl⟩
          go_wp2_with fail
          refine (K2.out _).mono ?_
          rintro e w' ⟨rfl, m2, rfl⟩
          go_wp2
          go_ret
          exact ⟨ret_int (by rw [HV.out]; simp), _, rfl⟩
        · have r1 : (0 : Int) < r := by omega
          have r2 : 0 < r := by omega
          have HV := Lib.hid hv
          clear hv
          go_enter Tryz.func182, Tryz.ntmps182
          go_wp2_with fail
          refine (H1.out _).mono ?_
          rintro e w' ⟨rfl, rfl⟩
          go_wp2_with fail
          refine K1.out.mono ?_
          rintro e w' ⟨rfl, m1, rfl⟩
          go_wp2_with fail
          refine (HC.out _).mono ?_
          rintro e w' ⟨rfl, rfl⟩
          go_wp2_with fail
          refine (K2.out _).mono ?_
          rintro e w' ⟨rfl, m2, rfl⟩
          go_wp2
          go_ret
          exact ⟨ret_int (by rw [HV.out, if_pos r2]; omega), _, rfl⟩

/-- The way out: the error at the piece. -/
def wrongV (at_ e : Nat) : Value := .iface 169 (.agg #[.int .i64 at_, .int .i64 e])
set_option maxHeartbeats 400000 in
theorem fail_any (cb k : Nat) (er : Nat) (w : World) (h1 : w.cell? ⟨cb, 1, none⟩ = some (.int .i64 k)) :
    Calls Tryz.prog 149 #[.pointer (some ⟨cb, 0, none⟩), .int .i64 er] w fun e w' => e = .panicked [{ v := wrongV k er, recovered := false }] ∧ w' = w := by
  go_enter Tryz.func149, Tryz.ntmps149
  go_wp2
  exact ⟨rfl, rfl, rfl⟩
end Go.Proofs.YtjnimfnelacceaaGreatDoor
namespace Go.Proofs.YtjnimfnelacceaaGreatDoor
open Go.RowKit

def twos : List (List UInt8) := [[58, 61], [58, 58], [61, 62], [61, 61], [60, 61], [62, 61]]
def ones : List UInt8 := [40, 41, 91, 93, 123, 125, 44, 59, 46, 61, 60, 62, 43, 45, 42, 47, 38, 124, 126, 63]
def signL (l : List UInt8) : Nat :=
  if twos.any (Lib.hasPrefix l) then 2 else match l with | [] => 0 | b :: _ => if decide ((0 : Int) ≤ Lib.indexByte ones b) then 1 else 0

theorem pref_is (t p : ByteArray) (b : Bool) (h : Lib.hasPrefix t.data.toList p.data.toList = b) (w : World) :
    Calls Tryz.prog 223 #[.string t, .string p] w fun e w' => e = .returned (.bool b) ∧ w' = w := by rw [← h]; exact Tryz.strings_HasPrefix t p w

theorem one_is (b : UInt8) (r : Int) (h : Lib.indexByte ones b = r) (w : World) :
    Calls Tryz.prog 145 #[.string ⟨#[40, 41, 91, 93, 123, 125, 44, 59, 46, 61, 60, 62, 43, 45, 42, 47, 38, 124, 126, 63]⟩, .int .u8 (b.toNat : Int)] w fun e w' => e = .returned (.int .i64 r) ∧ w' = w := by
  have := Tryz.strings_IndexByte ⟨#[40, 41, 91, 93, 123, 125, 44, 59, 46, 61, 60, 62, 43, 45, 42, 47, 38, 124, 126, 63]⟩ (b.toNat : Int) w
  rw [Int.toNat_natCast, show b.toNat.toUInt8 = b from by simp] at this
  rw [← h]
  exact this

theorem twos_step (l p : List UInt8) (k : Nat) (hk : twos[k]? = some p) (h : (twos.take k).any (Lib.hasPrefix l) = false) (hp : Lib.hasPrefix l p = false) : (twos.take (k + 1)).any (Lib.hasPrefix l) = false := by
  rw [List.take_add_one, hk, List.any_append, h, Bool.false_or]
  simp [hp]
theorem twos_yes (l p : List UInt8) (k : Nat) (hk : twos[k]? = some p) (hp : Lib.hasPrefix l p = true) : signL l = 2 := by
  unfold signL
  rw [if_pos]
  rw [List.any_eq_true]
  exact ⟨p, List.mem_of_getElem? hk, hp⟩

set_option maxHeartbeats 4000000 in
theorem sign_any (cb : Nat) (t : ByteArray) (w : World) (hs : t.size ≤ 1000000) :
    Calls Tryz.prog 181 #[.pointer (some ⟨cb, 0, none⟩), .string t] w fun e w' => e = .returned (.int .i64 (signL t.data.toList)) ∧ Below w.heap.size w w' := by
  go_enter Tryz.func181, Tryz.ntmps181
  go_wp2
  go_loop [6, 9] (fun _ i => ∃ k : Nat, k ≤ 6 ∧ i = .int .i64 k ∧ (twos.take k).any (Lib.hasPrefix t.data.toList) = false) (fun _ i => 6 - (intOf i).toNat)
  case atStart => exact ⟨0, by omega, rfl, rfl⟩
  case round =>
    obtain ⟨k, hk, rfl, hr⟩ := hrel
    have HR := Lib.hid hr
    clear hr
    rcases (by omega : k = 0 ∨ k = 1 ∨ k = 2 ∨ k = 3 ∨ k = 4 ∨ k = 5 ∨ k = 6) with rfl | rfl | rfl | rfl | rfl | rfl | rfl
    · cases hx : Lib.hasPrefix t.data.toList [58, 61]
      · have HX := Lib.hid (twos_step _ _ 0 rfl HR.out hx)
        have HP := Lib.hid hx
        clear hx
        go_wp2_with fail
        refine (pref_is t _ false (by exact HP.out) _).mono ?_
        rintro e w' ⟨rfl, rfl⟩
        go_wp2
        go_round
        case rel => exact ⟨1, by omega, by go_num, HX.out⟩
        case measure => simp [intOf]
      · have HX := Lib.hid (twos_yes _ _ 0 rfl hx)
        have HP := Lib.hid hx
        clear hx
        go_wp2_with fail
        refine (pref_is t _ true (by exact HP.out) _).mono ?_
        rintro e w' ⟨rfl, rfl⟩
        go_wp2
        go_ret
        exact ⟨ret_int (by rw [HX.out]; rfl), (Below.refl _ _).alloc (Nat.le_refl _) _⟩
    · cases hx : Lib.hasPrefix t.data.toList [58, 58]
      · have HX := Lib.hid (twos_step _ _ 1 rfl HR.out hx)
        have HP := Lib.hid hx
        clear hx
        go_wp2_with fail
        refine (pref_is t _ false (by exact HP.out) _).mono ?_
        rintro e w' ⟨rfl, rfl⟩
        go_wp2
        go_round
        case rel => exact ⟨2, by omega, by go_num, HX.out⟩
        case measure => simp [intOf]
      · have HX := Lib.hid (twos_yes _ _ 1 rfl hx)
        have HP := Lib.hid hx
        clear hx
        go_wp2_with fail
        refine (pref_is t _ true (by exact HP.out) _).mono ?_
        rintro e w' ⟨rfl, rfl⟩
        go_wp2
        go_ret
        exact ⟨ret_int (by rw [HX.out]; rfl), (Below.refl _ _).alloc (Nat.le_refl _) _⟩
    · cases hx : Lib.hasPrefix t.data.toList [61, 62]
      · have HX := Lib.hid (twos_step _ _ 2 rfl HR.out hx)
        have HP := Lib.hid hx
        clear hx
        go_wp2_with fail
        refine (pref_is t _ false (by exact HP.out) _).mono ?_
        rintro e w' ⟨rfl, rfl⟩
        go_wp2
        go_round
        case rel => exact ⟨3, by omega, by go_num, HX.out⟩
        case measure => simp [intOf]
      · have HX := Lib.hid (twos_yes _ _ 2 rfl hx)
        have HP := Lib.hid hx
        clear hx
        go_wp2_with fail
        refine (pref_is t _ true (by exact HP.out) _).mono ?_
        rintro e w' ⟨rfl, rfl⟩
        go_wp2
        go_ret
        exact ⟨ret_int (by rw [HX.out]; rfl), (Below.refl _ _).alloc (Nat.le_refl _) _⟩
    · cases hx : Lib.hasPrefix t.data.toList [61, 61]
      · have HX := Lib.hid (twos_step _ _ 3 rfl HR.out hx)
        have HP := Lib.hid hx
        clear hx
        go_wp2_with fail
        refine (pref_is t _ false (by exact HP.out) _).mono ?_
        rintro e w' ⟨rfl, rfl⟩
        go_wp2
        go_round
        case rel => exact ⟨4, by omega, by go_num, HX.out⟩
        case measure => simp [intOf]
      · have HX := Lib.hid (twos_yes _ _ 3 rfl hx)
        have HP := Lib.hid hx
        clear hx
        go_wp2_with fail
        refine (pref_is t _ true (by exact HP.out) _).mono ?_
        rintro e w' ⟨rfl, rfl⟩
        go_wp2
        go_ret
        exact ⟨ret_int (by rw [HX.out]; rfl), (Below.refl _ _).alloc (Nat.le_refl _) _⟩
    · cases hx : Lib.hasPrefix t.data.toList [60, 61]
      · have HX := Lib.hid (twos_step _ _ 4 rfl HR.out hx)
        have HP := Lib.hid hx
        clear hx
        go_wp2_with fail
        refine (pref_is t _ false (by exact HP.out) _).mono ?_
        rintro e w' ⟨rfl, rfl⟩
        go_wp2
        go_round
        case rel => exact ⟨5, by omega, by go_num, HX.out⟩
        case measure => simp [intOf]
      · have HX := Lib.hid (twos_yes _ _ 4 rfl hx)
        have HP := Lib.hid hx
        clear hx
        go_wp2_with fail
        refine (pref_is t _ true (by exact HP.out) _).mono ?_
        rintro e w' ⟨rfl, rfl⟩
        go_wp2
        go_ret
        exact ⟨ret_int (by rw [HX.out]; rfl), (Below.refl _ _).alloc (Nat.le_refl _) _⟩
    · cases hx : Lib.hasPrefix t.data.toList [62, 61]
      · have HX := Lib.hid (twos_step _ _ 5 rfl HR.out hx)
        have HP := Lib.hid hx
        clear hx
        go_wp2_with fail
        refine (pref_is t _ false (by exact HP.out) _).mono ?_
        rintro e w' ⟨rfl, rfl⟩
        go_wp2
        go_round
        case rel => exact ⟨6, by omega, by go_num, HX.out⟩
        case measure => simp [intOf]
      · have HX := Lib.hid (twos_yes _ _ 5 rfl hx)
        have HP := Lib.hid hx
        clear hx
        go_wp2_with fail
        refine (pref_is t _ true (by exact HP.out) _).mono ?_
        rintro e w' ⟨rfl, rfl⟩
        go_wp2
        go_ret
        exact ⟨ret_int (by rw [HX.out]; rfl), (Below.refl _ _).alloc (Nat.le_refl _) _⟩
    · by_cases h0 : 0 < t.size
      · have h1 : t.toList.isEmpty = false := str_some t h0
        have hv : signL t.data.toList = if (0 : Int) ≤ Lib.indexByte ones t[0] then 1 else 0 := by
          have hl := drop_data t 0 h0
          rw [List.drop_zero] at hl
          unfold signL
          rw [if_neg (by rw [show twos.any (Lib.hasPrefix t.data.toList) = (twos.take 6).any (Lib.hasPrefix t.data.toList) from rfl, HR.out]; decide), hl]
          simp
        generalize hr : Lib.indexByte ones t[0] = r at hv
        have HO := Lib.hid hr
        have HV := Lib.hid hv
        clear hr hv HR
        by_cases r0 : (0 : Int) ≤ r
        · go_wp2_with fail
          refine (one_is _ r HO.out _).mono ?_
          rintro e w' ⟨rfl, rfl⟩
          go_wp2
          go_ret
          exact ⟨ret_int (by rw [HV.out, if_pos (by omega)]; rfl), (Below.refl _ _).alloc (Nat.le_refl _) _⟩
        · go_wp2_with fail
          refine (one_is _ r HO.out _).mono ?_
          rintro e w' ⟨rfl, rfl⟩
          go_wp2
          go_ret
          exact ⟨ret_int (by rw [HV.out, if_neg (by omega)]; rfl), (Below.refl _ _).alloc (Nat.le_refl _) _⟩
      · have h1 : t.data.toList = [] := List.eq_nil_of_length_eq_zero (by rw [len_data]; omega)
        have h2 : t.toList = [] := by rw [Lib.toList_data, h1]
        have hv : signL t.data.toList = 0 := by
          unfold signL
          rw [if_neg (by rw [show twos.any (Lib.hasPrefix t.data.toList) = (twos.take 6).any (Lib.hasPrefix t.data.toList) from rfl, HR.out]; decide), h1]
        have HV := Lib.hid hv
        clear hv h1 HR
        go_wp2
        go_ret
        exact ⟨ret_int (by rw [HV.out]; rfl), (Below.refl _ _).alloc (Nat.le_refl _) _⟩
end Go.Proofs.YtjnimfnelacceaaGreatDoor
