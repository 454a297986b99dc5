/- The cutter's leaves: how many bytes at the beginning of a string are of a class. The cutter's plain names. -/
import Derived.Test.YtjnimfnelacceaaGreatDoorProg
import Derived.WalkKit
import Derived.WalkSpells
import Derived.WalkLawsBesides
import Derived.Deep.QuietTactic
import Derived.BigQuiet
import Derived.Lib.Hide
import Derived.Lib.Strings
set_option linter.unusedSimpArgs false
set_option linter.unusedVariables false
namespace Go.Proofs.YtjnimfnelacceaaGreatDoor
open Go.RowKit

def runLen (f : Nat → Bool) (s : ByteArray) : Nat := (s.data.toList.takeWhile fun b => f b.toNat).length

theorem takeWhile_len_step {α : Type} (p : α → Bool) : ∀ (l : List α) (k : Nat) (h : k < l.length), k ≤ (l.takeWhile p).length → p l[k] = true → k + 1 ≤ (l.takeWhile p).length
  | [], _, h, _, _ => by simp at h
  | x :: r, k, h, hk, hp => by
    cases hx : p x with
    | false => simp [List.takeWhile_cons, hx] at hk; subst hk; simp [hx] at hp
    | true =>
      simp only [List.takeWhile_cons, hx, if_true, List.length_cons] at hk ⊢
      cases k with
      | zero => omega
      | succ k => have := takeWhile_len_step p r k (by simpa using h) (by omega) (by simpa using hp); omega
theorem takeWhile_len_stop {α : Type} (p : α → Bool) : ∀ (l : List α) (k : Nat) (h : k < l.length), k ≤ (l.takeWhile p).length → p l[k] = false → (l.takeWhile p).length = k
  | [], _, h, _, _ => by simp at h
  | x :: r, k, h, hk, hp => by
    cases hx : p x with
    | false => simp [List.takeWhile_cons, hx] at hk ⊢; omega
    | true =>
      simp only [List.takeWhile_cons, hx, if_true, List.length_cons] at hk ⊢
      cases k with
      | zero => simp [hx] at hp
      | succ k => have := takeWhile_len_stop p r k (by simpa using h) (by omega) (by simpa using hp); omega
theorem runLen_le (f : Nat → Bool) (s : ByteArray) : runLen f s ≤ s.size := by
  have h := (List.takeWhile_sublist (fun b : UInt8 => f b.toNat) (l := s.data.toList)).length_le
  have e : s.data.toList.length = s.size := by show s.data.toList.length = s.data.size; simp
  unfold runLen
  omega
theorem ret_int {k : IntKind} {a b : Int} (h : a = b) : Ending.returned (.int k a) = .returned (.int k b) := by rw [h]
theorem runLen_step (f : Nat → Bool) (s : ByteArray) (k : Nat) (h : k < s.size) (hk : k ≤ runLen f s) (hf : f s[k].toNat = true) : k + 1 ≤ runLen f s :=
  takeWhile_len_step _ s.data.toList k (by simpa using h) hk (by simpa using (show f (s.data[k]'h).toNat = true from hf))
theorem runLen_stop (f : Nat → Bool) (s : ByteArray) (k : Nat) (h : k < s.size) (hk : k ≤ runLen f s) (hf : f s[k].toNat = false) : runLen f s = k :=
  takeWhile_len_stop _ s.data.toList k (by simpa using h) hk (by simpa using (show f (s.data[k]'h).toNat = false from hf))

set_option maxHeartbeats 400000 in
theorem all_any (cb tb : Nat) (s : ByteArray) (f : Nat → Bool) (c : Nat) (w : World) (hs : s.size ≤ 9223372036854775807) (hc : c < 6)
    (h2 : w.cell? ⟨cb, 2, none⟩ = some (.pointer (some ⟨tb, 0, none⟩))) (ht : ∀ x, x < 256 → w.cell? ⟨tb, c * 256 + x, none⟩ = some (.bool (f x))) :
    Calls Tryz.prog 222 #[.pointer (some ⟨cb, 0, none⟩), .string s, .int .i64 c] w fun e w' => e = .returned (.int .i64 (runLen f s)) ∧ ∃ n, w' = w.drewN n := by
  have c0 : (0 : Int) ≤ c := by omega
  have c1 : (c : Int) < 6 := by omega
  go_enter Tryz.func222, Tryz.ntmps222
  go_wp2
  go_loopw [7] (fun v wr => ∃ k : Nat, k ≤ s.size ∧ v = .int .i64 k ∧ k ≤ runLen f s ∧ ∃ m, wr = w.drewN m) (fun v _ => s.size - (intOf v).toNat)
  case atStart => exact ⟨0, Nat.zero_le _, rfl, Nat.zero_le _, 0, rfl⟩
  case round =>
    obtain ⟨k, hk, rfl, hr, m, rfl⟩ := hrel
    by_cases hlt : k < s.size
    · have hd : decide ((k : Int) < s.size) = true := by simpa using hlt
      have b1 : (s[k].toNat : Int) < 256 := by have := s[k].toNat_lt; omega
      have ht' := ht s[k].toNat (by omega)
      cases hf : f s[k].toNat with
      | true =>
        rw [hf] at ht'
        have HF := Lib.hid hf
        clear hf
        go_wp2
        go_quiet (fail)
        clear b1 ht' ht
        go_wp2
        go_roundw
        case rel => exact ⟨k + 1, by omega, by go_num, runLen_step f s k hlt hr HF.out, _, rfl⟩
        case measure => simp [intOf]; omega
      | false =>
        rw [hf] at ht'
        have HF := Lib.hid hf
        clear hf
        go_wp2
        go_quiet (fail)
        clear b1 ht' ht
        go_wp2
        go_ret
        exact ⟨ret_int (by rw [runLen_stop f s k hlt hr HF.out]), _, World.drewN_drewN ..⟩
    · have hd : decide ((k : Int) < s.size) = false := by simpa using hlt
      have he : runLen f s = k := by have := runLen_le f s; omega
      have HE := Lib.hid he
      clear he hr ht
      go_wp2
      go_quiet (fail)
      go_wp2
      go_ret
      exact ⟨ret_int (by rw [HE.out]), _, World.drewN_drewN ..⟩
end Go.Proofs.YtjnimfnelacceaaGreatDoor
namespace Go.Proofs.YtjnimfnelacceaaGreatDoor
open Go.RowKit

/-- The classes of bytes: L, D, W, F, B, Q. -/
def clsL (x : Nat) : Bool := 97 ≤ x && x ≤ 122
def clsD (x : Nat) : Bool := 48 ≤ x && x ≤ 57
def clsOf (l : List Nat) (x : Nat) : Bool := l.contains x
def wsigns : List Nat := [33, 36, 38, 42, 60, 62, 124, 94, 37, 95, 126, 63, 43, 45, 47, 61]
def clsW (x : Nat) : Bool := clsL x || clsD x || clsOf wsigns x
def clsF (x : Nat) : Bool := clsW x && !clsOf [43, 45, 47, 61] x
def clsB (x : Nat) : Bool := clsOf [60, 36, 37, 42, 95] x
def clsQ (x : Nat) : Bool := clsL x || clsD x || x == 45
def cls (c x : Nat) : Bool := match c with | 0 => clsL x | 1 => clsD x | 2 => clsW x | 3 => clsF x | 4 => clsB x | _ => clsQ x

/-- The block holds the table. -/
structure IsTab (w : World) (tb : Nat) : Prop where
  at_ : ∀ c x, c < 6 → x < 256 → w.cell? ⟨tb, c * 256 + x, none⟩ = some (.bool (cls c x))

theorem IsTab.drewN {w : World} {tb : Nat} (h : IsTab w tb) (n : Nat) : IsTab (w.drewN n) tb := ⟨fun c x hc hx => by rw [World.cell?_drewN]; exact h.at_ c x hc hx⟩

def plainAux : List UInt8 → Nat → Bool → Nat → Nat
  | [], _, _, n => n
  | b :: r, i, letter, n => plainAux r (i + 1) (letter || clsL b.toNat) (if letter || clsL b.toNat then (if clsF b.toNat then i + 1 else n) else n)
def plainLen (s : ByteArray) : Nat :=
  match s.data.toList with
  | [] => 0
  | b :: _ => if clsL b.toNat || clsB b.toNat then plainAux (s.data.toList.takeWhile fun b => clsW b.toNat) 0 false 0 else 0

theorem str_some (s : ByteArray) (h : 0 < s.size) : s.toList.isEmpty = false := by
  rw [Lib.toList_data]
  have e : s.data.toList.length = s.size := by show s.data.toList.length = s.data.size; simp
  cases h1 : s.data.toList with
  | nil => rw [h1] at e; simp at e; omega
  | cons => rfl

set_option maxHeartbeats 400000 in
theorem plain_none (cb tb : Nat) (w : World) (h2 : w.cell? ⟨cb, 2, none⟩ = some (.pointer (some ⟨tb, 0, none⟩))) :
    Calls Tryz.prog 221 #[.pointer (some ⟨cb, 0, none⟩), .string ⟨#[]⟩] w fun e w' => e = .returned (.int .i64 0) ∧ ∃ n, w' = w.drewN n := by
  go_enter Tryz.func221, Tryz.ntmps221
  go_wp2
  go_quiet (fail)
  go_wp2
  go_ret
  exact ⟨rfl, _, rfl⟩

set_option maxHeartbeats 400000 in
theorem plain_not (cb tb : Nat) (s : ByteArray) (w : World) (hs : s.size ≤ 9223372036854775807) (h0 : 0 < s.size) (hL : clsL s[0].toNat = false) (hB : clsB s[0].toNat = false)
    (h2 : w.cell? ⟨cb, 2, none⟩ = some (.pointer (some ⟨tb, 0, none⟩))) (ht : IsTab w tb) :
    Calls Tryz.prog 221 #[.pointer (some ⟨cb, 0, none⟩), .string s] w fun e w' => e = .returned (.int .i64 0) ∧ ∃ n, w' = w.drewN n := by
  have t0 := ht.at_ 0 s[0].toNat (by omega) (by have := s[0].toNat_lt; omega)
  have t4 := ht.at_ 4 s[0].toNat (by omega) (by have := s[0].toNat_lt; omega)
  simp only [cls, hL, hB, Nat.zero_mul, Nat.zero_add, Nat.reduceMul] at t0 t4
  have b1 : (s[0].toNat : Int) < 256 := by have := s[0].toNat_lt; omega
  have he : s.toList.isEmpty = false := str_some s h0
  clear hL hB
  go_enter Tryz.func221, Tryz.ntmps221
  go_wp2
  go_quiet (fail)
  clear b1 t0 t4
  go_wp2
  go_ret
  exact ⟨rfl, _, rfl⟩

/-- The loop of plain. -/
structure PlainAt (s : ByteArray) (n : Nat) (k : Nat) (letter : Bool) (m : Nat) : Prop where
  le : k ≤ n
  eq : plainAux ((s.data.toList.take n).drop k) k letter m = plainAux (s.data.toList.take n) 0 false 0
  bound : m ≤ k

theorem PlainAt.step {s : ByteArray} {n k : Nat} {letter : Bool} {m : Nat} (h : PlainAt s n k letter m) (hk : k < n) (hn : n ≤ s.size) {L F : Bool} (hL : clsL (s[k]'(by omega)).toNat = L) (hF : clsF (s[k]'(by omega)).toNat = F) :
    PlainAt s n (k + 1) (letter || L) (if letter || L then (if F then k + 1 else m) else m) := by
  have e : s.data.toList.length = s.size := by show s.data.toList.length = s.data.size; simp
  refine ⟨by omega, ?_, by have := h.bound; split <;> (try split) <;> omega⟩
  rw [← h.eq]
  have hd : (s.data.toList.take n).drop k = (s[k]'(by omega)) :: (s.data.toList.take n).drop (k + 1) := by
    rw [List.drop_eq_getElem_cons (by rw [List.length_take]; omega)]
    congr 1
    rw [List.getElem_take]
    rfl
  rw [hd, plainAux, hL, hF]
theorem PlainAt.done {s : ByteArray} {n : Nat} {letter : Bool} {m : Nat} (h : PlainAt s n n letter m) (hn : n ≤ s.size) : plainAux (s.data.toList.take n) 0 false 0 = m := by
  rw [← h.eq, List.drop_of_length_le (by rw [List.length_take]; omega), plainAux]

set_option maxHeartbeats 1600000 in
theorem plain_some (cb tb : Nat) (s : ByteArray) (w : World) (hs : s.size ≤ 9223372036854775807) (h0 : 0 < s.size) (hLB : (clsL s[0].toNat || clsB s[0].toNat) = true)
    (h2 : w.cell? ⟨cb, 2, none⟩ = some (.pointer (some ⟨tb, 0, none⟩))) (ht : IsTab w tb) :
    Calls Tryz.prog 221 #[.pointer (some ⟨cb, 0, none⟩), .string s] w fun e w' => e = .returned (.int .i64 (plainAux (s.data.toList.take (runLen clsW s)) 0 false 0)) ∧ ∃ n, w' = w.drewN n := by
  have t0 := ht.at_ 0 s[0].toNat (by omega) (by have := s[0].toNat_lt; omega)
  have t4 := ht.at_ 4 s[0].toNat (by omega) (by have := s[0].toNat_lt; omega)
  simp only [cls, Nat.zero_mul, Nat.zero_add, Nat.reduceMul] at t0 t4
  have b1 : (s[0].toNat : Int) < 256 := by have := s[0].toNat_lt; omega
  have he : s.toList.isEmpty = false := str_some s h0
  have HT := Lib.hid ht
  have hn := runLen_le clsW s
  generalize hN : runLen clsW s = n at *
  have HN := Lib.hid hN
  clear hN ht
  cases hl : clsL s[0].toNat <;> cases hb : clsB s[0].toNat <;> rw [hl, hb] at hLB <;> first | (exact absurd hLB (by decide)) | skip
  all_goals
    rw [hl] at t0
    rw [hb] at t4
    clear hl hb hLB
    go_enter Tryz.func221, Tryz.ntmps221
    go_wp2
    go_quiet (fail)
    clear b1 t0 t4
    go_wp2_with fail
    refine (all_any cb tb s clsW 2 _ hs (by omega) (by rw [World.cell?_drewN]; exact h2) (fun x hx => by rw [World.cell?_drewN]; exact HT.out.at_ 2 x (by omega) hx)).mono ?_
    rintro e w' ⟨rfl, m0, rfl⟩
    rw [HN.out]
    go_wp2
    go_loopw [5, 6, 7, 39] (fun vm vl _ vk wr => ∃ (k m : Nat) (letter : Bool), k ≤ n ∧ vm = .int .i64 m ∧ vl = .bool letter ∧ vk = .int .i64 k ∧ PlainAt s n k letter m ∧ ∃ q, wr = w.drewN q) (fun _ _ _ vk _ => n - (intOf vk).toNat)
    case atStart => exact ⟨0, 0, false, Nat.zero_le _, rfl, rfl, rfl, ⟨Nat.zero_le _, rfl, Nat.le_refl _⟩, _, rfl⟩
    case round =>
      obtain ⟨k, m, letter, hk, rfl, rfl, rfl, HP, q, rfl⟩ := hrel
      by_cases hlt : k < n
      · have hks : k < s.size := by omega
        have b1 : (s[k].toNat : Int) < 256 := by have := s[k].toNat_lt; omega
        have t0 := HT.out.at_ 0 s[k].toNat (by omega) (by have := s[k].toNat_lt; omega)
        have t3 := HT.out.at_ 3 s[k].toNat (by omega) (by have := s[k].toNat_lt; omega)
        simp only [cls, Nat.zero_mul, Nat.zero_add, Nat.reduceMul] at t0 t3
        have HL := Lib.hid (rfl : clsL s[k].toNat = clsL s[k].toNat)
        generalize hl : clsL s[k].toNat = L at *
        generalize hf : clsF s[k].toNat = F at *
        have HS := HP.step hlt hn hl hf
        clear HL hl hf
        cases letter <;> cases L <;> cases F
        all_goals
          go_wp2
          go_quiet (fail)
          go_wp2
          go_quiet (fail)
          clear b1 t0 t3
          go_wp2
          go_roundw
          case rel =>
            first
              | exact ⟨k + 1, m, _, by omega, rfl, rfl, by go_num, by simpa using HS, _, rfl⟩
              | exact ⟨k + 1, k + 1, _, by omega, by go_num, rfl, by go_num, by simpa using HS, _, rfl⟩
          case measure => simp [intOf]; omega
      · obtain rfl : k = n := by omega
        have HD := Lib.hid (HP.done hn)
        go_wp2
        go_ret
        exact ⟨ret_int (by rw [HD.out]), _, rfl⟩
end Go.Proofs.YtjnimfnelacceaaGreatDoor
