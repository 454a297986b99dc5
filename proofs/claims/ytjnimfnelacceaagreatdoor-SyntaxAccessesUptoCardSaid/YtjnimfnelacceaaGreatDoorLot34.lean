/- Reserved words; the tokens of a text. -/
import Derived.Test.YtjnimfnelacceaaGreatDoorLot11
set_option linter.unusedSimpArgs false
set_option linter.unusedVariables false
namespace Go.Proofs.YtjnimfnelacceaaGreatDoor
open Go.RowKit

def rsvW : List (List UInt8) := [[97, 98, 115, 116, 114, 97, 99, 116], [98, 101, 103, 105, 110], [98, 108, 111, 99, 107], [99, 108, 97, 115, 115], [99, 108, 101, 97, 110, 117, 112], [99, 111, 110, 115, 116, 97, 110, 116], [100, 101, 102, 105, 110, 101], [100, 111, 109, 97, 105, 110], [101, 97, 99, 104, 45, 115, 117, 98, 99, 108, 97, 115, 115], [101, 108, 115, 101], [101, 108, 115, 101, 105, 102], [101, 110, 100], [101, 120, 112, 111, 114, 116], [103, 101, 110, 101, 114, 105, 99], [104, 97, 110, 100, 108, 101, 114], [105, 102], [105, 109, 112, 111, 114, 116], [105, 110, 115, 116, 97, 110, 99, 101, 63], [108, 101, 116], [108, 105, 98, 114, 97, 114, 121], [108, 105, 109, 105, 116, 101, 100], [108, 111, 97, 100, 45, 112, 97, 116, 99, 104], [108, 111, 99, 97, 108], [109, 97, 99, 114, 111], [109, 97, 107, 101], [109, 101, 116, 104, 111, 100], [110, 101, 120, 116, 45, 109, 101, 116, 104, 111, 100], [111, 98, 106, 101, 99, 116, 45, 99, 108, 97, 115, 115], [112, 97, 116, 99, 104], [112, 114, 101, 102, 105, 120], [112, 114, 105, 110, 116], [113, 117, 111, 116, 105, 101, 110, 116], [115, 101, 97, 108, 101, 100], [115, 105, 103, 110, 97, 108], [115, 105, 110, 103, 108, 101, 116, 111, 110], [115, 108, 111, 116], [115, 117, 98, 99, 108, 97, 115, 115], [116, 121, 112, 101, 45, 117, 110, 105, 111, 110], [117, 115, 101], [118, 105, 114, 116, 117, 97, 108]]
def rsvL (l : List UInt8) : Bool := rsvW.contains l
def resText : List UInt8 := [32].intercalate rsvW
def resArr : Array UInt8 := #[97, 98, 115, 116, 114, 97, 99, 116, 32, 98, 101, 103, 105, 110, 32, 98, 108, 111, 99, 107, 32, 99, 108, 97, 115, 115, 32, 99, 108, 101, 97, 110, 117, 112, 32, 99, 111, 110, 115, 116, 97, 110, 116, 32, 100, 101, 102, 105, 110, 101, 32, 100, 111, 109, 97, 105, 110, 32, 101, 97, 99, 104, 45, 115, 117, 98, 99, 108, 97, 115, 115, 32, 101, 108, 115, 101, 32, 101, 108, 115, 101, 105, 102, 32, 101, 110, 100, 32, 101, 120, 112, 111, 114, 116, 32, 103, 101, 110, 101, 114, 105, 99, 32, 104, 97, 110, 100, 108, 101, 114, 32, 105, 102, 32, 105, 109, 112, 111, 114, 116, 32, 105, 110, 115, 116, 97, 110, 99, 101, 63, 32, 108, 101, 116, 32, 108, 105, 98, 114, 97, 114, 121, 32, 108, 105, 109, 105, 116, 101, 100, 32, 108, 111, 97, 100, 45, 112, 97, 116, 99, 104, 32, 108, 111, 99, 97, 108, 32, 109, 97, 99, 114, 111, 32, 109, 97, 107, 101, 32, 109, 101, 116, 104, 111, 100, 32, 110, 101, 120, 116, 45, 109, 101, 116, 104, 111, 100, 32, 111, 98, 106, 101, 99, 116, 45, 99, 108, 97, 115, 115, 32, 112, 97, 116, 99, 104, 32, 112, 114, 101, 102, 105, 120, 32, 112, 114, 105, 110, 116, 32, 113, 117, 111, 116, 105, 101, 110, 116, 32, 115, 101, 97, 108, 101, 100, 32, 115, 105, 103, 110, 97, 108, 32, 115, 105, 110, 103, 108, 101, 116, 111, 110, 32, 115, 108, 111, 116, 32, 115, 117, 98, 99, 108, 97, 115, 115, 32, 116, 121, 112, 101, 45, 117, 110, 105, 111, 110, 32, 117, 115, 101, 32, 118, 105, 114, 116, 117, 97, 108]
theorem resArr_eq : resArr = ⟨resText⟩ := by decide +kernel
theorem res_fields : Lib.fields resText = rsvW := by decide +kernel
theorem res_ascii : ∀ (j : Nat) b, resText[j]? = some b → b.toNat < 128 := by
  have h : resText.all (fun b => decide (b.toNat < 128)) = true := by decide +kernel
  intro j b hj
  have := List.all_eq_true.1 h b (List.mem_of_getElem? hj)
  simpa using this
theorem contains_res (s : ByteArray) : Lib.containsS (rsvW.map fun l => (⟨l.toArray⟩ : ByteArray)) s = rsvL s.data.toList := by
  rw [Bool.eq_iff_iff, Lib.containsS_iff]
  unfold rsvL
  simp only [List.mem_map, List.contains_iff_mem]
  constructor
  · rintro ⟨l, hl, rfl⟩; simpa using hl
  · intro h; exact ⟨_, h, by cases s; simp⟩
set_option maxRecDepth 100000 in
set_option maxHeartbeats 4000000 in
theorem isReserved_any (s : ByteArray) (w : World) (hE : Env w) : Calls Tryz.prog 15 #[.string s] w fun e w' => e = .returned (.bool (rsvL s.data.toList)) ∧ Below w.heap.size w w' := by
  have hF := Tryz.strings_Fields ⟨⟨resText⟩⟩ w (by decide +kernel) res_ascii hE.spc
  rw [show (⟨⟨resText⟩⟩ : ByteArray).data.toList = resText from rfl, res_fields] at hF
  have HF := Lib.hid hF
  clear hF hE
  have hlen : rsvW.length = 40 := by decide +kernel
  rw [hlen] at HF
  have hC := Tryz.slices_Contains_string w.heap.size 0 40 40 (rsvW.map fun l => (⟨l.toArray⟩ : ByteArray)) s (w.alloc (.cells (rsvW.map fun l => Value.string ⟨l.toArray⟩).toArray 9)) (by decide +kernel) (by omega) (fun j hj => by
    rw [World.cell?_alloc_new]
    have : j < rsvW.length := by simpa using hj
    simp [this])
  rw [List.take_of_length_le (by decide +kernel), contains_res] at hC
  have HC := Lib.hid hC
  clear hC
  go_enter Tryz.func15, Tryz.ntmps15
  go_wp2_with fail
  have HF2 := HF.out
  rw [← resArr_eq] at HF2
  unfold resArr at HF2
  refine HF2.mono ?_
  rintro e w' ⟨rfl, rfl⟩
  clear HF2
  go_wp2_with fail
  refine HC.out.mono ?_
  rintro e w' ⟨rfl, rfl⟩
  go_wp2
  go_ret
  exact ⟨rfl, (Below.refl _ _).alloc (Nat.le_refl _) _⟩

/-- The tokens of a text; none if it has an error. -/
def scanL (l : List UInt8) : List Tk := if 20000 < l.length then [] else match (piecesL l).2 with
  | some _ => []
  | none => toksL l (piecesL l).1
set_option maxRecDepth 100000 in
set_option maxHeartbeats 4000000 in
theorem tokens_any (s : ByteArray) (w : World) (hE : Env w) (hs : s.size ≤ maxLen) (h9 : 9 ≤ w.heap.size) : Calls Tryz.prog 9 #[.string s] w fun e w' =>
    ∃ v, e = .returned v ∧ w'.ownsRow w.heap.size 127 5 v (scanL s.data.toList).length (rowTk (scanL s.data.toList)) ∧ Below w.heap.size w w' := by
  have hp : Calls Tryz.prog 26 #[.string s] w fun e w' => ∃ v a b, e = .returned (.tuple #[v, a, b]) ∧ w'.ownsRow w.heap.size 127 5 v (scanL s.data.toList).length (rowTk (scanL s.data.toList)) ∧ Below w.heap.size w w' := by
    refine (scan_any s w hE hs h9).mono ?_
    rintro e w' ⟨hb, he⟩
    have hz := len_data s
    by_cases hbig : 20000 < s.size
    · rw [if_pos hbig] at he
      have : scanL s.data.toList = [] := by unfold scanL; rw [if_pos (by rw [hz]; exact hbig)]
      exact ⟨_, _, _, he, by rw [this]; exact World.ownsRow_nil _ _ _ _, hb⟩
    · rw [if_neg hbig] at he
      cases hpc : (piecesL s.data.toList).2 with
      | some q =>
        rw [hpc] at he
        have : scanL s.data.toList = [] := by unfold scanL; rw [if_neg (by rw [hz]; exact hbig), hpc]
        exact ⟨_, _, _, he, by rw [this]; exact World.ownsRow_nil _ _ _ _, hb⟩
      | none =>
        rw [hpc] at he
        have : scanL s.data.toList = toksL s.data.toList (piecesL s.data.toList).1 := by unfold scanL; rw [if_neg (by rw [hz]; exact hbig), hpc]
        obtain ⟨v, he, ho⟩ := he
        exact ⟨v, _, _, he, by rw [this]; exact ho, hb⟩
  have HP := Lib.hid hp
  clear hp hE hs h9
  generalize scanL s.data.toList = ts at *
  go_enter Tryz.func9, Tryz.ntmps9
  go_wp2_with fail
  refine HP.out.mono ?_
  rintro e w1 ⟨v, a, b, rfl, ho, hb⟩
  have HO := Lib.hid ho
  have HB := Lib.hid hb
  clear ho hb
  go_wp2
  go_ret
  exact ⟨v, rfl, HO.out, HB.out⟩
end Go.Proofs.YtjnimfnelacceaaGreatDoor
