/- Copies of types: copyType. What survives changes at some blocks; a region that draws its order, by an invariant. Small makers: variable, accessor. -/
import Derived.Test.YtjnimfnelacceaaGreatDoorLot15
import Derived.Maps.AppendAt
set_option linter.unusedSimpArgs false
set_option linter.unusedVariables false
namespace Go.Proofs.YtjnimfnelacceaaGreatDoor
open Go.RowKit Go.Proofs.YtjnimfnelacceaaGreatDoorW.PrintLast

def CopyEnd (w' : World) (T : Nat → Prop) (u : Value) (e : Ending) (w'' : World) : Prop := ∃ v', e = .returned v' ∧ TyIn w'' (fun b => w'.heap.size ≤ b) T v' u ∧ Below w'.heap.size w' w''
theorem TyIn.shape {w : World} {S T : Nat → Prop} {v u : Value} (h : TyIn w S T v u) : ∃ k lo hi s p n c, v = .agg #[.int .i64 k, .string s, .int .i64 lo, .int .i64 hi, .slice p n c] := by
  cases h with
  | mk k lo hi s n p q c d A B hn hA hB hS hT h => exact ⟨k, lo, hi, s, p, n, c, rfl⟩
def f5 (k lo hi : Int) (s : ByteArray) (p : Option Addr) (n c : Nat) : Nat → Value
  | 0 => .int .i64 k
  | 1 => .string s
  | 2 => .int .i64 lo
  | 3 => .int .i64 hi
  | _ => .slice p n c
/-- What copyType's loop keeps: its two variables, and the row of the copies. -/
structure CpAt (w' wr : World) (X : Array Value) (n g : Nat) (A : Nat → Nat → Value) : Prop where
  below : Below w'.heap.size w' wr
  box : BoxAt wr w'.heap.size X
  res : BoxAt wr (w'.heap.size + 1) #[.int .i64 0, .string ⟨#[]⟩, .int .i64 0, .int .i64 0, .slice none 0 0]
  rfz : ∀ o, wr.frozen? ⟨w'.heap.size + 1, o, none⟩ = false
  row : ∀ j, j < n → ∀ k, k < 5 → wr.cell? ⟨g, j * 5 + k, none⟩ = some (A j k)
  fz : ∀ o, wr.frozen? ⟨g, o, none⟩ = false
  ge : w'.heap.size + 2 ≤ g
  lt : g < wr.heap.size
theorem CpAt.mono {w' wr wx : World} {X : Array Value} {n g : Nat} {A : Nat → Nat → Value} (h : CpAt w' wr X n g A) (hb : Below wr.heap.size wr wx) : CpAt w' wx X n g A := by
  have h1 : w'.heap.size + 1 < wr.heap.size := by have := h.ge; have := h.lt; omega
  exact ⟨h.below.trans (hb.mono h.below.size), h.box.under hb, h.res.under hb, fun o => (hb.frozen (p := ⟨w'.heap.size + 1, o, none⟩) h1).trans (h.rfz o), fun j hj k hk => below_cell hb (h.row j hj k hk), fun o => (hb.frozen (p := ⟨g, o, none⟩) h.lt).trans (h.fz o), h.ge, Nat.lt_of_lt_of_le h.lt hb.size⟩
theorem cell_set_row {w : World} {g o : Nat} {v : Value} {b o' : Nat} (h : b ≠ g ∨ o' ≠ o) : (w.setCell ⟨g, o, none⟩ v).cell? ⟨b, o', none⟩ = w.cell? ⟨b, o', none⟩ :=
  World.cell?_setCell_other _ _ _ _ (by intro e; injection e with e1 e2; rcases h with h | h; exact h e1.symm; exact h e2.symm)
/-- Five cells are stored. -/
def set5 (w : World) (g o : Nat) (f : Nat → Value) : World := ((((w.setCell ⟨g, o, none⟩ (f 0)).setCell ⟨g, o + 1, none⟩ (f 1)).setCell ⟨g, o + 2, none⟩ (f 2)).setCell ⟨g, o + 3, none⟩ (f 3)).setCell ⟨g, o + 4, none⟩ (f 4)
theorem set5_other {w : World} {g o : Nat} {f : Nat → Value} {b o' : Nat} (h : b ≠ g ∨ (o' < o ∨ o + 4 < o')) : (set5 w g o f).cell? ⟨b, o', none⟩ = w.cell? ⟨b, o', none⟩ := by
  unfold set5
  rw [cell_set_row (by rcases h with h | h; exact Or.inl h; right; omega), cell_set_row (by rcases h with h | h; exact Or.inl h; right; omega), cell_set_row (by rcases h with h | h; exact Or.inl h; right; omega), cell_set_row (by rcases h with h | h; exact Or.inl h; right; omega), cell_set_row (by rcases h with h | h; exact Or.inl h; right; omega)]
theorem set5_same {w : World} {g o : Nat} {f : Nat → Value} (hc : ∀ k, k < 5 → (w.cell? ⟨g, o + k, none⟩).isSome = true) (k : Nat) (hk : k < 5) : (set5 w g o f).cell? ⟨g, o + k, none⟩ = some (f k) := by
  unfold set5
  match k, hk with
  | 0, _ =>
    rw [cell_set_row (by right; omega), cell_set_row (by right; omega), cell_set_row (by right; omega), cell_set_row (by right; omega)]
    exact World.cell?_setCell_same' _ _ _ (hc 0 (by decide))
  | 1, _ =>
    rw [cell_set_row (by right; omega), cell_set_row (by right; omega), cell_set_row (by right; omega)]
    exact World.cell?_setCell_same' _ _ _ (by rw [cell_set_row (by right; omega)]; exact hc 1 (by decide))
  | 2, _ =>
    rw [cell_set_row (by right; omega), cell_set_row (by right; omega)]
    exact World.cell?_setCell_same' _ _ _ (by rw [cell_set_row (by right; omega), cell_set_row (by right; omega)]; exact hc 2 (by decide))
  | 3, _ =>
    rw [cell_set_row (by right; omega)]
    exact World.cell?_setCell_same' _ _ _ (by rw [cell_set_row (by right; omega), cell_set_row (by right; omega), cell_set_row (by right; omega)]; exact hc 3 (by decide))
  | 4, _ =>
    exact World.cell?_setCell_same' _ _ _ (by rw [cell_set_row (by right; omega), cell_set_row (by right; omega), cell_set_row (by right; omega), cell_set_row (by right; omega)]; exact hc 4 (by decide))
theorem set5_frozen (w : World) (g o : Nat) (f : Nat → Value) (a : Addr) : (set5 w g o f).frozen? a = w.frozen? a := by unfold set5; simp only [World.frozen?_setCell]
theorem set5_size (w : World) (g o : Nat) (f : Nat → Value) : (set5 w g o f).heap.size = w.heap.size := by unfold set5; simp
theorem set5_below {B : Nat} {a w : World} {g o : Nat} {f : Nat → Value} (h : Below B a w) (hg : B ≤ g) : Below B a (set5 w g o f) :=
  ((((h.setCell (p := ⟨g, o, none⟩) hg _).setCell (p := ⟨g, o + 1, none⟩) hg _).setCell (p := ⟨g, o + 2, none⟩) hg _).setCell (p := ⟨g, o + 3, none⟩) hg _).setCell (p := ⟨g, o + 4, none⟩) hg _
theorem CpAt.put {w' wr : World} {X : Array Value} {n g : Nat} {A : Nat → Nat → Value} (h : CpAt w' wr X n g A) {i : Nat} (hi : i < n) (f : Nat → Value) :
    CpAt w' (set5 wr g (i * 5) f) X n g (fun j => if j = i then f else A j) := by
  have hge := h.ge
  refine ⟨set5_below h.below (by omega), fun o v hv => ?_, fun o v hv => ?_, fun o => by rw [set5_frozen]; exact h.rfz o, fun j hj k hk => ?_, fun o => by rw [set5_frozen]; exact h.fz o, h.ge, by rw [set5_size]; exact h.lt⟩
  · rw [set5_other (Or.inl (by omega))]; exact h.box o v hv
  · rw [set5_other (Or.inl (by omega))]; exact h.res o v hv
  · by_cases e : j = i
    · subst e
      simp only [if_true]
      exact set5_same (fun k hk => by rw [h.row j hj k hk]; rfl) k hk
    · simp only [e, if_false]
      rw [set5_other (Or.inr (by omega))]
      exact h.row j hj k hk
set_option maxRecDepth 100000 in
set_option maxHeartbeats 8000000 in
theorem copyType_in {w : World} {S : Nat → Prop} {v u : Value} (h : TyIn w S (fun b => b < w.heap.size) v u) : ∀ w', Below w.heap.size w w' → Calls Tryz.prog 17 #[v] w' (CopyEnd w' (fun b => b < w.heap.size) u) := by
  induction h with
  | mk k lo hi0 s n p q c d A B hn hA hB hS hT h ih =>
    intro w' hb
    cases p with
    | none =>
      have hn0 : n = 0 := by
        cases n with
        | zero => rfl
        | succ n => obtain ⟨b, o, h1, -⟩ := hA 0 (Nat.succ_pos _); cases h1
      subst hn0
      have HC := Lib.hid (clone_nil 0 c)
      clear hA hS h ih
      go_enter Tryz.func17, Tryz.ntmps17
      go_wp2_with fail
      refine (HC.out _).mono ?_
      rintro e w1 ⟨rfl, rfl⟩
      go_wp2_with fail
      go_loopw [11] (fun v11 wr => v11 = .int .i64 0 ∧ wr = (w'.alloc (.cells #[.int .i64 k, .string s, .int .i64 lo, .int .i64 hi0, .slice none 0 0] 33)).alloc (.cells #[.int .i64 0, .string ⟨#[]⟩, .int .i64 0, .int .i64 0, .slice none 0 0] 33)) (fun _ _ => 0)
      case atStart => exact ⟨rfl, rfl⟩
      case round =>
        obtain ⟨rfl, rfl⟩ := hrel
        go_wp2
        refine bodyPost_ret (v := .agg #[.int .i64 k, .string s, .int .i64 lo, .int .i64 hi0, .slice none 0 0]) (by simp [results, Tryz.results17, go_sem]) rfl ⟨_, rfl, TyIn.mk k lo hi0 s 0 none q 0 d A B (Nat.zero_le _) (fun i hi => absurd hi (Nat.not_lt_zero _)) (fun i hi => absurd hi (Nat.not_lt_zero _)) (fun b o hp => by cases hp) (fun b o _ h0 => absurd h0 (Nat.lt_irrefl _)) (fun i hi => absurd hi (Nat.not_lt_zero _)), ((Below.refl _ _).alloc (Nat.le_refl _) _).alloc (by simp) _⟩
    | some ad =>
      have hone : ∀ i j, i < n → j < 5 → (A i j).oneCell' = true := fun i j hi hj => (h i hi).one j hj
      have HC := Lib.hid (fun w2 (hb2 : Below w'.heap.size w' w2) => clone_some ad n c A w2 hn (hA.below (hb.trans (hb2.mono hb.size))) hone)
      have HI := Lib.hid ih
      have HH := Lib.hid hb
      have HB := Lib.hid (And.intro hB hT)
      clear hA hS h ih hone hB hT hb
      go_enter Tryz.func17, Tryz.ntmps17
      go_wp2_with fail
      have hb0 : Below w'.heap.size w' ((w'.alloc (.cells #[.int .i64 k, .string s, .int .i64 lo, .int .i64 hi0, .slice (some ad) n c] 33)).alloc (.cells #[.int .i64 0, .string ⟨#[]⟩, .int .i64 0, .int .i64 0, .slice none 0 0] 33)) := ((Below.refl _ _).alloc (Nat.le_refl _) _).alloc (by simp) _
      refine (HC.out _ hb0).mono ?_
      rintro e w1 ⟨v', rfl, hown, hnil, hb1⟩
      obtain ⟨g, cap, cur, rfl, hge, hg, hcap, hcm, hcs, hcur⟩ := hown.2.resolve_left (fun e => hnil e.1)
      have hx : BoxAt w1 w'.heap.size #[.int .i64 k, .string s, .int .i64 lo, .int .i64 hi0, .slice (some ad) n c] := (box_new w' _ _).under ((Below.refl _ _).alloc (Nat.le_refl _) _) |>.under hb1
      have hr : BoxAt w1 (w'.heap.size + 1) #[.int .i64 0, .string ⟨#[]⟩, .int .i64 0, .int .i64 0, .slice none 0 0] := by
        have := (box_new (w'.alloc (.cells #[.int .i64 k, .string s, .int .i64 lo, .int .i64 hi0, .slice (some ad) n c] 33)) #[.int .i64 0, .string ⟨#[]⟩, .int .i64 0, .int .i64 0, .slice none 0 0] 33).under hb1
        simpa using this
      have hfr : ∀ o, w1.frozen? ⟨g, o, none⟩ = false := fun o => hown.frozenAt o
      have hrow : ∀ j, j < n → ∀ k, k < 5 → w1.cell? ⟨g, j * 5 + k, none⟩ = some (A j k) := by
        intro j hj k hk
        rw [cell_of_row _ _ _ _ _ (0, 0) hg, ← Array.getElem?_toList]
        have h1 : (cur.toList.take (n * 5))[j * 5 + k]? = some (A j k) := by
          rw [hcur]
          unfold flat5
          rw [List.getElem?_map, List.getElem?_range (by omega)]
          simp only [Option.map_some]
          rw [show (j * 5 + k) / 5 = j by omega, show (j * 5 + k) % 5 = k by omega]
        rw [List.getElem?_take] at h1
        split at h1
        · exact h1
        · cases h1
      have hbf : ∀ o, w1.frozen? ⟨w'.heap.size, o, none⟩ = false := fun o => (hb1.frozen (p := ⟨w'.heap.size, o, none⟩) (by simp; omega)).trans (by simp [go_sem])
      have hrf : ∀ o, w1.frozen? ⟨w'.heap.size + 1, o, none⟩ = false := fun o => (hb1.frozen (p := ⟨w'.heap.size + 1, o, none⟩) (by simp)).trans (by simp [go_sem])
      have hge2 : w'.heap.size + 2 ≤ g := by simpa using hge
      have hlt : g < w1.heap.size := (Array.getElem?_eq_some_iff.1 hg).1
      have hbw : Below w'.heap.size w' w1 := hb0.trans (hb1.mono hb0.size)
      have HCP := Lib.hid (show CpAt w' (w1.setCell ⟨w'.heap.size, 4, none⟩ (.slice (some ⟨g, 0, none⟩) n cap)) #[.int .i64 k, .string s, .int .i64 lo, .int .i64 hi0, .slice (some ⟨g, 0, none⟩) n cap] n g A from by
        refine ⟨hbw.setCell (p := ⟨w'.heap.size, 4, none⟩) (Nat.le_refl _) _, fun o v hv => ?_, fun o v hv => ?_, fun o => by rw [World.frozen?_setCell]; exact hrf o, fun j hj k hk => ?_, fun o => by rw [World.frozen?_setCell]; exact hfr o, hge2, by simpa using hlt⟩
        · by_cases e4 : o = 4
          · subst e4
            rw [World.cell?_setCell_same' _ _ _ (by rw [hx 4 _ rfl]; rfl)]
            exact hv
          · rw [cell_set_row (Or.inr e4)]
            refine hx o v ?_
            match o, e4, hv with
            | 0, _, hv => exact hv
            | 1, _, hv => exact hv
            | 2, _, hv => exact hv
            | 3, _, hv => exact hv
            | o + 5, _, hv => simp at hv
        · rw [cell_set_row (Or.inl (by omega))]
          exact hr o v hv
        · rw [cell_set_row (Or.inl (by omega))]
          exact hrow j hj k hk)
      have x4 : w1.cell? ⟨w'.heap.size, 4, none⟩ = some (.slice (some ad) n c) := hx 4 _ rfl
      have f4 := hbf 4
      have hcl : cap ≤ 9223372036854775807 := by unfold maxLen at hcm; omega
      clear hx hr hfr hrow hbf hrf hbw hb0 hb1 hown hnil hg hcs hcur hge
      go_wp2_with fail
      refine wp_at (fun wx => Hid (CpAt w' wx #[.int .i64 k, .string s, .int .i64 lo, .int .i64 hi0, .slice (some ⟨g, 0, none⟩) n cap] n g A)) HCP ?_
      clear HCP x4 f4 hlt hge2
      intro w2 HCP
      go_loopw [3, 11] (fun _ v11 wr => ∃ i : Nat, i ≤ n ∧ v11 = .int .i64 i ∧ Hid (∃ A', CpAt w' wr #[.int .i64 k, .string s, .int .i64 lo, .int .i64 hi0, .slice (some ⟨g, 0, none⟩) n cap] n g A' ∧ (∀ j, j < i → TyIn wr (fun b => g < b) (fun b => b < w.heap.size) (agg5 (A' j)) (agg5 (B j))) ∧ ∀ j, i ≤ j → j < n → ∀ l, A' j l = A j l)) (fun _ v11 _ => n - (intOf v11).toNat)
      case atStart => exact ⟨0, Nat.zero_le _, rfl, Lib.hid ⟨A, HCP.out, fun j hj => absurd hj (Nat.not_lt_zero _), fun _ _ _ _ => rfl⟩⟩
      case round =>
        clear HCP
        obtain ⟨i, hi, rfl, HR⟩ := hrel
        obtain ⟨A', hcp, hdone, hrest⟩ := HR.out
        have b4 : wr.cell? ⟨w'.heap.size, 4, none⟩ = some (.slice (some ⟨g, 0, none⟩) n cap) := hcp.box 4 _ rfl
        have l1 : w'.heap.size < wr.heap.size := World.block_lt_of_cell? wr _ b4
        by_cases hlt : i < n
        · have g0 : decide ((i : Int) < n) = true := decide_eq_true (by omega)
          have g1 : (0 : Int) ≤ i := by omega
          have g2 : (i : Int) < n := by omega
          have a0 := hcp.row i hlt 0 (by decide)
          have a1 := hcp.row i hlt 1 (by decide)
          have a2 := hcp.row i hlt 2 (by decide)
          have a3 := hcp.row i hlt 3 (by decide)
          have a4 := hcp.row i hlt 4 (by decide)
          rw [hrest i (Nat.le_refl _) hlt] at a0 a1 a2 a3 a4
          simp only [Nat.add_zero] at a0
          have HCP := Lib.hid hcp
          have HD := Lib.hid hdone
          have HRE := Lib.hid hrest
          clear hcp hdone hrest
          go_wp2_with fail
          refine start_ (n := 11) (S := fun wx => wx.cell? ⟨w'.heap.size, 4, none⟩ = some (.slice (some ⟨g, 0, none⟩) n cap) ∧ wx.cell? ⟨g, i * 5, none⟩ = some (A i 0) ∧ wx.cell? ⟨g, i * 5 + 1, none⟩ = some (A i 1) ∧ wx.cell? ⟨g, i * 5 + 2, none⟩ = some (A i 2) ∧ wx.cell? ⟨g, i * 5 + 3, none⟩ = some (A i 3) ∧ wx.cell? ⟨g, i * 5 + 4, none⟩ = some (A i 4)) (ds := [10]) #[false, false, false, false, false, false, false, false, false, false, false] (by kernel_rfl) rfl rfl ⟨b4, a0, a1, a2, a3, a4⟩ (fun hS => ?_)
          refine pure_ (i := 0) (N := some 14) (v := ?_) (a' := ?_) #[true, false, false, false, false, false, false, false, false, false, false] rfl rfl (by kernel_rfl) (fun _ _ _ h => h) (Or.inl ⟨by rfl, ?_⟩) ?_ ?_
          rotate_left
          · intro w'
            go_simp
            with_reducible rfl
          rotate_left
          · simp only [Act.put, List.setIfInBounds_toArray, List.set_cons_zero, List.set_cons_succ, i64_w, i32_w]
            rfl
          refine take_ (i := 1) (N := some 15) (v := ?_) (a' := ?_) #[true, true, false, false, false, false, false, false, false, false, false] rfl rfl (by kernel_rfl) (fun _ _ _ h => h) (Or.inl ⟨by rfl, ?_⟩) hS ?_ ?_
          rotate_left
          · rintro wz ⟨z4, y0, y1, y2, y3, y4⟩
            go_simp
            with_reducible rfl
          rotate_left
          · simp only [Act.put, List.setIfInBounds_toArray, List.set_cons_zero, List.set_cons_succ, i64_w, i32_w]
            rfl
          refine pure_ (i := 2) (N := some 16) (v := ?_) (a' := ?_) #[true, true, true, false, false, false, false, false, false, false, false] rfl rfl (by kernel_rfl) (fun _ _ _ h => h) (Or.inl ⟨by rfl, ?_⟩) ?_ ?_
          rotate_left
          · intro w'
            go_simp
            with_reducible rfl
          rotate_left
          · simp only [Act.put, List.setIfInBounds_toArray, List.set_cons_zero, List.set_cons_succ, i64_w, i32_w]
            rfl
          refine pure_ (i := 3) (N := some 17) (v := ?_) (a' := ?_) #[true, true, true, true, false, false, false, false, false, false, false] rfl rfl (by kernel_rfl) (fun _ _ _ h => h) (Or.inl ⟨by rfl, ?_⟩) ?_ ?_
          rotate_left
          · intro w'
            go_simp
            with_reducible rfl
          rotate_left
          · simp only [Act.put, List.setIfInBounds_toArray, List.set_cons_zero, List.set_cons_succ, i64_w, i32_w]
            rfl
          refine take_ (i := 4) (N := some 18) (v := ?_) (a' := ?_) #[true, true, true, true, true, false, false, false, false, false, false] rfl rfl (by kernel_rfl) (fun _ _ _ h => h) (Or.inl ⟨by rfl, ?_⟩) hS ?_ ?_
          rotate_left
          · rintro wz ⟨z4, y0, y1, y2, y3, y4⟩
            go_simp
            with_reducible rfl
          rotate_left
          · simp only [Act.put, List.setIfInBounds_toArray, List.set_cons_zero, List.set_cons_succ, i64_w, i32_w]
            rfl
          refine pure_ (i := 5) (N := some 19) (v := ?_) (a' := ?_) #[true, true, true, true, true, true, false, false, false, false, false] rfl rfl (by kernel_rfl) (fun _ _ _ h => h) (Or.inl ⟨by rfl, ?_⟩) ?_ ?_
          rotate_left
          · intro w'
            go_simp
            with_reducible rfl
          rotate_left
          · simp only [Act.put, List.setIfInBounds_toArray, List.set_cons_zero, List.set_cons_succ, i64_w, i32_w]
            rfl
          refine pure_ (i := 6) (N := some 20) (v := ?_) (a' := ?_) #[true, true, true, true, true, true, true, false, false, false, false] rfl rfl (by kernel_rfl) (fun _ _ _ h => h) (Or.inl ⟨by rfl, ?_⟩) ?_ ?_
          rotate_left
          · intro w'
            go_simp
            with_reducible rfl
          rotate_left
          · simp only [Act.put, List.setIfInBounds_toArray, List.set_cons_zero, List.set_cons_succ, i64_w, i32_w]
            rfl
          refine take_ (i := 7) (N := some 21) (v := ?_) (a' := ?_) #[true, true, true, true, true, true, true, true, false, false, false] rfl rfl (by kernel_rfl) (fun _ _ _ h => h) (Or.inl ⟨by rfl, ?_⟩) hS ?_ ?_
          rotate_left
          · rintro wz ⟨z4, y0, y1, y2, y3, y4⟩
            go_simp
            with_reducible rfl
          rotate_left
          · simp only [Act.put, List.setIfInBounds_toArray, List.set_cons_zero, List.set_cons_succ, i64_w, i32_w]
            rfl
          clear hS
          refine one_ (i := 8) (N := some 22) #[true, true, true, true, true, true, true, true, true, false, false] rfl rfl (by kernel_rfl) (by decide) (fun K hK => ?_)
          refine goes_ Tryz.func17 (by kernel_rfl) rfl #[agg5 (A i)] (by rfl) rfl rfl (by (try simp only [List.map_toArray, List.map_cons, List.map_nil]); first | done | rfl) ?_
          refine (HI.out i hlt wr.drew (drew_u (HH.out.trans (HCP.out.below.mono HH.out.size)))).mono ?_
          rintro e w3 ⟨v3, rfl, hty, hb3⟩
          obtain ⟨k3, l3, h3, s3, p3, n3, c3, rfl⟩ := hty.shape
          have hb4 : Below wr.heap.size wr w3 := (drew_u (Below.refl wr.heap.size wr)).trans (hb3.mono (Nat.le_refl _))
          have HCP3 := Lib.hid (HCP.out.mono hb4)
          have HTY := Lib.hid (And.intro hty hb4)
          clear hty hb3 hb4
          refine ⟨_, rfl, ?_⟩
          have d4 := HCP3.out.box 4 _ rfl
          have e0 := HCP3.out.row i hlt 0 (by decide)
          have e1 := HCP3.out.row i hlt 1 (by decide)
          have e2 := HCP3.out.row i hlt 2 (by decide)
          have e3 := HCP3.out.row i hlt 3 (by decide)
          have e4 := HCP3.out.row i hlt 4 (by decide)
          rw [HRE.out i (Nat.le_refl _) hlt] at e0 e1 e2 e3 e4
          simp only [Nat.add_zero] at e0
          refine hK.out _ _ ⟨d4, e0, e1, e2, e3, e4⟩ (fun _ => ?_)
          clear hK K
          refine norm_ (a' := ?_) ?_ ?_
          rotate_left
          · show Act.put _ (some 22) _ = _
            simp only [Act.put, List.setIfInBounds_toArray, List.set_cons_zero, List.set_cons_succ, i64_w, i32_w]
            rfl
          refine pure_ (i := 9) (N := some 23) (v := ?_) (a' := ?_) #[true, true, true, true, true, true, true, true, true, true, false] rfl rfl (by kernel_rfl) (fun _ _ _ h => h) (Or.inl ⟨by rfl, ?_⟩) ?_ ?_
          rotate_left
          · intro w'
            go_simp
            with_reducible rfl
          rotate_left
          · simp only [Act.put, List.setIfInBounds_toArray, List.set_cons_zero, List.set_cons_succ, i64_w, i32_w]
            rfl
          have q0 := HCP3.out.fz (i * 5)
          have q1 := HCP3.out.fz (i * 5 + 1)
          have q2 := HCP3.out.fz (i * 5 + 2)
          have q3 := HCP3.out.fz (i * 5 + 3)
          have q4 := HCP3.out.fz (i * 5 + 4)
          refine last_ (i := 10) (N := none) #[true, true, true, true, true, true, true, true, true, true, true] rfl rfl (by kernel_rfl) (by decide) (fun K hK => ?_)
          refine skip_ (w1 := set5 w3 g (i * 5) (f5 k3 l3 h3 s3 p3 n3 c3)) (by rfl) rfl (by unfold set5 f5; go_simp) ?_
          refine hK.out _ _ ?_
          clear hK K
          refine done_ (by kernel_rfl) ?_
          have hlt3 := HCP3.out.lt
          have hnew : ∃ A'', CpAt w' (set5 w3 g (i * 5) (f5 k3 l3 h3 s3 p3 n3 c3)) #[.int .i64 k, .string s, .int .i64 lo, .int .i64 hi0, .slice (some ⟨g, 0, none⟩) n cap] n g A'' ∧ (∀ j, j < i + 1 → TyIn (set5 w3 g (i * 5) (f5 k3 l3 h3 s3 p3 n3 c3)) (fun b => g < b) (fun b => b < w.heap.size) (agg5 (A'' j)) (agg5 (B j))) ∧ ∀ j, i + 1 ≤ j → j < n → ∀ l, A'' j l = A j l := by
            have hgr := HCP.out.lt
            have hge := HCP.out.ge
            have hws := HH.out.size
            refine ⟨_, HCP3.out.put hlt (f5 k3 l3 h3 s3 p3 n3 c3), fun j hj => ?_, fun j hj hjn l => ?_⟩
            · by_cases e : j = i
              · subst e
                simp only [if_true]
                exact HTY.out.1.keep (fun b hb o x hx => by rw [set5_other (Or.inl (by rcases hb with hb | hb; simp at hb; omega; omega))]; exact hx) (fun b hb => by simp at hb; omega) (fun b hb => hb)
              · simp only [e, if_false]
                exact ((HD.out j (by omega)).under HTY.out.2).keep (fun b hb o x hx => by rw [set5_other (Or.inl (by omega))]; exact hx) (fun b hb => hb) (fun b hb => hb)
            · have e : j ≠ i := by omega
              simp only [e, if_false]
              exact HRE.out j (by omega) hjn l
          have HNEW := Lib.hid hnew
          clear hnew e0 e1 e2 e3 e4 d4 q0 q1 q2 q3 q4 a0 a1 a2 a3 a4 b4
          go_wp2
          go_roundw
          case rel => exact ⟨i + 1, by omega, by go_num, HNEW⟩
          case measure => simp [intOf]; omega
        · have hin : i = n := by omega
          subst hin
          have g0 : decide ((i : Int) < i) = false := decide_eq_false (by omega)
          have b0 : wr.cell? ⟨w'.heap.size, 0, none⟩ = some (.int .i64 k) := hcp.box 0 _ rfl
          have b1 : wr.cell? ⟨w'.heap.size, 1, none⟩ = some (.string s) := hcp.box 1 _ rfl
          have b2 : wr.cell? ⟨w'.heap.size, 2, none⟩ = some (.int .i64 lo) := hcp.box 2 _ rfl
          have b3 : wr.cell? ⟨w'.heap.size, 3, none⟩ = some (.int .i64 hi0) := hcp.box 3 _ rfl
          have c0 : wr.cell? ⟨w'.heap.size + 1, 0, none⟩ = some (.int .i64 0) := hcp.res 0 _ rfl
          have c1 : wr.cell? ⟨w'.heap.size + 1, 1, none⟩ = some (.string ⟨#[]⟩) := hcp.res 1 _ rfl
          have c2 : wr.cell? ⟨w'.heap.size + 1, 2, none⟩ = some (.int .i64 0) := hcp.res 2 _ rfl
          have c3 : wr.cell? ⟨w'.heap.size + 1, 3, none⟩ = some (.int .i64 0) := hcp.res 3 _ rfl
          have c4 : wr.cell? ⟨w'.heap.size + 1, 4, none⟩ = some (.slice none 0 0) := hcp.res 4 _ rfl
          have r0 := hcp.rfz 0
          have r1 := hcp.rfz 1
          have r2 := hcp.rfz 2
          have r3 := hcp.rfz 3
          have r4 := hcp.rfz 4
          have l2 : w'.heap.size + 1 < wr.heap.size := World.block_lt_of_cell? wr _ c0
          have HCP := Lib.hid hcp
          have HD := Lib.hid hdone
          clear hcp hdone hrest
          go_wp2
          refine bodyPost_ret (v := .agg #[.int .i64 k, .string s, .int .i64 lo, .int .i64 hi0, .slice (some ⟨g, 0, none⟩) i cap]) (by simp [results, Tryz.results17, go_sem, *]) rfl ?_
          show CopyEnd w' _ _ _ (set5 wr (w'.heap.size + 1) 0 (f5 k lo hi0 s (some ⟨g, 0, none⟩) i cap))
          have hge := HCP.out.ge
          have hws := HH.out.size
          have hrs := HCP.out.below.size
          refine ⟨_, rfl, TyIn.mk k lo hi0 s i (some ⟨g, 0, none⟩) q cap d A' B hn (fun j hj => ⟨g, 0, rfl, fun l hl => ?_⟩) (((HB.out.1.below HH.out).below HCP.out.below).keep fun b o hq h0 o' x hx => ?_) (fun b o hp _ => ?_) HB.out.2 (fun j hj => ?_), set5_below HCP.out.below (by omega)⟩
          · rw [Nat.zero_add, set5_other (Or.inl (by omega))]
            exact HCP.out.row j hj l hl
          · have := HB.out.2 b o hq h0
            rw [set5_other (Or.inl (by omega))]
            exact hx
          · injection hp with hp
            injection hp with h1 h2
            subst h1
            omega
          · exact (HD.out j hj).keep (fun b hb o x hx => by rw [set5_other (Or.inl (by rcases hb with hb | hb <;> omega))]; exact hx) (fun b hb => (by show w'.heap.size ≤ b; omega)) (fun b hb => hb)
theorem copyType_any {w w' : World} {v u : Value} (h : TyAl w v u) (hb : Below w.heap.size w w') : Calls Tryz.prog 17 #[v] w' fun e w'' => ∃ v', e = .returned v' ∧ TyAl w'' v' u ∧ Below w'.heap.size w' w'' :=
  (copyType_in h.in_ w' hb).mono fun e w'' ⟨v', h1, h2, h3⟩ => ⟨v', h1, h2.al, h3⟩
end Go.Proofs.YtjnimfnelacceaaGreatDoor
namespace Go.Proofs.YtjnimfnelacceaaGreatDoor
open Go.RowKit Go.Proofs.YtjnimfnelacceaaGreatDoorW.PrintLast

/-- P holds, and goes on to hold whatever is changed at the blocks of G. -/
def Off (G : Nat → Prop) (w : World) (P : World → Prop) : Prop :=
  ∀ w', w.heap.size ≤ w'.heap.size → (∀ b, b < w.heap.size → ¬ G b → w'.heap[b]? = w.heap[b]?) → P w'
theorem Off.out {G : Nat → Prop} {w : World} {P : World → Prop} (h : Off G w P) : P w := h w (Nat.le_refl _) (fun _ _ _ => rfl)
theorem Off.step {G G' : Nat → Prop} {w w' : World} {P : World → Prop} (h : Off G w P) (hs : w.heap.size ≤ w'.heap.size) (hk : ∀ b, b < w.heap.size → ¬ G b → w'.heap[b]? = w.heap[b]?) (hG : ∀ b, b < w.heap.size → G' b → G b) : Off G' w' P :=
  fun w2 h2 k2 => h w2 (Nat.le_trans hs h2) (fun b hb hg => (k2 b (Nat.lt_of_lt_of_le hb hs) (fun hg' => hg (hG b hb hg'))).trans (hk b hb hg))
theorem Off.under {G : Nat → Prop} {w w' : World} {P : World → Prop} (h : Off G w P) (hb : Below w.heap.size w w') : Off G w' P := h.step hb.size (fun b hb' _ => hb.block b hb') (fun _ _ h => h)
theorem Off.and {G : Nat → Prop} {w : World} {P R : World → Prop} (h : Off G w P) (k : Off G w R) : Off G w (fun w => P w ∧ R w) := fun w' h1 h2 => ⟨h w' h1 h2, k w' h1 h2⟩
theorem Off.imp {G : Nat → Prop} {w : World} {P R : World → Prop} (h : Off G w P) (k : ∀ w, P w → R w) : Off G w R := fun w' h1 h2 => k w' (h w' h1 h2)
theorem Off.less {G G' : Nat → Prop} {w : World} {P : World → Prop} (h : Off G w P) (hG : ∀ b, G' b → G b) : Off G' w P := h.step (Nat.le_refl _) (fun _ _ _ => rfl) (fun b _ => hG b)
theorem Off.box {G : Nat → Prop} {w : World} {b : Nat} {X : Array Value} (h : BoxAt w b X) (hg : ¬ G b) : Off G w (fun w => BoxAt w b X) := by
  intro w' h1 h2 i v hi
  have hc := h i v hi
  have := h2 b (World.block_lt_of_cell? w _ hc) hg
  rw [World.cell?_of_block (w := w) (a := ⟨b, i, none⟩) this]
  exact hc
theorem Off.ty {G : Nat → Prop} {w : World} {S T : Nat → Prop} {v u : Value} (h : TyIn w S T v u) (hS : ∀ b, S b → ¬ G b) (hT : ∀ b, T b → ¬ G b) : Off G w (fun w => TyAl w v u) := by
  intro w' h1 h2
  refine (h.keep (S' := S) (T' := T) (fun b hb o x hx => ?_) (fun _ h => h) (fun _ h => h)).al
  have := h2 b (World.block_lt_of_cell? w _ hx) (by rcases hb with hb | hb; exact hS b hb; exact hT b hb)
  rw [World.cell?_of_block (w := w) (a := ⟨b, o, none⟩) this]
  exact hx
theorem setRow_box {w : World} {g : Nat} {Z X : Array Value} {t : TypeId} {fr : Nat × Nat} (hg : w.heap[g]? = some (.cells Z t fr)) : BoxAt (w.setRow g X) g X := fun i v hi => by
  rw [cell_setRow_same w g i Z X t fr hg]; exact hi
theorem Off.row {G : Nat → Prop} {w : World} {P : World → Prop} (h : Off G w P) {g : Nat} (hg : G g) (X : Array Value) : Off G (w.setRow g X) P :=
  h.step (by simp) (fun b _ hb => setRow_other w g b X (fun e => hb (e ▸ hg))) (fun _ _ h => h)
theorem Off.new {G : Nat → Prop} {w : World} {P : World → Prop} (h : Off G w P) (o : Obj) : Off (fun b => G b ∨ b = w.heap.size) (w.alloc o) P :=
  h.step (by simp) (fun b hb _ => ((Below.refl w.heap.size w).alloc (Nat.le_refl _) o).block b hb) (fun b hb h => by rcases h with h | h; exact h; omega)

section
variable {P : Program} {ops : Array Oper} {Q : Exit → Act → World → Prop} {md : Region.Mode} {S : World → Prop} {ds : List Nat}
/-- Each operation waits for earlier ones only. -/
def topoB (md : Region.Mode) (ops : Array Oper) : Bool := (List.range ops.size).all fun i => match ops[i]? with
  | some o => o.after.all fun e => !Region.binds md e || decide (e.on < i)
  | none => true
theorem all_listed {l : Array Bool} (hl : l.size = ops.size) (ht : topoB md ops = true) (h : Region.ready md ops l = []) : ∀ i, i < ops.size → l.getD i true = true := by
  intro i
  induction i using Nat.strongRecOn with
  | _ i ih =>
    intro hi
    cases hb : l.getD i true with
    | true => rfl
    | false =>
      have h1 := List.all_eq_true.1 ht i (List.mem_range.2 hi)
      have ho : ops[i]? = some ops[i] := Array.getElem?_eq_getElem hi
      rw [ho] at h1
      have hm : i ∈ Region.ready md ops l := mem_ready.2 ⟨hb, ops[i], ho, fun e he hbe => by
        have h2 := Array.all_eq_true_iff_forall_mem.1 h1 e he
        simp only [hbe, Bool.not_true, Bool.false_or, decide_eq_true_eq] at h2
        have h3 := ih e.on h2 (by omega)
        have h4 : e.on < l.size := by omega
        simpa [Array.getD, h4] using h3⟩
      rw [h] at hm
      cases hm
/-- Whatever order is picked, by an invariant over what has come up. -/
theorem inv_ (I : Act → Array Bool → Act → World → Prop) {fuel : Nat} {l : Array Bool} {a0 : Act} {w : World} (ht : topoB md ops = true) (hI : I a0 l a0 w)
    (hsz : ∀ l a w, I a0 l a w → l.size = ops.size ∧ S w)
    (hstep : ∀ l a w, I a0 l a w → ∀ i oi, ops[i]? = some oi → l.getD i true = false → (oi.after.all fun e => !Region.binds md e || l.getD e.on false) = true → ∀ K : Act → World → Prop, Shut (∀ a' w', I a0 (l.setIfInBounds i true) a' w' → K a' w') → if Region.wanted oi (yielded ops a.tmps) = true then Oper.wp P oi a w K Q else K (a.put oi.dst undef) w)
    (hdone : ∀ l a w, I a0 l a w → (∀ i, i < ops.size → l.getD i true = true) → Q .normal a w) (hf : l.toList.count false ≤ fuel) : wpAnyLast P md ops Q S ds fuel l a0 w := by
  suffices h : ∀ fuel l a w, l.toList.count false ≤ fuel → I a0 l a w → wpAnyLast P md ops Q S ds fuel l a w from h fuel l a0 w hf hI
  clear hf hI
  intro fuel
  induction fuel with
  | zero =>
    intro l a w hc hi
    have hr : Region.ready md ops l = [] := by
      cases hq : Region.ready md ops l with
      | nil => rfl
      | cons i r =>
        have hm : i ∈ Region.ready md ops l := by rw [hq]; exact List.mem_cons_self ..
        obtain ⟨h1, -⟩ := mem_ready.1 hm
        have h2 : false ∈ l.toList := by
          by_cases hlt : i < l.size
          · have : l[i] = false := by simpa [Array.getD, hlt] using h1
            rw [← this]
            exact Array.getElem_mem_toList ..
          · simp [Array.getD, hlt] at h1
        have := List.count_pos_iff.2 h2
        omega
    exact ⟨hr, hdone l a w hi (all_listed (hsz l a w hi).1 ht hr)⟩
  | succ fuel ih =>
    intro l a w hc hi
    refine ⟨fun hr => hdone l a w hi (all_listed (hsz l a w hi).1 ht hr), fun i him => ?_⟩
    obtain ⟨h1, oi, ho, hall⟩ := mem_ready.1 him
    refine wpOp_step ho (fun K hK => ?_)
    refine hstep l a w hi i oi ho h1 ?_ K (fun a' w' hi' => hK a' w' ⟨fun _ _ => (hsz _ a' w' hi').2, ih _ a' w' ?_ hi'⟩)
    · rw [Array.all_eq_true_iff_forall_mem]
      intro e he
      cases hb : Region.binds md e with
      | false => rfl
      | true => simpa using hall e he hb
    · have hlt : i < l.size := by
        by_cases hlt : i < l.size
        · exact hlt
        · simp [Array.getD, hlt] at h1
      have h2 : l[i] = false := by simpa [Array.getD, hlt] using h1
      have h3 : (l.setIfInBounds i true).toList = l.toList.set i true := by simp
      rw [h3, List.count_set (by simpa using hlt)]
      have h4 : l.toList[i]'(by simpa using hlt) = false := by simpa using h2
      have h5 : 0 < l.toList.count false := List.count_pos_iff.2 (by rw [← h4]; exact List.getElem_mem ..)
      simp only [h4, beq_self_eq_true, if_true, Bool.true_beq, Bool.false_eq_true, if_false, (by decide : (true == false) = false)]
      omega
theorem run_store_row {oi : Oper} {a : Act} {w : World} (t : TypeId) (p x : Operand) (hop : oi.op = .store t p x) (g : Nat) (Z X : Array Value) (tt : TypeId)
    (hp : a.eval p = .pointer (some ⟨g, 0, none⟩)) (hx : a.eval x = .agg X) (hg : w.heap[g]? = some (.cells Z tt (0, 0))) (hi : (P.info? t).map (·.size) = some X.size) (ho : Z.size = X.size) (h1 : X.all (·.oneCell') = true) :
    (execOp a.eval oi).run P w = .ok .skip (w.setRow g X) := by
  have := run_storeVar_row (P := P) w g tt t Z X hg hi ho h1
  unfold execOp
  simp only [hop, hp, hx, Instr.storeAt, Instr.sureAddr]
  simp only [Sem.run_bind, Sem.run_pure, Result.andThen, this]
end
end Go.Proofs.YtjnimfnelacceaaGreatDoor
namespace Go.Proofs.YtjnimfnelacceaaGreatDoor
open Go.RowKit Go.Proofs.YtjnimfnelacceaaGreatDoorW.PrintLast

theorem results_box {P : Program} {fn : Func} {p : Tmp} {ty : TypeId} (h : fn.results = #[.cell p ty]) (tmps : Array Value) (w : World) (b : Nat) (X : Array Value) (fs : Array Field)
    (hp : tmps.getD p undef = .pointer (some ⟨b, 0, none⟩)) (hu : P.underlying ty = some (.struct fs)) (hi : (P.info? ty).map (·.size) = some X.size) (hc : BoxAt w b X) : (results fn tmps).run P w = .ok (.agg X) w := by
  have h1 := run_loadAt_box (P := P) w ty b 0 X fs hu hi (fun j v hj => by rw [Nat.zero_add]; exact hc j v hj)
  simp only [Instr.loadAt, Instr.sureAddr, Sem.run_bind, Sem.run_pure, Result.andThen] at h1
  have hp' : tmps[p]?.getD undef = .pointer (some ⟨b, 0, none⟩) := by simpa using hp
  simp [results, h, hp', asAddr, Sem.run_bind, h1]
def varE (s : ByteArray) : Array Value := #[.int .i64 3, .string s, .int .i64 0, .int .i64 0, .string ⟨#[]⟩, .int .i64 0, .int .i64 0, .slice none 0 0, .slice none 0 0, .slice none 0 0, .slice none 0 0]
theorem info37s : (Tryz.prog.info? 37).map (·.size) = some 11 := by kernel_rfl
theorem info59s : (Tryz.prog.info? 59).map (·.size) = some 41 := by kernel_rfl
theorem info55s : (Tryz.prog.info? 55).map (·.size) = some 18 := by kernel_rfl
set_option maxRecDepth 100000 in
set_option maxHeartbeats 2000000 in
theorem variable_any (s : ByteArray) (w : World) : Calls Tryz.prog 18 #[.string s] w fun e w' => e = .returned (.agg (varE s)) ∧ Below w.heap.size w w' := by
  go_enter Tryz.func18, Tryz.ntmps18
  go_wp2_with (refine wpList_store_new 37 (.tmp 2) (.tmp 4) rfl rfl rfl w _ (varE s) rfl rfl rfl info37s rfl rfl ?_)
  refine bodyPost_ret (results_box rfl _ _ w.heap.size (varE s) _ rfl Tryz.underlying37 info37s (box_new _ _ _)) rfl ?_
  exact ⟨rfl, (Below.refl _ _).alloc (Nat.le_refl _) _⟩
/-- A method's definition, cell by cell. -/
def mdef (gn : ByteArray) (pp : Value) (t0 t1 t2 t3 t4 b0 b1 b2 b3 b4 b5 b6 b7 b8 b9 b10 : Value) : Array Value :=
  #[.int .i64 3, .string ⟨#[]⟩, .slice none 0 0, .slice none 0 0, .bool false, .bool false, .string ⟨#[]⟩, .int .i64 0, .bool false, .string gn, pp, t0, t1, t2, t3, t4, b0, b1, b2, b3, b4, b5, b6, b7, b8, b9, b10, .string ⟨#[]⟩, .slice none 0 0, .string ⟨#[]⟩,
    .int .i64 0, .string ⟨#[]⟩, .int .i64 0, .int .i64 0, .string ⟨#[]⟩, .int .i64 0, .int .i64 0, .slice none 0 0, .slice none 0 0, .slice none 0 0, .slice none 0 0]
set_option maxRecDepth 100000 in
set_option maxHeartbeats 4000000 in
theorem accessor_any (gn : ByteArray) (p : Option Addr) (n c : Nat) (b0 b1 b2 b3 b4 b5 b6 b7 b8 b9 b10 : Value) (h1 : (#[b0, b1, b2, b3, b4, b5, b6, b7, b8, b9, b10] : Array Value).all (·.oneCell') = true) (w : World) :
    Calls Tryz.prog 19 #[.string gn, .slice p n c, .agg #[b0, b1, b2, b3, b4, b5, b6, b7, b8, b9, b10]] w fun e w' => e = .returned (.agg (mdef gn (.slice p n c) (.int .i64 0) (.string ⟨#[]⟩) (.int .i64 0) (.int .i64 0) (.slice none 0 0) b0 b1 b2 b3 b4 b5 b6 b7 b8 b9 b10)) ∧ Below w.heap.size w w' := by
  go_enter Tryz.func19, Tryz.ntmps19
  go_wp2_with (first
    | refine wpList_store_new 59 (.tmp 6) (.tmp 11) rfl rfl rfl (w.alloc (.cells #[b0, b1, b2, b3, b4, b5, b6, b7, b8, b9, b10] 37)) _ (mdef gn (.slice p n c) (.int .i64 0) (.string ⟨#[]⟩) (.int .i64 0) (.int .i64 0) (.slice none 0 0) b0 b1 b2 b3 b4 b5 b6 b7 b8 b9 b10) rfl (by show Value.pointer (some ⟨w.heap.size + 1, 0, none⟩) = _; rw [World.size_alloc]) rfl info59s rfl ?q1 ?_
    | refine wpList_load_big 37 _ rfl rfl w.heap.size 0 #[b0, b1, b2, b3, b4, b5, b6, b7, b8, b9, b10] _ Tryz.underlying37 rfl info37s ?q2 ?_)
  case q2 => intro j v hj; rw [Nat.zero_add]; exact (box_new w _ _).under ((Below.refl _ _).alloc (Nat.le_refl _) _) j v hj
  case q1 => simpa [mdef, Value.oneCell'] using h1
  have hbx := box_new (w.alloc (.cells #[b0, b1, b2, b3, b4, b5, b6, b7, b8, b9, b10] 37)) (mdef gn (.slice p n c) (.int .i64 0) (.string ⟨#[]⟩) (.int .i64 0) (.int .i64 0) (.slice none 0 0) b0 b1 b2 b3 b4 b5 b6 b7 b8 b9 b10) 59
  rw [World.size_alloc] at hbx
  refine bodyPost_ret (v := .agg (mdef gn (.slice p n c) (.int .i64 0) (.string ⟨#[]⟩) (.int .i64 0) (.int .i64 0) (.slice none 0 0) b0 b1 b2 b3 b4 b5 b6 b7 b8 b9 b10)) ?_ rfl ?_
  · exact results_box rfl _ _ (w.heap.size + 1) (mdef gn (.slice p n c) (.int .i64 0) (.string ⟨#[]⟩) (.int .i64 0) (.int .i64 0) (.slice none 0 0) b0 b1 b2 b3 b4 b5 b6 b7 b8 b9 b10) _ rfl Tryz.underlying59 info59s hbx
  exact ⟨rfl, ((Below.refl _ _).alloc (Nat.le_refl _) _).alloc (by simp) _⟩
end Go.Proofs.YtjnimfnelacceaaGreatDoor
