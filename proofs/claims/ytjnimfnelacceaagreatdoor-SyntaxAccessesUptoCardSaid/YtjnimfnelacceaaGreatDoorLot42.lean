/- Getters and setters in memory; the program's and the reference's are deeply equal. Two definitions are appended. What Accessors keeps, round for round. -/
import Derived.Test.YtjnimfnelacceaaGreatDoorLot16
import Derived.Test.YtjnimfnelacceaaGreatDoorLot17
import Derived.Test.YtjnimfnelacceaaGreatDoorLot41
set_option linter.unusedSimpArgs false
set_option linter.unusedVariables false
namespace Go.Proofs.YtjnimfnelacceaaGreatDoor
open Go.RowKit Go.Proofs.YtjnimfnelacceaaGreatDoorW.PrintLast

def strB (l : List UInt8) : ByteArray := ⟨l.toArray⟩
def OBJ : ByteArray := ⟨#[111, 98, 106, 101, 99, 116]⟩
def VAL : ByteArray := ⟨#[118, 97, 108, 117, 101]⟩
def parO (cn : ByteArray) : Array Value := #[.string OBJ, .int .i64 1, .string cn, .int .i64 0, .int .i64 0, .slice none 0 0]
def par2 (s0 s1 s2 s3 s4 : Value) (cn : ByteArray) : Array Value := #[.string VAL, s0, s1, s2, s3, s4, .string OBJ, .int .i64 1, .string cn, .int .i64 0, .int .i64 0, .slice none 0 0]
def args2 : Array Value := varE OBJ ++ varE VAL
def accM (k : Int) (gn nm : ByteArray) (p q : Addr) (n : Nat) (t0 t1 t2 t3 t4 : Value) : Array Value :=
  mdef gn (.slice (some p) n n) t0 t1 t2 t3 t4 (.int .i64 k) (.string nm) (.int .i64 0) (.int .i64 0) (.string ⟨#[]⟩) (.int .i64 0) (.int .i64 0) (.slice none 0 0) (.slice none 0 0) (.slice none 0 0) (.slice (some q) n n)
def GetD (w : World) (nm cn : ByteArray) (ty : Value) (X : Array Value) : Prop :=
  ∃ b b' t0 t1 t2 t3 t4, ty = .agg #[t0, t1, t2, t3, t4] ∧ X = accM 15 nm nm ⟨b, 0, none⟩ ⟨b', 0, none⟩ 1 t0 t1 t2 t3 t4 ∧ BoxAt w b (parO cn) ∧ BoxAt w b' (varE OBJ)
def SetD (w : World) (nm cn : ByteArray) (ty1 ty2 : Value) (X : Array Value) : Prop :=
  ∃ b b' s0 s1 s2 s3 s4 t0 t1 t2 t3 t4, ty1 = .agg #[s0, s1, s2, s3, s4] ∧ ty2 = .agg #[t0, t1, t2, t3, t4] ∧ X = accM 16 (strB (setterR nm.data.toList)) nm ⟨b, 0, none⟩ ⟨b', 0, none⟩ 2 t0 t1 t2 t3 t4 ∧ BoxAt w b (par2 s0 s1 s2 s3 s4 cn) ∧ BoxAt w b' args2
theorem row_box {w : World} {b m n : Nat} {X : Array Value} (h : BoxAt w b X) (hs : n * m ≤ X.size) : Row w m (some ⟨b, 0, none⟩) n (fun i j => X.getD (i * m + j) undef) := by
  intro i hi
  refine ⟨b, 0, rfl, fun j hj => ?_⟩
  have h1 : (i + 1) * m ≤ n * m := Nat.mul_le_mul_right m hi
  rw [Nat.add_mul, Nat.one_mul] at h1
  have h2 : i * m + j < X.size := by omega
  rw [Nat.zero_add]
  refine h (i * m + j) _ ?_
  simp [Array.getD, h2]
theorem ty_plain (w : World) (k lo hi : Int) (s : ByteArray) (c d : Nat) : TyAl w (.agg #[.int .i64 k, .string s, .int .i64 lo, .int .i64 hi, .slice none 0 c]) (.agg #[.int .i64 k, .string s, .int .i64 lo, .int .i64 hi, .slice none 0 d]) :=
  TyAl.mk k lo hi s 0 none none c d (fun _ _ => undef) (fun _ _ => undef) (Nat.zero_le _) (fun i hi => absurd hi (Nat.not_lt_zero _)) (fun i hi => absurd hi (Nat.not_lt_zero _)) (fun i hi => absurd hi (Nat.not_lt_zero _))
theorem pars_none (w : World) : ParsAl w 0 none none := ⟨Nat.zero_le _, fun _ _ => undef, fun _ _ => undef, fun i hi => absurd hi (Nat.not_lt_zero _), fun i hi => absurd hi (Nat.not_lt_zero _), fun i hi => absurd hi (Nat.not_lt_zero _)⟩
theorem strs_none (w : World) : StrsAl w 0 none none := ⟨Nat.zero_le _, fun _ _ => undef, fun _ _ => undef, fun i hi => absurd hi (Nat.not_lt_zero _), fun i hi => absurd hi (Nat.not_lt_zero _), fun i hi => absurd hi (Nat.not_lt_zero _)⟩
theorem tys_none (w : World) : TysAl w 0 none none := ⟨Nat.zero_le _, fun _ _ => undef, fun _ _ => undef, fun i hi => absurd hi (Nat.not_lt_zero _), fun i hi => absurd hi (Nat.not_lt_zero _), fun i hi => absurd hi (Nat.not_lt_zero _)⟩
theorem ex_of (w : World) (k : Int) (s : ByteArray) (n : Nat) (p q : Option Addr) (c d : Nat) (A B : Nat → Nat → Value) (hn : n ≤ 1000000000000) (hA : Row w 11 p n A) (hB : Row w 11 q n B) (h : ∀ i, i < n → ExAl w (agg11 (A i)) (agg11 (B i))) :
    ExAl w (.agg #[.int .i64 k, .string s, .int .i64 0, .int .i64 0, .string ⟨#[]⟩, .int .i64 0, .int .i64 0, .slice none 0 0, .slice none 0 0, .slice none 0 0, .slice p n c]) (.agg #[.int .i64 k, .string s, .int .i64 0, .int .i64 0, .string ⟨#[]⟩, .int .i64 0, .int .i64 0, .slice none 0 0, .slice none 0 0, .slice none 0 0, .slice q n d]) :=
  ExAl.mk k 0 s _ _ _ _ _ _ _ _ _ _ (ty_plain w 0 0 0 ⟨#[]⟩ 0 0) 0 none none 0 0 (pars_none w) 0 none none 0 0 (strs_none w) n p q c d A B hn hA hB h
theorem ex_leaf (w : World) (k : Int) (s : ByteArray) : ExAl w (.agg #[.int .i64 k, .string s, .int .i64 0, .int .i64 0, .string ⟨#[]⟩, .int .i64 0, .int .i64 0, .slice none 0 0, .slice none 0 0, .slice none 0 0, .slice none 0 0]) (.agg #[.int .i64 k, .string s, .int .i64 0, .int .i64 0, .string ⟨#[]⟩, .int .i64 0, .int .i64 0, .slice none 0 0, .slice none 0 0, .slice none 0 0, .slice none 0 0]) :=
  ex_of w k s 0 none none 0 0 (fun _ _ => undef) (fun _ _ => undef) (Nat.zero_le _) (fun i hi => absurd hi (Nat.not_lt_zero _)) (fun i hi => absurd hi (Nat.not_lt_zero _)) (fun i hi => absurd hi (Nat.not_lt_zero _))
theorem acc_alike {w : World} (k : Int) (gn nm : ByteArray) (p p' q q' : Addr) (n : Nat) (t0 t1 t2 t3 t4 u0 u1 u2 u3 u4 : Value) (hp : ParsAl w n (some p) (some p')) (ht : TyAl w (.agg #[t0, t1, t2, t3, t4]) (.agg #[u0, u1, u2, u3, u4])) (A B : Nat → Nat → Value)
    (hn : n ≤ 1000000000000) (hA : Row w 11 (some q) n A) (hB : Row w 11 (some q') n B) (h : ∀ i, i < n → ExAl w (agg11 (A i)) (agg11 (B i))) : DfAl w (.agg (accM k gn nm p q n t0 t1 t2 t3 t4)) (.agg (accM k gn nm p' q' n u0 u1 u2 u3 u4)) := by
  unfold accM mdef
  exact DfAl.mk 3 ⟨#[]⟩ 0 none none 0 0 (strs_none w) none none 0 0 false false ⟨#[]⟩ 0 false gn n (some p) (some p') n n hp t0 t1 t2 t3 t4 u0 u1 u2 u3 u4 ht _ _ _ _ _ _ _ _ _ _ _ _ _ _ _ _ _ _ _ _ _ _ (ex_of w k nm n (some q) (some q') n n A B hn hA hB h)
    ⟨#[]⟩ 0 none none 0 0 (tys_none w) ⟨#[]⟩ _ _ _ _ _ _ _ _ _ _ _ _ _ _ _ _ _ _ _ _ _ _ (ex_leaf w 0 ⟨#[]⟩)
theorem get_alike {w : World} {nm cn : ByteArray} {ty ty' : Value} {X Y : Array Value} (hX : GetD w nm cn ty X) (hY : GetD w nm cn ty' Y) (ht : TyAl w ty ty') : DfAl w (.agg X) (.agg Y) := by
  obtain ⟨b, b', t0, t1, t2, t3, t4, rfl, rfl, h1, h2⟩ := hX
  obtain ⟨g, g', u0, u1, u2, u3, u4, rfl, rfl, k1, k2⟩ := hY
  refine acc_alike 15 nm nm _ _ _ _ 1 t0 t1 t2 t3 t4 u0 u1 u2 u3 u4 ⟨by decide, _, _, row_box (m := 6) (n := 1) h1 (Nat.le_refl 6), row_box (m := 6) (n := 1) k1 (Nat.le_refl 6), fun i hi => ?_⟩ ht _ _ (by decide) (row_box (m := 11) (n := 1) h2 (by decide)) (row_box (m := 11) (n := 1) k2 (by decide)) (fun i hi => ?_)
  · obtain rfl : i = 0 := by omega
    exact ⟨⟨OBJ, rfl, rfl⟩, ty_plain w 1 0 0 cn 0 0⟩
  · obtain rfl : i = 0 := by omega
    exact ex_leaf w 3 OBJ
theorem set_alike {w : World} {nm cn : ByteArray} {ty1 ty2 tz1 tz2 : Value} {X Y : Array Value} (hX : SetD w nm cn ty1 ty2 X) (hY : SetD w nm cn tz1 tz2 Y) (ht1 : TyAl w ty1 tz1) (ht2 : TyAl w ty2 tz2) : DfAl w (.agg X) (.agg Y) := by
  obtain ⟨b, b', s0, s1, s2, s3, s4, t0, t1, t2, t3, t4, rfl, rfl, rfl, h1, h2⟩ := hX
  obtain ⟨g, g', v0, v1, v2, v3, v4, u0, u1, u2, u3, u4, rfl, rfl, rfl, k1, k2⟩ := hY
  refine acc_alike 16 _ nm _ _ _ _ 2 t0 t1 t2 t3 t4 u0 u1 u2 u3 u4 ⟨by decide, _, _, row_box (m := 6) (n := 2) h1 (Nat.le_refl 12), row_box (m := 6) (n := 2) k1 (Nat.le_refl 12), fun i hi => ?_⟩ ht2 _ _ (by decide) (row_box (m := 11) (n := 2) h2 (by decide)) (row_box (m := 11) (n := 2) k2 (by decide)) (fun i hi => ?_)
  · rcases (by omega : i = 0 ∨ i = 1) with rfl | rfl
    · exact ⟨⟨VAL, rfl, rfl⟩, ht1⟩
    · exact ⟨⟨OBJ, rfl, rfl⟩, ty_plain w 1 0 0 cn 0 0⟩
  · rcases (by omega : i = 0 ∨ i = 1) with rfl | rfl
    · exact ex_leaf w 3 OBJ
    · exact ex_leaf w 3 VAL
/-- The definitions for the first slots, virtual ones apart: nm, al, T: their names, their kinds, and what their types may be. -/
def Accs (nm : Nat → ByteArray) (al : Nat → Int) (cn : ByteArray) (T : World → Nat → Value → Prop) (w : World) : Nat → List (Array Value) → Prop
  | 0, xs => xs = []
  | i + 1, xs => if al i = 4 then Accs nm al cn T w i xs else ∃ ys X Y ty ty1 ty2, xs = ys ++ [X, Y] ∧ Accs nm al cn T w i ys ∧ T w i ty ∧ T w i ty1 ∧ T w i ty2 ∧ GetD w (nm i) cn ty X ∧ SetD w (nm i) cn ty1 ty2 Y
theorem accs_alike {nm : Nat → ByteArray} {al : Nat → Int} {cn : ByteArray} {tv : Nat → Value} {w : World} : ∀ (n : Nat) (xs ys : List (Array Value)), Accs nm al cn (fun w i ty => TyAl w ty (tv i)) w n xs → Accs nm al cn (fun _ i ty => ty = tv i) w n ys →
    xs.length = ys.length ∧ xs.length ≤ 2 * n ∧ ∀ i, i < xs.length → DfAl w (.agg (xs.getD i #[])) (.agg (ys.getD i #[]))
  | 0, xs, ys, hx, hy => by
    obtain rfl : xs = [] := hx
    obtain rfl : ys = [] := hy
    exact ⟨rfl, Nat.zero_le _, fun i hi => absurd hi (Nat.not_lt_zero _)⟩
  | n + 1, xs, ys, hx, hy => by
    unfold Accs at hx hy
    by_cases h4 : al n = 4
    · rw [if_pos h4] at hx hy
      obtain ⟨h1, h2, h3⟩ := accs_alike n xs ys hx hy
      exact ⟨h1, by omega, h3⟩
    · rw [if_neg h4] at hx hy
      obtain ⟨xs, X, X', ty, ty1, ty2, rfl, hxs, a1, a2, a3, a4, a5⟩ := hx
      obtain ⟨ys, Y, Y', tz, tz1, tz2, rfl, hys, rfl, rfl, rfl, b4, b5⟩ := hy
      obtain ⟨h1, h2, h3⟩ := accs_alike n xs ys hxs hys
      refine ⟨by simp [h1], by simp; omega, fun i hi => ?_⟩
      rw [List.length_append] at hi
      by_cases hlt : i < xs.length
      · have e1 : (xs ++ [X, X']).getD i #[] = xs.getD i #[] := by simp [List.getD_eq_getElem?_getD, List.getElem?_append_left hlt]
        have e2 : (ys ++ [Y, Y']).getD i #[] = ys.getD i #[] := by simp [List.getD_eq_getElem?_getD, List.getElem?_append_left (h1 ▸ hlt)]
        rw [e1, e2]
        exact h3 i hlt
      · simp only [List.length_cons, List.length_nil] at hi
        rcases (by omega : i = xs.length ∨ i = xs.length + 1) with e | e
        · have e1 : (xs ++ [X, X']).getD i #[] = X := by subst e; simp [List.getD_eq_getElem?_getD]
          have e2 : (ys ++ [Y, Y']).getD i #[] = Y := by subst e; rw [h1]; simp [List.getD_eq_getElem?_getD]
          rw [e1, e2]
          exact get_alike a4 b4 a1
        · have e1 : (xs ++ [X, X']).getD i #[] = X' := by subst e; simp [List.getD_eq_getElem?_getD]
          have e2 : (ys ++ [Y, Y']).getD i #[] = Y' := by subst e; rw [h1]; simp [List.getD_eq_getElem?_getD]
          rw [e1, e2]
          exact set_alike a5 b5 a2 a3
end Go.Proofs.YtjnimfnelacceaaGreatDoor
namespace Go.Proofs.YtjnimfnelacceaaGreatDoor
open Go.RowKit Go.Proofs.YtjnimfnelacceaaGreatDoorW.PrintLast

theorem own_below {w w' : World} {B : Nat} {e : TypeId} {k : Nat} {v : Value} {n : Nat} {xs : List Value} (h : w.ownsRow B e k v n xs) (hb : Below w.heap.size w w') : w'.ownsRow B e k v n xs :=
  h.kept (row := none) ⟨hb.os, hb.tape, hb.output, hb.size, fun j hj _ => hb.block j hj⟩ (by cases v.ownBlock <;> simp)
theorem info59 : (Tryz.prog.info? 59).map (fun i => (i.zero, i.size, i.bytes)) = some (some (.agg #[.int .i64 0, .string ⟨#[]⟩, .slice none 0 0, .slice none 0 0, .bool false, .bool false, .string ⟨#[]⟩, .int .i64 0, .bool false, .string ⟨#[]⟩, .slice none 0 0, .int .i64 0, .string ⟨#[]⟩, .int .i64 0, .int .i64 0, .slice none 0 0, .int .i64 0, .string ⟨#[]⟩, .int .i64 0, .int .i64 0, .string ⟨#[]⟩, .int .i64 0, .int .i64 0, .slice none 0 0, .slice none 0 0, .slice none 0 0, .slice none 0 0, .string ⟨#[]⟩, .slice none 0 0, .string ⟨#[]⟩, .int .i64 0, .string ⟨#[]⟩, .int .i64 0, .int .i64 0, .string ⟨#[]⟩, .int .i64 0, .int .i64 0, .slice none 0 0, .slice none 0 0, .slice none 0 0, .slice none 0 0]), 41, 608) := by kernel_rfl
theorem append_two {ops : Array Oper} {rest : List Oper} {oi : Oper} {a : Act} {Q : Exit → Act → World → Prop} {w7 : World} (C : Array Value) (hgd : oi.guard = none) (s x : Operand)
    (ho : oi.op = .call { callee := .builtin .append, args := #[s, x], argTypes := #[28, 28] }) (base : Nat) (v : Value) (n : Nat) (xs : List Value) (hs : a.eval s = v) (hown : w7.ownsRow base 59 41 v n xs)
    (hx : a.eval x = .slice (some ⟨w7.heap.size, 0, none⟩) 2 2) (hC : C.size = 82) (h1 : C.all (·.oneCell') = true) (hn : n ≤ 10000000) (hb : base ≤ w7.heap.size)
    (h : ∀ v' w', w'.ownsRow base 59 41 v' (n + 2) (xs ++ C.toList) → (w7.alloc (.cells C 59)).grownBy w' v.ownBlock → (v'.ownBlock = v.ownBlock ∨ v'.ownBlock = some (w7.heap.size + 1)) → wpList Tryz.prog ops Q rest (a.put oi.dst v') w') :
    wpList Tryz.prog ops Q (oi :: rest) a (w7.alloc (.cells C 59)) := by
  obtain ⟨i0, hi0, hz0, hz1, hz2⟩ := info_parts info59
  refine wpList_append_own_at _ hgd s x 28 ho base 59 i0 _ 41 608 Tryz.underlying28 hi0 hz0 hz1 hz2 rfl (by decide) v n xs hs (own_below hown ((Below.refl _ _).alloc (Nat.le_refl _) _)) ⟨w7.heap.size, 0, none⟩ 2 2 C.toList hx (by simp [hC]) (fun j u hj => ?_) (fun u hu => ?_) (by unfold maxLen; omega) (by omega) (by rw [World.size_alloc]; omega) (fun v' w' k1 k2 _ k4 => h v' w' k1 k2 (by rw [World.size_alloc] at k4; exact k4))
  · have hadd : (⟨w7.heap.size, 0, none⟩ : Addr).add j = ⟨w7.heap.size, j, none⟩ := by unfold Addr.add; split <;> simp_all
    rw [hadd]
    exact box_new w7 C _ j u (by simpa using hj)
  · rw [Array.all_eq_true_iff_forall_mem] at h1
    exact h1 u (by simpa using hu)
end Go.Proofs.YtjnimfnelacceaaGreatDoor
namespace Go.Proofs.YtjnimfnelacceaaGreatDoor
open Go.RowKit Go.Proofs.YtjnimfnelacceaaGreatDoorW.PrintLast

def tyv (A : Nat → Nat → Value) (i : Nat) : Value := .agg #[A i 1, A i 2, A i 3, A i 4, A i 5]
structure Slots (W : World) (p : Option Addr) (n : Nat) (A : Nat → Nat → Value) (nm : Nat → ByteArray) (al : Nat → Int) : Prop where
  row : Row W 9 p n A
  name : ∀ i, i < n → A i 0 = .string (nm i)
  kind : ∀ i, i < n → A i 7 = .int .i64 (al i)
  key : ∀ i, i < n → ∃ s, A i 6 = .string s
  init : ∀ i, i < n → ∃ q m c, A i 8 = .slice q m c
  ty : ∀ i, i < n → TyAl W (tyv A i) (tyv A i)
  size : ∀ i, i < n → (nm i).size ≤ 1100000
  hn : n ≤ 1100000
def flat (xs : List (Array Value)) : List Value := (xs.map (·.toList)).flatten
def ownB (v : Value) (b : Nat) : Prop := v.ownBlock = some b
structure AccAt (nm : Nat → ByteArray) (al : Nat → Int) (cn : ByteArray) (T : World → Nat → Value → Prop) (cls : Array Value) (W : World) (B : Nat) (v : Value) (i : Nat) (xs : List (Array Value)) (w : World) : Prop where
  below : Below W.heap.size W w
  box : BoxAt w W.heap.size cls
  own : w.ownsRow B 59 41 v xs.length (flat xs)
  len : xs.length ≤ 2 * i
  cells : ∀ x ∈ xs, x.size = 41
  off : Off (ownB v) w (fun w => Accs nm al cn T w i xs)
def AccEnd (nm : Nat → ByteArray) (al : Nat → Int) (cn : ByteArray) (T : World → Nat → Value → Prop) (n : Nat) (W : World) (e : Ending) (w : World) : Prop :=
  ∃ xs q c, e = .returned (.slice q xs.length c) ∧ RowX w 41 q xs.length (fun i => xs.getD i #[]) ∧ Accs nm al cn T w n xs ∧ Below W.heap.size W w
def exM (k : Int) (nm : ByteArray) (q : Addr) (n : Nat) : Array Value := #[.int .i64 k, .string nm, .int .i64 0, .int .i64 0, .string ⟨#[]⟩, .int .i64 0, .int .i64 0, .slice none 0 0, .slice none 0 0, .slice none 0 0, .slice (some q) n n]
def metM (k : Int) (gn nm : ByteArray) (p q : Addr) (n : Nat) (t0 t1 t2 t3 t4 : Value) : Array Value :=
  #[.string gn, .slice (some p) n n, t0, t1, t2, t3, t4, .int .i64 k, .string nm, .int .i64 0, .int .i64 0, .string ⟨#[]⟩, .int .i64 0, .int .i64 0, .slice none 0 0, .slice none 0 0, .slice none 0 0, .slice (some q) n n]
def TyQ (w : World) (v tv : Value) : Prop := ∃ k lo hi s p n c, v = .agg #[.int .i64 k, .string s, .int .i64 lo, .int .i64 hi, .slice p n c] ∧ TyAl w v tv
def MetG (w : World) (nm cn : ByteArray) (tv : Value) (M : Array Value) : Prop :=
  ∃ b b' k lo hi s p n c, M = metM 15 nm nm ⟨b, 0, none⟩ ⟨b', 0, none⟩ 1 (.int .i64 k) (.string s) (.int .i64 lo) (.int .i64 hi) (.slice p n c) ∧ BoxAt w b (parO cn) ∧ BoxAt w b' (varE OBJ) ∧ TyAl w (.agg #[.int .i64 k, .string s, .int .i64 lo, .int .i64 hi, .slice p n c]) tv
def F8 (nm cn : ByteArray) (tv : Value) : Nat → Value → World → Prop
  | 3 => fun v w => ∃ b, v = .slice (some ⟨b, 0, none⟩) 1 1 ∧ BoxAt w b (parO cn)
  | 6 => fun v w => TyQ w v tv
  | 9 => fun v _ => v = .agg (varE OBJ)
  | 10 => fun v w => ∃ b, v = .slice (some ⟨b, 0, none⟩) 1 1 ∧ BoxAt w b (varE OBJ)
  | 11 => fun v w => ∃ b, v = .agg (exM 15 nm ⟨b, 0, none⟩ 1) ∧ BoxAt w b (varE OBJ)
  | _ => fun v w => ∃ M, v = .agg M ∧ MetG w nm cn tv M
def MetS (w : World) (nm cn : ByteArray) (t0 t1 t2 t3 t4 tv : Value) (M : Array Value) : Prop :=
  ∃ b b' k lo hi s p n c, M = metM 16 (strB (setterR nm.data.toList)) nm ⟨b, 0, none⟩ ⟨b', 0, none⟩ 2 (.int .i64 k) (.string s) (.int .i64 lo) (.int .i64 hi) (.slice p n c) ∧ BoxAt w b (par2 t0 t1 t2 t3 t4 cn) ∧ BoxAt w b' args2 ∧ TyAl w (.agg #[.int .i64 k, .string s, .int .i64 lo, .int .i64 hi, .slice p n c]) tv
def F9 (nm cn : ByteArray) (t0 t1 t2 t3 t4 tv : Value) : Nat → Value → World → Prop
  | 2 => fun v _ => v = .string (strB (setterR nm.data.toList))
  | 5 => fun v w => ∃ b, v = .slice (some ⟨b, 0, none⟩) 2 2 ∧ BoxAt w b (par2 t0 t1 t2 t3 t4 cn)
  | 8 => fun v w => TyQ w v tv
  | 11 => fun v _ => v = .agg (varE OBJ)
  | 12 => fun v _ => v = .agg (varE VAL)
  | 13 => fun v w => ∃ b, v = .slice (some ⟨b, 0, none⟩) 2 2 ∧ BoxAt w b args2
  | 14 => fun v w => ∃ b, v = .agg (exM 16 nm ⟨b, 0, none⟩ 2) ∧ BoxAt w b args2
  | _ => fun v w => ∃ M, v = .agg M ∧ MetS w nm cn t0 t1 t2 t3 t4 tv M
theorem MetG.size {w : World} {nm cn : ByteArray} {tv : Value} {M : Array Value} (h : MetG w nm cn tv M) : M.size = 18 ∧ M.all (·.oneCell') = true := by
  obtain ⟨b, b', k, lo, hi, s, p, n, c, rfl, -⟩ := h
  exact ⟨rfl, by simp [metM, Value.oneCell']⟩
theorem MetS.size {w : World} {nm cn : ByteArray} {t0 t1 t2 t3 t4 tv : Value} {M : Array Value} (h : MetS w nm cn t0 t1 t2 t3 t4 tv M) : M.size = 18 ∧ M.all (·.oneCell') = true := by
  obtain ⟨b, b', k, lo, hi, s, p, n, c, rfl, -⟩ := h
  exact ⟨rfl, by simp [metM, Value.oneCell']⟩
structure At7 (W wr : World) (SL PV : Array Value) (cn : ByteArray) (v2 tv : Value) (g7 : Nat) (w : World) : Prop where
  below : Below wr.heap.size wr w
  slot : BoxAt w wr.heap.size SL
  par : BoxAt w (wr.heap.size + 1) (parO cn)
  val : BoxAt w g7 PV
  ty : TyIn w (fun b => wr.heap.size ≤ b) (fun b => b < W.heap.size) v2 tv
  lt : g7 < w.heap.size
  ge : wr.heap.size + 2 ≤ g7
theorem slot_at {W : World} {p : Option Addr} {n : Nat} {A : Nat → Nat → Value} {nm : Nat → ByteArray} {al : Nat → Int} (h : Slots W p n A nm al) {i : Nat} (hi : i < n) :
    ∃ k s lo h1 q m c key q' m' c', A i 0 = .string (nm i) ∧ A i 1 = .int .i64 k ∧ A i 2 = .string s ∧ A i 3 = .int .i64 lo ∧ A i 4 = .int .i64 h1 ∧ A i 5 = .slice q m c ∧ A i 6 = .string key ∧ A i 7 = .int .i64 (al i) ∧ A i 8 = .slice q' m' c' := by
  have ht : TyIn W (fun b => b < W.heap.size) (fun b => b < W.heap.size) (agg5 fun k => A i (k + 1)) (agg5 fun k => A i (k + 1)) := (show TyAl W (agg5 fun k => A i (k + 1)) (agg5 fun k => A i (k + 1)) from h.ty i hi).in_
  obtain ⟨k, lo, hi', s, q, m, c, a0, a1, a2, a3, a4⟩ := ht.form
  obtain ⟨key, hk⟩ := h.key i hi
  obtain ⟨q', m', c', hq⟩ := h.init i hi
  exact ⟨k, s, lo, hi', q, m, c, key, q', m', c', h.name i hi, a0, a1, a2, a3, a4, hk, h.kind i hi, hq⟩

theorem acc_stepT {nm : Nat → ByteArray} {al : Nat → Int} {cn : ByteArray} {T : World → Nat → Value → Prop} {cls : Array Value} {W wr w7 w' : World} {B : Nat} {v v' : Value} {i : Nat} {xs : List (Array Value)} {o : Obj} {ty ty1 ty2 : Value} {X Y : Array Value}
    (hr : AccAt nm al cn T cls W B v i xs wr) (hB : W.heap.size + 1 ≤ B) (h4 : al i ≠ 4) (hb : Below wr.heap.size wr w7) (hX : X.size = 41) (hY : Y.size = 41)
    (ho : Off (ownB v) w7 (fun w => T w i ty ∧ T w i ty1 ∧ T w i ty2 ∧ GetD w (nm i) cn ty X ∧ SetD w (nm i) cn ty1 ty2 Y))
    (how : w'.ownsRow B 59 41 v' (xs.length + 2) (flat xs ++ (X.toList ++ Y.toList)))
    (hg : (w7.alloc o).grownBy w' v.ownBlock) (hvb : v'.ownBlock = v.ownBlock ∨ v'.ownBlock = some (w7.heap.size + 1)) :
    AccAt nm al cn T cls W B v' (i + 1) (xs ++ [X, Y]) w' := by
  have hw := hr.below.size
  have hw7 := hb.size
  have hz := hg.size
  rw [World.size_alloc] at hz
  have hlt : ∀ b, v.ownBlock = some b → B ≤ b ∧ b < wr.heap.size := fun b e => hr.own.lt b e
  have hba : Below w7.heap.size w7 (w7.alloc o) := (Below.refl _ _).alloc (Nat.le_refl _) _
  have hkeep : ∀ b, b < w7.heap.size → ¬ ownB v b → w'.heap[b]? = w7.heap[b]? := fun b hb' hn => (hg.block b (by rw [World.size_alloc]; omega) (fun e => hn e.symm)).trans (hba.block b hb')
  have hl : flat xs ++ (X.toList ++ Y.toList) = flat (xs ++ [X, Y]) := by simp [flat]
  rw [hl] at how
  refine ⟨?_, ?_, ?_, ?_, ?_, ?_⟩
  · refine ((hr.below.trans (hb.mono hw)).alloc (by omega) o).grown hg (by rw [World.size_alloc]; omega) (fun k hk => ?_)
    have := (hlt k hk).1
    omega
  · intro j u hj
    have h1 := (hr.box.under hb) j u hj
    rw [World.cell?_of_block (w := w7) (a := ⟨W.heap.size, j, none⟩) (hkeep _ (World.block_lt_of_cell? w7 _ h1) (fun e => by have : B ≤ W.heap.size := (hlt _ e).1; omega))]
    exact h1
  · rw [List.length_append]
    exact how
  · have := hr.len
    rw [List.length_append]
    simp only [List.length_cons, List.length_nil]
    omega
  · intro x hx
    rcases List.mem_append.1 hx with h | h
    · exact hr.cells x h
    · simp only [List.mem_cons, List.not_mem_nil, or_false] at h
      rcases h with rfl | rfl
      · exact hX
      · exact hY
  · refine Off.step (G := ownB v) (w := w7) ?_ (by omega) hkeep (fun b hb' h => ?_)
    · refine ((hr.off.under hb).and ho).imp (fun w h => ?_)
      obtain ⟨ha, h1, h2, h3, h5, h6⟩ := h
      unfold Accs
      rw [if_neg h4]
      exact ⟨xs, X, Y, _, _, _, rfl, ha, h1, h2, h3, h5, h6⟩
    · rcases hvb with e | e
      · exact e.symm.trans h
      · have := e.symm.trans (show v'.ownBlock = some b from h)
        injection this with this
        omega
theorem acc_step {nm : Nat → ByteArray} {al : Nat → Int} {cn : ByteArray} {A : Nat → Nat → Value} {cls : Array Value} {W wr w7 w' : World} {v v' : Value} {i : Nat} {xs : List (Array Value)} {o : Obj} {tv s0 s1 s2 s3 s4 : Value}
    {b8 b8' b9 b9' : Nat} {k8 lo8 hi8 k9 lo9 hi9 : Int} {s8 s9 : ByteArray} {p8 p9 : Option Addr} {n8 c8 n9 c9 : Nat}
    (hr : AccAt nm al cn (fun w i ty => TyAl w ty (tyv A i)) cls W (W.heap.size + 1) v i xs wr) (h4 : al i ≠ 4) (hty : tyv A i = tv) (hb : Below wr.heap.size wr w7)
    (ho : Off (ownB v) w7 (fun w => (TyAl w (.agg #[s0, s1, s2, s3, s4]) tv ∧ MetG w (nm i) cn tv (metM 15 (nm i) (nm i) ⟨b8, 0, none⟩ ⟨b8', 0, none⟩ 1 (.int .i64 k8) (.string s8) (.int .i64 lo8) (.int .i64 hi8) (.slice p8 n8 c8))) ∧
      MetS w (nm i) cn s0 s1 s2 s3 s4 tv (metM 16 (strB (setterR (nm i).data.toList)) (nm i) ⟨b9, 0, none⟩ ⟨b9', 0, none⟩ 2 (.int .i64 k9) (.string s9) (.int .i64 lo9) (.int .i64 hi9) (.slice p9 n9 c9))))
    (how : w'.ownsRow (W.heap.size + 1) 59 41 v' (xs.length + 2) (flat xs ++ ((accM 15 (nm i) (nm i) ⟨b8, 0, none⟩ ⟨b8', 0, none⟩ 1 (.int .i64 k8) (.string s8) (.int .i64 lo8) (.int .i64 hi8) (.slice p8 n8 c8)).toList ++ (accM 16 (strB (setterR (nm i).data.toList)) (nm i) ⟨b9, 0, none⟩ ⟨b9', 0, none⟩ 2 (.int .i64 k9) (.string s9) (.int .i64 lo9) (.int .i64 hi9) (.slice p9 n9 c9)).toList)))
    (hg : (w7.alloc o).grownBy w' v.ownBlock) (hvb : v'.ownBlock = v.ownBlock ∨ v'.ownBlock = some (w7.heap.size + 1)) :
    AccAt nm al cn (fun w i ty => TyAl w ty (tyv A i)) cls W (W.heap.size + 1) v' (i + 1) (xs ++ [accM 15 (nm i) (nm i) ⟨b8, 0, none⟩ ⟨b8', 0, none⟩ 1 (.int .i64 k8) (.string s8) (.int .i64 lo8) (.int .i64 hi8) (.slice p8 n8 c8), accM 16 (strB (setterR (nm i).data.toList)) (nm i) ⟨b9, 0, none⟩ ⟨b9', 0, none⟩ 2 (.int .i64 k9) (.string s9) (.int .i64 lo9) (.int .i64 hi9) (.slice p9 n9 c9)]) w' := by
  refine acc_stepT (ty := .agg #[.int .i64 k8, .string s8, .int .i64 lo8, .int .i64 hi8, .slice p8 n8 c8]) (ty1 := .agg #[s0, s1, s2, s3, s4]) (ty2 := .agg #[.int .i64 k9, .string s9, .int .i64 lo9, .int .i64 hi9, .slice p9 n9 c9]) hr (Nat.le_refl _) h4 hb rfl rfl (ho.imp (fun w h => ?_)) how hg hvb
  obtain ⟨⟨ht, hg8⟩, hs9⟩ := h
  obtain ⟨b, b', k, lo, hi, s, p, n, c, e, h1, h2, h3⟩ := hg8
  simp only [metM, Array.mk.injEq, List.cons.injEq, Value.slice.injEq, Value.int.injEq, Value.string.injEq, Option.some.injEq, Addr.mk.injEq, and_true, true_and] at e
  obtain ⟨rfl, rfl, rfl, rfl, rfl, ⟨rfl, rfl, rfl⟩, rfl⟩ := e
  obtain ⟨b, b', k, lo, hi, s, p, n, c, e, k1, k2, k3⟩ := hs9
  simp only [metM, Array.mk.injEq, List.cons.injEq, Value.slice.injEq, Value.int.injEq, Value.string.injEq, Option.some.injEq, Addr.mk.injEq, and_true, true_and] at e
  obtain ⟨rfl, rfl, rfl, rfl, rfl, ⟨rfl, rfl, rfl⟩, rfl⟩ := e
  exact ⟨hty ▸ h3, hty ▸ ht, hty ▸ k3, ⟨_, _, _, _, _, _, _, rfl, rfl, h1, h2⟩, ⟨_, _, _, _, _, _, _, _, _, _, _, _, rfl, rfl, rfl, k1, k2⟩⟩
theorem flat_get : ∀ (xs : List (Array Value)), (∀ x ∈ xs, x.size = 41) → ∀ i j, i < xs.length → j < 41 → (flat xs)[i * 41 + j]? = (xs.getD i #[])[j]?
  | [], _, i, _, hi, _ => absurd hi (Nat.not_lt_zero _)
  | x :: xs, h, 0, j, _, hj => by
    have hx := h x (List.mem_cons_self ..)
    have : (flat (x :: xs)) = x.toList ++ flat xs := by simp [flat]
    rw [this, List.getElem?_append_left (by rw [Array.length_toList]; omega)]
    simp
  | x :: xs, h, i + 1, j, hi, hj => by
    have hx := h x (List.mem_cons_self ..)
    have : (flat (x :: xs)) = x.toList ++ flat xs := by simp [flat]
    rw [this, List.getElem?_append_right (by rw [Array.length_toList]; omega), Array.length_toList]
    have e : (i + 1) * 41 + j - x.size = i * 41 + j := by omega
    rw [e, flat_get xs (fun y hy => h y (List.mem_cons_of_mem _ hy)) i j (by simpa using hi) hj]
    simp [List.getD_eq_getElem?_getD]
theorem acc_end {w : World} {B : Nat} {v : Value} {xs : List (Array Value)} (how : w.ownsRow B 59 41 v xs.length (flat xs)) (hc : ∀ x ∈ xs, x.size = 41) :
    ∃ q c, v = .slice q xs.length c ∧ RowX w 41 q xs.length (fun i => xs.getD i #[]) := by
  obtain ⟨-, ⟨rfl, h0⟩ | ⟨g, cap, cur, rfl, -, hg, -, -, -, ht⟩⟩ := how
  · exact ⟨none, 0, by rw [h0], fun i hi => absurd hi (by omega)⟩
  · refine ⟨_, _, rfl, fun i hi => ?_⟩
    have hm : xs.getD i #[] ∈ xs := by
      rw [List.getD_eq_getElem?_getD, List.getElem?_eq_getElem hi]
      exact List.getElem_mem _
    refine ⟨hc _ hm, g, 0, rfl, fun j u hj => ?_⟩
    have hj41 : j < 41 := by
      have h1 := hc _ hm
      have h2 : (xs.getD i #[])[j]? = some u := hj
      have := (Array.getElem?_eq_some_iff.1 h2).1
      omega
    have h1 := flat_get xs hc i j hi hj41
    have hlt : i * 41 + j < xs.length * 41 := by omega
    rw [← ht, List.getElem?_take_of_lt hlt, Array.getElem?_toList] at h1
    have h2 : (xs.getD i #[])[j]? = some u := hj
    rw [Nat.zero_add]
    simp only [World.cell?, hg]
    rw [h1, h2]
    rfl
end Go.Proofs.YtjnimfnelacceaaGreatDoor
