/- Seventeen times seventeen slots, for the kernel. -/
import Derived.Test.YtjnimfnelacceaaGreatDoorLot29
set_option linter.unusedSimpArgs false
set_option linter.unusedVariables false
namespace Go.Proofs.YtjnimfnelacceaaGreatDoor
open Go.RowKit
noncomputable section

structure C12 where
  a0 : Value
  a1 : Value
  a2 : Value
  a3 : Value
  a4 : Value
  a5 : Value
  a6 : Value
  a7 : Value
  a8 : Value
  a9 : Value
  a10 : Value
  a11 : Value
  a12 : Value
  a13 : Value
  a14 : Value
  a15 : Value
  a16 : Value
structure Ev12 where
  c0 : C12
  c1 : C12
  c2 : C12
  c3 : C12
  c4 : C12
  c5 : C12
  c6 : C12
  c7 : C12
  c8 : C12
  c9 : C12
  c10 : C12
  c11 : C12
  c12 : C12
  c13 : C12
  c14 : C12
  c15 : C12
  c16 : C12
  ds : List Deferred
structure Sel where
  run : C12 → Value
def selR : Nat → Sel
  | 0 => ⟨fun c => c.a0⟩
  | 1 => ⟨fun c => c.a1⟩
  | 2 => ⟨fun c => c.a2⟩
  | 3 => ⟨fun c => c.a3⟩
  | 4 => ⟨fun c => c.a4⟩
  | 5 => ⟨fun c => c.a5⟩
  | 6 => ⟨fun c => c.a6⟩
  | 7 => ⟨fun c => c.a7⟩
  | 8 => ⟨fun c => c.a8⟩
  | 9 => ⟨fun c => c.a9⟩
  | 10 => ⟨fun c => c.a10⟩
  | 11 => ⟨fun c => c.a11⟩
  | 12 => ⟨fun c => c.a12⟩
  | 13 => ⟨fun c => c.a13⟩
  | 14 => ⟨fun c => c.a14⟩
  | 15 => ⟨fun c => c.a15⟩
  | 16 => ⟨fun c => c.a16⟩
  | _ => ⟨fun _ => undef⟩
structure Upd where
  run : Value → C12 → C12
def updR : Nat → Upd
  | 0 => ⟨fun v c => C12.rec (motive := fun _ => C12) (fun a0 a1 a2 a3 a4 a5 a6 a7 a8 a9 a10 a11 a12 a13 a14 a15 a16 => ⟨v, a1, a2, a3, a4, a5, a6, a7, a8, a9, a10, a11, a12, a13, a14, a15, a16⟩) c⟩
  | 1 => ⟨fun v c => C12.rec (motive := fun _ => C12) (fun a0 a1 a2 a3 a4 a5 a6 a7 a8 a9 a10 a11 a12 a13 a14 a15 a16 => ⟨a0, v, a2, a3, a4, a5, a6, a7, a8, a9, a10, a11, a12, a13, a14, a15, a16⟩) c⟩
  | 2 => ⟨fun v c => C12.rec (motive := fun _ => C12) (fun a0 a1 a2 a3 a4 a5 a6 a7 a8 a9 a10 a11 a12 a13 a14 a15 a16 => ⟨a0, a1, v, a3, a4, a5, a6, a7, a8, a9, a10, a11, a12, a13, a14, a15, a16⟩) c⟩
  | 3 => ⟨fun v c => C12.rec (motive := fun _ => C12) (fun a0 a1 a2 a3 a4 a5 a6 a7 a8 a9 a10 a11 a12 a13 a14 a15 a16 => ⟨a0, a1, a2, v, a4, a5, a6, a7, a8, a9, a10, a11, a12, a13, a14, a15, a16⟩) c⟩
  | 4 => ⟨fun v c => C12.rec (motive := fun _ => C12) (fun a0 a1 a2 a3 a4 a5 a6 a7 a8 a9 a10 a11 a12 a13 a14 a15 a16 => ⟨a0, a1, a2, a3, v, a5, a6, a7, a8, a9, a10, a11, a12, a13, a14, a15, a16⟩) c⟩
  | 5 => ⟨fun v c => C12.rec (motive := fun _ => C12) (fun a0 a1 a2 a3 a4 a5 a6 a7 a8 a9 a10 a11 a12 a13 a14 a15 a16 => ⟨a0, a1, a2, a3, a4, v, a6, a7, a8, a9, a10, a11, a12, a13, a14, a15, a16⟩) c⟩
  | 6 => ⟨fun v c => C12.rec (motive := fun _ => C12) (fun a0 a1 a2 a3 a4 a5 a6 a7 a8 a9 a10 a11 a12 a13 a14 a15 a16 => ⟨a0, a1, a2, a3, a4, a5, v, a7, a8, a9, a10, a11, a12, a13, a14, a15, a16⟩) c⟩
  | 7 => ⟨fun v c => C12.rec (motive := fun _ => C12) (fun a0 a1 a2 a3 a4 a5 a6 a7 a8 a9 a10 a11 a12 a13 a14 a15 a16 => ⟨a0, a1, a2, a3, a4, a5, a6, v, a8, a9, a10, a11, a12, a13, a14, a15, a16⟩) c⟩
  | 8 => ⟨fun v c => C12.rec (motive := fun _ => C12) (fun a0 a1 a2 a3 a4 a5 a6 a7 a8 a9 a10 a11 a12 a13 a14 a15 a16 => ⟨a0, a1, a2, a3, a4, a5, a6, a7, v, a9, a10, a11, a12, a13, a14, a15, a16⟩) c⟩
  | 9 => ⟨fun v c => C12.rec (motive := fun _ => C12) (fun a0 a1 a2 a3 a4 a5 a6 a7 a8 a9 a10 a11 a12 a13 a14 a15 a16 => ⟨a0, a1, a2, a3, a4, a5, a6, a7, a8, v, a10, a11, a12, a13, a14, a15, a16⟩) c⟩
  | 10 => ⟨fun v c => C12.rec (motive := fun _ => C12) (fun a0 a1 a2 a3 a4 a5 a6 a7 a8 a9 a10 a11 a12 a13 a14 a15 a16 => ⟨a0, a1, a2, a3, a4, a5, a6, a7, a8, a9, v, a11, a12, a13, a14, a15, a16⟩) c⟩
  | 11 => ⟨fun v c => C12.rec (motive := fun _ => C12) (fun a0 a1 a2 a3 a4 a5 a6 a7 a8 a9 a10 a11 a12 a13 a14 a15 a16 => ⟨a0, a1, a2, a3, a4, a5, a6, a7, a8, a9, a10, v, a12, a13, a14, a15, a16⟩) c⟩
  | 12 => ⟨fun v c => C12.rec (motive := fun _ => C12) (fun a0 a1 a2 a3 a4 a5 a6 a7 a8 a9 a10 a11 a12 a13 a14 a15 a16 => ⟨a0, a1, a2, a3, a4, a5, a6, a7, a8, a9, a10, a11, v, a13, a14, a15, a16⟩) c⟩
  | 13 => ⟨fun v c => C12.rec (motive := fun _ => C12) (fun a0 a1 a2 a3 a4 a5 a6 a7 a8 a9 a10 a11 a12 a13 a14 a15 a16 => ⟨a0, a1, a2, a3, a4, a5, a6, a7, a8, a9, a10, a11, a12, v, a14, a15, a16⟩) c⟩
  | 14 => ⟨fun v c => C12.rec (motive := fun _ => C12) (fun a0 a1 a2 a3 a4 a5 a6 a7 a8 a9 a10 a11 a12 a13 a14 a15 a16 => ⟨a0, a1, a2, a3, a4, a5, a6, a7, a8, a9, a10, a11, a12, a13, v, a15, a16⟩) c⟩
  | 15 => ⟨fun v c => C12.rec (motive := fun _ => C12) (fun a0 a1 a2 a3 a4 a5 a6 a7 a8 a9 a10 a11 a12 a13 a14 a15 a16 => ⟨a0, a1, a2, a3, a4, a5, a6, a7, a8, a9, a10, a11, a12, a13, a14, v, a16⟩) c⟩
  | 16 => ⟨fun v c => C12.rec (motive := fun _ => C12) (fun a0 a1 a2 a3 a4 a5 a6 a7 a8 a9 a10 a11 a12 a13 a14 a15 a16 => ⟨a0, a1, a2, a3, a4, a5, a6, a7, a8, a9, a10, a11, a12, a13, a14, a15, v⟩) c⟩
  | _ => ⟨fun _ c => c⟩
structure Sel2 where
  run : Ev12 → C12
def sel2R : Nat → Sel2
  | 0 => ⟨fun c => c.c0⟩
  | 1 => ⟨fun c => c.c1⟩
  | 2 => ⟨fun c => c.c2⟩
  | 3 => ⟨fun c => c.c3⟩
  | 4 => ⟨fun c => c.c4⟩
  | 5 => ⟨fun c => c.c5⟩
  | 6 => ⟨fun c => c.c6⟩
  | 7 => ⟨fun c => c.c7⟩
  | 8 => ⟨fun c => c.c8⟩
  | 9 => ⟨fun c => c.c9⟩
  | 10 => ⟨fun c => c.c10⟩
  | 11 => ⟨fun c => c.c11⟩
  | 12 => ⟨fun c => c.c12⟩
  | 13 => ⟨fun c => c.c13⟩
  | 14 => ⟨fun c => c.c14⟩
  | 15 => ⟨fun c => c.c15⟩
  | 16 => ⟨fun c => c.c16⟩
  | _ => ⟨fun c => c.c0⟩
structure Upd2 where
  run : (C12 → C12) → Ev12 → Ev12
def upd2R : Nat → Upd2
  | 0 => ⟨fun f e => Ev12.rec (motive := fun _ => Ev12) (fun c0 c1 c2 c3 c4 c5 c6 c7 c8 c9 c10 c11 c12 c13 c14 c15 c16 ds => ⟨f c0, c1, c2, c3, c4, c5, c6, c7, c8, c9, c10, c11, c12, c13, c14, c15, c16, ds⟩) e⟩
  | 1 => ⟨fun f e => Ev12.rec (motive := fun _ => Ev12) (fun c0 c1 c2 c3 c4 c5 c6 c7 c8 c9 c10 c11 c12 c13 c14 c15 c16 ds => ⟨c0, f c1, c2, c3, c4, c5, c6, c7, c8, c9, c10, c11, c12, c13, c14, c15, c16, ds⟩) e⟩
  | 2 => ⟨fun f e => Ev12.rec (motive := fun _ => Ev12) (fun c0 c1 c2 c3 c4 c5 c6 c7 c8 c9 c10 c11 c12 c13 c14 c15 c16 ds => ⟨c0, c1, f c2, c3, c4, c5, c6, c7, c8, c9, c10, c11, c12, c13, c14, c15, c16, ds⟩) e⟩
  | 3 => ⟨fun f e => Ev12.rec (motive := fun _ => Ev12) (fun c0 c1 c2 c3 c4 c5 c6 c7 c8 c9 c10 c11 c12 c13 c14 c15 c16 ds => ⟨c0, c1, c2, f c3, c4, c5, c6, c7, c8, c9, c10, c11, c12, c13, c14, c15, c16, ds⟩) e⟩
  | 4 => ⟨fun f e => Ev12.rec (motive := fun _ => Ev12) (fun c0 c1 c2 c3 c4 c5 c6 c7 c8 c9 c10 c11 c12 c13 c14 c15 c16 ds => ⟨c0, c1, c2, c3, f c4, c5, c6, c7, c8, c9, c10, c11, c12, c13, c14, c15, c16, ds⟩) e⟩
  | 5 => ⟨fun f e => Ev12.rec (motive := fun _ => Ev12) (fun c0 c1 c2 c3 c4 c5 c6 c7 c8 c9 c10 c11 c12 c13 c14 c15 c16 ds => ⟨c0, c1, c2, c3, c4, f c5, c6, c7, c8, c9, c10, c11, c12, c13, c14, c15, c16, ds⟩) e⟩
  | 6 => ⟨fun f e => Ev12.rec (motive := fun _ => Ev12) (fun c0 c1 c2 c3 c4 c5 c6 c7 c8 c9 c10 c11 c12 c13 c14 c15 c16 ds => ⟨c0, c1, c2, c3, c4, c5, f c6, c7, c8, c9, c10, c11, c12, c13, c14, c15, c16, ds⟩) e⟩
  | 7 => ⟨fun f e => Ev12.rec (motive := fun _ => Ev12) (fun c0 c1 c2 c3 c4 c5 c6 c7 c8 c9 c10 c11 c12 c13 c14 c15 c16 ds => ⟨c0, c1, c2, c3, c4, c5, c6, f c7, c8, c9, c10, c11, c12, c13, c14, c15, c16, ds⟩) e⟩
  | 8 => ⟨fun f e => Ev12.rec (motive := fun _ => Ev12) (fun c0 c1 c2 c3 c4 c5 c6 c7 c8 c9 c10 c11 c12 c13 c14 c15 c16 ds => ⟨c0, c1, c2, c3, c4, c5, c6, c7, f c8, c9, c10, c11, c12, c13, c14, c15, c16, ds⟩) e⟩
  | 9 => ⟨fun f e => Ev12.rec (motive := fun _ => Ev12) (fun c0 c1 c2 c3 c4 c5 c6 c7 c8 c9 c10 c11 c12 c13 c14 c15 c16 ds => ⟨c0, c1, c2, c3, c4, c5, c6, c7, c8, f c9, c10, c11, c12, c13, c14, c15, c16, ds⟩) e⟩
  | 10 => ⟨fun f e => Ev12.rec (motive := fun _ => Ev12) (fun c0 c1 c2 c3 c4 c5 c6 c7 c8 c9 c10 c11 c12 c13 c14 c15 c16 ds => ⟨c0, c1, c2, c3, c4, c5, c6, c7, c8, c9, f c10, c11, c12, c13, c14, c15, c16, ds⟩) e⟩
  | 11 => ⟨fun f e => Ev12.rec (motive := fun _ => Ev12) (fun c0 c1 c2 c3 c4 c5 c6 c7 c8 c9 c10 c11 c12 c13 c14 c15 c16 ds => ⟨c0, c1, c2, c3, c4, c5, c6, c7, c8, c9, c10, f c11, c12, c13, c14, c15, c16, ds⟩) e⟩
  | 12 => ⟨fun f e => Ev12.rec (motive := fun _ => Ev12) (fun c0 c1 c2 c3 c4 c5 c6 c7 c8 c9 c10 c11 c12 c13 c14 c15 c16 ds => ⟨c0, c1, c2, c3, c4, c5, c6, c7, c8, c9, c10, c11, f c12, c13, c14, c15, c16, ds⟩) e⟩
  | 13 => ⟨fun f e => Ev12.rec (motive := fun _ => Ev12) (fun c0 c1 c2 c3 c4 c5 c6 c7 c8 c9 c10 c11 c12 c13 c14 c15 c16 ds => ⟨c0, c1, c2, c3, c4, c5, c6, c7, c8, c9, c10, c11, c12, f c13, c14, c15, c16, ds⟩) e⟩
  | 14 => ⟨fun f e => Ev12.rec (motive := fun _ => Ev12) (fun c0 c1 c2 c3 c4 c5 c6 c7 c8 c9 c10 c11 c12 c13 c14 c15 c16 ds => ⟨c0, c1, c2, c3, c4, c5, c6, c7, c8, c9, c10, c11, c12, c13, f c14, c15, c16, ds⟩) e⟩
  | 15 => ⟨fun f e => Ev12.rec (motive := fun _ => Ev12) (fun c0 c1 c2 c3 c4 c5 c6 c7 c8 c9 c10 c11 c12 c13 c14 c15 c16 ds => ⟨c0, c1, c2, c3, c4, c5, c6, c7, c8, c9, c10, c11, c12, c13, c14, f c15, c16, ds⟩) e⟩
  | 16 => ⟨fun f e => Ev12.rec (motive := fun _ => Ev12) (fun c0 c1 c2 c3 c4 c5 c6 c7 c8 c9 c10 c11 c12 c13 c14 c15 c16 ds => ⟨c0, c1, c2, c3, c4, c5, c6, c7, c8, c9, c10, c11, c12, c13, c14, c15, f c16, ds⟩) e⟩
  | _ => ⟨fun _ e => e⟩
def withDs (d : Deferred) (e : Ev12) : Ev12 := Ev12.rec (motive := fun _ => Ev12) (fun c0 c1 c2 c3 c4 c5 c6 c7 c8 c9 c10 c11 c12 c13 c14 c15 c16 ds => ⟨c0, c1, c2, c3, c4, c5, c6, c7, c8, c9, c10, c11, c12, c13, c14, c15, c16, d :: ds⟩) e
def setDs (d : List Deferred) (e : Ev12) : Ev12 := Ev12.rec (motive := fun _ => Ev12) (fun c0 c1 c2 c3 c4 c5 c6 c7 c8 c9 c10 c11 c12 c13 c14 c15 c16 _ => ⟨c0, c1, c2, c3, c4, c5, c6, c7, c8, c9, c10, c11, c12, c13, c14, c15, c16, d⟩) e
def C12.list (c : C12) : List Value := [c.a0, c.a1, c.a2, c.a3, c.a4, c.a5, c.a6, c.a7, c.a8, c.a9, c.a10, c.a11, c.a12, c.a13, c.a14, c.a15, c.a16]
def Ev12.chunks (e : Ev12) : List C12 := [e.c0, e.c1, e.c2, e.c3, e.c4, e.c5, e.c6, e.c7, e.c8, e.c9, e.c10, e.c11, e.c12, e.c13, e.c14, e.c15, e.c16]
def un12 : C12 := ⟨undef, undef, undef, undef, undef, undef, undef, undef, undef, undef, undef, undef, undef, undef, undef, undef, undef⟩
def unE : Ev12 := ⟨un12, un12, un12, un12, un12, un12, un12, un12, un12, un12, un12, un12, un12, un12, un12, un12, un12, []⟩
theorem selR_eq (i : Nat) (h : i < 17) (c : C12) : (selR i).run c = c.list.getD i undef := by
  match i, h with
  | 0, _ => rfl
  | 1, _ => rfl
  | 2, _ => rfl
  | 3, _ => rfl
  | 4, _ => rfl
  | 5, _ => rfl
  | 6, _ => rfl
  | 7, _ => rfl
  | 8, _ => rfl
  | 9, _ => rfl
  | 10, _ => rfl
  | 11, _ => rfl
  | 12, _ => rfl
  | 13, _ => rfl
  | 14, _ => rfl
  | 15, _ => rfl
  | 16, _ => rfl
  | i + 17, h => exact absurd h (by omega)
theorem updR_eq (i : Nat) (h : i < 17) (v : Value) (c : C12) : ((updR i).run v c).list = c.list.set i v := by
  match i, h with
  | 0, _ => rfl
  | 1, _ => rfl
  | 2, _ => rfl
  | 3, _ => rfl
  | 4, _ => rfl
  | 5, _ => rfl
  | 6, _ => rfl
  | 7, _ => rfl
  | 8, _ => rfl
  | 9, _ => rfl
  | 10, _ => rfl
  | 11, _ => rfl
  | 12, _ => rfl
  | 13, _ => rfl
  | 14, _ => rfl
  | 15, _ => rfl
  | 16, _ => rfl
  | i + 17, h => exact absurd h (by omega)
theorem sel2R_eq (i : Nat) (h : i < 17) (e : Ev12) : (sel2R i).run e = e.chunks.getD i un12 := by
  match i, h with
  | 0, _ => rfl
  | 1, _ => rfl
  | 2, _ => rfl
  | 3, _ => rfl
  | 4, _ => rfl
  | 5, _ => rfl
  | 6, _ => rfl
  | 7, _ => rfl
  | 8, _ => rfl
  | 9, _ => rfl
  | 10, _ => rfl
  | 11, _ => rfl
  | 12, _ => rfl
  | 13, _ => rfl
  | 14, _ => rfl
  | 15, _ => rfl
  | 16, _ => rfl
  | i + 17, h => exact absurd h (by omega)
theorem upd2R_eq (i : Nat) (h : i < 17) (f : C12 → C12) (e : Ev12) : ((upd2R i).run f e).chunks = e.chunks.set i (f (e.chunks.getD i un12)) ∧ ((upd2R i).run f e).ds = e.ds := by
  match i, h with
  | 0, _ => exact ⟨rfl, rfl⟩
  | 1, _ => exact ⟨rfl, rfl⟩
  | 2, _ => exact ⟨rfl, rfl⟩
  | 3, _ => exact ⟨rfl, rfl⟩
  | 4, _ => exact ⟨rfl, rfl⟩
  | 5, _ => exact ⟨rfl, rfl⟩
  | 6, _ => exact ⟨rfl, rfl⟩
  | 7, _ => exact ⟨rfl, rfl⟩
  | 8, _ => exact ⟨rfl, rfl⟩
  | 9, _ => exact ⟨rfl, rfl⟩
  | 10, _ => exact ⟨rfl, rfl⟩
  | 11, _ => exact ⟨rfl, rfl⟩
  | 12, _ => exact ⟨rfl, rfl⟩
  | 13, _ => exact ⟨rfl, rfl⟩
  | 14, _ => exact ⟨rfl, rfl⟩
  | 15, _ => exact ⟨rfl, rfl⟩
  | 16, _ => exact ⟨rfl, rfl⟩
  | i + 17, h => exact absurd h (by omega)

structure Ge where
  run : Ev12 → Value
def geR (n t : Nat) : Ge := Bool.rec (motive := fun _ => Ge) ⟨fun _ => undef⟩ ⟨fun e => (selR (Nat.mod t 17)).run ((sel2R (Nat.div t 17)).run e)⟩ (Nat.ble (Nat.succ t) n)
structure Pu where
  run : Value → Ev12 → Ev12
def puR (t : Nat) : Pu := ⟨fun v e => (upd2R (Nat.div t 17)).run ((updR (Nat.mod t 17)).run v) e⟩
def getE (e : Ev12) (t : Nat) : Value := (selR (t % 17)).run ((sel2R (t / 17)).run e)
/-- The first n slots, as a list. -/
def listE (n : Nat) (e : Ev12) : List Value := (List.range n).map (getE e)
theorem getE_put (e : Ev12) (t t' : Nat) (v : Value) (h : t < 289) (h' : t' < 289) : getE ((puR t).run v e) t' = if t = t' then v else getE e t' := by
  have d1 : t / 17 < 17 := by omega
  have m1 : t % 17 < 17 := by omega
  have d2 : t' / 17 < 17 := by omega
  have m2 : t' % 17 < 17 := by omega
  have hu := (upd2R_eq (t / 17) d1 ((updR (t % 17)).run v) e).1
  have hc : (sel2R (t' / 17)).run ((puR t).run v e) = if t / 17 = t' / 17 then (updR (t % 17)).run v ((sel2R (t / 17)).run e) else (sel2R (t' / 17)).run e := by
    show (sel2R (t' / 17)).run ((upd2R (t / 17)).run ((updR (t % 17)).run v) e) = _
    rw [sel2R_eq _ d2, hu, sel2R_eq _ d1, sel2R_eq _ d2]
    have hl : e.chunks.length = 17 := rfl
    by_cases hd : t / 17 = t' / 17
    · rw [if_pos hd, ← hd]
      simp only [List.getD_eq_getElem?_getD]
      rw [List.getElem?_set_self (by rw [hl]; exact d1)]
      rfl
    · rw [if_neg hd]
      simp only [List.getD_eq_getElem?_getD]
      rw [List.getElem?_set_ne hd]
  unfold getE
  rw [hc]
  by_cases hd : t / 17 = t' / 17
  · rw [if_pos hd]
    rw [selR_eq _ m2, updR_eq _ m1, hd, selR_eq _ m2]
    have hl : ∀ c : C12, c.list.length = 17 := fun _ => rfl
    by_cases hm : t % 17 = t' % 17
    · have : t = t' := by omega
      rw [if_pos this, hm]
      simp only [List.getD_eq_getElem?_getD]
      rw [List.getElem?_set_self (by rw [hl]; exact m2)]
      rfl
    · have : t ≠ t' := by rintro rfl; exact hm rfl
      rw [if_neg this]
      simp only [List.getD_eq_getElem?_getD]
      rw [List.getElem?_set_ne hm]
  · have : t ≠ t' := by rintro rfl; exact hd rfl
    rw [if_neg hd, if_neg this]
theorem getL_listE (n t : Nat) (e : Ev12) : getL (listE n e) t = if t < n then getE e t else undef := by
  rw [getL_eq]
  unfold listE
  by_cases h : t < n
  · simp [Array.getD, h]
  · simp [Array.getD, h]
theorem geR_eq (n t : Nat) (e : Ev12) : (geR n t).run e = getL (listE n e) t := by
  rw [getL_listE]
  unfold geR
  by_cases h : t < n
  · rw [if_pos h, Nat.ble_eq_true_of_le h]; rfl
  · have : Nat.ble (Nat.succ t) n = false := by
      cases hb : Nat.ble (Nat.succ t) n with
      | false => rfl
      | true => exact absurd (Nat.le_of_ble_eq_true hb) h
    rw [if_neg h, this]
theorem listE_length (n : Nat) (e : Ev12) : (listE n e).length = n := by simp [listE]
theorem listE_put (n t : Nat) (e : Ev12) (v : Value) (hn : n ≤ 289) (h : t < 289) : listE n ((puR t).run v e) = setL (listE n e) t v := by
  apply getL_ext
  · rw [setL_length, listE_length, listE_length]
  · intro t'
    by_cases htt : t = t'
    · subst htt
      rcases Nat.lt_or_ge t n with hl | hl
      · rw [getL_set_same _ _ _ (by rw [listE_length]; exact hl), getL_listE, if_pos hl, getE_put e t t v h h, if_pos rfl]
      · have e1 : getL (setL (listE n e) t v) t = undef := by
          rw [getL_eq, setL_eq]
          have : ¬ t < (listE n e).length := by rw [listE_length]; omega
          simp [Array.getD, this]
        rw [e1, getL_listE, if_neg (by omega)]
    · rw [getL_set_ne _ _ _ _ htt, getL_listE, getL_listE]
      by_cases hl : t' < n
      · rw [if_pos hl, if_pos hl, getE_put e t t' v h (by omega), if_neg htt]
      · rw [if_neg hl, if_neg hl]
theorem puR_ds (t : Nat) (h : t < 289) (v : Value) (e : Ev12) : ((puR t).run v e).ds = e.ds := (upd2R_eq (t / 17) (by omega) ((updR (t % 17)).run v) e).2
theorem getE_un (t : Nat) (h : t < 289) : getE unE t = undef := by
  unfold getE
  rw [sel2R_eq _ (by omega), selR_eq _ (by omega)]
  have h1 : ∀ i, i < 17 → unE.chunks.getD i un12 = un12 := fun i hi => by
    match i, hi with
    | 0, _ => rfl
    | 1, _ => rfl
    | 2, _ => rfl
    | 3, _ => rfl
    | 4, _ => rfl
    | 5, _ => rfl
    | 6, _ => rfl
    | 7, _ => rfl
    | 8, _ => rfl
    | 9, _ => rfl
    | 10, _ => rfl
    | 11, _ => rfl
    | 12, _ => rfl
    | 13, _ => rfl
    | 14, _ => rfl
    | 15, _ => rfl
    | 16, _ => rfl
    | i + 17, h => exact absurd h (by omega)
  have h2 : ∀ i, i < 17 → un12.list.getD i undef = undef := fun i hi => by
    match i, hi with
    | 0, _ => rfl
    | 1, _ => rfl
    | 2, _ => rfl
    | 3, _ => rfl
    | 4, _ => rfl
    | 5, _ => rfl
    | 6, _ => rfl
    | 7, _ => rfl
    | 8, _ => rfl
    | 9, _ => rfl
    | 10, _ => rfl
    | 11, _ => rfl
    | 12, _ => rfl
    | 13, _ => rfl
    | 14, _ => rfl
    | 15, _ => rfl
    | 16, _ => rfl
    | i + 17, h => exact absurd h (by omega)
  rw [h1 _ (by omega), h2 _ (by omega)]
/-- A list's values, laid into the slots from t on. -/
def layR (l : List Value) : Nat → Ev12 → Ev12 := List.rec (motive := fun _ => Nat → Ev12 → Ev12) (fun _ e => e) (fun v _ ih t e => ih (Nat.succ t) ((puR t).run v e)) l
theorem getE_lay (l : List Value) (t t' : Nat) (e : Ev12) (h : t + l.length ≤ 289) (h' : t' < 289) : getE (layR l t e) t' = if t ≤ t' ∧ t' < t + l.length then l.getD (t' - t) undef else getE e t' := by
  induction l generalizing t e with
  | nil =>
    rw [if_neg (by simp only [List.length_nil]; omega)]; rfl
  | cons v l ih =>
    simp only [List.length_cons] at h ⊢
    show getE (layR l (t + 1) ((puR t).run v e)) t' = _
    rw [ih (t + 1) _ (by omega), getE_put e t t' v (by omega) h']
    by_cases h1 : t = t'
    · subst h1
      rw [if_neg (by omega), if_pos rfl, if_pos (by omega), Nat.sub_self]; rfl
    · rw [if_neg h1]
      by_cases h2 : t + 1 ≤ t' ∧ t' < t + 1 + l.length
      · rw [if_pos h2, if_pos (by omega)]
        have : t' - t = (t' - (t + 1)) + 1 := by omega
        rw [this, List.getD_cons_succ]
      · rw [if_neg h2, if_neg (by omega)]
theorem layR_ds (l : List Value) (t : Nat) (e : Ev12) (h : t + l.length ≤ 289) : (layR l t e).ds = e.ds := by
  induction l generalizing t e with
  | nil => rfl
  | cons v l ih =>
    simp only [List.length_cons] at h
    show (layR l (t + 1) ((puR t).run v e)).ds = _
    rw [ih (t + 1) _ (by omega), puR_ds t (by omega)]
theorem listE_lay (l : List Value) (n : Nat) (h : l.length ≤ n) (hn : n ≤ 289) : listE n (layR l 0 unE) = l ++ List.replicate (n - l.length) undef := by
  apply getL_ext
  · rw [listE_length]; simp; omega
  · intro t
    rw [getL_listE, getL_eq]
    by_cases ht : t < n
    · rw [if_pos ht, getE_lay l 0 t unE (by omega) (by omega)]
      by_cases hl : t < l.length
      · rw [if_pos (by omega), Nat.sub_zero]
        simp [Array.getD, List.getElem_append, hl, show t < l.length + (n - l.length) by omega]
      · rw [if_neg (by omega), getE_un t (by omega)]
        simp [Array.getD, List.getElem_append, hl, show t < l.length + (n - l.length) by omega]
    · rw [if_neg ht]
      simp [Array.getD, show ¬ t < l.length + (n - l.length) by omega]
end
end Go.Proofs.YtjnimfnelacceaaGreatDoor
