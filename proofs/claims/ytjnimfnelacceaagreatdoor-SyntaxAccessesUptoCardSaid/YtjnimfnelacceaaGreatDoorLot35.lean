/- The library's and the lexer's functions as oracles of the evaluator. -/
import Derived.Test.YtjnimfnelacceaaGreatDoorLot33
import Derived.Test.YtjnimfnelacceaaGreatDoorLot28
import Derived.Test.YtjnimfnelacceaaGreatDoorLot34
import Derived.Conc.MuLone
set_option linter.unusedSimpArgs false
set_option linter.unusedVariables false
set_option maxRecDepth 100000
namespace Go.Proofs.YtjnimfnelacceaaGreatDoor
open Go.RowKit
noncomputable section

abbrev RF := Option (Res × Fw)
def shortB (l : List UInt8) : Bool := Nat.ble (lenR l) 20000
def asciiB (l : List UInt8) : Bool := l.all fun b => Nat.ble b.toNat 127
def retF (v : Value) (c : Fw) : RF := some (.ret v, c)
def pushF (c : Fw) (o : Obj) (f : Nat → Value) : RF := forceN c.n fun n => bre none (some (.ret (f n), ⟨Nat.succ n, setP o (pathN depth n) c.hp⟩)) (bigR n)
def allStr : List Value → Option (List (List UInt8))
  | [] => some []
  | .string s :: r => (match allStr r with | some l => some (s.data.toList :: l) | none => none)
  | _ => none
def strOf (l : List UInt8) : Value := .string ⟨⟨l⟩⟩
def o36 : List Value → Fw → RF
  | [.string s], c => bre none (retF (.bool (kindL s.data.toList == 1)) c) (shortB s.data.toList)
  | _, _ => none
def o86 : List Value → Fw → RF
  | [.string s], c => bre none (retF (.int .i64 (kindL s.data.toList)) c) (shortB s.data.toList)
  | _, _ => none
def o15 : List Value → Fw → RF
  | [.string s], c => retF (.bool (rsvL s.data.toList)) c
  | _, _ => none
def o94 : List Value → Fw → RF
  | [.agg cs], c => (match cs.toList with
    | [.int .i64 k, .int .i64 n, .string s, .int .i64 a, .int .i64 m] => bre none (retF (.int .i64 (tokErr (checkT k n s.data.toList a m))) c) (shortB s.data.toList)
    | _ => none)
  | _, _ => none
def o37 : List Value → Fw → RF
  | [.string s, .string t], c => bre none (retF (.tuple #[strOf (Lib.cut s.data.toList t.data.toList).1, strOf (Lib.cut s.data.toList t.data.toList).2.1, .bool (Lib.cut s.data.toList t.data.toList).2.2]) c) (shortB s.data.toList)
  | _, _ => none
def o53 : List Value → Fw → RF
  | [.string s], c => bre none (retF (.tuple #[.int .i64 (if (valueL s.data.toList).2 = true then (valueL s.data.toList).1 else 0), .int .i64 (if (valueL s.data.toList).2 = true then 0 else 11)]) c) (shortB s.data.toList)
  | _, _ => none
def o38 : List Value → Fw → RF
  | [.string s], c => bre none (bre none (pushF c (.cells ((Lib.fields s.data.toList).map fun l => Value.string ⟨l.toArray⟩).toArray 9) fun n => .slice (some ⟨n, 0, none⟩) (Lib.fields s.data.toList).length (Lib.fields s.data.toList).length) (asciiB s.data.toList)) (shortB s.data.toList)
  | _, _ => none
def o9 : List Value → Fw → RF
  | [.string s], c => bre none (match scanL s.data.toList with
    | [] => none
    | t :: ts => pushF c (.cells ⟨rowTk (t :: ts)⟩ 127) fun n => .slice (some ⟨n, 0, none⟩) (t :: ts).length (t :: ts).length) (shortB s.data.toList)
  | _, _ => none
def o83 : List Value → Fw → RF
  | [.slice (some ⟨b, o, none⟩) n c, .string sep], F => (match rdR F b with
    | some (.cells xs _ _) => (match takeAtR xs.toList o n with
      | some vs => (match allStr vs with
        | some ls => bre none (bre none (retF (strOf (Lib.join ls sep.data.toList)) F) (Nat.ble (Lib.join ls sep.data.toList).length 1000000)) (bre false (Nat.ble n c) (Nat.ble n 100000))
        | none => none)
      | none => none)
    | _ => none)
  | _, _ => none
/-- Which function is asked. -/
def orcS (f : FuncId) : Oc :=
  bre (bre (bre (bre (bre (bre (bre (bre (bre ⟨fun _ _ => none⟩ ⟨o83⟩ (Nat.beq f 83)) ⟨o9⟩ (Nat.beq f 9)) ⟨o53⟩ (Nat.beq f 53)) ⟨o37⟩ (Nat.beq f 37)) ⟨o94⟩ (Nat.beq f 94))
    ⟨o86⟩ (Nat.beq f 86)) ⟨o36⟩ (Nat.beq f 36)) ⟨o15⟩ (Nat.beq f 15)) ⟨o38⟩ (Nat.beq f 38)
def c0 : Fw := ⟨9, .leaf⟩
def isTrue (r : RF) : Bool := match r with | some (.ret (.bool true), _) => true | _ => false
def badF : List Nat := [0, 1, 159, 198, 199, 200]
def memN (f : Nat) (l : List Nat) : Bool := List.rec (motive := fun _ => Bool) false (fun x _ ih => Bool.rec (motive := fun _ => Bool) ih true (Nat.beq x f)) l
def entS (f : FuncId) : Bool := bre false (bre true false (memN f badF)) (Nat.ble (Nat.succ f) 253)
theorem sane_run : isTrue (funE Tryz.prog 9 entS thePlans orcS 100000 300 4 [] c0) = true := by kernel_rfl
end
end Go.Proofs.YtjnimfnelacceaaGreatDoor
