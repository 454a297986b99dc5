/- XOrcA -/
import Derived.Test.YtjnclkakbopnjaaGreatDoorLot26
import Derived.Conc.MuLone
set_option linter.unusedSimpArgs false
set_option linter.unusedVariables false
set_option maxRecDepth 100000
namespace Go.Proofs.YtjnclkakbopnjaaGreatDoor
open Go.Proofs.Tryz
open Go.RowKit
noncomputable section
abbrev RF:=Option (Res × Fw)
def QEs(l:List UInt8):Bool:=Nat.ble (QN5 l) 20000
def QSV(l:List UInt8):Bool:=l.all fun b=>Nat.ble b.toNat 127
def QR3(v:Value)(c:Fw):RF:=some (.ret v,c)
def QP2(c:Fw)(o:Obj)(f:Nat→Value):RF:=QNk c.n fun n=>bre none (some (.ret (f n),⟨Nat.succ n,QSL o (QEl QFm n) c.hp⟩)) (QSG n)
def QIw:List Value→Option (List (List UInt8))
 | []=>some []
 | .string s::r=>(match QIw r with|some l=>some (s.data.toList::l)|none=>none)
 |_=>none
def QQG(l:List UInt8):Value:= .string ⟨⟨l⟩⟩
def o36:List Value→Fw→RF
 | [.string s],c=>bre none (QR3 (.bool (QBb s.data.toList==1)) c) (QEs s.data.toList)
 |_,_=>none
def o86:List Value→Fw→RF
 | [.string s],c=>bre none (QR3 (.int .i64 (QBb s.data.toList)) c) (QEs s.data.toList)
 |_,_=>none
def o15:List Value→Fw→RF
 | [.string s],c=>QR3 (.bool (QM4 s.data.toList)) c
 |_,_=>none
def o94:List Value→Fw→RF
 | [.agg cs],c=>(match cs.toList with
  | [.int .i64 k,.int .i64 n,.string s,.int .i64 a,.int .i64 m]=>bre none (QR3 (.int .i64 (QQ2 (QNO k n s.data.toList a m))) c) (QEs s.data.toList)
  |_=>none)
 |_,_=>none
def o37:List Value→Fw→RF
 | [.string s,.string t],c=>bre none (QR3 (.tuple #[QQG (Lib.cut s.data.toList t.data.toList).1,QQG (Lib.cut s.data.toList t.data.toList).2.1,.bool (Lib.cut s.data.toList t.data.toList).2.2]) c) (QEs s.data.toList)
 |_,_=>none
def o53:List Value→Fw→RF
 | [.string s],c=>bre none (QR3 (.tuple #[.int .i64 (if(QBi s.data.toList).2=true then(QBi s.data.toList).1 else 0),.int .i64 (if(QBi s.data.toList).2=true then 0 else 11)]) c) (QEs s.data.toList)
 |_,_=>none
def o38:List Value→Fw→RF
 | [.string s],c=>bre none (bre none (QP2 c (.cells ((Lib.fields s.data.toList).map fun l=>Value.string ⟨l.toArray⟩).toArray 9) fun n=> .slice (some ⟨n,0,none⟩) (Lib.fields s.data.toList).length (Lib.fields s.data.toList).length) (QSV s.data.toList)) (QEs s.data.toList)
 |_,_=>none
def o9:List Value→Fw→RF
 | [.string s],c=>bre none (match QFn s.data.toList with
  | []=>none
  |t::ts=>QP2 c (.cells ⟨QDC (t::ts)⟩ 193) fun n=> .slice (some ⟨n,0,none⟩) (t::ts).length (t::ts).length) (QEs s.data.toList)
 |_,_=>none
def o83:List Value→Fw→RF
 | [.slice (some ⟨b,o,none⟩) n c,.string sep],F=>(match rdR F b with
  |some (.cells xs _ _)=>(match QGn xs.toList o n with
   |some vs=>(match QIw vs with
    |some ls=>bre none (bre none (QR3 (QQG (Lib.join ls sep.data.toList)) F) (Nat.ble (Lib.join ls sep.data.toList).length 1000000)) (bre false (Nat.ble n c) (Nat.ble n 100000))
    |none=>none)
   |none=>none)
  |_=>none)
 |_,_=>none
def QTk(f:FuncId):Oc:=
 bre (bre (bre (bre (bre (bre (bre (bre (bre ⟨fun _ _=>none⟩ ⟨o83⟩ (Nat.beq f 156)) ⟨o9⟩ (Nat.beq f 29)) ⟨o53⟩ (Nat.beq f 132)) ⟨o37⟩ (Nat.beq f 52)) ⟨o94⟩ (Nat.beq f 190))
  ⟨o86⟩ (Nat.beq f 96)) ⟨o36⟩ (Nat.beq f 51)) ⟨o15⟩ (Nat.beq f 17)) ⟨o38⟩ (Nat.beq f 48)
def c0:Fw:=⟨9,.leaf⟩
def QNy(r:RF):Bool:=match r with|some (.ret (.bool true),_)=>true|_=>false
def badF:List Nat:= [0,1,220,259,296,297]
def memN(f:Nat)(l:List Nat):Bool:=List.rec (motive:=fun _=>Bool) false (fun x _ ih=>Bool.rec (motive:=fun _=>Bool) ih true (Nat.beq x f)) l
def QNa(f:FuncId):Bool:=bre false (bre true false (memN f badF)) (Nat.ble (Nat.succ f) 338)
theorem QP7:QNy (QPM prog 9 QNa QB4 QTk 100000 300 7 [] c0)=true:=by kernel_rfl
end
end Go.Proofs.YtjnclkakbopnjaaGreatDoor
