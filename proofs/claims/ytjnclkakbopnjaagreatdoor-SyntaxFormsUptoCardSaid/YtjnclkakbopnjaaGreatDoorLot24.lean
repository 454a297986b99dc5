/- XSimZ, XSimZa -/
import Derived.Test.YtjnclkakbopnjaaGreatDoorLot23
set_option linter.unusedSimpArgs false
set_option linter.unusedVariables false
namespace Go.Proofs.YtjnclkakbopnjaaGreatDoor
open Go.Proofs.Tryz
open Go.RowKit
noncomputable section
def QPi(l:List Value)(i:Nat):Option Value:=List.rec (motive:=fun _=>Nat→Option Value) (fun _=>none) (fun v _ ih i=>Nat.rec (motive:=fun _=>Option Value) (some v) (fun j _=>ih j) i) l i
theorem QPj(l:List Value)(i:Nat):QPi l i=QRP l i:=by
 induction l generalizing i with
 |nil=>rfl
 |cons v l ih=>cases i with
  |zero=>rfl
  |succ j=>exact ih j
def QL7(v:Value)(r:Option (List Value)):Option (List Value):=match r with
 |some r=>some (v::r)
 |none=>none
def QQH(l:List Value)(n:Nat):Option (List Value):=
 List.rec (motive:=fun _=>Nat→Option (List Value)) (fun n=>Nat.rec (motive:=fun _=>Option (List Value)) (some []) (fun _ _=>none) n)
  (fun v _ ih n=>Nat.rec (motive:=fun _=>Option (List Value)) (some []) (fun m _=>QL7 v (ih m)) n) l n
theorem QLw(l:List Value)(n:Nat):QQH l n=QIq l n:=by
 induction l generalizing n with
 |nil=>cases n <;> rfl
 |cons v l ih=>cases n with
  |zero=>rfl
  |succ m=>
   show QL7 v (QQH l m)=_;rw[ih m];rfl
def QGn(l:List Value)(o n:Nat):Option (List Value):=
 List.rec (motive:=fun _=>Nat→Option (List Value)) (fun _=>QQH [] n) (fun v t ih o=>Nat.rec (motive:=fun _=>Option (List Value)) (QQH (v::t) n) (fun j _=>ih j) o) l o
theorem QHm(l:List Value)(o n:Nat):QGn l o n=takeAt l o n:=by
 induction l generalizing o with
 |nil=>cases o <;> exact QLw [] n
 |cons v l ih=>cases o with
  |zero=>exact QLw (v::l) n
  |succ j=>exact ih j
def QTP(l:List Value)(o:Nat)(vs:List Value):Option (List Value):=
 List.rec (motive:=fun _=>Nat→List Value→Option (List Value))
  (fun _ vs=>List.rec (motive:=fun _=>Option (List Value)) (some []) (fun _ _ _=>none) vs)
  (fun x t ih o vs=>List.rec (motive:=fun _=>Option (List Value)) (some (x::t)) (fun v vs' _=>
   Nat.rec (motive:=fun _=>Option (List Value)) (QL7 v (ih 0 vs')) (fun j _=>QL7 x (ih j (v::vs'))) o) vs) l o vs
theorem QR9(l:List Value)(o:Nat)(vs:List Value):QTP l o vs=spl l o vs:=by
 induction l generalizing o vs with
 |nil=>cases vs <;> rfl
 |cons x l ih=>
  cases vs with
  |nil=>rfl
  |cons v vs=>cases o with
   |zero=>
    show QL7 v (QTP l 0 vs)=_;rw[ih];rfl
   |succ j=>
    show QL7 x (QTP l j (v::vs))=_;rw[ih];rfl
def QTY(f:Value→Bool)(l:List Value):Bool:=List.rec (motive:=fun _=>Bool) true (fun v _ ih=>Bool.rec (motive:=fun _=>Bool) false ih (f v)) l
theorem QQ6(f:Value→Bool)(l:List Value):QTY f l=l.all f:=by
 induction l with
 |nil=>rfl
 |cons v l ih=>
  rw[List.all_cons,←ih];show Bool.rec (motive:=fun _=>Bool) false (QTY f l) (f v)=_
  cases f v <;> rfl
def QN5 {α:Type}(l:List α):Nat:=List.rec (motive:=fun _=>Nat) 0 (fun _ _ ih=>Nat.succ ih) l
theorem QIR {α:Type}(l:List α):QN5 l=l.length:=by
 induction l with
 |nil=>rfl
 |cons v l ih=>exact congrArg Nat.succ ih
def QQP(l m:List Value):List Value:=List.rec (motive:=fun _=>List Value) m (fun v _ ih=>v::ih) l
theorem QHv(l m:List Value):QQP l m=l++m:=by
 induction l with
 |nil=>rfl
 |cons v l ih=>exact congrArg (v:: ·) ih
def eqB(l m:List UInt8):Bool:=
 List.rec (motive:=fun _=>List UInt8→Bool) (fun m=>List.rec (motive:=fun _=>Bool) true (fun _ _ _=>false) m)
  (fun x _ ih m=>List.rec (motive:=fun _=>Bool) false (fun y m' _=>Bool.rec (motive:=fun _=>Bool) false (ih m') (Nat.beq x.toNat y.toNat)) m) l m
theorem QQd(l m:List UInt8):eqB l m=(l==m):=by
 induction l generalizing m with
 |nil=>cases m <;> rfl
 |cons x l ih=>cases m with
  |nil=>rfl
  |cons y m=>
   show Bool.rec (motive:=fun _=>Bool) false (eqB l m) (Nat.beq x.toNat y.toNat)=_;rw[ih,List.cons_beq_cons]
   cases h:Nat.beq x.toNat y.toNat with
   |true=>
    have h':x=y:=UInt8.toNat_inj.1 (Nat.eq_of_beq_eq_true h);subst h';simp
   |false=>
    have h':x≠y:=fun e=>by rw[e]at h;exact Nat.ne_of_beq_eq_false h rfl
    have:(x==y)=false:=by simpa using h'
    rw[this];rfl
inductive Stp where
 |h
 |l
 |r
def QEl(d:Nat)(i:Nat):List Stp:=
 Nat.rec (motive:=fun _=>Nat→List Stp) (fun _=> []) (fun _ ih i=>Nat.rec (motive:=fun _=>List Stp) [.h] (fun j _=>
  Nat.rec (motive:=fun _=>List Stp) (.l::ih (Nat.div j 2)) (fun _ _=> .r::ih (Nat.div j 2)) (Nat.mod j 2)) i) d i
def QTc(p:List Stp)(t:Tr):Option Obj:=
 List.rec (motive:=fun _=>Tr→Option Obj) (fun _=>none) (fun s _ ih t=>Tr.rec (motive:=fun _=>Option Obj) none (fun v l r _ _=>Stp.rec (motive:=fun _=>Option Obj) v (ih l) (ih r) s) t) p t
theorem QRQ(d i:Nat)(t:Tr):QTc (QEl d i) t=t.get d i:=by
 induction d generalizing i t with
 |zero=>cases t <;> rfl
 |succ d ih=>
  cases t with
  |leaf=>
   cases i with
   |zero=>rfl
   |succ j=>
    show QTc (Nat.rec (motive:=fun _=>List Stp) (.l::QEl d (j / 2)) (fun _ _=> .r::QEl d (j / 2)) (j % 2)) .leaf=none
    cases j % 2 <;> rfl
  |node v l r=>
   cases i with
   |zero=>rfl
   |succ j=>
    show QTc (Nat.rec (motive:=fun _=>List Stp) (.l::QEl d (j / 2)) (fun _ _=> .r::QEl d (j / 2)) (j % 2)) (.node v l r)=(match j % 2 with|0=>l.get d (j / 2)|_+1=>r.get d (j / 2))
    cases j % 2 with
    |zero=>exact ih (j / 2) l
    |succ k=>exact ih (j / 2) r
def QSL(o:Obj)(p:List Stp)(t:Tr):Tr:=
 List.rec (motive:=fun _=>Tr→Tr) (fun t=>t) (fun s _ ih t=>Tr.rec (motive:=fun _=>Tr)
  (Stp.rec (motive:=fun _=>Tr) (.node (some o) .leaf .leaf) (.node none (ih .leaf) .leaf) (.node none .leaf (ih .leaf)) s)
  (fun v l r _ _=>Stp.rec (motive:=fun _=>Tr) (.node (some o) l r) (.node v (ih l) r) (.node v l (ih r)) s) t) p t
theorem QLK(o:Obj)(d i:Nat)(t:Tr):QSL o (QEl d i) t=t.set d i o:=by
 induction d generalizing i t with
 |zero=>rfl
 |succ d ih=>
  cases t with
  |leaf=>
   cases i with
   |zero=>rfl
   |succ j=>
    show QSL o (Nat.rec (motive:=fun _=>List Stp) (.l::QEl d (j / 2)) (fun _ _=> .r::QEl d (j / 2)) (j % 2)) .leaf=(match j % 2 with|0=>Tr.node none (Tr.set d .leaf (j / 2) o) .leaf|_+1=> .node none .leaf (Tr.set d .leaf (j / 2) o))
    cases j % 2 with
    |zero=>exact congrArg (Tr.node none · .leaf) (ih (j / 2) .leaf)
    |succ k=>exact congrArg (Tr.node none .leaf ·) (ih (j / 2) .leaf)
  |node v l r=>
   cases i with
   |zero=>rfl
   |succ j=>
    show QSL o (Nat.rec (motive:=fun _=>List Stp) (.l::QEl d (j / 2)) (fun _ _=> .r::QEl d (j / 2)) (j % 2)) (.node v l r)=(match j % 2 with|0=>Tr.node v (l.set d (j / 2) o) r|_+1=> .node v l (r.set d (j / 2) o))
    cases j % 2 with
    |zero=>exact congrArg (Tr.node v · r) (ih (j / 2) l)
    |succ k=>exact congrArg (Tr.node v l ·) (ih (j / 2) r)
def rdR(F:Fw)(b:Nat):Option Obj:=Bool.rec (motive:=fun _=>Option Obj) none (QTc (QEl QFm b) F.hp) (Nat.ble (Nat.succ b) F.n)
theorem QLp(F:Fw)(b:Nat):rdR F b=F.rd b:=by
 unfold rdR Fw.rd;rw[QRQ]
 by_cases h:b<F.n
 ·
  rw[if_pos h,Nat.ble_eq_true_of_le h]
 ·
  rw[if_neg h]
  have:Nat.ble (Nat.succ b) F.n=false:=by
   cases hb:Nat.ble (Nat.succ b) F.n with
   |false=>rfl
   |true=>exact absurd (Nat.le_of_ble_eq_true hb) h
  rw[this]
def QNk {α:Type}(n:Nat)(f:Nat→α):α:=Nat.rec (motive:=fun _=>α) (f 0) (fun k _=>f (Nat.succ k)) n
theorem QJR {α:Type}(n:Nat)(f:Nat→α):QNk n f=f n:=by cases n <;> rfl
def QSG(n:Nat):Bool:=Nat.ble (Nat.succ n) 10000000
theorem QKN(n:Nat):QSG n=decide (big n):=by
 unfold QSG
 by_cases h:big n
 ·
  rw[Nat.ble_eq_true_of_le h,decide_eq_true h]
 ·
  rw[decide_eq_false h]
  cases hb:Nat.ble (Nat.succ n) 10000000 with
  |false=>rfl
  |true=>exact absurd (Nat.le_of_ble_eq_true hb) h
def QRu(F:Fw)(o:Obj)(f:Nat→Value):Option (Value × Fw):=
 QNk F.n fun n=>Bool.rec (motive:=fun _=>Option (Value × Fw)) none (some (f n,⟨Nat.succ n,QSL o (QEl QFm n) F.hp⟩)) (QSG n)
theorem QP3(F:Fw)(o:Obj)(f:Nat→Value):QRu F o f=if big F.n then some (f F.n,F.push o) else none:=by
 unfold QRu;rw[QJR,QKN,QLK]
 by_cases h:big F.n
 ·
  rw[if_pos h,decide_eq_true h];rfl
 ·
  rw[if_neg h,decide_eq_false h]
def QUD(F:Fw)(b:Nat)(o:Obj):Fw:=⟨F.n,QSL o (QEl QFm b) F.hp⟩
theorem QRv(F:Fw)(b:Nat)(o:Obj):QUD F b o=F.put b o:=by
 unfold QUD Fw.put;rw[QLK]
structure Ev where
 run:List Value→Value
def ldK(P:Program)(t:TypeId):Option (Option Nat):=match QHQ P t with
 |some true=>(match QBJ P t with
  |some n=>some (some n)
  |none=>none)
 |some false=>some none
 |none=>none
def ld1(x:Value)(F:Fw):Option Value:=match x with
 | .pointer (some ⟨b,o,none⟩)=>(match rdR F b with
  |some (.cells xs _ _)=>QPi xs.toList o
  |_=>none)
 |_=>none
def QST:Option (List Value)→Option Value
 |some r=>some (.agg ⟨r⟩)
 |none=>none
def ldN(n:Nat)(x:Value)(F:Fw):Option Value:=match x with
 | .pointer (some ⟨b,o,none⟩)=>(match rdR F b with
  |some (.cells xs _ _)=>QST (QGn xs.toList o n)
  |_=>none)
 |_=>none
theorem QSp(b o:Nat)(F:Fw):ld1 (.pointer (some ⟨b,o,none⟩)) F=(match F.rd b with|some (.cells xs _ _)=>QRP xs.toList o|_=>none):=by
 show(match rdR F b with|some (.cells xs _ _)=>QPi xs.toList o|_=>none)=_;rw[QLp]
 cases F.rd b with
 |none=>rfl
 |some ob=>cases ob <;> first|rfl|exact QPj _ _
theorem QSr(n b o:Nat)(F:Fw):ldN n (.pointer (some ⟨b,o,none⟩)) F=(match F.rd b with|some (.cells xs _ _)=>QST (takeAt xs.toList o n)|_=>none):=by
 show(match rdR F b with|some (.cells xs _ _)=>QST (QGn xs.toList o n)|_=>none)=_;rw[QLp]
 cases F.rd b with
 |none=>rfl
 |some ob=>cases ob <;> first|rfl|exact congrArg QST (QHm _ _ _)
def ldA(k:Option (Option Nat))(x:Value)(F:Fw):Option Value:=match k with
 |none=>none
 |some none=>ld1 x F
 |some (some n)=>ldN n x F
theorem QGR(P:Program)(t:TypeId)(x:Value)(F:Fw):QFG P t x F=ldA (ldK P t) x F:=by
 have np:∀x,(∀F,ld1 x F=none)→(∀n F,ldN n x F=none)→none=ldA (ldK P t) x F:=fun x h1 h2=>by
  rcases ldK P t with _|_|n
  ·
   rfl
  ·
   exact(h1 F).symm
  ·
   exact(h2 n F).symm
 cases x with
 |pointer a=>
  cases a with
  |none=>exact np _ (fun _=>rfl) (fun _ _=>rfl)
  |some a=>
   obtain⟨b,o,sp⟩:=a
   cases sp with
   |some _=>exact np _ (fun _=>rfl) (fun _ _=>rfl)
   |none=>
    show(match F.rd b with
     |some (.cells xs _ _)=>(match QHQ P t with
      |some true=>(match QBJ P t with
       |some n=>(match takeAt xs.toList o n with
        |some r=>some (Value.agg ⟨r⟩)
        |none=>none)
       |none=>none)
      |some false=>QRP xs.toList o
      |none=>none)
     |_=>none)=_
    unfold ldK;rcases QHQ P t with _|_|_
    ·
     show _=(none:Option Value);rcases F.rd b with _|ob
     ·
      rfl
     ·
      cases ob <;> rfl
    ·
     show _=ld1 (.pointer (some ⟨b,o,none⟩)) F;rw[QSp]
    ·
     rcases QBJ P t with _|n
     ·
      show _=(none:Option Value);rcases F.rd b with _|ob
      ·
       rfl
      ·
       cases ob <;> rfl
     ·
      show _=ldN n (.pointer (some ⟨b,o,none⟩)) F;rw[QSr];rcases F.rd b with _|ob
      ·
       rfl
      ·
       cases ob <;> first|rfl|(dsimp only;cases takeAt _ o n <;> rfl)
 |_=>exact np _ (fun _=>rfl) (fun _ _=>rfl)
def fz0(fz:Nat × Nat):Bool:=match fz with
 |(a,b)=>Bool.rec (motive:=fun _=>Bool) false (Nat.beq b 0) (Nat.beq a 0)
theorem QQj(fz:Nat × Nat):fz0 fz=true↔fz=(0,0):=by
 obtain⟨a,b⟩:=fz;have no:∀(p:Nat × Nat),p≠(0,0)→(fz0 p=true→p=(0,0))→(fz0 p=true↔p=(0,0)):=fun p h1 h2=>⟨h2,fun h=>absurd h h1⟩
 cases a with
 |zero=>
  cases b with
  |zero=>exact⟨fun _=>rfl,fun _=>rfl⟩
  |succ b=>exact no _ (by simp) fun h=>absurd (show false=true from h) Bool.false_ne_true
 |succ a=>exact no _ (by simp) fun h=>absurd (show false=true from h) Bool.false_ne_true
def QQ9(a b:Bool):Bool:=Bool.rec (motive:=fun _=>Bool) false b a
theorem QRA(a b:Bool):QQ9 a b=(a&&b):=by cases a <;> rfl
def QLQ:Value→List Value
 | .agg cs=>cs.toList
 |v=> [v]
theorem QNL(v:Value):QLQ v=v.cells.toList:=by cases v <;> rfl
def QTE(F:Fw)(b:Nat)(e:TypeId):Option (List Value)→Option Fw
 |some r=>some (QUD F b (.cells ⟨r⟩ e (0,0)))
 |none=>none
def QTR(B n:Nat)(x:Value)(vs:List Value)(F:Fw):Option Fw:=match x with
 | .pointer (some ⟨b,o,none⟩)=>(match QQ9 (Nat.ble B b) (QSG F.n)with
  |true=>(match rdR F b with
   |some (.cells xs e fz)=>(match QQ9 (fz0 fz) (QQ9 (QTY one1 vs) (Nat.beq n (QN5 vs)))with
    |true=>QTE F b e (QTP xs.toList o vs)
    |false=>none)
   |_=>none)
  |false=>none)
 |_=>none
def QQF(P:Program)(t:TypeId):Option Nat:=match QBJ P t with
 |some 0=>none
 |some (n+1)=>some (n+1)
 |none=>none
theorem QSA(B n b o:Nat)(vs:List Value)(F:Fw):QTR B n (.pointer (some ⟨b,o,none⟩)) vs F=if B≤b∧big F.n then(match F.rd b with
  |some (.cells xs e fz)=>if fz=(0,0)∧vs.all one1=true∧n=vs.length then QTE F b e (spl xs.toList o vs) else none
  |_=>none) else none:=by
 have hle:∀m n:Nat,Nat.ble m n=decide (m≤n):=fun m n=>by
  by_cases h:m≤n
  ·
   rw[Nat.ble_eq_true_of_le h,decide_eq_true h]
  ·
   rw[decide_eq_false h]
   cases hb:Nat.ble m n with
   |false=>rfl
   |true=>exact absurd (Nat.le_of_ble_eq_true hb) h
 have hbe:∀m n:Nat,Nat.beq m n=decide (m=n):=fun m n=>by
  by_cases h:m=n
  ·
   rw[h,Nat.beq_refl,decide_eq_true rfl]
  ·
   rw[decide_eq_false h]
   cases hb:Nat.beq m n with
   |false=>rfl
   |true=>exact absurd (Nat.eq_of_beq_eq_true hb) h
 show(match QQ9 (Nat.ble B b) (QSG F.n)with
   |true=>(match rdR F b with
    |some (.cells xs e fz)=>(match QQ9 (fz0 fz) (QQ9 (QTY one1 vs) (Nat.beq n (QN5 vs)))with
     |true=>QTE F b e (QTP xs.toList o vs)
     |false=>none)
    |_=>none)
   |false=>none)=_
 simp only[QLp,QR9,QIR,QQ6,QRA,QKN,hle,hbe]
 by_cases hB:B≤b∧big F.n
 ·
  rw[if_pos hB,decide_eq_true hB.1,decide_eq_true hB.2]
  show(match F.rd b with
    |some (.cells xs e fz)=>(match fz0 fz&&(vs.all one1&&decide (n=vs.length))with
     |true=>QTE F b e (spl xs.toList o vs)
     |false=>none)
    |_=>none)=_
  rcases F.rd b with _|ob
  ·
   rfl
  ·
   cases ob with
   |cells xs e fz=>
    dsimp only
    by_cases hc:fz=(0,0)∧vs.all one1=true∧n=vs.length
    ·
     rw[if_pos hc,(QQj fz).2 hc.1,hc.2.1,decide_eq_true hc.2.2];rfl
    ·
     rw[if_neg hc]
     have e:(fz0 fz&&(vs.all one1&&decide (n=vs.length)))=false:=by
      cases hq:(fz0 fz&&(vs.all one1&&decide (n=vs.length)))with
      |false=>rfl
      |true=>
       simp only[Bool.and_eq_true,decide_eq_true_eq]at hq;exact absurd ⟨(QQj fz).1 hq.1,hq.2.1,hq.2.2⟩ hc
     rw[e]
   |_=>rfl
 ·
  rw[if_neg hB]
  have e:(decide (B≤b)&&decide (big F.n))=false:=by
   cases hq:(decide (B≤b)&&decide (big F.n))with
   |false=>rfl
   |true=>
    simp only[Bool.and_eq_true,decide_eq_true_eq]at hq;exact absurd hq hB
  rw[e]
def stoA(B:Nat)(k:Option Nat)(x v:Value)(F:Fw):Option Fw:=match k with
 |some n=>QTR B n x (QLQ v) F
 |none=>none
theorem QKE(P:Program)(B:Nat)(t:TypeId)(x v:Value)(F:Fw):QEx P B t x v F=stoA B (QQF P t) x v F:=by
 have np:∀x,(∀n vs F,QTR B n x vs F=none)→none=stoA B (QQF P t) x v F:=fun x h1=>by
  rcases QQF P t with _|n
  ·
   rfl
  ·
   exact(h1 n _ F).symm
 cases x with
 |pointer a=>
  cases a with
  |none=>exact np _ (fun _ _ _=>rfl)
  |some a=>
   obtain⟨b,o,sp⟩:=a
   cases sp with
   |some _=>exact np _ (fun _ _ _=>rfl)
   |none=>
    show(if B≤b∧big F.n then(match F.rd b with
     |some (.cells xs e fz)=>if fz=(0,0)∧v.cells.toList.all one1=true∧QBJ P t=some v.cells.toList.length∧v.cells.toList≠ [] then
       (match spl xs.toList o v.cells.toList with
       |some r=>some (F.put b (.cells ⟨r⟩ e (0,0)))
       |none=>none) else none
     |_=>none) else none)=_
    have hno:(QBJ P t=none∨QBJ P t=some 0)→∀fz:Nat × Nat,¬(fz=(0,0)∧v.cells.toList.all one1=true∧QBJ P t=some v.cells.toList.length∧v.cells.toList≠ []):=by
     rintro(h|h) fz ⟨_,_,h1,h2⟩
     ·
      rw[h]at h1;cases h1
     ·
      rw[h]at h1;injection h1 with h1
      exact h2 (List.length_eq_zero_iff.1 h1.symm)
    have hnone:(QBJ P t=none∨QBJ P t=some 0)→QQF P t=none:=by
     rintro(h|h) <;> unfold QQF <;> rw[h]
    by_cases hz:QBJ P t=none∨QBJ P t=some 0
    ·
     rw[hnone hz];show _=(none:Option Fw)
     by_cases hB:B≤b∧big F.n
     ·
      rw[if_pos hB];rcases F.rd b with _|ob
      ·
       rfl
      ·
       cases ob with
       |cells xs e fz=>exact if_neg (hno hz fz)
       |_=>rfl
     ·
      rw[if_neg hB]
    ·
     obtain⟨n,hn⟩:∃n,QBJ P t=some (n+1):=by
      rcases hs:QBJ P t with _|n
      ·
       exact absurd (.inl hs) hz
      ·
       cases n with
       |zero=>exact absurd (.inr hs) hz
       |succ n=>exact⟨n,rfl⟩
     have hk:QQF P t=some (n+1):=by unfold QQF;rw[hn]
     rw[hk];show _=QTR B (n+1) (.pointer (some ⟨b,o,none⟩)) (QLQ v) F;rw[QSA,QNL]
     by_cases hB:B≤b∧big F.n
     ·
      rw[if_pos hB,if_pos hB];rcases F.rd b with _|ob
      ·
       rfl
      ·
       cases ob with
       |cells xs e fz=>
        dsimp only
        by_cases hc:fz=(0,0)∧v.cells.toList.all one1=true∧n+1=v.cells.toList.length
        ·
         rw[if_pos hc,if_pos ⟨hc.1,hc.2.1,by rw[hn,hc.2.2],fun h0=>by rw[h0]at hc;cases hc.2.2⟩];unfold QTE;simp only[QRv]
        ·
         rw[if_neg hc,if_neg];rintro⟨h1,h2,h3,_⟩;rw[hn]at h3;injection h3 with h3
         exact hc ⟨h1,h2,h3⟩
       |_=>rfl
     ·
      rw[if_neg hB,if_neg hB]
 |_=>exact np _ (fun _ _ _=>rfl)
end
noncomputable section
structure C12 where
 a0:Value
 a1:Value
 a2:Value
 a3:Value
 a4:Value
 a5:Value
 a6:Value
 a7:Value
 a8:Value
 a9:Value
 a10:Value
 a11:Value
 a12:Value
 a13:Value
 a14:Value
 a15:Value
 a16:Value
structure Ev12 where
 c0:C12
 c1:C12
 c2:C12
 c3:C12
 c4:C12
 c5:C12
 c6:C12
 c7:C12
 c8:C12
 c9:C12
 c10:C12
 c11:C12
 c12:C12
 c13:C12
 c14:C12
 c15:C12
 c16:C12
 ds:List Deferred
structure Sel where
 run:C12→Value
def QUR:Nat→Sel
 |0=>⟨fun c=>c.a0⟩
 |1=>⟨fun c=>c.a1⟩
 |2=>⟨fun c=>c.a2⟩
 |3=>⟨fun c=>c.a3⟩
 |4=>⟨fun c=>c.a4⟩
 |5=>⟨fun c=>c.a5⟩
 |6=>⟨fun c=>c.a6⟩
 |7=>⟨fun c=>c.a7⟩
 |8=>⟨fun c=>c.a8⟩
 |9=>⟨fun c=>c.a9⟩
 |10=>⟨fun c=>c.a10⟩
 |11=>⟨fun c=>c.a11⟩
 |12=>⟨fun c=>c.a12⟩
 |13=>⟨fun c=>c.a13⟩
 |14=>⟨fun c=>c.a14⟩
 |15=>⟨fun c=>c.a15⟩
 |16=>⟨fun c=>c.a16⟩
 |_=>⟨fun _=>undef⟩
structure Upd where
 run:Value→C12→C12
def QSD:Nat→Upd
 |0=>⟨fun v c=>C12.rec (motive:=fun _=>C12) (fun a0 a1 a2 a3 a4 a5 a6 a7 a8 a9 a10 a11 a12 a13 a14 a15 a16=>⟨v,a1,a2,a3,a4,a5,a6,a7,a8,a9,a10,a11,a12,a13,a14,a15,a16⟩) c⟩
 |1=>⟨fun v c=>C12.rec (motive:=fun _=>C12) (fun a0 a1 a2 a3 a4 a5 a6 a7 a8 a9 a10 a11 a12 a13 a14 a15 a16=>⟨a0,v,a2,a3,a4,a5,a6,a7,a8,a9,a10,a11,a12,a13,a14,a15,a16⟩) c⟩
 |2=>⟨fun v c=>C12.rec (motive:=fun _=>C12) (fun a0 a1 a2 a3 a4 a5 a6 a7 a8 a9 a10 a11 a12 a13 a14 a15 a16=>⟨a0,a1,v,a3,a4,a5,a6,a7,a8,a9,a10,a11,a12,a13,a14,a15,a16⟩) c⟩
 |3=>⟨fun v c=>C12.rec (motive:=fun _=>C12) (fun a0 a1 a2 a3 a4 a5 a6 a7 a8 a9 a10 a11 a12 a13 a14 a15 a16=>⟨a0,a1,a2,v,a4,a5,a6,a7,a8,a9,a10,a11,a12,a13,a14,a15,a16⟩) c⟩
 |4=>⟨fun v c=>C12.rec (motive:=fun _=>C12) (fun a0 a1 a2 a3 a4 a5 a6 a7 a8 a9 a10 a11 a12 a13 a14 a15 a16=>⟨a0,a1,a2,a3,v,a5,a6,a7,a8,a9,a10,a11,a12,a13,a14,a15,a16⟩) c⟩
 |5=>⟨fun v c=>C12.rec (motive:=fun _=>C12) (fun a0 a1 a2 a3 a4 a5 a6 a7 a8 a9 a10 a11 a12 a13 a14 a15 a16=>⟨a0,a1,a2,a3,a4,v,a6,a7,a8,a9,a10,a11,a12,a13,a14,a15,a16⟩) c⟩
 |6=>⟨fun v c=>C12.rec (motive:=fun _=>C12) (fun a0 a1 a2 a3 a4 a5 a6 a7 a8 a9 a10 a11 a12 a13 a14 a15 a16=>⟨a0,a1,a2,a3,a4,a5,v,a7,a8,a9,a10,a11,a12,a13,a14,a15,a16⟩) c⟩
 |7=>⟨fun v c=>C12.rec (motive:=fun _=>C12) (fun a0 a1 a2 a3 a4 a5 a6 a7 a8 a9 a10 a11 a12 a13 a14 a15 a16=>⟨a0,a1,a2,a3,a4,a5,a6,v,a8,a9,a10,a11,a12,a13,a14,a15,a16⟩) c⟩
 |8=>⟨fun v c=>C12.rec (motive:=fun _=>C12) (fun a0 a1 a2 a3 a4 a5 a6 a7 a8 a9 a10 a11 a12 a13 a14 a15 a16=>⟨a0,a1,a2,a3,a4,a5,a6,a7,v,a9,a10,a11,a12,a13,a14,a15,a16⟩) c⟩
 |9=>⟨fun v c=>C12.rec (motive:=fun _=>C12) (fun a0 a1 a2 a3 a4 a5 a6 a7 a8 a9 a10 a11 a12 a13 a14 a15 a16=>⟨a0,a1,a2,a3,a4,a5,a6,a7,a8,v,a10,a11,a12,a13,a14,a15,a16⟩) c⟩
 |10=>⟨fun v c=>C12.rec (motive:=fun _=>C12) (fun a0 a1 a2 a3 a4 a5 a6 a7 a8 a9 a10 a11 a12 a13 a14 a15 a16=>⟨a0,a1,a2,a3,a4,a5,a6,a7,a8,a9,v,a11,a12,a13,a14,a15,a16⟩) c⟩
 |11=>⟨fun v c=>C12.rec (motive:=fun _=>C12) (fun a0 a1 a2 a3 a4 a5 a6 a7 a8 a9 a10 a11 a12 a13 a14 a15 a16=>⟨a0,a1,a2,a3,a4,a5,a6,a7,a8,a9,a10,v,a12,a13,a14,a15,a16⟩) c⟩
 |12=>⟨fun v c=>C12.rec (motive:=fun _=>C12) (fun a0 a1 a2 a3 a4 a5 a6 a7 a8 a9 a10 a11 a12 a13 a14 a15 a16=>⟨a0,a1,a2,a3,a4,a5,a6,a7,a8,a9,a10,a11,v,a13,a14,a15,a16⟩) c⟩
 |13=>⟨fun v c=>C12.rec (motive:=fun _=>C12) (fun a0 a1 a2 a3 a4 a5 a6 a7 a8 a9 a10 a11 a12 a13 a14 a15 a16=>⟨a0,a1,a2,a3,a4,a5,a6,a7,a8,a9,a10,a11,a12,v,a14,a15,a16⟩) c⟩
 |14=>⟨fun v c=>C12.rec (motive:=fun _=>C12) (fun a0 a1 a2 a3 a4 a5 a6 a7 a8 a9 a10 a11 a12 a13 a14 a15 a16=>⟨a0,a1,a2,a3,a4,a5,a6,a7,a8,a9,a10,a11,a12,a13,v,a15,a16⟩) c⟩
 |15=>⟨fun v c=>C12.rec (motive:=fun _=>C12) (fun a0 a1 a2 a3 a4 a5 a6 a7 a8 a9 a10 a11 a12 a13 a14 a15 a16=>⟨a0,a1,a2,a3,a4,a5,a6,a7,a8,a9,a10,a11,a12,a13,a14,v,a16⟩) c⟩
 |16=>⟨fun v c=>C12.rec (motive:=fun _=>C12) (fun a0 a1 a2 a3 a4 a5 a6 a7 a8 a9 a10 a11 a12 a13 a14 a15 a16=>⟨a0,a1,a2,a3,a4,a5,a6,a7,a8,a9,a10,a11,a12,a13,a14,a15,v⟩) c⟩
 |_=>⟨fun _ c=>c⟩
structure Sel2 where
 run:Ev12→C12
def QGi:Nat→Sel2
 |0=>⟨fun c=>c.c0⟩
 |1=>⟨fun c=>c.c1⟩
 |2=>⟨fun c=>c.c2⟩
 |3=>⟨fun c=>c.c3⟩
 |4=>⟨fun c=>c.c4⟩
 |5=>⟨fun c=>c.c5⟩
 |6=>⟨fun c=>c.c6⟩
 |7=>⟨fun c=>c.c7⟩
 |8=>⟨fun c=>c.c8⟩
 |9=>⟨fun c=>c.c9⟩
 |10=>⟨fun c=>c.c10⟩
 |11=>⟨fun c=>c.c11⟩
 |12=>⟨fun c=>c.c12⟩
 |13=>⟨fun c=>c.c13⟩
 |14=>⟨fun c=>c.c14⟩
 |15=>⟨fun c=>c.c15⟩
 |16=>⟨fun c=>c.c16⟩
 |_=>⟨fun c=>c.c0⟩
structure Upd2 where
 run:(C12→C12)→Ev12→Ev12
def QMz:Nat→Upd2
 |0=>⟨fun f e=>Ev12.rec (motive:=fun _=>Ev12) (fun c0 c1 c2 c3 c4 c5 c6 c7 c8 c9 c10 c11 c12 c13 c14 c15 c16 ds=>⟨f c0,c1,c2,c3,c4,c5,c6,c7,c8,c9,c10,c11,c12,c13,c14,c15,c16,ds⟩) e⟩
 |1=>⟨fun f e=>Ev12.rec (motive:=fun _=>Ev12) (fun c0 c1 c2 c3 c4 c5 c6 c7 c8 c9 c10 c11 c12 c13 c14 c15 c16 ds=>⟨c0,f c1,c2,c3,c4,c5,c6,c7,c8,c9,c10,c11,c12,c13,c14,c15,c16,ds⟩) e⟩
 |2=>⟨fun f e=>Ev12.rec (motive:=fun _=>Ev12) (fun c0 c1 c2 c3 c4 c5 c6 c7 c8 c9 c10 c11 c12 c13 c14 c15 c16 ds=>⟨c0,c1,f c2,c3,c4,c5,c6,c7,c8,c9,c10,c11,c12,c13,c14,c15,c16,ds⟩) e⟩
 |3=>⟨fun f e=>Ev12.rec (motive:=fun _=>Ev12) (fun c0 c1 c2 c3 c4 c5 c6 c7 c8 c9 c10 c11 c12 c13 c14 c15 c16 ds=>⟨c0,c1,c2,f c3,c4,c5,c6,c7,c8,c9,c10,c11,c12,c13,c14,c15,c16,ds⟩) e⟩
 |4=>⟨fun f e=>Ev12.rec (motive:=fun _=>Ev12) (fun c0 c1 c2 c3 c4 c5 c6 c7 c8 c9 c10 c11 c12 c13 c14 c15 c16 ds=>⟨c0,c1,c2,c3,f c4,c5,c6,c7,c8,c9,c10,c11,c12,c13,c14,c15,c16,ds⟩) e⟩
 |5=>⟨fun f e=>Ev12.rec (motive:=fun _=>Ev12) (fun c0 c1 c2 c3 c4 c5 c6 c7 c8 c9 c10 c11 c12 c13 c14 c15 c16 ds=>⟨c0,c1,c2,c3,c4,f c5,c6,c7,c8,c9,c10,c11,c12,c13,c14,c15,c16,ds⟩) e⟩
 |6=>⟨fun f e=>Ev12.rec (motive:=fun _=>Ev12) (fun c0 c1 c2 c3 c4 c5 c6 c7 c8 c9 c10 c11 c12 c13 c14 c15 c16 ds=>⟨c0,c1,c2,c3,c4,c5,f c6,c7,c8,c9,c10,c11,c12,c13,c14,c15,c16,ds⟩) e⟩
 |7=>⟨fun f e=>Ev12.rec (motive:=fun _=>Ev12) (fun c0 c1 c2 c3 c4 c5 c6 c7 c8 c9 c10 c11 c12 c13 c14 c15 c16 ds=>⟨c0,c1,c2,c3,c4,c5,c6,f c7,c8,c9,c10,c11,c12,c13,c14,c15,c16,ds⟩) e⟩
 |8=>⟨fun f e=>Ev12.rec (motive:=fun _=>Ev12) (fun c0 c1 c2 c3 c4 c5 c6 c7 c8 c9 c10 c11 c12 c13 c14 c15 c16 ds=>⟨c0,c1,c2,c3,c4,c5,c6,c7,f c8,c9,c10,c11,c12,c13,c14,c15,c16,ds⟩) e⟩
 |9=>⟨fun f e=>Ev12.rec (motive:=fun _=>Ev12) (fun c0 c1 c2 c3 c4 c5 c6 c7 c8 c9 c10 c11 c12 c13 c14 c15 c16 ds=>⟨c0,c1,c2,c3,c4,c5,c6,c7,c8,f c9,c10,c11,c12,c13,c14,c15,c16,ds⟩) e⟩
 |10=>⟨fun f e=>Ev12.rec (motive:=fun _=>Ev12) (fun c0 c1 c2 c3 c4 c5 c6 c7 c8 c9 c10 c11 c12 c13 c14 c15 c16 ds=>⟨c0,c1,c2,c3,c4,c5,c6,c7,c8,c9,f c10,c11,c12,c13,c14,c15,c16,ds⟩) e⟩
 |11=>⟨fun f e=>Ev12.rec (motive:=fun _=>Ev12) (fun c0 c1 c2 c3 c4 c5 c6 c7 c8 c9 c10 c11 c12 c13 c14 c15 c16 ds=>⟨c0,c1,c2,c3,c4,c5,c6,c7,c8,c9,c10,f c11,c12,c13,c14,c15,c16,ds⟩) e⟩
 |12=>⟨fun f e=>Ev12.rec (motive:=fun _=>Ev12) (fun c0 c1 c2 c3 c4 c5 c6 c7 c8 c9 c10 c11 c12 c13 c14 c15 c16 ds=>⟨c0,c1,c2,c3,c4,c5,c6,c7,c8,c9,c10,c11,f c12,c13,c14,c15,c16,ds⟩) e⟩
 |13=>⟨fun f e=>Ev12.rec (motive:=fun _=>Ev12) (fun c0 c1 c2 c3 c4 c5 c6 c7 c8 c9 c10 c11 c12 c13 c14 c15 c16 ds=>⟨c0,c1,c2,c3,c4,c5,c6,c7,c8,c9,c10,c11,c12,f c13,c14,c15,c16,ds⟩) e⟩
 |14=>⟨fun f e=>Ev12.rec (motive:=fun _=>Ev12) (fun c0 c1 c2 c3 c4 c5 c6 c7 c8 c9 c10 c11 c12 c13 c14 c15 c16 ds=>⟨c0,c1,c2,c3,c4,c5,c6,c7,c8,c9,c10,c11,c12,c13,f c14,c15,c16,ds⟩) e⟩
 |15=>⟨fun f e=>Ev12.rec (motive:=fun _=>Ev12) (fun c0 c1 c2 c3 c4 c5 c6 c7 c8 c9 c10 c11 c12 c13 c14 c15 c16 ds=>⟨c0,c1,c2,c3,c4,c5,c6,c7,c8,c9,c10,c11,c12,c13,c14,f c15,c16,ds⟩) e⟩
 |16=>⟨fun f e=>Ev12.rec (motive:=fun _=>Ev12) (fun c0 c1 c2 c3 c4 c5 c6 c7 c8 c9 c10 c11 c12 c13 c14 c15 c16 ds=>⟨c0,c1,c2,c3,c4,c5,c6,c7,c8,c9,c10,c11,c12,c13,c14,c15,f c16,ds⟩) e⟩
 |_=>⟨fun _ e=>e⟩
def QGp(d:Deferred)(e:Ev12):Ev12:=Ev12.rec (motive:=fun _=>Ev12) (fun c0 c1 c2 c3 c4 c5 c6 c7 c8 c9 c10 c11 c12 c13 c14 c15 c16 ds=>⟨c0,c1,c2,c3,c4,c5,c6,c7,c8,c9,c10,c11,c12,c13,c14,c15,c16,d::ds⟩) e
def QMo(d:List Deferred)(e:Ev12):Ev12:=Ev12.rec (motive:=fun _=>Ev12) (fun c0 c1 c2 c3 c4 c5 c6 c7 c8 c9 c10 c11 c12 c13 c14 c15 c16 _=>⟨c0,c1,c2,c3,c4,c5,c6,c7,c8,c9,c10,c11,c12,c13,c14,c15,c16,d⟩) e
def C12.list(c:C12):List Value:= [c.a0,c.a1,c.a2,c.a3,c.a4,c.a5,c.a6,c.a7,c.a8,c.a9,c.a10,c.a11,c.a12,c.a13,c.a14,c.a15,c.a16]
def Ev12.chunks(e:Ev12):List C12:= [e.c0,e.c1,e.c2,e.c3,e.c4,e.c5,e.c6,e.c7,e.c8,e.c9,e.c10,e.c11,e.c12,e.c13,e.c14,e.c15,e.c16]
def un12:C12:=⟨undef,undef,undef,undef,undef,undef,undef,undef,undef,undef,undef,undef,undef,undef,undef,undef,undef⟩
def unE:Ev12:=⟨un12,un12,un12,un12,un12,un12,un12,un12,un12,un12,un12,un12,un12,un12,un12,un12,un12, []⟩
theorem QLJ(i:Nat)(h:i<17)(c:C12):(QUR i).run c=c.list.getD i undef:=by
 match i,h with
 |0,_=>rfl
 |1,_=>rfl
 |2,_=>rfl
 |3,_=>rfl
 |4,_=>rfl
 |5,_=>rfl
 |6,_=>rfl
 |7,_=>rfl
 |8,_=>rfl
 |9,_=>rfl
 |10,_=>rfl
 |11,_=>rfl
 |12,_=>rfl
 |13,_=>rfl
 |14,_=>rfl
 |15,_=>rfl
 |16,_=>rfl
 |i+17,h=>exact absurd h (by omega)
theorem QSE(i:Nat)(h:i<17)(v:Value)(c:C12):((QSD i).run v c).list=c.list.set i v:=by
 match i,h with
 |0,_=>rfl
 |1,_=>rfl
 |2,_=>rfl
 |3,_=>rfl
 |4,_=>rfl
 |5,_=>rfl
 |6,_=>rfl
 |7,_=>rfl
 |8,_=>rfl
 |9,_=>rfl
 |10,_=>rfl
 |11,_=>rfl
 |12,_=>rfl
 |13,_=>rfl
 |14,_=>rfl
 |15,_=>rfl
 |16,_=>rfl
 |i+17,h=>exact absurd h (by omega)
theorem QFz(i:Nat)(h:i<17)(e:Ev12):(QGi i).run e=e.chunks.getD i un12:=by
 match i,h with
 |0,_=>rfl
 |1,_=>rfl
 |2,_=>rfl
 |3,_=>rfl
 |4,_=>rfl
 |5,_=>rfl
 |6,_=>rfl
 |7,_=>rfl
 |8,_=>rfl
 |9,_=>rfl
 |10,_=>rfl
 |11,_=>rfl
 |12,_=>rfl
 |13,_=>rfl
 |14,_=>rfl
 |15,_=>rfl
 |16,_=>rfl
 |i+17,h=>exact absurd h (by omega)
theorem QLx(i:Nat)(h:i<17)(f:C12→C12)(e:Ev12):((QMz i).run f e).chunks=e.chunks.set i (f (e.chunks.getD i un12))∧((QMz i).run f e).ds=e.ds:=by
 match i,h with
 |0,_=>exact⟨rfl,rfl⟩
 |1,_=>exact⟨rfl,rfl⟩
 |2,_=>exact⟨rfl,rfl⟩
 |3,_=>exact⟨rfl,rfl⟩
 |4,_=>exact⟨rfl,rfl⟩
 |5,_=>exact⟨rfl,rfl⟩
 |6,_=>exact⟨rfl,rfl⟩
 |7,_=>exact⟨rfl,rfl⟩
 |8,_=>exact⟨rfl,rfl⟩
 |9,_=>exact⟨rfl,rfl⟩
 |10,_=>exact⟨rfl,rfl⟩
 |11,_=>exact⟨rfl,rfl⟩
 |12,_=>exact⟨rfl,rfl⟩
 |13,_=>exact⟨rfl,rfl⟩
 |14,_=>exact⟨rfl,rfl⟩
 |15,_=>exact⟨rfl,rfl⟩
 |16,_=>exact⟨rfl,rfl⟩
 |i+17,h=>exact absurd h (by omega)
structure Ge where
 run:Ev12→Value
def geR(n t:Nat):Ge:=Bool.rec (motive:=fun _=>Ge) ⟨fun _=>undef⟩ ⟨fun e=>(QUR (Nat.mod t 17)).run ((QGi (Nat.div t 17)).run e)⟩ (Nat.ble (Nat.succ t) n)
structure Pu where
 run:Value→Ev12→Ev12
def puR(t:Nat):Pu:=⟨fun v e=>(QMz (Nat.div t 17)).run ((QSD (Nat.mod t 17)).run v) e⟩
def QM2(e:Ev12)(t:Nat):Value:=(QUR (t % 17)).run ((QGi (t / 17)).run e)
def QBA(n:Nat)(e:Ev12):List Value:=(List.range n).map (QM2 e)
theorem QIK(e:Ev12)(t t':Nat)(v:Value)(h:t<289)(h':t'<289):QM2 ((puR t).run v e) t'=if t=t' then v else QM2 e t':=by
 have d1:t / 17<17:=by omega
 have m1:t % 17<17:=by omega
 have d2:t' / 17<17:=by omega
 have m2:t' % 17<17:=by omega
 have hu:=(QLx (t / 17) d1 ((QSD (t % 17)).run v) e).1
 have hc:(QGi (t' / 17)).run ((puR t).run v e)=if t / 17=t' / 17 then(QSD (t % 17)).run v ((QGi (t / 17)).run e) else(QGi (t' / 17)).run e:=by
  show(QGi (t' / 17)).run ((QMz (t / 17)).run ((QSD (t % 17)).run v) e)=_;rw[QFz _ d2,hu,QFz _ d1,QFz _ d2];have hl:e.chunks.length=17:=rfl
  by_cases hd:t / 17=t' / 17
  ·
   rw[if_pos hd,←hd];simp only[List.getD_eq_getElem?_getD];rw[List.getElem?_set_self (by rw[hl];exact d1)];rfl
  ·
   rw[if_neg hd];simp only[List.getD_eq_getElem?_getD];rw[List.getElem?_set_ne hd]
 unfold QM2;rw[hc]
 by_cases hd:t / 17=t' / 17
 ·
  rw[if_pos hd];rw[QLJ _ m2,QSE _ m1,hd,QLJ _ m2];have hl:∀c:C12,c.list.length=17:=fun _=>rfl
  by_cases hm:t % 17=t' % 17
  ·
   have:t=t':=by omega
   rw[if_pos this,hm];simp only[List.getD_eq_getElem?_getD];rw[List.getElem?_set_self (by rw[hl];exact m2)];rfl
  ·
   have:t≠t':=by rintro rfl;exact hm rfl
   rw[if_neg this];simp only[List.getD_eq_getElem?_getD];rw[List.getElem?_set_ne hm]
 ·
  have:t≠t':=by rintro rfl;exact hd rfl
  rw[if_neg hd,if_neg this]
theorem QCM(n t:Nat)(e:Ev12):getL (QBA n e) t=if t<n then QM2 e t else undef:=by
 rw[QA5];unfold QBA
 by_cases h:t<n
 ·
  simp[Array.getD,h]
 ·
  simp[Array.getD,h]
theorem QHP(n t:Nat)(e:Ev12):(geR n t).run e=getL (QBA n e) t:=by
 rw[QCM];unfold geR
 by_cases h:t<n
 ·
  rw[if_pos h,Nat.ble_eq_true_of_le h];rfl
 ·
  have:Nat.ble (Nat.succ t) n=false:=by
   cases hb:Nat.ble (Nat.succ t) n with
   |false=>rfl
   |true=>exact absurd (Nat.le_of_ble_eq_true hb) h
  rw[if_neg h,this]
theorem QBY(n:Nat)(e:Ev12):(QBA n e).length=n:=by simp[QBA]
theorem QN7(n t:Nat)(e:Ev12)(v:Value)(hn:n≤289)(h:t<289):QBA n ((puR t).run v e)=QDN (QBA n e) t v:=by
 apply QIL
 ·
  rw[QBy,QBY,QBY]
 ·
  intro t'
  by_cases htt:t=t'
  ·
   subst htt;rcases Nat.lt_or_ge t n with hl|hl
   ·
    rw[QC9 _ _ _ (by rw[QBY];exact hl),QCM,if_pos hl,QIK e t t v h h,if_pos rfl]
   ·
    have e1:getL (QDN (QBA n e) t v) t=undef:=by
     rw[QA5,QCB];have:¬t<(QBA n e).length:=by rw[QBY];omega
     simp[Array.getD,this]
    rw[e1,QCM,if_neg (by omega)]
  ·
   rw[QBu _ _ _ _ htt,QCM,QCM]
   by_cases hl:t'<n
   ·
    rw[if_pos hl,if_pos hl,QIK e t t' v h (by omega),if_neg htt]
   ·
    rw[if_neg hl,if_neg hl]
theorem QQy(t:Nat)(h:t<289)(v:Value)(e:Ev12):((puR t).run v e).ds=e.ds:=(QLx (t / 17) (by omega) ((QSD (t % 17)).run v) e).2
theorem QRO(t:Nat)(h:t<289):QM2 unE t=undef:=by
 unfold QM2;rw[QFz _ (by omega),QLJ _ (by omega)]
 have h1:∀i,i<17→unE.chunks.getD i un12=un12:=fun i hi=>by
  match i,hi with
  |0,_=>rfl
  |1,_=>rfl
  |2,_=>rfl
  |3,_=>rfl
  |4,_=>rfl
  |5,_=>rfl
  |6,_=>rfl
  |7,_=>rfl
  |8,_=>rfl
  |9,_=>rfl
  |10,_=>rfl
  |11,_=>rfl
  |12,_=>rfl
  |13,_=>rfl
  |14,_=>rfl
  |15,_=>rfl
  |16,_=>rfl
  |i+17,h=>exact absurd h (by omega)
 have h2:∀i,i<17→un12.list.getD i undef=undef:=fun i hi=>by
  match i,hi with
  |0,_=>rfl
  |1,_=>rfl
  |2,_=>rfl
  |3,_=>rfl
  |4,_=>rfl
  |5,_=>rfl
  |6,_=>rfl
  |7,_=>rfl
  |8,_=>rfl
  |9,_=>rfl
  |10,_=>rfl
  |11,_=>rfl
  |12,_=>rfl
  |13,_=>rfl
  |14,_=>rfl
  |15,_=>rfl
  |16,_=>rfl
  |i+17,h=>exact absurd h (by omega)
 rw[h1 _ (by omega),h2 _ (by omega)]
def QM3(l:List Value):Nat→Ev12→Ev12:=List.rec (motive:=fun _=>Nat→Ev12→Ev12) (fun _ e=>e) (fun v _ ih t e=>ih (Nat.succ t) ((puR t).run v e)) l
theorem QPh(l:List Value)(t t':Nat)(e:Ev12)(h:t+l.length≤289)(h':t'<289):QM2 (QM3 l t e) t'=if t≤t'∧t'<t+l.length then l.getD (t' - t) undef else QM2 e t':=by
 induction l generalizing t e with
 |nil=>
  rw[if_neg (by simp only[List.length_nil];omega)];rfl
 |cons v l ih=>
  simp only[List.length_cons]at h ⊢;show QM2 (QM3 l (t+1) ((puR t).run v e)) t'=_;rw[ih (t+1) _ (by omega),QIK e t t' v (by omega) h']
  by_cases h1:t=t'
  ·
   subst h1;rw[if_neg (by omega),if_pos rfl,if_pos (by omega),Nat.sub_self];rfl
  ·
   rw[if_neg h1]
   by_cases h2:t+1≤t'∧t'<t+1+l.length
   ·
    rw[if_pos h2,if_pos (by omega)];have:t' - t=(t' - (t+1))+1:=by omega
    rw[this,List.getD_cons_succ]
   ·
    rw[if_neg h2,if_neg (by omega)]
theorem QRV(l:List Value)(t:Nat)(e:Ev12)(h:t+l.length≤289):(QM3 l t e).ds=e.ds:=by
 induction l generalizing t e with
 |nil=>rfl
 |cons v l ih=>
  simp only[List.length_cons]at h;show(QM3 l (t+1) ((puR t).run v e)).ds=_;rw[ih (t+1) _ (by omega),QQy t (by omega)]
theorem QJZ(l:List Value)(n:Nat)(h:l.length≤n)(hn:n≤289):QBA n (QM3 l 0 unE)=l++List.replicate (n - l.length) undef:=by
 apply QIL
 ·
  rw[QBY];simp;omega
 ·
  intro t;rw[QCM,QA5]
  by_cases ht:t<n
  ·
   rw[if_pos ht,QPh l 0 t unE (by omega) (by omega)]
   by_cases hl:t<l.length
   ·
    rw[if_pos (by omega),Nat.sub_zero];simp[Array.getD,List.getElem_append,hl,show t<l.length+(n - l.length)by omega]
   ·
    rw[if_neg (by omega),QRO t (by omega)];simp[Array.getD,List.getElem_append,hl,show t<l.length+(n - l.length)by omega]
  ·
   rw[if_neg ht];simp[Array.getD,show¬t<l.length+(n - l.length)by omega]
end
end Go.Proofs.YtjnclkakbopnjaaGreatDoor
