/- XSimR, XSimS, XSimT, XSimU -/
import Derived.Test.YtjnclkakbopnjaaGreatDoorLot20
import Derived.Scope
import Derived.Defers
set_option linter.unusedSimpArgs false
set_option linter.unusedVariables false
namespace Go.Proofs.YtjnclkakbopnjaaGreatDoor
open Go.Proofs.Tryz
open Go.RowKit
variable {P : Program} {B G : Nat} {w0 : World} {L : Lie} {w : World}
theorem Quiet.build(t:TypeId)(ps:Array (Nat × Value)):Quiet P (Instr.build t ps):=by
 unfold Instr.build;refine .bind (.zeroValue t) fun z=>?_
 dsimp only;refine .bind (.underlying t) fun d=>?_
 split
 ·
  refine .bind (Quiet.arrayMapM (fun f=> .bind (.sizeOf _) fun _=> .pure _) _) fun pl=>?_
  split
  ·
   exact .pure _
  ·
   exact .halt _
 ·
  refine .bind (.sizeOf _) fun n=>?_
  split
  ·
   exact .pure _
  ·
   exact .halt _
 ·
  exact .halt _
theorem Quiet.part(t:TypeId)(cs:Array Value)(o:Nat):Quiet P (part t cs o):=by
 unfold Go.part;refine .bind (.isAgg t) fun b=>?_
 split
 ·
  exact .bind (.sizeOf _) fun _=> .pure _
 ·
  split
  ·
   exact .pure _
  ·
   exact .halt _
theorem Quiet.field(t:TypeId)(v:Value)(f:Nat):Quiet P (Instr.field t v f):=by
 unfold Instr.field;refine .bind (.underlying t) fun d=>?_
 split
 ·
  split
  ·
   cases v with
   |agg cs=>exact .bind (.pure _) fun _=> .part _ _ _
   |_=>exact .bind (.halt _) fun _=> .part _ _ _
  ·
   exact .halt _
 ·
  exact .halt _
theorem Quiet.run {α:Type}{e:Sem α}{a:α}{x y:World}(h:Quiet P e)(hr:e.run P x= .ok a y)(c:World):e.run P c= .ok a c:=by
 rcases h with ⟨b,h⟩|⟨hl,h⟩
 ·
  rw[h x]at hr;injection hr with e1 e2
  rw[h c,e1]
 ·
  rw[h x]at hr;cases hr
def QSJ(P:Program)(B:Nat)(ρ:Operand→Value)(op:Op)(F:Fw):Option (Value × Fw):=
 match op with
 | .alloc t=>(match QKJ P t with
  |some z=>QQr F t z.cells
  |none=>none)
 | .box t x=>QQr F t (ρ x).cells
 | .build t ps=>if zf P t=true then(match (Instr.build t (ps.map fun(i,x)=>(i,ρ x))).run P default with
  | .ok v _=>some (v,F)
  | .halt _ _=>none) else none
 | .buildSlice t n ps=>(match P.underlying t with
  |some (.slice elem)=>(match QH2 P elem n (ps.map fun(i,x)=>(i,ρ x)).toList with
   |some cells=>QC2 F elem cells n
   |none=>none)
  |_=>none)
 | .load t x=>(match QFG P t (ρ x) F with
  |some v=>some (v,F)
  |none=>none)
 | .store t x v=>(match QEx P B t (ρ x) (ρ v) F with
  |some F1=>some (undef,F1)
  |none=>none)
 | .makeMap _ none=>if big F.n then some (.map (some F.n),F.push (.map #[] 0)) else none
 | .makeSlice t l k=>(match P.underlying t,ρ l,ρ k with
  |some (.slice e),.int _ a,.int _ b=>if a=b∧0≤a then(match QEi P e a.toNat with
   |some cells=>QC2 F e cells a.toNat
   |none=>none) else none
  |_,_,_=>none)
 | .slice t x (some lo) none none=>(match QFi P t (ρ x) (ρ lo) F with
  |some v=>some (v,F)
  |none=>none)
 | .field t x f=>(match (Instr.field t (ρ x) f).run P default with
  | .ok v _=>some (v,F)
  | .halt _ _=>none)
 | .lookup t x k ok=>(match QDX P t (ρ x) (ρ k) ok F with
  |some v=>some (v,F)
  |none=>none)
 | .mapUpdate t m k x=>(match QCC P B t (ρ m) (ρ k) (ρ x) F with
  |some F1=>some (undef,F1)
  |none=>none)
 | .insert t m k x=>(match QCC P B t (ρ m) (ρ k) (ρ x) F with
  |some F1=>some (undef,F1)
  |none=>none)
 | .call k=>(match k.callee with
  | .builtin .append=>(match k.args.toList,k.argTypes.toList with
   | [x,y], [t,t2]=>QHw P B t t2 (ρ x) (ρ y) F
   |_,_=>none)
  |_=>none)
 |_=>none
theorem QOG {F F1:Fw}{e:TypeId}{cells:Array Value}{v:Value}(h:QQr F e cells=some (v,F1)):v= .pointer (some ⟨F.toW.heap.size,0,none⟩)∧F1.toW.heap=F.toW.heap.push (.cells cells e):=by
 unfold QQr at h
 split at h
 ·
  rename_i hb;injection h with h
  injection h with h1 h2
  subst h1 h2;exact⟨by rw[Fw.size],F.push_heap _ hb⟩
 ·
  cases h
theorem QFj {F F1:Fw}{e:TypeId}{cells:Array Value}{v:Value}{n:Nat}(h:QC2 F e cells n=some (v,F1)):v= .slice (some ⟨F.toW.heap.size,0,none⟩) n n∧F1.toW.heap=F.toW.heap.push (.cells cells e):=by
 unfold QC2 at h
 split at h
 ·
  rename_i hb;injection h with h
  injection h with h1 h2
  subst h1 h2;exact⟨by rw[Fw.size],F.push_heap _ hb⟩
 ·
  cases h
theorem QRX {ρ:Operand→Value}{op:Op}{F F1:Fw}{v:Value}(h:QSJ P B ρ op F=some (v,F1)):∃c1,QTh P B ρ op F.toW=some (v,c1)∧c1.heap=F1.toW.heap:=by
 unfold QSJ at h;unfold QTh
 split at h
 ·
  rename_i t
  split at h
  ·
   rename_i z hz;obtain⟨hzf,hzr⟩:=QDy hz;obtain⟨rfl,h2⟩:=QOG h;refine⟨{F.toW with heap:=F.toW.heap.push (.cells z.cells t)},?_,h2.symm⟩;dsimp only;rw[if_pos hzf];unfold Instr.alloc;simp only[Sem.run_bind,hzr,Result.andThen_ok];rfl
  ·
   cases h
 ·
  rename_i t x;obtain⟨rfl,h2⟩:=QOG h;exact⟨{F.toW with heap:=F.toW.heap.push (.cells (ρ x).cells t)},rfl,h2.symm⟩
 ·
  rename_i t ps
  split at h
  ·
   rename_i hzf
   split at h
   ·
    rename_i v0 c0 hr;injection h with h
    injection h with h1 h2
    subst h1 h2;refine⟨F.toW,?_,rfl⟩;dsimp only;rw[if_pos hzf,Quiet.run (.build t _) hr F.toW];rfl
   ·
    cases h
  ·
   cases h
 ·
  rename_i t n ps
  split at h
  ·
   rename_i elem hu
   split at h
   ·
    rename_i cells hc;obtain⟨rfl,h2⟩:=QFj h;obtain⟨h3,h4⟩:=QGw hu hc F.toW;refine⟨{F.toW with heap:=F.toW.heap.push (.cells cells elem)},?_,h2.symm⟩;dsimp only;rw[if_pos h4,h3];rfl
   ·
    cases h
  ·
   cases h
 ·
  rename_i t x
  split at h
  ·
   rename_i u hu;injection h with h
   injection h with h1 h2
   subst h1 h2;exact⟨F.toW,QPn hu,rfl⟩
  ·
   cases h
 ·
  rename_i t x y
  split at h
  ·
   rename_i F2 hs;injection h with h
   injection h with h1 h2
   subst h1 h2;obtain⟨a,c1,ha,hB,hr,hh⟩:=QPB hs;refine⟨c1,?_,hh⟩;dsimp only;rw[ha]at hr ⊢;dsimp only;rw[if_pos hB,hr];rfl
  ·
   cases h
 ·
  rename_i t
  split at h
  ·
   rename_i hb;injection h with h
   injection h with h1 h2
   subst h1 h2;refine⟨{F.toW with heap:=F.toW.heap.push (.map #[] 0)},?_,(F.push_heap _ hb).symm⟩;dsimp only;rw[show(Instr.makeMap t none).run P F.toW=Result.ok (.map (some F.toW.heap.size)) {F.toW with heap:=F.toW.heap.push (.map #[] 0)} from rfl,Fw.size];rfl
  ·
   cases h
 ·
  rename_i t l k
  split at h
  ·
   rename_i e kl a kk b hu hl hk
   split at h
   ·
    rename_i hc;obtain⟨rfl,h0⟩:=hc
    split at h
    ·
     rename_i cells hcells;obtain⟨rfl,h2⟩:=QFj h;obtain⟨h3,h4⟩:=QIT (k:=kl) (k':=kk) hu hcells F.toW;refine⟨{F.toW with heap:=F.toW.heap.push (.cells cells e)},?_,h2.symm⟩;dsimp only;rw[hl,hk,if_pos ⟨h4,rfl,rfl⟩];rw[Int.toNat_of_nonneg h0]at h3;rw[h3];rfl
    ·
     cases h
   ·
    cases h
  ·
   cases h
 ·
  rename_i t x lo
  split at h
  ·
   rename_i u hu;injection h with h
   injection h with h1 h2
   subst h1 h2;exact⟨F.toW,by dsimp only;rw[QKA hu];rfl,rfl⟩
  ·
   cases h
 ·
  rename_i t x f
  split at h
  ·
   rename_i v0 c0 hr;injection h with h
   injection h with h1 h2
   subst h1 h2;refine⟨F.toW,?_,rfl⟩;dsimp only;rw[Quiet.run (.field t _ f) hr F.toW];rfl
  ·
   cases h
 ·
  rename_i t x k ok
  split at h
  ·
   rename_i u hu;injection h with h
   injection h with h1 h2
   subst h1 h2;exact⟨F.toW,by dsimp only;rw[QHW hu];rfl,rfl⟩
  ·
   cases h
 ·
  rename_i t m k x
  split at h
  ·
   rename_i F2 hs;injection h with h
   injection h with h1 h2
   subst h1 h2;obtain⟨c1,hc,hh⟩:=QHo hs;exact⟨c1,by dsimp only;rw[hc];rfl,hh⟩
  ·
   cases h
 ·
  rename_i t m k x
  split at h
  ·
   rename_i F2 hs;injection h with h
   injection h with h1 h2
   subst h1 h2;obtain⟨c1,hc,hh⟩:=QHo hs;exact⟨c1,by dsimp only;rw[hc];rfl,hh⟩
  ·
   cases h
 ·
  rename_i k;dsimp only
  split at h
  ·
   rename_i hk;simp only[hk]
   split at h
   ·
    rename_i x y t t2 h1 h2;simp only[h1,h2];exact QLz h
   ·
    cases h
  ·
   cases h
 ·
  cases h
theorem QOC {F F1:Fw}(h:Sim P B G w0 L F.toW w){ρ ρ':Operand→Value}{o:Oper}{v:Value}(hρ:∀x∈o.op.operands.toList,VR P L (ρ x) (ρ' x))(he:QSJ P B ρ o.op F=some (v,F1)):
  Done P B G w0 L w ρ' o v F1.toW:=by
 obtain⟨c1,hc,hh⟩:=QRX he;obtain⟨M,w1,nx,v',h1,h2,h3,h4,h5⟩:=QOB h hρ hc;exact⟨M,w1,nx,v',h1,h2,h3,h4.heap hh.symm,h5⟩
def okV(F:Fw):Option Value→Option (Value × Fw)
 |some v=>some (v,F)
 |none=>none
def okU:Option Fw→Option (Value × Fw)
 |some F=>some (undef,F)
 |none=>none
def QOU(c a b:Value):Option Value:=match c with
 | .bool b'=>some (if b' then a else b)
 |_=>none
def QCv(x:Value):Option Value:=match x with
 | .pointer (some a)=>some (.pointer (some a))
 | .func (.func f) xs ys=>some (.func (.func f) xs ys)
 |_=>none
def QCQ(P:Program)(op:BinOp)(t:TypeId)(x y:Value)(yo:Operand):Option Value:=match QQS P op t x y with
 |some v=>some v
 |none=>QFX P op t x y yo
def unC(u:UnOp)(x:Value):Option Value:=match u,x with
 | .not,.bool b=>some (.bool (!b))
 |_,_=>none
def QEj(P:Program)(t:TypeId)(x:Value):Option Value:=match P.underlying t with
 |some (.interface _)=>none
 |some _=>some (.iface t x)
 |none=>none
def QEd(x:Value)(i:Nat):Option Value:=match x with
 | .tuple vs=>vs[i]?
 |_=>none
def QHE(P:Program)(x:Value)(t:TypeId)(ok:Bool):Option Value:=match ok with
 |true=>QEC P x t
 |false=>none
def QNB(P:Program)(t:TypeId)(F:Fw):Option (Value × Fw):=match QKJ P t with
 |some z=>QQr F t z.cells
 |none=>none
def QI9(P:Program)(ρ:Operand→Value)(t:TypeId)(ps:Array (Nat × Operand))(F:Fw):Option (Value × Fw):=
 if zf P t=true then(match (Instr.build t (ps.map fun(i,x)=>(i,ρ x))).run P default with
  | .ok v _=>some (v,F)
  | .halt _ _=>none) else none
def QC5(P:Program)(ρ:Operand→Value)(t:TypeId)(n:Nat)(ps:Array (Nat × Operand))(F:Fw):Option (Value × Fw):=match P.underlying t with
  |some (.slice elem)=>(match QH2 P elem n (ps.map fun(i,x)=>(i,ρ x)).toList with
   |some cells=>QC2 F elem cells n
   |none=>none)
  |_=>none
def QPs(r:Option Operand)(F:Fw):Option (Value × Fw):=match r with
 |none=>if big F.n then some (.map (some F.n),F.push (.map #[] 0)) else none
 |some _=>none
def QMJ(P:Program)(t:TypeId)(l k:Value)(F:Fw):Option (Value × Fw):=match P.underlying t,l,k with
  |some (.slice e),.int _ a,.int _ b=>if a=b∧0≤a then(match QEi P e a.toNat with
   |some cells=>QC2 F e cells a.toNat
   |none=>none) else none
  |_,_,_=>none
def QDg(P:Program)(ρ:Operand→Value)(t:TypeId)(x:Operand)(lo hi mx:Option Operand)(F:Fw):Option (Value × Fw):=match lo,hi,mx with
 |some lo,none,none=>okV F (QFi P t (ρ x) (ρ lo) F)
 |_,_,_=>none
def QQg(P:Program)(t:TypeId)(x:Value)(f:Nat)(F:Fw):Option (Value × Fw):=match (Instr.field t x f).run P default with
  | .ok v _=>some (v,F)
  | .halt _ _=>none
def QCa(P:Program)(B:Nat)(ρ:Operand→Value)(k:Call)(F:Fw):Option (Value × Fw):=match k.callee with
  | .builtin .append=>(match k.args.toList,k.argTypes.toList with
   | [x,y], [t,t2]=>QHw P B t t2 (ρ x) (ρ y) F
   |_,_=>none)
  | .builtin .len=>okV F (QCb P ρ k)
  | .builtin .max=>okV F (QCb P ρ k)
  |_=>none
def doF(P:Program)(B:Nat)(ρ:Operand→Value)(op:Op)(F:Fw):Option (Value × Fw):=
 match op with
 | .move x=>some (ρ x,F)
 | .assign x=>some (ρ x,F)
 | .pick x y z=>okV F (QOU (ρ x) (ρ y) (ρ z))
 | .nilCheck x=>okV F (QCv (ρ x))
 | .binOp op t x y _=>okV F (QCQ P op t (ρ x) (ρ y) y)
 | .typeAssert x _ t ok=>okV F (QHE P (ρ x) t ok)
 | .unOp u _ x=>okV F (unC u (ρ x))
 | .makeInterface t x=>okV F (QEj P t (ρ x))
 | .makeFunc fn xs ys=>some (.func fn (xs.map ρ) (ys.map ρ),F)
 | .fieldAddr t x f=>okV F (QAo P t (ρ x) f)
 | .indexAddr t x i=>okV F (QAj P t (ρ x) (ρ i))
 | .extract x i=>okV F (QEd (ρ x) i)
 | .alloc t=>QNB P t F
 | .box t x=>QQr F t (ρ x).cells
 | .build t ps=>QI9 P ρ t ps F
 | .buildSlice t n ps=>QC5 P ρ t n ps F
 | .load t x=>okV F (QFG P t (ρ x) F)
 | .store t x v=>okU (QEx P B t (ρ x) (ρ v) F)
 | .makeMap _ r=>QPs r F
 | .makeSlice t l k=>QMJ P t (ρ l) (ρ k) F
 | .slice t x lo hi mx=>QDg P ρ t x lo hi mx F
 | .field t x f=>QQg P t (ρ x) f F
 | .lookup t x k ok=>okV F (QDX P t (ρ x) (ρ k) ok F)
 | .mapUpdate t m k x=>okU (QCC P B t (ρ m) (ρ k) (ρ x) F)
 | .insert t m k x=>okU (QCC P B t (ρ m) (ρ k) (ρ x) F)
 | .call k=>QCa P B ρ k F
 |_=>none
def QGZ(P:Program)(ρ:Operand→Value)(op:Op):Option Value:=
 match op with
 | .move x=>some (ρ x)
 | .assign x=>some (ρ x)
 | .pick x y z=>QOU (ρ x) (ρ y) (ρ z)
 | .nilCheck x=>QCv (ρ x)
 | .binOp op t x y _=>QCQ P op t (ρ x) (ρ y) y
 | .typeAssert x _ t ok=>QHE P (ρ x) t ok
 | .unOp u _ x=>unC u (ρ x)
 | .makeInterface t x=>QEj P t (ρ x)
 | .makeFunc fn xs ys=>some (.func fn (xs.map ρ) (ys.map ρ))
 | .fieldAddr t x f=>QAo P t (ρ x) f
 | .indexAddr t x i=>QAj P t (ρ x) (ρ i)
 | .extract x i=>QEd (ρ x) i
 | .call k=>QCb P ρ k
 |_=>none
theorem QLn(P:Program)(ρ:Operand→Value)(op:Op):QGZ P ρ op=QJo P ρ op:=by
 cases op with
 |unOp u t x=>
  cases u with
  |not=>
   show unC .not (ρ x)=(match ρ x with| .bool b=>some (.bool (!b))|_=>none)
   cases ρ x <;> rfl
  |_=>cases h:ρ x <;> simp[QGZ,QJo,unC,h]
 |typeAssert x t a ok=>cases ok <;> rfl
 |_=>rfl
theorem QQY(P:Program)(B:Nat)(ρ:Operand→Value)(op:Op)(F:Fw):doF P B ρ op F=(match QJo P ρ op with
  |some v=>some (v,F)
  |none=>QSJ P B ρ op F):=by
 cases op with
 |unOp u t x=>
  cases u with
  |not=>
   show okV F (unC .not (ρ x))=(match (match ρ x with| .bool b=>some (.bool (!b))|_=>none)with|some v=>some (v,F)|none=>none)
   cases ρ x <;> rfl
  |_=>cases h:ρ x <;> simp[doF,QJo,QSJ,unC,okV,h]
 |typeAssert x t a ok=>
  cases ok
  ·
   rfl
  ·
   show okV F (QEC P (ρ x) a)=(match QEC P (ρ x) a with|some v=>some (v,F)|none=>none)
   cases QEC P (ρ x) a <;> rfl
 |pick x y z=>
  show okV F (QOU (ρ x) (ρ y) (ρ z))=(match (match ρ x with| .bool b=>some (if b then ρ y else ρ z)|_=>none)with|some v=>some (v,F)|none=>none)
  cases ρ x <;> rfl
 |nilCheck x=>
  show okV F (QCv (ρ x))=(match (match ρ x with| .pointer (some a)=>some (.pointer (some a))| .func (.func f) xs ys=>some (.func (.func f) xs ys)|_=>none)with|some v=>some (v,F)|none=>none);generalize ρ x=v;unfold QCv
  split <;> rfl
 |binOp o t x y yt=>
  show okV F (QCQ P o t (ρ x) (ρ y) y)=(match (match QQS P o t (ρ x) (ρ y)with|some v=>some v|none=>QFX P o t (ρ x) (ρ y) y)with|some v=>some (v,F)|none=>none);unfold QCQ;generalize (match QQS P o t (ρ x) (ρ y)with|some v=>some v|none=>QFX P o t (ρ x) (ρ y) y)=r
  cases r <;> rfl
 |makeInterface t x=>
  show okV F (QEj P t (ρ x))=(match QEj P t (ρ x)with|some v=>some (v,F)|none=>none)
  cases QEj P t (ρ x) <;> rfl
 |fieldAddr t x f=>
  show okV F (QAo P t (ρ x) f)=(match QAo P t (ρ x) f with|some v=>some (v,F)|none=>none)
  cases QAo P t (ρ x) f <;> rfl
 |indexAddr t x i=>
  show okV F (QAj P t (ρ x) (ρ i))=(match QAj P t (ρ x) (ρ i)with|some v=>some (v,F)|none=>none)
  cases QAj P t (ρ x) (ρ i) <;> rfl
 |extract x i=>
  show okV F (QEd (ρ x) i)=(match QEd (ρ x) i with|some v=>some (v,F)|none=>none)
  cases QEd (ρ x) i <;> rfl
 |load t x=>
  show okV F (QFG P t (ρ x) F)=(match QFG P t (ρ x) F with|some v=>some (v,F)|none=>none)
  cases QFG P t (ρ x) F <;> rfl
 |store t x v=>
  show okU (QEx P B t (ρ x) (ρ v) F)=(match QEx P B t (ρ x) (ρ v) F with|some F1=>some (undef,F1)|none=>none)
  cases QEx P B t (ρ x) (ρ v) F <;> rfl
 |lookup t x k ok=>
  show okV F (QDX P t (ρ x) (ρ k) ok F)=(match QDX P t (ρ x) (ρ k) ok F with|some v=>some (v,F)|none=>none)
  cases QDX P t (ρ x) (ρ k) ok F <;> rfl
 |mapUpdate t m k x=>
  show okU (QCC P B t (ρ m) (ρ k) (ρ x) F)=(match QCC P B t (ρ m) (ρ k) (ρ x) F with|some F1=>some (undef,F1)|none=>none)
  cases QCC P B t (ρ m) (ρ k) (ρ x) F <;> rfl
 |insert t m k x=>
  show okU (QCC P B t (ρ m) (ρ k) (ρ x) F)=(match QCC P B t (ρ m) (ρ k) (ρ x) F with|some F1=>some (undef,F1)|none=>none)
  cases QCC P B t (ρ m) (ρ k) (ρ x) F <;> rfl
 |makeMap t r=>cases r <;> rfl
 |slice t x lo hi mx=>
  cases lo with
  |none=>rfl
  |some lo=>
   cases hi with
   |some _=>rfl
   |none=>
    cases mx with
    |some _=>rfl
    |none=>
     show okV F (QFi P t (ρ x) (ρ lo) F)=(match QFi P t (ρ x) (ρ lo) F with|some v=>some (v,F)|none=>none)
     cases QFi P t (ρ x) (ρ lo) F <;> rfl
 |call k=>
  obtain⟨callee,args,argTypes⟩:=k
  cases callee with
  |builtin b=>
   cases b with
   |len=>
    show okV F (QCb P ρ ⟨.builtin .len,args,argTypes⟩)=(match QCb P ρ ⟨.builtin .len,args,argTypes⟩ with|some v=>some (v,F)|none=>none)
    cases QCb P ρ ⟨.builtin .len,args,argTypes⟩ <;> rfl
   |max=>
    show okV F (QCb P ρ ⟨.builtin .max,args,argTypes⟩)=(match QCb P ρ ⟨.builtin .max,args,argTypes⟩ with|some v=>some (v,F)|none=>none)
    cases QCb P ρ ⟨.builtin .max,args,argTypes⟩ <;> rfl
   |_=>rfl
  |_=>rfl
 |_=>rfl
def eqA:Option Addr→Option Addr→Bool
 |none,none=>true
 |some ⟨b,o,none⟩,some ⟨c,q,none⟩=>b==c&&o==q
 |_,_=>false
def QTx:Fn→Fn→Bool
 | .func f,.func g=>f==g
 |_,_=>false
def QLN:Nat→Value→Value→Bool
 |0,_,_=>false
 |d+1,x,y=>match x,y with
  | .bool a,.bool b=>a==b
  | .int k a,.int k' b=>decide (k=k')&&a==b
  | .string a,.string b=>a.data.toList==b.data.toList
  | .pointer a,.pointer b=>eqA a b
  | .slice a n c,.slice b m e=>eqA a b&&n==m&&c==e
  | .map a,.map b=>a==b
  | .func f xs ys,.func g us vs=>QTx f g&&eqL (QLN d) xs.toList us.toList&&eqL (QLN d) ys.toList vs.toList
  | .nilFunc,.nilFunc=>true
  | .nilIface,.nilIface=>true
  | .iface t v,.iface u w=>t==u&&QLN d v w
  | .agg xs,.agg us=>eqL (QLN d) xs.toList us.toList
  | .tuple xs,.tuple us=>eqL (QLN d) xs.toList us.toList
  |_,_=>false
inductive Out where
 |normal
 |exit (id:Nat)
 |ret
 |pan (ch:List PanicEntry)
inductive Res where
 |ret (v:Value)
 |pan (ch:List PanicEntry)
structure Fa where
 tmps:List Value
 defers:List Deferred
def Fa.toA(a:Fa):Act:=⟨⟨a.tmps⟩,a.defers⟩
def Fa.eval(a:Fa):Operand→Value
 | .tmp t=>getL a.tmps t
 | .const v=>v
 | .global g=> .pointer (some ⟨g,0,none⟩)
 | .func f=> .func (.func f) #[] #[]
def Fa.put(a:Fa)(dst:Option Tmp)(v:Value):Fa:=
 match dst with
 |some d=>⟨QDN a.tmps d v,a.defers⟩
 |none=>a
inductive QGt where
 |next (a:Fa) (F:Fw)
 |pan (ch:List PanicEntry) (a:Fa) (F:Fw)
abbrev QBj:=FuncId→List Value→Fw→Option (Res × Fw)
inductive QM6 where
 |done
 |pure (j:Nat) (p:QM6)
 |act (j:Nat) (p:QM6)
 |alt (p q:QM6)
inductive QAZ where
 |still
 |tail (n:Nat)
 |tree (p:QM6)
 |float (l:List Nat)
def QAb(ops:Array Oper)(o:Oper)(a:Fa):Bool:=match o.guard with
 |none=>true
 |some _=>Region.wanted o (yielded ops a.toA.tmps)
structure Did where
 out:Out
 a:Fa
 F:Fw
 dirty:Bool
 made:List (Nat × Nat × Nat)
def QOE(x y:List (Nat × Nat × Nat)):List Nat:=
 x.flatMap fun e=>match y.find? (fun z=>z.1==e.1)with
  |some z=>(List.range e.2.2).map (z.2.1+ ·)
  |none=> []
def QT3(B n0:Nat)(σl τl:List Nat)(F1 F2:Fw):Bool:=
 decide (n0≤F1.n)&&decide (B≤n0)&&decide (n0≤F2.n)&&
 (List.range (F1.n - n0)).all (fun r=>sg n0 τl (sg n0 σl (r+n0))==r+n0&&decide (n0≤sg n0 σl (r+n0))&&decide (sg n0 σl (r+n0)<F2.n))&&
 (List.range F1.n).all (fun r=>eqO (sg n0 σl) F1.n (F1.at r) (F2.at (sg n0 σl r)))
def QSd(σ:Nat→Nat)(m:Nat)(x y:List PanicEntry):Bool:=eqL (fun p q=>eqS σ m 9 p.v q.v&&p.recovered==q.recovered&&p.goexit==q.goexit) x y
def QT4(B n0:Nat)(x y:Did):Bool:=
 if x.dirty=false∧y.dirty=false then
  (match x.out,y.out with
  | .normal,.normal=>eqL (eqS id x.F.n 9) x.a.tmps y.a.tmps&&eqL (eqD id x.F.n) x.a.defers y.a.defers
  |_,_=>false)
 else
  let σl:=QOE x.made y.made
  let τl:=QOE y.made x.made
  QT3 B n0 σl τl x.F y.F&&
  (match x.out,y.out with
  | .normal,.normal=>eqL (eqS (sg n0 σl) x.F.n 9) x.a.tmps y.a.tmps&&eqL (eqD (sg n0 σl) x.F.n) x.a.defers y.a.defers
  | .pan ch,.pan dh=>QSd (sg n0 σl) x.F.n ch dh&&eqL (eqD (sg n0 σl) x.F.n) x.a.defers y.a.defers
  |_,_=>false)
def QNv:Op→Bool
 | .load .. | .lookup .. | .slice .. | .field .. | .build .. =>true
 |_=>false
def QIM:Op→Bool
 | .move _| .assign _| .pick .. | .nilCheck _| .binOp .. | .typeAssert .. | .unOp .. | .makeInterface .. | .makeFunc .. | .fieldAddr .. | .indexAddr .. | .extract .. =>true
 | .load .. | .lookup .. | .field .. | .build .. | .slice .. =>true
 | .call c=>(match c.callee with| .builtin .len=>true| .builtin .max=>true|_=>false)
 |_=>false
def QUT:Operand→Option Nat
 | .tmp t=>some t
 |_=>none
def QDh(ops:Array Oper)(o:Oper):List Nat:=o.op.operands.toList.filterMap QUT++(match o.guard with
 |some (j,_)=>(match (ops[j]?).bind (·.dst)with
  |some t=> [t]
  |none=> [])
 |none=> [])
def QAd(o:Oper)(j:Nat):Bool:=o.after.toList.any fun e=>Region.binds .any e&&e.on==j
def QP8(ops:Array Oper)(o:Oper):Bool:=match o.op,o.dst with
 | .assign _,some t=>ops.toList.any fun oi=>(QDh ops oi).contains t&& !(oi.after.toList.any fun e=>Region.binds .any e&&(match ops[e.on]? with|some x=>x.dst==some t|none=>false))
 |_,_=>false
def QMG(ops:Array Oper)(o:Oper):Bool:=if QIM o.op=true then !QP8 ops o else false
theorem QHS {ops:Array Oper}{o:Oper}(h:QMG ops o=true):QIM o.op=true:=by
 unfold QMG at h
 split at h
 ·
  assumption
 ·
  cases h
def QBD(ops:Array Oper):Bool:=(List.range ops.size).all fun j=>match ops[j]? with
 |some oj=>!QMG ops oj||(match oj.dst with
  |some t=>(List.range ops.size).all fun i=>match ops[i]? with
   |some oi=>(i==j||oi.dst !=some t)&&(!(QDh ops oi).contains t||QAd oi j)
   |none=>true
  |none=>false)
 |none=>true
section
variable (P : Program) (B : Nat) (ent : FuncId → Bool) (call : QBj)
def QDG(o:Oper)(k:Call)(a:Fa)(F:Fw):Option QGt:=
 match k.callee with
 | .value f=>(match a.eval f with
  | .func (.func g) first cap=>if ent g=true then
    (match call g (first.toList++(k.args.toList.map a.eval++cap.toList)) F with
    |some (.ret v,F1)=>some (.next (a.put o.dst v) F1)
    |some (.pan ch,F1)=>some (.pan ch a F1)
    |none=>none) else none
  |_=>none)
 |_=>none
def QEE(o:Oper)(k:Call)(a:Fa)(F:Fw):Option QGt:=
 match k.callee with
 | .value f=>(match a.eval f with
  | .func (.func g) first cap=>some (.next ((⟨a.tmps,{target:= .fn (.func g) cap,args:=⟨first.toList++k.args.toList.map a.eval⟩}::a.defers⟩:Fa).put o.dst undef) F)
  |_=>none)
 |_=>none
def QFI(x:Value)(a:Fa)(F:Fw):Option QGt:=
 match x with
 | .iface t v=>some (.pan [{v:= .iface t v,recovered:=false}] a F)
 |_=>none
def QFe(o:Oper)(op:Op)(a:Fa)(F:Fw):Option QGt:=
 match op with
 | .call k=>QDG ent call o k a F
 | .defer k=>QEE o k a F
 | .panic x=>QFI (a.eval x) a F
 |_=>none
def QBd(o:Oper)(a:Fa)(F:Fw):Option QGt:=
 match doF P B a.eval o.op F with
 |some (v,F1)=>some (.next (a.put o.dst v) F1)
 |none=>QFe ent call o o.op a F
def QOM(ops:Array Oper):List Oper→Fa→Fw→Option (Out × Fa × Fw)
 | [],a,F=>some (.normal,a,F)
 |o::rest,a,F=>if QAb ops o a=true then
   (match QBd P B ent call o a F with
   |some (.next a1 F1)=>QOM ops rest a1 F1
   |some (.pan ch a1 F1)=>some (.pan ch,a1,F1)
   |none=>none)
  else QOM ops rest (a.put o.dst undef) F
def QCy(ops:Array Oper):QM6→Fa→Fw→Option Did
 | .done,a,F=>some ⟨.normal,a,F,false, []⟩
 | .pure j p,a,F=>(match ops[j]? with
  |some o=>if QAb ops o a=true then(match QGZ P a.eval o.op with
    |some v=>QCy ops p (a.put o.dst v) F
    |none=>none)
   else QCy ops p (a.put o.dst undef) F
  |none=>none)
 | .act j p,a,F=>(match ops[j]? with
  |some o=>if QAb ops o a=true then(match QBd P B ent call o a F with
    |some (.next a1 F1)=>(match QCy ops p a1 F1 with
     |some d=>some ⟨d.out,d.a,d.F,d.dirty||!QNv o.op,(j,F.n,F1.n - F.n)::d.made⟩
     |none=>none)
    |some (.pan ch a1 F1)=>some ⟨.pan ch,a1,F1,true, [(j,F.n,F1.n - F.n)]⟩
    |none=>none)
   else QCy ops p (a.put o.dst undef) F
  |none=>none)
 | .alt p q,a,F=>(match QCy ops p a F,QCy ops q a F with
  |some x,some y=>if QT4 B F.n x y=true then some x else none
  |_,_=>none)
def QP4(ρ:Operand→Value)(op:Op)(F:Fw):Option Value:=
 match op with
 | .load t x=>QFG P t (ρ x) F
 | .lookup t x k ok=>QDX P t (ρ x) (ρ k) ok F
 | .slice t x (some lo) none none=>QFi P t (ρ x) (ρ lo) F
 |_=>none
def QD9(ops:Array Oper):List Oper→Fa→Fw→Option Fa
 | [],a,_=>some a
 |o::rest,a,F=>if QAb ops o a=true then
   (match QGZ P a.eval o.op with
   |some v=>QD9 ops rest (a.put o.dst v) F
   |none=>(match QP4 P a.eval o.op F with
    |some v=>QD9 ops rest (a.put o.dst v) F
    |none=>none))
  else QD9 ops rest (a.put o.dst undef) F
def QIl(ops:Array Oper)(a:Fa)(F:Fw)(j:Nat):Bool:=
 match ops[j]? with
 |some o=>(match o.dst with
  |some t=>if QAb ops o a=true then(match doF P B a.eval o.op F with
    |some (v,_)=>QLN 9 v (getL a.tmps t)
    |none=>false)
   else QLN 9 undef (getL a.tmps t)
  |none=>false)
 |none=>false
def QDH(ops:Array Oper):List Nat→List Nat→Fa→Fw→Option (Out × Fa × Fw)
 | [],_,a,F=>some (.normal,a,F)
 |j::rest,pend,a,F=>(match ops[j]? with
  |some o=>if QMG ops o=true then
    (if QAb ops o a=true then(match doF P B a.eval o.op F with
     |some (v,_)=>QDH ops rest (j::pend) (a.put o.dst v) F
     |none=>none)
    else QDH ops rest (j::pend) (a.put o.dst undef) F)
   else if QAb ops o a=true then(match QBd P B ent call o a F with
    |some (.next a1 F1)=>if(pend.filter fun k=>!QAd o k).all (QIl P B ops a1 F1)=true then QDH ops rest (pend.filter fun k=>!QAd o k) a1 F1 else none
    |some (.pan ch a1 F1)=>some (.pan ch,a1,F1)
    |none=>none)
   else if(pend.filter fun k=>!QAd o k).all (QIl P B ops (a.put o.dst undef) F)=true then QDH ops rest (pend.filter fun k=>!QAd o k) (a.put o.dst undef) F else none
  |none=>none)
def QAu(plans:Nat→Option QAZ):Nat→Code→Fa→Fw→Option (Out × Fa × Fw)
 |0,_,_,_=>none
 |n+1,code,a,F=>match code with
  | .skip| .label _=>some (.normal,a,F)
  | .region id ops draw=>if draw=true then(match plans id with
    |some (.tree p)=>(match QCy P B ent call ops p a F with
     |some d=>some (d.out,d.a,d.F)
     |none=>none)
    |some .still=>(match QD9 P ops ops.toList a F with
     |some a1=>some (.normal,a1,F)
     |none=>none)
    |some (.tail n)=>(match QD9 P ops (ops.toList.take n) a F with
     |some a1=>QOM P B ent call ops (ops.toList.drop n) a1 F
     |none=>none)
    |some (.float l)=>QDH P B ent call ops l [] a F
    |none=>none)
    else QOM P B ent call ops ops.toList a F
  | .seq x y=>(match QAu plans n x a F with
   |some (.normal,a1,F1)=>QAu plans n y a1 F1
   |r=>r)
  | .cond k x y=>(match a.eval k with
   | .bool b=>QAu plans n (if b then x else y) a F
   |_=>none)
  | .block id body=>(match QAu plans n body a F with
   |some (.exit i,a1,F1)=>if i=id then some (.normal,a1,F1) else some (.exit i,a1,F1)
   |r=>r)
  | .loop body=>(match QAu plans n body a F with
   |some (.normal,a1,F1)=>QAu plans n (.loop body) a1 F1
   |r=>r)
  | .scope body=>QAu plans n body a F
  | .exit id=>some (.exit id,a,F)
  | .ret=>some (.ret,a,F)
  |_=>none
def QHt(fn:Func)(args:List Value):Fa:=⟨args++List.replicate (fn.ntmps - args.length) undef, []⟩
def QMY(tmps:List Value)(F:Fw):List ResultVar→Option (List Value)
 | []=>some []
 | .tmp t::rest=>(match QMY tmps F rest with
  |some vs=>some (getL tmps t::vs)
  |none=>none)
 | .cell x t::rest=>(match QFG P t (getL tmps x) F,QMY tmps F rest with
  |some v,some vs=>some (v::vs)
  |_,_=>none)
def QOL:List Value→Value
 | [v]=>v
 |vs=> .tuple ⟨vs⟩
def QEm(plans:FuncId→Nat→Option QAZ)(fuel:Nat)(f:FuncId)(args:List Value)(F:Fw):Option Fw:=
 match P.funcs[f]? with
 |some fn=>(match fn.body with
  |some code=>(match QAu P B ent call (plans f) fuel code (QHt fn args) F with
   |some (.normal,a1,F1)=>if a1.defers.isEmpty=true∧fn.results.toList.isEmpty=true then some F1 else none
   |some (.ret,a1,F1)=>if a1.defers.isEmpty=true∧fn.results.toList.isEmpty=true then some F1 else none
   |_=>none)
  |none=>none)
 |none=>none
def QK6(code:Code):Option (Oper × Code):=
 match code with
 | .seq (.region _ ops false) rest=>(match ops.toList with
  | [o]=>(match o.op with
   | .call k=>(match k.callee,o.guard with
    | .builtin .recover,none=>some (o,rest)
    |_,_=>none)
   |_=>none)
  |_=>none)
 |_=>none
def QTl:Option (List PanicEntry)→Option (Value × Option (List PanicEntry))
 |none=>some (.nilIface,none)
 |some (e::older)=>if e.recovered=false∧e.goexit=false∧older.all (fun x=>!x.goexit)=true then some (e.v,none) else none
 |some []=>none
def QSK(plans:FuncId→Nat→Option QAZ)(fuel:Nat)(f:FuncId)(args:List Value)(m:Option (List PanicEntry))(F:Fw):Option (Fw × Option (List PanicEntry)):=
 match P.funcs[f]? with
 |some fn=>(match fn.body with
  |some code=>(match QK6 code,QTl m with
   |some (o,rest),some (v,m1)=>(match QAu P B ent call (plans f) fuel rest ((QHt fn args).put o.dst v) F with
    |some (.normal,a1,F1)=>if a1.defers.isEmpty=true∧fn.results.toList.isEmpty=true then some (F1,m1) else none
    |some (.ret,a1,F1)=>if a1.defers.isEmpty=true∧fn.results.toList.isEmpty=true then some (F1,m1) else none
    |_=>none)
   |_,_=>none)
  |none=>none)
 |none=>none
def QCE(plans:FuncId→Nat→Option QAZ)(fuel:Nat)(fn:Func)(tmps:List Value)(may:Bool):List Deferred→Option (List PanicEntry)→Fw→Option (Res × Fw)
 | [],none,F=>(match QMY P tmps F fn.results.toList with
  |some vs=>some (.ret (QOL vs),F)
  |none=>none)
 | [],some ch,F=>some (.pan ch,F)
 |d::ds,m,F=>(match d.target with
  | .fn (.func g) cap=>if ent g=true then(match QEm P B ent call plans fuel g (d.args.toList++cap.toList) F with
   |some F1=>QCE plans fuel fn tmps may ds m F1
   |none=>if may=true then(match QSK P B ent call plans fuel g (d.args.toList++cap.toList) m F with
    |some (F1,m1)=>QCE plans fuel fn tmps may ds m1 F1
    |none=>none) else none) else none
  |_=>none)
end
def QA9(plans:Nat→Option QAZ):Code→Bool
 | .region id _ draw=>!draw||(match plans id with|some (.tree _)|some (.float _)=>false|_=>true)
 | .seq x y=>QA9 plans x&&QA9 plans y
 | .cond _ x y=>QA9 plans x&&QA9 plans y
 | .block _ x| .loop x| .scope x=>QA9 plans x
 |_=>true
def QMy:List PanicEntry→Bool
 |e::_=>!e.recovered
 | []=>true
def QJT:QM6→List Nat
 | .act j _=> [j]
 | .alt p q=>QJT p++QJT q
 |_=> []
def QSS:QM6→Bool
 | .act _ _=>true
 | .alt p q=>QSS p&&QSS q
 |_=>false
def QD6(ops:Array Oper):QM6→Bool→Array Bool→Bool
 | .done,b,listed=>!b&&(Region.ready .any ops listed).isEmpty
 | .pure j p,b,listed=>!b&&(Region.ready .any ops listed).contains j&&Region.free .any ops listed j&&QD6 ops p false (listed.setIfInBounds j true)
 | .act j p,b,listed=>(b||((Region.ready .any ops listed).contains j&&(Region.ready .any ops listed).all (· ==j)))&&QD6 ops p false (listed.setIfInBounds j true)
 | .alt p q,b,listed=>(b||(!(Region.ready .any ops listed).isEmpty&&(Region.ready .any ops listed).all ((QJT p++QJT q).contains ·)))&&QSS p&&QSS q&&QD6 ops p true listed&&QD6 ops q true listed
def QK5:QM6→Nat
 | .done=>0
 | .pure _ p| .act _ p=>QK5 p+1
 | .alt p q=>max (QK5 p) (QK5 q)
def QFQ(ops:Array Oper):List Nat→Array Bool→Bool
 | [],listed=>(Region.ready .any ops listed).isEmpty
 |j::rest,listed=>(match ops[j]? with
  |some o=>(Region.ready .any ops listed).contains j&&(QMG ops o||(Region.ready .any ops listed).all (· ==j))&&QFQ ops rest (listed.setIfInBounds j true)
  |none=>false)
def QBo(G:Nat)(plans:Nat→Option QAZ):Code→Bool
 | .region id ops draw=>ops.toList.all (fun o=>o.op.operands.toList.all (okX G))&&(!draw||(match plans id with
  |some (.tree p)=>Region.noSelect ops&&QD6 ops p false (Array.replicate ops.size false)&&decide (QK5 p≤ops.size)
  |some .still=>Region.lexB .any ops
  |some (.tail n)=>Region.lexTailB .any ops n
  |some (.float l)=>Region.noSelect ops&&QBD ops&&QFQ ops l (Array.replicate ops.size false)&&decide (l.length≤ops.size)
  |none=>true))
 | .seq x y=>QBo G plans x&&QBo G plans y
 | .cond k x y=>okX G k&&QBo G plans x&&QBo G plans y
 | .block _ x| .loop x| .scope x=>QBo G plans x
 |_=>true
section
variable {P : Program} {B G : Nat} {w0 : World} {L : Lie} {w : World} {ent : FuncId → Bool} {call : QBj}
def ChR(P:Program)(L:Lie):List PanicEntry→List PanicEntry→Prop
 | [], []=>True
 |p::ps,q::qs=>(VR P L p.v q.v∧p.recovered=q.recovered∧p.goexit=q.goexit)∧ChR P L ps qs
 |_,_=>False
def DR(P:Program)(L:Lie)(d d':Deferred):Prop:=(∃fn cap cap',d.target= .fn fn cap∧d'.target= .fn fn cap'∧AR P L cap cap')∧AR P L d.args d'.args
def DLR(P:Program)(L:Lie):List Deferred→List Deferred→Prop
 | [], []=>True
 |d::ds,e::es=>DR P L d e∧DLR P L ds es
 |_,_=>False
def CR(P:Program)(L:Lie)(a:Fa)(a':Act):Prop:=AR P L ⟨a.tmps⟩ a'.tmps∧DLR P L a.defers a'.defers
theorem ChR.mono {M:Lie}(hl:L.le M):∀{x y:List PanicEntry},ChR P L x y→ChR P M x y
 | [], [],_=>trivial
 |_::_,_::_,h=>⟨⟨h.1.1.mono hl,h.1.2⟩,ChR.mono hl h.2⟩
 | [],_::_,h=>h.elim
 |_::_, [],h=>h.elim
theorem DR.mono {M:Lie}(hl:L.le M){x y:Deferred}(h:DR P L x y):DR P M x y:=by
 obtain⟨⟨fn,cap,cap',h1,h2,h3⟩,h4⟩:=h;exact⟨⟨fn,cap,cap',h1,h2,h3.mono hl⟩,h4.mono hl⟩
theorem DLR.mono {M:Lie}(hl:L.le M):∀{x y:List Deferred},DLR P L x y→DLR P M x y
 | [], [],_=>trivial
 |_::_,_::_,h=>⟨h.1.mono hl,DLR.mono hl h.2⟩
 | [],_::_,h=>h.elim
 |_::_, [],h=>h.elim
theorem CR.mono {M:Lie}(hl:L.le M){a:Fa}{a':Act}(h:CR P L a a'):CR P M a a':=⟨h.1.mono hl,h.2.mono hl⟩
theorem CR.put {a:Fa}{a':Act}(h:CR P L a a')(dst:Option Tmp){v v':Value}(hv:VR P L v v'):CR P L (a.put dst v) (a'.put dst v'):=by
 cases dst with
 |none=>exact h
 |some d=>
  refine⟨?_,h.2⟩
  have e:(⟨QDN a.tmps d v⟩:Array Value)=(⟨a.tmps⟩:Array Value).setIfInBounds d v:=by
   apply Array.ext'
   simp[QCB]
  show AR P L ⟨QDN a.tmps d v⟩ (a'.tmps.setIfInBounds d v');rw[e];exact h.1.set hv d
theorem CR.eval {a:Fa}{a':Act}{c:World}(h:CR P L a a')(hs:Sim P B G w0 L c w){x:Operand}(hx:okX G x=true):VR P L (a.eval x) (a'.eval x):=by
 cases x with
 |tmp t=>
  show VR P L (getL a.tmps t) (a'.tmps.getD t undef);rw[QA5];exact h.1.getD t
 |const v=>exact .of_flat hx
 |global g=>
  simp only[okX,decide_eq_true_eq]at hx;have:=VR.ptr (P:=P) (L:=L) g 0 (Nat.lt_of_lt_of_le hx hs.gle);rw[hs.glob g hx]at this;exact this
 |func f=>exact .func _ _ _ _ _ rfl rfl (fun i h=>absurd h (by simp)) (fun i h=>absurd h (by simp))
def QTX(P:Program)(L:Lie):Res→Ending→Prop
 | .ret v,.returned v'=>VR P L v v'
 | .pan ch,.panicked dh=>ChR P L ch dh
 |_,_=>False
def QCD(P:Program)(B G:Nat)(w0:World)(call:QBj):Prop:=
 ∀f args F r F1,call f args F=some (r,F1)→∀L w args',Sim P B G w0 L F.toW w→AR P L ⟨args⟩ args'→
  Calls P f args' w fun e w1=>∃M,L.le M∧Sim P B G w0 M F1.toW w1∧QTX P M r e
def QE3(P:Program)(ent:FuncId→Bool):Prop:=∀f,ent f=true→∀args w,(callFunc f args).run P w= .ok (.enter f args) w
def QSR(P:Program)(B G:Nat)(w0:World)(L:Lie)(a':Act)(K:Act→World→Prop)(Q:Exit→Act→World→Prop):QGt→Prop
 | .next a1 F1=>∀M a1' w1,L.le M→Sim P B G w0 M F1.toW w1→CR P M a1 a1'→K a1' w1
 | .pan ch a1 F1=>∀M ch' w1,L.le M→Sim P B G w0 M F1.toW w1→ChR P M ch ch'→CR P M a1 a'→Q (.panic ch') a' w1
theorem QKS(hE:QE3 P ent)(hC:QCD P B G w0 call){o:Oper}{k:Call}{a:Fa}{F:Fw}{sr:QGt}{a':Act}(ho:o.op= .call k)(hs:Sim P B G w0 L F.toW w)(hr:CR P L a a')
  (hx:∀x∈o.op.operands.toList,okX G x=true) (he:QDG ent call o k a F=some sr) {K:Act→World→Prop} {Q:Exit→Act→World→Prop} (hk:QSR P B G w0 L a' K Q sr):o.wp P a' w K Q:=by
 unfold QDG at he
 split at he
 ·
  rename_i f hf;have hxf:okX G f=true:=hx f (by rw[ho];simp[Op.operands,Call.operands,hf]);have hargs:∀x∈k.args.toList,okX G x=true:=fun x hxx=>hx x (by rw[ho];simp only[Op.operands,Call.operands,hf,Array.toList_append,List.mem_append];exact .inr hxx)
  have hv:=hr.eval hs hxf
  split at he
  ·
   rename_i g first cap hg
   rw[hg]at hv
   cases hq:a'.eval f <;> rw[hq]at hv <;> cases hv
   rename_i us vs h1 g1 h2 g2;have hfirst:AR P L first us:=⟨h1,g1⟩
   have hcap:AR P L cap vs:=⟨h2,g2⟩;have hmid:AR P L (k.args.map a.eval) (k.args.map a'.eval):=AR.map k.args fun x hxx=>hr.eval hs (hargs x hxx)
   have hall:=hfirst.append (hmid.append hcap)
   have hrun:(execOp a'.eval o).run P w=(callFunc g (us++(k.args.map a'.eval++vs))).run P w:=by
    unfold execOp;rw[ho];simp only[resolve,hf,hq,Deferred.ofValue,pure_bind,invoke,Array.append_assoc]
   split at he
   ·
    rename_i hent;unfold Oper.wp;rw[hrun,hE g hent];simp only[Oper.upon];have hlist:(⟨first.toList++(k.args.toList.map a.eval++cap.toList)⟩:Array Value)=first++(k.args.map a.eval++cap):=by apply Array.ext';simp
    split at he
    ·
     rename_i v F1 hc;injection he with he
     subst he;refine(hC _ _ _ _ _ hc L w _ hs (by rw[hlist];exact hall)).mono fun e w1 hR=>?_
     obtain⟨M,hle,hS,hv⟩:=hR
     cases e with
     |returned v'=>exact hk M _ w1 hle hS ((hr.mono hle).put o.dst hv)
     |panicked ch=>exact hv.elim
     |outgrown=>exact hv.elim
    ·
     rename_i ch F1 hc;injection he with he
     subst he;refine(hC _ _ _ _ _ hc L w _ hs (by rw[hlist];exact hall)).mono fun e w1 hR=>?_
     obtain⟨M,hle,hS,hv⟩:=hR
     cases e with
     |returned v'=>exact hv.elim
     |panicked ch'=>exact hk M ch' w1 hle hS hv (hr.mono hle)
     |outgrown=>exact hv.elim
    ·
     cases he
   ·
    cases he
  ·
   cases he
 ·
  cases he
theorem QBz(hE:QE3 P ent)(hC:QCD P B G w0 call){o:Oper}{a:Fa}{F:Fw}{sr:QGt}{a':Act}(hs:Sim P B G w0 L F.toW w)(hr:CR P L a a')
  (hx:∀x∈o.op.operands.toList,okX G x=true) (he:QBd P B ent call o a F=some sr) {K:Act→World→Prop} {Q:Exit→Act→World→Prop} (hk:QSR P B G w0 L a' K Q sr):o.wp P a' w K Q:=by
 have hρ:∀x∈o.op.operands.toList,VR P L (a.eval x) (a'.eval x):=fun x hxx=>hr.eval hs (hx x hxx)
 unfold QBd at he;rw[QQY]at he
 cases hv:QJo P a.eval o.op with
 |some v=>
  rw[hv]at he;dsimp only at he;injection he with he
  subst he;obtain⟨v',h1,h2⟩:=QFK hρ hv;unfold Oper.wp;rw[h2 w];exact hk L _ w L.le_refl hs (hr.put o.dst h1)
 |none=>
  rw[hv]at he;dsimp only at he
  split at he
  ·
   rename_i v F1 hm;injection he with he
   subst he;obtain⟨M,w1,nx,v',h1,h2,h3,h4,h5⟩:=QOC hs hρ hm;unfold Oper.wp;rw[h1];rcases h2 with rfl|⟨rfl,rfl⟩
   ·
    exact hk M _ w1 h3 h4 ((hr.mono h3).put o.dst h5)
   ·
    exact hk M _ w1 h3 h4 ((hr.mono h3).put o.dst h5)
  ·
   unfold QFe at he
   split at he
   ·
    rename_i k ho;exact QKS hE hC ho hs hr hx he hk
   ·
    rename_i k ho;unfold QEE at he
    split at he
    ·
     rename_i f hf;have hxf:okX G f=true:=hx f (by rw[ho];simp[Op.operands,Call.operands,hf]);have hargs:∀x∈k.args.toList,okX G x=true:=fun x hxx=>hx x (by rw[ho];simp only[Op.operands,Call.operands,hf,Array.toList_append,List.mem_append];exact .inr hxx)
     have hv:=hr.eval hs hxf
     split at he
     ·
      rename_i g first cap hg
      injection he with he
      subst he;rw[hg]at hv
      cases hq:a'.eval f <;> rw[hq]at hv <;> cases hv
      rename_i us vs h1 g1 h2 g2;have hfirst:AR P L first us:=⟨h1,g1⟩
      have hcap:AR P L cap vs:=⟨h2,g2⟩;have hmid:AR P L (k.args.map a.eval) (k.args.map a'.eval):=AR.map k.args fun x hxx=>hr.eval hs (hargs x hxx)
      have hlist:(⟨first.toList++k.args.toList.map a.eval⟩:Array Value)=first++k.args.map a.eval:=by apply Array.ext';simp
      unfold Oper.wp
      have hrun:(execOp a'.eval o).run P w= .ok (.defer {target:= .fn (.func g) vs,args:=us++k.args.map a'.eval}) w:=by
       unfold execOp;rw[ho];simp only[resolve,hf,hq,Deferred.ofValue,pure_bind,Sem.run_pure]
      rw[hrun];simp only[Oper.upon];have hda:AR P L ⟨first.toList++k.args.toList.map a.eval⟩ (us++k.args.map a'.eval):=by rw[hlist];exact hfirst.append hmid
      have hcr:CR P L ⟨a.tmps,{target:= .fn (.func g) cap,args:=⟨first.toList++k.args.toList.map a.eval⟩}::a.defers⟩ {a' with defers:={target:= .fn (.func g) vs,args:=us++k.args.map a'.eval}::a'.defers}:=
       ⟨hr.1,(show DR P L _ _∧DLR P L _ _ from⟨⟨⟨_,_,_,rfl,rfl,hcap⟩,hda⟩,hr.2⟩)⟩
      exact hk L _ w L.le_refl hs (hcr.put o.dst .undef)
     ·
      cases he
    ·
     cases he
   ·
    rename_i x ho;have hv:=hρ x (by rw[ho];simp[Op.operands]);unfold QFI at he
    split at he
    ·
     rename_i t v hxv;injection he with he
     subst he;rw[hxv]at hv
     cases hq:a'.eval x <;> rw[hq]at hv <;> cases hv
     rename_i v' hvv;unfold Oper.wp
     have hrun:(execOp a'.eval o).run P w= .halt (.panic (.iface t v')) w:=by
      unfold execOp;rw[ho];simp only[hq,Instr.panic,Sem.run_bind];rfl
     rw[hrun];simp only[Oper.upon];exact hk L _ w L.le_refl hs ⟨⟨.iface t _ _ hvv,rfl,rfl⟩,trivial⟩ hr
    ·
     cases he
   ·
    cases he
end
section
variable {P : Program} {B G : Nat} {w0 : World} {L : Lie} {w : World} {ent : FuncId → Bool} {call : QBj}
def OutR(P:Program)(M:Lie)(full:Bool)(out:Out)(a:Fa):Exit→Act→Prop
 | .normal,a'=>(match out with| .normal=>CR P M a a'|_=>False)
 | .exit j,a'=>(match out with| .exit i=>j=i∧CR P M a a'|_=>False)
 | .ret,a'=>(match out with| .ret=>CR P M a a'|_=>False)
 | .panic dh,a'=>(match out with| .pan ch=>ChR P M ch dh∧DLR P M a.defers a'.defers∧(full=true→AR P M ⟨a.tmps⟩ a'.tmps)|_=>False)
 |_,_=>False
def OutQ(P:Program)(B G:Nat)(w0:World)(L:Lie)(full:Bool)(out:Out)(a:Fa)(F:Fw):Exit→Act→World→Prop:=
 fun e a' w1=>∃M,L.le M∧Sim P B G w0 M F.toW w1∧OutR P M full out a e a'
theorem OutQ.mono {M:Lie}(hl:L.le M){full:Bool}{out:Out}{a:Fa}{F:Fw}{e:Exit}{a':Act}{w1:World}(h:OutQ P B G w0 M full out a F e a' w1):OutQ P B G w0 L full out a F e a' w1:=by
 obtain⟨N,h1,h2,h3⟩:=h;exact⟨N,Lie.le_trans hl h1,h2,h3⟩
theorem OutQ.blind {out:Out}{a:Fa}{F:Fw}:QE4 (OutQ P B G w0 L false out a F):=by
 rintro ch a' w1 dst v ⟨M,h1,h2,h3⟩;refine⟨M,h1,h2,?_⟩
 cases out with
 |pan c=>
  obtain⟨g1,g2,_⟩:=h3;refine⟨g1,?_,fun h=>by cases h⟩
  cases dst <;> exact g2
 |_=>exact h3.elim
theorem QM1 {ops:Array Oper}{a:Fa}{a':Act}(h:CR P L a a')(j:Nat):yielded ops a.toA.tmps j=yielded ops a'.tmps j:=by
 unfold yielded
 cases hd:(ops[j]?).bind (·.dst)with
 |none=>rfl
 |some t=>
  simp only[Option.bind_some];show(match (⟨a.tmps⟩:Array Value)[t]? with|some (.bool b)=>some b|_=>none)=_
  by_cases ht:t<(⟨a.tmps⟩:Array Value).size
  ·
   have ht':t<a'.tmps.size:=by rw[←h.1.1];exact ht
   have hv:=h.1.2 t ht;rw[getElem?_of_getD ht,getElem?_of_getD ht'];generalize (⟨a.tmps⟩:Array Value).getD t undef=x at hv ⊢;generalize a'.tmps.getD t undef=y at hv ⊢
   cases hv <;> rfl
  ·
   have ht':¬t<a'.tmps.size:=by rw[←h.1.1];exact ht
   rw[Array.getElem?_eq_none (Nat.le_of_not_lt ht),Array.getElem?_eq_none (Nat.le_of_not_lt ht')]
theorem QCO {ops:Array Oper}{o:Oper}{a:Fa}{a':Act}(h:CR P L a a'):QAb ops o a=Region.wanted o (yielded ops a'.tmps):=by
 unfold QAb Region.wanted
 cases hg:o.guard with
 |none=>rfl
 |some g=>
  obtain⟨j,b⟩:=g;simp only[hg];rw[QM1 h j]
theorem opsF_spec(hE:QE3 P ent)(hC:QCD P B G w0 call){full:Bool}{ops:Array Oper}:∀(l:List Oper) (a:Fa) (F:Fw) (L:Lie) (w:World) (a':Act) (r:Out × Fa × Fw),
  (∀o∈l,∀x∈o.op.operands.toList,okX G x=true)→Sim P B G w0 L F.toW w→CR P L a a'→QOM P B ent call ops l a F=some r→wpList P ops (OutQ P B G w0 L full r.1 r.2.1 r.2.2) l a' w
 | [],a,F,L,w,a',r,_,hs,hr,he=>by
  simp only[QOM,Option.some.injEq]at he;subst he;exact⟨L,L.le_refl,hs,hr⟩
 |o::l,a,F,L,w,a',r,hx,hs,hr,he=>by
  unfold QOM at he;unfold wpList;rw[←QCO (ops:=ops) (o:=o) hr]
  split at he
  ·
   rename_i hw;rw[if_pos hw];left
   split at he
   ·
    rename_i a1 F1 hst;refine QBz hE hC hs hr (hx o List.mem_cons_self) hst fun M a1' w1 hle hS hR=>?_
    have:=opsF_spec hE hC (full:=full) l a1 F1 M w1 a1' r (fun o' ho=>hx o' (List.mem_cons_of_mem _ ho)) hS hR he;exact wpList_mono (fun e a2 w2 h=>OutQ.mono hle h) l a1' w1 this
   ·
    rename_i ch a1 F1 hst;injection he with he
    subst he;exact QBz hE hC hs hr (hx o List.mem_cons_self) hst fun M ch' w1 hle hS hch hd=>⟨M,hle,hS,hch,hd.2,fun _=>hd.1⟩
   ·
    cases he
  ·
   rename_i hw;rw[if_neg hw];exact opsF_spec hE hC l _ F L w _ r (fun o' ho=>hx o' (List.mem_cons_of_mem _ ho)) hs (hr.put o.dst .undef) he
where
 Oper_monoQ {o:Oper} {a:Act} {w:World} {K K':Act→World→Prop} {Q Q':Exit→Act→World→Prop} (hK:∀a w,K a w→K' a w) (hQ:∀e a w,Q e a w→Q' e a w) (h:o.wp P a w K Q):o.wp P a w K' Q':=by
  unfold Oper.wp at*;generalize (execOp a.eval o).run P w=r at*
  cases r with
  |ok n w'=>
   cases n <;> simp only[Oper.upon]at h ⊢ <;> first|exact h.elim|exact hK _ _ h|skip
   case enter f args=>
    refine h.mono fun e w'' he=>?_
    cases e with
    |returned u=>exact hK _ _ he
    |panicked ch=>exact hQ _ _ _ he
    |outgrown=>obtain⟨a0,w0,h0⟩:=he;exact⟨a0,w0,hQ _ _ _ h0⟩
   case row row args=>exact h.mono fun u w'' he=>hK _ _ he
  |halt x w'=>cases x <;> simp only[Oper.upon]at h ⊢ <;> first|exact h.elim|exact hQ _ _ _ h
 wpList_mono {ops:Array Oper} {Q Q':Exit→Act→World→Prop} (hQ:∀e a w,Q e a w→Q' e a w):∀(l:List Oper) (a:Act) (w:World),wpList P ops Q l a w→wpList P ops Q' l a w
  | [],_,_,h=>hQ _ _ _ h
  |o::l,a,w,h=>by
   unfold wpList at*
   split
   ·
    rename_i hw;rw[if_pos hw]at h;rcases h with h|⟨h1,a0,w0,h2⟩
    ·
     exact .inl (Oper_monoQ (wpList_mono hQ l) hQ h)
    ·
     exact .inr ⟨h1,a0,w0,hQ _ _ _ h2⟩
   ·
    rename_i hw;rw[if_neg hw]at h;exact wpList_mono hQ l _ _ h
theorem QHp {ops:Array Oper}{Q Q':Exit→Act→World→Prop}(hQ:∀e a w,Q e a w→Q' e a w){K K':Act→World→Prop}(hK:∀a w,K a w→K' a w){i:Nat}{a:Act}{w:World}
  (h:wpOp P ops Q i K a w):wpOp P ops Q' i K' a w:=by
 unfold Go.wpOp at*
 split
 ·
  rename_i ho;simp only[ho]at h;exact hK _ _ h
 ·
  rename_i o ho;simp only[ho]at h
  split
  ·
   rename_i hw;rw[if_pos hw]at h;rcases h with h|⟨h1,a0,w0,h2⟩
   ·
    exact .inl (opsF_spec.Oper_monoQ hK hQ h)
   ·
    exact .inr ⟨h1,a0,w0,hQ _ _ _ h2⟩
  ·
   rename_i hw;rw[if_neg hw]at h;exact hK _ _ h
theorem QCY {ops:Array Oper}{Q Q':Exit→Act→World→Prop}(hQ:∀e a w,Q e a w→Q' e a w):∀(n:Nat) (listed:Array Bool) (a:Act) (w:World),wpAny P .any ops Q n listed a w→wpAny P .any ops Q' n listed a w
 |0,_,_,_,h=>⟨h.1,hQ _ _ _ h.2⟩
 |n+1,_,_,_,h=>⟨fun h0=>hQ _ _ _ (h.1 h0),fun i hi=>QHp hQ (fun a w=>QCY hQ n _ a w) (h.2 i hi)⟩
theorem QNc {σ:Nat→Nat}{m:Nat}{x y z:Deferred}(h:eqD σ m x y=true)(hr:DR P L y z):DR P (L.pull σ m) x z:=by
 unfold eqD at h;rw[Bool.and_eq_true]at h;obtain⟨h1,h2⟩:=h;obtain⟨⟨fn,cap,cap',e1,e2,e3⟩,e4⟩:=hr
 split at h1
 ·
  rename_i f xs g us hx hy;simp only[Bool.and_eq_true,beq_iff_eq]at h1;rw[hy]at e1;injection e1 with e5 e6
  subst e5 e6;refine⟨⟨f,xs,cap',hx,by rw[h1.1];exact e2,QFW (QCR 9) h1.2 e3⟩,QFW (QCR 9) h2 e4⟩
 ·
  cases h1
theorem QDn {σ:Nat→Nat}{m:Nat}:∀(xs ys zs:List Deferred),eqL (eqD σ m) xs ys=true→DLR P L ys zs→DLR P (L.pull σ m) xs zs
 | [], [], [],_,_=>trivial
 | [], [],_::_,_,h=>h.elim
 | [],_::_,_,h,_=>by simp[eqL]at h
 |_::_, [],_,h,_=>by simp[eqL]at h
 |_::_,_::_, [],_,h=>h.elim
 |x::xs,y::ys,z::zs,h,hr=>by
  simp only[eqL,Bool.and_eq_true]at h;exact⟨QNc h.1 hr.1,QDn xs ys zs h.2 hr.2⟩
theorem QHM {σ:Nat→Nat}{m:Nat}:∀(xs ys zs:List PanicEntry),QSd σ m xs ys=true→ChR P L ys zs→ChR P (L.pull σ m) xs zs
 | [], [], [],_,_=>trivial
 | [], [],_::_,_,h=>h.elim
 | [],_::_,_,h,_=>by simp[QSd,eqL]at h
 |_::_, [],_,h,_=>by simp[QSd,eqL]at h
 |_::_,_::_, [],_,h=>h.elim
 |x::xs,y::ys,z::zs,h,hr=>by
  unfold QSd at h;simp only[eqL,Bool.and_eq_true,beq_iff_eq]at h;obtain⟨⟨⟨h1,h2⟩,h3⟩,h4⟩:=h;exact⟨⟨QCR 9 _ _ _ h1 hr.1.1,h2.trans hr.1.2.1,h3.trans hr.1.2.2⟩,QHM xs ys zs h4 hr.2⟩
theorem QNz {n0:Nat}{σl τl:List Nat}{F1 F2:Fw}(h:QT3 B n0 σl τl F1 F2=true):QTf B n0 σl τl F1.toW F2.toW=true:=by
 unfold QT3 at h;unfold QTf;simp only[Bool.and_eq_true,decide_eq_true_eq,List.all_eq_true,List.mem_range,beq_iff_eq,Fw.size]at h ⊢;obtain⟨⟨⟨⟨h1,h2⟩,h3⟩,h4⟩,h5⟩:=h;refine⟨⟨⟨h1,h2⟩,h4⟩,fun r hr=>?_⟩;have e1:F1.toW.heap[r]?=some (F1.at r):=by rw[Fw.heap_get,if_pos hr]
 have hlt:sg n0 σl r<F2.n:=by
  by_cases hn:r<n0
  ·
   rw[QJ9 hn];omega
  ·
   have:=(h4 (r - n0) (by omega)).2;rw[Nat.sub_add_cancel (by omega)]at this;exact this
 have e2:F2.toW.heap[sg n0 σl r]?=some (F2.at (sg n0 σl r)):=by rw[Fw.heap_get,if_pos hlt]
 rw[e1,e2];exact h5 r hr
theorem QBV {ops:Array Oper}:∀(p:QM6) (a:Fa) (F:Fw) (d:Did),QCy P B ent call ops p a F=some d→d.dirty=false→d.F=F
 | .done,a,F,d,h,_=>by simp only[QCy,Option.some.injEq]at h;rw[←h]
 | .pure j p,a,F,d,h,hd=>by
  unfold QCy at h
  split at h
  ·
   split at h
   ·
    split at h
    ·
     exact QBV p _ F d h hd
    ·
     cases h
   ·
    exact QBV p _ F d h hd
  ·
   cases h
 | .act j p,a,F,d,h,hd=>by
  unfold QCy at h
  split at h
  ·
   rename_i o ho
   split at h
   ·
    split at h
    ·
     rename_i a1 F1 hst
     split at h
     ·
      rename_i d1 hd1;injection h with h
      subst h;simp only[Bool.or_eq_false_iff,Bool.not_eq_false']at hd;have e1:=QBV p a1 F1 d1 hd1 hd.1;show d1.F=F;rw[e1];unfold QBd at hst;rw[QQY]at hst
      cases hpc:QJo P a.eval o.op with
      |some v=>
       rw[hpc]at hst;dsimp only at hst;injection hst with hst;injection hst with _ hst;exact hst.symm
      |none=>
       rw[hpc]at hst;dsimp only at hst
       split at hst
       ·
        rename_i v F2 hm;injection hst with hst
        injection hst with _ hst
        subst hst;have hl:=hd.2;unfold QSJ at hm
        split at hm <;> rename_i heq <;> first|(rw[show o.op=_ from heq]at hl;simp[QNv]at hl;done)|skip
        all_goals (try split at hm)
        all_goals (try split at hm)
        all_goals first|(injection hm with hm;injection hm with _ hm;exact hm.symm)|cases hm
       ·
        have hl:=hd.2;unfold QFe at hst
        split at hst <;> rename_i heq <;> first|(rw[show o.op=_ from heq]at hl;simp[QNv]at hl;done)|cases hst
     ·
      cases h
    ·
     injection h with h
     subst h
     cases hd
    ·
     cases h
   ·
    exact QBV p _ F d h hd
  ·
   cases h
 | .alt p q,a,F,d,h,hd=>by
  unfold QCy at h
  split at h
  ·
   rename_i x y hx hy
   split at h
   ·
    injection h with h
    subst h;exact QBV p a F x hx hd
   ·
    cases h
  ·
   cases h
theorem QMI {F:Fw}{x y:Did}(hl:Sim P B G w0 L F.toW w)(hx:x.dirty=false→x.F=F)(hy:y.dirty=false→y.F=F)(h:QT4 B F.n x y=true){e:Exit}{a':Act}{w1:World}
  (hq:OutQ P B G w0 L false y.out y.a y.F e a' w1):OutQ P B G w0 L false x.out x.a x.F e a' w1:=by
 obtain⟨M,hle,hS,hO⟩:=hq;have hLn:L.n=F.n:=by rw[hl.n,Fw.size]
 unfold QT4 at h
 split at h
 ·
  rename_i hc;have ex:=hx hc.1;have ey:=hy hc.2;rw[ey]at hS;rw[ex]at h ⊢;have hMn:M.n=F.n:=by rw[hS.n,Fw.size]
  refine⟨M,hle,hS,?_⟩
  split at h
  ·
   rename_i hxo hyo;rw[hyo]at hO;rw[hxo];rw[Bool.and_eq_true,←hMn]at h
   cases e with
   |normal=>
    obtain⟨g1,g2⟩:=hO;exact⟨QFW (M:=M.pull id M.n) (QCR 9) h.1 g1,QDn (σ:=id) (m:=M.n) _ _ _ h.2 g2⟩
   |_=>exact hO.elim
  ·
   cases h
 ·
  rw[Bool.and_eq_true]at h;obtain⟨h1,h2⟩:=h;obtain⟨g1,g2⟩:=QMH (QNz h1) hS hle hLn (by rw[←hLn];exact hl.gle);rw[Fw.size]at g1 g2;refine⟨_,g2,g1,?_⟩
  split at h2
  ·
   rename_i hxo hyo;rw[hyo]at hO;rw[hxo];rw[Bool.and_eq_true]at h2
   cases e with
   |normal=>
    obtain⟨k1,k2⟩:=hO;exact⟨QFW (QCR 9) h2.1 k1,QDn _ _ _ h2.2 k2⟩
   |_=>exact hO.elim
  ·
   rename_i ch dh hxo hyo;rw[hyo]at hO;rw[hxo];rw[Bool.and_eq_true]at h2
   cases e with
   |panic zh=>
    obtain⟨k1,k2,_⟩:=hO;exact⟨QHM _ _ _ h2.1 k1,QDn _ _ _ h2.2 k2,fun h=>by cases h⟩
   |_=>exact hO.elim
  ·
   cases h2
end
end Go.Proofs.YtjnclkakbopnjaaGreatDoor
