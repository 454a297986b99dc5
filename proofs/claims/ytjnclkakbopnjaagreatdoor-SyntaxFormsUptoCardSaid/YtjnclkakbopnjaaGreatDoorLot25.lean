/- XSimZb, XSimZc, XSimZd -/
import Derived.Test.YtjnclkakbopnjaaGreatDoorLot24
set_option linter.unusedSimpArgs false
set_option linter.unusedVariables false
namespace Go.Proofs.YtjnclkakbopnjaaGreatDoor
open Go.Proofs.Tryz
open Go.RowKit
noncomputable section
def QTn {β:Type}(k:Nat→Nat→Option β)(x:Value):Option β:=Value.casesOn (motive_1:=fun _=>Option β) x (fun _=>none) (fun _ _=>none) (fun _ _=>none) (fun _ _ _=>none) (fun _=>none)
 (fun a=>Option.rec (motive:=fun _=>Option β) none (fun ad=>Addr.rec (motive:=fun _=>Option β) (fun b o sp=>Option.rec (motive:=fun _=>Option β) (k b o) (fun _=>none) sp) ad) a)
 (fun _ _ _=>none) (fun _=>none) (fun _=>none) (fun _ _ _=>none) none (fun _ _=>none) none (fun _=>none) (fun _=>none)
def vSl {β:Type}(k:Nat→Nat→Nat→Option β)(x:Value):Option β:=Value.casesOn (motive_1:=fun _=>Option β) x (fun _=>none) (fun _ _=>none) (fun _ _=>none) (fun _ _ _=>none) (fun _=>none) (fun _=>none)
 (fun a len _=>Option.rec (motive:=fun _=>Option β) none (fun ad=>Addr.rec (motive:=fun _=>Option β) (fun b o sp=>Option.rec (motive:=fun _=>Option β) (k b o len) (fun _=>none) sp) ad) a)
 (fun _=>none) (fun _=>none) (fun _ _ _=>none) none (fun _ _=>none) none (fun _=>none) (fun _=>none)
def QUU {β:Type}(d:β)(k:IntKind→Int→β)(x:Value):β:=Value.casesOn (motive_1:=fun _=>β) x (fun _=>d) (fun kk i=>k kk i) (fun _ _=>d) (fun _ _ _=>d) (fun _=>d) (fun _=>d) (fun _ _ _=>d)
 (fun _=>d) (fun _=>d) (fun _ _ _=>d) d (fun _ _=>d) d (fun _=>d) (fun _=>d)
def vStr {β:Type}(d:β)(k:ByteArray→β)(x:Value):β:=Value.casesOn (motive_1:=fun _=>β) x (fun _=>d) (fun _ _=>d) (fun _ _=>d) (fun _ _ _=>d) (fun s=>k s) (fun _=>d) (fun _ _ _=>d)
 (fun _=>d) (fun _=>d) (fun _ _ _=>d) d (fun _ _=>d) d (fun _=>d) (fun _=>d)
def QPH {β:Type}(d:β)(k:Bool→β)(x:Value):β:=Value.casesOn (motive_1:=fun _=>β) x (fun b=>k b) (fun _ _=>d) (fun _ _=>d) (fun _ _ _=>d) (fun _=>d) (fun _=>d) (fun _ _ _=>d)
 (fun _=>d) (fun _=>d) (fun _ _ _=>d) d (fun _ _=>d) d (fun _=>d) (fun _=>d)
def QQs {β:Type}(k:Array Value→TypeId→Nat × Nat→Option β)(x:Option Obj):Option β:=match x with
 |some (.cells xs e fz)=>k xs e fz
 |_=>none
def bre {β:Type}(x y:β)(b:Bool):β:=Bool.rec (motive:=fun _=>β) x y b
def ore {β γ:Type}(k:β→Option γ)(x:Option β):Option γ:=Option.rec (motive:=fun _=>Option γ) none k x
def pre {β γ δ:Type}(k:β→γ→δ)(x:β × γ):δ:=Prod.rec (motive:=fun _=>δ) k x
def foK(P:Program)(t:TypeId)(f:Nat):Option Nat:=match P.underlying t with
 |some (.struct fs)=>(match fs[f]? with
  |some fl=>if QBJ P fl.type≠some 0∧QBJ P fl.type≠none then some fl.offset else none
  |none=>none)
 |_=>none
def foR(k:Nat)(x:Value):Option Value:=QTn (fun b o=>some (.pointer (some ⟨b,Nat.add o k,none⟩))) x
def foA(k:Option Nat)(x:Value):Option Value:=match k with
 |some k=>foR k x
 |none=>none
theorem QGJ(P:Program)(t:TypeId)(x:Value)(f:Nat):QAo P t x f=foA (foK P t f) x:=by
 have np:∀x,(∀k,foR k x=none)→none=foA (foK P t f) x:=fun x h=>by
  rcases foK P t f with _|k
  ·
   rfl
  ·
   exact(h k).symm
 have dead:∀x:Value,(∀a,x≠ .pointer (some a))→QAo P t x f=none:=fun x h=>by
  unfold QAo
  split
  ·
   rename_i a _;exact absurd rfl (h a)
  ·
   rfl
 cases x with
 |pointer a=>
  cases a with
  |none=>rw[dead _ (fun a h=>by cases h)];exact np _ (fun _=>rfl)
  |some a=>
   obtain⟨b,o,sp⟩:=a;unfold QAo foK;rcases P.underlying t with _|d
   ·
    rfl
   ·
    cases d with
    |struct fs=>
     dsimp only;rcases fs[f]? with _|fl
     ·
      rfl
     ·
      dsimp only
      by_cases h:QBJ P fl.type≠some 0∧QBJ P fl.type≠none
      ·
       rw[if_pos h]
       cases sp with
       |none=>rw[if_pos ⟨h.1,h.2,rfl⟩];rfl
       |some sp=>rw[if_neg (fun hh=>by cases hh.2.2)];rfl
      ·
       rw[if_neg h,if_neg (fun hh=>h ⟨hh.1,hh.2.1⟩)];rfl
    |_=>rfl
 |_=>rw[dead _ (fun a h=>by cases h)];exact np _ (fun _=>rfl)
inductive IxK where
 |no
 |sl (n:Nat)
 |ar (len n:Nat)
def ixK(P:Program)(t:TypeId):IxK:=match P.underlying t with
 |some (.slice e)=>(match QBJ P e with
  |some n=> .sl n
  |none=> .no)
 |some (.array len e)=>(match QBJ P e with
  |some n=> .ar len n
  |none=> .no)
 |_=> .no
def QTg(b o:Nat)(len n:Nat)(i:Value):Option Value:=QUU none (fun _ k=>Int.rec (motive:=fun _=>Option Value)
  (fun k=>bre none (some (.pointer (some ⟨b,Nat.add o (Nat.mul k n),none⟩))) (Nat.ble (Nat.succ k) len)) (fun _=>none) k) i
def QT6(n:Nat)(x i:Value):Option Value:=vSl (fun b o len=>QTg b o len n i) x
def QT5(len n:Nat)(x i:Value):Option Value:=QTn (fun b o=>QTg b o len n i) x
def ixA(k:IxK)(x i:Value):Option Value:=match k with
 | .no=>none
 | .sl n=>QT6 n x i
 | .ar len n=>QT5 len n x i
theorem QN0(b o len n:Nat)(k:IntKind)(i:Int):QTg b o len n (.int k i)=if 0≤i∧i<len∧(none:Option Nat)=none then some (.pointer (some ⟨b,o+i.toNat*n,none⟩)) else none:=by
 cases i with
 |ofNat k'=>
  show Bool.rec (motive:=fun _=>Option Value) none (some (.pointer (some ⟨b,o+k'*n,none⟩))) (Nat.ble (Nat.succ k') len)=_
  by_cases h:k'<len
  ·
   rw[Nat.ble_eq_true_of_le h,if_pos ⟨Int.natCast_nonneg _,Int.ofNat_lt.2 h,rfl⟩];rfl
  ·
   have:Nat.ble (Nat.succ k') len=false:=by
    cases hb:Nat.ble (Nat.succ k') len with
    |false=>rfl
    |true=>exact absurd (Nat.le_of_ble_eq_true hb) h
   rw[this,if_neg];rintro⟨_,h2,_⟩;exact h (Int.ofNat_lt.1 h2)
 |negSucc k'=>
  rw[if_neg]
  ·
   rfl
  ·
   rintro⟨h,_⟩;exact absurd h (by simp)
def eqK(k k':IntKind):Bool:=match k,k' with
 | .i64,.i64=>true
 |k,k'=>decide (k=k')
def QTp(a b:Int):Int:=match a,b with
 | .ofNat m,.ofNat n=> .ofNat (Nat.add m n)
 |a,b=>a+b
def QQL(k:IntKind)(n:Int):Int:=match k,n with
 | .i64,.ofNat m=>Bool.rec (motive:=fun _=>Int) (IntKind.wrap .i64 (.ofNat m)) (.ofNat m) (Nat.ble m 9223372036854775807)
 |k,n=>k.wrap n
def eqI(a b:Int):Bool:=match a,b with
 | .ofNat m,.ofNat n=>Nat.beq m n
 | .negSucc m,.negSucc n=>Nat.beq m n
 |_,_=>false
def ltI(a b:Int):Bool:=match a,b with
 | .ofNat m,.ofNat n=>Nat.ble (Nat.succ m) n
 | .negSucc _,.ofNat _=>true
 | .ofNat _,.negSucc _=>false
 | .negSucc m,.negSucc n=>Nat.ble (Nat.succ n) m
def QOK(b:Bool):Bool:=Bool.rec (motive:=fun _=>Bool) true false b
structure Ik where
 run:IntKind→Int→Int→Option Value
def inK:BinOp→Ik
 | .add=>⟨fun k a b=>some (.int k (QQL k (QTp a b)))⟩
 | .eql=>⟨fun _ a b=>some (.bool (eqI a b))⟩
 | .neq=>⟨fun _ a b=>some (.bool (QOK (eqI a b)))⟩
 | .lss=>⟨fun _ a b=>some (.bool (ltI a b))⟩
 | .leq=>⟨fun _ a b=>some (.bool (QOK (ltI b a)))⟩
 | .gtr=>⟨fun _ a b=>some (.bool (ltI b a))⟩
 | .geq=>⟨fun _ a b=>some (.bool (QOK (ltI a b)))⟩
 |op=>⟨fun k a b=>QSn op k a b⟩
structure Sk where
 run:List UInt8→List UInt8→Option Value
def stK:BinOp→Sk
 | .eql=>⟨fun a b=>some (.bool (eqB a b))⟩
 | .neq=>⟨fun a b=>some (.bool (QOK (eqB a b)))⟩
 |op=>⟨fun a b=>QTm op a b⟩
def QTq(P:Program)(op:BinOp)(t:TypeId)(x y:Value)(yo:Operand):Option Value:=
 QUU (vStr (QCQ P op t x y yo) (fun a=>vStr (QCQ P op t x y yo) (fun b=>(stK op).run a.data.toList b.data.toList) y) x)
  (fun k a=>QUU (QCQ P op t x y yo) (fun k' b=>bre none ((inK op).run k a b) (eqK k k')) y) x
def evE(n:Nat):Operand→Ge
 | .tmp t=>geR n t
 | .const v=>⟨fun _=>v⟩
 | .global g=>⟨fun _=> .pointer (some ⟨g,0,none⟩)⟩
 | .func f=>⟨fun _=> .func (.func f) #[] #[]⟩
def evsE(n:Nat)(e:Ev12)(x:Operand):Value:=(evE n x).run e
inductive Cm where
 |tot (f:Ev12→Value)
 |par (f:Ev12→Fw→Option Value)
 |mem (f:Ev12→Fw→Option (Value × Fw))
def QSu(e:TypeId)(cells:Array Value)(F:Fw):Option (Value × Fw):=QRu F (.cells cells e) fun n=> .pointer (some ⟨n,0,none⟩)
def QSo(x:Value)(F:Fw):Option Value:=QTn (fun b o=>QQs (fun xs _ _=>QPi xs.toList o) (rdR F b)) x
def QSq(n:Nat)(x:Value)(F:Fw):Option Value:=QTn (fun b o=>QQs (fun xs _ _=>QST (QGn xs.toList o n)) (rdR F b)) x
def unR(F:Fw):Option Fw→Option (Value × Fw):=ore fun F=>some (undef,F)
def QRe(c a b:Value):Option Value:=QPH none (fun c=>some (bre b a c)) c
def QUA(x:Value):Option Value:=QPH none (fun c=>some (.bool (QOK c))) x
def cmE(P:Program)(B n:Nat):Op→Cm
 | .move x=> .tot (evE n x).run
 | .assign x=> .tot (evE n x).run
 | .pick x y z=> .par fun e _=>QRe ((evE n x).run e) ((evE n y).run e) ((evE n z).run e)
 | .nilCheck x=> .par fun e _=>QCv ((evE n x).run e)
 | .binOp op t x y _=> .par fun e _=>QTq P op t ((evE n x).run e) ((evE n y).run e) y
 | .unOp .not _ x=> .par fun e _=>QUA ((evE n x).run e)
 | .fieldAddr t x f=>(match foK P t f with
  |some k=> .par fun e _=>foR k ((evE n x).run e)
  |none=> .par fun _ _=>none)
 | .indexAddr t x i=>(match ixK P t with
  | .sl m=> .par fun e _=>QT6 m ((evE n x).run e) ((evE n i).run e)
  | .ar len m=> .par fun e _=>QT5 len m ((evE n x).run e) ((evE n i).run e)
  | .no=> .par fun _ _=>none)
 | .alloc t=>(match QKJ P t with
  |some z=> .mem fun _ F=>QSu t z.cells F
  |none=> .par fun _ _=>none)
 | .box t x=> .mem fun e F=>QSu t ((evE n x).run e).cells F
 | .load t x=>(match ldK P t with
  |some none=> .par fun e F=>QSo ((evE n x).run e) F
  |some (some m)=> .par fun e F=>QSq m ((evE n x).run e) F
  |none=> .par fun _ _=>none)
 | .store t x v=>(match QQF P t with
  |some m=> .mem fun e F=>unR F (QTR B m ((evE n x).run e) (QLQ ((evE n v).run e)) F)
  |none=> .par fun _ _=>none)
 |op=> .mem fun e F=>doF P B (evsE n e) op F
abbrev QET:=Option (Out × Ev12 × Fw)
def QDQ:Option Tmp→Pu
 |some d=>puR d
 |none=>⟨fun _ e=>e⟩
structure St where
 run:QBj→Ev12→Fw→(Ev12→Fw→QET)→QET
structure Ar where
 run:Ev12→List Value
def arE(n:Nat)(l:List Operand):Ar:=List.rec (motive:=fun _=>Ar) ⟨fun _=> []⟩ (fun x _ ih=>⟨fun e=>(evE n x).run e::ih.run e⟩) l
def QSW(k:Value→Fw→QET)(e:Ev12)(r:Option (Res × Fw)):QET:=ore (pre fun q F1=>Res.rec (motive:=fun _=>QET) (fun v=>k v F1) (fun ch=>some (.pan ch,e,F1)) q) r
def QPb(ent:FuncId→Bool)(call:QBj)(f:Value)(args:List Value)(F:Fw):Option (Res × Fw):=match f with
 | .func (.func g) first cap=>bre none (call g (QQP first.toList (QQP args cap.toList)) F) (ent g)
 |_=>none
def QTv(d:Option Tmp)(f:Value)(args:List Value)(e:Ev12)(F:Fw)(k:Ev12→Fw→QET):QET:=match f with
 | .func (.func g) first cap=>k ((QDQ d).run undef (QGp {target:= .fn (.func g) cap,args:=⟨QQP first.toList args⟩} e)) F
 |_=>none
def QUC(x:Value)(e:Ev12)(F:Fw):QET:=match x with
 | .iface t v=>some (.pan [{v:= .iface t v,recovered:=false}],e,F)
 |_=>none
def QSa(dst:Option Tmp):Cm→St
 | .tot f=>⟨fun _ e F k=>k ((QDQ dst).run (f e) e) F⟩
 | .par f=>⟨fun _ e F k=>ore (fun v=>k ((QDQ dst).run v e) F) (f e F)⟩
 | .mem f=>⟨fun _ e F k=>ore (pre fun v F1=>k ((QDQ dst).run v e) F1) (f e F)⟩
def stE(P:Program)(B n:Nat)(ent:FuncId→Bool)(o:Oper):St:=match o.op with
 | .call k=>(match k.callee with
  | .value f=>⟨fun call e F kk=>QSW (fun v F1=>kk ((QDQ o.dst).run v e) F1) e (QPb ent call ((evE n f).run e) ((arE n k.args.toList).run e) F)⟩
  |_=>QSa o.dst (cmE P B n o.op))
 | .defer k=>(match k.callee with
  | .value f=>⟨fun _ e F kk=>QTv o.dst ((evE n f).run e) ((arE n k.args.toList).run e) e F kk⟩
  |_=>⟨fun _ _ _ _=>none⟩)
 | .panic x=>⟨fun _ e F _=>QUC ((evE n x).run e) e F⟩
 |_=>QSa o.dst (cmE P B n o.op)
inductive Wk where
 |yes
 |no
 |slot (b:Bool) (g:Ge)
def QHR(b:Bool)(v:Value):Bool:=QPH false (fun c=>bre (QOK b) b c) v
def waE(n:Nat)(ops:Array Oper)(o:Oper):Wk:=match o.guard with
 |none=> .yes
 |some (j,b)=>(match (ops[j]?).bind (·.dst)with
  |some t=> .slot b (geR n t)
  |none=> .no)
structure Rg where
 run:QBj→Ev12→Fw→QET
def QEg(x y:Rg):Wk→Rg
 | .yes=>y
 | .no=>x
 | .slot b g=>⟨fun call e F=>bre (x.run call e F) (y.run call e F) (QHR b (g.run e))⟩
def QQu(P:Program)(B n:Nat)(ent:FuncId→Bool)(ops:Array Oper)(l:List Oper):Rg:=
 List.rec (motive:=fun _=>Rg) ⟨fun _ e F=>some (.normal,e,F)⟩ (fun o _ ih=>
  QEg ⟨fun call e F=>ih.run call ((QDQ o.dst).run undef e) F⟩ ⟨fun call e F=>(stE P B n ent o).run call e F (ih.run call)⟩ (waE n ops o)) l
def QLZ:Op→Bool
 | .load .. | .lookup .. =>true
 | .slice _ _ (some _) none none=>true
 | .field .. | .build .. | .slice .. =>false
 |o=>QIM o
structure Cv where
 run:Ev12→Fw→Option Value
def cmV:Cm→Cv
 | .tot f=>⟨fun e _=>some (f e)⟩
 | .par f=>⟨f⟩
 | .mem f=>⟨fun e F=>ore (pre fun v _=>some v) (f e F)⟩
structure Sl where
 run:Ev12→Fw→Option Ev12
def QNp(x y:Sl):Wk→Sl
 | .yes=>y
 | .no=>x
 | .slot b g=>⟨fun e F=>bre (x.run e F) (y.run e F) (QHR b (g.run e))⟩
def QEv(P:Program)(B n:Nat)(ops:Array Oper)(l:List Oper):Sl:=
 List.rec (motive:=fun _=>Sl) ⟨fun e _=>some e⟩ (fun o _ ih=>
  QNp ⟨fun e F=>ih.run ((QDQ o.dst).run undef e) F⟩
   (bre ⟨fun _ _=>none⟩ ⟨fun e F=>ore (fun v=>ih.run ((QDQ o.dst).run v e) F) ((cmV (cmE P B n o.op)).run e F)⟩ (QLZ o.op)) (waE n ops o)) l
structure Sm where
 run:Ev12→Fw→Bool
def beqO(v:Value)(r:Option Value):Bool:=Option.rec (motive:=fun _=>Bool) false (fun u=>QLN 9 u v) r
def QQk(x y:Sm):Wk→Sm
 | .yes=>y
 | .no=>x
 | .slot b g=>⟨fun e F=>bre (x.run e F) (y.run e F) (QHR b (g.run e))⟩
def smE(P:Program)(B n:Nat)(ops:Array Oper)(j:Nat):Sm:=match ops[j]? with
 |some o=>(match o.dst with
  |some t=>QQk ⟨fun e _=>QLN 9 undef ((geR n t).run e)⟩ ⟨fun e F=>beqO ((geR n t).run e) ((cmV (cmE P B n o.op)).run e F)⟩ (waE n ops o)
  |none=>⟨fun _ _=>false⟩)
 |none=>⟨fun _ _=>false⟩
def QPO(P:Program)(B n:Nat)(ops:Array Oper)(l:List Nat):Sm:=
 List.rec (motive:=fun _=>Sm) ⟨fun _ _=>true⟩ (fun j _ ih=>⟨fun e F=>bre false (ih.run e F) ((smE P B n ops j).run e F)⟩) l
def QCe(P:Program)(B n:Nat)(ent:FuncId→Bool)(ops:Array Oper)(l:List Nat):List Nat→Rg:=
 List.rec (motive:=fun _=>List Nat→Rg) (fun _=>⟨fun _ e F=>some (.normal,e,F)⟩) (fun j _ ih pend=>match ops[j]? with
  |some o=>bre
    (QEg ⟨fun call e F=>bre none ((ih (pend.filter fun k=>!QAd o k)).run call ((QDQ o.dst).run undef e) F) ((QPO P B n ops (pend.filter fun k=>!QAd o k)).run ((QDQ o.dst).run undef e) F)⟩
     ⟨fun call e F=>(stE P B n ent o).run call e F fun e1 F1=>bre none ((ih (pend.filter fun k=>!QAd o k)).run call e1 F1) ((QPO P B n ops (pend.filter fun k=>!QAd o k)).run e1 F1)⟩ (waE n ops o))
    (QEg ⟨fun call e F=>(ih (j::pend)).run call ((QDQ o.dst).run undef e) F⟩
     ⟨fun call e F=>ore (fun v=>(ih (j::pend)).run call ((QDQ o.dst).run v e) F) ((cmV (cmE P B n o.op)).run e F)⟩ (waE n ops o)) (QMG ops o)
  |none=>⟨fun _ _ _=>none⟩) l
def QTi(n:Nat)(a:Fa):Option Ev12:=bre none (some (QMo a.defers (QM3 a.tmps 0 unE))) (Nat.beq (QN5 a.tmps) n)
def faE(n:Nat)(e:Ev12):Fa:=⟨QBA n e,e.ds⟩
def didE(n:Nat)(r:Option Did):QET:=match r with
 |some d=>ore (fun e=>some (d.out,e,d.F)) (QTi n d.a)
 |none=>none
def QUE(P:Program)(B n:Nat)(ent:FuncId→Bool)(plans:Nat→Option QAZ)(id:Nat)(ops:Array Oper)(draw:Bool):Rg:=match draw with
 |false=>QQu P B n ent ops ops.toList
 |true=>(match plans id with
  |some .still=>⟨fun _ e F=>ore (fun e1=>some (.normal,e1,F)) ((QEv P B n ops ops.toList).run e F)⟩
  |some (.tail m)=>⟨fun call e F=>ore (fun e1=>(QQu P B n ent ops (ops.toList.drop m)).run call e1 F) ((QEv P B n ops (ops.toList.take m)).run e F)⟩
  |some (.float l)=>QCe P B n ent ops l []
  |some (.tree p)=>⟨fun call e F=>didE n (QCy P B ent call ops p (faE n e) F)⟩
  |none=>⟨fun _ _ _=>none⟩)
structure Cd where
 run:QBj→Nat→Ev12→Fw→QET
def onR(k:Ev12→Fw→QET)(r:QET):QET:=ore (pre fun o q=>pre (fun e1 F1=>Out.rec (motive:=fun _=>QET) (k e1 F1) (fun i=>some (.exit i,e1,F1)) (some (.ret,e1,F1)) (fun ch=>some (.pan ch,e1,F1)) o) q) r
def outR(id:Nat)(r:QET):QET:=ore (pre fun o q=>pre (fun e1 F1=>Out.rec (motive:=fun _=>QET) (some (.normal,e1,F1)) (fun i=>bre (some (.exit i,e1,F1)) (some (.normal,e1,F1)) (Nat.beq i id)) (some (.ret,e1,F1)) (fun ch=>some (.pan ch,e1,F1)) o) q) r
def QIJ(n:Nat)(f:Nat→QET):QET:=Nat.rec (motive:=fun _=>QET) none (fun n _=>f n) n
def QF9(P:Program)(B m:Nat)(ent:FuncId→Bool)(plans:Nat→Option QAZ)(code:Code):Cd:=
 Code.rec (motive:=fun _=>Cd)
  ⟨fun _ n e F=>QIJ n fun _=>some (.normal,e,F)⟩
  (fun id ops draw=>⟨fun call n e F=>QIJ n fun _=>(QUE P B m ent plans id ops draw).run call e F⟩)
  (fun _ _ x y=>⟨fun call n e F=>QIJ n fun n=>onR (y.run call n) (x.run call n e F)⟩)
  (fun k _ _ x y=>⟨fun call n e F=>QIJ n fun n=>QPH none (fun b=>bre (y.run call n e F) (x.run call n e F) b) ((evE m k).run e)⟩)
  (fun id _ x=>⟨fun call n e F=>QIJ n fun n=>outR id (x.run call n e F)⟩)
  (fun _ x=>⟨fun call n=>Nat.rec (motive:=fun _=>Ev12→Fw→QET) (fun _ _=>none) (fun n ih e F=>onR ih (x.run call n e F)) n⟩)
  (fun _ _ _ _ _ _=>⟨fun _ _ _ _=>none⟩)
  (fun id=>⟨fun _ n e F=>QIJ n fun _=>some (.exit id,e,F)⟩)
  (fun _ x=>⟨fun call n e F=>QIJ n fun n=>x.run call n e F⟩)
  (fun _=>⟨fun _ n e F=>QIJ n fun _=>some (.normal,e,F)⟩)
  (fun _=>⟨fun _ _ _ _=>none⟩)
  ⟨fun _ n e F=>QIJ n fun _=>some (.ret,e,F)⟩
  (fun _=>⟨fun _ _ _ _=>none⟩) code
structure Oc where
 run:List Value→Fw→Option (Res × Fw)
structure Rs where
 run:Ev12→Fw→Option (List Value)
def rsE(P:Program)(n:Nat)(l:List ResultVar):Rs:=
 List.rec (motive:=fun _=>Rs) ⟨fun _ _=>some []⟩ (fun x _ ih=>ResultVar.rec (motive:=fun _=>Rs)
  (fun t=>⟨fun e F=>ore (fun vs=>some ((geR n t).run e::vs)) (ih.run e F)⟩)
  (fun x t=>match ldK P t with
   |some none=>⟨fun e F=>ore (fun v=>ore (fun vs=>some (v::vs)) (ih.run e F)) (QSo ((geR n x).run e) F)⟩
   |some (some m)=>⟨fun e F=>ore (fun v=>ore (fun vs=>some (v::vs)) (ih.run e F)) (QSq m ((geR n x).run e) F)⟩
   |none=>⟨fun _ _=>none⟩) x) l
structure Bd where
 run:QBj→Nat→List Value→Fw→QET
def bdE(P:Program)(B:Nat)(ent:FuncId→Bool)(plans:Nat→Option QAZ)(n:Nat)(code:Code):Bd:=
 bre ⟨fun _ _ _ _=>none⟩ ⟨fun call fuel args F=>bre none ((QF9 P B n ent plans code).run call fuel (QM3 args 0 unE) F) (Nat.ble (QN5 args) n)⟩ (Nat.ble n 289)
def QHK(e:Ev12)(r:Option Fw):Option Fw:=List.rec (motive:=fun _=>Option Fw) r (fun _ _ _=>none) e.ds
def QLo(r:QET):Option Fw:=ore (pre fun o q=>pre (fun e1 F1=>Out.rec (motive:=fun _=>Option Fw) (QHK e1 (some F1)) (fun _=>none) (QHK e1 (some F1)) (fun _=>none) o) q) r
structure De where
 plain:QBj→Nat→List Value→Fw→Option Fw
 reco:QBj→Nat→List Value→Option (List PanicEntry)→Fw→Option (Fw × Option (List PanicEntry))
def QOg(P:Program)(B n:Nat)(ent:FuncId→Bool)(plans:Nat→Option QAZ)(o:Oper)(rest:Code)(call:QBj)(fuel:Nat)(args:List Value)(m:Option (List PanicEntry))(F:Fw):Option (Fw × Option (List PanicEntry)):=
 ore (pre fun v m1=>ore (fun F1=>some (F1,m1)) (QLo ((QF9 P B n ent plans rest).run call fuel ((QDQ o.dst).run v (QM3 args 0 unE)) F))) (QTl m)
def deE(P:Program)(B:Nat)(ent:FuncId→Bool)(plans:FuncId→Nat→Option QAZ)(f:FuncId):De:=match P.funcs[f]? with
 |some fn=>(match fn.body with
  |some code=>bre ⟨fun _ _ _ _=>none,fun _ _ _ _ _=>none⟩
    ⟨fun call fuel args F=>QLo ((bdE P B ent (plans f) fn.ntmps code).run call fuel args F),
     match QK6 code with
     |some (o,rest)=>bre (fun _ _ _ _ _=>none) (fun call fuel args m F=>bre none (QOg P B fn.ntmps ent (plans f) o rest call fuel args m F) (Nat.ble (QN5 args) fn.ntmps)) (Nat.ble fn.ntmps 289)
     |none=>fun _ _ _ _ _=>none⟩ fn.results.toList.isEmpty
  |none=>⟨fun _ _ _ _=>none,fun _ _ _ _ _=>none⟩)
 |none=>⟨fun _ _ _ _=>none,fun _ _ _ _ _=>none⟩
def QNZ {β:Type}(k:Option β)(r:Option β):Option β:=Option.rec (motive:=fun _=>Option β) k (fun x=>some x) r
def QL8(P:Program)(B:Nat)(ent:FuncId→Bool)(call:QBj)(plans:FuncId→Nat→Option QAZ)(fuel:Nat)(may:Bool)(fin:Option (List PanicEntry)→Fw→Option (Res × Fw))(ds:List Deferred):Option (List PanicEntry)→Fw→Option (Res × Fw):=
 List.rec (motive:=fun _=>Option (List PanicEntry)→Fw→Option (Res × Fw)) fin (fun d _ ih m F=>match d.target with
  | .fn (.func g) cap=>bre none (QNZ (bre none (ore (pre fun F1 m1=>ih m1 F1) ((deE P B ent plans g).reco call fuel (QQP d.args.toList cap.toList) m F)) may)
    (ore (fun F1=>ih m F1) ((deE P B ent plans g).plain call fuel (QQP d.args.toList cap.toList) F))) (ent g)
  |_=>none) ds
def QQh(P:Program)(n:Nat)(res:List ResultVar)(e:Ev12)(m:Option (List PanicEntry))(F:Fw):Option (Res × Fw):=
 Option.rec (motive:=fun _=>Option (Res × Fw)) (ore (fun vs=>some (.ret (QOL vs),F)) ((rsE P n res).run e F)) (fun ch=>some (.pan ch,F)) m
structure Fn1 where
 run:QBj→Nat→List Value→Fw→Option (Res × Fw)
def endE(nt:Bool)(leave:Bool→Ev12→Option (List PanicEntry)→Fw→Option (Res × Fw))(r:QET):Option (Res × Fw):=
 ore (pre fun o q=>pre (fun e1 F1=>Out.rec (motive:=fun _=>Option (Res × Fw)) (leave true e1 none F1) (fun _=>none) (leave true e1 none F1) (fun ch=>bre none (leave nt e1 (some ch) F1) (QMy ch)) o) q) r
def fnE(P:Program)(B:Nat)(ent:FuncId→Bool)(plans:FuncId→Nat→Option QAZ)(f:FuncId):Fn1:=match P.funcs[f]? with
 |some fn=>(match fn.body with
  |some code=>⟨fun call fuel args F=>endE (QA9 (plans f) code) (fun may e m F=>QL8 P B ent call plans fuel may (QQh P fn.ntmps fn.results.toList e) e.ds m F) ((bdE P B ent (plans f) fn.ntmps code).run call fuel args F)⟩
  |none=>⟨fun _ _ _ _=>none⟩)
 |none=>⟨fun _ _ _ _=>none⟩
def QPM(P:Program)(B:Nat)(ent:FuncId→Bool)(plans:FuncId→Nat→Option QAZ)(orc:FuncId→Oc)(fuel:Nat)(n:Nat):QBj:=
 Nat.rec (motive:=fun _=>QBj) (fun _ _ _=>none) (fun _ ih f args F=>QNZ ((fnE P B ent plans f).run ih fuel args F) ((orc f).run args F)) n
end
variable {P : Program} {B n : Nat} {ent : FuncId → Bool} {call : QBj}
theorem QPG(k:Nat)(h:17≤k):QMz k=⟨fun _ e=>e⟩:=by
 match k,h with
 |k+17,_=>rfl
theorem QRt(t:Nat)(h:289≤t)(v:Value)(e:Ev12):(puR t).run v e=e:=by
 show(QMz (t / 17)).run ((QSD (t % 17)).run v) e=e;rw[QPG _ (by omega)]
theorem QCT(hn:n≤289)(d:Option Tmp)(v:Value)(e:Ev12):faE n ((QDQ d).run v e)=(faE n e).put d v:=by
 cases d with
 |none=>rfl
 |some t=>
  show(⟨QBA n ((puR t).run v e),((puR t).run v e).ds⟩:Fa)=⟨QDN (QBA n e) t v,e.ds⟩;rcases Nat.lt_or_ge t 289 with h|h
  ·
   rw[QN7 n t e v hn h,QQy t h]
  ·
   rw[QRt t h]
   congr 1
   rw[QCB,List.set_eq_of_length_le (by rw[QBY];omega)]
theorem QBL(e:Ev12)(x:Operand):(evE n x).run e=(faE n e).eval x:=by
 cases x with
 |tmp t=>exact QHP n t e
 |_=>rfl
theorem QNf(e:Ev12):evsE n e=(faE n e).eval:=funext fun x=>QBL e x
theorem QQQ(e:Ev12)(l:List Operand):(arE n l).run e=l.map (faE n e).eval:=by
 induction l with
 |nil=>rfl
 |cons x l ih=>
  show(evE n x).run e::(arE n l).run e=_;rw[QBL,ih];rfl
theorem QFv {k:IxK}{x i:Value}(h1:∀m,QT6 m x i=none)(h2:∀len m,QT5 len m x i=none):ixA k x i=none:=by
 cases k with
 |no=>rfl
 |sl m=>exact h1 m
 |ar len m=>exact h2 len m
theorem QB1 {P:Program}{t:TypeId}{x i:Value}(h1:∀a len cap k z,x= .slice (some a) len cap→i≠ .int k z)(h2:∀a k z,x= .pointer (some a)→i≠ .int k z):QAj P t x i=none:=by
 unfold QAj
 split
 ·
  exact absurd rfl (h1 _ _ _ _ _ rfl)
 ·
  exact absurd rfl (h2 _ _ _ rfl)
 ·
  rfl
theorem QGQ(P:Program)(t:TypeId)(x i:Value):QAj P t x i=ixA (ixK P t) x i:=by
 by_cases hi:∃k z,i= .int k z
 ·
  obtain⟨kk,k,rfl⟩:=hi
  cases x with
  |slice a len cap=>
   cases a with
   |none=>rw[QB1 (fun _ _ _ _ _ h=>by cases h) (fun _ _ _ h=>by cases h),QFv (fun _=>rfl) (fun _ _=>rfl)]
   |some a=>
    obtain⟨b,o,sp⟩:=a;unfold QAj ixK;rcases P.underlying t with _|d
    ·
     rfl
    ·
     cases d with
     |slice e=>
      dsimp only;rcases QBJ P e with _|m
      ·
       rfl
      ·
       dsimp only
       cases sp with
       |some sp=>exact if_neg (fun hh=>by cases hh.2.2)
       |none=>exact(QN0 b o len m kk k).symm
     |array alen e=>
      dsimp only;rcases QBJ P e with _|m <;> rfl
     |_=>rfl
  |pointer a=>
   cases a with
   |none=>rw[QB1 (fun _ _ _ _ _ h=>by cases h) (fun _ _ _ h=>by cases h),QFv (fun _=>rfl) (fun _ _=>rfl)]
   |some a=>
    obtain⟨b,o,sp⟩:=a;unfold QAj ixK;rcases P.underlying t with _|d
    ·
     rfl
    ·
     cases d with
     |slice e=>
      dsimp only;rcases QBJ P e with _|m <;> rfl
     |array alen e=>
      dsimp only;rcases QBJ P e with _|m
      ·
       rfl
      ·
       dsimp only
       cases sp with
       |some sp=>exact if_neg (fun hh=>by cases hh.2.2)
       |none=>exact(QN0 b o alen m kk k).symm
     |_=>rfl
  |_=>rw[QB1 (fun _ _ _ _ _ h=>by cases h) (fun _ _ _ h=>by cases h),QFv (fun _=>rfl) (fun _ _=>rfl)]
 ·
  have hat:∀(b o len m:Nat),QTg b o len m i=none:=fun b o len m=>by
   cases i with
   |int k z=>exact absurd ⟨k,z,rfl⟩ hi
   |_=>rfl
  rw[QB1 (fun _ _ _ k z _ h=>hi ⟨k,z,h⟩) (fun _ k z _ h=>hi ⟨k,z,h⟩),QFv]
  ·
   intro m
   cases x with
   |slice a len cap=>
    cases a with
    |none=>rfl
    |some a=>
     obtain⟨b,o,sp⟩:=a
     cases sp with
     |some _=>rfl
     |none=>exact hat b o len m
   |_=>rfl
  ·
   intro len m
   cases x with
   |pointer a=>
    cases a with
    |none=>rfl
    |some a=>
     obtain⟨b,o,sp⟩:=a
     cases sp with
     |some _=>rfl
     |none=>exact hat b o len m
   |_=>rfl
theorem QNG(m k:Nat):Nat.ble m k=decide (m≤k):=by
 by_cases h:m≤k
 ·
  rw[Nat.ble_eq_true_of_le h,decide_eq_true h]
 ·
  rw[decide_eq_false h]
  cases hb:Nat.ble m k with
  |false=>rfl
  |true=>exact absurd (Nat.le_of_ble_eq_true hb) h
theorem QND(m k:Nat):Nat.beq m k=decide (m=k):=by
 by_cases h:m=k
 ·
  rw[h,Nat.beq_refl,decide_eq_true rfl]
 ·
  rw[decide_eq_false h]
  cases hb:Nat.beq m k with
  |false=>rfl
  |true=>exact absurd (Nat.eq_of_beq_eq_true hb) h
theorem QIY(b:Bool):QOK b=!b:=by cases b <;> rfl
theorem QHG {β:Type}(x y:β)(b:Bool):bre x y b=if b=true then y else x:=by cases b <;> rfl
theorem QSe(k k':IntKind):eqK k k'=decide (k=k'):=by cases k <;> cases k' <;> rfl
theorem QQ5(a b:Int):QTp a b=a+b:=by
 cases a <;> cases b <;> rfl
theorem QQM(k:IntKind)(i:Int):QQL k i=k.wrap i:=by
 unfold QQL
 split
 ·
  rename_i m;rw[QNG]
  by_cases h:m≤9223372036854775807
  ·
   rw[decide_eq_true h];show Int.ofNat m=_
   have e:((Int.ofNat m) % 2 ^ 64)=Int.ofNat m:=by
    have:(Int.ofNat m:Int)=(m:Int):=rfl;rw[this];omega
   unfold IntKind.wrap;simp only[IntKind.bits,IntKind.signed,e];rw[if_neg];simp only[Bool.true_and,decide_eq_true_eq];have:(Int.ofNat m:Int)=(m:Int):=rfl;rw[this];omega
  ·
   rw[decide_eq_false h]
 ·
  rfl
theorem QQe(a b:Int):eqI a b=(a==b):=by
 cases a <;> cases b
 ·
  rename_i m k;show Nat.beq m k=decide (Int.ofNat m=Int.ofNat k);rw[QND];exact decide_eq_decide.2 (Int.ofNat_inj (m:=m) (n:=k)).symm
 ·
  rfl
 ·
  rfl
 ·
  rename_i m k;show Nat.beq m k=decide (Int.negSucc m=Int.negSucc k);rw[QND];simp
theorem QLf(a b:Int):ltI a b=decide (a<b):=by
 cases a <;> cases b
 ·
  rename_i m k;show Nat.ble (Nat.succ m) k=_;rw[QNG]
  congr 1
  exact propext (Int.ofNat_lt (n:=m) (m:=k)).symm
 ·
  rename_i m k;show false=_
  symm
  rw[decide_eq_false_iff_not];have h1:(Int.ofNat m:Int)=(m:Int):=rfl;have h2:(Int.negSucc k:Int)= -((k:Int)+1):=Int.negSucc_eq k;rw[h1,h2];omega
 ·
  rename_i m k;show true=_
  symm
  rw[decide_eq_true_iff];have h1:(Int.ofNat k:Int)=(k:Int):=rfl;have h2:(Int.negSucc m:Int)= -((m:Int)+1):=Int.negSucc_eq m;rw[h1,h2];omega
 ·
  rename_i m k;show Nat.ble (Nat.succ k) m=_;rw[QNG]
  congr 1
  have h1:(Int.negSucc k:Int)= -((k:Int)+1):=Int.negSucc_eq k;have h2:(Int.negSucc m:Int)= -((m:Int)+1):=Int.negSucc_eq m;rw[h1,h2];exact propext ⟨fun h=>by omega,fun h=>by omega⟩
theorem QSk(op:BinOp)(k:IntKind)(a b:Int):(inK op).run k a b=QSn op k a b:=by
 cases op with
 |add=>
  show some (Value.int k (QQL k (QTp a b)))=some (Value.int k (k.wrap (a+b)));rw[QQM,QQ5]
 |eql=>exact congrArg (some∘Value.bool) (QQe a b)
 |neq=>
  show some (Value.bool (QOK (eqI a b)))=some (Value.bool (a !=b));rw[QIY,QQe];rfl
 |lss=>exact congrArg (some∘Value.bool) (QLf a b)
 |leq=>
  show some (Value.bool (QOK (ltI b a)))=some (Value.bool (decide (a≤b)));rw[QIY,QLf,←decide_not]
  congr 2
  exact decide_eq_decide.2 Int.not_lt
 |gtr=>exact congrArg (some∘Value.bool) (QLf b a)
 |geq=>
  show some (Value.bool (QOK (ltI a b)))=some (Value.bool (decide (a≥b)));rw[QIY,QLf,←decide_not]
  congr 2
  exact decide_eq_decide.2 Int.not_lt
 |_=>rfl
theorem QTQ(op:BinOp)(a b:List UInt8):(stK op).run a b=QTm op a b:=by
 cases op with
 |eql=>exact congrArg (some∘Value.bool) (QQd a b)
 |neq=>
  show some (Value.bool (QOK (eqB a b)))=some (Value.bool (!(a==b)));rw[QIY,QQd]
 |_=>rfl
theorem QKg(P:Program)(op:BinOp)(t:TypeId)(x y:Value)(yo:Operand)(h:y≠ .nilIface):QFX P op t x y yo=none:=by
 unfold QFX
 split
 ·
  exact absurd rfl h
 ·
  rfl
theorem QRB(P:Program)(op:BinOp)(t:TypeId)(x y:Value)(yo:Operand):QTq P op t x y yo=QCQ P op t x y yo:=by
 have hany:∀x y,y≠ .nilIface→QCQ P op t x y yo=QQS P op t x y:=fun x y h=>by
  unfold QCQ;rw[QKg P op t x y yo h]
  cases QQS P op t x y <;> rfl
 cases x with
 |int k a=>
  cases y with
  |int k' b=>
   rw[hany _ _ (by simp)];show bre none ((inK op).run k a b) (eqK k k')=if k=k' then QSn op k a b else none;rw[QHG,QSk,QSe];simp
  |_=>rfl
 |string a=>
  cases y with
  |string b=>
   rw[hany _ _ (by simp)];exact QTQ op _ _
  |_=>rfl
 |_=>rfl
theorem QN3(x:Value)(F:Fw):QSo x F=ld1 x F:=by
 cases x with
 |pointer a=>
  cases a with
  |none=>rfl
  |some a=>obtain⟨b,o,sp⟩:=a;cases sp <;> rfl
 |_=>rfl
theorem QN4(m:Nat)(x:Value)(F:Fw):QSq m x F=ldN m x F:=by
 cases x with
 |pointer a=>
  cases a with
  |none=>rfl
  |some a=>obtain⟨b,o,sp⟩:=a;cases sp <;> rfl
 |_=>rfl
theorem QOH(e:TypeId)(cells:Array Value)(F:Fw):QSu e cells F=QQr F e cells:=by
 unfold QSu;rw[QP3];rfl
theorem QTV(F:Fw)(r:Option Fw):unR F r=okU r:=by cases r <;> rfl
theorem QP0(c a b:Value):QRe c a b=QOU c a b:=by
 cases c with
 |bool c=>cases c <;> rfl
 |_=>rfl
theorem QRZ(x:Value):QUA x=unC .not x:=by
 cases x with
 |bool c=>cases c <;> rfl
 |_=>rfl
def Cm.sem(c:Cm)(e:Ev12)(F:Fw):Option (Value × Fw):=match c with
 | .tot f=>some (f e,F)
 | .par f=>okV F (f e F)
 | .mem f=>f e F
theorem QKU(op:Op)(e:Ev12)(F:Fw):(cmE P B n op).sem e F=doF P B (faE n e).eval op F:=by
 cases op with
 |move x=>exact congrArg (fun v=>some (v,F)) (QBL e x)
 |assign x=>exact congrArg (fun v=>some (v,F)) (QBL e x)
 |pick x y z=>
  show okV F (QRe ((evE n x).run e) ((evE n y).run e) ((evE n z).run e))=okV F (QOU _ _ _);rw[QP0,QBL,QBL,QBL]
 |nilCheck x=>exact congrArg (fun v=>okV F (QCv v)) (QBL e x)
 |binOp op t x y yt=>
  show okV F (QTq P op t ((evE n x).run e) ((evE n y).run e) y)=okV F (QCQ P op t _ _ y);rw[QRB,QBL,QBL]
 |unOp u t x=>
  cases u with
  |not=>
   show okV F (QUA ((evE n x).run e))=okV F (unC .not _);rw[QRZ,QBL]
  |_=>rw[←QNf];rfl
 |fieldAddr t x f=>
  show _=okV F (QAo P t ((faE n e).eval x) f);rw[QGJ,←QBL];unfold cmE;dsimp only
  cases foK P t f <;> rfl
 |indexAddr t x i=>
  show _=okV F (QAj P t ((faE n e).eval x) ((faE n e).eval i));rw[QGQ,←QBL,←QBL];unfold cmE;dsimp only
  cases ixK P t <;> rfl
 |alloc t=>
  show _=QNB P t F;unfold cmE QNB;dsimp only
  cases QKJ P t with
  |none=>rfl
  |some z=>exact QOH t z.cells F
 |box t x=>
  show QSu t ((evE n x).run e).cells F=QQr F t ((faE n e).eval x).cells;rw[QOH,QBL]
 |load t x=>
  show _=okV F (QFG P t ((faE n e).eval x) F);rw[QGR,←QBL];unfold cmE;dsimp only;rcases ldK P t with _|_|m
  ·
   rfl
  ·
   exact congrArg (okV F) (QN3 _ F)
  ·
   exact congrArg (okV F) (QN4 m _ F)
 |store t x v=>
  show _=okU (QEx P B t ((faE n e).eval x) ((faE n e).eval v) F);rw[QKE,←QBL,←QBL];unfold cmE;dsimp only
  cases QQF P t with
  |none=>rfl
  |some m=>exact QTV F _
 |_=>rw[←QNf];rfl
theorem QSb(c:Cm)(e:Ev12)(F:Fw):(cmV c).run e F=(c.sem e F).map (·.1):=by
 cases c with
 |tot f=>rfl
 |par f=>
  show f e F=(okV F (f e F)).map (·.1)
  cases f e F <;> rfl
 |mem f=>
  show ore (pre fun v _=>some v) (f e F)=(f e F).map (·.1)
  cases f e F <;> rfl
theorem QNT(op:Op)(e:Ev12)(F:Fw):(cmV (cmE P B n op)).run e F=(doF P B (faE n e).eval op F).map (·.1):=by rw[QSb,QKU]
variable {P : Program} {B n : Nat} {ent : FuncId → Bool} {call : QBj}
theorem QBI {β γ:Type}{k:β→Option γ}{x:Option β}{r:γ}(h:ore k x=some r):∃b,x=some b∧k b=some r:=by
 cases x with
 |none=>cases h
 |some b=>exact⟨b,rfl,h⟩
theorem QAi {β:Type}{y:Option β}{b:Bool}{r:β}(h:bre none y b=some r):b=true∧y=some r:=by
 cases b with
 |false=>cases h
 |true=>exact⟨rfl,h⟩
def QF0(P:Program)(B n:Nat)(ent:FuncId→Bool)(call:QBj)(o:Oper)(e:Ev12)(F:Fw)(run:(Ev12→Fw→QET)→QET):Prop:=
 (∀k,run k=none)∨(∃ch F1,QBd P B ent call o (faE n e) F=some (.pan ch (faE n e) F1)∧∀k,run k=some (.pan ch,e,F1))∨
 (∃e1 F1,QBd P B ent call o (faE n e) F=some (.next (faE n e1) F1)∧∀k,run k=k e1 F1)
theorem QLT(hn:n≤289)(o:Oper)(c:Cm)(e:Ev12)(F:Fw)(h:c.sem e F=doF P B (faE n e).eval o.op F):QF0 P B n ent call o e F ((QSa o.dst c).run call e F):=by
 have next:∀v F1,doF P B (faE n e).eval o.op F=some (v,F1)→QBd P B ent call o (faE n e) F=some (.next (faE n ((QDQ o.dst).run v e)) F1):=fun v F1 hd=>by
  unfold QBd;rw[hd,QCT hn]
 cases c with
 |tot f=>exact .inr (.inr ⟨_,F,next (f e) F h.symm,fun _=>rfl⟩)
 |par f=>
  have h':okV F (f e F)=doF P B (faE n e).eval o.op F:=h
  cases hf:f e F with
  |none=>exact .inl fun k=>by show ore _ (f e F)=none;rw[hf];rfl
  |some v=>
   rw[hf]at h';exact .inr (.inr ⟨_,F,next v F h'.symm,fun k=>by show ore _ (f e F)=_;rw[hf];rfl⟩)
 |mem f=>
  have h':f e F=doF P B (faE n e).eval o.op F:=h
  cases hf:f e F with
  |none=>exact .inl fun k=>by show ore _ (f e F)=none;rw[hf];rfl
  |some r=>
   obtain⟨v,F1⟩:=r;rw[hf]at h';exact .inr (.inr ⟨_,F1,next v F1 h'.symm,fun k=>by show ore _ (f e F)=_;rw[hf];rfl⟩)
theorem QLI(k:Nat)(d:Deferred)(e:Ev12):(QGi k).run (QGp d e)=(QGi k).run e:=by
 match k with
 |0=>rfl
 |1=>rfl
 |2=>rfl
 |3=>rfl
 |4=>rfl
 |5=>rfl
 |6=>rfl
 |7=>rfl
 |8=>rfl
 |9=>rfl
 |10=>rfl
 |11=>rfl
 |12=>rfl
 |13=>rfl
 |14=>rfl
 |15=>rfl
 |16=>rfl
 |k+17=>rfl
theorem QMn(k:Nat)(d:List Deferred)(e:Ev12):(QGi k).run (QMo d e)=(QGi k).run e:=by
 match k with
 |0=>rfl
 |1=>rfl
 |2=>rfl
 |3=>rfl
 |4=>rfl
 |5=>rfl
 |6=>rfl
 |7=>rfl
 |8=>rfl
 |9=>rfl
 |10=>rfl
 |11=>rfl
 |12=>rfl
 |13=>rfl
 |14=>rfl
 |15=>rfl
 |16=>rfl
 |k+17=>rfl
theorem QPI(d:Deferred)(e:Ev12):faE n (QGp d e)=⟨QBA n e,d::e.ds⟩:=by
 have:QBA n (QGp d e)=QBA n e:=by
  unfold QBA;refine List.map_congr_left fun t _=>?_
  unfold QM2;rw[QLI]
 show(⟨QBA n (QGp d e),(QGp d e).ds⟩:Fa)=_;rw[this];rfl
theorem QP9(d:List Deferred)(e:Ev12):faE n (QMo d e)=⟨QBA n e,d⟩:=by
 have:QBA n (QMo d e)=QBA n e:=by
  unfold QBA;refine List.map_congr_left fun t _=>?_
  unfold QM2;rw[QMn]
 show(⟨QBA n (QMo d e),(QMo d e).ds⟩:Fa)=_;rw[this];rfl
theorem QMV(hn:n≤289)(dst:Option Tmp)(v:Value)(d:Deferred)(e:Ev12):faE n ((QDQ dst).run v (QGp d e))=(⟨QBA n e,d::e.ds⟩:Fa).put dst v:=by
 rw[QCT hn,QPI]
theorem QPA(hn:n≤289)(o:Oper)(e:Ev12)(F:Fw):QF0 P B n ent call o e F ((stE P B n ent o).run call e F):=by
 unfold stE
 split
 ·
  rename_i k ho
  have hdo:∀f,k.callee= .value f→doF P B (faE n e).eval o.op F=none:=fun f hf=>by
   rw[ho];show QCa P B _ k F=none;unfold QCa;rw[hf]
  split
  ·
   rename_i f hf
   have hst:QBd P B ent call o (faE n e) F=QDG ent call o k (faE n e) F:=by
    unfold QBd;rw[hdo f hf];show QFe ent call o o.op (faE n e) F=_;rw[ho];rfl
   show QF0 P B n ent call o e F fun kk=>QSW (fun v F1=>kk ((QDQ o.dst).run v e) F1) e (QPb ent call ((evE n f).run e) ((arE n k.args.toList).run e) F)
   rw[QBL,QQQ]
   cases hc:QPb ent call ((faE n e).eval f) (k.args.toList.map (faE n e).eval) F with
   |none=>exact .inl fun kk=>rfl
   |some r=>
    obtain⟨q,F1⟩:=r;unfold QPb at hc
    split at hc
    ·
     rename_i g first cap hg
     obtain⟨hent,hc⟩:=QAi hc;rw[QHv,QHv]at hc
     have hcall:QDG ent call o k (faE n e) F=(match call g (first.toList++(k.args.toList.map (faE n e).eval++cap.toList)) F with
       |some (.ret v,F1)=>some (.next ((faE n e).put o.dst v) F1)
       |some (.pan ch,F1)=>some (.pan ch (faE n e) F1)
       |none=>none):=by
      unfold QDG;simp only[hf,hg,hent,if_true];rfl
     rw[hc]at hcall
     cases q with
     |ret v=>exact .inr (.inr ⟨(QDQ o.dst).run v e,F1,by rw[hst,hcall,QCT hn],fun kk=>rfl⟩)
     |pan ch=>exact .inr (.inl ⟨ch,F1,by rw[hst,hcall],fun kk=>rfl⟩)
    ·
     cases hc
  ·
   have:(QSa o.dst (cmE P B n o.op))=(QSa o.dst (cmE P B n o.op)):=rfl;exact QLT hn o _ e F (QKU _ e F)
 ·
  rename_i k ho;have hdo:doF P B (faE n e).eval o.op F=none:=by rw[ho];rfl
  have hst:QBd P B ent call o (faE n e) F=QEE o k (faE n e) F:=by
   unfold QBd;rw[hdo];show QFe ent call o o.op (faE n e) F=_;rw[ho];rfl
  split
  ·
   rename_i f hf;show QF0 P B n ent call o e F fun kk=>QTv o.dst ((evE n f).run e) ((arE n k.args.toList).run e) e F kk
   rw[QBL,QQQ];unfold QTv
   split
   ·
    rename_i g first cap hg
    refine .inr (.inr ⟨_,F,?_,fun kk=>rfl⟩);rw[hst,QMV hn,QHv];unfold QEE;simp only[hf,hg];rfl
   ·
    exact .inl fun kk=>rfl
  ·
   exact .inl fun kk=>rfl
 ·
  rename_i x ho;have hdo:doF P B (faE n e).eval o.op F=none:=by rw[ho];rfl
  have hst:QBd P B ent call o (faE n e) F=QFI ((faE n e).eval x) (faE n e) F:=by
   unfold QBd;rw[hdo];show QFe ent call o o.op (faE n e) F=_;rw[ho];rfl
  show QF0 P B n ent call o e F fun _=>QUC ((evE n x).run e) e F
  rw[QBL];unfold QUC
  split
  ·
   rename_i t v hv;refine .inr (.inl ⟨_,F,?_,fun kk=>rfl⟩);rw[hst,hv];rfl
  ·
   exact .inl fun kk=>rfl
 ·
  exact QLT hn o _ e F (QKU _ e F)
noncomputable def Wk.on(w:Wk)(e:Ev12):Bool:=match w with
 | .yes=>true
 | .no=>false
 | .slot b g=>QHR b (g.run e)
theorem QNs(b:Bool)(v:Value):QHR b v=((match v with| .bool c=>some c|_=>none)==some b):=by
 cases v with
 |bool c=>cases b <;> cases c <;> rfl
 |_=>rfl
theorem QKH(ops:Array Oper)(o:Oper)(e:Ev12):(waE n ops o).on e=QAb ops o (faE n e):=by
 unfold waE QAb Region.wanted
 cases hg:o.guard with
 |none=>rfl
 |some g=>
  obtain⟨j,b⟩:=g;simp only[hg];unfold yielded
  cases hd:(ops[j]?).bind (·.dst)with
  |none=>rfl
  |some t=>
   simp only[Option.bind_some];show QHR b ((geR n t).run e)=_;rw[QNs,QHP];show _=((match (⟨QBA n e⟩:Array Value)[t]? with|some (.bool b)=>some b|_=>none)==some b);rw[QA5]
   by_cases ht:t<(⟨QBA n e⟩:Array Value).size
   ·
    rw[getElem?_of_getD ht];show _=((match some ((QBA n e).toArray.getD t undef)with|some (.bool b)=>some b|_=>none)==some b);generalize (QBA n e).toArray.getD t undef=v
    cases v <;> rfl
   ·
    rw[Array.getElem?_eq_none (Nat.le_of_not_lt ht)]
    have e1:(QBA n e).toArray.getD t undef=undef:=by
     have:¬t<(QBA n e).length:=ht;simp[Array.getD,this]
    rw[e1];rfl
theorem QFE(x y:Rg)(w:Wk)(e:Ev12)(F:Fw):(QEg x y w).run call e F=if w.on e=true then y.run call e F else x.run call e F:=by
 cases w with
 |yes=>rfl
 |no=>rfl
 |slot b g=>exact QHG _ _ _
theorem QME(x y:Sl)(w:Wk)(e:Ev12)(F:Fw):(QNp x y w).run e F=if w.on e=true then y.run e F else x.run e F:=by
 cases w with
 |yes=>rfl
 |no=>rfl
 |slot b g=>exact QHG _ _ _
theorem QMD(x y:Sm)(w:Wk)(e:Ev12)(F:Fw):(QQk x y w).run e F=if w.on e=true then y.run e F else x.run e F:=by
 cases w with
 |yes=>rfl
 |no=>rfl
 |slot b g=>exact QHG _ _ _
theorem QIa(hn:n≤289)(ops:Array Oper):∀(l:List Oper) (e:Ev12) (F:Fw) (o:Out) (e1:Ev12) (F1:Fw),(QQu P B n ent ops l).run call e F=some (o,e1,F1)→QOM P B ent call ops l (faE n e) F=some (o,faE n e1,F1)
 | [],e,F,o,e1,F1,h=>by
  have h:some (Out.normal,e,F)=some (o,e1,F1):=h;injection h with h
  injection h with h1 h2
  injection h2 with h2 h3
  subst h1 h2 h3;rfl
 |op::l,e,F,o,e1,F1,h=>by
  have h:(QEg ⟨fun call e F=>(QQu P B n ent ops l).run call ((QDQ op.dst).run undef e) F⟩ ⟨fun call e F=>(stE P B n ent op).run call e F ((QQu P B n ent ops l).run call)⟩ (waE n ops op)).run call e F=some (o,e1,F1):=h;rw[QFE,QKH]at h;unfold QOM
  by_cases hw:QAb ops op (faE n e)=true
  ·
   rw[if_pos hw]at h;rw[if_pos hw];have h:(stE P B n ent op).run call e F ((QQu P B n ent ops l).run call)=some (o,e1,F1):=h;rcases QPA hn op e F with hk|⟨ch,F2,hs,hk⟩|⟨e2,F2,hs,hk⟩
   ·
    rw[hk]at h;cases h
   ·
    rw[hk]at h;injection h with h
    injection h with h1 h2
    injection h2 with h2 h3
    subst h1 h2 h3;rw[hs]
   ·
    rw[hk]at h;rw[hs];exact QIa hn ops l e2 F2 o e1 F1 h
  ·
   rw[if_neg hw]at h;rw[if_neg hw];have h:(QQu P B n ent ops l).run call ((QDQ op.dst).run undef e) F=some (o,e1,F1):=h;have:=QIa hn ops l _ F o e1 F1 h;rw[QCT hn]at this;exact this
theorem QKq {ρ:Operand→Value}{op:Op}{F F1:Fw}{v:Value}(hr:QLZ op=true)(h:doF P B ρ op F=some (v,F1)):(match QGZ P ρ op with|some v=>some v|none=>QP4 P ρ op F)=some v:=by
 have key:∀r:Option Value,okV F r=some (v,F1)→r=some v:=fun r hr=>by
  cases r with
  |none=>cases hr
  |some u=>simp only[okV,Option.some.injEq,Prod.mk.injEq]at hr;rw[hr.1]
 cases op with
 |move x=>simp only[doF,Option.some.injEq,Prod.mk.injEq]at h;simp only[QGZ,h.1]
 |assign x=>simp only[doF,Option.some.injEq,Prod.mk.injEq]at h;simp only[QGZ,h.1]
 |makeFunc fn xs ys=>simp only[doF,Option.some.injEq,Prod.mk.injEq]at h;simp only[QGZ,h.1]
 |load t x=>exact key _ h
 |lookup t x k ok=>exact key _ h
 |slice t x lo hi mx=>
  cases lo with
  |none=>cases hr
  |some lo=>
   cases hi with
   |some _=>cases hr
   |none=>
    cases mx with
    |some _=>cases hr
    |none=>exact key _ h
 |call k=>
  obtain⟨callee,args,ts⟩:=k
  cases callee with
  |builtin b=>cases b <;> first|(have:=key _ h;simp only[QGZ,this])|cases hr
  |_=>cases hr
 |_=>first|(have:=key _ h;simp only[QGZ,this])|cases hr
theorem QEw(hn:n≤289)(ops:Array Oper):∀(l:List Oper) (e:Ev12) (F:Fw) (e1:Ev12),(QEv P B n ops l).run e F=some e1→QD9 P ops l (faE n e) F=some (faE n e1)
 | [],e,F,e1,h=>by
  have h:some e=some e1:=h;injection h with h
  subst h;rfl
 |op::l,e,F,e1,h=>by
  have h:(QNp ⟨fun e F=>(QEv P B n ops l).run ((QDQ op.dst).run undef e) F⟩
   (bre ⟨fun _ _=>none⟩ ⟨fun e F=>ore (fun v=>(QEv P B n ops l).run ((QDQ op.dst).run v e) F) ((cmV (cmE P B n op.op)).run e F)⟩ (QLZ op.op)) (waE n ops op)).run e F=some e1:=h
  rw[QME,QKH]at h;unfold QD9
  by_cases hw:QAb ops op (faE n e)=true
  ·
   rw[if_pos hw]at h;rw[if_pos hw]
   cases hr:QLZ op.op with
   |false=>rw[hr]at h;cases h
   |true=>
    rw[hr]at h;have h:ore (fun v=>(QEv P B n ops l).run ((QDQ op.dst).run v e) F) ((cmV (cmE P B n op.op)).run e F)=some e1:=h;obtain⟨v,hv,h⟩:=QBI h;rw[QNT]at hv
    cases hd:doF P B (faE n e).eval op.op F with
    |none=>rw[hd]at hv;cases hv
    |some r=>
     obtain⟨u,F2⟩:=r;rw[hd]at hv;simp only[Option.map_some,Option.some.injEq]at hv;subst hv;have hq:=QKq hr hd;have ih:=QEw hn ops l _ F e1 h;rw[QCT hn]at ih
     cases hp:QGZ P (faE n e).eval op.op with
     |some u2=>
      rw[hp]at hq;simp only[Option.some.injEq]at hq;subst hq;exact ih
     |none=>
      rw[hp]at hq;dsimp only at hq ⊢;rw[hq];exact ih
  ·
   rw[if_neg hw]at h;rw[if_neg hw];have h:(QEv P B n ops l).run ((QDQ op.dst).run undef e) F=some e1:=h;have:=QEw hn ops l _ F e1 h;rw[QCT hn]at this;exact this
theorem QTO(ops:Array Oper)(j:Nat)(e:Ev12)(F:Fw):(smE P B n ops j).run e F=QIl P B ops (faE n e) F j:=by
 unfold smE QIl
 cases ops[j]? with
 |none=>rfl
 |some o=>
  dsimp only
  cases o.dst with
  |none=>rfl
  |some t=>
   dsimp only;rw[QMD,QKH]
   by_cases hw:QAb ops o (faE n e)=true
   ·
    rw[if_pos hw,if_pos hw];show beqO ((geR n t).run e) ((cmV (cmE P B n o.op)).run e F)=_;rw[QNT,QHP]
    cases doF P B (faE n e).eval o.op F with
    |none=>rfl
    |some r=>rfl
   ·
    rw[if_neg hw,if_neg hw];show QLN 9 undef ((geR n t).run e)=_;rw[QHP];rfl
theorem QO8(ops:Array Oper)(l:List Nat)(e:Ev12)(F:Fw):(QPO P B n ops l).run e F=l.all (QIl P B ops (faE n e) F):=by
 induction l with
 |nil=>rfl
 |cons j l ih=>
  show bre false ((QPO P B n ops l).run e F) ((smE P B n ops j).run e F)=_;rw[ih,QTO,QHG,List.all_cons]
  cases QIl P B ops (faE n e) F j <;> simp
theorem QDT(hn:n≤289)(ops:Array Oper):∀(l pend:List Nat) (e:Ev12) (F:Fw) (o:Out) (e1:Ev12) (F1:Fw),(QCe P B n ent ops l pend).run call e F=some (o,e1,F1)→QDH P B ent call ops l pend (faE n e) F=some (o,faE n e1,F1)
 | [],pend,e,F,o,e1,F1,h=>by
  have h:some (Out.normal,e,F)=some (o,e1,F1):=h;injection h with h
  injection h with h1 h2
  injection h2 with h2 h3
  subst h1 h2 h3;rfl
 |j::l,pend,e,F,o,e1,F1,h=>by
  have h:(match ops[j]? with
   |some o=>bre
     (QEg ⟨fun call e F=>bre none ((QCe P B n ent ops l (pend.filter fun k=>!QAd o k)).run call ((QDQ o.dst).run undef e) F) ((QPO P B n ops (pend.filter fun k=>!QAd o k)).run ((QDQ o.dst).run undef e) F)⟩
      ⟨fun call e F=>(stE P B n ent o).run call e F fun e1 F1=>bre none ((QCe P B n ent ops l (pend.filter fun k=>!QAd o k)).run call e1 F1) ((QPO P B n ops (pend.filter fun k=>!QAd o k)).run e1 F1)⟩ (waE n ops o))
     (QEg ⟨fun call e F=>(QCe P B n ent ops l (j::pend)).run call ((QDQ o.dst).run undef e) F⟩
      ⟨fun call e F=>ore (fun v=>(QCe P B n ent ops l (j::pend)).run call ((QDQ o.dst).run v e) F) ((cmV (cmE P B n o.op)).run e F)⟩ (waE n ops o)) (QMG ops o)
   |none=>⟨fun _ _ _=>none⟩).run call e F=some (o,e1,F1):=h
  unfold QDH
  cases hj:ops[j]? with
  |none=>rw[hj]at h;cases h
  |some op=>
   rw[hj]at h;dsimp only at h ⊢
   cases hf:QMG ops op with
   |true=>
    rw[hf]at h;rw[if_pos rfl]
    have h:(QEg ⟨fun call e F=>(QCe P B n ent ops l (j::pend)).run call ((QDQ op.dst).run undef e) F⟩
      ⟨fun call e F=>ore (fun v=>(QCe P B n ent ops l (j::pend)).run call ((QDQ op.dst).run v e) F) ((cmV (cmE P B n op.op)).run e F)⟩ (waE n ops op)).run call e F=some (o,e1,F1):=h
    rw[QFE,QKH]at h
    by_cases hw:QAb ops op (faE n e)=true
    ·
     rw[if_pos hw]at h;rw[if_pos hw];have h:ore (fun v=>(QCe P B n ent ops l (j::pend)).run call ((QDQ op.dst).run v e) F) ((cmV (cmE P B n op.op)).run e F)=some (o,e1,F1):=h;obtain⟨v,hv,h⟩:=QBI h;rw[QNT]at hv
     cases hd:doF P B (faE n e).eval op.op F with
     |none=>rw[hd]at hv;cases hv
     |some r=>
      obtain⟨u,F2⟩:=r;rw[hd]at hv;simp only[Option.map_some,Option.some.injEq]at hv;subst hv;have ih:=QDT hn ops l (j::pend) _ F o e1 F1 h;rw[QCT hn]at ih;exact ih
    ·
     rw[if_neg hw]at h;rw[if_neg hw];have h:(QCe P B n ent ops l (j::pend)).run call ((QDQ op.dst).run undef e) F=some (o,e1,F1):=h;have ih:=QDT hn ops l (j::pend) _ F o e1 F1 h;rw[QCT hn]at ih;exact ih
   |false=>
    rw[hf]at h;rw[if_neg (by simp)]
    have h:(QEg ⟨fun call e F=>bre none ((QCe P B n ent ops l (pend.filter fun k=>!QAd op k)).run call ((QDQ op.dst).run undef e) F) ((QPO P B n ops (pend.filter fun k=>!QAd op k)).run ((QDQ op.dst).run undef e) F)⟩
      ⟨fun call e F=>(stE P B n ent op).run call e F fun e1 F1=>bre none ((QCe P B n ent ops l (pend.filter fun k=>!QAd op k)).run call e1 F1) ((QPO P B n ops (pend.filter fun k=>!QAd op k)).run e1 F1)⟩ (waE n ops op)).run call e F=some (o,e1,F1):=h
    rw[QFE,QKH]at h
    by_cases hw:QAb ops op (faE n e)=true
    ·
     rw[if_pos hw]at h;rw[if_pos hw];have h:(stE P B n ent op).run call e F (fun e1 F1=>bre none ((QCe P B n ent ops l (pend.filter fun k=>!QAd op k)).run call e1 F1) ((QPO P B n ops (pend.filter fun k=>!QAd op k)).run e1 F1))=some (o,e1,F1):=h;rcases QPA hn op e F with hk|⟨ch,F2,hs,hk⟩|⟨e2,F2,hs,hk⟩
     ·
      rw[hk]at h;cases h
     ·
      rw[hk]at h;injection h with h
      injection h with h1 h2
      injection h2 with h2 h3
      subst h1 h2 h3;rw[hs]
     ·
      rw[hk]at h;rw[hs];obtain⟨hb,h⟩:=QAi h;rw[QO8]at hb;dsimp only;rw[if_pos hb];exact QDT hn ops l _ e2 F2 o e1 F1 h
    ·
     rw[if_neg hw]at h;rw[if_neg hw];have h:bre none ((QCe P B n ent ops l (pend.filter fun k=>!QAd op k)).run call ((QDQ op.dst).run undef e) F) ((QPO P B n ops (pend.filter fun k=>!QAd op k)).run ((QDQ op.dst).run undef e) F)=some (o,e1,F1):=h;obtain⟨hb,h⟩:=QAi h;rw[QO8,QCT hn]at hb;rw[if_pos hb];have ih:=QDT hn ops l _ _ F o e1 F1 h;rw[QCT hn]at ih;exact ih
end Go.Proofs.YtjnclkakbopnjaaGreatDoor
