/- XSimZe -/
import Derived.Test.YtjnclkakbopnjaaGreatDoorLot25
set_option linter.unusedSimpArgs false
set_option linter.unusedVariables false
namespace Go.Proofs.YtjnclkakbopnjaaGreatDoor
open Go.Proofs.Tryz
open Go.RowKit
variable {P : Program} {B n : Nat} {ent : FuncId → Bool} {call : QBj}
theorem QN6(l:List Value)(h:Nat.ble (QN5 l) n=true):l.length≤n:=by
 rw[←QIR];exact Nat.le_of_ble_eq_true h
theorem QRa(hn:n≤289){a:Fa}{e:Ev12}(h:QTi n a=some e):faE n e=a:=by
 unfold QTi at h;obtain⟨hb,h⟩:=QAi h;injection h with h
 subst h;have hl:a.tmps.length=n:=by rw[←QIR];exact Nat.eq_of_beq_eq_true hb
 rw[QP9,QJZ a.tmps n (by omega) hn];have:n - a.tmps.length=0:=by omega
 rw[this];simp
theorem QR2(hn:n≤289){plans:Nat→Option QAZ}{id:Nat}{ops:Array Oper}{draw:Bool}{e e1:Ev12}{F F1:Fw}{o:Out}{m:Nat}
  (h:(QUE P B n ent plans id ops draw).run call e F=some (o,e1,F1)):QAu P B ent call plans (m+1) (.region id ops draw) (faE n e) F=some (o,faE n e1,F1):=by
 simp only[QAu]
 cases draw with
 |false=>exact QIa hn ops ops.toList e F o e1 F1 h
 |true=>
  rw[if_pos rfl];unfold QUE at h;dsimp only at h
  cases hp:plans id with
  |none=>rw[hp]at h;cases h
  |some p=>
   rw[hp]at h
   cases p with
   |still=>
    have h:ore (fun e1=>some (Out.normal,e1,F)) ((QEv P B n ops ops.toList).run e F)=some (o,e1,F1):=h;obtain⟨e2,h2,h⟩:=QBI h;injection h with h
    injection h with h3 h
    injection h with h4 h5
    subst h3 h4 h5;rw[QEw hn ops _ e F e2 h2]
   |tail k=>
    have h:ore (fun e1=>(QQu P B n ent ops (ops.toList.drop k)).run call e1 F) ((QEv P B n ops (ops.toList.take k)).run e F)=some (o,e1,F1):=h;obtain⟨e2,h2,h⟩:=QBI h;dsimp only;rw[QEw hn ops _ e F e2 h2];exact QIa hn ops _ e2 F o e1 F1 h
   |tree p=>
    have h:didE n (QCy P B ent call ops p (faE n e) F)=some (o,e1,F1):=h;dsimp only
    cases hd:QCy P B ent call ops p (faE n e) F with
    |none=>rw[hd]at h;cases h
    |some d=>
     rw[hd]at h;have h:ore (fun e=>some (d.out,e,d.F)) (QTi n d.a)=some (o,e1,F1):=h;obtain⟨e2,h2,h⟩:=QBI h;injection h with h
     injection h with h3 h
     injection h with h4 h5
     subst h3 h4 h5;rw[QRa hn h2]
   |float l=>exact QDT hn ops l [] e F o e1 F1 h
theorem QLi {k:Ev12→Fw→QET}{r:QET}{o:Out}{e1:Ev12}{F1:Fw}(h:onR k r=some (o,e1,F1)):
  (∃e2 F2,r=some (.normal,e2,F2)∧k e2 F2=some (o,e1,F1))∨(r=some (o,e1,F1)∧o≠ .normal):=by
 obtain⟨⟨o2,e2,F2⟩,hr,h⟩:=QBI h
 cases o2 with
 |normal=>exact .inl ⟨e2,F2,hr,h⟩
 |exit i=>
  have h':some (Out.exit i,e2,F2)=some (o,e1,F1):=h;injection h' with h'
  injection h' with h1 h2
  injection h2 with h2 h3
  subst h1 h2 h3;exact .inr ⟨hr,by simp⟩
 |ret=>
  have h':some (Out.ret,e2,F2)=some (o,e1,F1):=h;injection h' with h'
  injection h' with h1 h2
  injection h2 with h2 h3
  subst h1 h2 h3;exact .inr ⟨hr,by simp⟩
 |pan ch=>
  have h':some (Out.pan ch,e2,F2)=some (o,e1,F1):=h;injection h' with h'
  injection h' with h1 h2
  injection h2 with h2 h3
  subst h1 h2 h3;exact .inr ⟨hr,by simp⟩
theorem QLU(hn:n≤289){plans:Nat→Option QAZ}(code:Code):∀(m:Nat) (e:Ev12) (F:Fw) (o:Out) (e1:Ev12) (F1:Fw),(QF9 P B n ent plans code).run call m e F=some (o,e1,F1)→
  QAu P B ent call plans m code (faE n e) F=some (o,faE n e1,F1):=by
 have norm:∀{x y:Out} {e e1:Ev12} {F F1:Fw},some (x,e,F)=some (y,e1,F1)→some (x,faE n e,F)=some (y,faE n e1,F1):=fun h=>by
  injection h with h
  injection h with h1 h
  injection h with h2 h3
  rw[h1,h2,h3]
 have go:∀{x:Option (Out × Fa × Fw)} {o:Out} {a:Fa} {F:Fw} {k:Fa→Fw→Option (Out × Fa × Fw)},x=some (o,a,F)→o≠ .normal→(match x with|some (.normal,a1,F1)=>k a1 F1|r=>r)=some (o,a,F):=fun hx ho=>by
  subst hx
  cases ‹Out› with
  |normal=>exact absurd rfl ho
  |_=>rfl
 induction code with
 |skip=>
  intro m e F o e1 F1 h
  cases m with
  |zero=>cases h
  |succ m=>simp only[QAu];exact norm h
 |label l=>
  intro m e F o e1 F1 h
  cases m with
  |zero=>cases h
  |succ m=>simp only[QAu];exact norm h
 |exit i=>
  intro m e F o e1 F1 h
  cases m with
  |zero=>cases h
  |succ m=>simp only[QAu];exact norm h
 |ret=>
  intro m e F o e1 F1 h
  cases m with
  |zero=>cases h
  |succ m=>simp only[QAu];exact norm h
 |region id ops draw=>
  intro m e F o e1 F1 h
  cases m with
  |zero=>cases h
  |succ m=>exact QR2 hn h
 |seq x y ihx ihy=>
  intro m e F o e1 F1 h
  cases m with
  |zero=>cases h
  |succ m=>
   have h:onR ((QF9 P B n ent plans y).run call m) ((QF9 P B n ent plans x).run call m e F)=some (o,e1,F1):=h;simp only[QAu];rcases QLi h with ⟨e2,F2,h1,h2⟩|⟨h1,h2⟩
   ·
    rw[ihx m e F _ _ _ h1];exact ihy m e2 F2 o e1 F1 h2
   ·
    exact go (ihx m e F _ _ _ h1) h2
 |cond k x y ihx ihy=>
  intro m e F o e1 F1 h
  cases m with
  |zero=>cases h
  |succ m=>
   have h:QPH none (fun b=>bre ((QF9 P B n ent plans y).run call m e F) ((QF9 P B n ent plans x).run call m e F) b) ((evE n k).run e)=some (o,e1,F1):=h;rw[QBL]at h;simp only[QAu]
   cases hk:(faE n e).eval k with
   |bool b=>
    rw[hk]at h
    cases b with
    |false=>exact ihy m e F o e1 F1 h
    |true=>exact ihx m e F o e1 F1 h
   |_=>rw[hk]at h;cases h
 |block id x ihx=>
  intro m e F o e1 F1 h
  cases m with
  |zero=>cases h
  |succ m=>
   have h:outR id ((QF9 P B n ent plans x).run call m e F)=some (o,e1,F1):=h;simp only[QAu];obtain⟨⟨o2,e2,F2⟩,hr,h⟩:=QBI h;rw[ihx m e F _ _ _ hr]
   cases o2 with
   |exit i=>
    have h:bre (some (Out.exit i,e2,F2)) (some (Out.normal,e2,F2)) (Nat.beq i id)=some (o,e1,F1):=h;dsimp only;rw[QHG,QND]at h
    by_cases hi:i=id
    ·
     rw[if_pos hi];rw[if_pos (by simpa using hi)]at h;exact norm h
    ·
     rw[if_neg hi];rw[if_neg (by simpa using hi)]at h;exact norm h
   |normal=>exact norm h
   |ret=>exact norm h
   |pan ch=>exact norm h
 |loop x ihx=>
  intro m
  induction m with
  |zero=>intro e F o e1 F1 h;cases h
  |succ m ih=>
   intro e F o e1 F1 h;have h:onR ((QF9 P B n ent plans (.loop x)).run call m) ((QF9 P B n ent plans x).run call m e F)=some (o,e1,F1):=h;simp only[QAu];rcases QLi h with ⟨e2,F2,h1,h2⟩|⟨h1,h2⟩
   ·
    rw[ihx m e F _ _ _ h1];exact ih e2 F2 o e1 F1 h2
   ·
    exact go (ihx m e F _ _ _ h1) h2
 |scope x ihx=>
  intro m e F o e1 F1 h
  cases m with
  |zero=>cases h
  |succ m=>
   simp only[QAu];exact ihx m e F o e1 F1 h
 |rangeFunc f ps x y _ _=>intro m e F o e1 F1 h;cases h
 |goto l=>intro m e F o e1 F1 h;cases h
 |refuse s=>intro m e F o e1 F1 h;cases h
theorem QTL(l:List ResultVar)(e:Ev12)(F:Fw):(rsE P n l).run e F=QMY P (QBA n e) F l:=by
 induction l with
 |nil=>rfl
 |cons x l ih=>
  cases x with
  |tmp t=>
   show ore (fun vs=>some ((geR n t).run e::vs)) ((rsE P n l).run e F)=_;rw[ih,QHP];simp only[QMY]
   cases QMY P (QBA n e) F l <;> rfl
  |cell x t=>
   simp only[QMY];rw[QGR,←ih,←QHP]
   show(match ldK P t with
    |some none=>(⟨fun e F=>ore (fun v=>ore (fun vs=>some (v::vs)) ((rsE P n l).run e F)) (QSo ((geR n x).run e) F)⟩:Rs)
    |some (some m)=>⟨fun e F=>ore (fun v=>ore (fun vs=>some (v::vs)) ((rsE P n l).run e F)) (QSq m ((geR n x).run e) F)⟩
    |none=>⟨fun _ _=>none⟩).run e F=_
   rcases ldK P t with _|_|m
   ·
    rfl
   ·
    show ore (fun v=>ore (fun vs=>some (v::vs)) ((rsE P n l).run e F)) (QSo ((geR n x).run e) F)=(match ld1 ((geR n x).run e) F,(rsE P n l).run e F with|some v,some vs=>some (v::vs)|_,_=>none);rw[QN3]
    cases ld1 ((geR n x).run e) F <;> cases (rsE P n l).run e F <;> rfl
   ·
    show ore (fun v=>ore (fun vs=>some (v::vs)) ((rsE P n l).run e F)) (QSq m ((geR n x).run e) F)=(match ldN m ((geR n x).run e) F,(rsE P n l).run e F with|some v,some vs=>some (v::vs)|_,_=>none);rw[QN4]
    cases ldN m ((geR n x).run e) F <;> cases (rsE P n l).run e F <;> rfl
theorem QLd {fn:Func}{args:List Value}(hl:args.length≤fn.ntmps)(hn:fn.ntmps≤289):faE fn.ntmps (QM3 args 0 unE)=QHt fn args:=by
 show(⟨QBA fn.ntmps (QM3 args 0 unE),(QM3 args 0 unE).ds⟩:Fa)=_;rw[QJZ args fn.ntmps hl hn,QRV args 0 unE (by omega)];rfl
theorem QQR {plans:Nat→Option QAZ}{fn:Func}{code:Code}{fuel:Nat}{args:List Value}{F F1:Fw}{o:Out}{e1:Ev12}(h:(bdE P B ent plans fn.ntmps code).run call fuel args F=some (o,e1,F1)):
  QAu P B ent call plans fuel code (QHt fn args) F=some (o,faE fn.ntmps e1,F1):=by
 unfold bdE at h
 cases hn:Nat.ble fn.ntmps 289 with
 |false=>rw[hn]at h;cases h
 |true=>
  rw[hn]at h;have h:bre none ((QF9 P B fn.ntmps ent plans code).run call fuel (QM3 args 0 unE) F) (Nat.ble (QN5 args) fn.ntmps)=some (o,e1,F1):=h;obtain⟨hl,h⟩:=QAi h;have hn':=Nat.le_of_ble_eq_true hn;have:=QLU hn' code fuel _ F o e1 F1 h;rw[QLd (QN6 args hl) hn']at this;exact this
theorem QGG {e:Ev12}{r:Option Fw}{F1:Fw}(h:QHK e r=some F1):(faE n e).defers.isEmpty=true∧r=some F1:=by
 unfold QHK at h
 cases hd:e.ds with
 |nil=>rw[hd]at h;exact⟨by show e.ds.isEmpty=true;rw[hd];rfl,h⟩
 |cons d l=>rw[hd]at h;cases h
theorem QGa {r:QET}{F1:Fw}(h:QLo r=some F1):∃o e1,r=some (o,e1,F1)∧(o= .normal∨o= .ret)∧(faE n e1).defers.isEmpty=true:=by
 obtain⟨⟨o,e1,F2⟩,hr,h⟩:=QBI h
 cases o with
 |normal=>
  have h:QHK e1 (some F2)=some F1:=h;obtain⟨h1,h2⟩:=QGG (n:=n) h;injection h2 with h2
  subst h2;exact⟨_,e1,hr,.inl rfl,h1⟩
 |ret=>
  have h:QHK e1 (some F2)=some F1:=h;obtain⟨h1,h2⟩:=QGG (n:=n) h;injection h2 with h2
  subst h2;exact⟨_,e1,hr,.inr rfl,h1⟩
 |exit i=>cases h
 |pan ch=>cases h
theorem QNX {plans:FuncId→Nat→Option QAZ}{f:FuncId}{fuel:Nat}{args:List Value}{F F1:Fw}(h:(deE P B ent plans f).plain call fuel args F=some F1):QEm P B ent call plans fuel f args F=some F1:=by
 unfold deE at h;unfold QEm
 cases hf:P.funcs[f]? with
 |none=>rw[hf]at h;cases h
 |some fn=>
  rw[hf]at h;dsimp only at h ⊢
  cases hb:fn.body with
  |none=>rw[hb]at h;cases h
  |some code=>
   rw[hb]at h;dsimp only at h ⊢
   cases hr:fn.results.toList.isEmpty with
   |false=>rw[hr]at h;cases h
   |true=>
    rw[hr]at h;have h:QLo ((bdE P B ent (plans f) fn.ntmps code).run call fuel args F)=some F1:=h;obtain⟨o,e1,h1,h2,h3⟩:=QGa (n:=fn.ntmps) h;rw[QQR h1];rcases h2 with rfl|rfl <;> exact if_pos ⟨h3,rfl⟩
theorem QPd {plans:FuncId→Nat→Option QAZ}{f:FuncId}{fuel:Nat}{args:List Value}{m:Option (List PanicEntry)}{F:Fw}{r:Fw × Option (List PanicEntry)}(h:(deE P B ent plans f).reco call fuel args m F=some r):QSK P B ent call plans fuel f args m F=some r:=by
 unfold deE at h;unfold QSK
 cases hf:P.funcs[f]? with
 |none=>rw[hf]at h;cases h
 |some fn=>
  rw[hf]at h;dsimp only at h ⊢
  cases hb:fn.body with
  |none=>rw[hb]at h;cases h
  |some code=>
   rw[hb]at h;dsimp only at h ⊢
   cases hr:fn.results.toList.isEmpty with
   |false=>rw[hr]at h;cases h
   |true=>
    rw[hr]at h
    cases hc:QK6 code with
    |none=>rw[hc]at h;cases h
    |some q=>
     obtain⟨o,rest⟩:=q;rw[hc]at h;have h:(bre (fun _ _ _ _ _=>none) (fun(call:QBj) fuel args m F=>bre none (QOg P B fn.ntmps ent (plans f) o rest call fuel args m F) (Nat.ble (QN5 args) fn.ntmps)) (Nat.ble fn.ntmps 289)) call fuel args m F=some r:=h
     cases hn:Nat.ble fn.ntmps 289 with
     |false=>rw[hn]at h;cases h
     |true=>
      rw[hn]at h;have h:bre none (QOg P B fn.ntmps ent (plans f) o rest call fuel args m F) (Nat.ble (QN5 args) fn.ntmps)=some r:=h;obtain⟨hl,h⟩:=QAi h;have hn':=Nat.le_of_ble_eq_true hn;obtain⟨⟨v,m1⟩,hv,h⟩:=QBI h;obtain⟨F1,hq,h⟩:=QBI h;injection h with h
      subst h;obtain⟨o2,e1,h1,h2,h3⟩:=QGa (n:=fn.ntmps) hq;have hcode:=QLU hn' rest fuel _ F o2 e1 F1 h1;rw[QCT hn',QLd (QN6 args hl) hn']at hcode;rw[hv];dsimp only;rw[hcode];rcases h2 with rfl|rfl <;> exact if_pos ⟨h3,rfl⟩
theorem QRN {fn:Func}{plans:FuncId→Nat→Option QAZ}{fuel:Nat}{may:Bool}(e:Ev12)(m:Option (List PanicEntry))(F:Fw):QQh P fn.ntmps fn.results.toList e m F=QCE P B ent call plans fuel fn (QBA fn.ntmps e) may [] m F:=by
 cases m with
 |none=>
  show ore (fun vs=>some (Res.ret (QOL vs),F)) ((rsE P fn.ntmps fn.results.toList).run e F)=_;rw[QTL];simp only[QCE]
  cases QMY P (QBA fn.ntmps e) F fn.results.toList <;> rfl
 |some ch=>rfl
theorem QHJ {β:Type}{k r:Option β}{x:β}(h:QNZ k r=some x):r=some x∨(r=none∧k=some x):=by
 cases r with
 |none=>exact .inr ⟨rfl,h⟩
 |some y=>exact .inl h
theorem QKu {fn:Func}{plans:FuncId→Nat→Option QAZ}{fuel:Nat}{may:Bool}{tmps:List Value}(d:Deferred)(ds:List Deferred)(m:Option (List PanicEntry))(F:Fw):
  QCE P B ent call plans fuel fn tmps may (d::ds) m F=(match d.target with
   | .fn (.func g) cap=>if ent g=true then(match QEm P B ent call plans fuel g (d.args.toList++cap.toList) F with
    |some F1=>QCE P B ent call plans fuel fn tmps may ds m F1
    |none=>if may=true then(match QSK P B ent call plans fuel g (d.args.toList++cap.toList) m F with
     |some (F1,m1)=>QCE P B ent call plans fuel fn tmps may ds m1 F1
     |none=>none) else none) else none
   |_=>none):=by
 cases m <;> (simp only[QCE];rfl)
theorem QK7 {plans:FuncId→Nat→Option QAZ}{f:FuncId}{fuel:Nat}{args:List Value}{F:Fw}{fn:Func}{code:Code}(hf:P.funcs[f]?=some fn)(hb:fn.body=some code){q:Oper × Code}(hc:QK6 code=some q):QEm P B ent call plans fuel f args F=none:=by
 obtain⟨o,rest⟩:=q;obtain⟨id,ops,k,rfl,hops,ho,hk,hg⟩:=QHc hc
 have h0:∀a F,QOM P B ent call ops ops.toList a F=none:=fun a F=>by
  rw[hops];unfold QOM;have hw:QAb ops o a=true:=by unfold QAb;rw[hg]
  rw[if_pos hw]
  have hst:QBd P B ent call o a F=none:=by
   unfold QBd;rw[ho]
   have:doF P B a.eval (.call k) F=none:=by
    show QCa P B a.eval k F=none;unfold QCa;rw[hk]
   rw[this];show QDG ent call o k a F=none;unfold QDG;rw[hk]
  rw[hst]
 unfold QEm;simp only[hf,hb]
 have hcode:QAu P B ent call (plans f) fuel (.seq (.region id ops false) rest) (QHt fn args) F=none:=by
  cases fuel with
  |zero=>rfl
  |succ fuel=>
   simp only[QAu]
   cases fuel with
   |zero=>rfl
   |succ fuel=>
    simp only[QAu];simp only[Bool.false_eq_true,if_false,h0]
 rw[hcode]
theorem QG2 {plans:FuncId→Nat→Option QAZ}{f:FuncId}{fuel:Nat}{args:List Value}{m:Option (List PanicEntry)}{F:Fw}{r:Fw × Option (List PanicEntry)}(h:(deE P B ent plans f).reco call fuel args m F=some r):QEm P B ent call plans fuel f args F=none:=by
 unfold deE at h
 cases hf:P.funcs[f]? with
 |none=>rw[hf]at h;cases h
 |some fn=>
  rw[hf]at h;dsimp only at h
  cases hb:fn.body with
  |none=>rw[hb]at h;cases h
  |some code=>
   rw[hb]at h;dsimp only at h
   cases hr:fn.results.toList.isEmpty with
   |false=>rw[hr]at h;cases h
   |true=>
    rw[hr]at h
    cases hc:QK6 code with
    |none=>rw[hc]at h;cases h
    |some q=>exact QK7 hf hb hc
theorem QEa {plans:FuncId→Nat→Option QAZ}{fuel:Nat}{fn:Func}{may:Bool}(e:Ev12):∀(ds:List Deferred) (m:Option (List PanicEntry)) (F:Fw) (r:Res × Fw),
  QL8 P B ent call plans fuel may (QQh P fn.ntmps fn.results.toList e) ds m F=some r→QCE P B ent call plans fuel fn (QBA fn.ntmps e) may ds m F=some r
 | [],m,F,r,h=>by
  have h:QQh P fn.ntmps fn.results.toList e m F=some r:=h;rw[QRN (ent:=ent) (call:=call) (B:=B) (plans:=plans) (fuel:=fuel) (may:=may)]at h;exact h
 |d::ds,m,F,r,h=>by
  have h:(match d.target with
   | .fn (.func g) cap=>bre none (QNZ (bre none (ore (pre fun F1 m1=>QL8 P B ent call plans fuel may (QQh P fn.ntmps fn.results.toList e) ds m1 F1) ((deE P B ent plans g).reco call fuel (QQP d.args.toList cap.toList) m F)) may)
     (ore (fun F1=>QL8 P B ent call plans fuel may (QQh P fn.ntmps fn.results.toList e) ds m F1) ((deE P B ent plans g).plain call fuel (QQP d.args.toList cap.toList) F))) (ent g)
   |_=>none)=some r:=h
  rw[QKu]
  split at h
  ·
   rename_i g cap hd;obtain⟨hent,h⟩:=QAi h;rw[if_pos hent];rw[QHv]at h;rcases QHJ h with h|⟨_,h⟩
   ·
    obtain⟨F1,hp,h⟩:=QBI h;rw[QNX hp];exact QEa e ds m F1 r h
   ·
    obtain⟨hmay,h⟩:=QAi h;obtain⟨⟨F1,m1⟩,hq,h⟩:=QBI h;rw[QG2 hq,QPd hq,if_pos hmay];exact QEa e ds m1 F1 r h
  ·
   cases h
theorem QSj {plans:FuncId→Nat→Option QAZ}{f:FuncId}{fuel:Nat}{args:List Value}{F:Fw}{r:Res × Fw}(h:(fnE P B ent plans f).run call fuel args F=some r):QPV P B ent plans fuel call f args F=some r:=by
 unfold fnE at h;unfold QPV
 cases hf:P.funcs[f]? with
 |none=>rw[hf]at h;cases h
 |some fn=>
  rw[hf]at h;dsimp only at h ⊢
  cases hb:fn.body with
  |none=>rw[hb]at h;cases h
  |some code=>
   rw[hb]at h;have h:endE (QA9 (plans f) code) (fun may e m F=>QL8 P B ent call plans fuel may (QQh P fn.ntmps fn.results.toList e) e.ds m F) ((bdE P B ent (plans f) fn.ntmps code).run call fuel args F)=some r:=h;dsimp only;obtain⟨⟨o,e1,F1⟩,hr,h⟩:=QBI h;rw[QQR hr]
   cases o with
   |normal=>exact QEa e1 e1.ds none F1 r h
   |ret=>exact QEa e1 e1.ds none F1 r h
   |pan ch=>
    have h:bre none (QL8 P B ent call plans fuel (QA9 (plans f) code) (QQh P fn.ntmps fn.results.toList e1) e1.ds (some ch) F1) (QMy ch)=some r:=h;obtain⟨hu,h⟩:=QAi h;show(if QMy ch=true then _ else none)=_;rw[if_pos hu];exact QEa e1 e1.ds (some ch) F1 r h
   |exit i=>cases h
theorem QGM {G:Nat}{w0:World}(hm:P.follows .mixedOrders=true)(hE:QE3 P ent){plans:FuncId→Nat→Option QAZ}(hP:QE5 P G plans){orc:FuncId→Oc}(hO:QCD P B G w0 fun f args F=>(orc f).run args F){fuel:Nat}:∀k:Nat,QCD P B G w0 (QPM P B ent plans orc fuel k)
 |0=>fun f args F r F1 h=>by cases h
 |k+1=>by
  intro f args F r F1 h L w args' hs ha;have hC:=QGM hm hE hP hO (fuel:=fuel) k;have h:QNZ ((fnE P B ent plans f).run (QPM P B ent plans orc fuel k) fuel args F) ((orc f).run args F)=some (r,F1):=h;rcases QHJ h with h|⟨_,h⟩
  ·
   exact hO f args F r F1 h L w args' hs ha
  ·
   exact QL2 hm hE hP hC f args F r F1 (QSj h) L w args' hs ha
end Go.Proofs.YtjnclkakbopnjaaGreatDoor
