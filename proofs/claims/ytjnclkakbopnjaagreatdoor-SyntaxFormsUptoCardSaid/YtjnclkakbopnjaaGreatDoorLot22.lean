/- XSimY -/
import Derived.Test.YtjnclkakbopnjaaGreatDoorLot21
set_option linter.unusedSimpArgs false
set_option linter.unusedVariables false
namespace Go.Proofs.YtjnclkakbopnjaaGreatDoor
open Go.Proofs.Tryz
open Go.RowKit
theorem QQf {α:Type}{f:α→α→Bool}(hf:∀x y,f x y=true→x=y):∀(xs ys:List α),eqL f xs ys=true→xs=ys
 | [], [],_=>rfl
 | [],_::_,h=>by simp[eqL]at h
 |_::_, [],h=>by simp[eqL]at h
 |x::xs,y::ys,h=>by
  simp only[eqL,Bool.and_eq_true]at h;rw[hf x y h.1,QQf hf xs ys h.2]
theorem QQc {a b:Option Addr}(h:eqA a b=true):a=b:=by
 unfold eqA at h
 split at h
 ·
  rfl
 ·
  simp only[Bool.and_eq_true,beq_iff_eq]at h;rw[h.1,h.2]
 ·
  cases h
theorem QRL {f g:Fn}(h:QTx f g=true):f=g:=by
 unfold QTx at h
 split at h
 ·
  rw[beq_iff_eq]at h;rw[h]
 ·
  cases h
theorem QHz:∀(d:Nat) (x y:Value),QLN d x y=true→x=y
 |0,_,_,h=>by simp[QLN]at h
 |d+1,x,y,h=>by
  have lst:∀xs us:Array Value,eqL (QLN d) xs.toList us.toList=true→xs=us:=fun xs us hh=>Array.ext' (QQf (QHz d) _ _ hh)
  unfold QLN at h
  split at h
  ·
   rw[beq_iff_eq]at h;rw[h]
  ·
   simp only[Bool.and_eq_true,decide_eq_true_eq,beq_iff_eq]at h;rw[h.1,h.2]
  ·
   rw[beq_iff_eq]at h;rw[ByteArray.ext (Array.ext' h)]
  ·
   rw[QQc h]
  ·
   simp only[Bool.and_eq_true,beq_iff_eq]at h;rw[QQc h.1.1,h.1.2,h.2]
  ·
   rw[beq_iff_eq]at h;rw[h]
  ·
   simp only[Bool.and_eq_true]at h;rw[QRL h.1.1,lst _ _ h.1.2,lst _ _ h.2]
  ·
   rfl
  ·
   rfl
  ·
   simp only[Bool.and_eq_true,beq_iff_eq]at h;rw[h.1,QHz d _ _ h.2]
  ·
   rw[lst _ _ h]
  ·
   rw[lst _ _ h]
  ·
   cases h
theorem QFS {P:Program}{ρ ρ':Operand→Value}{k:Call}(h:∀x∈k.args.toList,ρ x=ρ' x):QCb P ρ k=QCb P ρ' k:=by
 unfold QCb
 split
 ·
  split
  ·
   rename_i x t h1 h2;rw[h x (by rw[h1];simp)]
  ·
   rfl
 ·
  split
  ·
   rename_i x y h1;rw[h x (by rw[h1];simp),h y (by rw[h1];simp)]
  ·
   rfl
 ·
  rfl
theorem QGx {P:Program}{B:Nat}{ρ ρ':Operand→Value}{k:Call}(h:∀x∈k.args.toList,ρ x=ρ' x)(F:Fw):QCa P B ρ k F=QCa P B ρ' k F:=by
 unfold QCa
 split
 ·
  split
  ·
   rename_i x y t t2 h1 h2;rw[h x (by rw[h1];simp),h y (by rw[h1];simp)]
  ·
   rfl
 ·
  rw[QFS h]
 ·
  rw[QFS h]
 ·
  rfl
theorem QDs {α β:Type}{f g:α→β}{xs:Array α}(h:∀x∈xs.toList,f x=g x):xs.map f=xs.map g:=by
 apply Array.ext'
 simp only[Array.toList_map];exact List.map_congr_left h
theorem QEb {P:Program}{B:Nat}{ρ ρ':Operand→Value}{op:Op}(h:∀x∈op.operands.toList,ρ x=ρ' x)(F:Fw):doF P B ρ op F=doF P B ρ' op F:=by
 cases op with
 |build t ps=>
  have e:(ps.map fun(i,x)=>(i,ρ x))=ps.map fun(i,x)=>(i,ρ' x):=QDs fun p hp=>by
   obtain⟨i,x⟩:=p;have:=h x (by simp only[Op.operands,List.mem_map];exact⟨(i,x),hp,rfl⟩);simp only[this]
  show QI9 P ρ t ps F=QI9 P ρ' t ps F;unfold QI9;rw[e]
 |buildSlice t n ps=>
  have e:(ps.map fun(i,x)=>(i,ρ x))=ps.map fun(i,x)=>(i,ρ' x):=QDs fun p hp=>by
   obtain⟨i,x⟩:=p;have:=h x (by simp only[Op.operands,List.mem_map];exact⟨(i,x),hp,rfl⟩);simp only[this]
  show QC5 P ρ t n ps F=QC5 P ρ' t n ps F;unfold QC5;rw[e]
 |makeFunc fn xs ys=>
  have e1:xs.map ρ=xs.map ρ':=QDs fun x hx=>h x (by simp only[Op.operands,Array.toList_append,List.mem_append];exact .inl hx)
  have e2:ys.map ρ=ys.map ρ':=QDs fun x hx=>h x (by simp only[Op.operands,Array.toList_append,List.mem_append];exact .inr hx)
  show some (Value.func fn (xs.map ρ) (ys.map ρ),F)=some (Value.func fn (xs.map ρ') (ys.map ρ'),F);rw[e1,e2]
 |slice t x lo hi mx=>
  show QDg P ρ t x lo hi mx F=QDg P ρ' t x lo hi mx F;unfold QDg
  split
  ·
   rw[h x (by simp[Op.operands]),h _ (by simp[Op.operands])]
  ·
   rfl
 |call k=>exact QGx (fun x hx=>h x (by simp only[Op.operands,Call.operands,Array.toList_append,List.mem_append];exact .inr hx)) F
 |binOp o t x y yt=>
  simp only[doF];rw[h x (by simp[Op.operands]),h y (by simp[Op.operands])]
 |_=>
  simp only[Op.operands,List.mem_cons,List.not_mem_nil,or_false,forall_eq_or_imp,forall_eq]at h;simp only[doF,h]
theorem QIZ {F F1:Fw}{o:Option Value}{v:Value}(h:okV F o=some (v,F1)):F1=F:=by
 cases o with
 |none=>cases h
 |some u=>simp only[okV,Option.some.injEq,Prod.mk.injEq]at h;exact h.2.symm
theorem QFY {P:Program}{B:Nat}{ρ:Operand→Value}{op:Op}(hf:QIM op=true){F F1:Fw}{v:Value}(h:doF P B ρ op F=some (v,F1)):F1=F:=by
 cases op with
 |move x=>simp only[doF,Option.some.injEq,Prod.mk.injEq]at h;exact h.2.symm
 |assign x=>simp only[doF,Option.some.injEq,Prod.mk.injEq]at h;exact h.2.symm
 |makeFunc fn xs ys=>simp only[doF,Option.some.injEq,Prod.mk.injEq]at h;exact h.2.symm
 |build t ps=>
  simp only[doF,QI9]at h
  split at h
  ·
   split at h
   ·
    simp only[Option.some.injEq,Prod.mk.injEq]at h;exact h.2.symm
   ·
    cases h
  ·
   cases h
 |field t x f=>
  simp only[doF,QQg]at h
  split at h
  ·
   simp only[Option.some.injEq,Prod.mk.injEq]at h;exact h.2.symm
  ·
   cases h
 |slice t x lo hi mx=>
  simp only[doF,QDg]at h
  split at h
  ·
   exact QIZ h
  ·
   cases h
 |call k=>
  obtain⟨callee,args,ts⟩:=k
  cases callee with
  |builtin b=>cases b <;> first|exact QIZ h|cases hf
  |_=>cases hf
 |_=>first|exact QIZ h|cases hf
section
variable {P : Program} {B G : Nat} {w0 : World} {L : Lie} {w : World} {ent : FuncId → Bool} {call : QBj}
def QSQ(ent:FuncId→Bool)(call:QBj)(P:Program)(B:Nat)(o:Oper)(a b:Fa)(F:Fw):QGt→Prop
 | .next a1 F1=>∃v ds,a1=(⟨a.tmps,ds⟩:Fa).put o.dst v∧QBd P B ent call o b F=some (.next ((⟨b.tmps,ds⟩:Fa).put o.dst v) F1)
 | .pan ch a1 F1=>a1=a∧QBd P B ent call o b F=some (.pan ch b F1)
theorem QD5 {a b:Fa}{l:List Operand}(h:∀x∈l,a.eval x=b.eval x):l.map a.eval=l.map b.eval:=List.map_congr_left h
theorem QLv {o:Oper}{a b:Fa}{F:Fw}{sr:QGt}(ha:∀x∈o.op.operands.toList,a.eval x=b.eval x)(hd:a.defers=b.defers)(h:QBd P B ent call o a F=some sr):
  QSQ ent call P B o a b F sr:=by
 unfold QBd at h;rw[QEb ha]at h
 cases hv:doF P B b.eval o.op F with
 |some r=>
  obtain⟨v,F1⟩:=r;rw[hv]at h;simp only[Option.some.injEq]at h;subst h;refine⟨v,a.defers,rfl,?_⟩;unfold QBd;rw[hv,hd]
 |none=>
  rw[hv]at h;simp only at h;have hb:QBd P B ent call o b F=QFe ent call o o.op b F:=by unfold QBd;rw[hv]
  unfold QFe at h
  split at h
  ·
   rename_i k ho;unfold QDG at h
   split at h
   ·
    rename_i f hf;have hxf:a.eval f=b.eval f:=ha f (by rw[ho];simp[Op.operands,Call.operands,hf]);have hargs:k.args.toList.map a.eval=k.args.toList.map b.eval:=QD5 fun x hxx=>ha x (by rw[ho];simp only[Op.operands,Call.operands,hf,Array.toList_append,List.mem_append];exact .inr hxx)
    rw[hxf,hargs]at h;have hb2:QBd P B ent call o b F=QDG ent call o k b F:=by rw[hb,ho];rfl
    split at h
    ·
     rename_i g first cap hg
     split at h
     ·
      rename_i hent
      split at h
      ·
       rename_i v F1 hc;injection h with h
       subst h;refine⟨v,a.defers,rfl,?_⟩;rw[hb2];unfold QDG;simp only[hf,hg,hent,if_true,hc];rw[hd]
      ·
       rename_i ch F1 hc;injection h with h
       subst h;refine⟨rfl,?_⟩;rw[hb2];unfold QDG;simp only[hf,hg,hent,if_true,hc]
      ·
       cases h
     ·
      cases h
    ·
     cases h
   ·
    cases h
  ·
   rename_i k ho;unfold QEE at h
   split at h
   ·
    rename_i f hf;have hxf:a.eval f=b.eval f:=ha f (by rw[ho];simp[Op.operands,Call.operands,hf]);have hargs:k.args.toList.map a.eval=k.args.toList.map b.eval:=QD5 fun x hxx=>ha x (by rw[ho];simp only[Op.operands,Call.operands,hf,Array.toList_append,List.mem_append];exact .inr hxx)
    rw[hxf,hargs]at h;have hb2:QBd P B ent call o b F=QEE o k b F:=by rw[hb,ho];rfl
    split at h
    ·
     rename_i g first cap hg
     injection h with h
     subst h;refine⟨undef,_,rfl,?_⟩;rw[hb2];unfold QEE;simp only[hf,hg];rw[hd]
    ·
     cases h
   ·
    cases h
  ·
   rename_i x ho;have hx:a.eval x=b.eval x:=ha x (by rw[ho];simp[Op.operands]);rw[hx]at h;have hb2:QBd P B ent call o b F=QFI (b.eval x) b F:=by rw[hb,ho];rfl
   unfold QFI at h
   split at h
   ·
    rename_i t v hxv;injection h with h
    subst h;refine⟨rfl,?_⟩;rw[hb2];unfold QFI;simp only[hxv]
   ·
    cases h
  ·
   cases h
def On(S:Array Bool)(k:Nat):Prop:=S.getD k false=true
theorem QRb {S:Array Bool}{k:Nat}:S.getD k true=false↔k<S.size∧¬On S k:=by
 unfold On
 by_cases h:k<S.size
 ·
  simp[Array.getD,h]
 ·
  simp[Array.getD,h]
theorem QUB {S:Array Bool}{k:Nat}(h:On S k):k<S.size:=by
 rcases Nat.lt_or_ge k S.size with h'|h'
 ·
  exact h'
 ·
  unfold On at h;simp[Array.getElem?_eq_none h']at h
theorem on_set {S:Array Bool}{i k:Nat}:On (S.setIfInBounds i true) k↔(k=i∧i<S.size)∨On S k:=by
 unfold On
 by_cases h:i=k
 ·
  subst h
  by_cases hs:i<S.size
  ·
   simp[Array.getD,hs]
  ·
   simp[Array.getD,hs]
 ·
  rw[getD_set_ne false h];simp[Ne.symm h]
theorem ready_iff {ops:Array Oper}{S:Array Bool}{j:Nat}:j∈Region.ready .any ops S↔(j<S.size∧¬On S j)∧∃o,ops[j]?=some o∧∀e∈o.after,Region.binds .any e=true→On S e.on:=by
 rw[mem_ready,QRb];rfl
theorem bindsOn_iff {o:Oper}{j:Nat}:QAd o j=true↔∃e∈o.after,Region.binds .any e=true∧e.on=j:=by
 unfold QAd;rw[List.any_eq_true];constructor
 ·
  rintro⟨e,he,h⟩;simp only[Bool.and_eq_true,beq_iff_eq]at h;exact⟨e,Array.mem_toList_iff.1 he,h⟩
 ·
  rintro⟨e,he,h1,h2⟩;exact⟨e,Array.mem_toList_iff.2 he,by simp[h1,h2]⟩
def Held(ops:Array Oper)(D:List Nat)(t:Nat):Prop:=∃j∈D,∃o,ops[j]?=some o∧o.dst=some t
structure QTo(ops:Array Oper)(D:List Nat)(a b:Fa):Prop where
 defers:a.defers=b.defers
 len:a.tmps.length=b.tmps.length
 get:∀t,¬Held ops D t→getL a.tmps t=getL b.tmps t
def Due(ops:Array Oper)(S:Array Bool)(D:List Nat):Prop:=
 ∀T:Nat→Prop,(∃d∈D,T d)→∃d∈D,T d∧∃o,ops[d]?=some o∧∀e∈o.after,Region.binds .any e=true→On S e.on∧¬(e.on∈D∧T e.on)
def QM9(P:Program)(B:Nat)(ops:Array Oper)(S:Array Bool)(a:Fa)(F:Fw)(k:Nat):Prop:=
 ∃o t v,ops[k]?=some o∧QMG ops o=true∧o.dst=some t∧On S k∧(∀e∈o.after,Region.binds .any e=true→On S e.on)∧
  ((QAb ops o a=true∧doF P B a.eval o.op F=some (v,F))∨(QAb ops o a=false∧v=undef))∧QDN a.tmps t v=a.tmps
theorem QDI {ops:Array Oper}(h:QBD ops=true){j:Nat}{oj:Oper}(hj:ops[j]?=some oj)(hf:QMG ops oj=true):
  ∃t,oj.dst=some t∧∀i oi,ops[i]?=some oi→(i≠j→oi.dst≠some t)∧(t∈QDh ops oi→QAd oi j=true):=by
 unfold QBD at h;rw[List.all_eq_true]at h;have hlt:j<ops.size:=(Array.getElem?_eq_some_iff.1 hj).1;have h1:=h j (List.mem_range.2 hlt);rw[hj]at h1;simp only[hf,Bool.not_true,Bool.false_or]at h1
 split at h1
 ·
  rename_i t ht;refine⟨t,ht,fun i oi hi=>?_⟩;rw[List.all_eq_true]at h1;have h2:=h1 i (List.mem_range.2 (Array.getElem?_eq_some_iff.1 hi).1);rw[hi]at h2;simp only[Bool.and_eq_true,Bool.or_eq_true,beq_iff_eq,bne_iff_ne,Bool.not_eq_true',ne_eq]at h2;refine⟨fun hne=>h2.1.resolve_left hne,fun hm=>h2.2.resolve_left (by simpa using hm)⟩
 ·
  cases h1
theorem QC9(l:List Value)(t:Nat)(v:Value)(h:t<l.length):getL (QDN l t v) t=v:=by
 rw[QA5,QCB];simp[Array.getD,h]
theorem QBu(l:List Value)(t t':Nat)(v:Value)(h:t≠t'):getL (QDN l t v) t'=getL l t':=by
 rw[QA5,QA5,QCB];simp[Array.getD,List.getElem_set,h]
theorem QBy(l:List Value)(t:Nat)(v:Value):(QDN l t v).length=l.length:=by rw[QCB];simp
theorem QLu(l:List Value)(t:Nat):QDN l t (getL l t)=l:=by
 rw[QCB,QA5]
 apply List.ext_getElem?
 intro i
 by_cases h:t=i
 ·
  subst h
  by_cases hl:t<l.length
  ·
   simp[Array.getD,hl]
  ·
   simp[hl]
 ·
  simp[List.getElem?_set_ne h]
theorem QIL {l m:List Value}(h:l.length=m.length)(hg:∀t,getL l t=getL m t):l=m:=by
 apply List.ext_getElem?
 intro i
 by_cases hl:i<l.length
 ·
  have:=hg i;rw[QA5,QA5]at this;have hm:i<m.length:=by omega
  simp[Array.getD,hl,hm]at this ⊢;exact this
 ·
  rw[List.getElem?_eq_none (by omega),List.getElem?_eq_none (by omega)]
theorem QD2 {ops:Array Oper}{o:Oper}{a b:Fa}(h:∀t∈QDh ops o,getL a.tmps t=getL b.tmps t)(hl:a.tmps.length=b.tmps.length):
  (∀x∈o.op.operands.toList,a.eval x=b.eval x)∧QAb ops o a=QAb ops o b:=by
 constructor
 ·
  intro x hx
  cases x with
  |tmp t=>exact h t (by unfold QDh;exact List.mem_append_left _ (List.mem_filterMap.2 ⟨_,hx,rfl⟩))
  |_=>rfl
 ·
  unfold QAb
  cases hg:o.guard with
  |none=>rfl
  |some g=>
   obtain⟨j,b0⟩:=g;simp only[Region.wanted,hg]
   have:yielded ops a.toA.tmps j=yielded ops b.toA.tmps j:=by
    unfold yielded
    cases hd:(ops[j]?).bind (·.dst)with
    |none=>rfl
    |some t=>
     simp only[Option.bind_some]
     have ht:t∈QDh ops o:=by
      unfold QDh;refine List.mem_append_right _ ?_;simp only[hg,hd];simp
     have:=h t ht;rw[QA5,QA5]at this;show(match (⟨a.tmps⟩:Array Value)[t]? with|some (.bool b)=>some b|_=>none)=(match (⟨b.tmps⟩:Array Value)[t]? with|some (.bool b)=>some b|_=>none);rcases Nat.lt_or_ge t a.tmps.length with hlt|hlt
     ·
      have e1:(⟨a.tmps⟩:Array Value)[t]?=some ((⟨a.tmps⟩:Array Value).getD t undef):=getElem?_of_getD hlt;have e2:(⟨b.tmps⟩:Array Value)[t]?=some ((⟨b.tmps⟩:Array Value).getD t undef):=getElem?_of_getD (by rw[hl]at hlt;exact hlt);rw[e1,e2];have h':(⟨a.tmps⟩:Array Value).getD t undef=(⟨b.tmps⟩:Array Value).getD t undef:=this;rw[h']
     ·
      have e1:(⟨a.tmps⟩:Array Value)[t]?=none:=Array.getElem?_eq_none hlt;have e2:(⟨b.tmps⟩:Array Value)[t]?=none:=Array.getElem?_eq_none (by rw[hl]at hlt;exact hlt);rw[e1,e2]
   rw[this]
theorem Due.drop {ops:Array Oper}{S:Array Bool}{D:List Nat}(h:Due ops S D)(i:Nat):Due ops S (D.filter (· !=i)):=by
 rintro T ⟨d,hd,hT⟩;rw[List.mem_filter,bne_iff_ne]at hd;obtain⟨d',hd',⟨hT',hne⟩,o,ho,hall⟩:=h (fun k=>T k∧k≠i) ⟨d,hd.1,hT,hd.2⟩;refine⟨d',List.mem_filter.2 ⟨hd',by simpa using hne⟩,hT',o,ho,fun e he hb=>?_⟩;obtain⟨h1,h2⟩:=hall e he hb;refine⟨h1,fun⟨h3,h4⟩=>h2 ?_⟩;rw[List.mem_filter,bne_iff_ne]at h3;exact⟨h3.1,h4,h3.2⟩
theorem Due.mono {ops:Array Oper}{S S':Array Bool}{D:List Nat}(h:Due ops S D)(hs:∀k,On S k→On S' k):Due ops S' D:=by
 intro T hT;obtain⟨d,hd,h1,o,ho,hall⟩:=h T hT;exact⟨d,hd,h1,o,ho,fun e he hb=>⟨hs _ (hall e he hb).1,(hall e he hb).2⟩⟩
theorem Due.cons {ops:Array Oper}{S:Array Bool}{D:List Nat}{j:Nat}(h:Due ops S D)(hj:j∈Region.ready .any ops S)(hD:∀d∈D,On S d):Due ops (S.setIfInBounds j true) (j::D):=by
 obtain⟨⟨hlt,hoff⟩,o,ho,hall⟩:=ready_iff.1 hj;rintro T ⟨d,hd,hT⟩
 by_cases hex:∃d∈D,T d
 ·
  obtain⟨d',hd',hT',o',ho',hall'⟩:=h T hex;refine⟨d',List.mem_cons_of_mem _ hd',hT',o',ho',fun e he hb=>?_⟩;obtain⟨h1,h2⟩:=hall' e he hb;refine⟨on_set.2 (.inr h1),fun⟨h3,h4⟩=>?_⟩;rcases List.mem_cons.1 h3 with h3|h3
  ·
   rw[h3]at h1;exact hoff h1
  ·
   exact h2 ⟨h3,h4⟩
 ·
  have hdj:d=j:=by
   rcases List.mem_cons.1 hd with h1|h1
   ·
    exact h1
   ·
    exact absurd ⟨d,h1,hT⟩ hex
  subst hdj;refine⟨d,List.mem_cons_self,hT,o,ho,fun e he hb=>⟨on_set.2 (.inr (hall e he hb)),fun⟨h3,h4⟩=>?_⟩⟩;rcases List.mem_cons.1 h3 with h3|h3
  ·
   have:=hall e he hb;rw[h3]at this;exact hoff this
  ·
   exact hex ⟨_,h3,h4⟩
theorem QMs {ops:Array Oper}{R:Array Bool}{D:List Nat}(hst:QBD ops=true)(hD:∀d∈D,¬On R d∧∃o,ops[d]?=some o∧QMG ops o=true)
  {i:Nat} {o:Oper} (ho:ops[i]?=some o) (hall:∀e∈o.after,Region.binds .any e=true→On R e.on):∀t∈QDh ops o,¬Held ops D t:=by
 rintro t ht ⟨d,hd,od,hod,hdst⟩;obtain⟨hno,o2,ho2,hf⟩:=hD d hd;rw[hod]at ho2;injection ho2 with ho2
 subst ho2;obtain⟨t2,ht2,h⟩:=QDI hst hod hf;rw[hdst]at ht2;injection ht2 with ht2
 subst ht2;obtain⟨e,he,hb,hon⟩:=bindsOn_iff.1 ((h i o ho).2 ht);have:=hall e he hb;rw[hon]at this;exact hno this
theorem QEf {l m:List Value}(h:l.length=m.length)(t:Nat)(v:Value):getL (QDN l t v) t=getL (QDN m t v) t:=by
 rcases Nat.lt_or_ge t l.length with hl|hl
 ·
  rw[QC9 l t v hl,QC9 m t v (by omega)]
 ·
  rw[QA5,QA5,QCB,QCB];have h1:¬t<l.length:=by omega
  have h2:¬t<m.length:=by omega
  simp[Array.getD,h1,h2]
theorem QO4(l:List Value)(t t':Nat)(v v':Value)(h:t≠t'):QDN (QDN l t v) t' v'=QDN (QDN l t' v') t v:=by
 simp only[QCB];exact List.set_comm _ _ h
structure FInv(P:Program)(B:Nat)(ops:Array Oper)(pend D:List Nat)(S R:Array Bool)(a b:Fa)(F:Fw):Prop where
 size:R.size=S.size
 on:∀k,On R k↔On S k∧k∉D
 sub:∀d∈D,d∈pend
 still:∀k∈pend,QM9 P B ops S a F k
 due:Due ops S D
 agree:QTo ops D a b
theorem FInv.held {ops:Array Oper}{pend D:List Nat}{S R:Array Bool}{a b:Fa}{F:Fw}(h:FInv P B ops pend D S R a b F):∀d∈D,¬On R d∧∃o,ops[d]?=some o∧QMG ops o=true:=by
 intro d hd;obtain⟨o,t,v,ho,hf,_⟩:=h.still d (h.sub d hd);exact⟨fun hon=>((h.on d).1 hon).2 hd,o,ho,hf⟩
theorem FInv.evals {ops:Array Oper}{pend D:List Nat}{S R:Array Bool}{a b:Fa}{F:Fw}(h:FInv P B ops pend D S R a b F)(hst:QBD ops=true){i:Nat}{o:Oper}(ho:ops[i]?=some o)
  (hi:i∈Region.ready .any ops R):(∀x∈o.op.operands.toList,a.eval x=b.eval x)∧QAb ops o a=QAb ops o b:=by
 obtain⟨_,o2,ho2,hall⟩:=ready_iff.1 hi;rw[ho]at ho2;injection ho2 with ho2
 subst ho2;exact QD2 (fun t ht=>h.agree.get t (QMs hst h.held ho hall t ht)) h.agree.len
theorem FInv.some_ready {ops:Array Oper}{pend D:List Nat}{S R:Array Bool}{a b:Fa}{F:Fw}(h:FInv P B ops pend D S R a b F)(hD:D≠ []):Region.ready .any ops R≠ []:=by
 obtain⟨d,l,rfl⟩:=List.exists_cons_of_ne_nil hD;obtain⟨d',hd',_,o,ho,hall⟩:=h.due (fun _=>True) ⟨d,List.mem_cons_self,trivial⟩;obtain⟨_,_,_,_,_,_,hon,_⟩:=h.still d' (h.sub d' hd');have:d'∈Region.ready .any ops R:=ready_iff.2 ⟨⟨by rw[h.size];exact QUB hon,(h.held d' hd').1⟩,o,ho,fun e he hb=>(h.on _).2 ⟨(hall e he hb).1,fun hm=>(hall e he hb).2 ⟨hm,trivial⟩⟩⟩;intro h0;rw[h0]at this
 cases this
theorem FInv.ready {ops:Array Oper}{pend D:List Nat}{S R:Array Bool}{a b:Fa}{F:Fw}(h:FInv P B ops pend D S R a b F){i:Nat}(hi:i∈Region.ready .any ops R):i∈D∨i∈Region.ready .any ops S:=by
 by_cases hd:i∈D
 ·
  exact .inl hd
 ·
  obtain⟨⟨h1,h2⟩,o,ho,hall⟩:=ready_iff.1 hi;exact .inr (ready_iff.2 ⟨⟨by rw[←h.size];exact h1,fun hon=>h2 ((h.on i).2 ⟨hon,hd⟩)⟩,o,ho,fun e he hb=>((h.on _).1 (hall e he hb)).1⟩)
theorem FInv.done {ops:Array Oper}{pend:List Nat}{S R:Array Bool}{a b:Fa}{F:Fw}(h:FInv P B ops pend [] S R a b F):a=b:=by
 have h1:a.tmps=b.tmps:=QIL h.agree.len fun t=>h.agree.get t (by rintro⟨j,hj,_⟩;cases hj)
 have h2:=h.agree.defers
 cases a;cases b;simp only at h1 h2;rw[h1,h2]
theorem FInv.drop {ops:Array Oper}{pend D:List Nat}{S R:Array Bool}{a b:Fa}{F:Fw}(h:FInv P B ops pend D S R a b F){i:Nat}(hi:i∈D)(hlt:i<R.size){o:Oper}{t:Nat}{v:Value}(ho:ops[i]?=some o)(hdst:o.dst=some t)
  (hset:QDN a.tmps t v=a.tmps) (hon:On S i):FInv P B ops pend (D.filter (· !=i)) S (R.setIfInBounds i true) a (b.put o.dst v) F:=by
 refine⟨by simpa using h.size,fun k=>?_,fun d hd=>h.sub d (List.mem_filter.1 hd).1,h.still,h.due.drop i,?_⟩
 ·
  rw[on_set,List.mem_filter,bne_iff_ne,h.on k];constructor
  ·
   rintro(⟨rfl,_⟩|⟨h1,h2⟩)
   ·
    exact⟨hon,fun hh=>hh.2 rfl⟩
   ·
    exact⟨h1,fun hh=>h2 hh.1⟩
  ·
   rintro⟨h1,h2⟩
   by_cases hk:k=i
   ·
    exact .inl ⟨hk,hlt⟩
   ·
    exact .inr ⟨h1,fun hm=>h2 ⟨hm,hk⟩⟩
 ·
  rw[hdst];refine⟨h.agree.defers,by show _=(QDN b.tmps t v).length;rw[QBy];exact h.agree.len,fun t' ht'=>?_⟩;show getL a.tmps t'=getL (QDN b.tmps t v) t'
  by_cases htt:t=t'
  ·
   subst htt;rw[←QEf h.agree.len t v,hset]
  ·
   rw[QBu _ _ _ _ htt];refine h.agree.get t' ?_;rintro⟨j,hj,oj,hoj,hd⟩;refine ht' ⟨j,List.mem_filter.2 ⟨hj,?_⟩,oj,hoj,hd⟩;rw[bne_iff_ne];rintro rfl;rw[ho]at hoj;injection hoj with hoj
   subst hoj;rw[hdst]at hd;injection hd with hd
   exact htt hd
theorem FInv.list {ops:Array Oper}{pend D:List Nat}{S R:Array Bool}{a b:Fa}{F:Fw}(h:FInv P B ops pend D S R a b F)(hst:QBD ops=true){j:Nat}{o:Oper}{v:Value}(ho:ops[j]?=some o)(hf:QMG ops o=true)
  (hj:j∈Region.ready .any ops S) (hval:(QAb ops o a=true∧doF P B a.eval o.op F=some (v,F))∨(QAb ops o a=false∧v=undef)):
  FInv P B ops (j::pend) (j::D) (S.setIfInBounds j true) R (a.put o.dst v) b F:=by
 obtain⟨⟨hlt,hoff⟩,o2,ho2,hall⟩:=ready_iff.1 hj;rw[ho]at ho2;injection ho2 with ho2
 subst ho2;obtain⟨t,hdst,hsl⟩:=QDI hst ho hf;have hput:a.put o.dst v=⟨QDN a.tmps t v,a.defers⟩:=by rw[hdst];rfl
 have keep:∀(k:Nat) (ok:Oper),ops[k]?=some ok→(∀e∈ok.after,Region.binds .any e=true→On S e.on)→(∀x∈ok.op.operands.toList,(a.put o.dst v).eval x=a.eval x)∧QAb ops ok (a.put o.dst v)=QAb ops ok a:=by
  intro k ok hok hons;rw[hput];refine QD2 (fun t' ht'=>?_) (QBy _ _ _);show getL (QDN a.tmps t v) t'=getL a.tmps t';refine QBu _ _ _ _ ?_;rintro rfl;obtain⟨e,he,hb,hon⟩:=bindsOn_iff.1 ((hsl k ok hok).2 ht');have:=hons e he hb;rw[hon]at this;exact hoff this
 have hons':∀e∈o.after,Region.binds .any e=true→On S e.on:=hall;refine⟨by simpa using h.size,fun k=>?_,fun d hd=>?_,fun k hk=>?_,h.due.cons hj fun d hd=>?_,?_⟩
 ·
  rw[on_set,h.on k,List.mem_cons];constructor
  ·
   rintro⟨h1,h2⟩;exact⟨.inr h1,fun hh=>hh.elim (fun he=>hoff (he▸h1)) h2⟩
  ·
   rintro⟨h1,h2⟩;exact⟨h1.resolve_left fun hh=>h2 (.inl hh.1),fun hm=>h2 (.inr hm)⟩
 ·
  rcases List.mem_cons.1 hd with rfl|hd
  ·
   exact List.mem_cons_self
  ·
   exact List.mem_cons_of_mem _ (h.sub d hd)
 ·
  rcases List.mem_cons.1 hk with rfl|hk
  ·
   obtain⟨k1,k2⟩:=keep k o ho hons';refine⟨o,t,v,ho,hf,hdst,on_set.2 (.inl ⟨rfl,hlt⟩),fun e he hb=>on_set.2 (.inr (hall e he hb)),?_,?_⟩
   ·
    rw[k2,QEb k1];exact hval
   ·
    rw[hput];show QDN (QDN a.tmps t v) t v=QDN a.tmps t v;simp[QCB]
  ·
   obtain⟨ok,tk,vk,hok,hfk,hdk,honk,honsk,hvk,hsk⟩:=h.still k hk;obtain⟨k1,k2⟩:=keep k ok hok honsk;refine⟨ok,tk,vk,hok,hfk,hdk,on_set.2 (.inr honk),fun e he hb=>on_set.2 (.inr (honsk e he hb)),?_,?_⟩
   ·
    rw[k2,QEb k1];exact hvk
   ·
    rw[hput];show QDN (QDN a.tmps t v) tk vk=QDN a.tmps t v
    have hne:t≠tk:=by
     rintro rfl;exact(hsl k ok hok).1 (by rintro rfl;exact hoff honk) hdk
    rw[QO4 _ _ _ _ _ hne,hsk]
 ·
  obtain⟨_,_,_,_,_,_,hon,_⟩:=h.still d (h.sub d hd);exact hon
 ·
  rw[hput];refine⟨h.agree.defers,by show(QDN a.tmps t v).length=_;rw[QBy];exact h.agree.len,fun t' ht'=>?_⟩;show getL (QDN a.tmps t v) t'=_;rw[QBu]
  ·
   exact h.agree.get t' fun⟨k,hk,ok,hok,hd⟩=>ht' ⟨k,List.mem_cons_of_mem _ hk,ok,hok,hd⟩
  ·
   rintro rfl;exact ht' ⟨j,List.mem_cons_self,o,ho,hdst⟩
theorem QMk {ops:Array Oper}{S S':Array Bool}{a a1:Fa}{F F1:Fw}{k:Nat}(h:QM9 P B ops S a F k)(hs:∀k,On S k→On S' k)(hq:QIl P B ops a1 F1 k=true):QM9 P B ops S' a1 F1 k:=by
 obtain⟨o,t,_,ho,hf,hdst,hon,hons,_,_⟩:=h;unfold QIl at hq;simp only[ho,hdst]at hq
 split at hq
 ·
  rename_i hw
  split at hq
  ·
   rename_i v F2 hd;have:=QFY (QHS hf) hd;subst this;refine⟨o,t,v,ho,hf,hdst,hs _ hon,fun e he hb=>hs _ (hons e he hb),.inl ⟨hw,hd⟩,?_⟩;rw[QHz 9 _ _ hq];exact QLu _ _
  ·
   cases hq
 ·
  rename_i hw;refine⟨o,t,undef,ho,hf,hdst,hs _ hon,fun e he hb=>hs _ (hons e he hb),.inr ⟨by simpa using hw,rfl⟩,?_⟩;rw[QHz 9 _ _ hq];exact QLu _ _
theorem FInv.act {ops:Array Oper}{pend D:List Nat}{S R:Array Bool}{a b:Fa}{F F1:Fw}(h:FInv P B ops pend D S R a b F){j:Nat}{o:Oper}(ho:ops[j]?=some o)(hjS:j∈Region.ready .any ops S)(hjR:j∈Region.ready .any ops R)
  (ds:List Deferred) (v:Value) (hq:(pend.filter fun k=>!QAd o k).all (QIl P B ops ((⟨a.tmps,ds⟩:Fa).put o.dst v) F1)=true):
  FInv P B ops (pend.filter fun k=>!QAd o k) D (S.setIfInBounds j true) (R.setIfInBounds j true) ((⟨a.tmps,ds⟩:Fa).put o.dst v) ((⟨b.tmps,ds⟩:Fa).put o.dst v) F1:=by
 obtain⟨⟨hlt,hoff⟩,_⟩:=ready_iff.1 hjS;obtain⟨⟨hltR,hoffR⟩,o2,ho2,hallR⟩:=ready_iff.1 hjR;rw[ho]at ho2;injection ho2 with ho2
 subst ho2
 have hjD:j∉D:=fun hd=>by
  obtain⟨_,_,_,_,_,_,hon,_⟩:=h.still j (h.sub j hd);exact hoff hon
 refine⟨by simpa using h.size,fun k=>?_,fun d hd=>?_,fun k hk=>?_,h.due.mono fun k hk=>on_set.2 (.inr hk),?_⟩
 ·
  rw[on_set,on_set,h.on k];constructor
  ·
   rintro(⟨rfl,_⟩|⟨h1,h2⟩)
   ·
    exact⟨.inl ⟨rfl,hlt⟩,hjD⟩
   ·
    exact⟨.inr h1,h2⟩
  ·
   rintro⟨h1|h1,h2⟩
   ·
    exact .inl ⟨h1.1,hltR⟩
   ·
    exact .inr ⟨h1,h2⟩
 ·
  refine List.mem_filter.2 ⟨h.sub d hd,?_⟩
  cases hb:QAd o d with
  |false=>rfl
  |true=>
   obtain⟨e,he,hb,hon⟩:=bindsOn_iff.1 hb;have:=hallR e he hb;rw[hon]at this;exact absurd this (h.held d hd).1
 ·
  rw[List.all_eq_true]at hq;exact QMk (h.still k (List.mem_filter.1 hk).1) (fun k hk=>on_set.2 (.inr hk)) (hq k hk)
 ·
  cases hd:o.dst with
  |none=>exact⟨rfl,h.agree.len,h.agree.get⟩
  |some t=>
   refine⟨rfl,?_,fun t' ht'=>?_⟩
   ·
    show(QDN a.tmps t v).length=(QDN b.tmps t v).length;rw[QBy,QBy];exact h.agree.len
   ·
    show getL (QDN a.tmps t v) t'=getL (QDN b.tmps t v) t'
    by_cases htt:t=t'
    ·
     subst htt;exact QEf h.agree.len t v
    ·
     rw[QBu _ _ _ _ htt,QBu _ _ _ _ htt];exact h.agree.get t' ht'
theorem QKd(hE:QE3 P ent)(hC:QCD P B G w0 call){ops:Array Oper}(hst:QBD ops=true)(hx:∀o∈ops.toList,∀x∈o.op.operands.toList,okX G x=true)(r:Out × Fa × Fw):
  ∀(N:Nat) (steps pend D:List Nat) (S R:Array Bool) (a b:Fa) (F:Fw) (L:Lie) (w:World) (a':Act) (n:Nat),
   n+steps.length=N→QDH P B ent call ops steps pend a F=some r→QFQ ops steps S=true→FInv P B ops pend D S R a b F→Sim P B G w0 L F.toW w→CR P L b a'→steps.length+D.length≤n→
   wpAny P .any ops (OutQ P B G w0 L false r.1 r.2.1 r.2.2) n R a' w:=by
 intro N
 induction N using Nat.strongRecOn with
 |_ N IH=>
  intro steps pend D S R a b F L w a' n hN h hok hinv hs hr hn;have hxo:∀(j:Nat) (o:Oper),ops[j]?=some o→∀x∈o.op.operands.toList,okX G x=true:=fun j o ho=>hx o (Array.mem_toList_iff.2 (Array.mem_of_getElem? ho))
  have dstep:∀i∈D,i∈Region.ready .any ops R→∀m,n=m+1→wpOp P ops (OutQ P B G w0 L false r.1 r.2.1 r.2.2) i (wpAny P .any ops (OutQ P B G w0 L false r.1 r.2.1 r.2.2) m (R.setIfInBounds i true)) a' w:=by
   intro i hi hri m hm;subst hm;obtain⟨o,t,v,ho,hf,hdst,hon,hons,hval,hset⟩:=hinv.still i (hinv.sub i hi);obtain⟨he1,he2⟩:=hinv.evals hst ho hri;have hlt:=(ready_iff.1 hri).1.1;have hinv':=hinv.drop hi hlt ho hdst hset hon
   have hlen:(D.filter (· !=i)).length<D.length:=by
    rw[List.length_filter_lt_length_iff_exists];exact⟨i,hi,by simp⟩
   have next:∀(M:Lie) (w1:World) (b1':Act),L.le M→Sim P B G w0 M F.toW w1→CR P M (b.put o.dst v) b1'→wpAny P .any ops (OutQ P B G w0 L false r.1 r.2.1 r.2.2) m (R.setIfInBounds i true) b1' w1:=fun M w1 b1' hle hS hR=>
    QCY (fun e a2 w2 hq=>OutQ.mono hle hq) m _ _ _ (IH (m+steps.length) (by omega) steps pend _ S _ a _ F M w1 b1' m rfl h hok hinv' hS hR (by omega))
   unfold Go.wpOp;simp only[ho];rw[←QCO hr,←he2];rcases hval with ⟨hw,hd⟩|⟨hw,rfl⟩
   ·
    rw[if_pos hw];left;rw[QEb he1]at hd;have hstep:QBd P B ent call o b F=some (.next (b.put o.dst v) F):=by unfold QBd;rw[hd]
    exact QBz hE hC hs hr (hxo i o ho) hstep fun M a1' w1 hle hS hR=>next M w1 a1' hle hS hR
   ·
    rw[if_neg (by simp[hw])];exact next L w _ L.le_refl hs (hr.put o.dst .undef)
  cases steps with
  |nil=>
   simp only[QDH,Option.some.injEq]at h;subst h;simp only[QFQ,List.isEmpty_iff]at hok;have rdy:∀i∈Region.ready .any ops R,i∈D:=fun i hi=>(hinv.ready hi).resolve_right (by rw[hok];simp)
   have fin:Region.ready .any ops R= []→OutQ P B G w0 L false .normal a F .normal a' w:=by
    intro h0
    have hD:D= []:=by
     rcases D with _|⟨d,l⟩
     ·
      rfl
     ·
      exact absurd h0 (hinv.some_ready (by simp))
    subst hD;rw[hinv.done];exact⟨L,L.le_refl,hs,hr⟩
   cases n with
   |zero=>
    have hD:D= []:=by
     rcases D with _|⟨d,l⟩
     ·
      rfl
     ·
      simp at hn
    have h0:Region.ready .any ops R= []:=by
     cases hrd:Region.ready .any ops R with
     |nil=>rfl
     |cons i l=>
      have:=rdy i (by rw[hrd];exact List.mem_cons_self);rw[hD]at this
      cases this
    exact⟨h0,fin h0⟩
   |succ m=>exact⟨fin,fun i hi=>dstep i (rdy i hi) hi m rfl⟩
  |cons j rest=>
   unfold QFQ at hok
   split at hok
   ·
    rename_i o ho;simp only[Bool.and_eq_true,Bool.or_eq_true,List.contains_iff_mem]at hok;obtain⟨⟨hjS,hall⟩,hok⟩:=hok;unfold QDH at h;simp only[ho]at h
    split at h
    ·
     rename_i hf
     have fin:∀v,((QAb ops o a=true∧doF P B a.eval o.op F=some (v,F))∨(QAb ops o a=false∧v=undef))→QDH P B ent call ops rest (j::pend) (a.put o.dst v) F=some r→
       wpAny P .any ops (OutQ P B G w0 L false r.1 r.2.1 r.2.2) n R a' w:=by
      intro v hval h;refine IH (n+rest.length) (by simp only[List.length_cons]at hN;omega) rest (j::pend) (j::D) _ R _ b F L w a' n rfl h hok (hinv.list hst ho hf hjS hval) hs hr ?_;simp only[List.length_cons]at hn ⊢;omega
     split at h
     ·
      rename_i hw
      split at h
      ·
       rename_i v F1 hd;have:=QFY (QHS hf) hd;subst this;exact fin v (.inl ⟨hw,hd⟩) h
      ·
       cases h
     ·
      rename_i hw;exact fin undef (.inr ⟨by simpa using hw,rfl⟩) h
    ·
     rename_i hf
     have hall':∀i∈Region.ready .any ops S,i=j:=fun i hi=>by
      have:=List.all_eq_true.1 (hall.resolve_left hf) i hi
      simpa using this
     have rdy:∀i∈Region.ready .any ops R,i∈D∨i=j:=fun i hi=>(hinv.ready hi).imp id (hall' i)
     obtain⟨m,rfl⟩:∃m,n=m+1:=⟨n - 1,by simp only[List.length_cons]at hn;omega⟩
     have nonempty:Region.ready .any ops R≠ []:=by
      by_cases hD:D= []
      ·
       subst hD;obtain⟨⟨h1,h2⟩,o2,ho2,hall2⟩:=ready_iff.1 hjS;have:j∈Region.ready .any ops R:=ready_iff.2 ⟨⟨by rw[hinv.size];exact h1,fun hon=>h2 ((hinv.on j).1 hon).1⟩,o2,ho2,fun e he hb=>(hinv.on _).2 ⟨hall2 e he hb,by simp⟩⟩;intro h0;rw[h0]at this
       cases this
      ·
       exact hinv.some_ready hD
     refine⟨fun h0=>absurd h0 nonempty,fun i hi=>?_⟩;rcases rdy i hi with hD|rfl
     ·
      exact dstep i hD hi m rfl
     ·
      obtain⟨he1,he2⟩:=hinv.evals hst ho hi;unfold Go.wpOp;simp only[ho];rw[←QCO hr,←he2]
      split at h
      ·
       rename_i hw;rw[if_pos hw];left
       split at h
       ·
        rename_i a1 F1 hst1
        split at h
        ·
         rename_i hq;obtain⟨v,ds,rfl,hb⟩:=QLv he1 hinv.agree.defers hst1;have hinv':=hinv.act ho hjS hi ds v hq;refine QBz hE hC hs hr (hxo i o ho) hb fun M a1' w1 hle hS hR=>?_
         refine QCY (fun e a2 w2 hq=>OutQ.mono hle hq) m _ _ _ (IH (m+rest.length) (by simp only[List.length_cons]at hN;omega) rest _ D _ _ _ _ F1 M w1 a1' m rfl h hok hinv' hS hR ?_);simp only[List.length_cons]at hn;omega
        ·
         cases h
       ·
        rename_i ch a1 F1 hst1;injection h with h
        subst h;obtain⟨rfl,hb⟩:=QLv he1 hinv.agree.defers hst1;refine QBz hE hC hs hr (hxo i o ho) hb fun M ch' w1 hle hS hch hd=>⟨M,hle,hS,hch,?_,fun h=>by cases h⟩
        rw[hinv.agree.defers];exact hd.2
       ·
        cases h
      ·
       rename_i hw;rw[if_neg hw]
       split at h
       ·
        rename_i hq;have hinv':=hinv.act (F1:=F) ho hjS hi a.defers undef hq;have hb:(⟨b.tmps,a.defers⟩:Fa)=b:=by rw[hinv.agree.defers]
        rw[hb]at hinv';refine IH (m+rest.length) (by simp only[List.length_cons]at hN;omega) rest _ D _ _ _ _ F L w _ m rfl h hok hinv' hs (hr.put o.dst .undef) ?_;simp only[List.length_cons]at hn;omega
       ·
        cases h
   ·
    cases hok
theorem FInv.start {ops:Array Oper}{a:Fa}{F:Fw}:FInv P B ops [] [] (Array.replicate ops.size false) (Array.replicate ops.size false) a a F:=
 ⟨rfl,fun k=>by simp,fun d hd=>(by cases hd),fun k hk=>(by cases hk),fun T ⟨d,hd,_⟩=>(by cases hd),⟨rfl,rfl,fun _ _=>rfl⟩⟩
theorem QNi(hm:P.follows .mixedOrders=true)(hE:QE3 P ent)(hC:QCD P B G w0 call){ops:Array Oper}(hst:QBD ops=true)(hx:∀o∈ops.toList,∀x∈o.op.operands.toList,okX G x=true){id:Nat}{l:List Nat}{r:Out × Fa × Fw}{a:Fa}{F:Fw}{a':Act}
  (h:QDH P B ent call ops l [] a F=some r) (hok:QFQ ops l (Array.replicate ops.size false)=true) (hlen:l.length≤ops.size) (hs:Sim P B G w0 L F.toW {w with drawn:=w.drawn+1}) (hr:CR P L a a'):
  (Code.region id ops true).wp P (OutQ P B G w0 L false r.1 r.2.1 r.2.2) a' w:=by
 refine wp_region_any hm (QKd hE hC hst hx r _ l [] [] _ _ a a F L _ a' ops.size rfl h hok .start hs hr ?_)
 simpa using hlen
end
end Go.Proofs.YtjnclkakbopnjaaGreatDoor
