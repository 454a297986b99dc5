/- XSimV, XSimW, XSimX -/
import Derived.Test.YtjnclkakbopnjaaGreatDoorLot22
set_option linter.unusedSimpArgs false
set_option linter.unusedVariables false
namespace Go.Proofs.YtjnclkakbopnjaaGreatDoor
open Go.Proofs.Tryz
open Go.RowKit
section
variable {P : Program} {B G : Nat} {w0 : World} {L : Lie} {w : World} {ent : FuncId → Bool} {call : QBj}
theorem QBw(hE:QE3 P ent)(hC:QCD P B G w0 call){ops:Array Oper}(hsel:Region.noSelect ops=true)(hx:∀o∈ops.toList,∀x∈o.op.operands.toList,okX G x=true):
  ∀(p:QM6) (b:Bool) (listed:Array Bool) (a:Fa) (F:Fw) (L:Lie) (w:World) (a':Act) (d:Did) (n:Nat),
   QCy P B ent call ops p a F=some d→QD6 ops p b listed=true→QK5 p≤n→Sim P B G w0 L F.toW w→CR P L a a'→
   (b=false→wpAny P .any ops (OutQ P B G w0 L false d.out d.a d.F) n listed a' w)∧
   (QSS p=true→∃m,n=m+1∧∀j∈QJT p,wpOp P ops (OutQ P B G w0 L false d.out d.a d.F) j (wpAny P .any ops (OutQ P B G w0 L false d.out d.a d.F) m (listed.setIfInBounds j true)) a' w)
 | .done,b,listed,a,F,L,w,a',d,n,h,hok,hn,hs,hr=>by
  simp only[QCy,Option.some.injEq]at h;subst h;simp only[QD6,Bool.and_eq_true,Bool.not_eq_true',List.isEmpty_iff]at hok;have hq:OutQ P B G w0 L false .normal a F .normal a' w:=⟨L,L.le_refl,hs,hr⟩;refine⟨fun _=>?_,fun h=>by cases h⟩
  cases n with
  |zero=>exact⟨hok.2,hq⟩
  |succ m=>exact⟨fun _=>hq,fun i hi=>by rw[hok.2]at hi;cases hi⟩
 | .pure j p,b,listed,a,F,L,w,a',d,n,h,hok,hn,hs,hr=>by
  simp only[QD6,Bool.and_eq_true,Bool.not_eq_true',List.contains_iff_mem]at hok;obtain⟨⟨⟨_,hready⟩,hfree⟩,hok⟩:=hok;refine⟨fun _=>?_,fun h=>by cases h⟩;obtain⟨m,rfl⟩:∃m,n=m+1:=⟨n - 1,by simp only[QK5]at hn;omega⟩;have hn':QK5 p≤m:=by simp only[QK5]at hn;omega
  unfold QCy at h
  split at h
  ·
   rename_i o ho;have hxo:∀x∈o.op.operands.toList,okX G x=true:=hx o (Array.mem_toList_iff.2 (Array.mem_of_getElem? ho));rw[QCO hr]at h
   split at h
   ·
    rename_i hw;rw[QLn]at h
    split at h
    ·
     rename_i v hv;obtain⟨v',h1,h2⟩:=QFK (fun x hxx=>hr.eval hs (hxo x hxx)) hv;refine QGr OutQ.blind trivial ho (Region.noSelect_spec hsel) m listed a' w (fun k ok hk hne hun hno=>Region.free_spec ho hfree k ok hk hne hun hno) hready (.inl ⟨hw,h2⟩) ?_;exact(QBw hE hC hsel hx p false _ _ F L w _ d m h hok hn' hs (hr.put o.dst h1)).1 rfl
    ·
     cases h
   ·
    rename_i hw;refine QGr OutQ.blind trivial ho (Region.noSelect_spec hsel) m listed a' w (fun k ok hk hne hun hno=>Region.free_spec ho hfree k ok hk hne hun hno) hready (.inr ⟨by simpa using hw,rfl⟩) ?_;exact(QBw hE hC hsel hx p false _ _ F L w _ d m h hok hn' hs (hr.put o.dst .undef)).1 rfl
  ·
   cases h
 | .act j p,b,listed,a,F,L,w,a',d,n,h,hok,hn,hs,hr=>by
  simp only[QD6,Bool.and_eq_true,Bool.or_eq_true]at hok;obtain⟨hb,hok⟩:=hok;obtain⟨m,rfl⟩:∃m,n=m+1:=⟨n - 1,by simp only[QK5]at hn;omega⟩;have hn':QK5 p≤m:=by simp only[QK5]at hn;omega
  have key:wpOp P ops (OutQ P B G w0 L false d.out d.a d.F) j (wpAny P .any ops (OutQ P B G w0 L false d.out d.a d.F) m (listed.setIfInBounds j true)) a' w:=by
   unfold QCy at h
   split at h
   ·
    rename_i o ho;have hxo:∀x∈o.op.operands.toList,okX G x=true:=hx o (Array.mem_toList_iff.2 (Array.mem_of_getElem? ho));unfold Go.wpOp;simp only[ho];rw[QCO hr]at h
    split at h
    ·
     rename_i hw;rw[if_pos hw];left
     split at h
     ·
      rename_i a1 F1 hst
      split at h
      ·
       rename_i d1 hd1;injection h with h
       subst h;refine QBz hE hC hs hr hxo hst fun M a1' w1 hle hS hR=>?_
       exact QCY (fun e a2 w2 hq=>OutQ.mono hle hq) m _ _ _ ((QBw hE hC hsel hx p false _ a1 F1 M w1 a1' d1 m hd1 hok hn' hS hR).1 rfl)
      ·
       cases h
     ·
      rename_i ch a1 F1 hst;injection h with h
      subst h;exact QBz hE hC hs hr hxo hst fun M ch' w1 hle hS hch hd=>⟨M,hle,hS,hch,hd.2,fun h=>by cases h⟩
     ·
      cases h
    ·
     rename_i hw;rw[if_neg hw];exact(QBw hE hC hsel hx p false _ _ F L w _ d m h hok hn' hs (hr.put o.dst .undef)).1 rfl
   ·
    cases h
  refine⟨fun hbf=>?_,fun _=>⟨m,rfl,fun i hi=>?_⟩⟩
  ·
   rcases hb with hb|⟨h1,h2⟩
   ·
    rw[hbf]at hb;cases hb
   ·
    refine⟨fun h0=>(by rw[h0]at h1;cases h1),fun i hi=>?_⟩;have:=List.all_eq_true.1 h2 i hi;rw[beq_iff_eq]at this;rw[this];exact key
  ·
   have:i=j:=by simpa[QJT]using hi
   rw[this];exact key
 | .alt p q,b,listed,a,F,L,w,a',d,n,h,hok,hn,hs,hr=>by
  simp only[QD6,Bool.and_eq_true,Bool.or_eq_true]at hok;obtain⟨⟨⟨⟨hb,hap⟩,haq⟩,hokp⟩,hokq⟩:=hok;unfold QCy at h
  split at h
  ·
   rename_i x y hpx hqy
   split at h
   ·
    rename_i hiso;injection h with h
    subst h;have hnp:QK5 p≤n:=by simp only[QK5]at hn;omega
    have hnq:QK5 q≤n:=by simp only[QK5]at hn;omega
    obtain⟨m,rfl,hp⟩:=(QBw hE hC hsel hx p true listed a F L w a' x n hpx hokp hnp hs hr).2 hap;obtain⟨m',hm',hq⟩:=(QBw hE hC hsel hx q true listed a F L w a' y (m+1) hqy hokq hnq hs hr).2 haq;have hmm:m'=m:=by omega
    subst hmm
    have conv:∀e a2 w2,OutQ P B G w0 L false y.out y.a y.F e a2 w2→OutQ P B G w0 L false x.out x.a x.F e a2 w2:=fun e a2 w2 hh=>
     QMI hs (QBV p a F x hpx) (QBV q a F y hqy) hiso hh
    have all:∀j∈QJT p++QJT q,wpOp P ops (OutQ P B G w0 L false x.out x.a x.F) j (wpAny P .any ops (OutQ P B G w0 L false x.out x.a x.F) m' (listed.setIfInBounds j true)) a' w:=by
     intro j hj;rcases List.mem_append.1 hj with hj|hj
     ·
      exact hp j hj
     ·
      exact QHp conv (fun a2 w2 hh=>QCY conv _ _ _ _ hh) (hq j hj)
    refine⟨fun hbf=>?_,fun _=>⟨m',rfl,all⟩⟩;rcases hb with hb|⟨h1,h2⟩
    ·
     rw[hbf]at hb;cases hb
    ·
     refine⟨fun h0=>(by rw[h0]at h1;cases h1),fun i hi=>?_⟩;exact all i (by simpa using List.all_eq_true.1 h2 i hi)
   ·
    cases h
  ·
   cases h
theorem QHV {t:TypeId}{x x' v:Value}{F:Fw}(h:QFG P t x F=some v)(hs:Sim P B G w0 L F.toW w)(hx:VR P L x x'):
  ∃a' v',x'= .pointer (some a')∧(loadVar t a').run P w= .ok v' w∧VR P L v v':=by
 unfold QFG at h
 split at h
 ·
  rename_i b o
  cases hx with
  |ptr _ _ hb=>
  split at h
  ·
   rename_i xs e fz hrd;obtain⟨_,us,hw,_,hsz,hus⟩:=hs.cells (F.rd_some hrd);have hxs:xs.toList.length=xs.size:=by simp
   refine⟨⟨L.at_ b,o,none⟩,?_⟩;unfold Go.loadVar
   split at h
   ·
    rename_i ha
    split at h
    ·
     rename_i n hn
     split at h
     ·
      rename_i r hr;injection h with h
      subst h;obtain⟨h1,h2,h3⟩:=QCX _ _ _ _ hr;have hlt:∀j,j<n→o+j<xs.size:=fun j hj=>by have:=h2 (by omega);omega
      have hl:=run_loadCells (P:=P) w ⟨L.at_ b,o,none⟩ n (fun j=>us.getD (o+j) undef) fun j hj=>by
       rw[QAz,cell?_of hw];exact getElem?_of_getD (by have:=hlt j hj;omega)
      refine⟨.agg ((List.range n).map fun j=>us.getD (o+j) undef).toArray,rfl,?_,?_⟩
      ·
       simp only[Sem.run_bind,QDw ha,Result.andThen_ok,if_true,QBg hn,hl,Sem.run_pure]
      ·
       refine .agg _ _ ?_ fun i hi=>?_
       ·
        show r.length=_;simp[h1]
       ·
        have hi':i<n:=by rw[←h1];exact hi
        have e1:(⟨r⟩:Array Value).getD i undef=xs.getD (o+i) undef:=by
         rw[←QAt];have h4:=h3 i hi'
         have h5:xs.toList[o+i]?=some (xs.getD (o+i) undef):=by
          have:=getElem?_of_getD (hlt i hi')
          simpa using this
         rw[h5]at h4;injection h4 with h4
         exact h4.symm
        have e2:(((List.range n).map fun j=>us.getD (o+j) undef).toArray).getD i undef=us.getD (o+i) undef:=by simp[Array.getD,hi']
        rw[e1,e2];exact hus _ (hlt i hi')
     ·
      cases h
    ·
     cases h
   ·
    rename_i ha;rw[QKe]at h;have hx:xs[o]?=some v:=by simpa using h
    obtain⟨ho,hv⟩:=getD_of_getElem? hx;refine⟨us.getD o undef,rfl,?_,?_⟩
    ·
     have hc:w.cell? ⟨L.at_ b,o,none⟩=some (us.getD o undef):=by rw[cell?_of hw];exact getElem?_of_getD (by omega)
     simp only[Sem.run_bind,QDw ha,Result.andThen_ok,Bool.false_eq_true,if_false,QGh hc]
    ·
     rw[←hv];exact hus o ho
   ·
    cases h
  ·
   cases h
 ·
  cases h
theorem QMX {ρ ρ':Operand→Value}{o:Oper}{v:Value}{F:Fw}(hs:Sim P B G w0 L F.toW w)(hρ:∀x∈o.op.operands.toList,VR P L (ρ x) (ρ' x))(he:QP4 P ρ o.op F=some v):
  ∃v',VR P L v v'∧(execOp ρ' o).run P w= .ok (.value v') w:=by
 unfold QP4 at he
 split at he
 ·
  rename_i t x ho;rw[ho]at hρ;obtain⟨a',v',h1,h2,h3⟩:=QHV he hs (hρ x (by simp[Op.operands]));refine⟨v',h3,?_⟩;unfold execOp;rw[ho];simp only[Instr.loadAt,h1,Instr.sureAddr,pure_bind,Sem.run_bind,h2,Result.andThen_ok,Sem.run_pure]
 ·
  rename_i t x k ok ho;rw[ho]at hρ;obtain⟨v',h1,h2⟩:=QFa hs (hρ x (by simp[Op.operands])) (hρ k (by simp[Op.operands])) (QHW he);refine⟨v',h2,?_⟩;unfold execOp;rw[ho];simp only[Sem.run_bind,h1,Result.andThen_ok,Sem.run_pure]
 ·
  rename_i t x lo ho;rw[ho]at hρ;obtain⟨v',h1,h2⟩:=QGk hs (hρ x (by simp[Op.operands])) (hρ lo (by simp[Op.operands])) (QKA he);refine⟨v',h2,?_⟩;unfold execOp;rw[ho];simp only[Option.map_some,Option.map_none,Sem.run_bind,h1,Result.andThen_ok,Sem.run_pure]
 ·
  cases he
theorem QCW {ops:Array Oper}{F:Fw}(hs:Sim P B G w0 L F.toW w){K:Act→Prop}:∀(l:List Oper) (a:Fa) (a':Act) (a1:Fa),(∀o∈l,∀x∈o.op.operands.toList,okX G x=true)→CR P L a a'→
  QD9 P ops l a F=some a1→(∀a1',CR P L a1 a1'→K a1')→wpStill P ops w K l a'
 | [],a,a',a1,_,hr,h,hK=>by
  simp only[QD9,Option.some.injEq]at h;subst h;exact hK a' hr
 |o::l,a,a',a1,hx,hr,h,hK=>by
  have hl:∀o∈l,∀x∈o.op.operands.toList,okX G x=true:=fun o' ho=>hx o' (List.mem_cons_of_mem _ ho)
  have hρ:∀x∈o.op.operands.toList,VR P L (a.eval x) (a'.eval x):=fun x hxx=>hr.eval hs (hx o List.mem_cons_self x hxx)
  unfold QD9 at h;unfold wpStill;rw[QCO hr]at h
  split at h
  ·
   rename_i hw;rw[if_pos hw];unfold Oper.still;rw[QLn]at h
   split at h
   ·
    rename_i v hv;obtain⟨v',h1,h2⟩:=QFK hρ hv;rw[h2 w];exact⟨rfl,QCW hs l _ _ a1 hl (hr.put o.dst h1) h hK⟩
   ·
    split at h
    ·
     rename_i v hv;obtain⟨v',h1,h2⟩:=QMX hs hρ hv;rw[h2];exact⟨rfl,QCW hs l _ _ a1 hl (hr.put o.dst h1) h hK⟩
    ·
     cases h
  ·
   rename_i hw;rw[if_neg hw];exact QCW hs l _ _ a1 hl (hr.put o.dst .undef) h hK
theorem QGe {c:Code}{Q Q':Exit→Act→World→Prop}(hQ:∀e a w,Q e a w→Q' e a w):∀(n:Nat) (a:Act) (w:World),Code.rounds P c Q n a w→Code.rounds P c Q' n a w
 |0,_,_,h=>h
 |n+1,a,w,h=>by
  rw[rounds_succ]at h ⊢;refine wp_mono h fun e a1 w1 he=>?_
  cases e <;> first|exact QGe hQ n _ _ he|exact hQ _ _ _ he
theorem QCu(hm:P.follows .mixedOrders=true)(hE:QE3 P ent)(hC:QCD P B G w0 call){plans:Nat→Option QAZ}{full:Bool}:∀(n:Nat),
  (∀(code:Code) (a:Fa) (F:Fw) (L:Lie) (w:World) (a':Act) (r:Out × Fa × Fw),QAu P B ent call plans n code a F=some r→QBo G plans code=true→(full=true→QA9 plans code=true)→Sim P B G w0 L F.toW w→CR P L a a'→
   code.wp P (OutQ P B G w0 L full r.1 r.2.1 r.2.2) a' w)∧
  (∀(code:Code) (a:Fa) (F:Fw) (L:Lie) (w:World) (a':Act) (r:Out × Fa × Fw),QAu P B ent call plans n (.loop code) a F=some r→QBo G plans code=true→(full=true→QA9 plans code=true)→Sim P B G w0 L F.toW w→CR P L a a'→
   Code.rounds P code (OutQ P B G w0 L full r.1 r.2.1 r.2.2) n a' w):=by
 intro n
 induction n with
 |zero=>exact⟨fun _ _ _ _ _ _ _ h=>(by cases h),fun _ _ _ _ _ _ _ h=>(by cases h)⟩
 |succ n ih=>
  obtain⟨ih1,ih2⟩:=ih
  have loops:∀(code:Code) (a:Fa) (F:Fw) (L:Lie) (w:World) (a':Act) (r:Out × Fa × Fw),QAu P B ent call plans (n+1) (.loop code) a F=some r→QBo G plans code=true→(full=true→QA9 plans code=true)→Sim P B G w0 L F.toW w→CR P L a a'→
    Code.rounds P code (OutQ P B G w0 L full r.1 r.2.1 r.2.2) (n+1) a' w:=by
   intro code a F L w a' r h hok hnt hs hr;rw[rounds_succ];simp only[QAu]at h
   split at h
   ·
    rename_i a1 F1 hb;refine wp_mono (ih1 code a F L w a' _ hb hok hnt hs hr) fun e a2 w2 hq=>?_
    obtain⟨M,hle,hS,hO⟩:=hq
    cases e with
    |normal=>exact QGe (fun e a3 w3 hh=>OutQ.mono hle hh) n _ _ (ih2 code a1 F1 M w2 a2 r h hok hnt hS hO)
    |_=>exact hO.elim
   ·
    rename_i hne;refine wp_mono (ih1 code a F L w a' r h hok hnt hs hr) fun e a2 w2 hq=>?_
    cases e with
    |normal=>
     obtain⟨M,hle,hS,hO⟩:=hq;obtain⟨out,a1,F1⟩:=r
     cases out with
     |normal=>exact absurd h (hne a1 F1)
     |_=>exact hO.elim
    |_=>exact hq
  refine⟨?_,loops⟩;intro code a F L w a' r h hok hnt hs hr
  cases code with
  |skip=>
   simp only[QAu,Option.some.injEq]at h;subst h;exact wp_skip ⟨L,L.le_refl,hs,hr⟩
  |label l=>
   simp only[QAu,Option.some.injEq]at h;subst h;exact wp_label ⟨L,L.le_refl,hs,hr⟩
  |region id ops draw=>
   simp only[QAu]at h;simp only[QBo,Bool.and_eq_true,Bool.or_eq_true,List.all_eq_true]at hok;obtain⟨hx,hp⟩:=hok
   split at h
   ·
    rename_i hd;subst hd;have hs1:Sim P B G w0 L F.toW {w with drawn:=w.drawn+1}:=hs.same rfl rfl rfl rfl rfl;rcases hp with hp|hp
    ·
     cases hp
    split at h
    ·
     rename_i p hpl;rw[hpl]at hp;simp only[Bool.and_eq_true,decide_eq_true_eq]at hp;obtain⟨⟨hsel,hpo⟩,hlen⟩:=hp
     split at h
     ·
      rename_i d hd;injection h with h
      subst h
      cases full with
      |true=>have:=hnt rfl;simp[QA9,hpl]at this
      |false=>exact wp_region_any hm ((QBw hE hC hsel hx p false _ a F L _ a' d ops.size hd hpo hlen hs1 hr).1 rfl)
     ·
      cases h
    ·
     rename_i hpl;rw[hpl]at hp
     split at h
     ·
      rename_i a1 hst;injection h with h
      subst h;exact wp_region_still hm hp (QCW hs1 ops.toList a a' a1 hx hr hst fun a1' hr1=>⟨L,L.le_refl,hs1,hr1⟩)
     ·
      cases h
    ·
     rename_i n hpl;rw[hpl]at hp
     split at h
     ·
      rename_i a1 hst
      have hlit:=wp_region_still_tail (P:=P) (id:=id) (Q:=OutQ P B G w0 L full r.1 r.2.1 r.2.2) (a:=a') (w:=w) (l:=ops.toList) n hm (by simpa using hp) (by
       refine QCW (ops:=ops.toList.toArray) hs1 (ops.toList.take n) a a' a1 (fun o ho=>hx o (List.mem_of_mem_take ho)) hr (by simpa using hst) fun a1' hr1=>?_
       have:=opsF_spec hE hC (full:=full) (ops:=ops) (ops.toList.drop n) a1 F L _ a1' r (fun o ho=>hx o (List.mem_of_mem_drop ho)) hs1 hr1 h
       simpa using this)
      simpa using hlit
     ·
      cases h
    ·
     rename_i l hpl;rw[hpl]at hp;simp only[Bool.and_eq_true,decide_eq_true_eq]at hp;obtain⟨⟨⟨_,hst⟩,hso⟩,hlen⟩:=hp
     cases full with
     |true=>have:=hnt rfl;simp[QA9,hpl]at this
     |false=>exact QNi hm hE hC hst hx h hso hlen hs1 hr
    ·
     cases h
   ·
    rename_i hd;have hd:draw=false:=by simpa using hd
    subst hd;exact wp_region_list (opsF_spec hE hC ops.toList a F L w a' r hx hs hr h)
  |seq x y=>
   simp only[QAu]at h;simp only[QBo,Bool.and_eq_true]at hok;have ntS:full=true→QA9 plans x=true∧QA9 plans y=true:=fun e=>by have:=hnt e;simpa only[QA9,Bool.and_eq_true]using this
   refine wp_seq ?_
   split at h
   ·
    rename_i a1 F1 hb;refine wp_mono (ih1 x a F L w a' _ hb hok.1 (fun e=>(ntS e).1) hs hr) fun e a2 w2 hq=>?_
    obtain⟨M,hle,hS,hO⟩:=hq
    cases e with
    |normal=>exact wp_mono (ih1 y a1 F1 M w2 a2 r h hok.2 (fun e=>(ntS e).2) hS hO) fun e a3 w3 hh=>OutQ.mono hle hh
    |_=>exact hO.elim
   ·
    rename_i hne;refine wp_mono (ih1 x a F L w a' r h hok.1 (fun e=>(ntS e).1) hs hr) fun e a2 w2 hq=>?_
    cases e with
    |normal=>
     obtain⟨M,hle,hS,hO⟩:=hq;obtain⟨out,a1,F1⟩:=r
     cases out with
     |normal=>exact absurd h (hne a1 F1)
     |_=>exact hO.elim
    |_=>exact hq
  |cond k x y=>
   simp only[QAu]at h;simp only[QBo,Bool.and_eq_true]at hok;obtain⟨⟨hk,hx⟩,hy⟩:=hok;have ntS:full=true→QA9 plans x=true∧QA9 plans y=true:=fun e=>by have:=hnt e;simpa only[QA9,Bool.and_eq_true]using this
   have hv:=hr.eval hs hk
   split at h
   ·
    rename_i b hb;rw[hb]at hv;have hq:=hv.eq_of_flat1 rfl;refine wp_cond hq ?_
    cases b
    ·
     exact ih1 y a F L w a' r h hy (fun e=>(ntS e).2) hs hr
    ·
     exact ih1 x a F L w a' r h hx (fun e=>(ntS e).1) hs hr
   ·
    cases h
  |block id body=>
   simp only[QAu]at h;simp only[QBo]at hok;refine wp_block ?_
   split at h
   ·
    rename_i i a1 F1 hb;refine wp_mono (ih1 body a F L w a' _ hb hok hnt hs hr) fun e a2 w2 hq=>?_
    obtain⟨M,hle,hS,hO⟩:=hq
    cases e with
    |exit j=>
     obtain⟨rfl,hc⟩:=hO
     split at h
     ·
      rename_i he;injection h with h
      subst h;show if j=id then _ else _;rw[if_pos he];exact⟨M,hle,hS,hc⟩
     ·
      rename_i he;injection h with h
      subst h;show if j=id then _ else _;rw[if_neg he];exact⟨M,hle,hS,rfl,hc⟩
    |_=>exact hO.elim
   ·
    rename_i hne;refine wp_mono (ih1 body a F L w a' r h hok hnt hs hr) fun e a2 w2 hq=>?_
    cases e with
    |exit j=>
     obtain⟨M,hle,hS,hO⟩:=hq;obtain⟨out,a1,F1⟩:=r
     cases out with
     |exit i=>exact absurd h (hne i a1 F1)
     |_=>exact hO.elim
    |_=>exact hq
  |loop body=>
   simp only[QBo]at hok;exact wp_loop_rounds (n+1) (loops body a F L w a' r h hok hnt hs hr)
  |scope body=>
   simp only[QAu]at h;simp only[QBo]at hok;refine wp_scope_straight (wp_mono (ih1 body a F L w a' r h hok hnt hs hr) fun e a2 w2 hq=>?_)
   cases e with
   |goto l=>obtain⟨M,hle,hS,hO⟩:=hq;exact hO.elim
   |_=>exact hq
  |exit id=>
   simp only[QAu,Option.some.injEq]at h;subst h;exact wp_exit ⟨L,L.le_refl,hs,rfl,hr⟩
  |ret=>
   simp only[QAu,Option.some.injEq]at h;subst h;exact wp_ret ⟨L,L.le_refl,hs,hr⟩
  |_=>simp only[QAu]at h;cases h
end
section
variable {P : Program} {B G : Nat} {w0 : World} {L : Lie} {w : World} {ent : FuncId → Bool} {call : QBj}
def QLr(tmps':Array Value):ResultVar→Sem Value
 | .tmp t=>Pure.pure (tmps'.getD t undef)
 | .cell a t=>do loadVar t (←asAddr (tmps'.getD a undef))
theorem QFL(fn:Func)(tmps':Array Value):results fn tmps'=(do
  let vs←fn.results.mapM (QLr tmps')
  Pure.pure (if h:vs.size=1 then vs[0] else .tuple vs)):=by
 unfold results
 congr 1
theorem QGb {tmps:List Value}{tmps':Array Value}{F:Fw}(hs:Sim P B G w0 L F.toW w)(ht:AR P L ⟨tmps⟩ tmps'):∀(l:List ResultVar) (vs:List Value),QMY P tmps F l=some vs→
  ∃us:List Value,(l.mapM (QLr tmps')).run P w=Result.ok us w∧AR P L ⟨vs⟩ ⟨us⟩
 | [],vs,h=>by
  simp only[QMY,Option.some.injEq]at h;subst h;exact⟨[],by rw[List.mapM_nil];rfl,.nil⟩
 | .tmp t::l,vs,h=>by
  simp only[QMY]at h
  split at h
  ·
   rename_i vs' hv;injection h with h
   subst h;obtain⟨us,h1,h2⟩:=QGb hs ht l vs' hv;refine⟨tmps'.getD t undef::us,?_,?_⟩
   ·
    rw[List.mapM_cons];simp only[QLr,Sem.run_bind,Sem.run_pure,Result.andThen_ok,h1]
   ·
    have h3:VR P L (getL tmps t) (tmps'.getD t undef):=by rw[QA5];exact ht.getD t
    have:=(AR.one h3).append h2;have e1:(⟨getL tmps t::vs'⟩:Array Value)=#[getL tmps t]++⟨vs'⟩:=by apply Array.ext';simp
    have e2:(⟨tmps'.getD t undef::us⟩:Array Value)=#[tmps'.getD t undef]++⟨us⟩:=by apply Array.ext';simp
    rw[e1,e2];exact this
  ·
   cases h
 | .cell x t::l,vs,h=>by
  simp only[QMY]at h
  split at h
  ·
   rename_i v vs' hl hv;injection h with h
   subst h;obtain⟨us,h1,h2⟩:=QGb hs ht l vs' hv;have h3:VR P L (getL tmps x) (tmps'.getD x undef):=by rw[QA5];exact ht.getD x
   obtain⟨a',v',e,hr,hvv⟩:=QHV hl hs h3;refine⟨v'::us,?_,?_⟩
   ·
    rw[List.mapM_cons];simp only[QLr,Sem.run_bind,e,asAddr,Sem.run_pure,Result.andThen_ok,hr,h1]
   ·
    have:=(AR.one hvv).append h2;have e1:(⟨v::vs'⟩:Array Value)=#[v]++⟨vs'⟩:=by apply Array.ext';simp
    have e2:(⟨v'::us⟩:Array Value)=#[v']++⟨us⟩:=by apply Array.ext';simp
    rw[e1,e2];exact this
  ·
   cases h
theorem QJt {fn:Func}{tmps:List Value}{tmps':Array Value}{F:Fw}{vs:List Value}(hs:Sim P B G w0 L F.toW w)(ht:AR P L ⟨tmps⟩ tmps')(h:QMY P tmps F fn.results.toList=some vs):
  ∃v',(results fn tmps').run P w= .ok v' w∧VR P L (QOL vs) v':=by
 obtain⟨us,h1,h2⟩:=QGb hs ht _ _ h;refine⟨if h:us.toArray.size=1 then us.toArray[0] else .tuple us.toArray,?_,?_⟩
 ·
  rw[QFL,Array.mapM_eq_mapM_toList];simp only[Sem.run_bind,Sem.run_map,h1,Result.andThen_ok,Sem.run_pure]
 ·
  have hl:vs.length=us.length:=h2.1
  cases vs with
  |nil=>
   cases us with
   |nil=>exact .tuple _ _ rfl (fun i h=>absurd h (by simp))
   |cons=>simp at hl
  |cons v vs=>
   cases vs with
   |nil=>
    cases us with
    |nil=>simp at hl
    |cons u us=>
     cases us with
     |nil=>
      have:=h2.2 0 (by simp)
      simpa[QOL,Array.getD]using this
     |cons=>simp at hl
   |cons v2 vs=>
    have hne:¬us.toArray.size=1:=by simp only[List.size_toArray];rw[←hl];simp
    rw[dif_neg hne];exact .tuple _ _ h2.1 h2.2
def QE5(P:Program)(G:Nat)(plans:FuncId→Nat→Option QAZ):Prop:=∀f fn code,P.funcs[f]?=some fn→fn.body=some code→QBo G (plans f) code=true
theorem QCq {fn:Func}{args:List Value}{args':Array Value}(h:AR P L ⟨args⟩ args'):CR P L (QHt fn args) {tmps:=args'++Array.replicate (fn.ntmps - args'.size) undef,defers:= []}:=by
 refine⟨?_,trivial⟩;have hl:args.length=args'.size:=h.1;have e:(⟨args++List.replicate (fn.ntmps - args.length) undef⟩:Array Value)=⟨args⟩++Array.replicate (fn.ntmps - args'.size) undef:=by apply Array.ext';simp[hl]
 show AR P L ⟨args++List.replicate (fn.ntmps - args.length) undef⟩ _;rw[e];refine h.append ⟨rfl,fun i hi=>?_⟩
 have:(Array.replicate (fn.ntmps - args'.size) undef).getD i undef=undef:=by
  simp only[Array.size_replicate]at hi;simp[Array.getD,hi]
 rw[this];exact .undef
theorem QK4(hm:P.follows .mixedOrders=true)(hE:QE3 P ent)(hC:QCD P B G w0 call){plans:FuncId→Nat→Option QAZ}(hP:QE5 P G plans){fuel:Nat}{f:FuncId}{args:List Value}{args':Array Value}{F F1:Fw}
  (h:QEm P B ent call plans fuel f args F=some F1) (hs:Sim P B G w0 L F.toW w) (ha:AR P L ⟨args⟩ args') (u:FrameMode):
  CallsD P f args' u w fun e u' w1=>u'=u∧(∃v,e= .returned v)∧∃M,L.le M∧Sim P B G w0 M F1.toW w1:=by
 unfold QEm at h
 split at h
 ·
  rename_i fn hf
  split at h
  ·
   rename_i code hb;refine callsD_of_wp (R:=fun e w1=>(∃v,e= .returned v)∧∃M,L.le M∧Sim P B G w0 M F1.toW w1) hf hb ?_
   have hres:∀(r:Out × Fa × Fw),(r.2.1.defers.isEmpty=true∧fn.results.toList.isEmpty=true)→r.2.2=F1→(r.1= .normal∨r.1= .ret)→QAu P B ent call (plans f) fuel code (QHt fn args) F=some r→
     code.wp P (bodyPost P fn (fun e w1=>(∃v,e= .returned v)∧∃M,L.le M∧Sim P B G w0 M F1.toW w1)) {tmps:=args'++Array.replicate (fn.ntmps - args'.size) undef,defers:= []} w:=by
    rintro⟨out,a1,F2⟩ ⟨hd,hr⟩ rfl ho hc;refine wp_mono ((QCu hm hE hC (full:=QA9 (plans f) code) fuel).1 code _ F L w _ _ hc (hP f fn code hf hb) (fun e=>e) hs (QCq ha)) fun e a2 w2 hq=>?_
    obtain⟨M,hle,hS,hO⟩:=hq;have hd':a1.defers= []:=by simpa using hd
    have hr':fn.results=#[]:=by simpa using hr
    have fin:CR P M a1 a2→a2.defers= []∧∃v,(results fn a2.tmps).run P w2= .ok v w2∧((∃v',Ending.returned v= .returned v')∧∃M,L.le M∧Sim P B G w0 M F2.toW w2):=by
     intro hcr;refine⟨?_,.tuple #[],?_,⟨_,rfl⟩,M,hle,hS⟩
     ·
      have:=hcr.2;rw[hd']at this
      cases hx:a2.defers with
      |nil=>rfl
      |cons=>rw[hx]at this;exact this.elim
     ·
      rw[QFL,hr',Array.mapM_eq_mapM_toList,List.mapM_nil];simp
    rcases ho with rfl|rfl
    ·
     cases e with
     |normal=>exact fin hO
     |_=>exact hO.elim
    ·
     cases e with
     |ret=>exact fin hO
     |_=>exact hO.elim
   split at h
   ·
    rename_i a1 F2 hc
    split at h
    ·
     rename_i hd;injection h with h
     exact hres _ hd h (.inl rfl) hc
    ·
     cases h
   ·
    rename_i a1 F2 hc
    split at h
    ·
     rename_i hd;injection h with h
     exact hres _ hd h (.inr rfl) hc
    ·
     cases h
   ·
    cases h
  ·
   cases h
 ·
  cases h
theorem QHc {code rest:Code}{o:Oper}(h:QK6 code=some (o,rest)):∃id ops k,code= .seq (.region id ops false) rest∧ops.toList= [o]∧o.op= .call k∧k.callee= .builtin .recover∧o.guard=none:=by
 unfold QK6 at h
 split at h
 ·
  rename_i id ops rest'
  split at h
  ·
   rename_i o' ho
   split at h
   ·
    rename_i k hk
    split at h
    ·
     rename_i h1 h2;injection h with h
     injection h with h3 h4
     subst h3 h4;exact⟨id,ops,k,rfl,ho,hk,h1,h2⟩
    ·
     cases h
   ·
    cases h
  ·
   cases h
 ·
  cases h
def ModeR(P:Program)(L:Lie):Option (List PanicEntry)→FrameMode→Prop
 |none,.returning=>True
 |some ch,.panicking dh=>ChR P L ch dh∧QMy ch=true
 |_,_=>False
theorem QFT:∀{ch dh:List PanicEntry},ChR P L ch dh→ch.all (fun x=>!x.goexit)=true→dh.dropWhile (!·.goexit)= []
 | [], [],_,_=>rfl
 | [],_::_,h,_=>h.elim
 |_::_, [],h,_=>h.elim
 |c::cs,d::ds,h,ha=>by
  simp only[List.all_cons,Bool.and_eq_true]at ha;have e:=h.1.2.2;rw[List.dropWhile_cons,if_pos (by rw[←e];exact ha.1)];exact QFT h.2 ha.2
theorem QOf(hm:P.follows .mixedOrders=true)(hE:QE3 P ent)(hC:QCD P B G w0 call){plans:FuncId→Nat→Option QAZ}(hP:QE5 P G plans){fuel:Nat}{f:FuncId}{args:List Value}{args':Array Value}{F F1:Fw}
  {m m1:Option (List PanicEntry)} {u:FrameMode} (h:QSK P B ent call plans fuel f args m F=some (F1,m1)) (hs:Sim P B G w0 L F.toW w) (ha:AR P L ⟨args⟩ args') (hmo:ModeR P L m u):
  CallsD P f args' u w fun e u' w1=>(∃v,e= .returned v)∧(∃M,L.le M∧Sim P B G w0 M F1.toW w1)∧m1=none∧settle u'= .returning:=by
 unfold QSK at h
 split at h
 ·
  rename_i fn hf
  split at h
  ·
   rename_i code hb
   split at h
   ·
    rename_i o rest v mm hro hrv;obtain⟨id,ops,k,rfl,hops,hok,hk,hg⟩:=QHc hro;refine callsD_of_wpS hf hb fun c₀ cs hu=>?_
    obtain⟨v',u1,hrec,hv,hset,hmm⟩:∃v' u1,(recoverD (c₀::cs)=some (v',{c₀ with mode:=u1}::cs)∨(recoverD (c₀::cs)=none∧v'= .nilIface∧u1=u))∧VR P L v v'∧settle u1= .returning∧mm=none:=by
     cases m with
     |none=>
      cases u with
      |returning=>
       simp only[QTl,Option.some.injEq,Prod.mk.injEq]at hrv;obtain⟨rfl,rfl⟩:=hrv;exact⟨.nilIface,.returning,.inr ⟨by simp only[recoverD,hu],rfl,rfl⟩,.nilI,rfl,rfl⟩
      |_=>exact hmo.elim
     |some ch=>
      cases u with
      |panicking dh=>
       cases ch with
       |nil=>cases hrv
       |cons c cs'=>
        cases dh with
        |nil=>exact hmo.1.elim
        |cons d ds=>
         simp only[QTl]at hrv
         split at hrv
         ·
          rename_i hc;obtain⟨c1,c2,c3⟩:=hc;injection hrv with hrv
          injection hrv with e1 e2
          subst e1 e2;obtain⟨⟨g1,g2,g3⟩,g4⟩:=hmo.1;obtain⟨dv,dr,dg⟩:=d;simp only at g1 g2 g3;rw[c1]at g2;rw[c2]at g3;subst g2 g3;refine⟨dv,.panicking ({v:=dv,recovered:=true}::ds),.inl (by simp only[recoverD,hu]),g1,?_,rfl⟩;unfold settle;simp only[QFT g4 c3]
         ·
          cases hrv
      |_=>exact hmo.elim
    subst hmm;have hsz:ops.size=1:=by rw[←Array.length_toList,hops];rfl
    have h0:ops[0]?=some o:=by rw[←Array.getElem?_toList,hops];rfl
    refine wpS_seq (wpS_region ?_);rw[hsz];show wpOpsS P ops _ [0] _ _ w;have hw:Region.wanted o (yielded ops (args'++Array.replicate (fn.ntmps - args'.size) undef))=true:=by unfold Region.wanted;rw[hg]
    have hex:∀ρ,(execOp ρ o).run P w= .ok .recover w:=fun ρ=>by
     unfold execOp;rw[hok];simp only[resolve,hk,pure_bind,invoke,builtin,Sem.run_pure]
    have hcr:=(QCq (fn:=fn) ha).put o.dst hv
    have fin:∀cs1,cs1={c₀ with mode:=u1}::cs→rest.wpS P (bodyPostS P fn c₀ cs fun e u' w1=>(∃v,e= .returned v)∧(∃M,L.le M∧Sim P B G w0 M F1.toW w1)∧m1=none∧settle u'= .returning)
      (({tmps:=args'++Array.replicate (fn.ntmps - args'.size) undef,defers:= []}:Act).put o.dst v') cs1 w:=by
     rintro cs1 rfl
     have hcok:QBo G (plans f) rest=true:=by
      have:=hP f fn _ hf hb;simp only[QBo,Bool.and_eq_true]at this;exact this.2
     have hres:∀(r:Out × Fa × Fw),(r.2.1.defers.isEmpty=true∧fn.results.toList.isEmpty=true)→r.2.2=F1→(r.1= .normal∨r.1= .ret)→m1=none→
       QAu P B ent call (plans f) fuel rest ((QHt fn args).put o.dst v) F=some r→
       rest.wpS P (bodyPostS P fn c₀ cs fun e u' w1=>(∃v,e= .returned v)∧(∃M,L.le M∧Sim P B G w0 M F1.toW w1)∧m1=none∧settle u'= .returning)
        (({tmps:=args'++Array.replicate (fn.ntmps - args'.size) undef,defers:= []}:Act).put o.dst v') ({c₀ with mode:=u1}::cs) w:=by
      rintro⟨out,a1,F2⟩ ⟨hd,hr⟩ rfl ho hm1 hc;refine wpS_of_wp (wp_mono ((QCu hm hE hC (full:=false) fuel).1 rest _ F L w _ _ hc hcok (fun e=>by cases e) hs hcr) fun e a2 w2 hq=>?_);obtain⟨M,hle,hS,hO⟩:=hq;have hd':a1.defers= []:=by simpa using hd
      have hr':fn.results=#[]:=by simpa using hr
      have fin:CR P M a1 a2→a2.defers= []∧∃u',({c₀ with mode:=u1}::cs:List Frame)={c₀ with mode:=u'}::cs∧∃v,(results fn a2.tmps).run P w2= .ok v w2∧
        ((∃v',Ending.returned v= .returned v')∧(∃M,L.le M∧Sim P B G w0 M F2.toW w2)∧m1=none∧settle u'= .returning):=by
       intro hcr;refine⟨?_,u1,rfl,.tuple #[],?_,⟨_,rfl⟩,⟨M,hle,hS⟩,hm1,hset⟩
       ·
        have:=hcr.2;rw[hd']at this
        cases hx:a2.defers with
        |nil=>rfl
        |cons=>rw[hx]at this;exact this.elim
       ·
        rw[QFL,hr',Array.mapM_eq_mapM_toList,List.mapM_nil];simp
      rcases ho with rfl|rfl
      ·
       cases e with
       |normal=>exact fin hO
       |_=>exact hO.elim
      ·
       cases e with
       |ret=>exact fin hO
       |_=>exact hO.elim
     split at h
     ·
      rename_i a1 F2 hc
      split at h
      ·
       rename_i hd;injection h with h
       injection h with h1 h2
       exact hres _ hd h1 (.inl rfl) h2.symm hc
      ·
       cases h
     ·
      rename_i a1 F2 hc
      split at h
      ·
       rename_i hd;injection h with h
       injection h with h1 h2
       exact hres _ hd h1 (.inr rfl) h2.symm hc
      ·
       cases h
     ·
      cases h
    unfold wpOpsS;simp only[h0];rw[if_pos hw,hex];dsimp only;rcases hrec with hrec|⟨hrec,rfl,rfl⟩
    ·
     rw[hrec];exact fin _ rfl
    ·
     rw[hrec];exact fin _ (by rw[show c₀={c₀ with mode:=u1} from by rw[←hu]])
   ·
    cases h
  ·
   cases h
 ·
  cases h
def FinR(P:Program)(B G:Nat)(w0:World)(L:Lie)(r:Res)(F:Fw):Ending→World→Prop:=fun e w1=>∃M,L.le M∧Sim P B G w0 M F.toW w1∧QTX P M r e
theorem FinR.mono {M:Lie}(hl:L.le M){r:Res}{F:Fw}{e:Ending}{w1:World}(h:FinR P B G w0 M r F e w1):FinR P B G w0 L r F e w1:=by
 obtain⟨N,h1,h2⟩:=h;exact⟨N,Lie.le_trans hl h1,h2⟩
theorem ModeR.settle {m:Option (List PanicEntry)}{u:FrameMode}(h:ModeR P L m u):settle u=u∧u≠ .run:=by
 cases m with
 |none=>
  cases u with
  |returning=>exact⟨rfl,by simp⟩
  |_=>exact h.elim
 |some ch=>
  cases u with
  |panicking dh=>
   refine⟨?_,by simp⟩;obtain⟨h1,h2⟩:=h
   cases dh with
   |nil=>rfl
   |cons d ds=>
    cases ch with
    |nil=>exact h1.elim
    |cons c cs=>
     have e:=h1.1.2.1;simp only[QMy,Bool.not_eq_true']at h2;rw[h2]at e;obtain⟨v,rec,ge⟩:=d;simp only at e;subst e;rfl
  |_=>exact h.elim
theorem leaveF_spec(hm:P.follows .mixedOrders=true)(hE:QE3 P ent)(hC:QCD P B G w0 call){plans:FuncId→Nat→Option QAZ}(hP:QE5 P G plans){fuel:Nat}{fn:Func}{tmps:List Value}{tmps':Array Value}{may:Bool}:
  ∀(ds:List Deferred) (m:Option (List PanicEntry)) (F:Fw) (L:Lie) (w:World) (ds':List Deferred) (u:FrameMode) (r:Res) (F2:Fw),
   QCE P B ent call plans fuel fn tmps may ds m F=some (r,F2)→DLR P L ds ds'→(m=none∨may=true→AR P L ⟨tmps⟩ tmps')→Sim P B G w0 L F.toW w→ModeR P L m u→Leaves P fn tmps' (FinR P B G w0 L r F2) ds' u w
 | [],none,F,L,w,ds',u,r,F2,h,hd,ht,hs,hmo=>by
  simp only[QCE]at h
  split at h
  ·
   rename_i vs hv;injection h with h
   injection h with h1 h2
   subst h1 h2
   cases ds' with
   |cons=>exact hd.elim
   |nil=>
    cases u with
    |returning=>
     obtain⟨v',g1,g2⟩:=QJt hs (ht (.inl rfl)) hv;exact⟨v',g1,L,L.le_refl,hs,g2⟩
    |_=>exact hmo.elim
  ·
   cases h
 | [],some ch,F,L,w,ds',u,r,F2,h,hd,ht,hs,hmo=>by
  simp only[QCE,Option.some.injEq,Prod.mk.injEq]at h;obtain⟨h1,h2⟩:=h;subst h1 h2
  cases ds' with
  |cons=>exact hd.elim
  |nil=>
   cases u with
   |panicking dh=>exact⟨L,L.le_refl,hs,hmo.1⟩
   |_=>exact hmo.elim
 |d::ds,m,F,L,w,ds',u,r,F2,h,hd,ht,hs,hmo=>by
  cases ds' with
  |nil=>exact hd.elim
  |cons d' ds'=>
   obtain⟨⟨⟨fnn,cap,cap',t1,t2,hcap⟩,hargs⟩,hds⟩:=hd;obtain⟨tgt',args'⟩:=d';simp only at t2;subst t2;unfold QCE at h;rw[t1]at h;obtain⟨hset,hrun⟩:=hmo.settle
   split at h
   ·
    rename_i g cap0 heq;injection heq with e1 e2
    subst e1 e2
    split at h
    ·
     rename_i hent
     split at h
     ·
      rename_i F1 hpl;have hlist:(⟨d.args.toList++cap.toList⟩:Array Value)=d.args++cap:=by apply Array.ext';simp
      have hcd:=QK4 hm hE hC hP hpl hs (by rw[hlist];exact hargs.append hcap) u;refine leaves_cons hrun (show(callFunc g (args'++cap')).run P w= .ok (.enter g (args'++cap')) w from hE g hent _ _) (hcd.mono fun e u' w1 hR=>?_);obtain⟨rfl,⟨v,rfl⟩,M,hle,hS⟩:=hR
      have hmo':ModeR P M m u':=by
       cases m with
       |none=>cases u' with
        |returning=>trivial
        |_=>exact hmo.elim
       |some ch=>
        cases u' with
        |panicking dh=>exact⟨hmo.1.mono hle,hmo.2⟩
        |_=>exact hmo.elim
      have:=leaveF_spec hm hE hC hP ds m F1 M w1 ds' u' r F2 h (hds.mono hle) (fun e=>(ht e).mono hle) hS hmo';show Leaves P fn tmps' _ ds' (settle u') w1;rw[hset];exact leaves_mono (fun e w2 hh=>FinR.mono hle hh) ds' u' w1 this
     ·
      split at h
      ·
       rename_i hmay
       split at h
       ·
        rename_i F1 m1 hre;have hlist:(⟨d.args.toList++cap.toList⟩:Array Value)=d.args++cap:=by apply Array.ext';simp
        have hcd:=QOf hm hE hC hP hre hs (by rw[hlist];exact hargs.append hcap) hmo;refine leaves_cons hrun (show(callFunc g (args'++cap')).run P w= .ok (.enter g (args'++cap')) w from hE g hent _ _) (hcd.mono fun e u' w1 hR=>?_);obtain⟨⟨v,rfl⟩,⟨M,hle,hS⟩,rfl,hse⟩:=hR;have:=leaveF_spec hm hE hC hP ds none F1 M w1 ds' .returning r F2 h (hds.mono hle) (fun _=>(ht (.inr hmay)).mono hle) hS trivial;show Leaves P fn tmps' _ ds' (settle u') w1;rw[hse];exact leaves_mono (fun e w2 hh=>FinR.mono hle hh) ds' .returning w1 this
       ·
        cases h
      ·
       cases h
    ·
     cases h
   ·
    cases h
where
 leaves_mono {fn:Func} {tmps:Array Value} {R R':Ending→World→Prop} (hR:∀e w,R e w→R' e w):∀(ds:List Deferred) (u:FrameMode) (w:World),Leaves P fn tmps R ds u w→Leaves P fn tmps R' ds u w
  | [],.returning,w,h=>let ⟨v,h1,h2⟩:=h;⟨v,h1,hR _ _ h2⟩
  | [],.panicking ch,w,h=>hR _ _ h
  | [],.run,w,h=>h
  |d::ds,u,w,h=>by
   obtain⟨h0,fv,cap,f,args,h1,h2,h3⟩:=h;refine⟨h0,fv,cap,f,args,h1,h2,h3.mono fun e u' w' he=>?_⟩
   cases e with
   |returned v=>exact leaves_mono hR ds _ _ he
   |panicked ch=>exact leaves_mono hR ds _ _ he
   |outgrown=>exact hR _ _ he
def QPV(P:Program)(B:Nat)(ent:FuncId→Bool)(plans:FuncId→Nat→Option QAZ)(fuel:Nat)(call:QBj):QBj:=fun f args F=>
 match P.funcs[f]? with
 |some fn=>(match fn.body with
  |some code=>(match QAu P B ent call (plans f) fuel code (QHt fn args) F with
   |some (.normal,a1,F1)=>QCE P B ent call plans fuel fn a1.tmps true a1.defers none F1
   |some (.ret,a1,F1)=>QCE P B ent call plans fuel fn a1.tmps true a1.defers none F1
   |some (.pan ch,a1,F1)=>if QMy ch=true then QCE P B ent call plans fuel fn a1.tmps (QA9 (plans f) code) a1.defers (some ch) F1 else none
   |_=>none)
  |none=>none)
 |none=>none
theorem QL2(hm:P.follows .mixedOrders=true)(hE:QE3 P ent){plans:FuncId→Nat→Option QAZ}(hP:QE5 P G plans){call:QBj}(hC:QCD P B G w0 call){fuel:Nat}:QCD P B G w0 (QPV P B ent plans fuel call):=by
  intro f args F r F1 h L w args' hs ha;unfold QPV at h
  split at h
  ·
   rename_i fn hf
   split at h
   ·
    rename_i code hb;refine calls_of_wp_defers (R:=FinR P B G w0 L r F1) hf hb ?_
    split at h
    ·
     rename_i a1 F2 hc;refine wp_mono ((QCu hm hE hC (full:=QA9 (plans f) code) fuel).1 code _ F L w _ _ hc (hP f fn code hf hb) (fun e=>e) hs (QCq ha)) fun e a2 w2 hq=>?_
     obtain⟨M,hle,hS,hOO⟩:=hq
     cases e with
     |normal=>exact leaveF_spec.leaves_mono (fun e w3 hh=>FinR.mono hle hh) _ _ _ (leaveF_spec hm hE hC hP _ none F2 M w2 a2.defers .returning r F1 h hOO.2 (fun _=>hOO.1) hS trivial)
     |_=>exact hOO.elim
    ·
     rename_i a1 F2 hc;refine wp_mono ((QCu hm hE hC (full:=QA9 (plans f) code) fuel).1 code _ F L w _ _ hc (hP f fn code hf hb) (fun e=>e) hs (QCq ha)) fun e a2 w2 hq=>?_
     obtain⟨M,hle,hS,hOO⟩:=hq
     cases e with
     |ret=>exact leaveF_spec.leaves_mono (fun e w3 hh=>FinR.mono hle hh) _ _ _ (leaveF_spec hm hE hC hP _ none F2 M w2 a2.defers .returning r F1 h hOO.2 (fun _=>hOO.1) hS trivial)
     |_=>exact hOO.elim
    ·
     rename_i ch a1 F2 hc
     split at h
     ·
      rename_i hun;refine wp_mono ((QCu hm hE hC (full:=QA9 (plans f) code) fuel).1 code _ F L w _ _ hc (hP f fn code hf hb) (fun e=>e) hs (QCq ha)) fun e a2 w2 hq=>?_
      obtain⟨M,hle,hS,hOO⟩:=hq
      cases e with
      |panic dh=>exact leaveF_spec.leaves_mono (fun e w3 hh=>FinR.mono hle hh) _ _ _ (leaveF_spec hm hE hC hP _ (some ch) F2 M w2 a2.defers (.panicking dh) r F1 h hOO.2.1 (fun e=>hOO.2.2 (e.resolve_left (by simp))) hS ⟨hOO.1,hun⟩)
      |_=>exact hOO.elim
     ·
      cases h
    ·
     cases h
   ·
    cases h
  ·
   cases h
end
def QSy:List (Nat × QAZ):= [(5,.still)]
def QSz:List (Nat × QAZ):= [(16,.tree (.pure 0 (.pure 4 (.alt (.act 1 (.alt (.act 2 (.alt (.act 3 (.act 5 (.act 6 (.act 7 (.act 8 (.act 9 (.done))))))) (.act 5 (.alt (.act 3 (.act 6 (.act 7 (.act 8 (.act 9 (.done)))))) (.act 6 (.act 3 (.act 7 (.act 8 (.act 9 (.done)))))))))) (.act 5 (.alt (.act 2 (.alt (.act 3 (.act 6 (.act 7 (.act 8 (.act 9 (.done)))))) (.act 6 (.act 3 (.act 7 (.act 8 (.act 9 (.done)))))))) (.act 6 (.act 2 (.act 3 (.act 7 (.act 8 (.act 9 (.done))))))))))) (.alt (.act 2 (.alt (.act 1 (.alt (.act 3 (.act 5 (.act 6 (.act 7 (.act 8 (.act 9 (.done))))))) (.act 5 (.alt (.act 3 (.act 6 (.act 7 (.act 8 (.act 9 (.done)))))) (.act 6 (.act 3 (.act 7 (.act 8 (.act 9 (.done)))))))))) (.alt (.act 3 (.alt (.act 1 (.act 5 (.act 6 (.act 7 (.act 8 (.act 9 (.done))))))) (.act 5 (.alt (.act 1 (.act 6 (.act 7 (.act 8 (.act 9 (.done)))))) (.act 6 (.act 1 (.act 7 (.act 8 (.act 9 (.done)))))))))) (.act 5 (.alt (.act 1 (.alt (.act 3 (.act 6 (.act 7 (.act 8 (.act 9 (.done)))))) (.act 6 (.act 3 (.act 7 (.act 8 (.act 9 (.done)))))))) (.alt (.act 3 (.alt (.act 1 (.act 6 (.act 7 (.act 8 (.act 9 (.done)))))) (.act 6 (.act 1 (.act 7 (.act 8 (.act 9 (.done)))))))) (.act 6 (.alt (.act 1 (.act 3 (.act 7 (.act 8 (.act 9 (.done)))))) (.act 3 (.act 1 (.act 7 (.act 8 (.act 9 (.done)))))))))))))) (.act 5 (.alt (.act 1 (.alt (.act 2 (.alt (.act 3 (.act 6 (.act 7 (.act 8 (.act 9 (.done)))))) (.act 6 (.act 3 (.act 7 (.act 8 (.act 9 (.done)))))))) (.act 6 (.act 2 (.act 3 (.act 7 (.act 8 (.act 9 (.done))))))))) (.alt (.act 2 (.alt (.act 1 (.alt (.act 3 (.act 6 (.act 7 (.act 8 (.act 9 (.done)))))) (.act 6 (.act 3 (.act 7 (.act 8 (.act 9 (.done)))))))) (.alt (.act 3 (.alt (.act 1 (.act 6 (.act 7 (.act 8 (.act 9 (.done)))))) (.act 6 (.act 1 (.act 7 (.act 8 (.act 9 (.done)))))))) (.act 6 (.alt (.act 1 (.act 3 (.act 7 (.act 8 (.act 9 (.done)))))) (.act 3 (.act 1 (.act 7 (.act 8 (.act 9 (.done))))))))))) (.act 6 (.alt (.act 1 (.act 2 (.act 3 (.act 7 (.act 8 (.act 9 (.done))))))) (.act 2 (.alt (.act 1 (.act 3 (.act 7 (.act 8 (.act 9 (.done)))))) (.act 3 (.act 1 (.act 7 (.act 8 (.act 9 (.done))))))))))))))))))]
def QS0:List (Nat × QAZ):= [(7,.float [0,1,2,3,4,5]),(9,.float [0,1,2,3,4,5]),(14,.float [0,1,2,3,4,5,6,7]),(16,.tail 5),(18,.tail 4),(29,.tail 5),(34,.float [0,1,2,3,4,5])]
def QS1:List (Nat × QAZ):= [(7,.still),(10,.tail 6),(11,.float [0,1,2,3,4,5,6,8,7,9]),(22,.float [0,1,2,3,4,5,6,8,7,9]),(23,.tail 6)]
def QS2:List (Nat × QAZ):= [(8,.float [0,1,2,3,4,5,6,7])]
def QS3:List (Nat × QAZ):= [(5,.float [0,1,2,3,4,5,6,7,8,9,10])]
def QS4:List (Nat × QAZ):= [(7,.float [0,1,2,3,4,5]),(8,.float [0,3,1,2,4,5,6,7,8])]
def QS5:List (Nat × QAZ):= [(8,.float [0,1,2,3,4,5,6,7])]
def QS6:List (Nat × QAZ):= [(2,.float [0,1,2,3,4]),(5,.float [0,1,2,3,4,5,6,7,8,9,10,11,12,13,14,15,16,17,18,19,20,21,22,23,24,25,26,27,28,29,30,31,32,33,34,35])]
def QS7:List (Nat × QAZ):= [(2,.tail 11)]
def QS8:List (Nat × QAZ):= [(1,.float [0,1,2,3,4,5,6,7,8,9]),(2,.tail 6)]
def QS9:List (Nat × QAZ):= [(7,.float [0,1,2,4,5,3,6,7,8]),(9,.float [0,1,2,3,4,5])]
def QTA:List (Nat × QAZ):= [(6,.float [0,1,2,3,4,5,6,7]),(10,.float [0,1,2,3,4,5,6,7,8,9])]
def QTB:List (Nat × QAZ):= [(6,.float [0,1,2,3,4,5,6,7])]
def QRf:List (Nat × QAZ):= [(6,.still),(7,.float [0,1,2,3,4,5,6,7,8,10,11,9,12,13]),(8,.float [0,1,2,3,4,5,6,7,10,11,8,9,12,13]),(9,.float [0,1,2,3,4,5,6,7,8,9,13,14,10,11,12,15,16]),(10,.float [0,1,2,4,5,3,6,7]),(11,.tail 12)]
def QRg:List (Nat × QAZ):= [(1,.still),(3,.tail 8)]
def QRh:List (Nat × QAZ):= [(0,.tail 5)]
def QRi:List (Nat × QAZ):= [(0,.tail 6)]
def QRj:List (Nat × QAZ):= [(4,.still),(5,.float [0,1,2,3,4,5,6,7,8,9,10,11,12,13])]
def QRk:List (Nat × QAZ):= [(3,.float [0,1,2,3,4,5,6])]
def QRl:List (Nat × QAZ):= [(3,.still)]
def QRm:List (Nat × QAZ):= [(4,.float [0,1,2,3,4,5]),(6,.tree (.pure 0 (.pure 1 (.pure 2 (.pure 3 (.pure 5 (.alt (.act 4 (.alt (.act 6 (.act 7 (.act 8 (.act 9 (.act 10 (.done)))))) (.act 7 (.alt (.act 6 (.act 8 (.act 9 (.act 10 (.done))))) (.act 8 (.act 6 (.act 9 (.act 10 (.done))))))))) (.act 7 (.alt (.act 4 (.alt (.act 6 (.act 8 (.act 9 (.act 10 (.done))))) (.act 8 (.act 6 (.act 9 (.act 10 (.done))))))) (.act 8 (.act 4 (.act 6 (.act 9 (.act 10 (.done)))))))))))))))]
def QRn:List (Nat × QAZ):= [(0,.float [0,1,2,3,4,5,6,7]),(1,.tail 6)]
def QRo:List (Nat × QAZ):= [(6,.float [0,1,2,3,4,5,6,7,8,9,10,11,12,13,14,15,16,17,18,19,20,21,22,23,24,25,26]),(10,.float [0,1,2,3,4,5,6,7,8,9,10,11,12,13,14,15])]
def QRp:List (Nat × QAZ):= [(1,.tail 11)]
def QRq:List (Nat × QAZ):= [(10,.float [0,1,2,3,4,5,6,7,8])]
def QRr:List (Nat × QAZ):= [(4,.float [0,1,2,3,4,5,6,7,8,9]),(5,.float [0,1,2,3,4,5,6,7,8])]
def QP1(f:Nat):List (Nat × QAZ):=
 if f=14 then QSy else
 if f=73 then QSz else
 if f=79 then QS0 else
 if f=44 then QS1 else
 if f=126 then QS2 else
 if f=127 then QS3 else
 if f=130 then QS4 else
 if f=138 then QS5 else
 if f=145 then QS6 else
 if f=151 then QS7 else
 if f=153 then QS8 else
 if f=154 then QS9 else
 if f=191 then QTA else
 if f=192 then QTB else
 if f=199 then QRf else
 if f=203 then QRg else
 if f=207 then QRh else
 if f=208 then QRi else
 if f=272 then QRj else
 if f=273 then QRk else
 if f=274 then QRl else
 if f=275 then QRm else
 if f=295 then QRn else
 if f=261 then QRo else
 if f=301 then QRp else
 if f=332 then QRq else
 if f=333 then QRr else
 []
def QLX:List (Nat × QAZ)→Nat→Option QAZ
 | [],_=>none
 |(k,p)::l,id=>if k=id then some p else QLX l id
def QB4(f:FuncId)(id:Nat):Option QAZ:=QLX (QP1 f) id
end Go.Proofs.YtjnclkakbopnjaaGreatDoor
