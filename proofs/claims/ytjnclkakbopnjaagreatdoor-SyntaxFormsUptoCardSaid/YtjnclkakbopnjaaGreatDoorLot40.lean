/- XChkS, XRckI -/
import Derived.Test.YtjnclkakbopnjaaGreatDoorLot34
import Derived.Test.YtjnclkakbopnjaaGreatDoorLot35
import Derived.Test.YtjnclkakbopnjaaGreatDoorLot36
import Derived.Test.YtjnclkakbopnjaaGreatDoorLot37
import Derived.Test.YtjnclkakbopnjaaGreatDoorLot38
import Derived.Test.YtjnclkakbopnjaaGreatDoorLot39
import Derived.Test.YtjnclkakbopnjaaGreatDoorLot32
set_option linter.unusedSimpArgs false
set_option linter.unusedVariables false
set_option maxRecDepth 100000
set_option maxHeartbeats 8000000
namespace Go.Proofs.YtjnclkakbopnjaaGreatDoor
open Go.Proofs.Tryz
open Go.RowKit
theorem QMF {W:World}(hE:Env W)(h9:9≤W.heap.size)(e:Ex):∀v l,ExR W v e→∀w,Below W.heap.size W w→Calls prog 84 #[v,.string l] w fun r w'=>r= .returned (.bool (e.ok l))∧Below w.heap.size w w':=by
 induction e using Ex.induct2 with
 |h0=>
  intro v l h
  cases h
 |h e ih1 ih2=>
 intro v l h w hW
 cases ho:e.orB with
 |true=>exact QNt hE h9 e ho (fun v hv w hw=>ih1 0 v _ hv w hw) (fun v hv w hw=>ih2 1 2 v _ hv w hw) v h l w hW
 |false=>
  have ih:∀i v l,ExR W v (e.arg i)→∀w,Below W.heap.size W w→Calls prog 84 #[v,.string l] w fun r w'=>r= .returned (.bool ((e.arg i).ok l))∧Below w.heap.size w w':=fun i v l hv w hw=>ih1 i v l hv w hw
  by_cases ka:(e.k==1)=true∨(e.k==2)=true∨(e.k==3)=true∨(e.k==4)=true∨(e.k==5)=true
  ·
   exact QKk hE h9 e ho ih v h l w hW ka
  by_cases kb:(e.k==6)=true∨(e.k==7)=true∨(e.k==8)=true
  ·
   exact QKl hE h9 e ho ih v h l w hW kb
  by_cases kc:(e.k==9)=true∨(e.k==10)=true∨(e.k==11)=true
  ·
   exact QKm hE h9 e ho ih v h l w hW kc
  by_cases kd:(e.k==12)=true
  ·
   exact QKn hE h9 e ho ih v h l w hW kd
  by_cases ke:(e.k==13)=true
  ·
   exact QKo hE h9 e ho ih v h l w hW ke
  simp only[not_or,Bool.not_eq_true]at ka kb kc kd ke;exact QKp hE h9 e ho ih v h l w hW ⟨ka.1,ka.2.1,ka.2.2.1,ka.2.2.2.1,ka.2.2.2.2,kb.1,kb.2.1,kb.2.2,kc.1,kc.2.1,kc.2.2,kd,ke⟩
theorem QIc {W:World}(hE:Env W)(h9:9≤W.heap.size){e:Ex}{v:Value}(h:ExR W v e)(w:World)(hW:Below W.heap.size W w):
  Calls prog 35 #[v] w fun r w'=>r= .returned (.bool (e.ok ⟨#[]⟩))∧Below w.heap.size w w':=by
 have HI:=hd0 (fun w1 (hw1:Below W.heap.size W w1)=>QMF hE h9 e v ⟨#[]⟩ h w1 hw1);have HW:=hd0 hW;have hW0:=hW.size;obtain⟨k,s,num,tk,ts,tl,th,tp,tn,tc,pp,np,cp,pk,nk,ck,pa,n,ca,tf,pn,pt,ks,f,A,rfl,rfl, -, -⟩:=h.cells;generalize Ex.ok (Ex.mk k num s (.mk tk tl th ts tn tf) np pn pt nk ks n f) ⟨#[]⟩=R at*;clear hE h9 h hW;go_enter func35,ntmps35;go_upto_region 1 with fail;refine QBk ?_;intro w1 H1
 go_wp2_with (refine lb_ H1.out.2 ?_)
 refine(HI.out w1 (HW.out.trans (H1.out.1.mono hW0))).mono ?_;rintro r w2 ⟨rfl,hb2⟩;have H2:=hd0 (H1.out.1.trans (hb2.mono H1.out.1.size));clear hb2;go_wp2;go_ret;exact⟨rfl,H2.out⟩
theorem QGy {W:World}(hE:Env W)(h9:9≤W.heap.size){X:Array Value}{e:Ex}(h:ExR W (.agg X) e)(b:Nat)(hC:CellsAt W b 0 X)(w:World)(hW:Below W.heap.size W w):
  Calls prog 34 #[.pointer (some ⟨b,0,none⟩)] w fun r w'=>r= .returned (.bool (e.ok ⟨#[]⟩))∧Below w.heap.size w w':=by
 have HT:=hd0 (QIc hE h9 h w hW);obtain⟨k,s,num,tk,ts,tl,th,tp,tn,tc,pp,np,cp,pk,nk,ck,pa,n,ca,tf,pn,pt,ks,f,A,hX,rfl, -, -⟩:=h.cells;injection hX with hX
 subst hX;have HC:=hd0 (hC.under hW);generalize Ex.ok (Ex.mk k num s (.mk tk tl th ts tn tf) np pn pt nk ks n f) ⟨#[]⟩=R at*;clear hE h9 h hC hW;go_enter func34,ntmps34
 go_wp2_with (refine lc_ HC.out ?_)
 refine HT.out.mono ?_;rintro r w1 ⟨rfl,hb1⟩;have HB1:=hd0 hb1;clear hb1;go_wp2;go_ret;exact⟨rfl,HB1.out⟩
def Ex.check(e:Ex):Int:=QBp (e.meas 1 (0,0)) (e.ok ⟨#[]⟩)
theorem QC6 {W:World}(hE:Env W)(h9:9≤W.heap.size){v:Value}{e:Ex}(h:ExR W v e)(w:World)(hW:Below W.heap.size W w):
  Calls prog 8 #[v] w fun r w'=>r= .returned (.int .i64 e.check)∧Below w.heap.size w w':=by
 obtain⟨k,s,num,tk,ts,tl,th,tp,tn,tc,pp,np,cp,pk,nk,ck,pa,n,ca,tf,pn,pt,ks,f,A,rfl,he, -, -⟩:=h.cells;clear he;have hbx:=QAS w #[.int .i64 k,.string s,.int .i64 num,.int .i64 tk,.string ts,.int .i64 tl,.int .i64 th,.slice tp tn tc,.slice pp np cp,.slice pk nk ck,.slice pa n ca] 29;have hb1:Below w.heap.size w (w.alloc (.cells #[.int .i64 k,.string s,.int .i64 num,.int .i64 tk,.string ts,.int .i64 tl,.int .i64 th,.slice tp tn tc,.slice pp np cp,.slice pk nk ck,.slice pa n ca] 29)):=(Below.refl _ _).alloc (Nat.le_refl _) _;have hW1:Below W.heap.size W (w.alloc (.cells #[.int .i64 k,.string s,.int .i64 num,.int .i64 tk,.string ts,.int .i64 tl,.int .i64 th,.slice tp tn tc,.slice pp np cp,.slice pk nk ck,.slice pa n ca] 29)):=hW.trans (hb1.mono hW.size);have h1:=h.under hW1;have hC1:CellsAt (w.alloc (.cells #[.int .i64 k,.string s,.int .i64 num,.int .i64 tk,.string ts,.int .i64 tl,.int .i64 th,.slice tp tn tc,.slice pp np cp,.slice pk nk ck,.slice pa n ca] 29)) w.heap.size 0 #[.int .i64 k,.string s,.int .i64 num,.int .i64 tk,.string ts,.int .i64 tl,.int .i64 th,.slice tp tn tc,.slice pp np cp,.slice pk nk ck,.slice pa n ca]:=fun j u hj=>by rw[Nat.zero_add];exact hbx j u hj
 have HM:=hd0 (QJe h1 ((w.alloc (.cells #[.int .i64 k,.string s,.int .i64 num,.int .i64 tk,.string ts,.int .i64 tl,.int .i64 th,.slice tp tn tc,.slice pp np cp,.slice pk nk ck,.slice pa n ca] 29)).alloc (.cells #[.int .i64 0,.int .i64 0] 61)) (w.heap.size+1) 0 0 1 w.heap.size 0 _ rfl hC1 ((Below.refl _ _).alloc (Nat.le_refl _) _) (by rw[World.size_alloc];exact Nat.le_refl _) (by
  have:=heap_alloc_last (w.alloc (.cells #[.int .i64 k,.string s,.int .i64 num,.int .i64 tk,.string ts,.int .i64 tl,.int .i64 th,.slice tp tn tc,.slice pp np cp,.slice pk nk ck,.slice pa n ca] 29)) (.cells #[.int .i64 0,.int .i64 0] 61);rw[World.size_alloc]at this
  exact this) (by unfold MXN;omega) (by omega) (by omega))
 have HT:=hd0 (fun w1 hw1=>QGy (hE.below hW1) (by have:=hW1.size;omega) h1 w.heap.size hC1 w1 hw1);have HB1:=hd0 hb1;have HCK:=hd0 (show e.check=QBp (e.meas 1 (0,0)) (e.ok ⟨#[]⟩)from rfl);have hmf:∀(fn:Fn) (first cap:Array Value) (w:World),(Instr.makeFunc fn first cap).run prog w= .ok (.func fn first cap) w:=fun _ _ _ _=>rfl
 clear hE h9 h hW hbx hb1 hW1 h1 hC1;generalize e.meas 1 (0,0)=st at*;obtain⟨n',d⟩:=st;go_enter func8,ntmps8
 go_wp2_with fail
 refine HM.out.mono ?_;rintro r w1 ⟨rfl,hm⟩;have HM1:=hd0 hm;have hw1:Below (w.alloc (.cells #[.int .i64 k,.string s,.int .i64 num,.int .i64 tk,.string ts,.int .i64 tl,.int .i64 th,.slice tp tn tc,.slice pp np cp,.slice pk nk ck,.slice pa n ca] 29)).heap.size (w.alloc (.cells #[.int .i64 k,.string s,.int .i64 num,.int .i64 tk,.string ts,.int .i64 tl,.int .i64 th,.slice tp tn tc,.slice pp np cp,.slice pk nk ck,.slice pa n ca] 29)) w1:=hm.below ((Below.refl _ _).alloc (Nat.le_refl _) _) (by rw[World.size_alloc];exact Nat.le_refl _) (by simp);have HW1:=hd0 (show Below w.heap.size w w1 from HB1.out.trans (hw1.mono HB1.out.size));have HJ:=hd0 (QHT (w.heap.size+1) n' d 34 #[.pointer (some ⟨w.heap.size,0,none⟩)] (e.ok ⟨#[]⟩) w1 hm.2 ⟨_,func34,by kernel_rfl,by kernel_rfl⟩ (HT.out w1 hw1));clear hm hw1 HM HT
 go_wp2_with fail
 refine HJ.out.mono ?_;rintro r w2 ⟨rfl,hb2⟩;have HB2:=hd0 (show Below w.heap.size w w2 from HW1.out.trans (hb2.mono HW1.out.size));clear hb2;go_wp2;go_ret;exact⟨by rw[HCK.out];rfl,HB2.out⟩
theorem QCN(n:Nat)(g:Nat→Nat × Nat→Nat × Nat)(st:Nat × Nat)(hg:∀i s,s.1≤(g i s).1):st.1≤(QAU n g st).1:=by
 induction n with
 |zero=>exact Nat.le_refl _
 |succ n ih=>
  rw[QAp]
  split
  ·
   exact Nat.le_trans ih (hg n _)
  ·
   exact ih
theorem Ty.meas_grow:∀(t:Ty) (deep:Nat) (st:Nat × Nat),st.1+1≤(t.meas deep st).1
 | .mk _ _ _ _ n f,deep,st=>by
  unfold Ty.meas
  split
  ·
   exact QCN n _ (st.1+1,max st.2 deep) (fun i s=>Nat.le_of_succ_le (Ty.meas_grow (f i) (deep+1) s))
  ·
   exact Nat.le_refl _
 | .no,deep,st=>Nat.le_refl _
theorem Ex.meas_grow:∀(e:Ex) (deep:Nat) (st:Nat × Nat),st.1+1≤(e.meas deep st).1
 | .mk k num s ty np pn pt nk ks n f,deep,st=>by
  rw[Ex.meas_mk]
  split
  ·
   refine Nat.le_trans ?_ (QCN n _ _ (fun i s=>Nat.le_of_succ_le (Ex.meas_grow (f i) (deep+1) s)));refine Nat.le_trans ?_ (QCN np _ _ (fun i s=>Nat.le_of_succ_le (Ty.meas_grow (pt i) 1 s)));unfold Ty.some_
   split
   ·
    exact Nat.le_refl _
   ·
    exact Nat.le_of_succ_le (Ty.meas_grow ty 1 (st.1+1,max st.2 deep))
  ·
   exact Nat.le_refl _
 | .no,deep,st=>Nat.le_refl _
def E3x(b:Nat)(st:Nat × Nat)(w w':World):Prop:=∃c' x' t',C3 b c' x' t' w w'∧R3 c' x' t' st∧c'≤MXN+2∧x'≤MXN+1∧t'≤MXN+1
theorem QHX(n:Nat)(g:Nat→Nat × Nat→Nat × Nat)(st:Nat × Nat)(h:¬st.1≤MXN):QAU n g st=st:=QBZ (n:=0) (Nat.zero_le n) h
theorem Ex.meas_fin(k num:Int)(s:ByteArray)(ty:Ty)(np:Nat)(pn:Nat→ByteArray)(pt:Nat→Ty)(nk:Nat)(ks:Nat→ByteArray)(n:Nat)(f:Nat→Ex)(deep:Nat)(st:Nat × Nat):
  (Ex.mk k num s ty np pn pt nk ks n f).meas deep st=QAU n (fun i st=>(f i).meas (deep+1) st) (QAU np (fun i st=>(pt i).meas 1 st) (if ty.zero then(st.1+1,max st.2 deep) else ty.go3 1 (st.1+1,max st.2 deep))):=by
 rw[Ex.meas_mk]
 by_cases h:st.1+1≤MXN
 ·
  rw[if_pos h];unfold Ex.pre Ty.some_ QCw Ty.go3;rw[if_pos (show((st.1+1,max st.2 deep):Nat × Nat).1≤MXN from h)]
 ·
  rw[if_neg h];unfold Ty.go3;rw[if_neg (show¬((st.1+1,max st.2 deep):Nat × Nat).1≤MXN from h),ite_self,QHX np _ _ h,QHX n _ _ h]
theorem QI7 {b c x t g:Nat}{w w':World}{X:Array Value}(h:C3 b c x t w w')(hg:g≠b)(hb:BoxAt w g X):BoxAt w' g X:=fun j v hj=>h.cell hg (hb j v hj)
def QPQ(b g c:Nat)(X:Array Value)(st:Nat × Nat)(w w':World):Prop:=BoxAt w' g X∧∃c' x' t',C3 b c' x' t' w w'∧R3 c' x' t' st∧c'≤MXN+2∧x'≤MXN+1∧t'≤MXN+1
theorem QJu {W:World}{v:Value}{e:Ex}(h:ExR W v e):∀(w:World) (b c x t deep:Nat),Below W.heap.size W w→W.heap.size≤b→M3 w b c x t→c≤MXN→x≤MXN+1→t≤MXN+1→deep≤c+1→
  Calls prog 36 #[.pointer (some ⟨b,0,none⟩),v,.int .i64 (deep:Int)] w fun e' w'=>e'= .returned (.tuple #[])∧E3x b (e.meas deep (c,max x t)) w w':=by
 induction h with
 |mk k num s t0 t1 t2 t3 t4 ty np pp cp pn pt nk pk ck ks n pa ca A f hs ht hpar hk hn hA h ih=>
  intro w b c x t deep hW hb hB hc hx htt hd;obtain⟨tk,tl,th,ts,tn,tp,tc,tf,e,rfl, -, -⟩:=ht.cells;injection e with e
  simp only[Array.mk.injEq,List.cons.injEq,and_true]at e;obtain⟨rfl,rfl,rfl,rfl,rfl⟩:=e;have hfin:=Ex.meas_fin k num s (.mk tk tl th ts tn tf) np pn pt nk ks n f deep (c,max x t);rw[hfin];clear hfin;obtain⟨s2,hs2⟩:∃s2,s2=(if(Ty.mk tk tl th ts tn tf).zero then(c+1,max (max x t) deep) else(Ty.mk tk tl th ts tn tf).go3 1 (c+1,max (max x t) deep)):=⟨_,rfl⟩;rw[←hs2];have HS2:=hd0 hs2.symm;clear hs2;obtain⟨s3,hs3⟩:∃s3,s3=QAU np (fun i st=>(pt i).meas 1 st) s2:=⟨_,rfl⟩;rw[←hs3];have HS3:=hd0 hs3;clear hs3;obtain⟨fin,hf4⟩:∃fin,fin=QAU n (fun i st=>(f i).meas (deep+1) st) s3:=⟨_,rfl⟩;rw[←hf4];have HF4:=hd0 hf4;clear hf4;have hm2:n≤1100000:=hn;have hp2:np≤1100000:=hpar.1;have HI:=hd0 ih;have HA:=hd0 hA;have HW:=hd0 hW;have hlt:b<w.heap.size:=hB.lt;have hW0:=hW.size;obtain⟨-,PA,hPA,hPP⟩:=hpar;have HP:=hd0 (And.intro hPA hPP);have HTY:=hd0 (fun w1 b c x t st (hW1:Below W.heap.size W w1)=>QIi ht w1 b c x t 1 st hW1);have HZ:=hd0 (fun w=>QDB tk tl th ts tp tn tc w);have HZE:=hd0 (QPJ tk tl th ts tn tf);have c0:=hB.c0;have c1:=hB.c1;have c2:=hB.c2;have f0:=hB.fz 0;have f1:=hB.fz 1;have hc2:c≤3000:=hc;have wr1:IntKind.i64.wrap ((c:Int)+1)=(c:Int)+1:=IntWalk.i64_in _ (by omega);have HB:=hd0 hB;have hne:w.heap.size≠b:=by omega
  have hne':b≠w.heap.size:=by omega
  clear ih hA hW h hB ht hPA hPP hk hn hs;have HX:=hd0 (And.intro hx (And.intro htt (And.intro hd hc)));clear hx htt hc;go_enter func36,ntmps36;go_upto_region 3 with fail;refine QA8 (fun wx=>Hid (C3 b (c+1) (max x deep) t w wx∧BoxAt wx w.heap.size (Z9 k s num tk ts tl th tp tn tc pp np cp pk nk ck pa n ca))) (hd0 ?_) ?_
  ·
   have hm0:=QPp HB.out (c+1) (max x deep) (.int .i64 ((c:Int)+1)) (.int .i64 (max (x:Int) deep)) (by simp) (by congr 1;omega);have h1:=C3.new ((Below.refl _ _).alloc (Nat.le_refl _) (.cells #[.int .i64 k,.string s,.int .i64 num,.int .i64 tk,.string ts,.int .i64 tl,.int .i64 th,.slice tp tn tc,.slice pp np cp,.slice pk nk ck,.slice pa n ca] 29)) hm0.2;refine⟨hm0.trans h1,fun j v hj=>?_⟩;have h2:=QAS ((w.setCell ⟨b,0,none⟩ (.int .i64 ((c:Int)+1))).setCell ⟨b,1,none⟩ (.int .i64 (max (x:Int) deep))) #[.int .i64 k,.string s,.int .i64 num,.int .i64 tk,.string ts,.int .i64 tl,.int .i64 th,.slice tp tn tc,.slice pp np cp,.slice pk nk ck,.slice pa n ca] 29 j v hj;rw[QAX,QAX]at h2;exact h2
  intro w1 H1;clear c0 c1 c2 f0 f1 wr1;have d3:=H1.out.2 3 _ rfl;have d4:=H1.out.2 4 _ rfl;have d5:=H1.out.2 5 _ rfl;have d6:=H1.out.2 6 _ rfl;have d7:=H1.out.2 7 _ rfl
  go_wp2_with fail
  refine(HZ.out _).mono ?_;rintro e w2 ⟨rfl,hb2⟩;rw[HZE.out];have HM2:=hd0 (show C3 b (c+1) (max x deep) t w w2∧BoxAt w2 w.heap.size (Z9 k s num tk ts tl th tp tn tc pp np cp pk nk ck pa n ca)from⟨H1.out.1.trans (C3.new hb2 H1.out.1.2),fun j v hj=>QAA hb2 (H1.out.2 j v hj)⟩);clear hb2 H1 d3 d4 d5 d6 d7 HZ HZE
  have HR1:=hd0 (show R3 (c+1) (max x deep) t (c+1,max (max x t) deep)by
   by_cases hf:c+1≤MXN
   ·
    exact Or.inl ⟨hf,rfl,by show max (max x deep) t=max (max x t) deep;omega⟩
   ·
    exact Or.inr ⟨by omega,by show MXN<c+1;omega⟩)
  obtain⟨Z,hZ⟩:∃Z,Z=(Ty.mk tk tl th ts tn tf).zero:=⟨_,rfl⟩;rw[←hZ]at HS2 ⊢;clear hZ
  go_upto_if 27 with fail
  go_cut [2] (fun v2 wx=>v2= .int .i64 (deep:Int)∧Hid (QPQ b w.heap.size c #[.int .i64 k,.string s,.int .i64 num,.int .i64 tk,.string ts,.int .i64 tl,.int .i64 th,.slice tp tn tc,.slice pp np cp,.slice pk nk ck,.slice pa n ca] s2 w wx))
  case first=>
   cases Z with
   |true=>
    have HE:=hd0 (show s2=(c+1,max (max x t) deep)from HS2.out.symm);go_wp2;go_meet;exact⟨rfl,hd0 ⟨HM2.out.2,c+1,max x deep,t,HM2.out.1,by rw[HE.out];exact HR1.out,by have:=HX.out.2.2.2;omega,by have:=HX.out;omega,HX.out.2.1⟩⟩
   |false=>
    have HE:=hd0 (show s2=(Ty.mk tk tl th ts tn tf).go3 1 (c+1,max (max x t) deep)from HS2.out.symm);have d3:=HM2.out.2 3 _ rfl;have d4:=HM2.out.2 4 _ rfl;have d5:=HM2.out.2 5 _ rfl;have d6:=HM2.out.2 6 _ rfl;have d7:=HM2.out.2 7 _ rfl;have hb3:=HM2.out.1.2;have hwl:w.heap.size<w2.heap.size:=World.block_lt_of_cell? w2 _ d3;have HC:=hd0 (HTY.out w2 b (c+1) (max x deep) t (c+1,max (max x t) deep) (HM2.out.1.below HW.out hb hW0) hb hb3 HR1.out (by have:=HX.out.2.2.2;omega) (by have:=HX.out;omega) HX.out.2.1 (by unfold MXN;omega) (fun _=>by omega));clear hb3
    go_wp2_with fail
    refine HC.out.mono ?_;rintro e w3 ⟨rfl,c',x',t',hC,hR, -,hc',hx',ht'⟩;have HQ:=hd0 (show QPQ b w.heap.size c #[.int .i64 k,.string s,.int .i64 num,.int .i64 tk,.string ts,.int .i64 tl,.int .i64 th,.slice tp tn tc,.slice pp np cp,.slice pk nk ck,.slice pa n ca] s2 w w3 from⟨QI7 hC hne HM2.out.2,c',x',t',HM2.out.1.trans hC,by rw[HE.out];exact hR,hc',hx',ht'⟩);clear hC hR hc' hx' ht' d3 d4 d5 d6 d7;go_wp2;go_meet;exact⟨rfl,HQ⟩
  case rest=>
  obtain⟨rfl,HM3⟩:=hcut
  have HG2:=hd0 (show c+1≤s2.1 by
   rw[←HS2.out]
   split
   ·
    exact Nat.le_refl _
   ·
    unfold Ty.go3
    split
    ·
     exact Nat.le_of_succ_le (Ty.meas_grow (Ty.mk tk tl th ts tn tf) 1 (c+1,max (max x t) deep))
    ·
     exact Nat.le_refl _)
  clear HM2 HR1 HTY HS2
  go_upto_block 0 with fail
  go_cut [2] (fun v2 wx=>v2= .int .i64 (deep:Int)∧Hid (QPQ b w.heap.size c #[.int .i64 k,.string s,.int .i64 num,.int .i64 tk,.string ts,.int .i64 tl,.int .i64 th,.slice tp tn tc,.slice pp np cp,.slice pk nk ck,.slice pa n ca] (QAU np (fun i st=>(pt i).meas 1 st) s2) w wx))
  case first=>
   go_wp2_with fail
   go_loopw [6] (fun v6 wr=>∃i:Nat,i≤np∧v6= .int .i64 i∧Hid (QPQ b w.heap.size c #[.int .i64 k,.string s,.int .i64 num,.int .i64 tk,.string ts,.int .i64 tl,.int .i64 th,.slice tp tn tc,.slice pp np cp,.slice pk nk ck,.slice pa n ca] (QAU i (fun i st=>(pt i).meas 1 st) s2) w wr)) (fun v6 _=>np - (intOf v6).toNat)
   case atStart=>exact⟨0,Nat.zero_le _,rfl,HM3⟩
   case round=>
    obtain⟨i,hi,rfl,HR⟩:=hrel;obtain⟨hbx,c',x',t',hC,hR,hc',hx',ht'⟩:=HR.out;have d8:=hbx 8 _ rfl;have HBX:=hd0 hbx;have HF:=hd0 (QEe b c' x' t' wr hC.2);have HC:=hd0 hC;have HRR:=hd0 hR;have HWr:=hd0 (show Below W.heap.size W wr from hC.below HW.out hb hW0);have HL:=hd0 (QAp i (fun i st=>(pt i).meas 1 st) s2);have HQ:=hd0 (fun(h:¬(QAU i (fun i st=>(pt i).meas 1 st) s2).1≤MXN)=>QBZ (m:=np) hi h);clear hC hR HR hbx HM3;generalize hsi:QAU i (fun i st=>(pt i).meas 1 st) s2=si at*
    by_cases hlti:i<np
    ·
     have g1:decide ((i:Int)<np)=true:=decide_eq_true (by omega)
     go_wp2_with fail
     refine HF.out.mono ?_;rintro e wf ⟨rfl,rfl⟩
     by_cases hg:c'≤MXN
     ·
      have g2:decide ((3000:Int)<c')=false:=decide_eq_false (by unfold MXN at hg;omega)
      have HSC:=hd0 (show c'=si.1 by
       rcases HRR.out with ⟨-,h1, -⟩|⟨h1, -⟩
       ·
        exact h1
       ·
        omega)
      obtain⟨qb,qo,rfl,hpc⟩:=(HP.out.1.below HWr.out).at_ (by omega);have a1:=hpc i hlti 1 (by decide);have a2:=hpc i hlti 2 (by decide);have a3:=hpc i hlti 3 (by decide);have a4:=hpc i hlti 4 (by decide);have a5:=hpc i hlti 5 (by decide);clear hpc;have HCL:=hd0 (QIi (HP.out.2 i hlti).2.2 wf b c' x' t' 1 si HWr.out hb HC.out.2 HRR.out (by omega) hx' ht' (by unfold MXN;omega) (fun _=>by omega));have q0:(0:Int)≤i:=by omega
      have q1:(i:Int)<np:=by omega
      go_wp2_with fail
      refine HCL.out.mono ?_;rintro e w3 ⟨rfl,c3,x3,t3,hC3,hR3, -,hb3,hx3,ht3⟩
      have HN:=hd0 (show QPQ b w.heap.size c #[.int .i64 k,.string s,.int .i64 num,.int .i64 tk,.string ts,.int .i64 tl,.int .i64 th,.slice tp tn tc,.slice (some ⟨qb,qo,none⟩) np cp,.slice pk nk ck,.slice pa n ca] (QAU (i+1) (fun i st=>(pt i).meas 1 st) s2) w w3 from⟨QI7 hC3 hne HBX.out,c3,x3,t3,HC.out.trans hC3,(by
       rw[HL.out,if_pos (show si.1≤MXN by have:=HSC.out;omega)];have:(pt i).go3 1 si=(pt i).meas 1 si:=by unfold Ty.go3;rw[if_pos (show si.1≤MXN by have:=HSC.out;omega)]
       rw[←this]
       exact hR3),hb3,hx3,ht3⟩)
      clear hC3 hR3 hb3 hx3 ht3 a1 a2 a3 a4 a5 HCL d8;go_wp2;go_roundw
      case rel=>exact⟨i+1,by omega,by go_num,HN⟩
      case measure=>simp[intOf];omega
     ·
      have g2:decide ((3000:Int)<c')=true:=decide_eq_true (by unfold MXN at hg;omega)
      have HE:=hd0 (show QPQ b w.heap.size c #[.int .i64 k,.string s,.int .i64 num,.int .i64 tk,.string ts,.int .i64 tl,.int .i64 th,.slice tp tn tc,.slice pp np cp,.slice pk nk ck,.slice pa n ca] (QAU np (fun i st=>(pt i).meas 1 st) s2) w wf from⟨HBX.out,c',x',t',HC.out,(by
       rw[HQ.out (by
        rcases HRR.out with ⟨h1, -⟩|⟨-,h1⟩
        ·
         omega
        ·
         omega)]
       exact HRR.out),hc',hx',ht'⟩)
      clear HL HQ HF HRR HC HBX HWr d8;go_wp2;go_meet;exact⟨rfl,HE⟩
    ·
     have g1:decide ((i:Int)<np)=false:=decide_eq_false (by omega);have him:i=np:=by omega
     have HE:=hd0 (show QPQ b w.heap.size c #[.int .i64 k,.string s,.int .i64 num,.int .i64 tk,.string ts,.int .i64 tl,.int .i64 th,.slice tp tn tc,.slice pp np cp,.slice pk nk ck,.slice pa n ca] (QAU np (fun i st=>(pt i).meas 1 st) s2) w wr from⟨HBX.out,c',x',t',HC.out,(by
      rw[←him,hsi]
      exact HRR.out),hc',hx',ht'⟩)
     clear HL HQ HF HRR HC HBX HWr;go_wp2;go_meet;exact⟨rfl,HE⟩
  case rest=>
  obtain⟨rfl,HM4⟩:=hcut;have HG3:=hd0 (show c+1≤(QAU np (fun i st=>(pt i).meas 1 st) s2).1 from Nat.le_trans HG2.out (QCN np _ _ (fun i s=>Nat.le_of_succ_le (Ty.meas_grow (pt i) 1 s))));clear HM3 HG2 HP;rw[←HS3.out]at HG3 HM4
  go_wp2_with fail
  go_loopw [7] (fun v7 wr=>∃i:Nat,i≤n∧v7= .int .i64 i∧Hid (QPQ b w.heap.size c #[.int .i64 k,.string s,.int .i64 num,.int .i64 tk,.string ts,.int .i64 tl,.int .i64 th,.slice tp tn tc,.slice pp np cp,.slice pk nk ck,.slice pa n ca] (QAU i (fun i st=>(f i).meas (deep+1) st) s3) w wr)) (fun v7 _=>n - (intOf v7).toNat)
  case atStart=>exact⟨0,Nat.zero_le _,rfl,HM4⟩
  case round=>
   obtain⟨i,hi,rfl,HR⟩:=hrel;obtain⟨hbx,c',x',t',hC,hR,hc',hx',ht'⟩:=HR.out;have d10:=hbx 10 _ rfl;have HBX:=hd0 hbx;have HF:=hd0 (QEe b c' x' t' wr hC.2);have HC:=hd0 hC;have HRR:=hd0 hR;have HWr:=hd0 (show Below W.heap.size W wr from hC.below HW.out hb hW0);have HL:=hd0 (QAp i (fun i st=>(f i).meas (deep+1) st) s3);have HQ:=hd0 (fun(h:¬(QAU i (fun i st=>(f i).meas (deep+1) st) s3).1≤MXN)=>QBZ (m:=n) hi h);have HG4:=hd0 (show c+1≤(QAU i (fun i st=>(f i).meas (deep+1) st) s3).1 from Nat.le_trans HG3.out (QCN i _ _ (fun i s=>Nat.le_of_succ_le (Ex.meas_grow (f i) (deep+1) s))));clear hC hR HR hbx HM4;generalize hsi:QAU i (fun i st=>(f i).meas (deep+1) st) s3=si at*
   by_cases hlti:i<n
   ·
    have g1:decide ((i:Int)<n)=true:=decide_eq_true (by omega)
    go_wp2_with fail
    refine HF.out.mono ?_;rintro e wf ⟨rfl,rfl⟩
    by_cases hg:c'≤MXN
    ·
     have g2:decide ((3000:Int)<c')=false:=decide_eq_false (by unfold MXN at hg;omega)
     have HSC:=hd0 (show c'=si.1∧max x' t'=si.2 by
      rcases HRR.out with ⟨-,h1,h2⟩|⟨h1, -⟩
      ·
       exact⟨h1,h2⟩
      ·
       omega)
     have w2e:IntKind.i64.wrap ((deep:Int)+1)=(deep:Int)+1:=IntWalk.i64_in _ (by have:=HX.out.2.2.1;have:=HX.out.2.2.2;unfold MXN at this;omega);obtain⟨qb,qo,rfl, -⟩:=HA.out i hlti;have HCI:=hd0 ((HA.out.at11 hlti (X:=#[A i 0,A i 1,A i 2,A i 3,A i 4,A i 5,A i 6,A i 7,A i 8,A i 9,A i 10]) rfl).under HWr.out);have hcall:=HI.out i hlti wf b c' x' t' (deep+1) HWr.out hb HC.out.2 hg hx' ht' (by have h1:=HG4.out;have:=HSC.out.1;have:=HX.out.2.2.1;omega);rw[Int.natCast_succ]at hcall;have HCL:=hd0 hcall;have q0:(0:Int)≤i:=by omega
     have q1:(i:Int)<n:=by omega
     clear hcall
     go_wp2_with (refine lc_ HCI.out ?_)
     refine HCL.out.mono ?_;rintro e w3 ⟨rfl,c3,x3,t3,hC3,hR3,hb3,hx3,ht3⟩
     have HN:=hd0 (show QPQ b w.heap.size c #[.int .i64 k,.string s,.int .i64 num,.int .i64 tk,.string ts,.int .i64 tl,.int .i64 th,.slice tp tn tc,.slice pp np cp,.slice pk nk ck,.slice (some ⟨qb,qo,none⟩) n ca] (QAU (i+1) (fun i st=>(f i).meas (deep+1) st) s3) w w3 from⟨QI7 hC3 hne HBX.out,c3,x3,t3,HC.out.trans hC3,(by
      have hss:(c',max x' t')=si:=by rw[HSC.out.1,HSC.out.2]
      rw[HL.out,if_pos (show si.1≤MXN by have:=HSC.out.1;omega),←hss]
      exact hR3),hb3,hx3,ht3⟩)
     clear hC3 hR3 hb3 hx3 ht3 HCL d10;go_wp2;go_roundw
     case rel=>exact⟨i+1,by omega,by go_num,HN⟩
     case measure=>simp[intOf];omega
    ·
     have g2:decide ((3000:Int)<c')=true:=decide_eq_true (by unfold MXN at hg;omega)
     have HE:=hd0 (show R3 c' x' t' fin by
      rw[HF4.out,HQ.out (by
       rcases HRR.out with ⟨h1, -⟩|⟨-,h1⟩
       ·
        omega
       ·
        omega)]
      exact HRR.out)
     go_wp2;refine bodyPost_end (v:= .tuple #[]) (by simp[results,results36,go_sem]) rfl ⟨rfl,c',x',t',HC.out,HE.out,hc',hx',ht'⟩
   ·
    have g1:decide ((i:Int)<n)=false:=decide_eq_false (by omega);have him:i=n:=by omega
    have HE:=hd0 (show R3 c' x' t' fin by
     rw[HF4.out,←him,hsi]
     exact HRR.out)
    go_wp2;refine bodyPost_end (v:= .tuple #[]) (by simp[results,results36,go_sem]) rfl ⟨rfl,c',x',t',HC.out,HE.out,hc',hx',ht'⟩
end Go.Proofs.YtjnclkakbopnjaaGreatDoor
