/- XRckJ, XRckK, XRckM, XRckN -/
import Derived.Test.YtjnclkakbopnjaaGreatDoorLot42
import Derived.Test.YtjnclkakbopnjaaGreatDoorLot40
set_option linter.unusedSimpArgs false
set_option linter.unusedVariables false
set_option maxRecDepth 100000
set_option maxHeartbeats 8000000
namespace Go.Proofs.YtjnclkakbopnjaaGreatDoor
open Go.Proofs.Tryz
open Go.RowKit
def Ex.isIt(e:Ex):Bool:=(e.nm.toList== [37,124])&&e.bare
theorem Ex.isIt_eq(k num tk tl th:Int)(s ts:ByteArray)(tn np nk n:Nat)(tf:Nat→Ty)(pn:Nat→ByteArray)(pt:Nat→Ty)(ks:Nat→ByteArray)(f:Nat→Ex):
  ((k==3)&&((s.toList== [37,124])&&((num==0)&&((tk==0&&QAW ts&&tl==0&&th==0&&((tn:Int)==0))&&(((np:Int)==0)&&(((nk:Int)==0)&&((n:Int)==0)))))))=(Ex.mk k num s (.mk tk tl th ts tn tf) np pn pt nk ks n f).isIt:=by
 show _=((s.toList== [37,124])&&(QAI 0 num tk tl th ⟨#[]⟩ ts tn np nk n&&(k==3)));unfold QAI;rw[QBs];generalize (k==3)=a;generalize (s.toList== [37,124])=b;generalize (num==0)=c;generalize (tk==0&&QAW ts&&tl==0&&th==0&&((tn:Int)==0))=d;generalize ((np:Int)==0)=e;generalize ((nk:Int)==0)=g;generalize ((n:Int)==0)=h
 cases a <;> cases b <;> cases c <;> cases d <;> cases e <;> cases g <;> cases h <;> rfl
def Ex.eith(e:Ex):Bool:=e.orB&&e.fName&&(e.arg 1).fNone
theorem QHI {W:World}{v:Value}{e:Ex}(h:ExR W v e)(w:World)(hW:Below W.heap.size W w):
  Calls prog 86 #[v] w fun r w'=>r= .returned (.bool e.eith)∧Below w.heap.size w w':=by
 obtain⟨k,s,num,tk,ts,tl,th,tp,tn,tc,pp,np,cp,pk,nk,ck,pa,n,ca,tf,pn,pt,ks,f,A,rfl,rfl,hA,hf⟩:=h.cells;have hO:∀w1,Below w.heap.size w w1→Calls prog 162 #[.agg (Z9 k s num tk ts tl th tp tn tc pp np cp pk nk ck pa n ca),.string ⟨#[78]⟩] w1 fun e w'=>e= .returned (.bool (QAI 0 num tk tl th ⟨#[]⟩ ts tn np nk 0))∧Below w1.heap.size w1 w':=fun w1 _=>QB7 k num tk tl th s ts tp pp pk pa tn tc np cp nk ck n ca w1
 have hfn:(Ex.mk k num s (.mk tk tl th ts tn tf) np pn pt nk ks n f).fName=QAI 0 num tk tl th ⟨#[]⟩ ts tn np nk 0:=rfl
 have hei:(Ex.mk k num s (.mk tk tl th ts tn tf) np pn pt nk ks n f).eith=(((k==6)&&((s.toList== [37,124])&&(QAI 0 num tk tl th ⟨#[]⟩ ts tn np nk 0&&((n:Int)==2))))&&(((f 1).k==5)&&((f 1).fNone&&((((f 1).len:Int)==3)&&(((f 1).arg 0).isIt&&((f 1).arg 1).isIt))))):=by
  show((((k==6)&&(s.toList== [37,124])&&((n:Int)==2)&&((f 1).k==5)&&(((f 1).len:Int)==3))&&(((((f 1).arg 0).nm.toList== [37,124])&&(((f 1).arg 1).nm.toList== [37,124]))&&((f 1).arg 0).bare&&((f 1).arg 1).bare))&&QAI 0 num tk tl th ⟨#[]⟩ ts tn np nk 0&&(f 1).fNone)=_;unfold Ex.isIt;generalize (k==6)=a1;generalize (s.toList== [37,124])=a2;generalize ((n:Int)==2)=a3;generalize ((f 1).k==5)=a4;generalize (((f 1).len:Int)==3)=a5;generalize (((f 1).arg 0).nm.toList== [37,124])=a6;generalize (((f 1).arg 1).nm.toList== [37,124])=a7;generalize ((f 1).arg 0).bare=a8;generalize ((f 1).arg 1).bare=a9;generalize QAI 0 num tk tl th ⟨#[]⟩ ts tn np nk 0=b1;generalize (f 1).fNone=b2;rw[Bool.eq_iff_iff];simp only[Bool.and_eq_true];constructor
  ·
   rintro⟨⟨⟨⟨⟨⟨⟨h1,h2⟩,h3⟩,h4⟩,h5⟩,⟨⟨h6,h7⟩,h8⟩,h9⟩,k1⟩,k2⟩;exact⟨⟨h1,h2,k1,h3⟩,h4,k2,h5,⟨h6,h8⟩,h7,h9⟩
  ·
   rintro⟨⟨h1,h2,k1,h3⟩,h4,k2,h5,⟨h6,h8⟩,h7,h9⟩;exact⟨⟨⟨⟨⟨⟨⟨h1,h2⟩,h3⟩,h4⟩,h5⟩,⟨⟨h6,h7⟩,h8⟩,h9⟩,k1⟩,k2⟩
 rw[hei]
 cases hc:((k==6)&&((s.toList== [37,124])&&(QAI 0 num tk tl th ⟨#[]⟩ ts tn np nk 0&&((n:Int)==2))))with
 |false=>
  rw[Bool.false_and];exact QNY k num tk tl th s ts tp pp pk pa tn tc np cp nk ck n ca _ w hO hc
 |true=>
 rw[Bool.true_and];simp only[Bool.and_eq_true]at hc;obtain⟨c1,c2,c3,c4⟩:=hc;have hn2:n=2:=by have:=eq_of_beq c4;omega
 subst hn2;obtain⟨qb,qo,rfl, -⟩:=hA 0 (by omega);obtain⟨k',s',num',tk',ts',tl',th',tp',tn',tc',pp',np',cp',pk',nk',ck',pa',n',ca',tf',pn',pt',ks',f',A',hv1,he1,hA',hf'⟩:=(hf 1 (by omega)).cells;have C1:=(hA.at11 (i:=1) (by omega) hv1).under hW;rw[Nat.one_mul]at C1;rw[he1];show Calls _ _ _ _ fun r w'=>r= .returned (.bool ((k'==5)&&(QAI 0 num' tk' tl' th' s' ts' tn' np' nk' 0&&(((n':Int)==3)&&((f' 0).isIt&&(f' 1).isIt)))))∧Below w.heap.size w w'
 rw[c3]at hO;refine QL9 k num tk tl th s ts tp pp pk tn tc np cp nk ck ca qb qo k' num' tk' tl' th' s' ts' tp' pp' pk' pa' tn' tc' np' cp' nk' ck' n' ca' _ (f' 0).isIt (f' 1).isIt w hO (fun w1 _=>QB8 k' num' tk' tl' th' s' ts' tp' pp' pk' pa' tn' tc' np' cp' nk' ck' n' ca' w1) (by simpa[bne]using c1) c2 C1 _ rfl _ rfl ?_;intro _ _ h3;have hn3:n'=3:=by have:=eq_of_beq h3;omega
 subst hn3;obtain⟨rb,ro,rfl, -⟩:=hA' 0 (by omega);obtain⟨k0,s0,m0,a0,u0,l0,h0,p0,y0,z0,g0,v0,x0,j0,w0,o0,q0,r0,t0,tf0,pn0,pt0,ks0,ff0,AA0,hw0,hx0, -, -⟩:=(hf' 0 (by omega)).cells;obtain⟨k1,s1,m1,a1,u1,l1,h1,p1,y1,z1,g1,v1,x1,j1,w1,o1,q1,r1,t1,tf1,pn1,pt1,ks1,ff1,AA1,hw1,hx1, -, -⟩:=(hf' 1 (by omega)).cells;have G0:=(hA'.at11 (i:=0) (by omega) hw0).under hW;have G1:=(hA'.at11 (i:=1) (by omega) hw1).under hW;rw[Nat.zero_mul,Nat.add_zero]at G0;rw[Nat.one_mul]at G1;have hr0:=hf' 0 (by omega);have hr1:=hf' 1 (by omega);rw[hw0,hx0]at hr0;rw[hw1,hx1]at hr1;refine⟨rb,ro,_,_,rfl,rfl,rfl,G0,G1,fun wy hy=>?_,fun wy hy=>?_⟩
 ·
  have:=QHf k0 m0 a0 l0 h0 s0 u0 p0 g0 j0 q0 y0 z0 v0 x0 w0 o0 r0 t0 hr0.more.2.1 wy (hW.trans (hy.mono hW.size));rw[Ex.isIt_eq (tf:=tf0) (pn:=pn0) (pt:=pt0) (ks:=ks0) (f:=ff0),←hx0]at this;exact this
 ·
  have:=QHf k1 m1 a1 l1 h1 s1 u1 p1 g1 j1 q1 y1 z1 v1 x1 w1 o1 r1 t1 hr1.more.2.1 wy (hW.trans (hy.mono hW.size));rw[Ex.isIt_eq (tf:=tf1) (pn:=pn1) (pt:=pt1) (ks:=ks1) (f:=ff1),←hx1]at this;exact this
theorem QCF(n m:Nat):btw n m m=((n:Int)==(m:Int)):=by
 unfold btw;rw[Bool.eq_iff_iff,Bool.and_eq_true,decide_eq_true_eq,decide_eq_true_eq,beq_iff_eq];omega
theorem QRC(n:Nat)(m:Int):btw n 0 m=decide ((n:Int)≤m):=by
 unfold btw;rw[decide_eq_true (show(0:Int)≤n by omega),Bool.true_and]
theorem QKO(n:Nat):btw n 1 2=(((n:Int)==1)||((n:Int)==2)):=by
 unfold btw;rw[Bool.eq_iff_iff,Bool.and_eq_true,Bool.or_eq_true,decide_eq_true_eq,decide_eq_true_eq,beq_iff_eq,beq_iff_eq];omega
theorem QRD(n:Nat)(h:n≤3000):btw n 2 3000=decide ((2:Int)≤n):=by
 unfold btw;rw[decide_eq_true (show(n:Int)≤3000 by omega),Bool.and_true]
theorem QOa(n:Nat)(s:ByteArray):(decide (0<QGd s)&&((n:Int)==QGd s))=((n:Int)==QQv s):=by
 unfold QGd QQv
 split
 ·
  rfl
 ·
  split
  ·
   rfl
  ·
   rw[Bool.eq_iff_iff,Bool.and_eq_true,decide_eq_true_eq,beq_iff_eq,beq_iff_eq];omega
theorem QNl(e:Ex)(l:ByteArray)(h:e.k=7→e.len≤3000):e.form l=e.fits l:=by
 rcases e with ⟨k,num,s,ty,np,pn,pt,nk,ks,n,f⟩|_
 case no=>rfl
 have h:k=7→n≤3000:=h;unfold Ex.form Ex.fits;simp only
 by_cases k1:k=1
 ·
  rw[if_pos k1,if_pos k1,show btw n 0 0=((n:Int)==0)from QCF n 0]
 rw[if_neg k1,if_neg k1]
 by_cases k2:k=2
 ·
  rw[if_pos k2,if_pos k2,show btw n 0 0=((n:Int)==0)from QCF n 0]
 rw[if_neg k2,if_neg k2]
 by_cases k3:k=3
 ·
  rw[if_pos k3,if_pos k3,show btw n 0 0=((n:Int)==0)from QCF n 0]
 rw[if_neg k3,if_neg k3]
 by_cases k4:k=4
 ·
  rw[if_pos k4,if_pos k4,Bool.and_assoc];rfl
 rw[if_neg k4,if_neg k4]
 by_cases k5:k=5
 ·
  rw[if_pos k5,if_pos k5,show btw n 3 3=((n:Int)==3)from QCF n 3]
 rw[if_neg k5,if_neg k5]
 by_cases k6:k=6
 ·
  rw[if_pos k6,if_pos k6,show btw n 2 2=((n:Int)==2)from QCF n 2]
 rw[if_neg k6,if_neg k6]
 by_cases k7:k=7
 ·
  rw[if_pos k7,if_pos k7,QRD n (h k7)]
 rw[if_neg k7,if_neg k7]
 by_cases k8:k=8
 ·
  rw[if_pos k8,if_pos k8,show btw n 1 1=((n:Int)==1)from QCF n 1,Bool.and_assoc,Bool.and_assoc,Bool.and_assoc,Bool.and_assoc];rw[Bool.and_comm (QD0 np pn pt)]
 rw[if_neg k8,if_neg k8]
 by_cases k9:k=9
 ·
  rw[if_pos k9,if_pos k9,QKO]
 rw[if_neg k9,if_neg k9]
 by_cases k10:k=10
 ·
  rw[if_pos k10,if_pos k10,show btw n 2 2=((n:Int)==2)from QCF n 2]
 rw[if_neg k10,if_neg k10]
 by_cases k11:k=11
 ·
  rw[if_pos k11,if_pos k11,QRC]
 rw[if_neg k11,if_neg k11]
 by_cases k12:k=12
 ·
  rw[if_pos k12,if_pos k12];unfold QKs;simp only[Bool.and_assoc]
 rw[if_neg k12,if_neg k12]
 by_cases k13:k=13
 ·
  rw[if_pos k13,if_pos k13,Bool.and_assoc,QOa]
 rw[if_neg k13,if_neg k13]
 by_cases k14:k=14
 ·
  rw[if_pos k14,if_pos k14,show btw n 1 1=((n:Int)==1)from QCF n 1]
 rw[if_neg k14,if_neg k14]
 by_cases k17:k=17
 ·
  rw[if_pos k17,if_pos k17,show btw n 0 0=((n:Int)==0)from QCF n 0]
 rw[if_neg k17,if_neg k17]
def Ex.seqs:Ex→Bool
 | .mk k _ _ _ _ _ _ _ _ n f=>(k !=7||decide (n≤3000))&&(List.range n).all fun i=>(f i).seqs
 | .no=>true
theorem QRY {s:ByteArray}(h:(s.toList== [37,124])=true):QAs s=false:=by
 have h1:s.data.toList= [37,124]:=by rw[←Lib.toList_data];exact eq_of_beq h
 unfold QAs;rw[h1]
 have h2:(QBb [37,124]==1)=false:=by
  rw[beq_eq_false_iff_ne];intro h;have:=((QFF [37,124]).1 h).2.2.1;exact absurd this (by decide)
 rw[h2];rfl
theorem Ex.ok_shape(e:Ex)(l:ByteArray)(hs:e.seqs=true):e.ok l=if e.eith then(e.arg 0).ok ⟨#[]⟩&&((e.arg 1).arg 2).ok ⟨#[]⟩ else e.form l&&(List.range e.len).all (fun i=>(e.arg i).ok (QBM e.k e.nm i)):=by
 have h7:e.k=7→e.len≤3000:=by
  rcases e with ⟨k,num,s,ty,np,pn,pt,nk,ks,n,f⟩|_
  case no=>intro _;exact Nat.zero_le _
  intro hk;have hk:k=7:=hk;unfold Ex.seqs at hs;rw[Bool.and_eq_true,Bool.or_eq_true,decide_eq_true_eq]at hs;rcases hs.1 with h|h
  ·
   rw[hk]at h;exact absurd h (by decide)
  ·
   exact h
 rw[e.ok_eq l,QNl e l h7]
 cases ho:e.orB with
 |false=>
  have he:e.eith=false:=by unfold Ex.eith;rw[ho];rfl
  rw[he];rfl
 |true=>
  have he:e.eith=(e.fName&&(e.arg 1).fNone):=by unfold Ex.eith;rw[ho,Bool.true_and]
  rw[he,if_pos rfl]
  cases hf:(e.fName&&(e.arg 1).fNone)with
  |true=>
   rw[if_pos rfl,Bool.true_and]
  |false=>
   rw[if_neg (by decide),Bool.false_and,Bool.false_and]
   have hfit:e.fits l=false:=by
    rcases e with ⟨k,num,s,ty,np,pn,pt,nk,ks,n,f⟩|_
    case no=>rfl
    unfold Ex.orB Ex.orT at ho;simp only[Bool.and_eq_true]at ho;have hk:(k==6)=true:=ho.1.1.1.1.1;have hn:(s.toList== [37,124])=true:=ho.1.1.1.1.2;have hk:=eq_of_beq hk;subst hk;show(Ex.fName _&&((n:Int)==2)&&QAs s)=false;rw[QRY hn,Bool.and_false]
   rw[hfit,Bool.false_and]
theorem QIE {W:World}(h9:9≤W.heap.size)(e:Ex)(hs:e.seqs=true)(he:e.eith=false)
  (ih:∀i v l,i<e.len→ExR W v (e.arg i)→∀w,Below W.heap.size W w→Calls prog 38 #[v,.string l] w fun r w'=>r= .returned (.bool ((e.arg i).ok l))∧Below w.heap.size w w')
  (v:Value) (h:ExR W v e) (l:ByteArray) (w:World) (hW:Below W.heap.size W w):
  Calls prog 38 #[v,.string l] w fun r w'=>r= .returned (.bool (e.ok l))∧Below w.heap.size w w':=by
 have HO:=hd0 (fun w (hW:Below W.heap.size W w)=>QHI h w hW);have HF:=hd0 (fun w (hW:Below W.heap.size W w)=>QPg h9 h l w hW);have hok:=e.ok_shape l hs;rw[he,if_neg (by decide)]at hok;rw[hok];rw[he]at HO;have hnm:e.len≤1100000:=h.len_le;obtain⟨k,s,num,tk,ts,tl,th,tp,tn,tc,pp,np,cp,pk,nk,ck,pa,n,ca,tf,pn,pt,ks,f,A,rfl,rfl,hA,hf⟩:=h.cells;have hnm:n≤1100000:=hnm;have ih':∀i v l,i<n→ExR W v (f i)→∀w,Below W.heap.size W w→Calls prog 38 #[v,.string l] w fun r w'=>r= .returned (.bool ((f i).ok l))∧Below w.heap.size w w':=ih
 have HH:=hd0 (And.intro hA (And.intro hf ih'));clear hok hA hf ih ih' he hs h h9;have HW:=hd0 hW;have hW0:=hW.size;clear hW;have hq:∃q:Nat→Bool,q=fun i=>(f i).ok (QBM k s i):=⟨_,rfl⟩
 obtain⟨q,hq⟩:=hq;have hres:(Ex.form (Ex.mk k num s (.mk tk tl th ts tn tf) np pn pt nk ks n f) l&&(List.range (Ex.len (Ex.mk k num s (.mk tk tl th ts tn tf) np pn pt nk ks n f))).all (fun i=>Ex.ok ((Ex.mk k num s (.mk tk tl th ts tn tf) np pn pt nk ks n f).arg i) (QBM (Ex.mk k num s (.mk tk tl th ts tn tf) np pn pt nk ks n f).k (Ex.mk k num s (.mk tk tl th ts tn tf) np pn pt nk ks n f).nm i)))=(Ex.form (Ex.mk k num s (.mk tk tl th ts tn tf) np pn pt nk ks n f) l&&(List.range n).all q):=by rw[hq];rfl
 rw[hres];have HQ:=hd0 hq;clear hres hq;generalize Ex.form (Ex.mk k num s (.mk tk tl th ts tn tf) np pn pt nk ks n f) l=FT at*;go_enter func38,ntmps38;go_upto_region 1 with fail;refine QBk ?_;intro w1 H1
 go_wp2_with (refine lb_ H1.out.2 ?_)
 refine(HO.out w1 (HW.out.trans (H1.out.1.mono hW0))).mono ?_;rintro r w2 ⟨rfl,hb2⟩;have H2:=hd0 (QAG H1.out hb2);clear hb2 H1 HO
 go_wp2_with (refine lb_ H2.out.2 ?_)
 refine(HF.out w2 (HW.out.trans (H2.out.1.mono hW0))).mono ?_;rintro r w3 ⟨rfl,hb3⟩;have H3:=hd0 (QAG H2.out hb3);clear hb3 H2 HF
 cases FT with
 |false=>
  go_wp2;go_ret;exact⟨rfl,H3.out.1⟩
 |true=>
 go_wp2_with fail
 go_loopw [5] (fun v5 wr=>∃i:Nat,i≤n∧v5= .int .i64 i∧Hid ((List.range i).all q=true∧Below w.heap.size w wr∧BoxAt wr w.heap.size (Z9 k s num tk ts tl th tp tn tc pp np cp pk nk ck pa n ca))) (fun v5 _=>n - (intOf v5).toNat)
 case atStart=>exact⟨0,Nat.zero_le _,rfl,hd0 ⟨rfl,H3.out⟩⟩
 case round=>
  obtain⟨i,hi,rfl,HR⟩:=hrel;have c0:=HR.out.2.2 0 _ rfl;have c1:=HR.out.2.2 1 _ rfl;have c10:=HR.out.2.2 10 _ rfl;clear H3
  by_cases hlt:i<n
  ·
   have g0:decide ((i:Int)<n)=true:=decide_eq_true (by omega);have g1:(0:Int)≤i:=by omega
   have g2:(i:Int)<n:=by omega
   obtain⟨qb,qo,rfl, -⟩:=HH.out.1 i hlt;have HCI:=hd0 (((HH.out.1.at11 hlt (X:=#[A i 0,A i 1,A i 2,A i 3,A i 4,A i 5,A i 6,A i 7,A i 8,A i 9,A i 10]) rfl).under HW.out).under HR.out.2.1);have HLN:=hd0 (show QBM k s i=if(k==6)&&i==0 then s else⟨#[]⟩ from rfl)
   cases e6:(k==6)with
   |false=>
    go_wp2_with (refine lc_ HCI.out ?_)
    have hl:QBM k s i=⟨#[]⟩:=by rw[HLN.out,e6];rfl
    have hcall:=HH.out.2.2 i _ ⟨#[]⟩ hlt (HH.out.2.1 i hlt) wr (HW.out.trans (HR.out.2.1.mono hW0));have HQI:=hd0 (show q i=(f i).ok ⟨#[]⟩ by rw[HQ.out];show(f i).ok (QBM k s i)=_;rw[hl]);have HCL:=hd0 hcall;clear hcall hl;generalize (f i).ok ⟨#[]⟩=x at*;refine HCL.out.mono ?_;rintro r wn ⟨rfl,hbn⟩;have HN:=hd0 (show Below w.heap.size w wn∧BoxAt wn w.heap.size (Z9 k s num tk ts tl th tp tn tc pp np cp pk nk ck (some ⟨qb,qo,none⟩) n ca)from⟨HR.out.2.1.trans (hbn.mono HR.out.2.1.size),fun j v hj=>QAA hbn (HR.out.2.2 j v hj)⟩);clear hbn
    cases x with
    |false=>
     go_wp2;go_ret;exact⟨by rw[Bool.true_and,QCP hlt HQI.out];rfl,HN.out.1⟩
    |true=>
     have HAL:=hd0 (show(List.range (i+1)).all q=true by rw[QAT,HR.out.1,HQI.out];rfl);go_wp2;go_roundw
     case rel=>exact⟨i+1,by omega,by go_num,hd0 ⟨HAL.out,HN.out⟩⟩
     case measure=>simp[intOf];omega
   |true=>
    cases ez:((i:Int)==0)with
    |false=>
     go_wp2_with (refine lc_ HCI.out ?_)
     have hl:QBM k s i=⟨#[]⟩:=by rw[HLN.out,e6,show(i==0)=false from beq_eq_false_iff_ne.2 (fun hh=>by subst hh;exact absurd ez (by decide))];rfl
     have hcall:=HH.out.2.2 i _ ⟨#[]⟩ hlt (HH.out.2.1 i hlt) wr (HW.out.trans (HR.out.2.1.mono hW0));have HQI:=hd0 (show q i=(f i).ok ⟨#[]⟩ by rw[HQ.out];show(f i).ok (QBM k s i)=_;rw[hl]);have HCL:=hd0 hcall;clear hcall hl;generalize (f i).ok ⟨#[]⟩=x at*;refine HCL.out.mono ?_;rintro r wn ⟨rfl,hbn⟩;have HN:=hd0 (show Below w.heap.size w wn∧BoxAt wn w.heap.size (Z9 k s num tk ts tl th tp tn tc pp np cp pk nk ck (some ⟨qb,qo,none⟩) n ca)from⟨HR.out.2.1.trans (hbn.mono HR.out.2.1.size),fun j v hj=>QAA hbn (HR.out.2.2 j v hj)⟩);clear hbn
     cases x with
     |false=>
      go_wp2;go_ret;exact⟨by rw[Bool.true_and,QCP hlt HQI.out];rfl,HN.out.1⟩
     |true=>
      have HAL:=hd0 (show(List.range (i+1)).all q=true by rw[QAT,HR.out.1,HQI.out];rfl);go_wp2;go_roundw
      case rel=>exact⟨i+1,by omega,by go_num,hd0 ⟨HAL.out,HN.out⟩⟩
      case measure=>simp[intOf];omega
    |true=>
     go_wp2_with (refine lc_ HCI.out ?_)
     have hl:QBM k s i=s:=by rw[HLN.out,e6,show(i==0)=true from beq_iff_eq.2 (by have:=eq_of_beq ez;omega)];rfl
     have hcall:=HH.out.2.2 i _ s hlt (HH.out.2.1 i hlt) wr (HW.out.trans (HR.out.2.1.mono hW0));have HQI:=hd0 (show q i=(f i).ok s by rw[HQ.out];show(f i).ok (QBM k s i)=_;rw[hl]);have HCL:=hd0 hcall;clear hcall hl;generalize (f i).ok s=x at*;refine HCL.out.mono ?_;rintro r wn ⟨rfl,hbn⟩;have HN:=hd0 (show Below w.heap.size w wn∧BoxAt wn w.heap.size (Z9 k s num tk ts tl th tp tn tc pp np cp pk nk ck (some ⟨qb,qo,none⟩) n ca)from⟨HR.out.2.1.trans (hbn.mono HR.out.2.1.size),fun j v hj=>QAA hbn (HR.out.2.2 j v hj)⟩);clear hbn
     cases x with
     |false=>
      go_wp2;go_ret;exact⟨by rw[Bool.true_and,QCP hlt HQI.out];rfl,HN.out.1⟩
     |true=>
      have HAL:=hd0 (show(List.range (i+1)).all q=true by rw[QAT,HR.out.1,HQI.out];rfl);go_wp2;go_roundw
      case rel=>exact⟨i+1,by omega,by go_num,hd0 ⟨HAL.out,HN.out⟩⟩
      case measure=>simp[intOf];omega
  ·
   have g0:decide ((i:Int)<n)=false:=decide_eq_false (by omega);go_wp2;go_ret;exact⟨by rw[Bool.true_and,show n=i by omega,HR.out.1];rfl,HR.out.2.1⟩
theorem QJM {W:World}(e:Ex)(hs:e.seqs=true)(he:e.eith=true)
  (ih0:∀v,ExR W v (e.arg 0)→∀w,Below W.heap.size W w→Calls prog 38 #[v,.string ⟨#[]⟩] w fun r w'=>r= .returned (.bool ((e.arg 0).ok ⟨#[]⟩))∧Below w.heap.size w w')
  (ih2:∀v,ExR W v ((e.arg 1).arg 2)→∀w,Below W.heap.size W w→Calls prog 38 #[v,.string ⟨#[]⟩] w fun r w'=>r= .returned (.bool (((e.arg 1).arg 2).ok ⟨#[]⟩))∧Below w.heap.size w w')
  (v:Value) (h:ExR W v e) (l:ByteArray) (w:World) (hW:Below W.heap.size W w):
  Calls prog 38 #[v,.string l] w fun r w'=>r= .returned (.bool (e.ok l))∧Below w.heap.size w w':=by
 have HO:=hd0 (fun w (hW:Below W.heap.size W w)=>QHI h w hW);have hok:=e.ok_shape l hs;rw[he,if_pos rfl]at hok;rw[hok];rw[he]at HO;obtain⟨k,s,num,tk,ts,tl,th,tp,tn,tc,pp,np,cp,pk,nk,ck,pa,n,ca,tf,pn,pt,ks,f,A,rfl,rfl,hA,hf⟩:=h.cells;unfold Ex.eith Ex.orB Ex.orT at he;simp only[Bool.and_eq_true]at he;have hn2:n=2:=by have h1:((n:Int)==2)=true:=he.1.1.1.1.1.2;have:=eq_of_beq h1;omega
 subst hn2;have hk5:(((f 1).len:Int)==3)=true:=he.1.1.1.2;clear he hok hs;obtain⟨qb,qo,rfl, -⟩:=hA 0 (by omega);obtain⟨k',s',num',tk',ts',tl',th',tp',tn',tc',pp',np',cp',pk',nk',ck',pa',n',ca',tf',pn',pt',ks',f',A',hv1,he1,hA',hf'⟩:=(hf 1 (by omega)).cells;rw[he1]at hk5;have hn3:n'=3:=by have h1:((n':Int)==3)=true:=hk5;have:=eq_of_beq h1;omega
 subst hn3;obtain⟨rb,ro,rfl, -⟩:=hA' 0 (by omega);obtain⟨k3,s3,m3,a3,u3,l3,h3,p3,y3,z3,g3,v3,x3,j3,w3,o3,q3,r3,t3,tf3,pn3,pt3,ks3,ff3,AA3,hv3,he3, -, -⟩:=(hf 0 (by omega)).cells;obtain⟨k2,s2,m2,a2,u2,l2,h2,p2,y2,z2,g2,v2,x2,j2,w2,o2,q2,r2,t2,tf2,pn2,pt2,ks2,ff2,AA2,hw2,hx2, -, -⟩:=(hf' 2 (by omega)).cells;have C0:=hA.at11 (i:=0) (by omega) hv3;have C1:=hA.at11 (i:=1) (by omega) hv1;have C2:=hA'.at11 (i:=2) (by omega) hw2;rw[Nat.zero_mul,Nat.add_zero]at C0;have HC:=hd0 (And.intro C0 (And.intro C1 C2));have hr0:=hf 0 (by omega);have hr2:ExR W (QE6 (A' 2)) ((f 1).arg 2):=by rw[he1];exact hf' 2 (by omega)
 rw[hv3]at hr0;rw[hw2]at hr2;have HI0:=hd0 (fun w1 hw1=>ih0 _ hr0 w1 hw1);have HI2:=hd0 (fun w1 hw1=>ih2 _ hr2 w1 hw1);have HW:=hd0 hW;have hW0:=hW.size;clear hA hf hA' hf' C0 C1 C2 hv1 he1 hv3 he3 hw2 hx2 hr0 hr2 ih0 ih2 h hk5 hW;generalize Ex.ok ((Ex.mk k num s (.mk tk tl th ts tn tf) np pn pt nk ks 2 f).arg 0) ⟨#[]⟩=R0 at*;generalize Ex.ok (((Ex.mk k num s (.mk tk tl th ts tn tf) np pn pt nk ks 2 f).arg 1).arg 2) ⟨#[]⟩=R2 at*;go_enter func38,ntmps38;go_upto_region 1 with fail;refine QBk ?_;intro wa H1
 go_wp2_with (refine lb_ H1.out.2 ?_)
 refine(HO.out wa (HW.out.trans (H1.out.1.mono hW0))).mono ?_;rintro r wb ⟨rfl,hb2⟩;have H2:=hd0 (QAG H1.out hb2);have c10:=H2.out.2 10 _ rfl;have HB:=hd0 (HW.out.trans (H2.out.1.mono hW0));clear hb2 H1 HO
 go_wp2_with (refine QAx 29 _ rfl rfl qb qo #[.int .i64 k3,.string s3,.int .i64 m3,.int .i64 a3,.string u3,.int .i64 l3,.int .i64 h3,.slice p3 y3 z3,.slice g3 v3 x3,.slice j3 w3 o3,.slice q3 r3 t3] _ underlying29 rfl infoEx (HC.out.1.under HB.out) ?_)
 refine(HI0.out wb HB.out).mono ?_;rintro r wc ⟨rfl,hb3⟩;have H3:=hd0 (show Below w.heap.size w wc from H2.out.1.trans (hb3.mono H2.out.1.size))
 cases R0 with
 |false=>
  clear hb3;go_wp2;go_ret;exact⟨rfl,H3.out⟩
 |true=>
 have d10:=QAA hb3 c10;have HB3:=hd0 (HW.out.trans (H3.out.mono hW0));have f10:=(HC.out.2.1.under HB3.out) 10 _ rfl;clear hb3 c10 HI0 H2 HB
 go_wp2_with (refine QA4 29 _ rfl (by rfl) rb (ro+2*11) #[.int .i64 k2,.string s2,.int .i64 m2,.int .i64 a2,.string u2,.int .i64 l2,.int .i64 h2,.slice p2 y2 z2,.slice g2 v2 x2,.slice j2 w2 o2,.slice q2 r2 t2] _ underlying29 rfl infoEx (HC.out.2.2.under HB3.out) ?_)
 refine(HI2.out wc HB3.out).mono ?_;rintro r wd ⟨rfl,hb4⟩;have H4:=hd0 (show Below w.heap.size w wd from H3.out.trans (hb4.mono H3.out.size));clear hb4
 cases R2
 all_goals go_wp2
 all_goals go_ret
 all_goals exact⟨rfl,H4.out⟩
theorem Ex.seqs_arg {e:Ex}(h:e.seqs=true)(i:Nat)(hi:i<e.len):(e.arg i).seqs=true:=by
 rcases e with ⟨k,num,s,ty,np,pn,pt,nk,ks,n,f⟩|_
 case no=>exact absurd hi (Nat.not_lt_zero _)
 unfold Ex.seqs at h;rw[Bool.and_eq_true,List.all_eq_true]at h;exact h.2 i (List.mem_range.2 hi)
theorem QID {W:World}(h9:9≤W.heap.size)(e:Ex):e.seqs=true→∀v l,ExR W v e→∀w,Below W.heap.size W w→Calls prog 38 #[v,.string l] w fun r w'=>r= .returned (.bool (e.ok l))∧Below w.heap.size w w':=by
 induction e using Ex.induct2 with
 |h0=>
  intro _ v l h
  cases h
 |h e ih1 ih2=>
 intro hs v l h w hW
 cases he:e.eith with
 |true=>
  have hl:e.len=2∧(e.arg 1).len=3:=by
   unfold Ex.eith Ex.orB Ex.orT at he;simp only[Bool.and_eq_true,beq_iff_eq]at he;omega
  exact QJM e hs he (fun v hv w hw=>ih1 0 (Ex.seqs_arg hs 0 (by omega)) v _ hv w hw) (fun v hv w hw=>ih2 1 2 (Ex.seqs_arg (Ex.seqs_arg hs 1 (by omega)) 2 (by omega)) v _ hv w hw) v h l w hW
 |false=>exact QIE h9 e hs he (fun i v l hi hv w hw=>ih1 i (Ex.seqs_arg hs i hi) v l hv w hw) v h l w hW
def QSI(c x t:Nat):Int:=if 3000<c then 2 else if 100<x∨100<t then 6 else 0
theorem QHe(b c x t:Nat)(w:World)(h:M3 w b c x t):
  Calls prog 37 #[.pointer (some ⟨b,0,none⟩)] w fun e w'=>e= .returned (.int .i64 (QSI c x t))∧w'=w:=by
 have c1:=h.c1;have c2:=h.c2;have lt:=h.lt;have HF:=hd0 (QEe b c x t w h);clear h;have HE:=hd0 (show QSI c x t=if 3000<c then 2 else if 100<x∨100<t then 6 else 0 from rfl)
 by_cases h1:3000<c
 ·
  have e1:decide ((3000:Int)<c)=true:=decide_eq_true (by omega);have HV:=hd0 (show QSI c x t=2 by rw[HE.out,if_pos h1]);go_enter func37,ntmps37
  go_wp2_with fail
  refine HF.out.mono ?_;rintro e w1 ⟨rfl,rfl⟩;go_wp2;go_ret;exact⟨by rw[HV.out] <;> rfl,rfl⟩
 ·
  have e1:decide ((3000:Int)<c)=false:=decide_eq_false (by omega);generalize ex:decide ((100:Int)<x)=X;generalize et:decide ((100:Int)<t)=T
  have HV:=hd0 (show QSI c x t=if(X||T)=true then 6 else 0 by
   rw[HE.out,if_neg h1,←ex,←et]
   by_cases hx:100<x
   ·
    rw[if_pos (Or.inl hx),decide_eq_true (show(100:Int)<x by omega)];rfl
   ·
    by_cases ht:100<t
    ·
     rw[if_pos (Or.inr ht),decide_eq_true (show(100:Int)<t by omega),Bool.or_true];rfl
    ·
     rw[if_neg (by omega),decide_eq_false (show¬(100:Int)<x by omega),decide_eq_false (show¬(100:Int)<t by omega)]
     rfl)
  clear h1 HE;go_enter func37,ntmps37
  go_wp2_with fail
  refine HF.out.mono ?_;rintro e w1 ⟨rfl,rfl⟩
  cases X <;> cases T
  all_goals go_wp2
  all_goals go_ret
  all_goals exact⟨by rw[HV.out] <;> rfl,rfl⟩
theorem QNe {c x t:Nat}{st:Nat × Nat}(h:R3 c x t st):QSI c x t=if MXN<st.1 then 2 else if 100<st.2 then 6 else 0:=by
 unfold QSI;rcases h with ⟨h1,h2,h3⟩|⟨h1,h2⟩
 ·
  rw[if_neg (show¬3000<c by unfold MXN at h1;omega),if_neg (show¬MXN<st.1 by omega)]
  by_cases hd:100<st.2
  ·
   rw[if_pos hd,if_pos (show 100<x∨100<t by omega)]
  ·
   rw[if_neg hd,if_neg (show¬(100<x∨100<t)by omega)]
 ·
  rw[if_pos (show 3000<c by unfold MXN at h1;omega),if_pos h2]
theorem Ex.seqs_of:∀(e:Ex) (deep:Nat) (st:Nat × Nat),(e.meas deep st).1≤MXN→e.seqs=true
 | .mk k num s ty np pn pt nk ks n f,deep,st,h=>by
  rw[Ex.meas_mk]at h
  split at h
  ·
   rename_i hst
   have hall:∀i,i≤n→(QAU i (fun i st=>(f i).meas (deep+1) st) (Ex.pre np pt ty (st.1+1,max st.2 deep))).1≤MXN:=by
    intro i hi
    apply Classical.byContradiction
    intro hc;rw[QBZ hi hc]at h;exact hc h
   have hsucc:∀i,i+1≤n→QAU (i+1) (fun i st=>(f i).meas (deep+1) st) (Ex.pre np pt ty (st.1+1,max st.2 deep))=(f i).meas (deep+1) (QAU i (fun i st=>(f i).meas (deep+1) st) (Ex.pre np pt ty (st.1+1,max st.2 deep))):=by
    intro i hi;rw[QAp,if_pos (hall i (by omega))]
   have hcnt:∀i,i≤n→i≤(QAU i (fun i st=>(f i).meas (deep+1) st) (Ex.pre np pt ty (st.1+1,max st.2 deep))).1:=by
    intro i
    induction i with
    |zero=>intro _;exact Nat.zero_le _
    |succ i ih=>
     intro hi;rw[hsucc i hi];have:=Ex.meas_grow (f i) (deep+1) (QAU i (fun i st=>(f i).meas (deep+1) st) (Ex.pre np pt ty (st.1+1,max st.2 deep)));have:=ih (by omega);omega
   unfold Ex.seqs;rw[Bool.and_eq_true,Bool.or_eq_true,decide_eq_true_eq,List.all_eq_true];refine⟨Or.inr ?_,fun i hi=>?_⟩
   ·
    have h1:=hcnt n (Nat.le_refl _);unfold MXN at h;omega
   ·
    have hi:=List.mem_range.1 hi;refine Ex.seqs_of (f i) (deep+1) (QAU i (fun i st=>(f i).meas (deep+1) st) (Ex.pre np pt ty (st.1+1,max st.2 deep))) ?_;rw[←hsucc i (by omega)];exact hall (i+1) (by omega)
  ·
   rename_i hst;exact absurd h hst
 | .no,deep,st,h=>rfl
theorem QCn {W:World}(h9:9≤W.heap.size){v:Value}{e:Ex}(h:ExR W v e)(w:World)(hW:Below W.heap.size W w):
  Calls prog 9 #[v] w fun r w'=>r= .returned (.int .i64 e.check)∧Below w.heap.size w w':=by
 have HX:=hd0 (fun w1 b (hw1:Below W.heap.size W w1) (hb:W.heap.size≤b) (hB:M3 w1 b 0 0 0)=>(QJu h w1 b 0 0 0 1 hw1 hb hB (Nat.zero_le _) (Nat.zero_le _) (Nat.zero_le _) (Nat.le_refl _)).mono fun r w' hh=>(show r= .returned (.tuple #[])∧E3x b (e.meas 1 (0,0)) w1 w' from hh));have HS:=hd0 (fun(hs:(e.meas 1 (0,0)).1≤MXN) w1 hw1=>QID h9 e (e.seqs_of 1 (0,0) hs) v ⟨#[]⟩ h w1 hw1);have HCK:=hd0 (show e.check=QBp (e.meas 1 (0,0)) (e.ok ⟨#[]⟩)from rfl);have HW:=hd0 hW;have hW0:=hW.size;obtain⟨k,s,num,tk,ts,tl,th,tp,tn,tc,pp,np,cp,pk,nk,ck,pa,n,ca,tf,pn,pt,ks,f,A,rfl,he, -, -⟩:=h.cells;clear he h hW;generalize e.meas 1 (0,0)=st at*;generalize Ex.ok e ⟨#[]⟩=R at*;go_enter func9,ntmps9;go_upto_region 2 with fail
 refine QA8 (fun wx=>Hid (Below w.heap.size w wx∧BoxAt wx w.heap.size (Z9 k s num tk ts tl th tp tn tc pp np cp pk nk ck pa n ca)∧M3 wx (w.heap.size+1) 0 0 0)) (hd0 ⟨((Below.refl _ _).alloc (Nat.le_refl _) _).alloc (by simp) _,fun j v hj=>QAA ((Below.refl _ _).alloc (Nat.le_refl _) _) (QAS w _ _ j v hj),(by
  have:=heap_alloc_last (w.alloc (.cells #[.int .i64 k,.string s,.int .i64 num,.int .i64 tk,.string ts,.int .i64 tl,.int .i64 th,.slice tp tn tc,.slice pp np cp,.slice pk nk ck,.slice pa n ca] 29)) (.cells #[.int .i64 0,.int .i64 0,.int .i64 0] 68);rw[World.size_alloc]at this
  exact this)⟩) ?_
 intro w1 H1
 go_wp2_with (refine lb_ H1.out.2.1 ?_)
 refine(HX.out w1 (w.heap.size+1) (HW.out.trans (H1.out.1.mono hW0)) (by omega) H1.out.2.2).mono ?_;rintro r w2 ⟨rfl,c',x',t',hC,hR, -, -, -⟩;have H2:=hd0 (show Below w.heap.size w w2∧BoxAt w2 w.heap.size (Z9 k s num tk ts tl th tp tn tc pp np cp pk nk ck pa n ca)from⟨hC.below H1.out.1 (by omega) H1.out.1.size,QI7 hC (by omega) H1.out.2.1⟩);have HR:=hd0 (QNe hR);have HER:=hd0 (QHe (w.heap.size+1) c' x' t' w2 hC.2);clear hC hR H1 HX
 go_wp2_with fail
 refine HER.out.mono ?_;rintro r w3 ⟨rfl,rfl⟩;rw[HR.out];clear HER
 by_cases h1:MXN<st.1
 ·
  have HV:=hd0 (show e.check=2 by rw[HCK.out];unfold QBp;rw[if_pos h1]);rw[if_pos h1];go_wp2;go_ret;exact⟨by rw[HV.out] <;> rfl,H2.out.1⟩
 rw[if_neg h1]
 by_cases h2:100<st.2
 ·
  have HV:=hd0 (show e.check=6 by rw[HCK.out];unfold QBp;rw[if_neg h1,if_pos h2]);rw[if_pos h2];go_wp2;go_ret;exact⟨by rw[HV.out] <;> rfl,H2.out.1⟩
 rw[if_neg h2];have HV:=hd0 (show e.check=if R then 0 else 8 by rw[HCK.out];unfold QBp;rw[if_neg h1,if_neg h2]);have HSS:=hd0 (HS.out (by omega));clear HCK HR HS h1 h2
 go_wp2_with (refine lb_ H2.out.2 ?_)
 refine(HSS.out w3 (HW.out.trans (H2.out.1.mono hW0))).mono ?_;rintro r w4 ⟨rfl,hb4⟩;have H4:=hd0 (H2.out.1.trans (hb4.mono H2.out.1.size));clear hb4 HSS
 cases R
 all_goals go_wp2
 all_goals go_ret
 all_goals exact⟨by rw[HV.out] <;> rfl,H4.out⟩
theorem QG8 {W:World}(h9:9≤W.heap.size){v:Value}{ty:Ty}(h:TyR W v ty)(w:World)(hW:Below W.heap.size W w):
  Calls prog 11 #[v] w fun r w'=>r= .returned (.int .i64 ty.check)∧Below w.heap.size w w':=by
 have HX:=hd0 (fun w1 b (hw1:Below W.heap.size W w1) (hb:W.heap.size≤b) (hB:M3 w1 b 0 0 0)=>QIi h w1 b 0 0 0 1 (0,0) hw1 hb hB (Or.inl ⟨Nat.zero_le _,rfl,rfl⟩) (Nat.zero_le _) (Nat.zero_le _) (Nat.zero_le _) (by unfold MXN;omega) (fun _=>Nat.le_refl _));have HS:=hd0 (fun w1 hw1=>QCK h9 h w1 hw1);have HCK:=hd0 (show ty.check=QBp (ty.go3 1 (0,0)) ty.ok from rfl);have HW:=hd0 hW;have hW0:=hW.size;obtain⟨k,lo,hi,s,m,p,c,f,rfl,he, -, -⟩:=h.cells;clear he h hW;generalize ty.go3 1 (0,0)=st at*;generalize ty.ok=R at*;go_enter func11,ntmps11;go_upto_region 2 with fail
 refine QA8 (fun wx=>Hid (Below w.heap.size w wx∧BoxAt wx w.heap.size #[.int .i64 k,.string s,.int .i64 lo,.int .i64 hi,.slice p m c]∧M3 wx (w.heap.size+1) 0 0 0)) (hd0 ⟨((Below.refl _ _).alloc (Nat.le_refl _) _).alloc (by simp) _,fun j v hj=>QAA ((Below.refl _ _).alloc (Nat.le_refl _) _) (QAS w _ _ j v hj),(by
  have:=heap_alloc_last (w.alloc (.cells #[.int .i64 k,.string s,.int .i64 lo,.int .i64 hi,.slice p m c] 24)) (.cells #[.int .i64 0,.int .i64 0,.int .i64 0] 68);rw[World.size_alloc]at this
  exact this)⟩) ?_
 intro w1 H1;have a0:=H1.out.2.1 0 _ rfl;have a1:=H1.out.2.1 1 _ rfl;have a2:=H1.out.2.1 2 _ rfl;have a3:=H1.out.2.1 3 _ rfl;have a4:=H1.out.2.1 4 _ rfl
 go_wp2_with fail
 refine(HX.out w1 (w.heap.size+1) (HW.out.trans (H1.out.1.mono hW0)) (by omega) H1.out.2.2).mono ?_;rintro r w2 ⟨rfl,c',x',t',hC,hR, -, -, -, -⟩;have H2:=hd0 (show Below w.heap.size w w2∧BoxAt w2 w.heap.size #[.int .i64 k,.string s,.int .i64 lo,.int .i64 hi,.slice p m c] from⟨hC.below H1.out.1 (by omega) H1.out.1.size,QI7 hC (by omega) H1.out.2.1⟩);have HR:=hd0 (QNe hR);have HER:=hd0 (QHe (w.heap.size+1) c' x' t' w2 hC.2);clear hC hR H1 HX a0 a1 a2 a3 a4;have a0:=H2.out.2 0 _ rfl;have a1:=H2.out.2 1 _ rfl;have a2:=H2.out.2 2 _ rfl;have a3:=H2.out.2 3 _ rfl;have a4:=H2.out.2 4 _ rfl
 go_wp2_with fail
 refine HER.out.mono ?_;rintro r w3 ⟨rfl,rfl⟩;rw[HR.out];clear HER
 by_cases h1:MXN<st.1
 ·
  have HV:=hd0 (show ty.check=2 by rw[HCK.out];unfold QBp;rw[if_pos h1]);rw[if_pos h1];go_wp2;go_ret;exact⟨by rw[HV.out] <;> rfl,H2.out.1⟩
 rw[if_neg h1]
 by_cases h2:100<st.2
 ·
  have HV:=hd0 (show ty.check=6 by rw[HCK.out];unfold QBp;rw[if_neg h1,if_pos h2]);rw[if_pos h2];go_wp2;go_ret;exact⟨by rw[HV.out] <;> rfl,H2.out.1⟩
 rw[if_neg h2];have HV:=hd0 (show ty.check=if R then 0 else 8 by rw[HCK.out];unfold QBp;rw[if_neg h1,if_neg h2]);clear HCK HR h1 h2
 go_wp2_with fail
 refine(HS.out w3 (HW.out.trans (H2.out.1.mono hW0))).mono ?_;rintro r w4 ⟨rfl,hb4⟩;have H4:=hd0 (H2.out.1.trans (hb4.mono H2.out.1.size));clear hb4 HS
 cases R
 all_goals go_wp2
 all_goals go_ret
 all_goals exact⟨by rw[HV.out] <;> rfl,H4.out⟩
end Go.Proofs.YtjnclkakbopnjaaGreatDoor
