/- XChkA, XChkB, XChkC, XChkD, XChkE -/
import Derived.Test.YtjnclkakbopnjaaGreatDoorLot11
set_option linter.unusedSimpArgs false
set_option linter.unusedVariables false
set_option maxRecDepth 100000
set_option maxHeartbeats 8000000
namespace Go.Proofs.YtjnclkakbopnjaaGreatDoor
open Go.Proofs.Tryz
open Go.RowKit
inductive Ty where
 |mk (kind lo hi:Int) (name:ByteArray) (n:Nat) (args:Nat→Ty)
 |no
inductive Ex where
 |mk (kind num:Int) (name:ByteArray) (ty:Ty) (np:Nat) (pn:Nat→ByteArray) (pt:Nat→Ty) (nk:Nat) (keys:Nat→ByteArray) (n:Nat) (args:Nat→Ex)
 |no
def QDP:Nat:=1100000
def QES:Nat:=1100000
inductive TyR (w:World):Value→Ty→Prop
 |mk (k lo hi:Int) (s:ByteArray) (n:Nat) (p:Option Addr) (c:Nat) (A:Nat→Nat→Value) (f:Nat→Ty) (hs:s.size≤QDP) (hn:n≤QES) (hA:Row w 5 p n A) (h:∀i,i<n→TyR w (QPK (A i)) (f i)):
  TyR w (.agg #[.int .i64 k,.string s,.int .i64 lo,.int .i64 hi,.slice p n c]) (.mk k lo hi s n f)
def ParR(w:World)(n:Nat)(p:Option Addr)(pn:Nat→ByteArray)(pt:Nat→Ty):Prop:=
 n≤QES∧∃A,Row w 6 p n A∧∀i,i<n→A i 0= .string (pn i)∧(pn i).size≤QDP∧TyR w (QPK fun j=>A i (j+1)) (pt i)
def StrR(w:World)(n:Nat)(p:Option Addr)(ks:Nat→ByteArray):Prop:=
 n≤QES∧∃A,Row w 1 p n A∧∀i,i<n→A i 0= .string (ks i)∧(ks i).size≤QDP
inductive ExR (w:World):Value→Ex→Prop
 |mk (k num:Int) (s:ByteArray) (t0 t1 t2 t3 t4:Value) (ty:Ty) (np:Nat) (pp:Option Addr) (cp:Nat) (pn:Nat→ByteArray) (pt:Nat→Ty) (nk:Nat) (pk:Option Addr) (ck:Nat) (ks:Nat→ByteArray) (n:Nat) (pa:Option Addr) (ca:Nat) (A:Nat→Nat→Value) (f:Nat→Ex)
  (hs:s.size≤QDP) (ht:TyR w (.agg #[t0,t1,t2,t3,t4]) ty) (hp:ParR w np pp pn pt) (hk:StrR w nk pk ks∧nk≤ck∧n≤ca) (hn:n≤QES) (hA:Row w 11 pa n A) (h:∀i,i<n→ExR w (QE6 (A i)) (f i)):
  ExR w (.agg #[.int .i64 k,.string s,.int .i64 num,t0,t1,t2,t3,t4,.slice pp np cp,.slice pk nk ck,.slice pa n ca]) (.mk k num s ty np pn pt nk ks n f)
theorem TyR.under {w w':World}{v:Value}{t:Ty}(h:TyR w v t)(hb:Below w.heap.size w w'):TyR w' v t:=by
 induction h with
 |mk k lo hi s n p c A f hs hn hA h ih=>exact TyR.mk k lo hi s n p c A f hs hn (hA.below hb) ih
theorem ParR.under {w w':World}{n:Nat}{p:Option Addr}{pn:Nat→ByteArray}{pt:Nat→Ty}(h:ParR w n p pn pt)(hb:Below w.heap.size w w'):ParR w' n p pn pt:=by
 obtain⟨h0,A,h1,h2⟩:=h;exact⟨h0,A,h1.below hb,fun i hi=>⟨(h2 i hi).1,(h2 i hi).2.1,(h2 i hi).2.2.under hb⟩⟩
theorem StrR.under {w w':World}{n:Nat}{p:Option Addr}{ks:Nat→ByteArray}(h:StrR w n p ks)(hb:Below w.heap.size w w'):StrR w' n p ks:=by
 obtain⟨h0,A,h1,h2⟩:=h;exact⟨h0,A,h1.below hb,h2⟩
theorem ExR.under {w w':World}{v:Value}{e:Ex}(h:ExR w v e)(hb:Below w.heap.size w w'):ExR w' v e:=by
 induction h with
 |mk k num s t0 t1 t2 t3 t4 ty np pp cp pn pt nk pk ck ks n pa ca A f hs ht hp hk hn hA h ih=>exact ExR.mk k num s t0 t1 t2 t3 t4 ty np pp cp pn pt nk pk ck ks n pa ca A f hs (ht.under hb) (hp.under hb) ⟨hk.1.under hb,hk.2⟩ hn (hA.below hb) ih
def MXN:Nat:=3000
def QAU(n:Nat)(g:Nat→Nat × Nat→Nat × Nat)(st:Nat × Nat):Nat × Nat:=(List.range n).foldl (fun st i=>if st.1≤MXN then g i st else st) st
def Ty.meas:Ty→Nat→Nat × Nat→Nat × Nat
 | .mk _ _ _ _ n f,deep,st=>if st.1+1≤MXN then QAU n (fun i st=>(f i).meas (deep+1) st) (st.1+1,max st.2 deep) else(st.1+1,max st.2 deep)
 | .no,deep,st=>(st.1+1,max st.2 deep)
def Ty.zero:Ty→Bool
 | .mk k lo hi s n _=>k==0&&s.size==0&&lo==0&&hi==0&&n==0
 | .no=>true
def Ex.meas:Ex→Nat→Nat × Nat→Nat × Nat
 | .mk _ _ _ ty np _ pt _ _ n f,deep,st=>if st.1+1≤MXN then
   QAU n (fun i st=>(f i).meas (deep+1) st) (QAU np (fun i st=>(pt i).meas 1 st) (if ty.zero then(st.1+1,max st.2 deep) else ty.meas 1 (st.1+1,max st.2 deep)))
  else(st.1+1,max st.2 deep)
 | .no,deep,st=>(st.1+1,max st.2 deep)
def QAW(s:ByteArray):Bool:=s.toList== []
theorem QGH(s:ByteArray):QAW s=(s.size==0):=by
 unfold QAW;rw[Lib.toList_data,←QAE]
 cases s.data.toList <;> simp
theorem QD4(k lo hi:Int)(s:ByteArray)(p:Option Addr)(n c:Nat)(w:World):
  Calls prog 157 #[.agg #[.int .i64 k,.string s,.int .i64 lo,.int .i64 hi,.slice p n c]] w fun e w'=>e= .returned (.bool (k==0&&QAW s&&lo==0&&hi==0&&((n:Int)==0)))∧Below w.heap.size w w':=by
 go_enter func157,ntmps157;go_wp2
 all_goals go_ret
 all_goals exact⟨by simp_all[QAW],(Below.refl _ _).alloc (Nat.le_refl _) _⟩
def MB(w:World)(b n d:Nat):Prop:=w.heap[b]?=some (.cells #[.int .i64 (n:Int),.int .i64 (d:Int)] 61 (0,0))
theorem MB.c0 {w:World}{b n d:Nat}(h:MB w b n d):w.cell? ⟨b,0,none⟩=some (.int .i64 (n:Int)):=by simp only[World.cell?,show w.heap[b]?=_ from h];rfl
theorem MB.c1 {w:World}{b n d:Nat}(h:MB w b n d):w.cell? ⟨b,1,none⟩=some (.int .i64 (d:Int)):=by simp only[World.cell?,show w.heap[b]?=_ from h];rfl
theorem MB.fz {w:World}{b n d:Nat}(h:MB w b n d)(o:Nat):w.frozen? ⟨b,o,none⟩=false:=by simp[World.frozen?,show w.heap[b]?=_ from h]
theorem MB.lt {w:World}{b n d:Nat}(h:MB w b n d):b<w.heap.size:=(Array.getElem?_eq_some_iff.1 h).1
def MChg(b n d:Nat)(w w':World):Prop:=w.grownBy w' (some b)∧MB w' b n d
theorem QSs {w:World}{b n d:Nat}(h:MB w b n d)(n' d':Nat)(x y:Value)(hx:x= .int .i64 (n':Int))(hy:y= .int .i64 (d':Int)):MChg b n' d' w ((w.setCell ⟨b,0,none⟩ x).setCell ⟨b,1,none⟩ y):=by
 subst hx hy;rw[setCell_eq_setRow w b 0 _ _ (0,0) _ h,setCell_eq_setRow _ b 1 _ _ (0,0) _ (setRow_heap _ _ _ _ _ _ h),setRow_setRow];exact⟨⟨rfl,rfl,rfl,by rw[setRow_size];exact Nat.le_refl _,fun j _ hj=>setRow_other _ _ _ _ (fun e=>hj (by rw[e]))⟩,setRow_heap _ _ _ _ _ _ h⟩
theorem MChg.trans {b n d n' d':Nat}{w w1 w2:World}(h:MChg b n d w w1)(k:MChg b n' d' w1 w2):MChg b n' d' w w2:=
 ⟨⟨k.1.os.trans h.1.os,k.1.tape.trans h.1.tape,k.1.output.trans h.1.output,Nat.le_trans h.1.size k.1.size,fun j hj hn=>(k.1.block j (Nat.lt_of_lt_of_le hj h.1.size) hn).trans (h.1.block j hj hn)⟩,k.2⟩
theorem MChg.refl {b n d:Nat}{w:World}(h:MB w b n d):MChg b n d w w:=⟨⟨rfl,rfl,rfl,Nat.le_refl _,fun _ _ _=>rfl⟩,h⟩
theorem MChg.below {b n d B:Nat}{W w w':World}(h:MChg b n d w w')(hb:Below B W w)(hB:B≤b)(hBw:B≤w.heap.size):Below B W w':=hb.grown h.1 hBw (fun k hk=>by injection hk with hk;omega)
theorem MChg.new {b n d:Nat}{w w1:World}(hb:Below w.heap.size w w1)(h:MB w b n d):MChg b n d w w1:=
 ⟨⟨hb.os,hb.tape,hb.output,hb.size,fun j hj _=>hb.block j hj⟩,(hb.block b h.lt).trans h⟩
theorem QOA(b n d deep:Nat)(w:World)(h:MB w b n d)(hn:n≤10000)(hd:d≤10000)(hp:deep≤10000):
  Calls prog 81 #[.pointer (some ⟨b,0,none⟩),.int .i64 (deep:Int)] w fun e w'=>e= .returned (.bool (decide (n+1≤MXN)))∧MChg b (n+1) (max d deep) w w':=by
 have c0:=h.c0;have c1:=h.c1;have f0:=h.fz 0;have f1:=h.fz 1;have lt:=h.lt;have w1:IntKind.i64.wrap ((n:Int)+1)=(n:Int)+1:=IntWalk.i64_in _ (by omega);have H:=hd0 h;clear h;go_enter func81,ntmps81;go_wp2;go_ret;have e:decide ((n:Int)+1≤3000)=decide (n+1≤MXN):=decide_eq_decide.2 (by unfold MXN;omega);exact⟨by rw[←e];rfl,QSs H.out (n+1) (max d deep) _ _ (by simp) (by congr 1;omega)⟩
theorem QAp(n:Nat)(g:Nat→Nat × Nat→Nat × Nat)(st:Nat × Nat):QAU (n+1) g st=if(QAU n g st).1≤MXN then g n (QAU n g st) else QAU n g st:=by
 unfold QAU;rw[List.range_succ,List.foldl_append];rfl
theorem QBZ {n:Nat}{g:Nat→Nat × Nat→Nat × Nat}{st:Nat × Nat}:∀{m:Nat},n≤m→¬(QAU n g st).1≤MXN→QAU m g st=QAU n g st:=by
 intro m hm h
 induction hm with
 |refl=>rfl
 |step _ ih=>rw[QAp,ih,if_neg h]
def CellsAt(w:World)(b o:Nat)(X:Array Value):Prop:=∀j v,X[j]?=some v→w.cell? ⟨b,o+j,none⟩=some v
theorem CellsAt.under {w w':World}{b o:Nat}{X:Array Value}(h:CellsAt w b o X)(hb:Below w.heap.size w w'):CellsAt w' b o X:=fun j v hj=>QAA hb (h j v hj)
theorem loop_le(n:Nat)(g:Nat→Nat × Nat→Nat × Nat)(st:Nat × Nat)(h1:st.1≤MXN+1)(h2:st.2≤MXN+1)(B:Nat)(hB:B≤st.1)
  (hg:∀i,i<n→∀s:Nat × Nat,s.1≤MXN→s.2≤MXN+1→B≤s.1→B≤(g i s).1∧(g i s).1≤MXN+1∧(g i s).2≤MXN+1):∀i,i≤n→B≤(QAU i g st).1∧(QAU i g st).1≤MXN+1∧(QAU i g st).2≤MXN+1:=by
 intro i
 induction i with
 |zero=>intro _;exact⟨hB,h1,h2⟩
 |succ i ih=>
  intro hi;obtain⟨k1,k2,k3⟩:=ih (by omega);rw[QAp]
  split
  ·
   rename_i h;exact hg i (by omega) _ h k3 k1
  ·
   exact⟨k1,k2,k3⟩
theorem Ty.meas_le:∀(t:Ty) (deep:Nat) (st:Nat × Nat),st.1≤MXN→deep≤st.1+1→st.2≤MXN+1→st.1+1≤(t.meas deep st).1∧(t.meas deep st).1≤MXN+1∧(t.meas deep st).2≤MXN+1
 | .mk _ _ _ _ n f,deep,st,h1,h2,h3=>by
  have hmax:max st.2 deep≤MXN+1:=by omega
  unfold Ty.meas
  split
  ·
   rename_i h
   exact loop_le n _ _ (by show st.1+1≤MXN+1;omega) hmax (st.1+1) (Nat.le_refl _) (fun i _ s k1 k2 k3=>by
    obtain⟨m1,m2,m3⟩:=Ty.meas_le (f i) (deep+1) s k1 (by omega) k2
    exact⟨by omega,m2,m3⟩) n (Nat.le_refl _)
  ·
   exact⟨Nat.le_refl _,by show st.1+1≤MXN+1;omega,hmax⟩
 | .no,deep,st,h1,h2,h3=>⟨Nat.le_refl _,by show st.1+1≤MXN+1;omega,by show max st.2 deep≤MXN+1;omega⟩
theorem Ty.loop_le(n:Nat)(f:Nat→Ty)(deep:Nat)(st:Nat × Nat)(h:st.1+1≤MXN)(hp:deep≤st.1+1)(h2:st.2≤MXN+1)(i:Nat):
  st.1+1≤(QAU i (fun i st=>(f i).meas (deep+1) st) (st.1+1,max st.2 deep)).1∧(QAU i (fun i st=>(f i).meas (deep+1) st) (st.1+1,max st.2 deep)).1≤MXN+1∧(QAU i (fun i st=>(f i).meas (deep+1) st) (st.1+1,max st.2 deep)).2≤MXN+1:=
 Go.Proofs.YtjnclkakbopnjaaGreatDoor.loop_le i _ _ (by show st.1+1≤MXN+1;omega) (by show max st.2 deep≤MXN+1;omega) (st.1+1) (Nat.le_refl _) (fun i _ s k1 k2 k3=>by
  obtain⟨m1,m2,m3⟩:=Ty.meas_le (f i) (deep+1) s k1 (by omega) k2
  exact⟨by omega,m2,m3⟩) i (Nat.le_refl _)
theorem QIV {W:World}{v:Value}{t:Ty}(h:TyR W v t):∀(w:World) (b n d deep pb po:Nat) (X:Array Value),v= .agg X→CellsAt W pb po X→Below W.heap.size W w→W.heap.size≤b→MB w b n d→n≤MXN→d≤MXN+1→deep≤n+1→
  Calls prog 39 #[.pointer (some ⟨b,0,none⟩),.pointer (some ⟨pb,po,none⟩),.int .i64 (deep:Int)] w fun e w'=>e= .returned (.tuple #[])∧MChg b (t.meas deep (n,d)).1 (t.meas deep (n,d)).2 w w':=by
 induction h with
 |mk k lo h0 s m p c A f hs hm hA h ih=>
  intro w b n d deep pb po X hX hC hW hb hB hn hd hp;injection hX with hX
  subst hX;have hm2:m≤1100000:=hm;have HI:=hd0 ih;have HA:=hd0 hA;have HC:=hd0 hC;have HW:=hd0 hW;have hlt:b<w.heap.size:=hB.lt;have hAT:=QOA b n d deep w hB (by unfold MXN at hn;omega) (by unfold MXN at hd;omega) (by unfold MXN at hn;omega);have HAT:=hd0 hAT;have HM:=hd0 (show(Ty.mk k lo h0 s m f).meas deep (n,d)=if n+1≤MXN then QAU m (fun i st=>(f i).meas (deep+1) st) (n+1,max d deep) else(n+1,max d deep)from rfl);have hW0:=hW.size;clear hAT ih hA hC hW h;go_enter func39,ntmps39
  go_wp2_with fail
  refine HAT.out.mono ?_;rintro e w1 ⟨rfl,h1⟩;have H1:=hd0 h1;clear h1 hB;have hpC:=HC.out.under HW.out;have c4:=hpC 4 _ rfl;clear hpC
  by_cases hfull:n+1≤MXN
  ·
   have g0:decide (n+1≤MXN)=true:=decide_eq_true hfull;go_wp2
   go_loopw [6] (fun v6 wr=>∃i:Nat,i≤m∧v6= .int .i64 i∧Hid (MChg b (QAU i (fun i st=>(f i).meas (deep+1) st) (n+1,max d deep)).1 (QAU i (fun i st=>(f i).meas (deep+1) st) (n+1,max d deep)).2 w wr)) (fun v6 _=>m - (intOf v6).toNat)
   case atStart=>exact⟨0,Nat.zero_le _,rfl,H1⟩
   case round=>
    clear c4;obtain⟨i,hi,rfl,HR⟩:=hrel;have HWr:=hd0 (show Below W.heap.size W wr from HR.out.below HW.out hb hW0);have c4:=(HC.out.under HWr.out) 4 _ rfl;have b0:=HR.out.2.c0;have hbr:=HR.out.2.lt;have hst:=Ty.loop_le m f deep (n,d) (by simpa using hfull) hp hd i;have HS:=hd0 hst;have HL:=hd0 (QAp i (fun i st=>(f i).meas (deep+1) st) (n+1,max d deep));have HQ:=hd0 (fun(h:¬(QAU i (fun i st=>(f i).meas (deep+1) st) (n+1,max d deep)).1≤MXN)=>QBZ (m:=m) hi h);have hfin:(Ty.mk k lo h0 s m f).meas deep (n,d)=QAU m (fun i st=>(f i).meas (deep+1) st) (n+1,max d deep):=by rw[HM.out,if_pos hfull]
    have HFIN:=hd0 hfin;clear hst hfin H1 hn;generalize hsi:QAU i (fun i st=>(f i).meas (deep+1) st) (n+1,max d deep)=si at*;obtain⟨sn,sd⟩:=si;simp only at b0 HR HS HL HQ;have hs1:=HS.out.1;have hs2:=HS.out.2.1;have hs3:=HS.out.2.2
    by_cases hlt:i<m
    ·
     have g1:decide ((i:Int)<m)=true:=decide_eq_true (by omega)
     by_cases hg:sn≤MXN
     ·
      have g2:decide ((sn:Int)≤3000)=true:=decide_eq_true (by unfold MXN at hg;omega);have w2e:IntKind.i64.wrap ((deep:Int)+1)=(deep:Int)+1:=IntWalk.i64_in _ (by unfold MXN at hfull;omega);obtain⟨qb,qo,rfl,hpc⟩:=HA.out.at_ (by omega)
      have hc:=HI.out i hlt wr b sn sd (deep+1) qb (qo+i*5) #[A i 0,A i 1,A i 2,A i 3,A i 4] rfl (by
       intro j u hj;have hj5:j<5:=(Array.getElem?_eq_some_iff.1 hj).1;rw[hpc i hlt j hj5]
       rcases (by omega:j=0∨j=1∨j=2∨j=3∨j=4)with rfl|rfl|rfl|rfl|rfl <;> exact hj) HWr.out hb HR.out.2 hg hs3 (by omega)
      rw[Int.natCast_succ]at hc;have HCC:=hd0 hc;have q0:(0:Int)≤i:=by omega
      have q1:(i:Int)<m:=by omega
      clear hc hpc
      go_wp2_with fail
      refine HCC.out.mono ?_;rintro e w2 ⟨rfl,h2⟩;have H2:=hd0 (HR.out.trans h2);clear h2;have hl:=HL.out;rw[if_pos hg]at hl;have HN:=hd0 (show MChg b (QAU (i+1) (fun i st=>(f i).meas (deep+1) st) (n+1,max d deep)).1 (QAU (i+1) (fun i st=>(f i).meas (deep+1) st) (n+1,max d deep)).2 w w2 from by rw[hl];exact H2.out);clear hl H2;go_wp2;go_roundw
      case rel=>exact⟨i+1,by omega,by go_num,HN⟩
      case measure=>simp[intOf];omega
     ·
      have g2:decide ((sn:Int)≤3000)=false:=decide_eq_false (by unfold MXN at hg;omega);go_wp2;refine bodyPost_end (v:= .tuple #[]) (by simp[results,results39,go_sem]) rfl ⟨rfl,?_⟩;rw[HFIN.out,HQ.out hg];exact HR.out
    ·
     have g1:decide ((i:Int)<m)=false:=decide_eq_false (by omega);have him:i=m:=by omega
     have hfe:(Ty.mk k lo h0 s m f).meas deep (n,d)=(sn,sd):=by rw[HFIN.out,←him];exact hsi
     have HFE:=hd0 hfe;clear hfe;go_wp2;refine bodyPost_end (v:= .tuple #[]) (by simp[results,results39,go_sem]) rfl ⟨rfl,?_⟩;rw[HFE.out];exact HR.out
  ·
   have g0:decide (n+1≤MXN)=false:=decide_eq_false hfull;go_wp2;have hm:=HM.out;rw[if_neg hfull]at hm;refine bodyPost_ret (v:= .tuple #[]) (by simp[results,results39,go_sem]) rfl ⟨rfl,?_⟩;rw[hm];exact H1.out
theorem TyR.cells {w:World}{v:Value}{t:Ty}(h:TyR w v t):∃k lo hi s n p c f,v= .agg #[.int .i64 k,.string s,.int .i64 lo,.int .i64 hi,.slice p n c]∧t= .mk k lo hi s n f∧s.size≤QDP∧n≤QES:=by
 cases h with
 |mk k lo hi s n p c A f hs hn hA h=>exact⟨k,lo,hi,s,n,p,c,f,rfl,rfl,hs,hn⟩
def Ty.some_(t:Ty)(st:Nat × Nat):Nat × Nat:=if t.zero then st else t.meas 1 st
theorem QPJ(k lo hi:Int)(s:ByteArray)(n:Nat)(f:Nat→Ty):(k==0&&QAW s&&lo==0&&hi==0&&((n:Int)==0))=(Ty.mk k lo hi s n f).zero:=by
 unfold Ty.zero;rw[QGH,show((n:Int)==0)=(n==0)from QDV n 0]
theorem QOD {W:World}{X:Array Value}{t:Ty}(h:TyR W (.agg X) t)(w:World)(b n d pb po:Nat)(hC:CellsAt W pb po X)(hW:Below W.heap.size W w)(hb:W.heap.size≤b)(hB:MB w b n d)(hn:n≤MXN)(hd:d≤MXN+1):
  Calls prog 82 #[.pointer (some ⟨b,0,none⟩),.pointer (some ⟨pb,po,none⟩)] w fun e w'=>e= .returned (.tuple #[])∧MChg b (t.some_ (n,d)).1 (t.some_ (n,d)).2 w w':=by
 obtain⟨k,lo,hi,s,m,p,c,f,e,rfl, -, -⟩:=h.cells;injection e with e
 subst e;have HT:=hd0 (fun w1 (hW1:Below W.heap.size W w1) (hB1:MB w1 b n d)=>QIV h w1 b n d 1 pb po _ rfl hC hW1 hb hB1 hn hd (by omega));have HZ:=hd0 (fun w=>QD4 k lo hi s p m c w);have hc:=hC.under hW;have c0:=hc 0 _ rfl;have c1:=hc 1 _ rfl;have c2:=hc 2 _ rfl;have c3:=hc 3 _ rfl;have c4:=hc 4 _ rfl;have HW:=hd0 hW;have HB:=hd0 hB;have hW0:=hW.size;rw[Nat.add_zero]at c0;have HZE:=hd0 (QPJ k lo hi s m f);clear hC hW hB hc h;go_enter func82,ntmps82
 go_wp2_with fail
 refine(HZ.out _).mono ?_;rintro e w1 ⟨rfl,hb1⟩;rw[HZE.out];have HM:=hd0 (show MChg b n d w w1 from MChg.new hb1 HB.out);have HW1:=hd0 (show Below W.heap.size W w1 from HW.out.trans (hb1.mono hW0));clear hb1
 cases hz:(Ty.mk k lo hi s m f).zero with
 |true=>
  have HE:=hd0 (show(Ty.mk k lo hi s m f).some_ (n,d)=(n,d)by unfold Ty.some_;rw[hz];rfl);clear hz;go_wp2;refine bodyPost_end (v:= .tuple #[]) (by simp[results,results82,go_sem]) rfl ⟨rfl,?_⟩;rw[HE.out];exact HM.out
 |false=>
  have HE:=hd0 (show(Ty.mk k lo hi s m f).some_ (n,d)=(Ty.mk k lo hi s m f).meas 1 (n,d)by unfold Ty.some_;rw[hz];rfl);clear hz
  go_wp2_with fail
  refine(HT.out _ HW1.out HM.out.2).mono ?_;rintro e w2 ⟨rfl,h2⟩;have H2:=hd0 (HM.out.trans h2);clear h2;go_wp2;refine bodyPost_end (v:= .tuple #[]) (by simp[results,results82,go_sem]) rfl ⟨rfl,?_⟩;rw[HE.out];exact H2.out
def QCw(n:Nat)(pt:Nat→Ty)(st:Nat × Nat):Nat × Nat:=QAU n (fun i st=>(pt i).meas 1 st) st
theorem QLj(n:Nat)(pt:Nat→Ty)(st:Nat × Nat)(h1:st.1≤MXN+1)(h2:st.2≤MXN+1)(i:Nat)(hi:i≤n):st.1≤(QCw i pt st).1∧(QCw i pt st).1≤MXN+1∧(QCw i pt st).2≤MXN+1:=
 loop_le n _ st h1 h2 st.1 (Nat.le_refl _) (fun i _ s k1 k2 k3=>by
  obtain⟨m1,m2,m3⟩:=Ty.meas_le (pt i) 1 s k1 (by omega) k2
  exact⟨by omega,m2,m3⟩) i hi
theorem QKx {W:World}{m:Nat}{p:Option Addr}{pn:Nat→ByteArray}{pt:Nat→Ty}(h:ParR W m p pn pt)(w:World)(b n d c:Nat)(hW:Below W.heap.size W w)(hb:W.heap.size≤b)(hB:MB w b n d)(hn:n≤MXN+1)(hd:d≤MXN+1):
  Calls prog 83 #[.pointer (some ⟨b,0,none⟩),.slice p m c] w fun e w'=>e= .returned (.tuple #[])∧MChg b (QCw m pt (n,d)).1 (QCw m pt (n,d)).2 w w':=by
 obtain⟨hm,A,hA,hP⟩:=h;have hm2:m≤1100000:=hm;have HA:=hd0 hA;have HP:=hd0 hP;have HW:=hd0 hW;have H1:=hd0 (MChg.refl hB);have hW0:=hW.size;have hlt:b<w.heap.size:=hB.lt;clear hA hP hW hB;go_enter func83,ntmps83;go_wp2
 go_loopw [4] (fun v4 wr=>∃i:Nat,i≤m∧v4= .int .i64 i∧Hid (MChg b (QCw i pt (n,d)).1 (QCw i pt (n,d)).2 w wr)) (fun v4 _=>m - (intOf v4).toNat)
 case atStart=>exact⟨0,Nat.zero_le _,rfl,H1⟩
 case round=>
  obtain⟨i,hi,rfl,HR⟩:=hrel;have HWr:=hd0 (show Below W.heap.size W wr from HR.out.below HW.out hb hW0);have b0:=HR.out.2.c0;have hbr:=HR.out.2.lt;have HS:=hd0 (QLj m pt (n,d) hn hd i hi);have HL:=hd0 (QAp i (fun i st=>(pt i).meas 1 st) (n,d));have HQ:=hd0 (fun(h:¬(QCw i pt (n,d)).1≤MXN)=>(show QCw m pt (n,d)=QCw i pt (n,d)from QBZ (m:=m) hi h));clear H1;generalize hsi:QCw i pt (n,d)=si at*;obtain⟨sn,sd⟩:=si;simp only at b0 HR HS HL HQ;have hs1:=HS.out.1;have hs2:=HS.out.2.1;have hs3:=HS.out.2.2
  by_cases hlt:i<m
  ·
   have g1:decide ((i:Int)<m)=true:=decide_eq_true (by omega)
   by_cases hg:sn≤MXN
   ·
    have g2:decide ((sn:Int)≤3000)=true:=decide_eq_true (by unfold MXN at hg;omega);obtain⟨qb,qo,rfl,hpc⟩:=HA.out.at_ (by omega)
    have hc:=QIV (HP.out i hlt).2.2 wr b sn sd 1 qb (qo+i*6+1) #[A i 1,A i 2,A i 3,A i 4,A i 5] rfl (by
     intro j u hj;have hj5:j<5:=(Array.getElem?_eq_some_iff.1 hj).1;have h1:=hpc i hlt (j+1) (by omega);rw[show qo+i*6+1+j=qo+i*6+(j+1)by omega,h1]
     rcases (by omega:j=0∨j=1∨j=2∨j=3∨j=4)with rfl|rfl|rfl|rfl|rfl <;> exact hj) HWr.out hb HR.out.2 hg hs3 (by omega)
    have HCC:=hd0 hc;have q0:(0:Int)≤i:=by omega
    have q1:(i:Int)<m:=by omega
    clear hc hpc
    go_wp2_with fail
    refine HCC.out.mono ?_;rintro e w2 ⟨rfl,h2⟩;have H2:=hd0 (HR.out.trans h2);clear h2
    have HN:=hd0 (show MChg b (QCw (i+1) pt (n,d)).1 (QCw (i+1) pt (n,d)).2 w w2 from by
     have hl:QCw (i+1) pt (n,d)=if(QCw i pt (n,d)).1≤MXN then(pt i).meas 1 (QCw i pt (n,d)) else QCw i pt (n,d):=QAp i _ _;rw[hsi,if_pos hg]at hl;rw[hl]
     exact H2.out)
    clear H2;go_wp2;go_roundw
    case rel=>exact⟨i+1,by omega,by go_num,HN⟩
    case measure=>simp[intOf];omega
   ·
    have g2:decide ((sn:Int)≤3000)=false:=decide_eq_false (by unfold MXN at hg;omega);go_wp2;refine bodyPost_end (v:= .tuple #[]) (by simp[results,results83,go_sem]) rfl ⟨rfl,?_⟩;rw[HQ.out hg];exact HR.out
  ·
   have g1:decide ((i:Int)<m)=false:=decide_eq_false (by omega);have him:i=m:=by omega
   have HFE:=hd0 (show QCw m pt (n,d)=(sn,sd)by rw[←him];exact hsi);go_wp2;refine bodyPost_end (v:= .tuple #[]) (by simp[results,results83,go_sem]) rfl ⟨rfl,?_⟩;rw[HFE.out];exact HR.out
theorem Ty.some_le(t:Ty)(st:Nat × Nat)(h1:st.1≤MXN)(h2:st.2≤MXN+1):st.1≤(t.some_ st).1∧(t.some_ st).1≤MXN+1∧(t.some_ st).2≤MXN+1:=by
 unfold Ty.some_
 split
 ·
  exact⟨Nat.le_refl _,by omega,h2⟩
 ·
  obtain⟨m1,m2,m3⟩:=Ty.meas_le t 1 st h1 (by omega) h2;exact⟨by omega,m2,m3⟩
def Ex.pre(np:Nat)(pt:Nat→Ty)(ty:Ty)(st:Nat × Nat):Nat × Nat:=QCw np pt (ty.some_ st)
theorem Ex.pre_le(np:Nat)(pt:Nat→Ty)(ty:Ty)(st:Nat × Nat)(h1:st.1≤MXN)(h2:st.2≤MXN+1):st.1≤(Ex.pre np pt ty st).1∧(Ex.pre np pt ty st).1≤MXN+1∧(Ex.pre np pt ty st).2≤MXN+1:=by
 obtain⟨a1,a2,a3⟩:=Ty.some_le ty st h1 h2;obtain⟨b1,b2,b3⟩:=QLj np pt (ty.some_ st) a2 a3 np (Nat.le_refl _);exact⟨Nat.le_trans a1 b1,b2,b3⟩
theorem Ex.meas_mk(k num:Int)(s:ByteArray)(ty:Ty)(np:Nat)(pn:Nat→ByteArray)(pt:Nat→Ty)(nk:Nat)(ks:Nat→ByteArray)(n:Nat)(f:Nat→Ex)(deep:Nat)(st:Nat × Nat):
  (Ex.mk k num s ty np pn pt nk ks n f).meas deep st=if st.1+1≤MXN then QAU n (fun i st=>(f i).meas (deep+1) st) (Ex.pre np pt ty (st.1+1,max st.2 deep)) else(st.1+1,max st.2 deep):=rfl
theorem Ex.meas_le:∀(e:Ex) (deep:Nat) (st:Nat × Nat),st.1≤MXN→deep≤st.1+1→st.2≤MXN+1→st.1+1≤(e.meas deep st).1∧(e.meas deep st).1≤MXN+1∧(e.meas deep st).2≤MXN+1
 | .mk k num s ty np pn pt nk ks n f,deep,st,h1,h2,h3=>by
  have hmax:max st.2 deep≤MXN+1:=by omega
  rw[Ex.meas_mk]
  split
  ·
   rename_i h;obtain⟨p1,p2,p3⟩:=Ex.pre_le np pt ty (st.1+1,max st.2 deep) h hmax
   exact loop_le n _ _ p2 p3 (st.1+1) p1 (fun i _ s k1 k2 k3=>by
    obtain⟨m1,m2,m3⟩:=Ex.meas_le (f i) (deep+1) s k1 (by omega) k2
    exact⟨by omega,m2,m3⟩) n (Nat.le_refl _)
  ·
   exact⟨Nat.le_refl _,by show st.1+1≤MXN+1;omega,hmax⟩
 | .no,deep,st,h1,h2,h3=>⟨Nat.le_refl _,by show st.1+1≤MXN+1;omega,by show max st.2 deep≤MXN+1;omega⟩
theorem Ex.loop_le(n:Nat)(f:Nat→Ex)(deep B:Nat)(st:Nat × Nat)(h:st.1≤MXN+1)(hp:deep≤B)(hB:B≤st.1)(h2:st.2≤MXN+1)(i:Nat):
  B≤(QAU i (fun i st=>(f i).meas (deep+1) st) st).1∧(QAU i (fun i st=>(f i).meas (deep+1) st) st).1≤MXN+1∧(QAU i (fun i st=>(f i).meas (deep+1) st) st).2≤MXN+1:=
 Go.Proofs.YtjnclkakbopnjaaGreatDoor.loop_le i _ _ h h2 B hB (fun i _ s k1 k2 k3=>by
  obtain⟨m1,m2,m3⟩:=Ex.meas_le (f i) (deep+1) s k1 (by omega) k2
  exact⟨by omega,m2,m3⟩) i (Nat.le_refl _)
theorem QJe {W:World}{v:Value}{e:Ex}(h:ExR W v e):∀(w:World) (b n d deep pb po:Nat) (X:Array Value),v= .agg X→CellsAt W pb po X→Below W.heap.size W w→W.heap.size≤b→MB w b n d→n≤MXN→d≤MXN+1→deep≤n+1→
  Calls prog 32 #[.pointer (some ⟨b,0,none⟩),.pointer (some ⟨pb,po,none⟩),.int .i64 (deep:Int)] w fun e' w'=>e'= .returned (.tuple #[])∧MChg b (e.meas deep (n,d)).1 (e.meas deep (n,d)).2 w w':=by
 induction h with
 |mk k num s t0 t1 t2 t3 t4 ty np pp cp pn pt nk pk ck ks m p c A f hs ht hpar hk hm hA h ih=>
  intro w b n d deep pb po X hX hC hW hb hB hn hd hp;injection hX with hX
  subst hX;have hm2:m≤1100000:=hm;have HI:=hd0 ih;have HA:=hd0 hA;have HC:=hd0 hC;have HW:=hd0 hW;have hlt:b<w.heap.size:=hB.lt;have HAT:=hd0 (QOA b n d deep w hB (by unfold MXN at hn;omega) (by unfold MXN at hd;omega) (by unfold MXN at hn;omega));have HM:=hd0 (Ex.meas_mk k num s ty np pn pt nk ks m f deep (n,d));have hW0:=hW.size
  have HTY:=hd0 (fun w1 n d (hW1:Below W.heap.size W w1) (hB1:MB w1 b n d) (hn:n≤MXN) (hd:d≤MXN+1)=>QOD ht w1 b n d pb (po+3) (by
   intro j u hj;have hj5:j<5:=(Array.getElem?_eq_some_iff.1 hj).1;have h1:=hC (j+3) u (by rcases (by omega:j=0∨j=1∨j=2∨j=3∨j=4)with rfl|rfl|rfl|rfl|rfl <;> exact hj);rw[show po+3+j=po+(j+3)by omega]
   exact h1) hW1 hb hB1 hn hd)
  have HPA:=hd0 (fun w1 n d (hW1:Below W.heap.size W w1) (hB1:MB w1 b n d) (hn:n≤MXN+1) (hd:d≤MXN+1)=>QKx hpar w1 b n d cp hW1 hb hB1 hn hd);clear ih hA hC hW h ht hpar hk;go_enter func32,ntmps32
  go_wp2_with fail
  refine HAT.out.mono ?_;rintro e w1 ⟨rfl,h1⟩;have H1:=hd0 h1;have hW1:=hd0 (show Below W.heap.size W w1 from h1.below HW.out hb hW0);clear h1 hB
  by_cases hfull:n+1≤MXN
  ·
   have g0:decide (n+1≤MXN)=true:=decide_eq_true hfull
   go_wp2_with fail
   refine(HTY.out w1 _ _ hW1.out H1.out.2 hfull (by unfold MXN at*;omega)).mono ?_;rintro e w2 ⟨rfl,h2⟩;have H2:=hd0 (H1.out.trans h2);have hW2:=hd0 (show Below W.heap.size W w2 from(H1.out.trans h2).below HW.out hb hW0);have hsl:=Ty.some_le ty (n+1,max d deep) hfull (by show max d deep≤MXN+1;unfold MXN at*;omega);have c8:=(HC.out.under hW2.out) 8 _ rfl;clear h2
   go_wp2_with fail
   refine(HPA.out w2 _ _ hW2.out H2.out.2 hsl.2.1 hsl.2.2).mono ?_;rintro e w3 ⟨rfl,h3⟩;have H3:=hd0 (show MChg b (Ex.pre np pt ty (n+1,max d deep)).1 (Ex.pre np pt ty (n+1,max d deep)).2 w w3 from H2.out.trans h3);have HPL:=hd0 (Ex.pre_le np pt ty (n+1,max d deep) hfull (by show max d deep≤MXN+1;unfold MXN at*;omega));clear h3 hsl c8 HTY HPA H1 H2 hW1 hW2 HAT;go_wp2
   go_loopw [6] (fun v6 wr=>∃i:Nat,i≤m∧v6= .int .i64 i∧Hid (MChg b (QAU i (fun i st=>(f i).meas (deep+1) st) (Ex.pre np pt ty (n+1,max d deep))).1 (QAU i (fun i st=>(f i).meas (deep+1) st) (Ex.pre np pt ty (n+1,max d deep))).2 w wr)) (fun v6 _=>m - (intOf v6).toNat)
   case atStart=>exact⟨0,Nat.zero_le _,rfl,H3⟩
   case round=>
    obtain⟨i,hi,rfl,HR⟩:=hrel;have HWr:=hd0 (show Below W.heap.size W wr from HR.out.below HW.out hb hW0);have c4:=(HC.out.under HWr.out) 10 _ rfl;have b0:=HR.out.2.c0;have hbr:=HR.out.2.lt;have HS:=hd0 (Ex.loop_le m f deep (n+1) (Ex.pre np pt ty (n+1,max d deep)) HPL.out.2.1 hp HPL.out.1 HPL.out.2.2 i);have HL:=hd0 (QAp i (fun i st=>(f i).meas (deep+1) st) (Ex.pre np pt ty (n+1,max d deep)));have HQ:=hd0 (fun(h:¬(QAU i (fun i st=>(f i).meas (deep+1) st) (Ex.pre np pt ty (n+1,max d deep))).1≤MXN)=>QBZ (m:=m) hi h);have hfin:(Ex.mk k num s ty np pn pt nk ks m f).meas deep (n,d)=QAU m (fun i st=>(f i).meas (deep+1) st) (Ex.pre np pt ty (n+1,max d deep)):=by rw[HM.out,if_pos hfull]
    have HFIN:=hd0 hfin;clear hfin H3 hn;generalize hsi:QAU i (fun i st=>(f i).meas (deep+1) st) (Ex.pre np pt ty (n+1,max d deep))=si at*;obtain⟨sn,sd⟩:=si;simp only at b0 HR HS HL HQ;have hs1:=HS.out.1;have hs2:=HS.out.2.1;have hs3:=HS.out.2.2
    by_cases hlt:i<m
    ·
     have g1:decide ((i:Int)<m)=true:=decide_eq_true (by omega)
     by_cases hg:sn≤MXN
     ·
      have g2:decide ((sn:Int)≤3000)=true:=decide_eq_true (by unfold MXN at hg;omega);have w2e:IntKind.i64.wrap ((deep:Int)+1)=(deep:Int)+1:=IntWalk.i64_in _ (by unfold MXN at hfull;omega);obtain⟨qb,qo,rfl,hpc⟩:=HA.out.at_ (by omega)
      have hc:=HI.out i hlt wr b sn sd (deep+1) qb (qo+i*11) #[A i 0,A i 1,A i 2,A i 3,A i 4,A i 5,A i 6,A i 7,A i 8,A i 9,A i 10] rfl (by
       intro j u hj;have hj5:j<11:=(Array.getElem?_eq_some_iff.1 hj).1;rw[hpc i hlt j hj5]
       rcases (by omega:j=0∨j=1∨j=2∨j=3∨j=4∨j=5∨j=6∨j=7∨j=8∨j=9∨j=10)with rfl|rfl|rfl|rfl|rfl|rfl|rfl|rfl|rfl|rfl|rfl <;> exact hj) HWr.out hb HR.out.2 hg hs3 (by omega)
      rw[Int.natCast_succ]at hc;have HCC:=hd0 hc;have q0:(0:Int)≤i:=by omega
      have q1:(i:Int)<m:=by omega
      clear hc hpc
      go_wp2_with fail
      refine HCC.out.mono ?_;rintro e w2 ⟨rfl,h2⟩;have H2:=hd0 (HR.out.trans h2);clear h2;have hl:=HL.out;rw[if_pos hg]at hl;have HN:=hd0 (show MChg b (QAU (i+1) (fun i st=>(f i).meas (deep+1) st) (Ex.pre np pt ty (n+1,max d deep))).1 (QAU (i+1) (fun i st=>(f i).meas (deep+1) st) (Ex.pre np pt ty (n+1,max d deep))).2 w w2 from by rw[hl];exact H2.out);clear hl H2;go_wp2;go_roundw
      case rel=>exact⟨i+1,by omega,by go_num,HN⟩
      case measure=>simp[intOf];omega
     ·
      have g2:decide ((sn:Int)≤3000)=false:=decide_eq_false (by unfold MXN at hg;omega);go_wp2;refine bodyPost_end (v:= .tuple #[]) (by simp[results,results32,go_sem]) rfl ⟨rfl,?_⟩;rw[HFIN.out,HQ.out hg];exact HR.out
    ·
     have g1:decide ((i:Int)<m)=false:=decide_eq_false (by omega);have him:i=m:=by omega
     have hfe:(Ex.mk k num s ty np pn pt nk ks m f).meas deep (n,d)=(sn,sd):=by rw[HFIN.out,←him];exact hsi
     have HFE:=hd0 hfe;clear hfe;go_wp2;refine bodyPost_end (v:= .tuple #[]) (by simp[results,results32,go_sem]) rfl ⟨rfl,?_⟩;rw[HFE.out];exact HR.out
  ·
   have g0:decide (n+1≤MXN)=false:=decide_eq_false hfull;go_wp2;have hm:=HM.out;rw[if_neg hfull]at hm;refine bodyPost_ret (v:= .tuple #[]) (by simp[results,results32,go_sem]) rfl ⟨rfl,?_⟩;rw[hm];exact H1.out
theorem QBU {P:Program}{oi:Oper}{a:Act}{K:Act→World→Prop}{Q:Exit→Act→World→Prop}{g:FuncId}{fn:Func}{args:Array Value}{w:World}(hf:P.funcs[g]?=some fn)(hname:(fn.name== "runtime.NumGoroutine")=false)(hb:fn.body.isSome=true)
  (h:Oper.upon P oi a K Q (.ok (.enter g args) w)):Oper.upon P oi a K Q ((callFunc g args).run P w):=by
 rw[Go.Proofs.YtjnclkakbopnjaaGreatDoorW.PrintLast.enters_ hf hname hb args w];exact h
def QQ3(g:FuncId):Prop:=∃fn,prog.funcs[g]?=some fn∧(fn.name== "runtime.NumGoroutine")=false∧fn.body.isSome=true
def TestBy(W:World)(n:Nat)(el:Nat→Value)(g:FuncId)(cap:Array Value)(q:Nat→Bool):Prop:=
 QQ3 g∧∀i,i<n→∀w,Below W.heap.size W w→Calls prog g (#[el i]++cap) w fun e w'=>e= .returned (.bool (q i))∧Below w.heap.size w w'
theorem TestBy.under {W W':World}{n:Nat}{el:Nat→Value}{g:FuncId}{cap:Array Value}{q:Nat→Bool}(h:TestBy W n el g cap q)(hb:Below W.heap.size W W'):TestBy W' n el g cap q:=
 ⟨h.1,fun i hi w hw=>h.2 i hi w (hb.trans (hw.mono hb.size))⟩
theorem QEV(n:Nat)(q:Nat→Bool):(List.range (n+1)).any q=((List.range n).any q||q n):=by rw[List.range_succ,List.any_append];simp
theorem QIx {n i:Nat}{q:Nat→Bool}(hi:i<n)(h:q i=true):(List.range n).any q=true:=List.any_eq_true.2 ⟨i,List.mem_range.2 hi,h⟩
theorem QEB(n:Nat)(q:Nat→Bool):(!(List.range n).any fun i=>!q i)=(List.range n).all q:=by
 rw[Bool.eq_iff_iff];simp
theorem QKh {W:World}{n:Nat}{p:Option Addr}{A:Nat→Nat→Value}(hn:n≤1100000)(hA:Row W 5 p n A){g:FuncId}{cap:Array Value}{q:Nat→Bool}(hT:TestBy W n (fun i=> .agg #[A i 0,A i 1,A i 2,A i 3,A i 4]) g cap q)(w:World)(hW:Below W.heap.size W w)(c:Nat):
  Calls prog 216 #[.slice p n c,.func (.func g) #[] cap] w fun e w'=>∃r:Int,e= .returned (.int .i64 r)∧decide (0≤r)=(List.range n).any q∧Below w.heap.size w w':=by
 have HA:=hd0 hA;have HT:=hd0 hT.2;obtain⟨fn,hf,hname,hbody⟩:=hT.1;have HF:=hd0 (And.intro hf (And.intro hname hbody));have HW:=hd0 hW;have hW0:=hW.size;clear hA hT hf hname hbody hW;go_enter func216,ntmps216;go_wp2
 go_loopw [8] (fun v8 wr=>∃i:Nat,i≤n∧v8= .int .i64 i∧Hid (Below w.heap.size w wr∧(List.range i).any q=false)) (fun v8 _=>n - (intOf v8).toNat)
 case atStart=>exact⟨0,Nat.zero_le _,rfl,hd0 ⟨Below.refl _ _,rfl⟩⟩
 case round=>
  obtain⟨i,hi,rfl,HR⟩:=hrel
  by_cases hlt:i<n
  ·
   have g1:decide ((i:Int)<n)=true:=decide_eq_true (by omega);have HWr:=hd0 (show Below W.heap.size W wr from HW.out.trans (HR.out.1.mono hW0));obtain⟨qb,qo,rfl,hpc⟩:=(HA.out.below HWr.out).at_ (by omega);have e0:=hpc i hlt 0 (by decide);have e1:=hpc i hlt 1 (by decide);have e2:=hpc i hlt 2 (by decide);have e3:=hpc i hlt 3 (by decide);have e4:=hpc i hlt 4 (by decide);clear hpc;simp only[Nat.add_zero]at e0;have q0:(0:Int)≤i:=by omega
   have q1:(i:Int)<n:=by omega
   cases hq:q i with
   |true=>
    have HQ:=hd0 hq;clear hq
    go_wp2_with fail
    refine QBU HF.out.1 HF.out.2.1 HF.out.2.2 ?_;rw[Oper.upon_enter];refine(HT.out i hlt wr HWr.out).mono ?_;rintro e w2 ⟨rfl,hb2⟩;rw[HQ.out];have HB2:=hd0 (show Below w.heap.size w w2 from HR.out.1.trans (hb2.mono HR.out.1.size));clear hb2;go_wp2;go_ret;exact⟨(i:Int),rfl,by rw[QIx hlt HQ.out];exact decide_eq_true (by omega),HB2.out⟩
   |false=>
    have HQ:=hd0 hq;clear hq
    go_wp2_with fail
    refine QBU HF.out.1 HF.out.2.1 HF.out.2.2 ?_;rw[Oper.upon_enter];refine(HT.out i hlt wr HWr.out).mono ?_;rintro e w2 ⟨rfl,hb2⟩;rw[HQ.out];have HB2:=hd0 (show Below w.heap.size w w2∧(List.range (i+1)).any q=false from⟨HR.out.1.trans (hb2.mono HR.out.1.size),by rw[QEV,HR.out.2,HQ.out];rfl⟩);clear hb2;go_wp2;go_roundw
    case rel=>exact⟨i+1,by omega,by go_num,HB2⟩
    case measure=>simp[intOf];omega
  ·
   have g1:decide ((i:Int)<n)=false:=decide_eq_false (by omega);obtain rfl:i=n:=by omega
   go_wp2;go_ret;exact⟨-1,rfl,HR.out.2.symm,HR.out.1⟩
theorem QG1 {W:World}{n:Nat}{p:Option Addr}{A:Nat→Nat→Value}(hn:n≤1100000)(hA:Row W 5 p n A){g:FuncId}{cap:Array Value}{q:Nat→Bool}(hT:TestBy W n (fun i=> .agg #[A i 0,A i 1,A i 2,A i 3,A i 4]) g cap q)(w:World)(hW:Below W.heap.size W w)(c:Nat):
  Calls prog 167 #[.slice p n c,.func (.func g) #[] cap] w fun e w'=>e= .returned (.bool ((List.range n).any q))∧Below w.heap.size w w':=by
 have HI:=hd0 (QKh hn hA hT w hW c);clear hA hT hW;go_enter func167,ntmps167
 go_wp2_with fail
 refine HI.out.mono ?_;rintro e w1 ⟨r,rfl,hr,hb⟩;have HR:=hd0 (And.intro hr hb);clear hr hb;go_wp2;go_ret;exact⟨by rw[←HR.out.1];rfl,HR.out.2⟩
theorem QJL(x0 x1 x2 x3 x4:Value)(b:Nat){g:FuncId}{cap:Array Value}{r:Bool}(w:World)(hf:QQ3 g)(hb:w.cell? ⟨b,0,none⟩=some (.func (.func g) #[] cap))(hc:∀w',Below w.heap.size w w'→Calls prog g (#[.agg #[x0,x1,x2,x3,x4]]++cap) w' fun e w''=>e= .returned (.bool r)∧Below w'.heap.size w' w''):
  Calls prog 168 #[.agg #[x0,x1,x2,x3,x4],.pointer (some ⟨b,0,none⟩)] w fun e w'=>e= .returned (.bool (!r))∧Below w.heap.size w w':=by
 obtain⟨fn,hf,hname,hbody⟩:=hf;have HF:=hd0 (And.intro hf (And.intro hname hbody));have HC:=hd0 hc;have lt:b<w.heap.size:=World.block_lt_of_cell? w _ hb;clear hf hname hbody hc;go_enter func168,ntmps168
 go_wp2_with fail
 refine QBU HF.out.1 HF.out.2.1 HF.out.2.2 ?_;rw[Oper.upon_enter];refine(HC.out _ ((Below.refl _ _).alloc (Nat.le_refl _) _)).mono ?_;rintro e w1 ⟨rfl,hb1⟩;have HB1:=hd0 (show Below w.heap.size w w1 from((Below.refl _ _).alloc (Nat.le_refl _) _).trans (hb1.mono (by simp)));clear hb1;go_wp2;go_ret;exact⟨rfl,HB1.out⟩
theorem QKc {W:World}{n:Nat}{p:Option Addr}{A:Nat→Nat→Value}(hn:n≤1100000)(hA:Row W 5 p n A){g:FuncId}{cap:Array Value}{q:Nat→Bool}(hT:TestBy W n (fun i=> .agg #[A i 0,A i 1,A i 2,A i 3,A i 4]) g cap q)(w:World)(hW:Below W.heap.size W w)(c:Nat):
  Calls prog 89 #[.slice p n c,.func (.func g) #[] cap] w fun e w'=>e= .returned (.bool ((List.range n).all q))∧Below w.heap.size w w':=by
 have hb1:Below w.heap.size w (w.alloc (.cells #[.func (.func g) #[] cap] 74)):=(Below.refl _ _).alloc (Nat.le_refl _) _
 have hT1:TestBy (w.alloc (.cells #[.func (.func g) #[] cap] 74)) n (fun i=> .agg #[A i 0,A i 1,A i 2,A i 3,A i 4]) 168 #[.pointer (some ⟨w.heap.size,0,none⟩)] (fun i=>!q i):=
  ⟨⟨_,func168,by kernel_rfl,by kernel_rfl⟩,fun i hi w' hw'=>QJL (A i 0) (A i 1) (A i 2) (A i 3) (A i 4) w.heap.size w' hT.1 (QAA hw' (by simp[go_sem])) (fun w2 hw2=>hT.2 i hi w2 (hW.trans ((hb1.trans ((hw'.trans (hw2.mono hw'.size)).mono hb1.size)).mono hW.size)))⟩
 have hA1:=hA.below (hW.trans (hb1.mono hW.size));have HI:=hd0 (QG1 hn hA1 hT1 (w.alloc (.cells #[.func (.func g) #[] cap] 74)) (Below.refl _ _) c);have HB1:=hd0 hb1;have hmf:∀(fn:Fn) (first cap:Array Value) (w:World),(Instr.makeFunc fn first cap).run prog w= .ok (.func fn first cap) w:=fun _ _ _ _=>rfl
 clear hA hT hW hT1 hA1 hb1;go_enter func89,ntmps89
 go_wp2_with fail
 refine HI.out.mono ?_;rintro e w1 ⟨rfl,hb⟩;rw[show(List.range n).any (fun i=>!q i)= !(List.range n).all q from by rw[←QEB,Bool.not_not]];have HR:=hd0 (HB1.out.trans (hb.mono HB1.out.size));clear hb;generalize hr:(List.range n).all q=r;have HRR:=hd0 hr;clear hr;go_wp2;go_ret;exact⟨by rw[HRR.out];simp,HR.out⟩
theorem QJV {W:World}{n:Nat}{p:Option Addr}{A:Nat→Nat→Value}(hn:n≤1100000)(hA:Row W 1 p n A){g:FuncId}{cap:Array Value}{q:Nat→Bool}(hT:TestBy W n (fun i=>A i 0) g cap q)(w:World)(hW:Below W.heap.size W w)(c:Nat):
  Calls prog 231 #[.slice p n c,.func (.func g) #[] cap] w fun e w'=>∃r:Int,e= .returned (.int .i64 r)∧decide (0≤r)=(List.range n).any q∧Below w.heap.size w w':=by
 have HA:=hd0 hA;have HT:=hd0 hT.2;obtain⟨fn,hf,hname,hbody⟩:=hT.1;have HF:=hd0 (And.intro hf (And.intro hname hbody));have HW:=hd0 hW;have hW0:=hW.size;clear hA hT hf hname hbody hW;go_enter func231,ntmps231;go_wp2
 go_loopw [8] (fun v8 wr=>∃i:Nat,i≤n∧v8= .int .i64 i∧Hid (Below w.heap.size w wr∧(List.range i).any q=false)) (fun v8 _=>n - (intOf v8).toNat)
 case atStart=>exact⟨0,Nat.zero_le _,rfl,hd0 ⟨Below.refl _ _,rfl⟩⟩
 case round=>
  obtain⟨i,hi,rfl,HR⟩:=hrel
  by_cases hlt:i<n
  ·
   have g1:decide ((i:Int)<n)=true:=decide_eq_true (by omega);have HWr:=hd0 (show Below W.heap.size W wr from HW.out.trans (HR.out.1.mono hW0));obtain⟨qb,qo,rfl,hpc⟩:=(HA.out.below HWr.out).at_ (by omega);have e0:=hpc i hlt 0 (by decide);clear hpc;simp only[Nat.add_zero]at e0;simp only[Nat.mul_one]at e0;have q0:(0:Int)≤i:=by omega
   have q1:(i:Int)<n:=by omega
   cases hq:q i with
   |true=>
    have HQ:=hd0 hq;clear hq
    go_wp2_with fail
    refine QBU HF.out.1 HF.out.2.1 HF.out.2.2 ?_;rw[Oper.upon_enter];refine(HT.out i hlt wr HWr.out).mono ?_;rintro e w2 ⟨rfl,hb2⟩;rw[HQ.out];have HB2:=hd0 (show Below w.heap.size w w2 from HR.out.1.trans (hb2.mono HR.out.1.size));clear hb2;go_wp2;go_ret;exact⟨(i:Int),rfl,by rw[QIx hlt HQ.out];exact decide_eq_true (by omega),HB2.out⟩
   |false=>
    have HQ:=hd0 hq;clear hq
    go_wp2_with fail
    refine QBU HF.out.1 HF.out.2.1 HF.out.2.2 ?_;rw[Oper.upon_enter];refine(HT.out i hlt wr HWr.out).mono ?_;rintro e w2 ⟨rfl,hb2⟩;rw[HQ.out];have HB2:=hd0 (show Below w.heap.size w w2∧(List.range (i+1)).any q=false from⟨HR.out.1.trans (hb2.mono HR.out.1.size),by rw[QEV,HR.out.2,HQ.out];rfl⟩);clear hb2;go_wp2;go_roundw
    case rel=>exact⟨i+1,by omega,by go_num,HB2⟩
    case measure=>simp[intOf];omega
  ·
   have g1:decide ((i:Int)<n)=false:=decide_eq_false (by omega);obtain rfl:i=n:=by omega
   go_wp2;go_ret;exact⟨-1,rfl,HR.out.2.symm,HR.out.1⟩
theorem QGD {W:World}{n:Nat}{p:Option Addr}{A:Nat→Nat→Value}(hn:n≤1100000)(hA:Row W 1 p n A){g:FuncId}{cap:Array Value}{q:Nat→Bool}(hT:TestBy W n (fun i=>A i 0) g cap q)(w:World)(hW:Below W.heap.size W w)(c:Nat):
  Calls prog 179 #[.slice p n c,.func (.func g) #[] cap] w fun e w'=>e= .returned (.bool ((List.range n).any q))∧Below w.heap.size w w':=by
 have HI:=hd0 (QJV hn hA hT w hW c);clear hA hT hW;go_enter func179,ntmps179
 go_wp2_with fail
 refine HI.out.mono ?_;rintro e w1 ⟨r,rfl,hr,hb⟩;have HR:=hd0 (And.intro hr hb);clear hr hb;go_wp2;go_ret;exact⟨by rw[←HR.out.1];rfl,HR.out.2⟩
theorem QIC(x0:Value)(b:Nat){g:FuncId}{cap:Array Value}{r:Bool}(w:World)(hf:QQ3 g)(hb:w.cell? ⟨b,0,none⟩=some (.func (.func g) #[] cap))(hc:∀w',Below w.heap.size w w'→Calls prog g (#[x0]++cap) w' fun e w''=>e= .returned (.bool r)∧Below w'.heap.size w' w''):
  Calls prog 180 #[x0,.pointer (some ⟨b,0,none⟩)] w fun e w'=>e= .returned (.bool (!r))∧Below w.heap.size w w':=by
 obtain⟨fn,hf,hname,hbody⟩:=hf;have HF:=hd0 (And.intro hf (And.intro hname hbody));have HC:=hd0 hc;have lt:b<w.heap.size:=World.block_lt_of_cell? w _ hb;clear hf hname hbody hc;go_enter func180,ntmps180
 go_wp2_with fail
 refine QBU HF.out.1 HF.out.2.1 HF.out.2.2 ?_;rw[Oper.upon_enter];refine(HC.out _ (Below.refl _ _)).mono ?_;rintro e w1 ⟨rfl,hb1⟩;have HB1:=hd0 (show Below w.heap.size w w1 from hb1);clear hb1;go_wp2;go_ret;exact⟨rfl,HB1.out⟩
theorem QJK {W:World}{n:Nat}{p:Option Addr}{A:Nat→Nat→Value}(hn:n≤1100000)(hA:Row W 1 p n A){g:FuncId}{cap:Array Value}{q:Nat→Bool}(hT:TestBy W n (fun i=>A i 0) g cap q)(w:World)(hW:Below W.heap.size W w)(c:Nat):
  Calls prog 116 #[.slice p n c,.func (.func g) #[] cap] w fun e w'=>e= .returned (.bool ((List.range n).all q))∧Below w.heap.size w w':=by
 have hb1:Below w.heap.size w (w.alloc (.cells #[.func (.func g) #[] cap] 37)):=(Below.refl _ _).alloc (Nat.le_refl _) _
 have hT1:TestBy (w.alloc (.cells #[.func (.func g) #[] cap] 37)) n (fun i=>A i 0) 180 #[.pointer (some ⟨w.heap.size,0,none⟩)] (fun i=>!q i):=
  ⟨⟨_,func180,by kernel_rfl,by kernel_rfl⟩,fun i hi w' hw'=>QIC (A i 0) w.heap.size w' hT.1 (QAA hw' (by simp[go_sem])) (fun w2 hw2=>hT.2 i hi w2 (hW.trans ((hb1.trans ((hw'.trans (hw2.mono hw'.size)).mono hb1.size)).mono hW.size)))⟩
 have hA1:=hA.below (hW.trans (hb1.mono hW.size));have HI:=hd0 (QGD hn hA1 hT1 (w.alloc (.cells #[.func (.func g) #[] cap] 37)) (Below.refl _ _) c);have HB1:=hd0 hb1;have hmf:∀(fn:Fn) (first cap:Array Value) (w:World),(Instr.makeFunc fn first cap).run prog w= .ok (.func fn first cap) w:=fun _ _ _ _=>rfl
 clear hA hT hW hT1 hA1 hb1;go_enter func116,ntmps116
 go_wp2_with fail
 refine HI.out.mono ?_;rintro e w1 ⟨rfl,hb⟩;rw[show(List.range n).any (fun i=>!q i)= !(List.range n).all q from by rw[←QEB,Bool.not_not]];have HR:=hd0 (HB1.out.trans (hb.mono HB1.out.size));clear hb;generalize hr:(List.range n).all q=r;have HRR:=hd0 hr;clear hr;go_wp2;go_ret;exact⟨by rw[HRR.out];simp,HR.out⟩
theorem QJU {W:World}{n:Nat}{p:Option Addr}{A:Nat→Nat→Value}(hn:n≤1100000)(hA:Row W 6 p n A){g:FuncId}{cap:Array Value}{q:Nat→Bool}(hT:TestBy W n (fun i=> .agg #[A i 0,A i 1,A i 2,A i 3,A i 4,A i 5]) g cap q)(w:World)(hW:Below W.heap.size W w)(c:Nat):
  Calls prog 298 #[.slice p n c,.func (.func g) #[] cap] w fun e w'=>∃r:Int,e= .returned (.int .i64 r)∧decide (0≤r)=(List.range n).any q∧Below w.heap.size w w':=by
 have HA:=hd0 hA;have HT:=hd0 hT.2;obtain⟨fn,hf,hname,hbody⟩:=hT.1;have HF:=hd0 (And.intro hf (And.intro hname hbody));have HW:=hd0 hW;have hW0:=hW.size;clear hA hT hf hname hbody hW;go_enter func298,ntmps298;go_wp2
 go_loopw [8] (fun v8 wr=>∃i:Nat,i≤n∧v8= .int .i64 i∧Hid (Below w.heap.size w wr∧(List.range i).any q=false)) (fun v8 _=>n - (intOf v8).toNat)
 case atStart=>exact⟨0,Nat.zero_le _,rfl,hd0 ⟨Below.refl _ _,rfl⟩⟩
 case round=>
  obtain⟨i,hi,rfl,HR⟩:=hrel
  by_cases hlt:i<n
  ·
   have g1:decide ((i:Int)<n)=true:=decide_eq_true (by omega);have HWr:=hd0 (show Below W.heap.size W wr from HW.out.trans (HR.out.1.mono hW0));obtain⟨qb,qo,rfl,hpc⟩:=(HA.out.below HWr.out).at_ (by omega);have e0:=hpc i hlt 0 (by decide);have e1:=hpc i hlt 1 (by decide);have e2:=hpc i hlt 2 (by decide);have e3:=hpc i hlt 3 (by decide);have e4:=hpc i hlt 4 (by decide);have e5:=hpc i hlt 5 (by decide);clear hpc;simp only[Nat.add_zero]at e0;have q0:(0:Int)≤i:=by omega
   have q1:(i:Int)<n:=by omega
   cases hq:q i with
   |true=>
    have HQ:=hd0 hq;clear hq
    go_wp2_with fail
    refine QBU HF.out.1 HF.out.2.1 HF.out.2.2 ?_;rw[Oper.upon_enter];refine(HT.out i hlt wr HWr.out).mono ?_;rintro e w2 ⟨rfl,hb2⟩;rw[HQ.out];have HB2:=hd0 (show Below w.heap.size w w2 from HR.out.1.trans (hb2.mono HR.out.1.size));clear hb2;go_wp2;go_ret;exact⟨(i:Int),rfl,by rw[QIx hlt HQ.out];exact decide_eq_true (by omega),HB2.out⟩
   |false=>
    have HQ:=hd0 hq;clear hq
    go_wp2_with fail
    refine QBU HF.out.1 HF.out.2.1 HF.out.2.2 ?_;rw[Oper.upon_enter];refine(HT.out i hlt wr HWr.out).mono ?_;rintro e w2 ⟨rfl,hb2⟩;rw[HQ.out];have HB2:=hd0 (show Below w.heap.size w w2∧(List.range (i+1)).any q=false from⟨HR.out.1.trans (hb2.mono HR.out.1.size),by rw[QEV,HR.out.2,HQ.out];rfl⟩);clear hb2;go_wp2;go_roundw
    case rel=>exact⟨i+1,by omega,by go_num,HB2⟩
    case measure=>simp[intOf];omega
  ·
   have g1:decide ((i:Int)<n)=false:=decide_eq_false (by omega);obtain rfl:i=n:=by omega
   go_wp2;go_ret;exact⟨-1,rfl,HR.out.2.symm,HR.out.1⟩
theorem QGC {W:World}{n:Nat}{p:Option Addr}{A:Nat→Nat→Value}(hn:n≤1100000)(hA:Row W 6 p n A){g:FuncId}{cap:Array Value}{q:Nat→Bool}(hT:TestBy W n (fun i=> .agg #[A i 0,A i 1,A i 2,A i 3,A i 4,A i 5]) g cap q)(w:World)(hW:Below W.heap.size W w)(c:Nat):
  Calls prog 257 #[.slice p n c,.func (.func g) #[] cap] w fun e w'=>e= .returned (.bool ((List.range n).any q))∧Below w.heap.size w w':=by
 have HI:=hd0 (QJU hn hA hT w hW c);clear hA hT hW;go_enter func257,ntmps257
 go_wp2_with fail
 refine HI.out.mono ?_;rintro e w1 ⟨r,rfl,hr,hb⟩;have HR:=hd0 (And.intro hr hb);clear hr hb;go_wp2;go_ret;exact⟨by rw[←HR.out.1];rfl,HR.out.2⟩
theorem QIB (x0 x1 x2 x3 x4 x5:Value)(b:Nat){g:FuncId}{cap:Array Value}{r:Bool}(w:World)(hf:QQ3 g)(hb:w.cell? ⟨b,0,none⟩=some (.func (.func g) #[] cap))(hc:∀w',Below w.heap.size w w'→Calls prog g (#[.agg #[x0,x1,x2,x3,x4,x5]]++cap) w' fun e w''=>e= .returned (.bool r)∧Below w'.heap.size w' w''):
  Calls prog 258 #[.agg #[x0,x1,x2,x3,x4,x5],.pointer (some ⟨b,0,none⟩)] w fun e w'=>e= .returned (.bool (!r))∧Below w.heap.size w w':=by
 obtain⟨fn,hf,hname,hbody⟩:=hf;have HF:=hd0 (And.intro hf (And.intro hname hbody));have HC:=hd0 hc;have lt:b<w.heap.size:=World.block_lt_of_cell? w _ hb;clear hf hname hbody hc;go_enter func258,ntmps258
 go_wp2_with fail
 refine QBU HF.out.1 HF.out.2.1 HF.out.2.2 ?_;rw[Oper.upon_enter];refine(HC.out _ ((Below.refl _ _).alloc (Nat.le_refl _) _)).mono ?_;rintro e w1 ⟨rfl,hb1⟩;have HB1:=hd0 (show Below w.heap.size w w1 from((Below.refl _ _).alloc (Nat.le_refl _) _).trans (hb1.mono (by simp)));clear hb1;go_wp2;go_ret;exact⟨rfl,HB1.out⟩
theorem QJJ {W:World}{n:Nat}{p:Option Addr}{A:Nat→Nat→Value}(hn:n≤1100000)(hA:Row W 6 p n A){g:FuncId}{cap:Array Value}{q:Nat→Bool}(hT:TestBy W n (fun i=> .agg #[A i 0,A i 1,A i 2,A i 3,A i 4,A i 5]) g cap q)(w:World)(hW:Below W.heap.size W w)(c:Nat):
  Calls prog 214 #[.slice p n c,.func (.func g) #[] cap] w fun e w'=>e= .returned (.bool ((List.range n).all q))∧Below w.heap.size w w':=by
 have hb1:Below w.heap.size w (w.alloc (.cells #[.func (.func g) #[] cap] 257)):=(Below.refl _ _).alloc (Nat.le_refl _) _
 have hT1:TestBy (w.alloc (.cells #[.func (.func g) #[] cap] 257)) n (fun i=> .agg #[A i 0,A i 1,A i 2,A i 3,A i 4,A i 5]) 258 #[.pointer (some ⟨w.heap.size,0,none⟩)] (fun i=>!q i):=
  ⟨⟨_,func258,by kernel_rfl,by kernel_rfl⟩,fun i hi w' hw'=>QIB (A i 0) (A i 1) (A i 2) (A i 3) (A i 4) (A i 5) w.heap.size w' hT.1 (QAA hw' (by simp[go_sem])) (fun w2 hw2=>hT.2 i hi w2 (hW.trans ((hb1.trans ((hw'.trans (hw2.mono hw'.size)).mono hb1.size)).mono hW.size)))⟩
 have hA1:=hA.below (hW.trans (hb1.mono hW.size));have HI:=hd0 (QGC hn hA1 hT1 (w.alloc (.cells #[.func (.func g) #[] cap] 257)) (Below.refl _ _) c);have HB1:=hd0 hb1;have hmf:∀(fn:Fn) (first cap:Array Value) (w:World),(Instr.makeFunc fn first cap).run prog w= .ok (.func fn first cap) w:=fun _ _ _ _=>rfl
 clear hA hT hW hT1 hA1 hb1;go_enter func214,ntmps214
 go_wp2_with fail
 refine HI.out.mono ?_;rintro e w1 ⟨rfl,hb⟩;rw[show(List.range n).any (fun i=>!q i)= !(List.range n).all q from by rw[←QEB,Bool.not_not]];have HR:=hd0 (HB1.out.trans (hb.mono HB1.out.size));clear hb;generalize hr:(List.range n).all q=r;have HRR:=hd0 hr;clear hr;go_wp2;go_ret;exact⟨by rw[HRR.out];simp,HR.out⟩
end Go.Proofs.YtjnclkakbopnjaaGreatDoor
