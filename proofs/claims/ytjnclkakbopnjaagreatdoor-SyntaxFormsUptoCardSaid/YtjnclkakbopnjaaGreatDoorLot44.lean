/- XAlpA, XAlpB, XAlpC, XAlpD, XAlpE, XAlpF -/
import Derived.Test.YtjnclkakbopnjaaGreatDoorLot43
import Derived.Deep.LoopGhost
import Derived.Laws.OwnMore
set_option linter.unusedSimpArgs false
set_option linter.unusedVariables false
set_option maxRecDepth 100000
set_option maxHeartbeats 8000000
namespace Go.Proofs.YtjnclkakbopnjaaGreatDoor
open Go.Proofs.Tryz
open Go.RowKit
def QPC(n:Nat)(ks:Nat→ByteArray)(m:Nat)(ls:Nat→ByteArray):Bool:=((n:Int)==(m:Int))&&(List.range n).all fun i=>(ks i).toList==(ls i).toList
abbrev Bnd:=List (ByteArray × ByteArray)
inductive Chain (w:World):Option Addr→Bnd→Prop
 |nil:Chain w none []
 |cons (b:Nat) (x y:ByteArray) (p:Option Addr) (l:Bnd) (hb:BoxAt w b #[.string x,.string y,.pointer p]) (h:Chain w p l):Chain w (some ⟨b,0,none⟩) ((x,y)::l)
theorem Chain.under {w w':World}{p:Option Addr}{l:Bnd}(h:Chain w p l)(hb:Below w.heap.size w w'):Chain w' p l:=by
 induction h with
 |nil=>exact .nil
 |cons b x y p l hx _ ih=>exact .cons b x y p l (fun j v hj=>QAA hb (hx j v hj)) ih
theorem QPT {n i:Nat}{q:Nat→Bool}(hi:i≤n)(h:(List.range i).all q=false):(List.range n).all q=false:=by
 obtain⟨j,hj,hq⟩:=List.all_eq_false.1 h;exact List.all_eq_false.2 ⟨j,List.mem_range.2 (by have:=List.mem_range.1 hj;omega),hq⟩
theorem QJ0 {W:World}{n m:Nat}{p r:Option Addr}{ks ls:Nat→ByteArray}(h:StrR W n p ks)(h':StrR W m r ls)(w:World)(hW:Below W.heap.size W w)(c d:Nat):
  Calls prog 14 #[.slice p n c,.slice r m d] w fun e w'=>e= .returned (.bool (QPC n ks m ls))∧Below w.heap.size w w':=by
 obtain⟨hn,A,hA,hK⟩:=h;obtain⟨-,B,hB,hL⟩:=h';have hn2:n≤1100000:=hn;have HA:=hd0 hA;have HB:=hd0 hB;have HK:=hd0 (fun i hi=>(hK i hi).1);have HL:=hd0 (fun i hi=>(hL i hi).1);have HW:=hd0 hW;have hW0:=hW.size;clear hn hA hB hK hL hW;have hd:QPC n ks m ls=(((n:Int)==(m:Int))&&(List.range n).all fun i=>(ks i).toList==(ls i).toList):=rfl;generalize QPC n ks m ls=res at*;generalize hq:(fun i=>(ks i).toList==(ls i).toList)=q at hd;have HQ:=hd0 (fun i=>show q i=((ks i).toList==(ls i).toList)from by rw[←hq]);clear hq;generalize eN:((n:Int)==m)=N at hd;have HD:=hd0 hd;clear hd
 cases N with
 |false=>
  go_enter func14,ntmps14;go_wp2
  go_loopw [5,6] (fun v5 v6 wr=>v5= .bool false∧v6= .int .i64 0∧wr=w) (fun _ _ _=>0)
  case atStart=>exact⟨rfl,rfl,rfl⟩
  case round=>
   obtain⟨rfl,rfl,rfl⟩:=hrel;go_wp2;go_ret;exact⟨by rw[HD.out] <;> rfl,Below.refl _ _⟩
 |true=>
 have hnm:n=m:=by have:=eq_of_beq eN;omega
 subst hnm;clear eN;go_enter func14,ntmps14;go_wp2
 go_loopw [5,6] (fun v5 v6 wr=>∃i:Nat,i≤n∧v6= .int .i64 i∧∃bb:Bool,v5= .bool bb∧Hid (bb=(List.range i).all q∧Below w.heap.size w wr)) (fun _ v6 _=>n - (intOf v6).toNat)
 case atStart=>exact⟨0,Nat.zero_le _,rfl,true,by simp,hd0 ⟨rfl,Below.refl _ _⟩⟩
 case round=>
  obtain⟨i,hi,rfl,bb,rfl,HR⟩:=hrel
  cases bb with
  |false=>
   have HV:=hd0 (show res=false by
    rw[HD.out];rw[QPT hi HR.out.1.symm]
    rfl)
   go_wp2;go_ret;exact⟨by rw[HV.out] <;> rfl,HR.out.2⟩
  |true=>
  by_cases hlt:i<n
  ·
   have g1:decide ((i:Int)<n)=true:=decide_eq_true (by omega);have HWr:=hd0 (show Below W.heap.size W wr from HW.out.trans (HR.out.2.mono hW0));obtain⟨qb,qo,rfl,hpc⟩:=(HA.out.below HWr.out).at_ (by omega);obtain⟨sb,so,rfl,hqc⟩:=(HB.out.below HWr.out).at_ (by omega);have e0:=hpc i hlt 0 (by decide);have f0:=hqc i hlt 0 (by decide);rw[HK.out i hlt]at e0;rw[HL.out i hlt]at f0;clear hpc hqc;simp only[Nat.add_zero,Nat.mul_one]at e0 f0;have q0:(0:Int)≤i:=by omega
   have q1:(i:Int)<n:=by omega
   have HQI:=hd0 (HQ.out i)
   go_wp2_with fail
   go_quiet (fail)
   have HAL:=hd0 (show((ks i).toList==(ls i).toList)=(List.range (i+1)).all q by rw[QAT,←HR.out.1,Bool.true_and,HQI.out]);go_wp2;go_roundw
   case rel=>exact⟨i+1,by omega,by go_num,_,rfl,hd0 ⟨HAL.out,QAB HR.out.2 _⟩⟩
   case measure=>simp[intOf];omega
  ·
   have g1:decide ((i:Int)<n)=false:=decide_eq_false (by omega);obtain rfl:i=n:=by omega
   have HV:=hd0 (show res=true by rw[HD.out,←HR.out.1];rfl);go_wp2;go_ret;exact⟨by rw[HV.out] <;> rfl,HR.out.2⟩
def StrL(w:World)(v:Value)(l:List ByteArray):Prop:=∃q c,v= .slice q l.length c∧StrR w l.length q (fun j=>l.getD j ⟨#[]⟩)∧(q=none→c=0)
theorem StrL.under {w w':World}{v:Value}{l:List ByteArray}(h:StrL w v l)(hb:Below w.heap.size w w'):StrL w' v l:=by
 obtain⟨q,c,h1,h2,h3⟩:=h;exact⟨q,c,h1,h2.under hb,h3⟩
theorem StrL.nil(w:World):StrL w (.slice none 0 0) []:=⟨none,0,rfl,⟨Nat.zero_le _,fun _ _=>undef,fun i hi=>absurd hi (Nat.not_lt_zero _),fun i hi=>absurd hi (Nat.not_lt_zero _)⟩,fun _=>rfl⟩
theorem StrL.one(w:World)(s:ByteArray)(hs:s.size≤QDP):StrL (w.alloc (.cells #[.string s] 9)) (.slice (some ⟨w.heap.size,0,none⟩) 1 1) [s]:=by
 refine⟨_,1,rfl,⟨by unfold QES;simp,fun _ _=> .string s,fun i hi=>⟨w.heap.size,0,rfl,fun j hj=>?_⟩,fun i hi=>?_⟩,fun h=>by cases h⟩
 ·
  simp only[List.length_cons,List.length_nil]at hi;rw[show 0+i*1+j=0 by omega];exact QAS w #[.string s] _ 0 _ rfl
 ·
  simp only[List.length_cons,List.length_nil]at hi;obtain rfl:i=0:=by omega
  exact⟨rfl,hs⟩
theorem StrL.own {w:World}{B:Nat}{v:Value}{l:List ByteArray}(h:w.ownsRow B 9 1 v l.length (l.map Value.string))(hn:l.length≤QES)(hl:∀s∈l,s.size≤QDP):StrL w v l:=by
 obtain⟨q,c,rfl,hrow⟩:=QIb h
 have hc:q=none→c=0:=by
  intro hq;rcases h.2 with ⟨hv,_⟩|⟨g,cap,cur,hv,_⟩
  ·
   injection hv
  ·
   injection hv with h1
   rw[hq]at h1
   cases h1
 refine⟨q,c,rfl,⟨hn,_,hrow,fun i hi=>?_⟩,hc⟩;have h1:(l.map Value.string).getD i undef= .string l[i]:=by simp[List.getD_eq_getElem?_getD,List.getElem?_eq_getElem hi]
 have h2:l.getD i ⟨#[]⟩=l[i]:=by simp[List.getD_eq_getElem?_getD,List.getElem?_eq_getElem hi]
 show(l.map Value.string).getD i undef= .string (l.getD i ⟨#[]⟩)∧(l.getD i ⟨#[]⟩).size≤QDP;rw[h1,h2];exact⟨rfl,hl _ (List.getElem_mem hi)⟩
theorem QI8 {w w':World}{g:Nat}{X:Array Value}{o:Option Nat}(h:w.grownBy w' o)(hne:o≠some g)(hb:BoxAt w g X):BoxAt w' g X:=fun j v hj=>by
 have hc:=hb j v hj;have hlt:=World.block_lt_of_cell? w _ hc;have:=h.block g hlt (fun e=>hne e.symm);simp only[World.cell?,this]at hc ⊢;exact hc
theorem QDm {s:ByteArray}(h:(s.toList== [])=true):s.toList.isEmpty=true:=by cases hs:s.toList <;> simp_all
theorem QC7 {s:ByteArray}(h:(s.toList== [])=false):s.toList.isEmpty=false:=by cases hs:s.toList <;> simp_all
def Ex.npr:Ex→Nat| .mk _ _ _ _ np _ _ _ _ _ _=>np| .no=>0
def Ex.inn(e:Ex)(i:Nat):List ByteArray:=match e with
 | .mk k _ s _ np pn _ _ _ _ f=>
  if k=6 then(if((i:Int)==1)||(((f 0).k==8)&& !((f 0).nm.toList== [])) then [s] else [])
  else if k=8 then(if s.toList== [] then [] else [s])++(List.range np).map pn
  else if k=9 then(if((i:Int)==0)&& !(s.toList== []) then [s] else [])
  else []
 | .no=> []
theorem QNr {W:World}{v:Value}{e:Ex}(h:ExR W v e)(i:Nat)(hi:i<e.len)(hp:e.npr≤1000)(w:World)(hW:Below W.heap.size W w):
  Calls prog 93 #[v,.int .i64 i] w fun r w'=>(∃u,r= .returned u∧StrL w' u (e.inn i))∧Below w.heap.size w w':=by
 have hnm:e.len≤1100000:=h.len_le;obtain⟨k,s,num,tk,ts,tl,th,tp,tn,tc,pp,np,cp,pk,nk,ck,pa,n,ca,tf,pn,pt,ks,f,A,rfl,rfl,hA,hf⟩:=h.cells;have hi:i<n:=hi;have hp:np≤1000:=hp;have hnm:n≤1100000:=hnm;have HM:=hd0 h.more;clear h;have HI:=hd0 (show Ex.inn (Ex.mk k num s (.mk tk tl th ts tn tf) np pn pt nk ks n f) i=(if k=6 then(if((i:Int)==1)||(((f 0).k==8)&& !((f 0).nm.toList== [])) then [s] else []) else if k=8 then(if s.toList== [] then [] else [s])++(List.range np).map pn else if k=9 then(if((i:Int)==0)&& !(s.toList== []) then [s] else []) else [])from rfl);generalize Ex.inn (Ex.mk k num s (.mk tk tl th ts tn tf) np pn pt nk ks n f) i=L at*;obtain⟨qb,qo,rfl, -⟩:=hA 0 (by omega);obtain⟨k3,s3,m3,a3,u3,l3,h3,p3,y3,z3,g3,v3,x3,j3,w3,o3,q3,r3,t3,tf3,pn3,pt3,ks3,ff3,AA3,hv3,he3, -, -⟩:=(hf 0 (by omega)).cells;have C0:=(hA.at11 (i:=0) (by omega) hv3).under hW;rw[Nat.zero_mul,Nat.add_zero]at C0;have HC:=hd0 C0;have HW:=hd0 hW;have hW0:=hW.size;clear hA hf hv3 C0 hW;have n0:(0:Int)<n:=by omega
 go_enter func93,ntmps93;go_upto_region 1 with fail;refine QBk ?_;intro w1 H1;have c0:=H1.out.2 0 _ rfl;have c1:=H1.out.2 1 _ rfl;have c10:=H1.out.2 10 _ rfl;have HONE:=hd0 (StrL.one w1 s HM.out.1);have HB1:=hd0 (show Below w.heap.size w (w1.alloc (.cells #[.string s] 9))from H1.out.1.alloc H1.out.1.size _)
 cases e6:(k==6)with
 |true=>
  have hl:L=if((i:Int)==1)||(((f 0).k==8)&& !((f 0).nm.toList== [])) then [s] else []:=by rw[HI.out,if_pos (eq_of_beq e6)]
  rw[he3]at hl;have hl:L=if((i:Int)==1)||((k3==8)&& !(s3.toList== [])) then [s] else []:=hl;have d0:=(HC.out.under H1.out.1) 0 _ rfl;have d1:=(HC.out.under H1.out.1) 1 _ rfl;rw[Nat.add_zero]at d0;clear HI he3
  cases i1:((i:Int)==1)with
  |true=>
   have HL:=hd0 (show L= [s] by rw[hl,i1];rfl);clear hl;go_wp2;refine bodyPost_ret (v:= .slice (some ⟨w1.heap.size,0,none⟩) 1 1) (by simp[results,results93,go_sem]) rfl ⟨⟨_,rfl,by rw[HL.out];exact HONE.out⟩,HB1.out⟩
  |false=>
  cases k8:(k3==8)with
  |false=>
   have HL:=hd0 (show L= [] by rw[hl,i1,k8];rfl);clear hl;go_wp2;refine bodyPost_ret (v:= .slice none 0 0) (by simp[results,results93,go_sem]) rfl ⟨⟨_,rfl,by rw[HL.out];exact StrL.nil _⟩,H1.out.1⟩
  |true=>
  cases z3:(s3.toList== [])with
  |true=>
   have zi:=QDm z3;have HL:=hd0 (show L= [] by rw[hl,i1,k8,z3];rfl);clear hl;go_wp2;refine bodyPost_ret (v:= .slice none 0 0) (by simp[results,results93,go_sem]) rfl ⟨⟨_,rfl,by rw[HL.out];exact StrL.nil _⟩,H1.out.1⟩
  |false=>
   have zi:=QC7 z3;have HL:=hd0 (show L= [s] by rw[hl,i1,k8,z3];rfl);clear hl;go_wp2;refine bodyPost_ret (v:= .slice (some ⟨w1.heap.size,0,none⟩) 1 1) (by simp[results,results93,go_sem]) rfl ⟨⟨_,rfl,by rw[HL.out];exact HONE.out⟩,HB1.out⟩
 |false=>
 have hI:=HI.out;rw[if_neg (ne_of_beq_false e6)]at hI;clear HI he3 HC
 cases e8:(k==8)with
 |false=>
  rw[if_neg (ne_of_beq_false e8)]at hI
  cases e9:(k==9)with
  |false=>
   rw[if_neg (ne_of_beq_false e9)]at hI;have HL:=hd0 hI;clear hI;go_wp2;refine bodyPost_ret (v:= .slice none 0 0) (by simp[results,results93,go_sem]) rfl ⟨⟨_,rfl,by rw[HL.out];exact StrL.nil _⟩,H1.out.1⟩
  |true=>
  rw[if_pos (eq_of_beq e9)]at hI
  cases i0:((i:Int)==0)with
  |false=>
   rw[i0]at hI;have HL:=hd0 (show L= [] from hI);clear hI;go_wp2;refine bodyPost_ret (v:= .slice none 0 0) (by simp[results,results93,go_sem]) rfl ⟨⟨_,rfl,by rw[HL.out];exact StrL.nil _⟩,H1.out.1⟩
  |true=>
  cases z:(s.toList== [])with
  |true=>
   have zi:=QDm z;rw[i0,z]at hI;have HL:=hd0 (show L= [] from hI);clear hI;go_wp2;refine bodyPost_ret (v:= .slice none 0 0) (by simp[results,results93,go_sem]) rfl ⟨⟨_,rfl,by rw[HL.out];exact StrL.nil _⟩,H1.out.1⟩
  |false=>
   have zi:=QC7 z;rw[i0,z]at hI;have HL:=hd0 (show L= [s] from hI);clear hI;go_wp2;refine bodyPost_ret (v:= .slice (some ⟨w1.heap.size,0,none⟩) 1 1) (by simp[results,results93,go_sem]) rfl ⟨⟨_,rfl,by rw[HL.out];exact HONE.out⟩,HB1.out⟩
 |true=>
 rw[if_pos (eq_of_beq e8)]at hI;clear HONE HB1 c10;obtain⟨L0,hL0⟩:∃L0:List ByteArray,L0=if s.toList== [] then [] else [s]:=⟨_,rfl⟩;rw[←hL0]at hI;have HL:=hd0 hI;have HL0:=hd0 hL0;clear hI hL0
 have HSZ:=hd0 (show L0.length≤1∧∀x∈L0,x.size≤QDP by
  rw[HL0.out]
  split
  ·
   exact⟨Nat.zero_le _,fun x hx=>by cases hx⟩
  ·
   exact⟨Nat.le_refl _,fun x hx=>by rw[List.mem_singleton.1 hx];exact HM.out.1⟩)
 have hw1:=H1.out.1.size
 go_upto_if 36 with fail
 have hZ:(s.toList== [])=s.toList.isEmpty:=by cases s.toList <;> rfl
 generalize s.toList.isEmpty=Z at*
 go_cut [5] (fun v5 wx=>Hid (wx.ownsRow (w.heap.size+1) 9 1 v5 L0.length (L0.map Value.string)∧Below w.heap.size w wx∧BoxAt wx w.heap.size (Z9 k s num tk ts tl th tp tn tc pp np cp pk nk ck (some ⟨qb,qo,none⟩) n ca)))
 case first=>
  cases Z with
  |true=>
   have HE:=hd0 (show L0= [] by rw[HL0.out,hZ];rfl);go_wp2;go_meet;exact hd0 ⟨by rw[HE.out];exact World.ownsRow_nil ..,H1.out⟩
  |false=>
   have HE:=hd0 (show L0= [s] by rw[HL0.out,hZ];rfl);have hlt1:w.heap.size<w1.heap.size:=World.block_lt_of_cell? w1 _ c0
   go_wp2_with (refine QE8 s rfl (.tmp 37) (.tmp 40) rfl (w.heap.size+1) (.slice none 0 0) 0 [] rfl (World.ownsRow_nil ..) rfl (by omega) (by omega) ?_)
   intro v' w' how hgr
   have HN:=hd0 (show w'.ownsRow (w.heap.size+1) 9 1 v' L0.length (L0.map Value.string)∧Below w.heap.size w w'∧BoxAt w' w.heap.size (Z9 k s num tk ts tl th tp tn tc pp np cp pk nk ck (some ⟨qb,qo,none⟩) n ca)from by
    refine⟨by rw[HE.out];exact how,?_,?_⟩
    ·
     exact(H1.out.1.alloc H1.out.1.size _).grown hgr (by rw[World.size_alloc];omega) (fun k hk=>by cases hk)
    ·
     exact QI8 hgr (fun e=>by cases e) (fun j v hj=>QAA ((Below.refl _ _).alloc (Nat.le_refl _) _) (H1.out.2 j v hj)))
   clear how hgr;go_wp2;go_meet;exact HN
 case rest=>
 have HM2:=hcut;clear H1 c0 c1 hcut hZ
 go_wp2_with fail
 go_loopw [5,6] (fun v5 v6 wr=>∃m:Nat,m≤np∧v6= .int .i64 m∧Hid (wr.ownsRow (w.heap.size+1) 9 1 v5 (L0.length+m) ((L0++(List.range m).map pn).map Value.string)∧Below w.heap.size w wr∧BoxAt wr w.heap.size (Z9 k s num tk ts tl th tp tn tc pp np cp pk nk ck (some ⟨qb,qo,none⟩) n ca))) (fun _ v6 _=>np - (intOf v6).toNat)
 case atStart=>exact⟨0,Nat.zero_le _,rfl,hd0 ⟨by simpa using HM2.out.1,HM2.out.2⟩⟩
 case round=>
  obtain⟨m,hm,rfl,HR⟩:=hrel;clear HM2;have c8:=HR.out.2.2 8 _ rfl;have hwr:=HR.out.2.1.size;have hlt1:w.heap.size<wr.heap.size:=World.block_lt_of_cell? wr _ c8;obtain⟨hnp,PA,hPA,hPP⟩:=HM.out.2.2.1;have hnp2:np≤1100000:=hnp
  by_cases hlt:m<np
  ·
   have g1:decide ((m:Int)<np)=true:=decide_eq_true (by omega);have HWr:=hd0 (show Below W.heap.size W wr from HW.out.trans (HR.out.2.1.mono hW0));obtain⟨rb,ro,rfl,hpc⟩:=(hPA.below HWr.out).at_ (by omega);have e0:=hpc m hlt 0 (by decide);rw[(hPP m hlt).1]at e0;simp only[Nat.add_zero]at e0;have q0:(0:Int)≤m:=by omega
   have q1:(m:Int)<np:=by omega
   clear hpc hPA hPP;have hsz:=HSZ.out.1
   go_wp2_with (refine QE8 (pn m) rfl (.tmp 49) (.tmp 56) rfl (w.heap.size+1) u5 (L0.length+m) _ rfl HR.out.1 rfl (by omega) (by omega) ?_)
   intro v' w' how hgr
   have HN:=hd0 (show w'.ownsRow (w.heap.size+1) 9 1 v' (L0.length+(m+1)) ((L0++(List.range (m+1)).map pn).map Value.string)∧Below w.heap.size w w'∧BoxAt w' w.heap.size (Z9 k s num tk ts tl th tp tn tc (some ⟨rb,ro,none⟩) np cp pk nk ck (some ⟨qb,qo,none⟩) n ca)from by
    refine⟨by rw[show(L0++(List.range (m+1)).map pn).map Value.string=List.map Value.string L0++(List.map (Value.string∘pn) (List.range m)++ [Value.string (pn m)])by simp[List.range_succ]];exact how,?_,?_⟩
    ·
     exact(HR.out.2.1.alloc hwr _).grown hgr (by rw[World.size_alloc];omega) (fun k hk=>by have:=(HR.out.1.lt k hk).1;omega)
    ·
     refine QI8 hgr (fun e=>?_) (fun j v hj=>QAA ((Below.refl _ _).alloc (Nat.le_refl _) _) (HR.out.2.2 j v hj));have:=(HR.out.1.lt _ e).1
     omega)
   clear how hgr e0;go_wp2;go_roundw
   case rel=>exact⟨m+1,by omega,by go_num,HN⟩
   case measure=>simp[intOf];omega
  ·
   have g1:decide ((m:Int)<np)=false:=decide_eq_false (by omega);obtain rfl:m=np:=by omega
   have HF:=hd0 (show StrL wr u5 L by
    rw[HL.out];refine StrL.own (B:=w.heap.size+1) ?_ ?_ ?_
    ·
     have h:=HR.out.1;rw[show(L0++(List.range m).map pn).length=L0.length+m by simp];exact h
    ·
     rw[show(L0++(List.range m).map pn).length=L0.length+m by simp];have:=HSZ.out.1;have h7:=hp;unfold QES;omega
    ·
     intro x hx;rcases List.mem_append.1 hx with hx|hx
     ·
      exact HSZ.out.2 x hx
     ·
      obtain⟨j,hj,rfl⟩:=List.mem_map.1 hx
      exact(hPP j (List.mem_range.1 hj)).2.1)
   go_wp2;refine bodyPost_ret (v:=u5) (by simp[results,results93,go_sem]) rfl ⟨⟨_,rfl,HF.out⟩,HR.out.2.1⟩
open Go.Proofs.YtjnclkakbopnjaaGreatDoorW.PrintLast
section
variable {P : Program} {ops : Array Oper} {Q : Exit → Act → World → Prop} {md : Region.Mode} {S : World → Prop} {ds : List Nat}
end
theorem QQ8 {w:World}{base n:Nat}{v u:Value}{xs:List Value}{l:List ByteArray}(ty:TypeId)(hown:w.ownsRow base 9 1 v n xs)(hu:StrL w u l)(hn:n+l.length≤100000)(hb:base≤w.heap.size):
  ∃v' w',(Builtin.append_ #[26,26] ty #[v,u]).run prog w= .ok v' w'∧w'.ownsRow base 9 1 v' (n+l.length) (xs++l.map Value.string)∧w.grownBy w' v.ownBlock∧(v'.ownBlock=v.ownBlock∨v'.ownBlock=some w.heap.size):=by
 obtain⟨i0,hi0,hz0,hz1,hz2⟩:=info_parts QRT;obtain⟨q,c,rfl,⟨-,A,hA,hK⟩,hq⟩:=hu
 cases q with
 |none=>
  have hl:l= []:=by
   cases l with
   |nil=>rfl
   |cons a r=>
    obtain⟨b,o,h, -⟩:=hA 0 (by simp)
    cases h
  subst hl;rw[hq rfl];have hr:=run_append_owned_none (P:=prog) (w:=w) base 26 ty 9 i0 1 underlying26 hi0 v n xs hown;exact⟨v,w,hr,by simpa using hown,⟨rfl,rfl,rfl,Nat.le_refl _,fun _ _ _=>rfl⟩,Or.inl rfl⟩
 |some ad=>
  have hnews:∀j y,(l.map Value.string)[j]?=some y→w.cell? (ad.add j)=some y:=by
   intro j y hj;rw[List.getElem?_map]at hj
   cases hl:l[j]? with
   |none=>
    rw[hl]at hj;exact absurd hj (by simp)
   |some s=>
    rw[hl]at hj;have hj:some (Value.string s)=some y:=hj;obtain rfl:=Option.some.inj hj;have hjl:=(List.getElem?_eq_some_iff.1 hl).1;obtain⟨b,o,h,h2⟩:=hA j hjl;obtain rfl:=Option.some.inj h;have h3:=h2 0 (by decide);rw[(hK j hjl).1]at h3;have h4:l.getD j ⟨#[]⟩=s:=by simp[List.getD_eq_getElem?_getD,hl]
    have h5:w.cell? ⟨b,o+j*1+0,none⟩=some (.string (l.getD j ⟨#[]⟩)):=h3;rw[h4,Nat.mul_one,Nat.add_zero]at h5
    have h6:(⟨b,o,none⟩:Addr).add j=⟨b,o+j,none⟩:=by
     cases j <;> simp[Addr.add]
    rw[h6];exact h5
  obtain⟨v',w',h1,h2,h3, -,h5⟩:=run_append_own_at (P:=prog) w base 26 ty 9 i0 _ 1 16 underlying26 hi0 hz0 hz1 hz2 rfl (by decide) v n xs hown ad l.length c (l.map Value.string) (by simp) hnews (fun y hy=>by
   obtain⟨s, -,rfl⟩:=List.mem_map.1 hy
   rfl) (by unfold maxLen;omega) (by omega) hb
  exact⟨v',w',h1,h2,h3,h5⟩
end Go.Proofs.YtjnclkakbopnjaaGreatDoor
