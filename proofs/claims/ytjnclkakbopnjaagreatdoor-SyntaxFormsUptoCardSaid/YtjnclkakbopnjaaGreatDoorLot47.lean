/- XFreG -/
import Derived.Test.YtjnclkakbopnjaaGreatDoorLot46
set_option linter.unusedSimpArgs false
set_option linter.unusedVariables false
set_option maxRecDepth 100000
set_option maxHeartbeats 16000000
namespace Go.Proofs.YtjnclkakbopnjaaGreatDoor
open Go.Proofs.Tryz
open Go.RowKit Go.Proofs.YtjnclkakbopnjaaGreatDoorW.PrintLast
theorem QH5 {l l':Bnd}{xs:List ByteArray}(s t:ByteArray)(h:(fun x=>chB l x||QAy xs x)=chB l'):(fun x=>chB l x||QAy (xs++ [s]) x)=chB ((s,t)::l'):=by
 funext x
 have:=congrFun h x;rw[QFr,←this,QPt]
 cases chB l x <;> cases QAy xs x <;> cases (s.toList==x.toList) <;> rfl
theorem QLR(l:Bnd):(fun x=>chB l x||QAy [] x)=chB l:=by
 funext x
 exact Bool.or_false _
theorem QOQ {W:World}(e:Ex)(hfit:e.fitB=true)(h8:e.k=8)(hz0:(e.nm.toList== [])=true)(ih:∀i,i<e.len→PFree W (e.arg i)):PFree W e:=by
 refine PFree.of e hfit ih (fun k num tk tl th s ts tp pp pk pa tn tc np cp nk ck n ca tf pn pt ks f A w g base p l L u T hk hnmE hW hg hO hC hn hnm hft hst hz hsz hmore hcaps hinn hA hf ih=>?_);rw[hnmE]at hz0;have h8:k=8:=by rw[←hk];exact h8
 clear hk hnmE;have n1:n=1:=hft.2.2.2.2.1 h8;have zi:=QDm hz0;have hin:∀i,e.inn i=([]:List ByteArray)++(List.range np).map pn:=fun i=>by rw[hinn i,if_neg (by omega),if_pos h8,hz0];rfl
 have HTT:=hd0 (show∀j,j<n→T (j+1)=(f j).fre (fun x=>chB l x||QAy (([]:List ByteArray)++(List.range np).map pn) x) (T j)∧(T j).length+(f j).siz≤50000 from fun j hj=>⟨by
  rw[hst j,hin j],hsz j hj⟩)
 have HT0:=hd0 (show T 0=L from by rw[hz,h8];rfl);have HAT:=hd0 hA;have HET:=hd0 hf;have HIT:=hd0 ih;have HPR:=hd0 hmore.2.2.1;have hnp6:np≤6:=hft.1;have HW:=hd0 (And.intro hW (And.intro hg (And.intro (show FOut g base (T 0) u w by rw[HT0.out];exact hO) hC)));clear hft hst hz hsz ih hmore hcaps hinn hin hA hf hW hg hO hC hn hz0 n1;subst h8;obtain⟨fn,hfb,hname,hbody⟩:=QLY;have HFB:=hd0 (And.intro hfb (And.intro hname hbody));clear hfb hname hbody;go_enter func44,ntmps44;go_upto_region 1 with fail;refine QA8 (fun wx=>Hid (FrS W w (Z9 8 s num tk ts tl th tp tn tc pp np cp pk nk ck pa n ca) p l g base u (T 0) u wx)) (hd0 (FrS.start HW.out.1 HW.out.2.1 HW.out.2.2.1 HW.out.2.2.2)) ?_;intro w1 H1;have c0:=H1.out.box 0 _ rfl;have b1:=H1.out.box 1 _ rfl;have b8:=H1.out.box 8 _ rfl
 go_wp2_with fail
 go_loopw [66] (fun v66 wr=>∃i:Nat,i≤np∧v66= .int .i64 i∧Hid (∃p' l',FrS W w (Z9 8 s num tk ts tl th tp tn tc pp np cp pk nk ck pa n ca) p' l' g base u (T 0) u wr∧(fun x=>chB l x||QAy (([]:List ByteArray)++(List.range i).map pn) x)=chB l')) (fun v66 _=>np - (intOf v66).toNat)
 case atStart=>exact⟨0,Nat.zero_le _,rfl,hd0 ⟨_,_,H1.out,QLR l⟩⟩
 case round=>
  obtain⟨i,hi,rfl,HR⟩:=hrel;obtain⟨p',l',hR,hP⟩:=HR.out;have HR:=hd0 hR;have HP:=hd0 hP;clear hR hP;have ic:=HR.out.ic;have b10:=HR.out.box 10 _ rfl
  by_cases hlt:i<np
  ·
   have g0:decide ((i:Int)<np)=true:=decide_eq_true (by omega);have g1:(0:Int)≤i:=by omega
   have g2:(i:Int)<np:=by omega
   obtain⟨hnp,PA,hPA,hPP⟩:=HPR.out;obtain⟨rb,ro,rfl,hpc⟩:=(hPA.below HR.out.below).at_ (by omega);have e0:=hpc i hlt 0 (by decide);have e1:=hpc i hlt 1 (by decide);have e2:=hpc i hlt 2 (by decide);have e3:=hpc i hlt 3 (by decide);have e4:=hpc i hlt 4 (by decide);have e5:=hpc i hlt 5 (by decide);rw[(hPP i hlt).1]at e0;simp only[Nat.add_zero]at e0;obtain⟨k,lo,h0,sx,m,pp,cc,f,ee, -, -, -⟩:=(hPP i hlt).2.2.cells;injection ee with ee
   simp only[Array.mk.injEq,List.cons.injEq,and_true]at ee;obtain⟨f1,f2,f3,f4,f5⟩:=ee;rw[f1]at e1;rw[f2]at e2;rw[f3]at e3;rw[f4]at e4;rw[f5]at e5;clear f1 f2 f3 f4 f5 hpc hPA hPP;have HA1:=hd0 (fun(o:Obj)=>HR.out.under ((Below.refl _ _).alloc (Nat.le_refl _) o))
   go_wp2_with fail
   refine(QDU (pn i) (w.heap.size+1) p' _ (HA1.out (.cells #[.string (pn i),.int .i64 k,.string sx,.int .i64 lo,.int .i64 h0,.slice pp m cc] 98)).ic).mono ?_;rintro r wb ⟨rfl,hwb⟩;have hB:=(HA1.out (.cells #[.string (pn i),.int .i64 k,.string sx,.int .i64 lo,.int .i64 h0,.slice pp m cc] 98)).bind (pn i);rw[←hwb]at hB;clear hwb;simp only[World.size_alloc]at hB;have ic2:=hB.1.ic;have if2:=hB.1.ifz;have HS:=hd0 (hB.1.setIn hB.2);clear hB ic e0 e1 e2 e3 e4 e5;go_wp2;go_roundw
   case rel=>exact⟨i+1,by omega,by go_num,hd0 ⟨_,_,HS.out,by
    rw[List.range_succ,List.map_append,←List.append_assoc]
    exact QH5 (pn i) ⟨#[]⟩ HP.out⟩⟩
   case measure=>simp[intOf];omega
  ·
   have g0:decide ((i:Int)<np)=false:=decide_eq_false (by omega);have hin:i=np:=by omega
   rw[hin]at HP;have hin2:=hd0 hin;clear hin
   have HTU:=hd0 (show∀j,j<n→T (j+1)=(f j).fre (chB l') (T j)∧(T j).length+(f j).siz≤50000 from fun j hj=>by
    have:=HTT.out j hj;rw[HP.out]at this
    exact this)
   go_wp2_with fail
   go_loopw [104] (fun v104 wr=>∃j:Nat,j≤n∧v104= .int .i64 j∧Hid (∃uj,FrS W w (Z9 8 s num tk ts tl th tp tn tc pp np cp pk nk ck pa n ca) p' l' g base u (T j) uj wr)) (fun v104 _=>n - (intOf v104).toNat)
   case atStart=>exact⟨0,Nat.zero_le _,rfl,hd0 ⟨_,HR.out⟩⟩
   case round=>
    obtain⟨j,hj,rfl,HR⟩:=hrel;obtain⟨uj,hR⟩:=HR.out;have HR:=hd0 hR;clear hR;have ic:=HR.out.ic
    by_cases hlt:j<n
    ·
     have g0:decide ((j:Int)<(n:Nat))=true:=decide_eq_true (by omega);have g1:(0:Int)≤j:=by omega
     have g2:(j:Int)<(n:Nat):=by omega
     obtain⟨rb,ro,rfl, -⟩:=HAT.out j hlt;obtain⟨k3,s3,m3,a3,u3,l3,h3,p3,y3,z3,g3,v3,x3,j3,w3,o3,q3,r3,t3,tf3,pn3,pt3,ks3,ff3,AA3,hv3,he3, -, -⟩:=(HET.out j hlt).cells;have HCI:=hd0 ((HAT.out.at11 hlt hv3).under HR.out.below);have HV:=hd0 (show ExR W (.agg (Z9 k3 s3 m3 a3 u3 l3 h3 p3 y3 z3 g3 v3 x3 j3 w3 o3 q3 r3 t3)) (f j)from by rw[←hv3];exact HET.out j hlt);clear hv3 he3;have HNX:=hd0 (HR.out.under ((Below.refl _ _).alloc (Nat.le_refl _) (.cells #[.int .i64 k3,.string s3,.int .i64 m3,.int .i64 a3,.string u3,.int .i64 l3,.int .i64 h3,.slice p3 y3 z3,.slice g3 v3 x3,.slice j3 w3 o3,.slice q3 r3 t3] 29)));have ic2:=HNX.out.ic
     go_wp2_with (first
      |refine lc_ HCI.out ?_
      |refine QAK 29 (.tmp 11) (.tmp 107) rfl rfl rfl wr _ #[.int .i64 k3,.string s3,.int .i64 m3,.int .i64 a3,.string u3,.int .i64 l3,.int .i64 h3,.slice p3 y3 z3,.slice g3 v3 x3,.slice j3 w3 o3,.slice q3 r3 t3] rfl (by rfl) rfl infoEx rfl (by simp[Value.oneCell']) ?_
      |refine lb_ (QAS wr _ _) ?_)
     refine(HIT.out j hlt (.agg (Z9 k3 s3 m3 a3 u3 l3 h3 p3 y3 z3 g3 v3 x3 j3 w3 o3 q3 r3 t3)) HV.out _ g base _ _ (T j) uj HNX.out.below HNX.out.wg HNX.out.out HNX.out.chain (HTU.out j hlt).2).mono ?_;rintro r wn ⟨rfl,un,ho,hm⟩;rw[←(HTU.out j hlt).1]at ho;have HN:=hd0 (HNX.out.step hm ho);clear ho hm ic ic2;go_wp2;go_roundw
     case rel=>exact⟨j+1,by omega,by go_num,hd0 ⟨un,HN.out⟩⟩
     case measure=>simp[intOf];omega
    ·
     have g0:decide ((j:Int)<(n:Nat))=false:=decide_eq_false (by omega);have HV:=hd0 (show FrS W w (Z9 8 s num tk ts tl th tp tn tc pp np cp pk nk ck pa n ca) p' l' g base u (T n) uj wr from by rw[show T n=T j from by congr 1;omega];exact HR.out);clear HR;go_wp2;refine bodyPost_end (v:= .tuple #[]) (by simp[results,results44,go_sem]) rfl ⟨rfl,_,HV.out.out,HV.out.mv⟩
theorem QOR {W:World}(e:Ex)(hfit:e.fitB=true)(h8:e.k=8)(hz0:(e.nm.toList== [])=false)(ih:∀i,i<e.len→PFree W (e.arg i)):PFree W e:=by
 refine PFree.of e hfit ih (fun k num tk tl th s ts tp pp pk pa tn tc np cp nk ck n ca tf pn pt ks f A w g base p l L u T hk hnmE hW hg hO hC hn hnm hft hst hz hsz hmore hcaps hinn hA hf ih=>?_);rw[hnmE]at hz0;have h8:k=8:=by rw[←hk];exact h8
 clear hk hnmE;have n1:n=1:=hft.2.2.2.2.1 h8;have zi:=QC7 hz0;have hin:∀i,e.inn i=([s]:List ByteArray)++(List.range np).map pn:=fun i=>by rw[hinn i,if_neg (by omega),if_pos h8,hz0];rfl
 have HTT:=hd0 (show∀j,j<n→T (j+1)=(f j).fre (fun x=>chB l x||QAy (([s]:List ByteArray)++(List.range np).map pn) x) (T j)∧(T j).length+(f j).siz≤50000 from fun j hj=>⟨by
  rw[hst j,hin j],hsz j hj⟩)
 have HT0:=hd0 (show T 0=L from by rw[hz,h8];rfl);have HAT:=hd0 hA;have HET:=hd0 hf;have HIT:=hd0 ih;have HPR:=hd0 hmore.2.2.1;have hnp6:np≤6:=hft.1;have HW:=hd0 (And.intro hW (And.intro hg (And.intro (show FOut g base (T 0) u w by rw[HT0.out];exact hO) hC)));clear hft hst hz hsz ih hmore hcaps hinn hin hA hf hW hg hO hC hn hz0 n1;subst h8;obtain⟨fn,hfb,hname,hbody⟩:=QLY;have HFB:=hd0 (And.intro hfb (And.intro hname hbody));clear hfb hname hbody;go_enter func44,ntmps44;go_upto_region 1 with fail;refine QA8 (fun wx=>Hid (FrS W w (Z9 8 s num tk ts tl th tp tn tc pp np cp pk nk ck pa n ca) p l g base u (T 0) u wx)) (hd0 (FrS.start HW.out.1 HW.out.2.1 HW.out.2.2.1 HW.out.2.2.2)) ?_;intro w1 H1;have c0:=H1.out.box 0 _ rfl;have b1:=H1.out.box 1 _ rfl;have b8:=H1.out.box 8 _ rfl
 go_wp2_with fail
 refine(QDU s (w.heap.size+1) p _ H1.out.ic).mono ?_;rintro r wb ⟨rfl,hwb⟩;have hB:=H1.out.bind s;rw[←hwb]at hB;clear hwb;have HB:=hd0 hB;have ic2:=hB.1.ic;have if2:=hB.1.ifz;have b1':=hB.1.box 1 _ rfl;have b8':=hB.1.box 8 _ rfl;have HS:=hd0 (hB.1.setIn hB.2);clear hB;have b8s:=HS.out.box 8 _ rfl
 go_wp2_with fail
 go_loopw [66] (fun v66 wr=>∃i:Nat,i≤np∧v66= .int .i64 i∧Hid (∃p' l',FrS W w (Z9 8 s num tk ts tl th tp tn tc pp np cp pk nk ck pa n ca) p' l' g base u (T 0) u wr∧(fun x=>chB l x||QAy (([s]:List ByteArray)++(List.range i).map pn) x)=chB l')) (fun v66 _=>np - (intOf v66).toNat)
 case atStart=>exact⟨0,Nat.zero_le _,rfl,hd0 ⟨_,_,HS.out,QH5 (l:=l) (xs:= []) s ⟨#[]⟩ (QLR l)⟩⟩
 case round=>
  obtain⟨i,hi,rfl,HR⟩:=hrel;obtain⟨p',l',hR,hP⟩:=HR.out;have HR:=hd0 hR;have HP:=hd0 hP;clear hR hP ic2 if2 b1' b8' b8s;have ic:=HR.out.ic;have b10:=HR.out.box 10 _ rfl
  by_cases hlt:i<np
  ·
   have g0:decide ((i:Int)<np)=true:=decide_eq_true (by omega);have g1:(0:Int)≤i:=by omega
   have g2:(i:Int)<np:=by omega
   obtain⟨hnp,PA,hPA,hPP⟩:=HPR.out;obtain⟨rb,ro,rfl,hpc⟩:=(hPA.below HR.out.below).at_ (by omega);have e0:=hpc i hlt 0 (by decide);have e1:=hpc i hlt 1 (by decide);have e2:=hpc i hlt 2 (by decide);have e3:=hpc i hlt 3 (by decide);have e4:=hpc i hlt 4 (by decide);have e5:=hpc i hlt 5 (by decide);rw[(hPP i hlt).1]at e0;simp only[Nat.add_zero]at e0;obtain⟨k,lo,h0,sx,m,pp,cc,f,ee, -, -, -⟩:=(hPP i hlt).2.2.cells;injection ee with ee
   simp only[Array.mk.injEq,List.cons.injEq,and_true]at ee;obtain⟨f1,f2,f3,f4,f5⟩:=ee;rw[f1]at e1;rw[f2]at e2;rw[f3]at e3;rw[f4]at e4;rw[f5]at e5;clear f1 f2 f3 f4 f5 hpc hPA hPP;have HA1:=hd0 (fun(o:Obj)=>HR.out.under ((Below.refl _ _).alloc (Nat.le_refl _) o))
   go_wp2_with fail
   refine(QDU (pn i) (w.heap.size+1) p' _ (HA1.out (.cells #[.string (pn i),.int .i64 k,.string sx,.int .i64 lo,.int .i64 h0,.slice pp m cc] 98)).ic).mono ?_;rintro r wb ⟨rfl,hwb⟩;have hB:=(HA1.out (.cells #[.string (pn i),.int .i64 k,.string sx,.int .i64 lo,.int .i64 h0,.slice pp m cc] 98)).bind (pn i);rw[←hwb]at hB;clear hwb;simp only[World.size_alloc]at hB;have ic2:=hB.1.ic;have if2:=hB.1.ifz;have HS:=hd0 (hB.1.setIn hB.2);clear hB ic e0 e1 e2 e3 e4 e5;go_wp2;go_roundw
   case rel=>exact⟨i+1,by omega,by go_num,hd0 ⟨_,_,HS.out,by
    rw[List.range_succ,List.map_append,←List.append_assoc]
    exact QH5 (pn i) ⟨#[]⟩ HP.out⟩⟩
   case measure=>simp[intOf];omega
  ·
   have g0:decide ((i:Int)<np)=false:=decide_eq_false (by omega);have hin:i=np:=by omega
   rw[hin]at HP;have hin2:=hd0 hin;clear hin
   have HTU:=hd0 (show∀j,j<n→T (j+1)=(f j).fre (chB l') (T j)∧(T j).length+(f j).siz≤50000 from fun j hj=>by
    have:=HTT.out j hj;rw[HP.out]at this
    exact this)
   go_wp2_with fail
   go_loopw [104] (fun v104 wr=>∃j:Nat,j≤n∧v104= .int .i64 j∧Hid (∃uj,FrS W w (Z9 8 s num tk ts tl th tp tn tc pp np cp pk nk ck pa n ca) p' l' g base u (T j) uj wr)) (fun v104 _=>n - (intOf v104).toNat)
   case atStart=>exact⟨0,Nat.zero_le _,rfl,hd0 ⟨_,HR.out⟩⟩
   case round=>
    obtain⟨j,hj,rfl,HR⟩:=hrel;obtain⟨uj,hR⟩:=HR.out;have HR:=hd0 hR;clear hR;have ic:=HR.out.ic
    by_cases hlt:j<n
    ·
     have g0:decide ((j:Int)<(n:Nat))=true:=decide_eq_true (by omega);have g1:(0:Int)≤j:=by omega
     have g2:(j:Int)<(n:Nat):=by omega
     obtain⟨rb,ro,rfl, -⟩:=HAT.out j hlt;obtain⟨k3,s3,m3,a3,u3,l3,h3,p3,y3,z3,g3,v3,x3,j3,w3,o3,q3,r3,t3,tf3,pn3,pt3,ks3,ff3,AA3,hv3,he3, -, -⟩:=(HET.out j hlt).cells;have HCI:=hd0 ((HAT.out.at11 hlt hv3).under HR.out.below);have HV:=hd0 (show ExR W (.agg (Z9 k3 s3 m3 a3 u3 l3 h3 p3 y3 z3 g3 v3 x3 j3 w3 o3 q3 r3 t3)) (f j)from by rw[←hv3];exact HET.out j hlt);clear hv3 he3;have HNX:=hd0 (HR.out.under ((Below.refl _ _).alloc (Nat.le_refl _) (.cells #[.int .i64 k3,.string s3,.int .i64 m3,.int .i64 a3,.string u3,.int .i64 l3,.int .i64 h3,.slice p3 y3 z3,.slice g3 v3 x3,.slice j3 w3 o3,.slice q3 r3 t3] 29)));have ic2:=HNX.out.ic
     go_wp2_with (first
      |refine lc_ HCI.out ?_
      |refine QAK 29 (.tmp 11) (.tmp 107) rfl rfl rfl wr _ #[.int .i64 k3,.string s3,.int .i64 m3,.int .i64 a3,.string u3,.int .i64 l3,.int .i64 h3,.slice p3 y3 z3,.slice g3 v3 x3,.slice j3 w3 o3,.slice q3 r3 t3] rfl (by rfl) rfl infoEx rfl (by simp[Value.oneCell']) ?_
      |refine lb_ (QAS wr _ _) ?_)
     refine(HIT.out j hlt (.agg (Z9 k3 s3 m3 a3 u3 l3 h3 p3 y3 z3 g3 v3 x3 j3 w3 o3 q3 r3 t3)) HV.out _ g base _ _ (T j) uj HNX.out.below HNX.out.wg HNX.out.out HNX.out.chain (HTU.out j hlt).2).mono ?_;rintro r wn ⟨rfl,un,ho,hm⟩;rw[←(HTU.out j hlt).1]at ho;have HN:=hd0 (HNX.out.step hm ho);clear ho hm ic ic2;go_wp2;go_roundw
     case rel=>exact⟨j+1,by omega,by go_num,hd0 ⟨un,HN.out⟩⟩
     case measure=>simp[intOf];omega
    ·
     have g0:decide ((j:Int)<(n:Nat))=false:=decide_eq_false (by omega);have HV:=hd0 (show FrS W w (Z9 8 s num tk ts tl th tp tn tc pp np cp pk nk ck pa n ca) p' l' g base u (T n) uj wr from by rw[show T n=T j from by congr 1;omega];exact HR.out);clear HR;go_wp2;refine bodyPost_end (v:= .tuple #[]) (by simp[results,results44,go_sem]) rfl ⟨rfl,_,HV.out.out,HV.out.mv⟩
end Go.Proofs.YtjnclkakbopnjaaGreatDoor
