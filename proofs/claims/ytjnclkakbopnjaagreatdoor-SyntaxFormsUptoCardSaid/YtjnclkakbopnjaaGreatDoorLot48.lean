/- XFreH, XFreI, XFreJ, XFreK -/
import Derived.Test.YtjnclkakbopnjaaGreatDoorLot47
set_option linter.unusedSimpArgs false
set_option linter.unusedVariables false
set_option maxRecDepth 100000
set_option maxHeartbeats 16000000
namespace Go.Proofs.YtjnclkakbopnjaaGreatDoor
open Go.Proofs.Tryz
open Go.RowKit Go.Proofs.YtjnclkakbopnjaaGreatDoorW.PrintLast
theorem QJl {W:World}(e:Ex)(hfit:e.fitB=true)(h9:e.k=9)(hz0:(e.nm.toList== [])=true)(ih:∀i,i<e.len→PFree W (e.arg i)):PFree W e:=by
 refine PFree.of e hfit ih (fun k num tk tl th s ts tp pp pk pa tn tc np cp nk ck n ca tf pn pt ks f A w g base p l L u T hk hnmE hW hg hO hC hn hnm hft hst hz hsz hmore hcaps hinn hA hf ih=>?_);rw[hnmE]at hz0;have h9:k=9:=by rw[←hk];exact h9
 clear hk hnmE;have n12:n=1∨n=2:=hft.2.2.2.2.2.1 h9;have zi:=QDm hz0;have in0:e.inn 0= []:=by rw[hinn 0,if_neg (by omega),if_neg (by omega),if_pos h9,hz0];rfl
 have in1:∀j,e.inn (j+1)= []:=fun j=>by rw[hinn (j+1),if_neg (by omega),if_neg (by omega),if_pos h9,show(((j+1:Nat):Int)==0)=false from beq_eq_false_iff_ne.2 (by omega)];rfl
 have HT:=hd0 (show T 1=(f 0).fre (chB l) (T 0)∧(T 0).length+(f 0).siz≤50000 from⟨by
  rw[hst 0,in0]
  exact QGL _ _ _,hsz 0 (by omega)⟩)
 have HTT:=hd0 (show∀j,j<n - 1→T (1+(j+1))=(f (1+j)).fre (chB l) (T (1+j))∧(T (1+j)).length+(f (1+j)).siz≤50000 from fun j hj=>⟨by
  rw[show 1+(j+1)=(1+j)+1 by omega,hst (1+j),show 1+j=j+1 by omega,in1 j]
  exact QGL _ _ _,hsz (1+j) (by omega)⟩)
 have HT0:=hd0 (show T 0=L from by rw[hz,h9];rfl);obtain⟨qb,qo,rfl, -⟩:=hA 0 (by omega)
 have HA0:=hd0 (show CellsAt W qb qo #[A 0 0,A 0 1,A 0 2,A 0 3,A 0 4,A 0 5,A 0 6,A 0 7,A 0 8,A 0 9,A 0 10] from by
  have:=hA.at11 (i:=0) (by omega) (X:=#[A 0 0,A 0 1,A 0 2,A 0 3,A 0 4,A 0 5,A 0 6,A 0 7,A 0 8,A 0 9,A 0 10]) rfl
  rwa[Nat.zero_mul,Nat.add_zero]at this)
 have HAT:=hd0 (show Row W 11 (some ⟨qb,qo+11,none⟩) (n - 1) (fun j=>A (1+j))from fun j hj=>by
  obtain⟨b,o,e,hc⟩:=hA (1+j) (by omega);injection e with e
  injection e with e1 e2
  subst e1 e2;refine⟨qb,qo+11,rfl,fun i hi=>?_⟩;have:=hc i hi
  rwa[show qo+(1+j)*11+i=qo+11+j*11+i by omega]at this)
 have HF:=hd0 hf;have HI:=hd0 ih;have HET:=hd0 (show∀j,j<n - 1→ExR W (QE6 (A (1+j))) (f (1+j))from fun j hj=>hf (1+j) (by omega));have HIT:=hd0 (show∀j,j<n - 1→PFree W (f (1+j))from fun j hj=>ih (1+j) (by omega));have HW:=hd0 (And.intro hW (And.intro hg (And.intro (show FOut g base (T 0) u w by rw[HT0.out];exact hO) hC)));have i0:(0:Int)<n:=by omega
 have i1:(1:Int)≤n:=by omega
 have hca:n≤ca:=hcaps.2;clear hft hst hz hsz ih hmore hcaps hinn hA hf hW hg hO hC hn hz0 in0 in1;subst h9;go_enter func44,ntmps44;go_upto_region 1 with fail;refine QA8 (fun wx=>Hid (FrS W w (Z9 9 s num tk ts tl th tp tn tc pp np cp pk nk ck (some ⟨qb,qo,none⟩) n ca) p l g base u (T 0) u wx)) (hd0 (FrS.start HW.out.1 HW.out.2.1 HW.out.2.2.1 HW.out.2.2.2)) ?_;intro w1 H1;have c0:=H1.out.box 0 _ rfl;have b1:=H1.out.box 1 _ rfl;go_upto_region 23 with fail;refine QBr (n:=7) (S:=FrZ W w (Z9 9 s num tk ts tl th tp tn tc pp np cp pk nk ck (some ⟨qb,qo,none⟩) n ca) p) (ds:= []) (bs 7 0) (by kernel_rfl) rfl rfl H1.out.drew.z (fun hS=>?_);refine pu_ 0 90 ?_;refine tk_ 1 91 rfl rfl hS (by intro wz hz;have b10:=hz.box 10 _ rfl;go_simp;with_reducible rfl) ?_;refine pu_ 2 92 ?_;refine tk_ 3 93 rfl rfl hS (fun wz hz=>QAP 29 _ rfl qb qo #[A 0 0,A 0 1,A 0 2,A 0 3,A 0 4,A 0 5,A 0 6,A 0 7,A 0 8,A 0 9,A 0 10] _ underlying29 rfl infoEx (HA0.out.under hz.below)) ?_;refine tk_ 4 94 rfl rfl hS (by intro wz hz;have ic:=hz.ic;go_simp;with_reducible rfl) ?_;refine pu_ 5 95 ?_;refine on_ 6 (some 96) rfl rfl (fun K hK=>?_);refine QA6 func44 (by kernel_rfl) rfl #[.agg #[A 0 0,A 0 1,A 0 2,A 0 3,A 0 4,A 0 5,A 0 6,A 0 7,A 0 8,A 0 9,A 0 10],.pointer p,.func (.func 45) #[] #[.pointer (some ⟨g,0,none⟩)]] (by rfl) rfl rfl (by (try simp only[List.map_toArray,List.map_cons,List.map_nil]);first|done|rfl) ?_
 refine(HI.out 0 (by omega) (.agg #[A 0 0,A 0 1,A 0 2,A 0 3,A 0 4,A 0 5,A 0 6,A 0 7,A 0 8,A 0 9,A 0 10]) (HF.out 0 (by omega)) _ g base p l (T 0) u H1.out.drew.below H1.out.wg H1.out.drew.out H1.out.drew.chain (HT.out.2)).mono ?_;rintro r w2 ⟨rfl,u2,ho,hm⟩;rw[←HT.out.1]at ho;have H_w2:=hd0 (H1.out.drew.step hm ho);refine⟨_,rfl,hK.out _ _ H_w2.out.z (fun _=>?_)⟩;clear hK K ho hm;refine nm_ ?_;refine QCZ (by kernel_rfl) ?_;clear H1 c0 b1;have b10:=H_w2.out.box 10 _ rfl;have ef:=H_w2.out.efz 10;have wr1:((n:Int) - 1).toNat=n - 1:=by omega
 by_cases hca1:ca=1
 ·
  subst hca1;obtain rfl:n=1:=by omega
  have HAT:=hd0 (show Row W 11 (some ⟨qb,qo,none⟩) 0 (fun j=>A (1+j))from fun j hj=>absurd hj (by omega));have HS:=hd0 (show FrS W w (Z9 9 s num tk ts tl th tp tn tc pp np cp pk nk ck (some ⟨qb,qo,none⟩) 0 0) p l g base u (T (1+0)) u2 (w2.setCell ⟨w.heap.size,10,none⟩ (.slice (some ⟨qb,qo,none⟩) (0) 0))from H_w2.out.setE 10 _);have b10s:=HS.out.box 10 _ rfl
  go_wp2_with fail
  go_loopw [104] (fun v104 wr=>∃j:Nat,j≤0∧v104= .int .i64 j∧Hid (∃uj,FrS W w (Z9 9 s num tk ts tl th tp tn tc pp np cp pk nk ck (some ⟨qb,qo,none⟩) 0 0) p l g base u (T (1+j)) uj wr)) (fun v104 _=>0 - (intOf v104).toNat)
  case atStart=>exact⟨0,Nat.zero_le _,rfl,hd0 ⟨_,HS.out⟩⟩
  case round=>
   obtain⟨j,hj,rfl,HR⟩:=hrel;obtain⟨uj,hR⟩:=HR.out;have HR:=hd0 hR;clear hR;have ic:=HR.out.ic
   by_cases hlt:j<0
   ·
    exact absurd hlt (Nat.not_lt_zero _)
   ·
    have g0:decide ((j:Int)<(0:Nat))=false:=decide_eq_false (by omega);have HV:=hd0 (show FrS W w (Z9 9 s num tk ts tl th tp tn tc pp np cp pk nk ck (some ⟨qb,qo,none⟩) 0 0) p l g base u (T 1) uj wr from by rw[show T 1=T (1+j)from by congr 1;omega];exact HR.out);clear HR;go_wp2;refine bodyPost_end (v:= .tuple #[]) (by simp[results,results44,go_sem]) rfl ⟨rfl,_,HV.out.out,HV.out.mv⟩
 ·
  have hx:=hca1;have HS:=hd0 (show FrS W w (Z9 9 s num tk ts tl th tp tn tc pp np cp pk nk ck (some ⟨qb,qo+11,none⟩) (n - 1) (ca - 1)) p l g base u (T (1+0)) u2 (w2.setCell ⟨w.heap.size,10,none⟩ (.slice (some ⟨qb,qo+11,none⟩) (n - 1) (ca - 1)))from H_w2.out.setE 10 _);have b10s:=HS.out.box 10 _ rfl
  go_wp2_with fail
  go_loopw [104] (fun v104 wr=>∃j:Nat,j≤n - 1∧v104= .int .i64 j∧Hid (∃uj,FrS W w (Z9 9 s num tk ts tl th tp tn tc pp np cp pk nk ck (some ⟨qb,qo+11,none⟩) (n - 1) (ca - 1)) p l g base u (T (1+j)) uj wr)) (fun v104 _=>n - 1 - (intOf v104).toNat)
  case atStart=>exact⟨0,Nat.zero_le _,rfl,hd0 ⟨_,HS.out⟩⟩
  case round=>
   obtain⟨j,hj,rfl,HR⟩:=hrel;obtain⟨uj,hR⟩:=HR.out;have HR:=hd0 hR;clear hR;have ic:=HR.out.ic
   by_cases hlt:j<n - 1
   ·
    have g0:decide ((j:Int)<(n - 1:Nat))=true:=decide_eq_true (by omega);have g1:(0:Int)≤j:=by omega
    have g2:(j:Int)<(n - 1:Nat):=by omega
    obtain⟨k3,s3,m3,a3,u3,l3,h3,p3,y3,z3,g3,v3,x3,j3,w3,o3,q3,r3,t3,tf3,pn3,pt3,ks3,ff3,AA3,hv3,he3, -, -⟩:=(HET.out j hlt).cells;have HCI:=hd0 ((HAT.out.at11 hlt hv3).under HR.out.below);have HV:=hd0 (show ExR W (.agg (Z9 k3 s3 m3 a3 u3 l3 h3 p3 y3 z3 g3 v3 x3 j3 w3 o3 q3 r3 t3)) (f (1+j))from by rw[←hv3];exact HET.out j hlt);clear hv3 he3;have HNX:=hd0 (HR.out.under ((Below.refl _ _).alloc (Nat.le_refl _) (.cells #[.int .i64 k3,.string s3,.int .i64 m3,.int .i64 a3,.string u3,.int .i64 l3,.int .i64 h3,.slice p3 y3 z3,.slice g3 v3 x3,.slice j3 w3 o3,.slice q3 r3 t3] 29)));have ic2:=HNX.out.ic
    go_wp2_with (first
     |refine lc_ HCI.out ?_
     |refine QAK 29 (.tmp 11) (.tmp 107) rfl rfl rfl wr _ #[.int .i64 k3,.string s3,.int .i64 m3,.int .i64 a3,.string u3,.int .i64 l3,.int .i64 h3,.slice p3 y3 z3,.slice g3 v3 x3,.slice j3 w3 o3,.slice q3 r3 t3] rfl (by rfl) rfl infoEx rfl (by simp[Value.oneCell']) ?_
     |refine lb_ (QAS wr _ _) ?_)
    refine(HIT.out j hlt (.agg (Z9 k3 s3 m3 a3 u3 l3 h3 p3 y3 z3 g3 v3 x3 j3 w3 o3 q3 r3 t3)) HV.out _ g base _ _ (T (1+j)) uj HNX.out.below HNX.out.wg HNX.out.out HNX.out.chain (HTT.out j hlt).2).mono ?_;rintro r wn ⟨rfl,un,ho,hm⟩;rw[←(HTT.out j hlt).1]at ho;have HN:=hd0 (HNX.out.step hm ho);clear ho hm ic ic2;go_wp2;go_roundw
    case rel=>exact⟨j+1,by omega,by go_num,hd0 ⟨un,HN.out⟩⟩
    case measure=>simp[intOf];omega
   ·
    have g0:decide ((j:Int)<(n - 1:Nat))=false:=decide_eq_false (by omega);have HV:=hd0 (show FrS W w (Z9 9 s num tk ts tl th tp tn tc pp np cp pk nk ck (some ⟨qb,qo+11,none⟩) (n - 1) (ca - 1)) p l g base u (T n) uj wr from by rw[show T n=T (1+j)from by congr 1;omega];exact HR.out);clear HR;go_wp2;refine bodyPost_end (v:= .tuple #[]) (by simp[results,results44,go_sem]) rfl ⟨rfl,_,HV.out.out,HV.out.mv⟩
theorem QJm {W:World}(e:Ex)(hfit:e.fitB=true)(h9:e.k=9)(hz0:(e.nm.toList== [])=false)(ih:∀i,i<e.len→PFree W (e.arg i)):PFree W e:=by
 refine PFree.of e hfit ih (fun k num tk tl th s ts tp pp pk pa tn tc np cp nk ck n ca tf pn pt ks f A w g base p l L u T hk hnmE hW hg hO hC hn hnm hft hst hz hsz hmore hcaps hinn hA hf ih=>?_);rw[hnmE]at hz0;have h9:k=9:=by rw[←hk];exact h9
 clear hk hnmE;have n12:n=1∨n=2:=hft.2.2.2.2.2.1 h9;have zi:=QC7 hz0;have in0:e.inn 0= [s]:=by rw[hinn 0,if_neg (by omega),if_neg (by omega),if_pos h9,hz0];rfl
 have in1:∀j,e.inn (j+1)= []:=fun j=>by rw[hinn (j+1),if_neg (by omega),if_neg (by omega),if_pos h9,show(((j+1:Nat):Int)==0)=false from beq_eq_false_iff_ne.2 (by omega)];rfl
 have HT:=hd0 (show T 1=(f 0).fre (chB ((s,⟨#[]⟩)::l)) (T 0)∧(T 0).length+(f 0).siz≤50000 from⟨by
  rw[hst 0,in0]
  rw[QNM l s ⟨#[]⟩],hsz 0 (by omega)⟩)
 have HTT:=hd0 (show∀j,j<n - 1→T (1+(j+1))=(f (1+j)).fre (chB l) (T (1+j))∧(T (1+j)).length+(f (1+j)).siz≤50000 from fun j hj=>⟨by
  rw[show 1+(j+1)=(1+j)+1 by omega,hst (1+j),show 1+j=j+1 by omega,in1 j]
  exact QGL _ _ _,hsz (1+j) (by omega)⟩)
 have HT0:=hd0 (show T 0=L from by rw[hz,h9];rfl);obtain⟨qb,qo,rfl, -⟩:=hA 0 (by omega)
 have HA0:=hd0 (show CellsAt W qb qo #[A 0 0,A 0 1,A 0 2,A 0 3,A 0 4,A 0 5,A 0 6,A 0 7,A 0 8,A 0 9,A 0 10] from by
  have:=hA.at11 (i:=0) (by omega) (X:=#[A 0 0,A 0 1,A 0 2,A 0 3,A 0 4,A 0 5,A 0 6,A 0 7,A 0 8,A 0 9,A 0 10]) rfl
  rwa[Nat.zero_mul,Nat.add_zero]at this)
 have HAT:=hd0 (show Row W 11 (some ⟨qb,qo+11,none⟩) (n - 1) (fun j=>A (1+j))from fun j hj=>by
  obtain⟨b,o,e,hc⟩:=hA (1+j) (by omega);injection e with e
  injection e with e1 e2
  subst e1 e2;refine⟨qb,qo+11,rfl,fun i hi=>?_⟩;have:=hc i hi
  rwa[show qo+(1+j)*11+i=qo+11+j*11+i by omega]at this)
 have HF:=hd0 hf;have HI:=hd0 ih;have HET:=hd0 (show∀j,j<n - 1→ExR W (QE6 (A (1+j))) (f (1+j))from fun j hj=>hf (1+j) (by omega));have HIT:=hd0 (show∀j,j<n - 1→PFree W (f (1+j))from fun j hj=>ih (1+j) (by omega));have HW:=hd0 (And.intro hW (And.intro hg (And.intro (show FOut g base (T 0) u w by rw[HT0.out];exact hO) hC)));have i0:(0:Int)<n:=by omega
 have i1:(1:Int)≤n:=by omega
 have hca:n≤ca:=hcaps.2;clear hft hst hz hsz ih hmore hcaps hinn hA hf hW hg hO hC hn hz0 in0 in1;subst h9;go_enter func44,ntmps44;go_upto_region 1 with fail;refine QA8 (fun wx=>Hid (FrS W w (Z9 9 s num tk ts tl th tp tn tc pp np cp pk nk ck (some ⟨qb,qo,none⟩) n ca) p l g base u (T 0) u wx)) (hd0 (FrS.start HW.out.1 HW.out.2.1 HW.out.2.2.1 HW.out.2.2.2)) ?_;intro w1 H1;have c0:=H1.out.box 0 _ rfl;have b1:=H1.out.box 1 _ rfl;go_upto_region 22 with fail;refine QBr (n:=10) (S:=FrZ W w (Z9 9 s num tk ts tl th tp tn tc pp np cp pk nk ck (some ⟨qb,qo,none⟩) n ca) p) (ds:= []) (bs 10 0) (by kernel_rfl) rfl rfl H1.out.drew.z (fun hS=>?_);refine pu_ 0 80 ?_;refine tk_ 1 81 rfl rfl hS (by intro wz hz;have b10:=hz.box 10 _ rfl;go_simp;with_reducible rfl) ?_;refine pu_ 2 82 ?_;refine tk_ 3 83 rfl rfl hS (fun wz hz=>QAP 29 _ rfl qb qo #[A 0 0,A 0 1,A 0 2,A 0 3,A 0 4,A 0 5,A 0 6,A 0 7,A 0 8,A 0 9,A 0 10] _ underlying29 rfl infoEx (HA0.out.under hz.below)) ?_;refine pu_ 4 84 ?_;refine pu_ 5 85 ?_;refine tk_ 6 86 rfl rfl hS (by intro wz hz;have b1:=hz.box 1 _ rfl;go_simp;with_reducible rfl) ?_;refine pu_ 8 88 ?_;refine on_ 7 (some 87) rfl rfl (fun K hK=>?_);refine QJF (.tmp 84) func91 (by kernel_rfl) rfl #[.string s] #[.pointer (some ⟨w.heap.size+1,0,none⟩)] (by rfl) rfl rfl (by rfl) (by (try simp only[List.map_toArray,List.map_cons,List.map_nil]);first|done|rfl) ?_;refine(QDU s (w.heap.size+1) p _ hS.ic).mono ?_;rintro r wb ⟨hr,hwb⟩;rw[show w1.drew.heap.size=w1.heap.size from rfl]at hr
 subst hr;have hB:=hd0 (H1.out.drew.bind s);rw[←hwb]at hB;refine⟨_,rfl,hK.out _ _ hB.out.1.z (fun _=>?_)⟩;clear hK K hwb;refine nm_ ?_;refine on_ 9 (some 89) rfl rfl (fun K hK=>?_);refine QA6 func44 (by kernel_rfl) rfl #[.agg #[A 0 0,A 0 1,A 0 2,A 0 3,A 0 4,A 0 5,A 0 6,A 0 7,A 0 8,A 0 9,A 0 10],.pointer (some ⟨_,0,none⟩),.func (.func 45) #[] #[.pointer (some ⟨g,0,none⟩)]] (by rfl) rfl rfl (by (try simp only[List.map_toArray,List.map_cons,List.map_nil]);first|done|rfl) ?_;refine(HI.out 0 (by omega) (.agg #[A 0 0,A 0 1,A 0 2,A 0 3,A 0 4,A 0 5,A 0 6,A 0 7,A 0 8,A 0 9,A 0 10]) (HF.out 0 (by omega)) _ g base _ _ (T 0) u hB.out.1.below hB.out.1.wg hB.out.1.out (hB.out.2.less fun _ h=>Or.inl h) (HT.out.2)).mono ?_;rintro r w2 ⟨rfl,u2,ho,hm⟩;rw[←HT.out.1]at ho;have H_w2:=hd0 (hB.out.1.step hm ho);refine⟨_,rfl,hK.out _ _ H_w2.out.z (fun _=>?_)⟩;clear hK K ho hm;refine nm_ ?_;refine QCZ (by kernel_rfl) ?_;clear H1 c0 b1;have b10:=H_w2.out.box 10 _ rfl;have ef:=H_w2.out.efz 10;have wr1:((n:Int) - 1).toNat=n - 1:=by omega
 by_cases hca1:ca=1
 ·
  subst hca1;obtain rfl:n=1:=by omega
  have HAT:=hd0 (show Row W 11 (some ⟨qb,qo,none⟩) 0 (fun j=>A (1+j))from fun j hj=>absurd hj (by omega));have HS:=hd0 (show FrS W w (Z9 9 s num tk ts tl th tp tn tc pp np cp pk nk ck (some ⟨qb,qo,none⟩) 0 0) p l g base u (T (1+0)) u2 (w2.setCell ⟨w.heap.size,10,none⟩ (.slice (some ⟨qb,qo,none⟩) (0) 0))from H_w2.out.setE 10 _);have b10s:=HS.out.box 10 _ rfl
  go_wp2_with fail
  go_loopw [104] (fun v104 wr=>∃j:Nat,j≤0∧v104= .int .i64 j∧Hid (∃uj,FrS W w (Z9 9 s num tk ts tl th tp tn tc pp np cp pk nk ck (some ⟨qb,qo,none⟩) 0 0) p l g base u (T (1+j)) uj wr)) (fun v104 _=>0 - (intOf v104).toNat)
  case atStart=>exact⟨0,Nat.zero_le _,rfl,hd0 ⟨_,HS.out⟩⟩
  case round=>
   obtain⟨j,hj,rfl,HR⟩:=hrel;obtain⟨uj,hR⟩:=HR.out;have HR:=hd0 hR;clear hR;have ic:=HR.out.ic
   by_cases hlt:j<0
   ·
    exact absurd hlt (Nat.not_lt_zero _)
   ·
    have g0:decide ((j:Int)<(0:Nat))=false:=decide_eq_false (by omega);have HV:=hd0 (show FrS W w (Z9 9 s num tk ts tl th tp tn tc pp np cp pk nk ck (some ⟨qb,qo,none⟩) 0 0) p l g base u (T 1) uj wr from by rw[show T 1=T (1+j)from by congr 1;omega];exact HR.out);clear HR;go_wp2;refine bodyPost_end (v:= .tuple #[]) (by simp[results,results44,go_sem]) rfl ⟨rfl,_,HV.out.out,HV.out.mv⟩
 ·
  have hx:=hca1;have HS:=hd0 (show FrS W w (Z9 9 s num tk ts tl th tp tn tc pp np cp pk nk ck (some ⟨qb,qo+11,none⟩) (n - 1) (ca - 1)) p l g base u (T (1+0)) u2 (w2.setCell ⟨w.heap.size,10,none⟩ (.slice (some ⟨qb,qo+11,none⟩) (n - 1) (ca - 1)))from H_w2.out.setE 10 _);have b10s:=HS.out.box 10 _ rfl
  go_wp2_with fail
  go_loopw [104] (fun v104 wr=>∃j:Nat,j≤n - 1∧v104= .int .i64 j∧Hid (∃uj,FrS W w (Z9 9 s num tk ts tl th tp tn tc pp np cp pk nk ck (some ⟨qb,qo+11,none⟩) (n - 1) (ca - 1)) p l g base u (T (1+j)) uj wr)) (fun v104 _=>n - 1 - (intOf v104).toNat)
  case atStart=>exact⟨0,Nat.zero_le _,rfl,hd0 ⟨_,HS.out⟩⟩
  case round=>
   obtain⟨j,hj,rfl,HR⟩:=hrel;obtain⟨uj,hR⟩:=HR.out;have HR:=hd0 hR;clear hR;have ic:=HR.out.ic
   by_cases hlt:j<n - 1
   ·
    have g0:decide ((j:Int)<(n - 1:Nat))=true:=decide_eq_true (by omega);have g1:(0:Int)≤j:=by omega
    have g2:(j:Int)<(n - 1:Nat):=by omega
    obtain⟨k3,s3,m3,a3,u3,l3,h3,p3,y3,z3,g3,v3,x3,j3,w3,o3,q3,r3,t3,tf3,pn3,pt3,ks3,ff3,AA3,hv3,he3, -, -⟩:=(HET.out j hlt).cells;have HCI:=hd0 ((HAT.out.at11 hlt hv3).under HR.out.below);have HV:=hd0 (show ExR W (.agg (Z9 k3 s3 m3 a3 u3 l3 h3 p3 y3 z3 g3 v3 x3 j3 w3 o3 q3 r3 t3)) (f (1+j))from by rw[←hv3];exact HET.out j hlt);clear hv3 he3;have HNX:=hd0 (HR.out.under ((Below.refl _ _).alloc (Nat.le_refl _) (.cells #[.int .i64 k3,.string s3,.int .i64 m3,.int .i64 a3,.string u3,.int .i64 l3,.int .i64 h3,.slice p3 y3 z3,.slice g3 v3 x3,.slice j3 w3 o3,.slice q3 r3 t3] 29)));have ic2:=HNX.out.ic
    go_wp2_with (first
     |refine lc_ HCI.out ?_
     |refine QAK 29 (.tmp 11) (.tmp 107) rfl rfl rfl wr _ #[.int .i64 k3,.string s3,.int .i64 m3,.int .i64 a3,.string u3,.int .i64 l3,.int .i64 h3,.slice p3 y3 z3,.slice g3 v3 x3,.slice j3 w3 o3,.slice q3 r3 t3] rfl (by rfl) rfl infoEx rfl (by simp[Value.oneCell']) ?_
     |refine lb_ (QAS wr _ _) ?_)
    refine(HIT.out j hlt (.agg (Z9 k3 s3 m3 a3 u3 l3 h3 p3 y3 z3 g3 v3 x3 j3 w3 o3 q3 r3 t3)) HV.out _ g base _ _ (T (1+j)) uj HNX.out.below HNX.out.wg HNX.out.out HNX.out.chain (HTT.out j hlt).2).mono ?_;rintro r wn ⟨rfl,un,ho,hm⟩;rw[←(HTT.out j hlt).1]at ho;have HN:=hd0 (HNX.out.step hm ho);clear ho hm ic ic2;go_wp2;go_roundw
    case rel=>exact⟨j+1,by omega,by go_num,hd0 ⟨un,HN.out⟩⟩
    case measure=>simp[intOf];omega
   ·
    have g0:decide ((j:Int)<(n - 1:Nat))=false:=decide_eq_false (by omega);have HV:=hd0 (show FrS W w (Z9 9 s num tk ts tl th tp tn tc pp np cp pk nk ck (some ⟨qb,qo+11,none⟩) (n - 1) (ca - 1)) p l g base u (T n) uj wr from by rw[show T n=T (1+j)from by congr 1;omega];exact HR.out);clear HR;go_wp2;refine bodyPost_end (v:= .tuple #[]) (by simp[results,results44,go_sem]) rfl ⟨rfl,_,HV.out.out,HV.out.mv⟩
structure MvR(u u':Value)(w w':World):Prop where
 grow:w.grownBy w' u.ownBlock
 own:u'.ownBlock=u.ownBlock∨∃k,u'.ownBlock=some k∧w.heap.size≤k
theorem MvR.new {u:Value}{w w':World}(hb:Below w.heap.size w w'):MvR u u w w':=⟨⟨hb.os,hb.tape,hb.output,hb.size,fun k hk _=>hb.block k hk⟩,Or.inl rfl⟩
theorem MvR.old {u u':Value}{w w':World}(h:MvR u u' w w'){b:Nat}(hb:b<w.heap.size)(e:u'.ownBlock=some b):u.ownBlock=some b:=by
 rcases h.own with e1|⟨j,e1,hj⟩
 ·
  exact e1.symm.trans e
 ·
  rw[e1]at e;injection e with e
  omega
theorem MvR.trans {u u1 u2:Value}{w w1 w2:World}(h:MvR u u1 w w1)(k:MvR u1 u2 w1 w2):MvR u u2 w w2:=by
 refine⟨⟨k.grow.os.trans h.grow.os,k.grow.tape.trans h.grow.tape,k.grow.output.trans h.grow.output,Nat.le_trans h.grow.size k.grow.size,fun b hb ho=>?_⟩,?_⟩
 ·
  exact(k.grow.block b (Nat.lt_of_lt_of_le hb h.grow.size) (fun e=>ho (h.old hb e.symm).symm)).trans (h.grow.block b hb ho)
 ·
  rcases k.own with e|⟨j,e,hj⟩
  ·
   rcases h.own with e1|⟨j,e1,hj⟩
   ·
    exact Or.inl (e.trans e1)
   ·
    exact Or.inr ⟨j,e.trans e1,hj⟩
  ·
   exact Or.inr ⟨j,e,Nat.le_trans h.grow.size hj⟩
structure ROut(base:Nat)(L:List ByteArray)(u:Value)(w:World):Prop where
 own:w.ownsRow base 9 1 u L.length (L.map Value.string)
 le:base≤w.heap.size
 small:∀s∈L,s.size≤QDP
theorem ROut.under {base:Nat}{L:List ByteArray}{u:Value}{w w':World}(h:ROut base L u w)(hb:Below w.heap.size w w'):ROut base L u w':=
 ⟨h.own.kept (row:=none) (QF6 hb) (by cases u.ownBlock <;> simp),Nat.le_trans h.le hb.size,h.small⟩
theorem ROut.kept {base:Nat}{L:List ByteArray}{u:Value}{w w':World}{row:Option Nat}(h:ROut base L u w)(hg:w.grownBy w' row)(hne:u.ownBlock=none∨u.ownBlock≠row):ROut base L u w':=
 ⟨h.own.kept hg hne,Nat.le_trans h.le hg.size,h.small⟩
theorem ROut.strs {base:Nat}{L:List ByteArray}{u:Value}{w:World}(h:ROut base L u w)(hn:L.length≤QES):StrL w u L:=StrL.own h.own hn h.small
theorem ROut.off {base:Nat}{L:List ByteArray}{u:Value}{w:World}{G:Nat→Prop}(h:ROut base L u w)(hn:L.length≤QES)(hG:∀b,u.ownBlock=some b→¬G b):Off G w (fun w=>StrL w u L):=by
 intro w' hs hk;refine StrL.own (B:=base) ?_ hn h.small;refine⟨h.own.1,?_⟩;rcases h.own.2 with hh|⟨g,cap,cur,rfl,hb,hg,rest⟩
 ·
  exact Or.inl hh
 ·
  exact Or.inr ⟨g,cap,cur,rfl,hb,(hk g (Array.getElem?_eq_some_iff.1 hg).1 (hG g rfl)).trans hg,rest⟩
theorem QKC {l m:List ByteArray}(h:∀s∈l,s.size≤QDP)(k:∀s∈m,s.size≤QDP):∀s∈l++m,s.size≤QDP:=fun s hs=>by
 rcases List.mem_append.1 hs with hs|hs
 ·
  exact h s hs
 ·
  exact k s hs
theorem QMv {w:World}{v:Value}{l:List ByteArray}(h:StrL w v l):∀s∈l,s.size≤QDP:=by
 obtain⟨q,c, -,⟨-,A, -,hK⟩, -⟩:=h;intro s hs;obtain⟨j,hj,rfl⟩:=List.getElem_of_mem hs;have h2:(l.getD j ⟨#[]⟩).size≤QDP:=(hK j hj).2;have h3:l.getD j ⟨#[]⟩=l[j]:=by simp[List.getD_eq_getElem?_getD,List.getElem?_eq_getElem hj]
 rw[h3]at h2;exact h2
theorem ROut.app {w:World}{base:Nat}{L X:List ByteArray}{v u:Value}(ty:TypeId)(h:ROut base L v w)(hu:StrL w u X)(hn:L.length+X.length≤100000):
  ∃v' w',(Builtin.append_ #[26,26] ty #[v,u]).run prog w= .ok v' w'∧ROut base (L++X) v' w'∧MvR v v' w w':=by
 obtain⟨v',w',h1,h2,h3,h4⟩:=QQ8 ty h.own hu hn h.le;refine⟨v',w',h1,⟨by rw[List.length_append,List.map_append];exact h2,Nat.le_trans h.le h3.size,QKC h.small (QMv hu)⟩,⟨h3,?_⟩⟩;rcases h4 with e|e
 ·
  exact Or.inl e
 ·
  exact Or.inr ⟨_,e,Nat.le_refl _⟩
theorem QIy {P:Program}{oi:Oper}{a:Act}{w w':World}{v':Value}(t:TypeId)(s x:Operand)(v u:Value)(hop:oi.op= .call {callee:= .builtin .append,args:=#[s,x],argTypes:=#[t,t]})(hs:a.eval s=v)(hx:a.eval x=u)
  (hr:(Builtin.append_ #[t,t] oi.type #[v,u]).run P w= .ok v' w'):(execOp a.eval oi).run P w= .ok (.value v') w':=by
 unfold execOp;simp only[hop,resolve,invoke,builtin,Sem.run_bind,Sem.run_pure,Result.andThen_ok,List.map_toArray,List.map_cons,List.map_nil,hs,hx,hr]
theorem QPu(A X:List ByteArray):(fun x=>QAy A x||QAy X x)=QAy (A++X):=by
 funext x
 unfold QAy;rw[List.any_append]
structure RfS(W w:World)(E:Array Value)(su:Value)(A:List ByteArray)(base:Nat)(u:Value)(L:List ByteArray)(u':Value)(wx:World):Prop where
 below:Below W.heap.size W wx
 wg:W.heap.size≤base
 e:BoxAt wx w.heap.size E
 lt:w.heap.size<wx.heap.size
 out:ROut base L u' wx
 sc:Off (fun b=>u'.ownBlock=some b∨b=w.heap.size) wx (fun w=>StrL w su A)
 mv:MvR u u' w wx
 ob:u'.ownBlock≠some w.heap.size
section
variable {W w wx : World} {E : Array Value} {su : Value} {A : List ByteArray} {base : Nat} {u u' : Value} {L : List ByteArray}
theorem RfS.scope(h:RfS W w E su A base u L u' wx):StrL wx su A:=h.sc.out
theorem RfS.start(hW:Below W.heap.size W w)(hg:W.heap.size≤base)(hO:ROut base L u w)(hC:Off (fun b=>u.ownBlock=some b) w (fun w=>StrL w su A)):
  RfS W w E su A base u L u (w.alloc (.cells E 29)):=by
 have hb:Below w.heap.size w (w.alloc (.cells E 29)):=(Below.refl _ _).alloc (Nat.le_refl _) _;exact⟨hW.trans (hb.mono hW.size),hg,QAS w E _,by simp,hO.under hb,hC.new _,MvR.new hb,fun h=>by have:=(hO.own.lt _ h).2;omega⟩
theorem RfS.step {u2:Value}{L2:List ByteArray}{wy:World}(h:RfS W w E su A base u L u' wx)(mv:MvR u' u2 wx wy)(out:ROut base L2 u2 wy):RfS W w E su A base u L2 u2 wy:=by
 have hlt:=h.lt;refine⟨h.below.grown mv.grow h.below.size (fun k hk=>by have:=(h.out.own.lt k hk).1;have:=h.wg;omega),h.wg,fun j v hj=>?_,Nat.lt_of_lt_of_le hlt mv.grow.size,out,?_,h.mv.trans mv,fun e=>h.ob (mv.old hlt e)⟩
 ·
  have:=mv.grow.block w.heap.size hlt (fun e=>h.ob e.symm);rw[World.cell?_of_block (w:=wx) (a:=⟨w.heap.size,j,none⟩) this];exact h.e j v hj
 ·
  refine h.sc.step mv.grow.size (fun b hb hn=>mv.grow.block b hb (fun e=>hn (Or.inl e.symm))) (fun b hb hG=>?_);rcases hG with e|e
  ·
   exact Or.inl (mv.old hb e)
  ·
   exact Or.inr e
theorem RfS.under {wy:World}(h:RfS W w E su A base u L u' wx)(hb:Below wx.heap.size wx wy):RfS W w E su A base u L u' wy:=h.step (MvR.new hb) (h.out.under hb)
theorem RfS.drew(h:RfS W w E su A base u L u' wx):RfS W w E su A base u L u' wx.drew:=h.under ((Below.refl _ _).drew)
theorem RfS.far {wy:World}(h:RfS W w E su A base u L u' wx)(hb:Below wx.heap.size wx wy){v:Value}{X:List ByteArray}{B:Nat}(hv:ROut B X v wy)(hB:wx.heap.size≤B)(hX:X.length≤QES):Off (fun b=>u'.ownBlock=some b) wy (fun w=>StrL w v X):=by
 refine hv.off hX (fun b hb1 hb2=>?_);have:=(hv.own.lt b hb1).1;have:=(h.out.own.lt b hb2).2;omega
end
structure RfZ(W w:World)(E:Array Value)(wx:World):Prop where
 below:Below W.heap.size W wx
 box:BoxAt wx w.heap.size E
theorem RfS.z {W w wx:World}{E:Array Value}{su:Value}{A:List ByteArray}{base:Nat}{u u':Value}{L:List ByteArray}(h:RfS W w E su A base u L u' wx):RfZ W w E wx:=⟨h.below,h.e⟩
theorem RfZ.under {W w w1 w2:World}{E:Array Value}(h:RfZ W w E w1)(hb:Below w1.heap.size w1 w2):RfZ W w E w2:=⟨h.below.trans (hb.mono h.below.size),fun j v hj=>QAA hb (h.box j v hj)⟩
theorem StrL.str {w:World}{q:Option Addr}{n c:Nat}{l:List ByteArray}(h:StrL w (.slice q n c) l):n=l.length∧StrR w l.length q (fun j=>l.getD j ⟨#[]⟩):=by
 obtain⟨q',c',e,hS, -⟩:=h;injection e with e1 e2 e3
 subst e1;exact⟨e2,hS⟩
theorem QSm(e:Ex)(i:Nat):(e.inn i).length≤e.npr+1:=by
 rcases e with ⟨k,num,s,ty,np,pn,pt,nk,ks,n,f⟩|_
 case no=>exact Nat.zero_le _
 unfold Ex.inn Ex.npr;simp only
 split
 ·
  split <;> simp
 ·
  split
  ·
   rw[List.length_append,List.length_map,List.length_range]
   split <;> simp <;> omega
  ·
   split
   ·
    split <;> simp
   ·
    simp
theorem QLg(n:Nat)(ks:Nat→ByteArray)(s:ByteArray):decide (QEF n ks s<0)=!QMK n ks s:=by
 rw[←QIH]
 by_cases h:QEF n ks s<0
 ·
  rw[decide_eq_true h,decide_eq_false (by omega)];rfl
 ·
  rw[decide_eq_false h,decide_eq_true (by omega)];rfl
def QLy(W:World)(e:Ex):Prop:=∀v,ExR W v e→∀(w:World) (base:Nat) (su:Value) (A:List ByteArray) (L:List ByteArray) (u:Value),Below W.heap.size W w→W.heap.size≤base→ROut base L u w→Off (fun b=>u.ownBlock=some b) w (fun w=>StrL w su A)→L.length+e.siz≤50000→A.length+7*e.siz≤50000→
 Calls prog 47 #[v,su,u] w fun r w'=>∃u',r= .returned u'∧ROut base (e.fre (QAy A) L) u' w'∧MvR u u' w w'
theorem QOl {W:World}(e:Ex)(hfit:e.fitB=true)(h3:e.k=3)(ih:∀i,i<e.len→QLy W (e.arg i)):QLy W e:=by
 intro v h w base su SA L u hW hg hO hC hn hAn;have hnm:e.len≤1100000:=h.len_le;have hft:=e.fit_out hfit;rw[Ex.fre_eq];have hst:∀i,e.freTo (QAy SA) L (i+1)=(e.arg i).fre (fun x=>QAy SA x||QAy (e.inn i) x) (e.freTo (QAy SA) L i):=e.freTo_succ (QAy SA) L;have hz:e.freTo (QAy SA) L 0=if(e.k==3)&&(!QAy SA e.nm&&!QAy L e.nm) then L++ [e.nm] else L:=rfl
 have hsz:∀i,i<e.len→(e.freTo (QAy SA) L i).length+(e.arg i).siz≤50000:=fun i hi=>by
  have h1:=e.freTo_len (QAy SA) L i;have h2:=QKF hi (fun j=>(e.arg j).siz);have h3:=e.siz_eq;omega
 have hsa:∀i,i<e.len→SA.length+7+7*(e.arg i).siz≤50000:=fun i hi=>by
  have h2:=QKF hi (fun j=>(e.arg j).siz);have h3:=e.siz_eq;omega
 generalize e.freTo (QAy SA) L=T at*;obtain⟨k,s,num,tk,ts,tl,th,tp,tn,tc,pp,np,cp,pk,nk,ck,pa,n,ca,tf,pn,pt,ks,f,A,rfl,he,hA,hf⟩:=h.cells;have hmore:=((show ExR W _ (Ex.mk k num s (.mk tk tl th ts tn tf) np pn pt nk ks n f)from by rw[←he];exact h)).more;have hcaps:=h.caps;have hlen:e.len=n:=by rw[he];rfl
 have harg:∀i,e.arg i=f i:=fun i=>by rw[he];rfl
 have hnmE:e.nm=s:=by rw[he];rfl
 have hk:e.k=k:=by rw[he];rfl
 have hnp:e.npr=np:=by rw[he];rfl
 have hinn:∀i,e.inn i=if k=6 then(if((i:Int)==1)||(((f 0).k==8)&& !((f 0).nm.toList== [])) then [s] else []) else if k=8 then(if s.toList== [] then [] else [s])++(List.range np).map pn else if k=9 then(if((i:Int)==0)&& !(s.toList== []) then [s] else []) else []:=fun i=>by rw[he];rfl
 simp only[hlen,harg,hnmE,hk,hnp]at hft hst hz hsz hsa ih hnm ⊢;have h3:k=3:=by rw[←hk];exact h3
 clear h he hlen harg hnmE hk hnp;have n0:n=0:=hft.2.1 h3;subst n0 h3;have HT:=hd0 (show T 0=if !QAy SA s&&!QAy L s then L++ [s] else L from hz);have HN:=hd0 (show L.length≤100000∧s.size≤QDP from⟨by omega,hmore.1⟩);obtain⟨sq,sc,rfl, -, -⟩:=hC.out;obtain⟨uq,uc,rfl, -, -⟩:=hO.strs (by unfold QES;omega);have HW:=hd0 (And.intro hW (And.intro hg (And.intro hO hC)));clear hft hst hz hsz hsa ih hnm hmore hcaps hinn hA hf hW hg hO hC hn hAn;generalize T 0=TE at*;go_enter func47,ntmps47;go_upto_region 1 with fail;refine QA8 (fun wx=>Hid (RfS W w (Z9 3 s num tk ts tl th tp tn tc pp np cp pk nk ck pa 0 ca) (.slice sq SA.length sc) SA base (.slice uq L.length uc) L (.slice uq L.length uc) wx)) (hd0 (RfS.start HW.out.1 HW.out.2.1 HW.out.2.2.1 HW.out.2.2.2)) ?_;intro w1 H1;have c0:=H1.out.e 0 _ rfl;have c1:=H1.out.e 1 _ rfl;have c10:=H1.out.e 10 _ rfl;have HI1:=hd0 (QDu H1.out.scope.str.2 s w1 (Below.refl _ _) sc);have HI2:=hd0 (QDu (H1.out.out.strs (by have:=HN.out.1;unfold QES;omega)).str.2 s w1 (Below.refl _ _) uc);have hd1:decide (QEF SA.length (fun j=>SA.getD j ⟨#[]⟩) s<0)=!QAy SA s:=by rw[QLg,QGT]
 have hd2:decide (QEF L.length (fun j=>L.getD j ⟨#[]⟩) s<0)=!QAy L s:=by rw[QLg,QGT]
 generalize QEF SA.length (fun j=>SA.getD j ⟨#[]⟩) s=r1 at*;generalize QEF L.length (fun j=>L.getD j ⟨#[]⟩) s=r2 at*;have HD2:=hd0 hd2;clear hd2
 go_wp2_with fail
 refine HI1.out.mono ?_;rintro r w2 ⟨rfl,rfl⟩
 cases m1:QAy SA s with
 |true=>
  rw[m1]at hd1;simp only[Bool.not_true]at hd1;have HV:=hd0 (show TE=L by rw[HT.out,m1];rfl);clear HT HI2 m1
  go_wp2_with fail
  go_loopw [2,7] (fun v2 v7 wr=>v2= .slice uq L.length uc∧v7= .int .i64 0∧wr=w2) (fun _ _ _=>0)
  case atStart=>exact⟨rfl,rfl,rfl⟩
  case round=>
   obtain⟨rfl,rfl,rfl⟩:=hrel;clear hd1;go_wp2;refine bodyPost_ret (v:= .slice uq L.length uc) (by simp[results,results47,go_sem]) rfl ⟨_,rfl,by rw[HV.out];exact H1.out.out,H1.out.mv⟩
 |false=>
  rw[m1]at hd1;simp only[Bool.not_false]at hd1
  go_wp2_with fail
  refine HI2.out.mono ?_;rintro r w3 ⟨rfl,rfl⟩;have hd2:=HD2.out
  cases m2:QAy L s with
  |true=>
   rw[m2]at hd2;simp only[Bool.not_true]at hd2;have HV:=hd0 (show TE=L by rw[HT.out,m1,m2];rfl);clear HT m1 m2 HD2
   go_wp2_with fail
   go_loopw [2,7] (fun v2 v7 wr=>v2= .slice uq L.length uc∧v7= .int .i64 0∧wr=w3) (fun _ _ _=>0)
   case atStart=>exact⟨rfl,rfl,rfl⟩
   case round=>
    obtain⟨rfl,rfl,rfl⟩:=hrel;clear hd1 hd2;go_wp2;refine bodyPost_ret (v:= .slice uq L.length uc) (by simp[results,results47,go_sem]) rfl ⟨_,rfl,by rw[HV.out];exact H1.out.out,H1.out.mv⟩
  |false=>
   rw[m2]at hd2;simp only[Bool.not_false]at hd2;have HV:=hd0 (show TE=L++ [s] by rw[HT.out,m1,m2];rfl);clear HT m1 m2 HD2;have hle:=H1.out.out.le
   go_wp2_with (refine QF3 s rfl (.tmp 25) (.tmp 28) rfl base (.slice uq L.length uc) L.length _ rfl H1.out.out.own rfl (by have:=HN.out.1;omega) hle ?_)
   intro v' w' how hgr hob;have hsz:=hgr.size;simp only[World.size_alloc]at hsz hob
   have H2:=hd0 (H1.out.step (u2:=v') (L2:=L++ [s]) (wy:=w') ⟨⟨hgr.os,hgr.tape,hgr.output,by omega,fun b hb ho=>(hgr.block b (by rw[World.size_alloc];omega) ho).trans (Below.heap_alloc _ _ _ hb)⟩,by
    rcases hob with e|e
    ·
     exact Or.inl e
    ·
     exact Or.inr ⟨_,e,by omega⟩⟩ ⟨by rw[List.length_append,List.map_append];exact how,by omega,QKC H1.out.out.small (fun x hx=>by rw[List.mem_singleton.1 hx];exact HN.out.2)⟩)
   have c10':=H2.out.e 10 _ rfl;clear how hgr hob hsz c0 c1 c10 hle
   go_wp2_with fail
   go_loopw [2,7] (fun v2 v7 wr=>v2=v'∧v7= .int .i64 0∧wr=w') (fun _ _ _=>0)
   case atStart=>exact⟨rfl,rfl,rfl⟩
   case round=>
    obtain⟨hv2,rfl,rfl⟩:=hrel;subst hv2;clear hd1 hd2;go_wp2;refine bodyPost_ret (v:=u2) (by simp[results,results47,go_sem]) rfl ⟨_,rfl,by rw[HV.out];exact H2.out.out,H2.out.mv⟩
theorem QMa {W:World}(e:Ex)(hfit:e.fitB=true)(k3:e.k≠3)(ih:∀i,i<e.len→QLy W (e.arg i)):QLy W e:=by
 have hinv:=fun(v:Value) (h:ExR W v e) i (hi:i<e.len) (hp:e.npr≤1000)=>QNr h i hi hp
 intro v h w base su SA L u hW hg hO hC hn hAn;have hnm:e.len≤1100000:=h.len_le;have hft:=e.fit_out hfit;rw[Ex.fre_eq];have hst:∀i,e.freTo (QAy SA) L (i+1)=(e.arg i).fre (fun x=>QAy SA x||QAy (e.inn i) x) (e.freTo (QAy SA) L i):=e.freTo_succ (QAy SA) L;have hz:e.freTo (QAy SA) L 0=if(e.k==3)&&(!QAy SA e.nm&&!QAy L e.nm) then L++ [e.nm] else L:=rfl
 have hsz:∀i,i<e.len→(e.freTo (QAy SA) L i).length+(e.arg i).siz≤50000:=fun i hi=>by
  have h1:=e.freTo_len (QAy SA) L i;have h2:=QKF hi (fun j=>(e.arg j).siz);have h3:=e.siz_eq;omega
 have hsa:∀i,i<e.len→SA.length+7+7*(e.arg i).siz≤50000:=fun i hi=>by
  have h2:=QKF hi (fun j=>(e.arg j).siz);have h3:=e.siz_eq;omega
 generalize e.freTo (QAy SA) L=T at*;obtain⟨k,s,num,tk,ts,tl,th,tp,tn,tc,pp,np,cp,pk,nk,ck,pa,n,ca,tf,pn,pt,ks,f,A,rfl,he,hA,hf⟩:=h.cells;have hmore:=((show ExR W _ (Ex.mk k num s (.mk tk tl th ts tn tf) np pn pt nk ks n f)from by rw[←he];exact h)).more;have hinv:=hinv _ h;have hcaps:=h.caps;have hlen:e.len=n:=by rw[he];rfl
 have harg:∀i,e.arg i=f i:=fun i=>by rw[he];rfl
 have hnmE:e.nm=s:=by rw[he];rfl
 have hk:e.k=k:=by rw[he];rfl
 have hnp:e.npr=np:=by rw[he];rfl
 have hinn:∀i,e.inn i=if k=6 then(if((i:Int)==1)||(((f 0).k==8)&& !((f 0).nm.toList== [])) then [s] else []) else if k=8 then(if s.toList== [] then [] else [s])++(List.range np).map pn else if k=9 then(if((i:Int)==0)&& !(s.toList== []) then [s] else []) else []:=fun i=>by rw[he];rfl
 simp only[hlen,harg,hnmE,hk,hnp]at hft hst hz hsz hsa hinv ih hnm ⊢;rw[hk]at k3;have hnp':=hnp
 have HTT:=hd0 (show∀j,j<n→T (j+1)=(f j).fre (QAy (SA++e.inn j)) (T j)∧(T j).length+(f j).siz≤50000∧SA.length+7+7*(f j).siz≤50000∧(e.inn j).length≤7 from fun j hj=>⟨by
  rw[hst j,QPu],hsz j hj,hsa j hj,by have:=QSm e j;rw[hnp']at this;have:=hft.1;omega⟩)
 have HIN:=hd0 (fun i hi w hw=>hinv i hi (by have:=hft.1;omega) w hw);generalize e.inn=I at*;clear h he hlen harg hnmE hk hnp hnp';have HT0:=hd0 (show T 0=L from by rw[hz,show(k==3)=false from beq_eq_false_iff_ne.2 k3];rfl);have HAT:=hd0 hA;have HET:=hd0 hf;have HIT:=hd0 ih;have HAN:=hd0 (show SA.length≤50000 from by omega);have HW:=hd0 (And.intro hW (And.intro hg (And.intro (show ROut base (T 0) u w by rw[HT0.out];exact hO) hC)));have e3:(k==3)=false:=beq_eq_false_iff_ne.2 k3;clear hft hst hz hsz hsa hinv ih hmore hcaps hinn hA hf hW hg hO hC hn hAn k3;go_enter func47,ntmps47;go_upto_region 1 with fail;refine QA8 (fun wx=>Hid (RfS W w (Z9 k s num tk ts tl th tp tn tc pp np cp pk nk ck pa n ca) su SA base u (T 0) u wx)) (hd0 (RfS.start HW.out.1 HW.out.2.1 HW.out.2.2.1 HW.out.2.2.2)) ?_;intro w1 H1;have c0:=H1.out.e 0 _ rfl
 go_wp2_with fail
 clear c0
 go_loopw [2,7] (fun v2 v7 wr=>∃j:Nat,j≤n∧v7= .int .i64 j∧Hid (RfS W w (Z9 k s num tk ts tl th tp tn tc pp np cp pk nk ck pa n ca) su SA base u (T j) v2 wr)) (fun _ v7 _=>n - (intOf v7).toNat)
 case atStart=>exact⟨0,Nat.zero_le _,rfl,H1⟩
 case round=>
  obtain⟨j,hj,rfl,HR⟩:=hrel;clear H1;have c10:=HR.out.e 10 _ rfl
  by_cases hlt:j<n
  ·
   have g0:decide ((j:Int)<n)=true:=decide_eq_true (by omega);have g1:(0:Int)≤j:=by omega
   have g2:(j:Int)<n:=by omega
   obtain⟨qb,qo,rfl, -⟩:=HAT.out j hlt;have HCI:=hd0 (HAT.out.at11 hlt (X:=#[A j 0,A j 1,A j 2,A j 3,A j 4,A j 5,A j 6,A j 7,A j 8,A j 9,A j 10]) rfl);go_upto_region 6 with fail;clear c10;refine QBr (n:=15) (S:=RfZ W w (Z9 k s num tk ts tl th tp tn tc pp np cp pk nk ck (some ⟨qb,qo,none⟩) n ca)) (ds:= []) (bs 15 0) (by kernel_rfl) rfl rfl HR.out.drew.z (fun hS=>?_);refine pu_ 0 37 ?_;refine tk_ 1 38 rfl rfl hS (by intro wz hz;have b10:=hz.box 10 _ rfl;go_simp;with_reducible rfl) ?_;refine pu_ 2 39 ?_;refine pu_ 3 40 ?_;refine tk_ 4 41 rfl rfl hS (fun wz hz=>QAP 29 _ rfl qb (qo+j*11) #[A j 0,A j 1,A j 2,A j 3,A j 4,A j 5,A j 6,A j 7,A j 8,A j 9,A j 10] _ underlying29 rfl infoEx (HCI.out.under hz.below)) ?_;refine pu_ 6 43 ?_;refine tk_ 8 45 rfl rfl hS (fun wz hz=>QAP 29 _ rfl w.heap.size 0 #[.int .i64 k,.string s,.int .i64 num,.int .i64 tk,.string ts,.int .i64 tl,.int .i64 th,.slice tp tn tc,.slice pp np cp,.slice pk nk ck,.slice (some ⟨qb,qo,none⟩) n ca] _ underlying29 rfl infoEx (fun i v hi=>by rw[Nat.zero_add];exact hz.box i v hi)) ?_;refine pu_ 9 46 ?_;refine pu_ 12 49 ?_;have HD:=hd0 HR.out.drew;clear HR;refine on_ 5 (some 42) rfl rfl (fun K hK=>?_);have hb1:Below wr.drew.heap.size wr.drew (wr.drew.alloc (.cells #[] 9)):=(Below.refl _ _).alloc (Nat.le_refl _) _;have ho1:ROut wr.drew.heap.size [] (.slice (some ⟨wr.drew.heap.size,0,none⟩) 0 0) (wr.drew.alloc (.cells #[] 9)):=⟨World.ownsRow_lit wr.drew #[] 0 (Nat.le_refl _) (Nat.zero_le _) rfl,hb1.size,fun _ h=>by cases h⟩
   have H1:=hd0 (show RfS W w (Z9 k s num tk ts tl th tp tn tc pp np cp pk nk ck (some ⟨qb,qo,none⟩) n ca) su SA base u (T j) u2 (wr.drew.alloc (.cells #[] 9))∧Below wr.drew.heap.size wr.drew (wr.drew.alloc (.cells #[] 9))∧ROut wr.drew.heap.size [] (.slice (some ⟨wr.drew.heap.size,0,none⟩) 0 0) (wr.drew.alloc (.cells #[] 9))from⟨HD.out.under hb1,hb1,ho1⟩);refine QKG (w1:=wr.drew.alloc (.cells #[] 9)) (v:= .slice (some ⟨wr.drew.heap.size,0,none⟩) 0 0) (by rfl) rfl (by first|(go_simp;done)|(go_simp;rfl)) (hK.out _ _ H1.out.1.z (fun _=>?_));clear hK K hb1 ho1;refine nm_ ?_;refine on_ 7 (some 44) rfl rfl (fun K hK=>?_);obtain⟨v2,w2,hr2,ho2,hm2⟩:=H1.out.2.2.app 26 H1.out.1.scope (by have:=HAN.out;simp;omega);have hb2:Below wr.drew.heap.size wr.drew w2:=H1.out.2.1.grown hm2.grow H1.out.2.1.size (fun b hb=>(H1.out.2.2.own.lt b hb).1);have H2:=hd0 (show RfS W w (Z9 k s num tk ts tl th tp tn tc pp np cp pk nk ck (some ⟨qb,qo,none⟩) n ca) su SA base u (T j) u2 w2∧Below wr.drew.heap.size wr.drew w2∧ROut wr.drew.heap.size SA v2 w2 from⟨HD.out.under hb2,hb2,by simpa using ho2⟩);refine QKG (w1:=w2) (v:=v2) (by rfl) rfl (QIy 26 (.tmp 42) (.tmp 43) _ _ rfl (by rfl) (by rfl) hr2) (hK.out _ _ H2.out.1.z (fun _=>?_));clear hK K hb2 ho2 hm2 hr2 H1;refine nm_ ?_;refine on_ 10 (some 47) rfl rfl (fun K hK=>?_)
   refine QA6 func93 (by kernel_rfl) rfl #[.agg (Z9 k s num tk ts tl th tp tn tc pp np cp pk nk ck (some ⟨qb,qo,none⟩) n ca),.int .i64 j] (by rfl) rfl rfl (by (try simp only[List.map_toArray,List.map_cons,List.map_nil]);first|done|rfl) ?_;refine(HIN.out j hlt w2 H2.out.1.below).mono ?_;rintro r w3 ⟨⟨ux,rfl,hX⟩,hb3⟩;have hb23:Below wr.drew.heap.size wr.drew w3:=H2.out.2.1.trans (hb3.mono H2.out.2.1.size);have H3:=hd0 (show RfS W w (Z9 k s num tk ts tl th tp tn tc pp np cp pk nk ck (some ⟨qb,qo,none⟩) n ca) su SA base u (T j) u2 w3∧Below wr.drew.heap.size wr.drew w3∧ROut wr.drew.heap.size SA v2 w3∧StrL w3 ux (I j)from⟨HD.out.under hb23,hb23,H2.out.2.2.under hb3,hX⟩);refine⟨_,rfl,hK.out _ _ H3.out.1.z (fun _=>?_)⟩;clear hK K hb3 hb23 hX H2;refine nm_ ?_;refine on_ 11 (some 48) rfl rfl (fun K hK=>?_);obtain⟨v4,w4,hr4,ho4,hm4⟩:=H3.out.2.2.1.app 26 H3.out.2.2.2 (by have:=HAN.out;have:=(HTT.out j hlt).2.2.2;omega);have hb4:Below wr.drew.heap.size wr.drew w4:=H3.out.2.1.grown hm4.grow H3.out.2.1.size (fun b hb=>(H3.out.2.2.1.own.lt b hb).1);have H4:=hd0 (show RfS W w (Z9 k s num tk ts tl th tp tn tc pp np cp pk nk ck (some ⟨qb,qo,none⟩) n ca) su SA base u (T j) u2 w4∧Off (fun b=>u2.ownBlock=some b) w4 (fun w=>StrL w v4 (SA++I j))∧(SA++I j).length≤SA.length+7 from⟨HD.out.under hb4,HD.out.far hb4 ho4 (Nat.le_refl _) (by have:=HAN.out;have:=(HTT.out j hlt).2.2.2;rw[List.length_append];unfold QES;omega),by have:=(HTT.out j hlt).2.2.2;rw[List.length_append];omega⟩)
   refine QKG (w1:=w4) (v:=v4) (by rfl) rfl (QIy 26 (.tmp 44) (.tmp 47) _ _ rfl (by rfl) (by rfl) hr4) (hK.out _ _ H4.out.1.z (fun _=>?_));clear hK K hb4 ho4 hm4 hr4 H3;refine nm_ ?_;refine on_ 13 (some 50) rfl rfl (fun K hK=>?_);refine QA6 func47 (by kernel_rfl) rfl #[.agg #[A j 0,A j 1,A j 2,A j 3,A j 4,A j 5,A j 6,A j 7,A j 8,A j 9,A j 10],v4,u2] (by rfl) rfl rfl (by (try simp only[List.map_toArray,List.map_cons,List.map_nil]);first|done|rfl) ?_;refine(HIT.out j hlt (.agg #[A j 0,A j 1,A j 2,A j 3,A j 4,A j 5,A j 6,A j 7,A j 8,A j 9,A j 10]) (HET.out j hlt) w4 base v4 (SA++I j) (T j) u2 H4.out.1.below H4.out.1.wg H4.out.1.out H4.out.2.1 (HTT.out j hlt).2.1 (by have:=H4.out.2.2;have:=(HTT.out j hlt).2.2.1;omega)).mono ?_;rintro r w5 ⟨u5,rfl,ho5,hm5⟩;rw[←(HTT.out j hlt).1]at ho5;have H5:=hd0 (H4.out.1.step hm5 ho5);refine⟨_,rfl,hK.out _ _ H5.out.z (fun _=>?_)⟩;clear hK K ho5 hm5 H4;refine nm_ ?_;refine pu_ 14 2 ?_;refine QCZ (by kernel_rfl) ?_;go_wp2;go_roundw
   case rel=>exact⟨j+1,by omega,by go_num,H5⟩
   case measure=>simp[intOf];omega
  ·
   have g0:decide ((j:Int)<n)=false:=decide_eq_false (by omega);have HV:=hd0 (show RfS W w (Z9 k s num tk ts tl th tp tn tc pp np cp pk nk ck pa n ca) su SA base u (T n) u2 wr from by rw[show T n=T j from by congr 1;omega];exact HR.out);clear HR;go_wp2;refine bodyPost_ret (v:=u2) (by simp[results,results47,go_sem]) rfl ⟨_,rfl,HV.out.out,HV.out.mv⟩
theorem QOP {W:World}(e:Ex):e.fitB=true→PFree W e:=by
 induction e with
 |no=>intro _ v h;cases h
 |mk k num s ty np pn pt nk ks n f ih=>
  intro hf;have hall:=((Ex.mk k num s ty np pn pt nk ks n f).fit_out hf).2.2.2.2.2.2;have ih':∀i,i<(Ex.mk k num s ty np pn pt nk ks n f).len→PFree W ((Ex.mk k num s ty np pn pt nk ks n f).arg i):=fun i hi=>ih i (hall i hi)
  by_cases k3:k=3
  ·
   exact QOT _ hf k3 ih'
  by_cases k6:k=6
  ·
   exact QOS _ hf k6 ih'
  by_cases k8:k=8
  ·
   cases hs:(s.toList== [])with
   |true=>exact QOQ _ hf k8 hs ih'
   |false=>exact QOR _ hf k8 hs ih'
  by_cases k9:k=9
  ·
   cases hs:(s.toList== [])with
   |true=>exact QJl _ hf k9 hs ih'
   |false=>exact QJm _ hf k9 hs ih'
  exact QK1 _ hf k3 k6 k8 k9 ih'
theorem QOk {W:World}(e:Ex):e.fitB=true→QLy W e:=by
 induction e with
 |no=>intro _ v h;cases h
 |mk k num s ty np pn pt nk ks n f ih=>
  intro hf;have hall:=((Ex.mk k num s ty np pn pt nk ks n f).fit_out hf).2.2.2.2.2.2;have ih':∀i,i<(Ex.mk k num s ty np pn pt nk ks n f).len→QLy W ((Ex.mk k num s ty np pn pt nk ks n f).arg i):=fun i hi=>ih i (hall i hi)
  by_cases k3:k=3
  ·
   exact QOl _ hf k3 ih'
  ·
   exact QMa _ hf k3 ih'
def Ex.free(e:Ex):List ByteArray:=if(e.check !=0)=true then [] else e.fre (QAy []) []
def Ex.size(e:Ex):Nat:=if(e.check !=0)=true then 0 else(e.meas 1 (0,0)).1
theorem QOb {W:World}(hE:Env W)(h9:9≤W.heap.size){v:Value}{e:Ex}(h:ExR W v e)(w:World)(hW:Below W.heap.size W w):
  Calls prog 12 #[v] w fun r w'=>r= .returned (.int .i64 e.size)∧Below w.heap.size w w':=by
 have HZ:=hd0 (show e.size=if(e.check !=0)=true then 0 else(e.meas 1 (0,0)).1 from rfl);have HC:=hd0 (fun w1 (hw1:Below W.heap.size W w1)=>QC6 hE h9 h w1 hw1);have hch0:=e.check_fit;have HH:=hd0 h;have HW:=hd0 hW;have hW0:=hW.size;obtain⟨k,s,num,tk,ts,tl,th,tp,tn,tc,pp,np,cp,pk,nk,ck,pa,n,ca,tf,pn,pt,ks,f,A,rfl,he, -, -⟩:=h.cells;clear he h hW;generalize e.check=chk at*;have HCF:=hd0 hch0;clear hch0;go_enter func12,ntmps12;go_upto_region 1 with fail;refine QBk ?_;intro w1 H1
 go_wp2_with (refine lb_ H1.out.2 ?_)
 refine(HC.out w1 (HW.out.trans (H1.out.1.mono hW0))).mono ?_;rintro r w2 ⟨rfl,hb2⟩;have H2:=hd0 (QAG H1.out hb2);clear hb2 H1 HC
 cases hc:(chk !=0)with
 |true=>
  have HV:=hd0 (show e.size=0 by rw[HZ.out,if_pos hc]);go_wp2;go_ret;exact⟨by rw[HV.out] <;> rfl,H2.out.1⟩
 |false=>
  have hc0:chk=0:=by simpa using hc
  have HV:=hd0 (show e.size=(e.meas 1 (0,0)).1 by rw[HZ.out,hc];rfl);have hC1:CellsAt w2 w.heap.size 0 #[.int .i64 k,.string s,.int .i64 num,.int .i64 tk,.string ts,.int .i64 tl,.int .i64 th,.slice tp tn tc,.slice pp np cp,.slice pk nk ck,.slice pa n ca]:=fun j u hj=>by rw[Nat.zero_add];exact H2.out.2 j u hj
  have HM:=hd0 (QJe (HH.out.under (HW.out.trans (H2.out.1.mono hW0))) (w2.alloc (.cells #[.int .i64 0,.int .i64 0] 61)) w2.heap.size 0 0 1 w.heap.size 0 _ rfl hC1 ((Below.refl _ _).alloc (Nat.le_refl _) _) (Nat.le_refl _) (heap_alloc_last w2 (.cells #[.int .i64 0,.int .i64 0] 61)) (by unfold MXN;omega) (by omega) (by omega));clear hC1 HZ;generalize e.meas 1 (0,0)=st at*;obtain⟨n',d⟩:=st
  go_wp2_with fail
  refine HM.out.mono ?_;rintro r w3 ⟨rfl,hm⟩;have hw3:Below w2.heap.size w2 w3:=hm.below ((Below.refl _ _).alloc (Nat.le_refl _) _) (Nat.le_refl _) (by simp);have m0:w3.cell? ⟨w2.heap.size,0,none⟩=some (.int .i64 (n':Int)):=by have h2:=hm.2;unfold MB at h2;simp only[World.cell?,h2];rfl
  have H3:=hd0 (show Below w.heap.size w w3 from H2.out.1.trans (hw3.mono H2.out.1.size));clear hm hw3 HM;go_wp2;go_ret;exact⟨by rw[HV.out] <;> rfl,H3.out⟩
theorem QOq {W:World}(h9:9≤W.heap.size){v:Value}{e:Ex}(h:ExR W v e)(w:World)(hW:Below W.heap.size W w):
  Calls prog 13 #[v] w fun r w'=>r= .returned (.int .i64 e.size)∧Below w.heap.size w w':=by
 have HZ:=hd0 (show e.size=if(e.check !=0)=true then 0 else(e.meas 1 (0,0)).1 from rfl)
 have HMX:=hd0 (show e.check=0→(e.meas 1 (0,0)).1≤MXN from fun h=>by
  unfold Ex.check QBp at h
  split at h
  ·
   exact absurd h (by decide)
  ·
   omega)
 have HX:=hd0 (fun w1 b (hw1:Below W.heap.size W w1) (hb:W.heap.size≤b) (hB:M3 w1 b 0 0 0)=>(QJu h w1 b 0 0 0 1 hw1 hb hB (Nat.zero_le _) (Nat.zero_le _) (Nat.zero_le _) (Nat.le_refl _)).mono fun r w' hh=>(show r= .returned (.tuple #[])∧E3x b (e.meas 1 (0,0)) w1 w' from hh));have HC:=hd0 (fun w1 (hw1:Below W.heap.size W w1)=>QCn h9 h w1 hw1);have hch0:=e.check_fit;have HH:=hd0 h;have HW:=hd0 hW;have hW0:=hW.size;obtain⟨k,s,num,tk,ts,tl,th,tp,tn,tc,pp,np,cp,pk,nk,ck,pa,n,ca,tf,pn,pt,ks,f,A,rfl,he, -, -⟩:=h.cells;clear he h hW;generalize e.check=chk at*;have HCF:=hd0 hch0;clear hch0;go_enter func13,ntmps13;go_upto_region 1 with fail;refine QBk ?_;intro w1 H1
 go_wp2_with (refine lb_ H1.out.2 ?_)
 refine(HC.out w1 (HW.out.trans (H1.out.1.mono hW0))).mono ?_;rintro r w2 ⟨rfl,hb2⟩;have H2:=hd0 (QAG H1.out hb2);clear hb2 H1 HC
 cases hc:(chk !=0)with
 |true=>
  have HV:=hd0 (show e.size=0 by rw[HZ.out,if_pos hc]);go_wp2;go_ret;exact⟨by rw[HV.out] <;> rfl,H2.out.1⟩
 |false=>
  have hc0:chk=0:=by simpa using hc
  have HV:=hd0 (show e.size=(e.meas 1 (0,0)).1∧(e.meas 1 (0,0)).1≤MXN from⟨by rw[HZ.out,hc];rfl,HMX.out hc0⟩);clear HZ HMX;generalize e.meas 1 (0,0)=st at*;have HN2:=hd0 (show Below w.heap.size w (w2.alloc (.cells #[.int .i64 0,.int .i64 0,.int .i64 0] 68))∧BoxAt (w2.alloc (.cells #[.int .i64 0,.int .i64 0,.int .i64 0] 68)) w.heap.size #[.int .i64 k,.string s,.int .i64 num,.int .i64 tk,.string ts,.int .i64 tl,.int .i64 th,.slice tp tn tc,.slice pp np cp,.slice pk nk ck,.slice pa n ca] from⟨H2.out.1.alloc H2.out.1.size _,fun j v hj=>QAA ((Below.refl _ _).alloc (Nat.le_refl _) _) (H2.out.2 j v hj)⟩);have hsz2:=H2.out.1.size
  go_wp2_with (refine lb_ HN2.out.2 ?_)
  refine(HX.out _ w2.heap.size (HW.out.trans (HN2.out.1.mono hW0)) (by omega) (heap_alloc_last w2 (.cells #[.int .i64 0,.int .i64 0,.int .i64 0] 68))).mono ?_;rintro r w3 ⟨rfl,c',x',t',hC,hR, -, -, -⟩;have m0:=hC.2.c0
  have H3:=hd0 (show Below w.heap.size w w3∧c'=st.1 from⟨hC.below HN2.out.1 hsz2 (by have:=HN2.out.1.size;omega),by
   have:=HV.out.2;rcases hR with ⟨-,h, -⟩|⟨-,h⟩
   ·
    exact h
   ·
    omega⟩)
  clear hC hR HX;go_wp2;go_ret;exact⟨by rw[HV.out.1,←H3.out.2] <;> rfl,H3.out.1⟩
theorem QRH:chB []=QAy []:=rfl
theorem QON {W:World}(hE:Env W)(h9:9≤W.heap.size){v:Value}{e:Ex}(h:ExR W v e)(w:World)(hW:Below W.heap.size W w):
  Calls prog 15 #[v] w fun r w'=>(∃u,r= .returned u∧StrL w' u e.free)∧Below w.heap.size w w':=by
 have HZ:=hd0 (show e.free=if(e.check !=0)=true then [] else e.fre (QAy []) [] from rfl);have hmf:∀(fn:Fn) (first cap:Array Value) (w:World),(Instr.makeFunc fn first cap).run prog w= .ok (.func fn first cap) w:=fun _ _ _ _=>rfl
 have HC:=hd0 (fun w1 (hw1:Below W.heap.size W w1)=>QC6 hE h9 h w1 hw1);have hch0:=e.check_fit;have HH:=hd0 h;have HW:=hd0 hW;have hW0:=hW.size;obtain⟨k,s,num,tk,ts,tl,th,tp,tn,tc,pp,np,cp,pk,nk,ck,pa,n,ca,tf,pn,pt,ks,f,A,rfl,he, -, -⟩:=h.cells;clear he h hW;generalize e.check=chk at*;have HCF:=hd0 hch0;clear hch0;go_enter func15,ntmps15;go_upto_region 1 with fail;refine QBk ?_;intro w1 H1
 go_wp2_with (refine lb_ H1.out.2 ?_)
 refine(HC.out w1 (HW.out.trans (H1.out.1.mono hW0))).mono ?_;rintro r w2 ⟨rfl,hb2⟩;have H2:=hd0 (QAG H1.out hb2);clear hb2 H1 HC
 cases hc:(chk !=0)with
 |true=>
  have HV:=hd0 (show e.free= [] by rw[HZ.out,if_pos hc]);go_wp2;refine bodyPost_ret (v:= .slice none 0 0) (by simp[results,results15,go_sem]) rfl ⟨⟨_,rfl,by rw[HV.out];exact StrL.nil _⟩,H2.out.1⟩
 |false=>
  have hc0:chk=0:=by simpa using hc
  have HV:=hd0 (show e.free=e.fre (QAy []) []∧e.siz≤3000 from⟨by rw[HZ.out,hc];rfl,(HCF.out hc0).2⟩);have HN2:=hd0 (show Below w.heap.size w (w2.alloc (.cells #[.slice none 0 0] 26))∧BoxAt (w2.alloc (.cells #[.slice none 0 0] 26)) w.heap.size #[.int .i64 k,.string s,.int .i64 num,.int .i64 tk,.string ts,.int .i64 tl,.int .i64 th,.slice tp tn tc,.slice pp np cp,.slice pk nk ck,.slice pa n ca] from⟨H2.out.1.alloc H2.out.1.size _,fun j v hj=>QAA ((Below.refl _ _).alloc (Nat.le_refl _) _) (H2.out.2 j v hj)⟩);have hsz2:=H2.out.1.size;have HO:=hd0 (show FOut w2.heap.size (w2.heap.size+1) [] (.slice none 0 0) (w2.alloc (.cells #[.slice none 0 0] 26))from⟨heap_alloc_last _ _,World.ownsRow_nil _ _ _ _,Nat.lt_succ_self _,by rw[World.size_alloc];exact Nat.le_refl _,fun _ h=>by cases h⟩)
  go_wp2_with (refine lb_ HN2.out.2 ?_)
  refine(QOP (W:=W) e (HCF.out hc0).1 _ HH.out _ w2.heap.size (w2.heap.size+1) none [] [] (.slice none 0 0) (HW.out.trans (HN2.out.1.mono hW0)) (by omega) HO.out (fun _ _ _=>Chain.nil) (by have:=HV.out.2;simp;omega)).mono ?_;rintro r w3 ⟨rfl,u3,ho,hm⟩;rw[QRH]at ho;have c3:=ho.cell;have H3:=hd0 (show Below w.heap.size w w3∧StrL w3 u3 (e.fre (QAy []) [])from⟨hm.below HN2.out.1 hsz2 (fun k hk=>by cases hk) HN2.out.1.size,ho.strs (by have:=e.fre_len (QAy []) [];have:=HV.out.2;simp only[List.length_nil]at*;unfold QES;omega)⟩);clear ho hm;go_wp2;refine bodyPost_ret (v:=u3) (by simp[results,results15,go_sem]) rfl ⟨⟨_,rfl,by rw[HV.out.1];exact H3.out.2⟩,H3.out.1⟩
theorem QOd {W:World}(h9:9≤W.heap.size){v:Value}{e:Ex}(h:ExR W v e)(w:World)(hW:Below W.heap.size W w):
  Calls prog 16 #[v] w fun r w'=>(∃u,r= .returned u∧StrL w' u e.free)∧Below w.heap.size w w':=by
 have HZ:=hd0 (show e.free=if(e.check !=0)=true then [] else e.fre (QAy []) [] from rfl);have HC:=hd0 (fun w1 (hw1:Below W.heap.size W w1)=>QCn h9 h w1 hw1);have hch0:=e.check_fit;have HH:=hd0 h;have HW:=hd0 hW;have hW0:=hW.size;obtain⟨k,s,num,tk,ts,tl,th,tp,tn,tc,pp,np,cp,pk,nk,ck,pa,n,ca,tf,pn,pt,ks,f,A,rfl,he, -, -⟩:=h.cells;clear he h hW;generalize e.check=chk at*;have HCF:=hd0 hch0;clear hch0;go_enter func16,ntmps16;go_upto_region 1 with fail;refine QBk ?_;intro w1 H1
 go_wp2_with (refine lb_ H1.out.2 ?_)
 refine(HC.out w1 (HW.out.trans (H1.out.1.mono hW0))).mono ?_;rintro r w2 ⟨rfl,hb2⟩;have H2:=hd0 (QAG H1.out hb2);clear hb2 H1 HC
 cases hc:(chk !=0)with
 |true=>
  have HV:=hd0 (show e.free= [] by rw[HZ.out,if_pos hc]);go_wp2;refine bodyPost_ret (v:= .slice none 0 0) (by simp[results,results16,go_sem]) rfl ⟨⟨_,rfl,by rw[HV.out];exact StrL.nil _⟩,H2.out.1⟩
 |false=>
  have hc0:chk=0:=by simpa using hc
  have HV:=hd0 (show e.free=e.fre (QAy []) []∧e.siz≤3000 from⟨by rw[HZ.out,hc];rfl,(HCF.out hc0).2⟩);have hsz2:=H2.out.1.size
  go_wp2_with (refine lb_ H2.out.2 ?_)
  refine(QOk (W:=W) e (HCF.out hc0).1 _ HH.out w2 w2.heap.size (.slice none 0 0) [] [] (.slice none 0 0) (HW.out.trans (H2.out.1.mono hW0)) (by omega) ⟨World.ownsRow_nil _ _ _ _,Nat.le_refl _,fun _ h=>by cases h⟩ (fun _ _ _=>StrL.nil _) (by have:=HV.out.2;simp;omega) (by have:=HV.out.2;simp;omega)).mono ?_;rintro r w3 ⟨u3,rfl,ho,hm⟩;have H3:=hd0 (show Below w.heap.size w w3∧StrL w3 u3 (e.fre (QAy []) [])from⟨H2.out.1.grown hm.grow hsz2 (fun k hk=>by cases hk),ho.strs (by have:=e.fre_len (QAy []) [];have:=HV.out.2;simp only[List.length_nil]at*;unfold QES;omega)⟩);clear ho hm;go_wp2;refine bodyPost_ret (v:=u3) (by simp[results,results16,go_sem]) rfl ⟨⟨_,rfl,by rw[HV.out.1];exact H3.out.2⟩,H3.out.1⟩
end Go.Proofs.YtjnclkakbopnjaaGreatDoor
