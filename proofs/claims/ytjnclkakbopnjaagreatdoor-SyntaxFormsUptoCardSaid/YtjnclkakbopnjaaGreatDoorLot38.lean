/- XChkRe -/
import Derived.Test.YtjnclkakbopnjaaGreatDoorLot33
set_option linter.unusedSimpArgs false
set_option linter.unusedVariables false
set_option maxRecDepth 100000
set_option maxHeartbeats 8000000
namespace Go.Proofs.YtjnclkakbopnjaaGreatDoor
open Go.Proofs.Tryz
open Go.RowKit
theorem QKo {W:World}(hE:Env W)(h9:9≤W.heap.size)(e:Ex)(ho:e.orB=false)
  (ih:∀i v l,ExR W v (e.arg i)→∀w,Below W.heap.size W w→Calls prog 84 #[v,.string l] w fun r w'=>r= .returned (.bool ((e.arg i).ok l))∧Below w.heap.size w w')
  (v:Value) (h:ExR W v e) (l:ByteArray) (w:World) (hW:Below W.heap.size W w) (hk:(e.k==13)=true):
  Calls prog 84 #[v,.string l] w fun r w'=>r= .returned (.bool (e.ok l))∧Below w.heap.size w w':=by
 have HO:=hd0 (fun w (hW:Below W.heap.size W w)=>QDA h w hW);have hok:=e.ok_eq l;rw[ho,if_neg (by decide)]at hok;rw[hok];rw[ho]at HO;obtain⟨k,s,num,tk,ts,tl,th,tp,tn,tc,pp,np,cp,pk,nk,ck,pa,n,ca,tf,pn,pt,ks,f,A,rfl,rfl,hA,hf⟩:=h.cells;have HKK:=hd0 (show(k==13)=true from hk);clear hk;have HH:=hd0 (And.intro hA (And.intro hf ih));clear hok hA hf ih ho;have HW:=hd0 (And.intro hW (And.intro hE h9));clear hW hE h9;generalize hfit:Ex.fits (Ex.mk k num s (.mk tk tl th ts tn tf) np pn pt nk ks n f) l=FT at*;have HFT:=hd0 hfit;clear hfit;have HRES:=hd0 (show Ex.len (Ex.mk k num s (.mk tk tl th ts tn tf) np pn pt nk ks n f)=n from rfl);go_enter func84,ntmps84;go_upto_region 1 with fail;refine QBk ?_;intro w1 H1
 go_wp2_with (refine lb_ H1.out.2 ?_)
 refine(HO.out w1 (HW.out.1.trans (H1.out.1.mono HW.out.1.size))).mono ?_;rintro r w2 ⟨⟨X,Y,hX,hX1,hY,hY1,rfl,hO⟩,hb2⟩;have H2:=hd0 (QAG H1.out hb2);have HX:=hd0 (And.intro hX (And.intro hX1 (And.intro hY hY1)));clear hX hX1 hY hY1 hO hb2 H1 HO
 go_upto_region 2 with (first
  |refine QAQ 29 (.tmp 5) (.tmp 16) rfl rfl rfl w2.heap.size #[.int .i64 0,.string ⟨#[]⟩,.int .i64 0,.int .i64 0,.string ⟨#[]⟩,.int .i64 0,.int .i64 0,.slice none 0 0,.slice none 0 0,.slice none 0 0,.slice none 0 0] X 29 (by rfl) (by rfl) (QI5 w2) (infoEx.trans (by rw[HX.out.1])) HX.out.1.symm HX.out.2.1 ?_
  |refine QAQ 29 (.tmp 6) (.tmp 17) rfl rfl rfl (w2.heap.size+1) #[.int .i64 0,.string ⟨#[]⟩,.int .i64 0,.int .i64 0,.string ⟨#[]⟩,.int .i64 0,.int .i64 0,.slice none 0 0,.slice none 0 0,.slice none 0 0,.slice none 0 0] Y 29 (by rfl) (by rfl) (QI6 w2 X) (infoEx.trans (by rw[HX.out.2.2.1])) HX.out.2.2.1.symm HX.out.2.2.2 ?_)
 refine QA8 (fun wx=>Hid (Below w.heap.size w wx∧BoxAt wx w.heap.size (Z9 k s num tk ts tl th tp tn tc pp np cp pk nk ck pa n ca))) (hd0 ⟨H2.out.1.trans ((QA0 w2 X Y).1.mono H2.out.1.size),fun j v hj=>QAA (QA0 w2 X Y).1 (H2.out.2 j v hj)⟩) ?_;intro w3 H3;generalize w2.heap.size=g at*;clear HX H2;have c0:=H3.out.2 0 _ rfl;have c10:=H3.out.2 10 _ rfl
 go_upto_block 0 with fail
 refine wp_cut (fun a' wx=>∃(x0 x1 x3 x4 x5 x6 x7 x8 v10:Value) (l:List Value),a'=⟨List.toArray (x0::x1:: .pointer (some ⟨w.heap.size,0,none⟩)::x3::x4::x5::x6::x7::x8:: .int .i64 n::v10::l), []⟩∧l.length=269∧v10= .bool FT∧Hid (Below w.heap.size w wx∧BoxAt wx w.heap.size (Z9 k s num tk ts tl th tp tn tc pp np cp pk nk ck pa n ca))) ?_ ?_;rotate_left
 ·
  intro _ _ _ _
  have e1:(k==1)=false:=by
   rcases HKK.out with h <;> (rw[eq_of_beq h];rfl)
  have e2:(k==2)=false:=by
   rcases HKK.out with h <;> (rw[eq_of_beq h];rfl)
  have e3:(k==3)=false:=by
   rcases HKK.out with h <;> (rw[eq_of_beq h];rfl)
  have e4:(k==4)=false:=by
   rcases HKK.out with h <;> (rw[eq_of_beq h];rfl)
  have e5:(k==5)=false:=by
   rcases HKK.out with h <;> (rw[eq_of_beq h];rfl)
  have e6:(k==6)=false:=by
   rcases HKK.out with h <;> (rw[eq_of_beq h];rfl)
  have e7:(k==7)=false:=by
   rcases HKK.out with h <;> (rw[eq_of_beq h];rfl)
  have e8:(k==8)=false:=by
   rcases HKK.out with h <;> (rw[eq_of_beq h];rfl)
  have e9:(k==9)=false:=by
   rcases HKK.out with h <;> (rw[eq_of_beq h];rfl)
  have e10:(k==10)=false:=by
   rcases HKK.out with h <;> (rw[eq_of_beq h];rfl)
  have e11:(k==11)=false:=by
   rcases HKK.out with h <;> (rw[eq_of_beq h];rfl)
  have e12:(k==12)=false:=by
   rcases HKK.out with h <;> (rw[eq_of_beq h];rfl)
  have e13:(k==13)=true:=by
   rcases HKK.out with h
   ·
    exact h
  have hft:FT=((QAI 0 num tk tl th ⟨#[]⟩ ts tn np nk 0)&&((n:Int)==QQv s)):=by have h:=HFT.out;rw[eq_of_beq e13]at h;exact h.symm
  have HF:=hd0 (fun w (hE:Env w)=>QBR k num tk tl th s ts tp pp pk pa tn tc np cp nk ck n ca w hE);have HO:=hd0 (fun w=>QJj s w);generalize QAI 0 num tk tl th ⟨#[]⟩ ts tn np nk 0=Z at*;generalize QQv s=O at hft HO;have HK:=hd0 hft;clear hft HFT
  go_wp2_with (refine lb_ H3.out.2 ?_)
  refine(HF.out w3 (HW.out.2.1.below (HW.out.1.trans (H3.out.1.mono HW.out.1.size)))).mono ?_;rintro r w4 ⟨rfl,hb4⟩;have H4:=hd0 (QAG H3.out hb4);have b1:=H4.out.2 1 _ rfl;clear hb4 H3 c0 c10 HF
  cases Z
  ·
   go_wp2;refine Met.intro ?_;go_step;exact⟨_,_,_,_,_,_,_,_,_,_,rfl,rfl,by rw[HK.out];rfl,H4⟩
  ·
   go_wp2_with fail
   refine(HO.out w4).mono ?_;rintro r w5 ⟨rfl,rfl⟩
   cases eo:((n:Int)==O) <;> (go_wp2;refine Met.intro ?_;go_step;exact⟨_,_,_,_,_,_,_,_,_,_,rfl,rfl,by rw[HK.out,eo];rfl,H4⟩)
 ·
  rintro _ wc ⟨x0,x1,x3,x4,x5,x6,x7,x8,_,l0,rfl,hl0,rfl,HC⟩;obtain⟨y0,y1,y2,y3,y4,y5,y6,y7,y8,y9,l1,rfl,hl1⟩:=QAC (n:=259) hl0;clear hl0;obtain⟨y0,y1,y2,y3,y4,y5,y6,y7,y8,y9,l2,rfl,hl2⟩:=QAC (n:=249) hl1;clear hl1;obtain⟨y0,y1,y2,y3,y4,y5,y6,y7,y8,y9,l3,rfl,hl3⟩:=QAC (n:=239) hl2;clear hl2;obtain⟨y0,y1,y2,y3,y4,y5,y6,y7,y8,y9,l4,rfl,hl4⟩:=QAC (n:=229) hl3;clear hl3;obtain⟨y0,y1,y2,y3,y4,y5,y6,y7,y8,y9,l5,rfl,hl5⟩:=QAC (n:=219) hl4;clear hl4;obtain⟨y0,y1,y2,y3,y4,y5,y6,y7,y8,y9,l6,rfl,hl6⟩:=QAC (n:=209) hl5;clear hl5;obtain⟨y0,y1,y2,y3,y4,y5,y6,y7,y8,y9,l7,rfl,hl7⟩:=QAC (n:=199) hl6;clear hl6;obtain⟨y0,y1,y2,y3,y4,y5,y6,y7,y8,y9,l8,rfl,hl8⟩:=QAC (n:=189) hl7;clear hl7;obtain⟨y0,y1,y2,y3,y4,y5,y6,y7,y8,y9,l9,rfl,hl9⟩:=QAC (n:=179) hl8;clear hl8;obtain⟨y0,y1,y2,y3,y4,y5,y6,y7,y8,y9,l10,rfl,hl10⟩:=QAC (n:=169) hl9;clear hl9;obtain⟨y0,y1,y2,y3,y4,y5,y6,y7,y8,y9,l11,rfl,hl11⟩:=QAC (n:=159) hl10;clear hl10;obtain⟨y0,y1,y2,y3,y4,y5,y6,y7,y8,y9,l12,rfl,hl12⟩:=QAC (n:=149) hl11;clear hl11;obtain⟨y0,y1,y2,y3,y4,y5,y6,y7,y8,y9,l13,rfl,hl13⟩:=QAC (n:=139) hl12;clear hl12;obtain⟨y0,y1,y2,y3,y4,y5,y6,y7,y8,y9,l14,rfl,hl14⟩:=QAC (n:=129) hl13;clear hl13;obtain⟨y0,y1,y2,y3,y4,y5,y6,y7,y8,y9,l15,rfl,hl15⟩:=QAC (n:=119) hl14;clear hl14;obtain⟨y0,y1,y2,y3,y4,y5,y6,y7,y8,y9,l16,rfl,hl16⟩:=QAC (n:=109) hl15;clear hl15;obtain⟨y0,y1,y2,y3,y4,y5,y6,y7,y8,y9,l17,rfl,hl17⟩:=QAC (n:=99) hl16;clear hl16;obtain⟨y0,y1,y2,y3,y4,y5,y6,y7,y8,y9,l18,rfl,hl18⟩:=QAC (n:=89) hl17;clear hl17
  obtain⟨y0,y1,y2,y3,y4,y5,y6,y7,y8,y9,l19,rfl,hl19⟩:=QAC (n:=79) hl18;clear hl18;obtain⟨y0,y1,y2,y3,y4,y5,y6,y7,y8,y9,l20,rfl,hl20⟩:=QAC (n:=69) hl19;clear hl19;obtain⟨y0,y1,y2,y3,y4,y5,y6,y7,y8,y9,l21,rfl,hl21⟩:=QAC (n:=59) hl20;clear hl20;obtain⟨y0,y1,y2,y3,y4,y5,y6,y7,y8,y9,l22,rfl,hl22⟩:=QAC (n:=49) hl21;clear hl21;obtain⟨y0,y1,y2,y3,y4,y5,y6,y7,y8,y9,l23,rfl,hl23⟩:=QAC (n:=39) hl22;clear hl22;obtain⟨y0,y1,y2,y3,y4,y5,y6,y7,y8,y9,l24,rfl,hl24⟩:=QAC (n:=29) hl23;clear hl23;obtain⟨y0,y1,y2,y3,y4,y5,y6,y7,y8,y9,l25,rfl,hl25⟩:=QAC (n:=19) hl24;clear hl24;obtain⟨y0,y1,y2,y3,y4,y5,y6,y7,y8,y9,l26,rfl,hl26⟩:=QAC (n:=9) hl25;clear hl25;obtain⟨y0,l27,rfl,hl27⟩:=QAa (n:=8) hl26;clear hl26;obtain⟨y1,l28,rfl,hl28⟩:=QAa (n:=7) hl27;clear hl27;obtain⟨y2,l29,rfl,hl29⟩:=QAa (n:=6) hl28;clear hl28;obtain⟨y3,l30,rfl,hl30⟩:=QAa (n:=5) hl29;clear hl29;obtain⟨y4,l31,rfl,hl31⟩:=QAa (n:=4) hl30;clear hl30;obtain⟨y5,l32,rfl,hl32⟩:=QAa (n:=3) hl31;clear hl31;obtain⟨y6,l33,rfl,hl33⟩:=QAa (n:=2) hl32;clear hl32;obtain⟨y7,l34,rfl,hl34⟩:=QAa (n:=1) hl33;clear hl33;obtain⟨y8,l35,rfl,hl35⟩:=QAa (n:=0) hl34;clear hl34;obtain rfl:=List.eq_nil_of_length_eq_zero hl35;clear hl35;clear H3 c0 c10 HFT;have hq:∃q:Nat→Bool,q=fun i=>(f i).ok (QBM k s i):=⟨_,rfl⟩
  obtain⟨q,hq⟩:=hq;have hres:(FT&&(List.range (Ex.len (Ex.mk k num s (.mk tk tl th ts tn tf) np pn pt nk ks n f))).all (fun i=>Ex.ok ((Ex.mk k num s (.mk tk tl th ts tn tf) np pn pt nk ks n f).arg i) (QBM (Ex.mk k num s (.mk tk tl th ts tn tf) np pn pt nk ks n f).k (Ex.mk k num s (.mk tk tl th ts tn tf) np pn pt nk ks n f).nm i)))=(FT&&(List.range n).all q):=by rw[hq];rfl
  have HRS:=hd0 hres;have HQ:=hd0 hq;clear hres hq;go_upto_region 38 with fail
  go_wp2_with fail
  have hnm:n≤1100000:=h.len_le;clear h
  go_loopw [10,11] (fun v10 v11 wr=>∃i:Nat,i≤n∧v11= .int .i64 i∧v10= .bool (FT&&(List.range i).all q)∧Hid (Below w.heap.size w wr∧BoxAt wr w.heap.size (Z9 k s num tk ts tl th tp tn tc pp np cp pk nk ck pa n ca))) (fun v10 v11 _=>n - (intOf v11).toNat)
  case atStart=>exact⟨0,Nat.zero_le _,rfl,by simp,HC⟩
  case round=>
   obtain⟨i,hi,rfl,rfl,HR⟩:=hrel;have c0:=HR.out.2 0 _ rfl;have c1:=HR.out.2 1 _ rfl;have c10:=HR.out.2 10 _ rfl
   by_cases hlt:i<n
   ·
    have g0:decide ((i:Int)<n)=true:=decide_eq_true (by omega);have g1:(0:Int)≤i:=by omega
    have g2:(i:Int)<n:=by omega
    cases hb:(FT&&(List.range i).all q)with
    |false=>
     go_wp2;go_ret;exact⟨by rw[HRS.out,QCr hlt hb];rfl,HR.out.1⟩
    |true=>
     have hft:FT=true:=by simp only[Bool.and_eq_true]at hb;exact hb.1
     have hal:(List.range i).all q=true:=by simp only[Bool.and_eq_true]at hb;exact hb.2
     have HFA:=hd0 (And.intro hft hal);clear hft hal hb;obtain⟨qb,qo,rfl, -⟩:=HH.out.1 i hlt;have HCI:=hd0 (((HH.out.1.at11 hlt (X:=#[A i 0,A i 1,A i 2,A i 3,A i 4,A i 5,A i 6,A i 7,A i 8,A i 9,A i 10]) rfl).under HW.out.1).under HR.out.1);have HLN:=hd0 (show QBM k s i=if(k==6)&&i==0 then s else⟨#[]⟩ from rfl)
     cases e6:(k==6)with
     |false=>
      go_wp2_with (refine lc_ HCI.out ?_)
      have hl:QBM k s i=⟨#[]⟩:=by rw[HLN.out,e6];rfl
      refine(HH.out.2.2 i _ ⟨#[]⟩ (HH.out.2.1 i hlt) wr (HW.out.1.trans (HR.out.1.mono HW.out.1.size))).mono ?_;rintro r wn ⟨rfl,hbn⟩;have HN:=hd0 (QAG HR.out hbn);have HQI:=hd0 (show q i=(f i).ok ⟨#[]⟩ by rw[HQ.out];show(f i).ok (QBM k s i)=_;rw[hl]);clear hbn hl;go_wp2;go_roundw
      case rel=>exact⟨i+1,by omega,by go_num,by rw[QAT,HFA.out.1,HFA.out.2,HQI.out];rfl,HN⟩
      case measure=>simp[intOf];omega
     |true=>
      cases ez:((i:Int)==0)with
      |false=>
       go_wp2_with (refine lc_ HCI.out ?_)
       have hl:QBM k s i=⟨#[]⟩:=by rw[HLN.out,e6,show(i==0)=false from beq_eq_false_iff_ne.2 (fun hh=>by subst hh;exact absurd ez (by decide))];rfl
       refine(HH.out.2.2 i _ ⟨#[]⟩ (HH.out.2.1 i hlt) wr (HW.out.1.trans (HR.out.1.mono HW.out.1.size))).mono ?_;rintro r wn ⟨rfl,hbn⟩;have HN:=hd0 (QAG HR.out hbn);have HQI:=hd0 (show q i=(f i).ok ⟨#[]⟩ by rw[HQ.out];show(f i).ok (QBM k s i)=_;rw[hl]);clear hbn hl;go_wp2;go_roundw
       case rel=>exact⟨i+1,by omega,by go_num,by rw[QAT,HFA.out.1,HFA.out.2,HQI.out];rfl,HN⟩
       case measure=>simp[intOf];omega
      |true=>
       go_wp2_with (refine lc_ HCI.out ?_)
       have hl:QBM k s i=s:=by rw[HLN.out,e6,show(i==0)=true from beq_iff_eq.2 (by have:=eq_of_beq ez;omega)];rfl
       refine(HH.out.2.2 i _ s (HH.out.2.1 i hlt) wr (HW.out.1.trans (HR.out.1.mono HW.out.1.size))).mono ?_;rintro r wn ⟨rfl,hbn⟩;have HN:=hd0 (QAG HR.out hbn);have HQI:=hd0 (show q i=(f i).ok s by rw[HQ.out];show(f i).ok (QBM k s i)=_;rw[hl]);clear hbn hl;go_wp2;go_roundw
       case rel=>exact⟨i+1,by omega,by go_num,by rw[QAT,HFA.out.1,HFA.out.2,HQI.out];rfl,HN⟩
       case measure=>simp[intOf];omega
   ·
    have g0:decide ((i:Int)<n)=false:=decide_eq_false (by omega);go_wp2;go_ret;exact⟨by rw[HRS.out,show i=n by omega];rfl,HR.out.1⟩
end Go.Proofs.YtjnclkakbopnjaaGreatDoor
