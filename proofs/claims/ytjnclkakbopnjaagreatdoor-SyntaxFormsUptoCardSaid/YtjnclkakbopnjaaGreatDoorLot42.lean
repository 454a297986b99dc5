/- XRckG -/
import Derived.Test.YtjnclkakbopnjaaGreatDoorLot41
set_option linter.unusedSimpArgs false
set_option linter.unusedVariables false
set_option maxRecDepth 100000
set_option maxHeartbeats 8000000
namespace Go.Proofs.YtjnclkakbopnjaaGreatDoor
open Go.Proofs.Tryz
open Go.RowKit Go.Proofs.YtjnclkakbopnjaaGreatDoorW.PrintLast
structure FoS(w:World)(Y:Array Value)(wx:World):Prop where
 below:Below w.heap.size w wx
 box:BoxAt wx w.heap.size Y
theorem FoS.under {w w1 w2:World}{Y:Array Value}(h:FoS w Y w1)(hb:Below w1.heap.size w1 w2):FoS w Y w2:=
 ⟨h.below.trans (hb.mono h.below.size),fun j v hj=>QAA hb (h.box j v hj)⟩
def btw(n:Nat)(lo hi:Int):Bool:=decide (lo≤(n:Int))&&decide ((n:Int)≤hi)
def Ex.form(e:Ex)(l:ByteArray):Bool:=match e with
 | .mk k num s ty np pn pt nk ks n _=>
  if k=1 then e.fNum&&btw n 0 0
  else if k=2 then e.fNum&&btw n 0 0&&((num==0)||(num==1))
  else if k=3 then e.fName&&btw n 0 0&&(QAs s)
  else if k=4 then e.fNone&&btw n 1 17
  else if k=5 then e.fNone&&btw n 3 3
  else if k=6 then e.fName&&btw n 2 2&&(QAs s)
  else if k=7 then e.fNone&&btw n 2 3000
  else if k=8 then e.fPar&&btw n 1 1&&(QD0 np pn pt)&&((s.toList== [])||(s.toList==l.toList))
  else if k=9 then e.fName&&btw n 1 2&&((s.toList== [])||(QAs s))
  else if k=10 then e.fType&&btw n 2 2&&(ty.ok)
  else if k=11 then e.fNone&&btw n 0 6
  else if k=12 then e.fKeys&&((n:Int)==(nk:Int)+1)&&(QKs nk ks)
  else if k=13 then e.fName&&decide (0<QGd s)&&((n:Int)==QGd s)
  else if k=14 then e.fType&&btw n 1 1&&(ty.ok)
  else if k=17 then e.fNum&&btw n 0 0&&decide ((0:Int)≤num)
  else false
 | .no=>false
theorem QPg {W:World}(h9:9≤W.heap.size){e:Ex}{v:Value}(h:ExR W v e)(l:ByteArray)(w:World)(hW:Below W.heap.size W w):
  Calls prog 87 #[v,.string l] w fun r w'=>r= .returned (.bool (e.form l))∧Below w.heap.size w w':=by
 obtain⟨k,s,num,tk,ts,tl,th,tp,tn,tc,pp,np,cp,pk,nk,ck,pa,n,ca,tf,pn,pt,ks,f,A,rfl,rfl, -, -⟩:=h.cells;have hn2:n≤1100000:=h.len_le;have HW:=hd0 (And.intro hW h9);clear hW h9;generalize hfit:Ex.form (Ex.mk k num s (.mk tk tl th ts tn tf) np pn pt nk ks n f) l=FT at*;have HFT:=hd0 hfit;clear hfit;go_enter func87,ntmps87;go_upto_region 1 with fail;refine QBk ?_;intro w1 H1;have c0:=H1.out.2 0 _ rfl
 cases e1:(k==1)with
 |true=>
  have hft:FT=((QAI 0 0 tk tl th s ts tn np nk 0)&&btw n 0 0):=by have h:=HFT.out;rw[eq_of_beq e1]at h;exact h.symm
  have HF:=hd0 (fun w=>QEL k num tk tl th s ts tp pp pk pa tn tc np cp nk ck n ca w);have HB:=hd0 (fun w=>(show Calls prog 163 #[.agg (Z9 k s num tk ts tl th tp tn tc pp np cp pk nk ck pa n ca),.int .i64 0,.int .i64 0] w fun e w'=>e= .returned (.bool (btw n 0 0))∧Below w.heap.size w w' from QAc k num tk tl th s ts tp pp pk pa tn tc np cp nk ck n ca 0 0 w));generalize QAI 0 0 tk tl th s ts tn np nk 0=Z at*;generalize btw n 0 0=RB at hft HB;have HK:=hd0 hft;clear hft HFT
  go_wp2_with (refine lb_ H1.out.2 ?_)
  refine(HF.out w1).mono ?_;rintro r w2 ⟨rfl,hb2⟩;have H2:=hd0 (QAG H1.out hb2);clear hb2 H1 c0 HF
  cases Z with
  |false=>
   go_wp2;go_ret;exact⟨by rw[HK.out];rfl,H2.out.1⟩
  |true=>
  go_wp2_with (refine lb_ H2.out.2 ?_)
  refine(HB.out w2).mono ?_;rintro r w3 ⟨rfl,hb3⟩;have H3:=hd0 (QAG H2.out hb3);clear hb3 H2 HB
  cases RB
  all_goals go_wp2
  all_goals go_ret
  all_goals exact⟨by rw[HK.out];rfl,H3.out.1⟩
 |false=>
 cases e2:(k==2)with
 |true=>
  have hft:FT=((QAI 0 0 tk tl th s ts tn np nk 0)&&btw n 0 0&&((num==0)||(num==1))):=by have h:=HFT.out;rw[eq_of_beq e2]at h;exact h.symm
  have HF:=hd0 (fun w=>QEL k num tk tl th s ts tp pp pk pa tn tc np cp nk ck n ca w);have HB:=hd0 (fun w=>(show Calls prog 163 #[.agg (Z9 k s num tk ts tl th tp tn tc pp np cp pk nk ck pa n ca),.int .i64 0,.int .i64 0] w fun e w'=>e= .returned (.bool (btw n 0 0))∧Below w.heap.size w w' from QAc k num tk tl th s ts tp pp pk pa tn tc np cp nk ck n ca 0 0 w));generalize QAI 0 0 tk tl th s ts tn np nk 0=Z at*;generalize btw n 0 0=RB at hft HB;generalize eEA:(num==0)=EA at hft;generalize eEB:(num==1)=EB at hft;have HK:=hd0 hft;clear hft HFT
  go_wp2_with (refine lb_ H1.out.2 ?_)
  refine(HF.out w1).mono ?_;rintro r w2 ⟨rfl,hb2⟩;have H2:=hd0 (QAG H1.out hb2);clear hb2 H1 c0 HF
  cases Z with
  |false=>
   go_wp2;go_ret;exact⟨by rw[HK.out];rfl,H2.out.1⟩
  |true=>
  go_wp2_with (refine lb_ H2.out.2 ?_)
  refine(HB.out w2).mono ?_;rintro r w3 ⟨rfl,hb3⟩;have H3:=hd0 (QAG H2.out hb3);have b2:=H3.out.2 2 _ rfl;clear hb3 H2 HB
  cases RB <;> cases EA <;> cases EB
  all_goals go_wp2
  all_goals go_ret
  all_goals exact⟨by rw[HK.out];rfl,H3.out.1⟩
 |false=>
 cases e3:(k==3)with
 |true=>
  have hft:FT=((QAI 0 num tk tl th ⟨#[]⟩ ts tn np nk 0)&&btw n 0 0&&(QAs s)):=by have h:=HFT.out;rw[eq_of_beq e3]at h;exact h.symm
  have HF:=hd0 (fun w=>QB7 k num tk tl th s ts tp pp pk pa tn tc np cp nk ck n ca w);have HB:=hd0 (fun w=>(show Calls prog 163 #[.agg (Z9 k s num tk ts tl th tp tn tc pp np cp pk nk ck pa n ca),.int .i64 0,.int .i64 0] w fun e w'=>e= .returned (.bool (btw n 0 0))∧Below w.heap.size w w' from QAc k num tk tl th s ts tp pp pk pa tn tc np cp nk ck n ca 0 0 w));have HN:=hd0 (fun w1 (hw1:Below W.heap.size W w1)=>QCJ s w1 (by have:=hw1.size;have:=HW.out.2;omega));generalize QAI 0 num tk tl th ⟨#[]⟩ ts tn np nk 0=Z at*;generalize btw n 0 0=RB at hft HB;generalize QAs s=RX at hft HN;have HK:=hd0 hft;clear hft HFT
  go_wp2_with (refine lb_ H1.out.2 ?_)
  refine(HF.out w1).mono ?_;rintro r w2 ⟨rfl,hb2⟩;have H2:=hd0 (QAG H1.out hb2);clear hb2 H1 c0 HF
  cases Z with
  |false=>
   go_wp2;go_ret;exact⟨by rw[HK.out];rfl,H2.out.1⟩
  |true=>
  go_wp2_with (refine lb_ H2.out.2 ?_)
  refine(HB.out w2).mono ?_;rintro r w3 ⟨rfl,hb3⟩;have H3:=hd0 (QAG H2.out hb3);have b1:=H3.out.2 1 _ rfl;clear hb3 H2 HB
  cases RB
  all_goals go_wp2_with fail
  all_goals first
   |(go_ret;exact⟨by rw[HK.out];rfl,H3.out.1⟩)
   |(refine(HN.out _ (HW.out.1.trans (H3.out.1.mono HW.out.1.size))).mono ?_
     rintro r w4 ⟨rfl,hb4⟩;have H4:=hd0 (QAG H3.out hb4);have d1:=H4.out.2 1 _ rfl;clear hb4 HN
     cases RX <;> (go_wp2;go_ret;exact⟨by rw[HK.out];rfl,H4.out.1⟩))
 |false=>
 cases e4:(k==4)with
 |true=>
  have hft:FT=((QAI 0 num tk tl th s ts tn np nk 0)&&btw n 1 17):=by have h:=HFT.out;rw[eq_of_beq e4]at h;exact h.symm
  have HF:=hd0 (fun w=>QB8 k num tk tl th s ts tp pp pk pa tn tc np cp nk ck n ca w);have HB:=hd0 (fun w=>(show Calls prog 163 #[.agg (Z9 k s num tk ts tl th tp tn tc pp np cp pk nk ck pa n ca),.int .i64 1,.int .i64 17] w fun e w'=>e= .returned (.bool (btw n 1 17))∧Below w.heap.size w w' from QAc k num tk tl th s ts tp pp pk pa tn tc np cp nk ck n ca 1 17 w));generalize QAI 0 num tk tl th s ts tn np nk 0=Z at*;generalize btw n 1 17=RB at hft HB;have HK:=hd0 hft;clear hft HFT
  go_wp2_with (refine lb_ H1.out.2 ?_)
  refine(HF.out w1).mono ?_;rintro r w2 ⟨rfl,hb2⟩;have H2:=hd0 (QAG H1.out hb2);clear hb2 H1 c0 HF
  cases Z with
  |false=>
   go_wp2;go_ret;exact⟨by rw[HK.out];rfl,H2.out.1⟩
  |true=>
  go_wp2_with (refine lb_ H2.out.2 ?_)
  refine(HB.out w2).mono ?_;rintro r w3 ⟨rfl,hb3⟩;have H3:=hd0 (QAG H2.out hb3);clear hb3 H2 HB
  cases RB
  all_goals go_wp2
  all_goals go_ret
  all_goals exact⟨by rw[HK.out];rfl,H3.out.1⟩
 |false=>
 cases e5:(k==5)with
 |true=>
  have hft:FT=((QAI 0 num tk tl th s ts tn np nk 0)&&btw n 3 3):=by have h:=HFT.out;rw[eq_of_beq e5]at h;exact h.symm
  have HF:=hd0 (fun w=>QB8 k num tk tl th s ts tp pp pk pa tn tc np cp nk ck n ca w);have HB:=hd0 (fun w=>(show Calls prog 163 #[.agg (Z9 k s num tk ts tl th tp tn tc pp np cp pk nk ck pa n ca),.int .i64 3,.int .i64 3] w fun e w'=>e= .returned (.bool (btw n 3 3))∧Below w.heap.size w w' from QAc k num tk tl th s ts tp pp pk pa tn tc np cp nk ck n ca 3 3 w));generalize QAI 0 num tk tl th s ts tn np nk 0=Z at*;generalize btw n 3 3=RB at hft HB;have HK:=hd0 hft;clear hft HFT
  go_wp2_with (refine lb_ H1.out.2 ?_)
  refine(HF.out w1).mono ?_;rintro r w2 ⟨rfl,hb2⟩;have H2:=hd0 (QAG H1.out hb2);clear hb2 H1 c0 HF
  cases Z with
  |false=>
   go_wp2;go_ret;exact⟨by rw[HK.out];rfl,H2.out.1⟩
  |true=>
  go_wp2_with (refine lb_ H2.out.2 ?_)
  refine(HB.out w2).mono ?_;rintro r w3 ⟨rfl,hb3⟩;have H3:=hd0 (QAG H2.out hb3);clear hb3 H2 HB
  cases RB
  all_goals go_wp2
  all_goals go_ret
  all_goals exact⟨by rw[HK.out];rfl,H3.out.1⟩
 |false=>
 cases e6:(k==6)with
 |true=>
  have hft:FT=((QAI 0 num tk tl th ⟨#[]⟩ ts tn np nk 0)&&btw n 2 2&&(QAs s)):=by have h:=HFT.out;rw[eq_of_beq e6]at h;exact h.symm
  have HF:=hd0 (fun w=>QB7 k num tk tl th s ts tp pp pk pa tn tc np cp nk ck n ca w);have HB:=hd0 (fun w=>(show Calls prog 163 #[.agg (Z9 k s num tk ts tl th tp tn tc pp np cp pk nk ck pa n ca),.int .i64 2,.int .i64 2] w fun e w'=>e= .returned (.bool (btw n 2 2))∧Below w.heap.size w w' from QAc k num tk tl th s ts tp pp pk pa tn tc np cp nk ck n ca 2 2 w));have HN:=hd0 (fun w1 (hw1:Below W.heap.size W w1)=>QCJ s w1 (by have:=hw1.size;have:=HW.out.2;omega));generalize QAI 0 num tk tl th ⟨#[]⟩ ts tn np nk 0=Z at*;generalize btw n 2 2=RB at hft HB;generalize QAs s=RX at hft HN;have HK:=hd0 hft;clear hft HFT
  go_wp2_with (refine lb_ H1.out.2 ?_)
  refine(HF.out w1).mono ?_;rintro r w2 ⟨rfl,hb2⟩;have H2:=hd0 (QAG H1.out hb2);clear hb2 H1 c0 HF
  cases Z with
  |false=>
   go_wp2;go_ret;exact⟨by rw[HK.out];rfl,H2.out.1⟩
  |true=>
  go_wp2_with (refine lb_ H2.out.2 ?_)
  refine(HB.out w2).mono ?_;rintro r w3 ⟨rfl,hb3⟩;have H3:=hd0 (QAG H2.out hb3);have b1:=H3.out.2 1 _ rfl;clear hb3 H2 HB
  cases RB
  all_goals go_wp2_with fail
  all_goals first
   |(go_ret;exact⟨by rw[HK.out];rfl,H3.out.1⟩)
   |(refine(HN.out _ (HW.out.1.trans (H3.out.1.mono HW.out.1.size))).mono ?_
     rintro r w4 ⟨rfl,hb4⟩;have H4:=hd0 (QAG H3.out hb4);have d1:=H4.out.2 1 _ rfl;clear hb4 HN
     cases RX <;> (go_wp2;go_ret;exact⟨by rw[HK.out];rfl,H4.out.1⟩))
 |false=>
 cases e7:(k==7)with
 |true=>
  have hft:FT=((QAI 0 num tk tl th s ts tn np nk 0)&&btw n 2 3000):=by have h:=HFT.out;rw[eq_of_beq e7]at h;exact h.symm
  have HF:=hd0 (fun w=>QB8 k num tk tl th s ts tp pp pk pa tn tc np cp nk ck n ca w);have HB:=hd0 (fun w=>(show Calls prog 163 #[.agg (Z9 k s num tk ts tl th tp tn tc pp np cp pk nk ck pa n ca),.int .i64 2,.int .i64 3000] w fun e w'=>e= .returned (.bool (btw n 2 3000))∧Below w.heap.size w w' from QAc k num tk tl th s ts tp pp pk pa tn tc np cp nk ck n ca 2 3000 w));generalize QAI 0 num tk tl th s ts tn np nk 0=Z at*;generalize btw n 2 3000=RB at hft HB;have HK:=hd0 hft;clear hft HFT
  go_wp2_with (refine lb_ H1.out.2 ?_)
  refine(HF.out w1).mono ?_;rintro r w2 ⟨rfl,hb2⟩;have H2:=hd0 (QAG H1.out hb2);clear hb2 H1 c0 HF
  cases Z with
  |false=>
   go_wp2;go_ret;exact⟨by rw[HK.out];rfl,H2.out.1⟩
  |true=>
  go_wp2_with (refine lb_ H2.out.2 ?_)
  refine(HB.out w2).mono ?_;rintro r w3 ⟨rfl,hb3⟩;have H3:=hd0 (QAG H2.out hb3);clear hb3 H2 HB
  cases RB
  all_goals go_wp2
  all_goals go_ret
  all_goals exact⟨by rw[HK.out];rfl,H3.out.1⟩
 |false=>
 cases e8:(k==8)with
 |true=>
  have hft:FT=((QAI 0 num tk tl th ⟨#[]⟩ ts tn 0 nk 0)&&btw n 1 1&&(QD0 np pn pt)&&((s.toList== [])||(s.toList==l.toList))):=by have h:=HFT.out;rw[eq_of_beq e8]at h;exact h.symm
  have HF:=hd0 (fun w=>QGW k num tk tl th s ts tp pp pk pa tn tc np cp nk ck n ca w);have HB:=hd0 (fun w=>(show Calls prog 163 #[.agg (Z9 k s num tk ts tl th tp tn tc pp np cp pk nk ck pa n ca),.int .i64 1,.int .i64 1] w fun e w'=>e= .returned (.bool (btw n 1 1))∧Below w.heap.size w w' from QAc k num tk tl th s ts tp pp pk pa tn tc np cp nk ck n ca 1 1 w));have HN:=hd0 (fun w1 (hw1:Below W.heap.size W w1)=>QLA HW.out.2 h.more.2.2.1 w1 hw1 cp);generalize QAI 0 num tk tl th ⟨#[]⟩ ts tn 0 nk 0=Z at*;generalize btw n 1 1=RB at hft HB;generalize QD0 np pn pt=RX at hft HN;generalize eES:(s.toList== [])=ES at hft;generalize eEL:(s.toList==l.toList)=EL at hft;have HK:=hd0 hft;clear hft HFT
  go_wp2_with (refine lb_ H1.out.2 ?_)
  refine(HF.out w1).mono ?_;rintro r w2 ⟨rfl,hb2⟩;have H2:=hd0 (QAG H1.out hb2);clear hb2 H1 c0 HF
  cases Z with
  |false=>
   go_wp2;go_ret;exact⟨by rw[HK.out];rfl,H2.out.1⟩
  |true=>
  go_wp2_with (refine lb_ H2.out.2 ?_)
  refine(HB.out w2).mono ?_;rintro r w3 ⟨rfl,hb3⟩;have H3:=hd0 (QAG H2.out hb3);have b1:=H3.out.2 1 _ rfl;have b8:=H3.out.2 8 _ rfl;clear hb3 H2 HB
  cases RB <;> cases ES <;> cases EL
  all_goals go_wp2_with fail
  all_goals first
   |(go_ret;exact⟨by rw[HK.out];rfl,H3.out.1⟩)
   |(refine(HN.out _ (HW.out.1.trans (H3.out.1.mono HW.out.1.size))).mono ?_
     rintro r w4 ⟨rfl,hb4⟩;have H4:=hd0 (QAG H3.out hb4);have d1:=H4.out.2 1 _ rfl;have d8:=H4.out.2 8 _ rfl;clear hb4 HN
     cases RX <;> (go_wp2;go_ret;exact⟨by rw[HK.out];rfl,H4.out.1⟩))
 |false=>
 cases e9:(k==9)with
 |true=>
  have hft:FT=((QAI 0 num tk tl th ⟨#[]⟩ ts tn np nk 0)&&btw n 1 2&&((s.toList== [])||(QAs s))):=by have h:=HFT.out;rw[eq_of_beq e9]at h;exact h.symm
  have HF:=hd0 (fun w=>QB7 k num tk tl th s ts tp pp pk pa tn tc np cp nk ck n ca w);have HB:=hd0 (fun w=>(show Calls prog 163 #[.agg (Z9 k s num tk ts tl th tp tn tc pp np cp pk nk ck pa n ca),.int .i64 1,.int .i64 2] w fun e w'=>e= .returned (.bool (btw n 1 2))∧Below w.heap.size w w' from QAc k num tk tl th s ts tp pp pk pa tn tc np cp nk ck n ca 1 2 w));have HN:=hd0 (fun w1 (hw1:Below W.heap.size W w1)=>QCJ s w1 (by have:=hw1.size;have:=HW.out.2;omega));generalize QAI 0 num tk tl th ⟨#[]⟩ ts tn np nk 0=Z at*;generalize btw n 1 2=RB at hft HB;generalize QAs s=RX at hft HN;generalize eES:(s.toList== [])=ES at hft;have HK:=hd0 hft;clear hft HFT
  go_wp2_with (refine lb_ H1.out.2 ?_)
  refine(HF.out w1).mono ?_;rintro r w2 ⟨rfl,hb2⟩;have H2:=hd0 (QAG H1.out hb2);clear hb2 H1 c0 HF
  cases Z with
  |false=>
   go_wp2;go_ret;exact⟨by rw[HK.out];rfl,H2.out.1⟩
  |true=>
  go_wp2_with (refine lb_ H2.out.2 ?_)
  refine(HB.out w2).mono ?_;rintro r w3 ⟨rfl,hb3⟩;have H3:=hd0 (QAG H2.out hb3);have b1:=H3.out.2 1 _ rfl;clear hb3 H2 HB
  cases RB <;> cases ES
  all_goals go_wp2_with fail
  all_goals first
   |(go_ret;exact⟨by rw[HK.out];rfl,H3.out.1⟩)
   |(refine(HN.out _ (HW.out.1.trans (H3.out.1.mono HW.out.1.size))).mono ?_
     rintro r w4 ⟨rfl,hb4⟩;have H4:=hd0 (QAG H3.out hb4);have d1:=H4.out.2 1 _ rfl;clear hb4 HN
     cases RX <;> (go_wp2;go_ret;exact⟨by rw[HK.out];rfl,H4.out.1⟩))
 |false=>
 cases e10:(k==10)with
 |true=>
  have hft:FT=((QAI 0 num 0 0 0 s ⟨#[]⟩ 0 np nk 0)&&btw n 2 2&&(Ty.ok (.mk tk tl th ts tn tf))):=by have h:=HFT.out;rw[eq_of_beq e10]at h;exact h.symm
  have HF:=hd0 (fun w=>QFc k num tk tl th s ts tp pp pk pa tn tc np cp nk ck n ca w);have HB:=hd0 (fun w=>(show Calls prog 163 #[.agg (Z9 k s num tk ts tl th tp tn tc pp np cp pk nk ck pa n ca),.int .i64 2,.int .i64 2] w fun e w'=>e= .returned (.bool (btw n 2 2))∧Below w.heap.size w w' from QAc k num tk tl th s ts tp pp pk pa tn tc np cp nk ck n ca 2 2 w));have HN:=hd0 (fun w1 (hw1:Below W.heap.size W w1)=>QCK HW.out.2 h.more.2.1 w1 hw1);generalize QAI 0 num 0 0 0 s ⟨#[]⟩ 0 np nk 0=Z at*;generalize btw n 2 2=RB at hft HB;generalize Ty.ok (.mk tk tl th ts tn tf)=RX at hft HN;have HK:=hd0 hft;clear hft HFT
  go_wp2_with (refine lb_ H1.out.2 ?_)
  refine(HF.out w1).mono ?_;rintro r w2 ⟨rfl,hb2⟩;have H2:=hd0 (QAG H1.out hb2);clear hb2 H1 c0 HF
  cases Z with
  |false=>
   go_wp2;go_ret;exact⟨by rw[HK.out];rfl,H2.out.1⟩
  |true=>
  go_wp2_with (refine lb_ H2.out.2 ?_)
  refine(HB.out w2).mono ?_;rintro r w3 ⟨rfl,hb3⟩;have H3:=hd0 (QAG H2.out hb3);have b3:=H3.out.2 3 _ rfl;have b4:=H3.out.2 4 _ rfl;have b5:=H3.out.2 5 _ rfl;have b6:=H3.out.2 6 _ rfl;have b7:=H3.out.2 7 _ rfl;clear hb3 H2 HB
  cases RB
  all_goals go_wp2_with fail
  all_goals first
   |(go_ret;exact⟨by rw[HK.out];rfl,H3.out.1⟩)
   |(refine(HN.out _ (HW.out.1.trans (H3.out.1.mono HW.out.1.size))).mono ?_
     rintro r w4 ⟨rfl,hb4⟩;have H4:=hd0 (QAG H3.out hb4);have d3:=H4.out.2 3 _ rfl;have d4:=H4.out.2 4 _ rfl;have d5:=H4.out.2 5 _ rfl;have d6:=H4.out.2 6 _ rfl;have d7:=H4.out.2 7 _ rfl;clear hb4 HN
     cases RX <;> (go_wp2;go_ret;exact⟨by rw[HK.out];rfl,H4.out.1⟩))
 |false=>
 cases e11:(k==11)with
 |true=>
  have hft:FT=((QAI 0 num tk tl th s ts tn np nk 0)&&btw n 0 6):=by have h:=HFT.out;rw[eq_of_beq e11]at h;exact h.symm
  have HF:=hd0 (fun w=>QB8 k num tk tl th s ts tp pp pk pa tn tc np cp nk ck n ca w);have HB:=hd0 (fun w=>(show Calls prog 163 #[.agg (Z9 k s num tk ts tl th tp tn tc pp np cp pk nk ck pa n ca),.int .i64 0,.int .i64 6] w fun e w'=>e= .returned (.bool (btw n 0 6))∧Below w.heap.size w w' from QAc k num tk tl th s ts tp pp pk pa tn tc np cp nk ck n ca 0 6 w));generalize QAI 0 num tk tl th s ts tn np nk 0=Z at*;generalize btw n 0 6=RB at hft HB;have HK:=hd0 hft;clear hft HFT
  go_wp2_with (refine lb_ H1.out.2 ?_)
  refine(HF.out w1).mono ?_;rintro r w2 ⟨rfl,hb2⟩;have H2:=hd0 (QAG H1.out hb2);clear hb2 H1 c0 HF
  cases Z with
  |false=>
   go_wp2;go_ret;exact⟨by rw[HK.out];rfl,H2.out.1⟩
  |true=>
  go_wp2_with (refine lb_ H2.out.2 ?_)
  refine(HB.out w2).mono ?_;rintro r w3 ⟨rfl,hb3⟩;have H3:=hd0 (QAG H2.out hb3);clear hb3 H2 HB
  cases RB
  all_goals go_wp2
  all_goals go_ret
  all_goals exact⟨by rw[HK.out];rfl,H3.out.1⟩
 |false=>
 cases e12:(k==12)with
 |true=>
  have hwr:IntKind.i64.wrap ((nk:Int)+1)=(nk:Int)+1:=IntWalk.i64_in _ (by have:=h.more.2.2.2.1;unfold QES at this;omega);have hft:FT=((QAI 0 num tk tl th s ts tn np 0 0)&&((n:Int)==(nk:Int)+1)&&(QKs nk ks)):=by have h:=HFT.out;rw[eq_of_beq e12]at h;exact h.symm
  have HF:=hd0 (fun w=>QJi k num tk tl th s ts tp pp pk pa tn tc np cp nk ck n ca w);have HN:=hd0 (fun w1 (hw1:Below W.heap.size W w1)=>QOm HW.out.2 h.more.2.2.2 w1 hw1 ck h.caps.1);generalize QAI 0 num tk tl th s ts tn np 0 0=Z at*;generalize QKs nk ks=RX at hft HN;generalize eEN:((n:Int)==(nk:Int)+1)=EN at hft;have HK:=hd0 hft;clear hft HFT
  go_wp2_with (refine lb_ H1.out.2 ?_)
  refine(HF.out w1).mono ?_;rintro r w2 ⟨rfl,hb2⟩;have H2:=hd0 (QAG H1.out hb2);have b9:=H2.out.2 9 _ rfl;have b10:=H2.out.2 10 _ rfl;clear hb2 H1 c0 HF
  cases Z with
  |false=>
   go_wp2;go_ret;exact⟨by rw[HK.out];rfl,H2.out.1⟩
  |true=>
  cases EN
  all_goals go_wp2_with fail
  all_goals first
   |(go_ret;exact⟨by rw[HK.out];rfl,H2.out.1⟩)
   |(refine(HN.out _ (HW.out.1.trans (H2.out.1.mono HW.out.1.size))).mono ?_
     rintro r w4 ⟨rfl,hb4⟩;have H4:=hd0 (QAG H2.out hb4);have d9:=H4.out.2 9 _ rfl;have d10:=H4.out.2 10 _ rfl;clear hb4 HN
     cases RX <;> (go_wp2;go_ret;exact⟨by rw[HK.out];rfl,H4.out.1⟩))
 |false=>
 cases e13:(k==13)with
 |true=>
  have hft:FT=((QAI 0 num tk tl th ⟨#[]⟩ ts tn np nk 0)&&decide (0<QGd s)&&((n:Int)==QGd s)):=by have h:=HFT.out;rw[eq_of_beq e13]at h;exact h.symm
  have HF:=hd0 (fun w=>QB7 k num tk tl th s ts tp pp pk pa tn tc np cp nk ck n ca w);have HO:=hd0 (fun w=>QIe s w);generalize QAI 0 num tk tl th ⟨#[]⟩ ts tn np nk 0=Z at*;generalize QGd s=O at hft HO;generalize eP:decide (0<O)=P at hft;generalize eE:((n:Int)==O)=E at hft;have HK:=hd0 hft;have HP:=hd0 eP;have HE:=hd0 eE;clear hft HFT eP eE;go_upto_region 27 with fail;have HS:=hd0 (show FoS w (Z9 k s num tk ts tl th tp tn tc pp np cp pk nk ck pa n ca) w1 from⟨H1.out.1,H1.out.2⟩);clear H1 c0
  cases Z with
  |false=>
   refine QBr (n:=18) (S:=FoS w (Z9 k s num tk ts tl th tp tn tc pp np cp pk nk ck pa n ca)) (ds:= []) (bs 18 0) (by kernel_rfl) rfl rfl (HS.out.under (QB0 (Below.refl _ _))) (fun hS=>?_);refine tk_ 0 167 rfl rfl hS (fun wz hz=>QAP 29 _ rfl w.heap.size 0 #[.int .i64 k,.string s,.int .i64 num,.int .i64 tk,.string ts,.int .i64 tl,.int .i64 th,.slice tp tn tc,.slice pp np cp,.slice pk nk ck,.slice pa n ca] _ underlying29 rfl infoEx (fun j v hj=>by rw[Nat.zero_add];exact hz.box j v hj)) ?_;refine on_ 1 (some 168) rfl rfl (fun K hK=>?_);refine QA6 func162 (by kernel_rfl) rfl #[.agg (Z9 k s num tk ts tl th tp tn tc pp np cp pk nk ck pa n ca),.string ⟨#[78]⟩] (by rfl) rfl rfl (by (try simp only[List.map_toArray,List.map_cons,List.map_nil]);first|done|rfl) ?_;refine(HF.out _).mono ?_;rintro e wb1 ⟨rfl,hb1⟩;have hS1:=hS.under hb1;refine⟨_,rfl,hK.out _ _ hS1 (fun _=>?_)⟩;clear hK K hb1;refine nm_ ?_;refine pu_ 2 169 ?_;refine of_ 3 170 ?_;refine of_ 4 171 ?_;refine of_ 5 172 ?_;refine of_ 6 173 ?_;refine pu_ 7 174 ?_;refine pu_ 8 175 ?_;refine of_ 9 176 ?_;refine of_ 10 177 ?_;refine of_ 11 178 ?_;refine of_ 12 179 ?_;refine of_ 13 180 ?_;refine of_ 14 181 ?_;refine of_ 15 182 ?_;refine pu_ 16 183 ?_;refine pu_ 17 4 ?_;refine QCZ (by kernel_rfl) ?_;go_wp2;go_ret;exact⟨by rw[HK.out] <;> rfl,hS1.below⟩
  |true=>
  cases P with
  |false=>
   refine QBr (n:=18) (S:=FoS w (Z9 k s num tk ts tl th tp tn tc pp np cp pk nk ck pa n ca)) (ds:= []) (bs 18 0) (by kernel_rfl) rfl rfl (HS.out.under (QB0 (Below.refl _ _))) (fun hS=>?_);refine tk_ 0 167 rfl rfl hS (fun wz hz=>QAP 29 _ rfl w.heap.size 0 #[.int .i64 k,.string s,.int .i64 num,.int .i64 tk,.string ts,.int .i64 tl,.int .i64 th,.slice tp tn tc,.slice pp np cp,.slice pk nk ck,.slice pa n ca] _ underlying29 rfl infoEx (fun j v hj=>by rw[Nat.zero_add];exact hz.box j v hj)) ?_;refine on_ 1 (some 168) rfl rfl (fun K hK=>?_);refine QA6 func162 (by kernel_rfl) rfl #[.agg (Z9 k s num tk ts tl th tp tn tc pp np cp pk nk ck pa n ca),.string ⟨#[78]⟩] (by rfl) rfl rfl (by (try simp only[List.map_toArray,List.map_cons,List.map_nil]);first|done|rfl) ?_;refine(HF.out _).mono ?_;rintro e wb1 ⟨rfl,hb1⟩;have hS1:=hS.under hb1;refine⟨_,rfl,hK.out _ _ hS1 (fun _=>?_)⟩;clear hK K hb1;refine nm_ ?_;refine pu_ 2 169 ?_;refine pu_ 3 170 ?_;refine tk_ 4 171 rfl rfl hS1 (by intro wz hz;have x1:=hz.box 1 _ rfl;go_simp;with_reducible rfl) ?_;refine on_ 5 (some 172) rfl rfl (fun K hK=>?_);refine QA6 func166 (by kernel_rfl) rfl #[.string s] (by rfl) rfl rfl (by (try simp only[List.map_toArray,List.map_cons,List.map_nil]);first|done|rfl) ?_;refine(HO.out _).mono ?_;rintro e wb2 ⟨rfl,hb2⟩;have hS2:=hS1.under hb2;refine⟨_,rfl,hK.out _ _ hS2 (fun _=>?_)⟩;clear hK K hb2;refine nm_ ?_;refine pu_ 6 173 ?_ (hy:=by intro w';go_simp;rw[HP.out]);refine pu_ 7 174 ?_;refine pu_ 8 175 ?_;refine of_ 9 176 ?_
   refine of_ 10 177 ?_;refine of_ 11 178 ?_;refine of_ 12 179 ?_;refine of_ 13 180 ?_;refine of_ 14 181 ?_;refine of_ 15 182 ?_;refine pu_ 16 183 ?_;refine pu_ 17 4 ?_;refine QCZ (by kernel_rfl) ?_;go_wp2;go_ret;exact⟨by rw[HK.out] <;> rfl,hS2.below⟩
  |true=>
  refine QBr (n:=18) (S:=FoS w (Z9 k s num tk ts tl th tp tn tc pp np cp pk nk ck pa n ca)) (ds:= []) (bs 18 0) (by kernel_rfl) rfl rfl (HS.out.under (QB0 (Below.refl _ _))) (fun hS=>?_);refine tk_ 0 167 rfl rfl hS (fun wz hz=>QAP 29 _ rfl w.heap.size 0 #[.int .i64 k,.string s,.int .i64 num,.int .i64 tk,.string ts,.int .i64 tl,.int .i64 th,.slice tp tn tc,.slice pp np cp,.slice pk nk ck,.slice pa n ca] _ underlying29 rfl infoEx (fun j v hj=>by rw[Nat.zero_add];exact hz.box j v hj)) ?_;refine on_ 1 (some 168) rfl rfl (fun K hK=>?_);refine QA6 func162 (by kernel_rfl) rfl #[.agg (Z9 k s num tk ts tl th tp tn tc pp np cp pk nk ck pa n ca),.string ⟨#[78]⟩] (by rfl) rfl rfl (by (try simp only[List.map_toArray,List.map_cons,List.map_nil]);first|done|rfl) ?_;refine(HF.out _).mono ?_;rintro e wb1 ⟨rfl,hb1⟩;have hS1:=hS.under hb1;refine⟨_,rfl,hK.out _ _ hS1 (fun _=>?_)⟩;clear hK K hb1;refine nm_ ?_;refine pu_ 2 169 ?_;refine pu_ 3 170 ?_;refine tk_ 4 171 rfl rfl hS1 (by intro wz hz;have x1:=hz.box 1 _ rfl;go_simp;with_reducible rfl) ?_;refine on_ 5 (some 172) rfl rfl (fun K hK=>?_);refine QA6 func166 (by kernel_rfl) rfl #[.string s] (by rfl) rfl rfl (by (try simp only[List.map_toArray,List.map_cons,List.map_nil]);first|done|rfl) ?_;refine(HO.out _).mono ?_;rintro e wb2 ⟨rfl,hb2⟩;have hS2:=hS1.under hb2;refine⟨_,rfl,hK.out _ _ hS2 (fun _=>?_)⟩;clear hK K hb2;refine nm_ ?_;refine pu_ 6 173 ?_ (hy:=by intro w';go_simp;rw[HP.out]);refine pu_ 7 174 ?_;refine pu_ 8 175 ?_;refine pu_ 9 176 ?_
  refine tk_ 10 177 rfl rfl hS2 (by intro wz hz;have x10:=hz.box 10 _ rfl;go_simp;with_reducible rfl) ?_;refine pu_ 11 178 ?_;refine pu_ 12 179 ?_;refine tk_ 13 180 rfl rfl hS2 (by intro wz hz;have x1:=hz.box 1 _ rfl;go_simp;with_reducible rfl) ?_;refine on_ 14 (some 181) rfl rfl (fun K hK=>?_);refine QA6 func166 (by kernel_rfl) rfl #[.string s] (by rfl) rfl rfl (by (try simp only[List.map_toArray,List.map_cons,List.map_nil]);first|done|rfl) ?_;refine(HO.out _).mono ?_;rintro e wb3 ⟨rfl,hb3⟩;have hS3:=hS2.under hb3;refine⟨_,rfl,hK.out _ _ hS3 (fun _=>?_)⟩;clear hK K hb3;refine nm_ ?_;refine pu_ 15 182 ?_ (hy:=by intro w';go_simp;rw[HE.out]);refine pu_ 16 183 ?_;refine pu_ 17 4 ?_;refine QCZ (by kernel_rfl) ?_;go_wp2;go_ret;exact⟨by rw[HK.out] <;> rfl,hS3.below⟩
 |false=>
 cases e14:(k==14)with
 |true=>
  have hft:FT=((QAI 0 num 0 0 0 s ⟨#[]⟩ 0 np nk 0)&&btw n 1 1&&(Ty.ok (.mk tk tl th ts tn tf))):=by have h:=HFT.out;rw[eq_of_beq e14]at h;exact h.symm
  have HF:=hd0 (fun w=>QFc k num tk tl th s ts tp pp pk pa tn tc np cp nk ck n ca w);have HB:=hd0 (fun w=>(show Calls prog 163 #[.agg (Z9 k s num tk ts tl th tp tn tc pp np cp pk nk ck pa n ca),.int .i64 1,.int .i64 1] w fun e w'=>e= .returned (.bool (btw n 1 1))∧Below w.heap.size w w' from QAc k num tk tl th s ts tp pp pk pa tn tc np cp nk ck n ca 1 1 w));have HN:=hd0 (fun w1 (hw1:Below W.heap.size W w1)=>QCK HW.out.2 h.more.2.1 w1 hw1);generalize QAI 0 num 0 0 0 s ⟨#[]⟩ 0 np nk 0=Z at*;generalize btw n 1 1=RB at hft HB;generalize Ty.ok (.mk tk tl th ts tn tf)=RX at hft HN;have HK:=hd0 hft;clear hft HFT
  go_wp2_with (refine lb_ H1.out.2 ?_)
  refine(HF.out w1).mono ?_;rintro r w2 ⟨rfl,hb2⟩;have H2:=hd0 (QAG H1.out hb2);clear hb2 H1 c0 HF
  cases Z with
  |false=>
   go_wp2;go_ret;exact⟨by rw[HK.out];rfl,H2.out.1⟩
  |true=>
  go_wp2_with (refine lb_ H2.out.2 ?_)
  refine(HB.out w2).mono ?_;rintro r w3 ⟨rfl,hb3⟩;have H3:=hd0 (QAG H2.out hb3);have b3:=H3.out.2 3 _ rfl;have b4:=H3.out.2 4 _ rfl;have b5:=H3.out.2 5 _ rfl;have b6:=H3.out.2 6 _ rfl;have b7:=H3.out.2 7 _ rfl;clear hb3 H2 HB
  cases RB
  all_goals go_wp2_with fail
  all_goals first
   |(go_ret;exact⟨by rw[HK.out];rfl,H3.out.1⟩)
   |(refine(HN.out _ (HW.out.1.trans (H3.out.1.mono HW.out.1.size))).mono ?_
     rintro r w4 ⟨rfl,hb4⟩;have H4:=hd0 (QAG H3.out hb4);have d3:=H4.out.2 3 _ rfl;have d4:=H4.out.2 4 _ rfl;have d5:=H4.out.2 5 _ rfl;have d6:=H4.out.2 6 _ rfl;have d7:=H4.out.2 7 _ rfl;clear hb4 HN
     cases RX <;> (go_wp2;go_ret;exact⟨by rw[HK.out];rfl,H4.out.1⟩))
 |false=>
 cases e17:(k==17)with
 |true=>
  have hft:FT=((QAI 0 0 tk tl th s ts tn np nk 0)&&btw n 0 0&&decide ((0:Int)≤num)):=by have h:=HFT.out;rw[eq_of_beq e17]at h;exact h.symm
  have HF:=hd0 (fun w=>QEL k num tk tl th s ts tp pp pk pa tn tc np cp nk ck n ca w);have HB:=hd0 (fun w=>(show Calls prog 163 #[.agg (Z9 k s num tk ts tl th tp tn tc pp np cp pk nk ck pa n ca),.int .i64 0,.int .i64 0] w fun e w'=>e= .returned (.bool (btw n 0 0))∧Below w.heap.size w w' from QAc k num tk tl th s ts tp pp pk pa tn tc np cp nk ck n ca 0 0 w));generalize QAI 0 0 tk tl th s ts tn np nk 0=Z at*;generalize btw n 0 0=RB at hft HB;generalize eEG:decide ((0:Int)≤num)=EG at hft;have HK:=hd0 hft;clear hft HFT
  go_wp2_with (refine lb_ H1.out.2 ?_)
  refine(HF.out w1).mono ?_;rintro r w2 ⟨rfl,hb2⟩;have H2:=hd0 (QAG H1.out hb2);clear hb2 H1 c0 HF
  cases Z with
  |false=>
   go_wp2;go_ret;exact⟨by rw[HK.out];rfl,H2.out.1⟩
  |true=>
  go_wp2_with (refine lb_ H2.out.2 ?_)
  refine(HB.out w2).mono ?_;rintro r w3 ⟨rfl,hb3⟩;have H3:=hd0 (QAG H2.out hb3);have b2:=H3.out.2 2 _ rfl;clear hb3 H2 HB
  cases RB <;> cases EG
  all_goals go_wp2
  all_goals go_ret
  all_goals exact⟨by rw[HK.out];rfl,H3.out.1⟩
 |false=>
 have hft:FT=false:=by
  have h:=HFT.out;rw[←h];unfold Ex.form;simp only;rw[if_neg (ne_of_beq_false e1),if_neg (ne_of_beq_false e2),if_neg (ne_of_beq_false e3),if_neg (ne_of_beq_false e4),if_neg (ne_of_beq_false e5),if_neg (ne_of_beq_false e6),if_neg (ne_of_beq_false e7),if_neg (ne_of_beq_false e8),if_neg (ne_of_beq_false e9),if_neg (ne_of_beq_false e10),if_neg (ne_of_beq_false e11),if_neg (ne_of_beq_false e12),if_neg (ne_of_beq_false e13),if_neg (ne_of_beq_false e14),if_neg (ne_of_beq_false e17)]
 have HK:=hd0 hft;clear hft HFT;go_wp2;go_ret;exact⟨by rw[HK.out] <;> rfl,H1.out.1⟩
end Go.Proofs.YtjnclkakbopnjaaGreatDoor
