/- XRefN, XRckA, XRckB, XRckC -/
import Derived.Test.YtjnclkakbopnjaaGreatDoorLot30
set_option linter.unusedSimpArgs false
set_option linter.unusedVariables false
set_option maxRecDepth 100000
set_option maxHeartbeats 8000000
namespace Go.Proofs.YtjnclkakbopnjaaGreatDoor
open Go.Proofs.Tryz
open Go.RowKit
theorem QSc(l sep:List UInt8):(Lib.cut l sep).1.length≤l.length∧(Lib.cut l sep).2.1.length≤l.length:=by
 unfold Lib.cut
 split
 ·
  simp;omega
 ·
  simp
theorem QMq(s:ByteArray)(w:World)(hE:Env w)(hs:s.size≤4000000)(h9:9≤w.heap.size):
  Calls prog 19 #[.string s] w fun e w'=>e= .returned (.string ⟨(QGj s.data.toList).toArray⟩)∧Below w.heap.size w w':=by
 have HN:=hd0 (QDo s w hE (by unfold maxLen;omega) h9);have HI:=hd0 QDo;have HE:=hd0 hE;have hle:=QSc s.data.toList [64];rw[QAE]at hle
 have hcut:∀w',Below w.heap.size w w'→Calls prog 52 #[.string s,.string ⟨#[64]⟩] w' fun e w2=>e= .returned (.tuple #[.string ⟨(Lib.cut s.data.toList [64]).1.toArray⟩,.string ⟨(Lib.cut s.data.toList [64]).2.1.toArray⟩,.bool (Lib.cut s.data.toList [64]).2.2])∧∃n,w2=w'.drewN n:=by
  intro w' hb;obtain⟨m,hm⟩:=(HE.out.below hb).mx;exact Tryz.strings_Cut s ⟨#[64]⟩ m w' (by omega) hm
 have hr:QQ1 s.data.toList=(Lib.cut s.data.toList [64]).1++QDf++(if(Lib.cut s.data.toList [64]).2.2=true then 64::(Lib.cut s.data.toList [64]).2.1 else []):=rfl;have hv:QGj s.data.toList=if QBb s.data.toList==1 then(if QBb (QQ1 s.data.toList)==1 then QQ1 s.data.toList else []) else []:=rfl;generalize QQ1 s.data.toList=t at*;generalize QGj s.data.toList=v at*;generalize Lib.cut s.data.toList [64]=ct at*;generalize (QBb s.data.toList==1)=b at*;obtain⟨x,y,is⟩:=ct;simp only at hr hle hcut;have HC:=hd0 hcut;clear hcut hE
 cases b with
 |false=>
  simp only[Bool.false_eq_true,if_false]at hv;subst hv;clear hr hle;go_enter func19,ntmps19
  go_wp2_with fail
  refine HN.out.mono ?_;rintro e w1 ⟨rfl,hb⟩;have HB:=hd0 hb;clear hb;go_wp2;go_ret;exact⟨rfl,HB.out⟩
 |true=>
  simp only[if_true]at hv;have HV:=hd0 hv;clear hv
  cases is with
  |false=>
   simp only[Bool.false_eq_true,if_false,List.append_nil]at hr;have ht:(⟨x.toArray⟩++⟨#[45,115,101,116,116,101,114]⟩:ByteArray).data.toList=t:=by rw[QCc,hr];rfl
   have hts:(⟨x.toArray⟩++⟨#[45,115,101,116,116,101,114]⟩:ByteArray).size≤maxLen:=by rw[←QAE,ht,hr];simp[QDf,maxLen];omega
   have HT:=hd0 (And.intro ht hts);clear ht hr hts;go_enter func19,ntmps19
   go_wp2_with fail
   refine HN.out.mono ?_;rintro e w1 ⟨rfl,hb⟩;have HB:=hd0 hb;clear hb
   go_wp2_with fail
   refine(HC.out _ HB.out).mono ?_;rintro e w2 ⟨rfl,n,rfl⟩
   go_wp2_with fail
   have hn:=HI.out (⟨x.toArray⟩++⟨#[45,115,101,116,116,101,114]⟩:ByteArray) (w1.drewN n) (HE.out.below (QAB HB.out n)) HT.out.2 (by have:=HB.out.size;show 9≤w1.heap.size;omega);rw[HT.out.1]at hn;have hv:=HV.out;generalize (QBb t==1)=b2 at*;have HX:=hd0 hn;clear hn HI
   cases b2 with
   |false=>
    simp only[Bool.false_eq_true,if_false]at hv;subst hv;refine HX.out.mono ?_;rintro e w3 ⟨rfl,hb⟩;have HB3:=hd0 ((QAB HB.out n).trans (hb.mono HB.out.size));clear hb;go_wp2;go_ret;exact⟨rfl,HB3.out⟩
   |true=>
    simp only[if_true]at hv;refine HX.out.mono ?_;rintro e w3 ⟨rfl,hb⟩;have HB3:=hd0 ((QAB HB.out n).trans (hb.mono HB.out.size));have HT2:=hd0 (QL1 (HT.out.1.trans hv.symm));clear hb hv;go_wp2;go_ret;exact⟨by rw[←HT2.out];rfl,HB3.out⟩
  |true=>
   simp only[if_true]at hr;have hsz:¬9223372036854775807<x.length+7+(1+y.length):=by omega
   have hsz2:¬9223372036854775807<1+y.length:=by omega
   have ht:(⟨x.toArray⟩++⟨#[45,115,101,116,116,101,114]⟩++(⟨#[64]⟩++⟨y.toArray⟩):ByteArray).data.toList=t:=by rw[QCc,QCc,QCc,hr];simp[QDf]
   have hts:(⟨x.toArray⟩++⟨#[45,115,101,116,116,101,114]⟩++(⟨#[64]⟩++⟨y.toArray⟩):ByteArray).size≤maxLen:=by rw[←QAE,ht,hr];simp[QDf,maxLen];omega
   have HT:=hd0 (And.intro ht hts);clear ht hr hts;go_enter func19,ntmps19
   go_wp2_with fail
   refine HN.out.mono ?_;rintro e w1 ⟨rfl,hb⟩;have HB:=hd0 hb;clear hb
   go_wp2_with fail
   refine(HC.out _ HB.out).mono ?_;rintro e w2 ⟨rfl,n,rfl⟩
   go_wp2_with fail
   have hn:=HI.out (⟨x.toArray⟩++⟨#[45,115,101,116,116,101,114]⟩++(⟨#[64]⟩++⟨y.toArray⟩):ByteArray) (w1.drewN n) (HE.out.below (QAB HB.out n)) HT.out.2 (by have:=HB.out.size;show 9≤w1.heap.size;omega);rw[HT.out.1]at hn;have hv:=HV.out;generalize (QBb t==1)=b2 at*;have HX:=hd0 hn;clear hn HI
   cases b2 with
   |false=>
    simp only[Bool.false_eq_true,if_false]at hv;subst hv;refine HX.out.mono ?_;rintro e w3 ⟨rfl,hb⟩;have HB3:=hd0 ((QAB HB.out n).trans (hb.mono HB.out.size));clear hb;go_wp2;go_ret;exact⟨rfl,HB3.out⟩
   |true=>
    simp only[if_true]at hv;refine HX.out.mono ?_;rintro e w3 ⟨rfl,hb⟩;have HB3:=hd0 ((QAB HB.out n).trans (hb.mono HB.out.size));have HT2:=hd0 (QL1 (HT.out.1.trans hv.symm));clear hb hv;go_wp2;go_ret;exact⟨by rw[←HT2.out];rfl,HB3.out⟩
open Go.Proofs.YtjnclkakbopnjaaGreatDoorW.PrintLast
def QEF(n:Nat)(ks:Nat→ByteArray)(s:ByteArray):Int:=match (List.range n).find? (fun i=>(ks i).toList==s.toList)with|some i=>i|none=> -1
def QMK(n:Nat)(ks:Nat→ByteArray)(s:ByteArray):Bool:=(List.range n).any fun i=>(ks i).toList==s.toList
theorem QPf {n:Nat}{ks:Nat→ByteArray}{s:ByteArray}(h:∀j,j<n→((ks j).toList==s.toList)=false):QEF n ks s= -1:=by
 unfold QEF;rw[List.find?_eq_none.2 (fun j hj=>by rw[h j (List.mem_range.1 hj)];decide)]
theorem QPe {n i:Nat}{ks:Nat→ByteArray}{s:ByteArray}(hi:i<n)(h:∀j,j<i→((ks j).toList==s.toList)=false)(hs:((ks i).toList==s.toList)=true):QEF n ks s=i:=by
 unfold QEF
 have:(List.range n).find? (fun i=>(ks i).toList==s.toList)=some i:=by
  rw[show n=i+(n - i - 1+1)by omega,List.range_add,List.find?_append,List.find?_eq_none.2 (fun j hj=>by rw[h j (List.mem_range.1 hj)];decide),List.range_succ_eq_map];simp[hs]
 rw[this]
theorem QIH(n:Nat)(ks:Nat→ByteArray)(s:ByteArray):decide (0≤QEF n ks s)=QMK n ks s:=by
 unfold QEF QMK;rw[Bool.eq_iff_iff,decide_eq_true_eq,List.any_eq_true]
 cases h:(List.range n).find? (fun i=>(ks i).toList==s.toList)with
 |none=>
  have h2:=List.find?_eq_none.1 h;exact⟨fun h=>absurd h (by decide),fun⟨j,hj,hs⟩=>absurd hs (h2 j hj)⟩
 |some i=>exact⟨fun _=>⟨i,List.mem_of_find?_eq_some h,(by have:=List.find?_some h;exact this)⟩,fun _=>Int.natCast_nonneg _⟩
theorem QDu {W:World}{n:Nat}{p:Option Addr}{ks:Nat→ByteArray}(h:StrR W n p ks)(s:ByteArray)(w:World)(hW:Below W.heap.size W w)(c:Nat):
  Calls prog 49 #[.slice p n c,.string s] w fun e w'=>e= .returned (.int .i64 (QEF n ks s))∧w'=w:=by
 obtain⟨hn,A,hA,hK⟩:=h;have hn2:n≤1100000:=hn;have HA:=hd0 (hA.below hW);have HK:=hd0 hK;clear hn hA hK hW;go_enter func49,ntmps49;go_wp2
 go_loopw [5] (fun v5 wr=>∃i:Nat,i≤n∧v5= .int .i64 i∧Hid (∀j,j<i→((ks j).toList==s.toList)=false)∧wr=w) (fun v5 _=>n - (intOf v5).toNat)
 case atStart=>exact⟨0,Nat.zero_le _,rfl,hd0 (fun j hj=>absurd hj (Nat.not_lt_zero _)),rfl⟩
 case round=>
  obtain⟨i,hi,rfl,HI,rfl⟩:=hrel
  by_cases hlt:i<n
  ·
   have g0:decide ((i:Int)<n)=true:=decide_eq_true (by omega);have g1:(0:Int)≤i:=by omega
   have g2:(i:Int)<n:=by omega
   obtain⟨pb,po,rfl,hpc⟩:=HA.out.at_ (by omega);have a0:=hpc i hlt 0 (by decide);rw[(HK.out i hlt).1]at a0;simp only[Nat.add_zero,Nat.mul_one]at a0;clear hpc
   cases he:((ks i).toList==s.toList)with
   |true=>
    have HV:=hd0 (QPe hlt HI.out he);go_wp2;go_ret;exact⟨by rw[HV.out];rfl,rfl⟩
   |false=>
    have HV:=hd0 (show∀j,j<i+1→((ks j).toList==s.toList)=false from fun j hj=>by
     by_cases e:j=i
     ·
      subst e;exact he
     ·
      exact HI.out j (by omega))
    go_wp2;go_roundw
    case rel=>exact⟨i+1,by omega,by go_num,HV,trivial⟩
    case measure=>simp[intOf];omega
  ·
   have g0:decide ((i:Int)<n)=false:=decide_eq_false (by omega);have HV:=hd0 (QPf (n:=n) (fun j hj=>HI.out j (by omega)));go_wp2;go_ret;exact⟨by rw[HV.out];rfl,rfl⟩
theorem TabS.strR {w:World}{b:Nat}{t:List (List UInt8)}(h:TabS w b t)(h1:t.length≤QES)(h2:∀l∈t,l.length≤QDP):
  ∃ks:Nat→ByteArray,StrR w t.length (some ⟨b,0,none⟩) ks∧∀i l,t[i]?=some l→(ks i).toList=l:=by
 refine⟨fun i=>match w.cell? ⟨b,i,none⟩ with|some (.string s)=>s|_=>⟨#[]⟩,⟨h1,fun i _=>(w.cell? ⟨b,i,none⟩).getD undef,fun i hi=>⟨b,0,rfl,fun j hj=>?_⟩,fun i hi=>?_⟩,fun i l hl=>?_⟩
 ·
  obtain⟨s,hs, -⟩:=h.at_ i _ (List.getElem?_eq_getElem hi);rw[show 0+i*1+j=i by omega];show _=some ((w.cell? ⟨b,i,none⟩).getD undef);rw[hs];rfl
 ·
  obtain⟨s,hs,hl⟩:=h.at_ i _ (List.getElem?_eq_getElem hi);simp only[hs];refine⟨rfl,?_⟩;have:=h2 _ (List.getElem_mem hi);rw[←hl,QAE]at this;exact this
 ·
  obtain⟨s,hs,hl'⟩:=h.at_ i l hl;simp only[hs];rw[Lib.toList_data];exact hl'
theorem QPv {t:List (List UInt8)}{ks:Nat→ByteArray}(h:∀i l,t[i]?=some l→(ks i).toList=l)(s:ByteArray):QMK t.length ks s=t.contains s.data.toList:=by
 unfold QMK;rw[Bool.eq_iff_iff,List.any_eq_true,List.contains_eq_mem,decide_eq_true_eq];constructor
 ·
  rintro⟨i,hi,he⟩;have hi:=List.mem_range.1 hi;rw[h i _ (List.getElem?_eq_getElem hi),beq_iff_eq,Lib.toList_data]at he;rw[←he];exact List.getElem_mem hi
 ·
  intro hm;obtain⟨i,hi,he⟩:=List.getElem_of_mem hm;refine⟨i,List.mem_range.2 hi,?_⟩;rw[h i _ (List.getElem?_eq_getElem hi),beq_iff_eq,Lib.toList_data];exact he
theorem QEN {w:World}{b:Nat}{t:List (List UInt8)}(h:TabS w b t)(h1:t.length≤QES)(h2:∀l∈t,l.length≤QDP)(s:ByteArray)(c:Nat):
  Calls prog 49 #[.slice (some ⟨b,0,none⟩) t.length c,.string s] w fun e w'=>(∃v:Int,e= .returned (.int .i64 v)∧decide (0≤v)=t.contains s.data.toList)∧w'=w:=by
 obtain⟨ks,hk,ht⟩:=h.strR h1 h2;refine(QDu hk s w (Below.refl _ _) c).mono ?_;rintro e w' ⟨rfl,rfl⟩;exact⟨⟨_,rfl,by rw[QIH,QPv ht]⟩,rfl⟩
theorem QJr:QNo (QPM prog 9 QNa QB4 noO 10000 20 50 [] c0) rsvW=true:=by kernel_rfl
theorem QIh(w:World)(h9:9≤w.heap.size):Calls prog 50 #[] w fun e w'=>Below w.heap.size w w'∧∃b c,e= .returned (.slice (some ⟨b,0,none⟩) rsvW.length c)∧TabS w' b rsvW:=QEH QJr w h9
theorem rsvW_small:rsvW.length≤QES∧∀l∈rsvW,l.length≤QDP:=by
 have h:(decide (rsvW.length≤100)&&rsvW.all fun l=>decide (l.length≤100))=true:=by decide+kernel
 rw[Bool.and_eq_true,decide_eq_true_eq,List.all_eq_true]at h;refine⟨Nat.le_trans h.1 (by unfold QES;omega),fun l hl=>Nat.le_trans (of_decide_eq_true (h.2 l hl)) (by unfold QDP;omega)⟩
theorem QDa(s:ByteArray)(w:World)(h9:9≤w.heap.size):Calls prog 18 #[.string s] w fun e w'=>e= .returned (.bool (QM4 s.data.toList))∧Below w.heap.size w w':=by
 have HR:=hd0 (QIh w h9);have HI:=hd0 (fun w b c (h:TabS w b rsvW)=>QEN h rsvW_small.1 rsvW_small.2 s c);have HQ:=hd0 (show rsvW.contains s.data.toList=QM4 s.data.toList from rfl);clear h9;generalize rsvW.contains s.data.toList=r at*;go_enter func18,ntmps18
 go_wp2_with fail
 refine HR.out.mono ?_;rintro e w1 ⟨hb,b,c,rfl,hT⟩;have HB:=hd0 hb;have HT:=hd0 hT;clear hb hT
 go_wp2_with fail
 refine(HI.out _ _ c HT.out).mono ?_;rintro e w2 ⟨⟨v,rfl,hv⟩,rfl⟩;go_wp2;go_ret;exact⟨by rw[←HQ.out,←hv];rfl,HB.out⟩
theorem QEo(s:ByteArray)(w:World)(h9:9≤w.heap.size):Calls prog 90 #[.string s] w fun e w'=>e= .returned (.bool (QAs s))∧Below w.heap.size w w':=by
 have HN:=hd0 (QCU s w h9);have HR:=hd0 (fun w' (hb:Below w.heap.size w w')=>QDa s w' (by have:=hb.size;omega));have HQ:=hd0 (show QAs s=(QCI s.data.toList&&!QM4 s.data.toList)by rw[QFw];rfl);clear h9;generalize QCI s.data.toList=a at*;generalize QM4 s.data.toList=r at*;go_enter func90,ntmps90
 go_wp2_with fail
 refine HN.out.mono ?_;rintro e w1 ⟨rfl,hb⟩;have HB:=hd0 hb;clear hb
 cases a with
 |false=>
  go_wp2;go_ret;exact⟨by rw[HQ.out];rfl,HB.out⟩
 |true=>
  go_wp2_with fail
  refine(HR.out w1 HB.out).mono ?_;rintro e w2 ⟨rfl,hb2⟩;have HB2:=hd0 (HB.out.trans (hb2.mono HB.out.size));clear hb2
  cases r
  all_goals go_wp2
  all_goals go_ret
  all_goals exact⟨by rw[HQ.out];rfl,HB2.out⟩
theorem QCJ(s:ByteArray)(w:World)(h9:9≤w.heap.size):Calls prog 164 #[.string s] w fun e w'=>e= .returned (.bool (QAs s))∧Below w.heap.size w w':=by
 have HN:=hd0 (QEo s w h9);clear h9;generalize QAs s=a at*;go_enter func164,ntmps164
 go_wp2_with fail
 refine HN.out.mono ?_;rintro e w1 ⟨rfl,hb⟩;have HB:=hd0 hb;clear hb;go_wp2;go_ret;exact⟨rfl,HB.out⟩
theorem KindOk.key {l:List UInt8}{v:Int}(h:KindOk l v):(v==3)=(QC0 l==3):=by
 rcases h with h|⟨h,h2⟩
 ·
  rw[h,Bool.eq_iff_iff,beq_iff_eq,beq_iff_eq];omega
 ·
  rw[h,h2];rfl
theorem QJw(s:ByteArray)(w:World)(hs:s.size≤1100000)(h9:9≤w.heap.size):Calls prog 189 #[.string s] w fun e w'=>e= .returned (.bool (QLb s))∧Below w.heap.size w w':=by
 have HK:=hd0 (QJx (s++⟨#[58]⟩) w h9);have hd:(s++(⟨#[58]⟩:ByteArray)).data.toList=s.data.toList++ [58]:=by rw[ByteArray.data_append,Array.toList_append]
 rw[hd]at HK;have HQ:=hd0 (show QLb s=(QC0 (s.data.toList++ [58])==3)by rw[QRU];rfl);clear hd h9;go_enter func189,ntmps189
 go_wp2_with fail
 refine HK.out.mono ?_;rintro e w1 ⟨hb,v,rfl,hv⟩;have HV:=hd0 hv.key;have HB:=hd0 hb;clear hb hv HK;go_wp2;go_ret;exact⟨by rw[HQ.out,←HV.out];rfl,HB.out⟩
theorem QBs:QAW ⟨#[]⟩=true:=by rw[QGH];rfl
theorem QDB(k lo hi:Int)(s:ByteArray)(p:Option Addr)(n c:Nat)(w:World):
  Calls prog 85 #[.agg #[.int .i64 k,.string s,.int .i64 lo,.int .i64 hi,.slice p n c]] w fun e w'=>e= .returned (.bool (k==0&&QAW s&&lo==0&&hi==0&&((n:Int)==0)))∧Below w.heap.size w w':=by
 go_enter func85,ntmps85;go_wp2
 all_goals go_ret
 all_goals exact⟨by simp_all[QAW],(Below.refl _ _).alloc (Nat.le_refl _) _⟩
theorem QB8(k num tk tl th:Int)(s ts:ByteArray)(tp pp pk pa:Option Addr) (tn tc np cp nk ck n ca:Nat)(w:World):
  Calls prog 162 #[.agg (Z9 k s num tk ts tl th tp tn tc pp np cp pk nk ck pa n ca),.string ⟨#[]⟩] w fun e w'=>e= .returned (.bool (QAI 0 num tk tl th s ts tn np nk 0))∧Below w.heap.size w w':=by
 have hz:QAI 0 num tk tl th s ts tn np nk 0=((s.toList== [])&&(num==0)&&(tk==0&&QAW ts&&tl==0&&th==0&&((tn:Int)==0))&&((np:Int)==0)&&((nk:Int)==0)):=by simp[QAI,QBs];try simp[QAW,Bool.and_assoc]
 have HT:=hd0 (fun w=>QDB tk tl th ts tp tn tc w);have F78:=hd0 (fun w=>(by have:=QAN ⟨#[]⟩ 78 w (by decide);rw[show QAR ((⟨#[]⟩:ByteArray).data.toList) (78:Nat) 0= -1 by decide]at this;exact this:Calls prog 100 #[.string ⟨#[]⟩,.int .u8 78] w fun e w'=>e= .returned (.int .i64 (-1))∧w'=w));have F35:=hd0 (fun w=>(by have:=QAN ⟨#[]⟩ 35 w (by decide);rw[show QAR ((⟨#[]⟩:ByteArray).data.toList) (35:Nat) 0= -1 by decide]at this;exact this:Calls prog 100 #[.string ⟨#[]⟩,.int .u8 35] w fun e w'=>e= .returned (.int .i64 (-1))∧w'=w));have F84:=hd0 (fun w=>(by have:=QAN ⟨#[]⟩ 84 w (by decide);rw[show QAR ((⟨#[]⟩:ByteArray).data.toList) (84:Nat) 0= -1 by decide]at this;exact this:Calls prog 100 #[.string ⟨#[]⟩,.int .u8 84] w fun e w'=>e= .returned (.int .i64 (-1))∧w'=w));have F80:=hd0 (fun w=>(by have:=QAN ⟨#[]⟩ 80 w (by decide);rw[show QAR ((⟨#[]⟩:ByteArray).data.toList) (80:Nat) 0= -1 by decide]at this;exact this:Calls prog 100 #[.string ⟨#[]⟩,.int .u8 80] w fun e w'=>e= .returned (.int .i64 (-1))∧w'=w));have F75:=hd0 (fun w=>(by have:=QAN ⟨#[]⟩ 75 w (by decide);rw[show QAR ((⟨#[]⟩:ByteArray).data.toList) (75:Nat) 0= -1 by decide]at this;exact this:Calls prog 100 #[.string ⟨#[]⟩,.int .u8 75] w fun e w'=>e= .returned (.int .i64 (-1))∧w'=w));generalize QAI 0 num tk tl th s ts tn np nk 0=res at*;generalize (tk==0&&QAW ts&&tl==0&&th==0&&((tn:Int)==0))=T at*;generalize eS:(s.toList== [])=S at hz;generalize eU:(num==0)=U at hz;generalize eP:((np:Int)==0)=P at hz
 generalize eQ:((nk:Int)==0)=Q at hz;have HZ:=hd0 hz;clear hz;go_enter func162,ntmps162;go_upto_region 1 with fail;refine QBk ?_;intro w1 H1;have c1:=H1.out.2 1 _ rfl;have c2:=H1.out.2 2 _ rfl;have c3:=H1.out.2 3 _ rfl;have c4:=H1.out.2 4 _ rfl;have c5:=H1.out.2 5 _ rfl;have c6:=H1.out.2 6 _ rfl;have c7:=H1.out.2 7 _ rfl;have c8:=H1.out.2 8 _ rfl
 go_wp2_with fail
 refine(F78.out _).mono ?_;rintro e wx ⟨rfl,rfl⟩
 cases S with
 |false=>
  go_wp2;go_ret;exact⟨by rw[HZ.out];simp,H1.out.1⟩
 |true=>
 go_wp2_with fail
 refine(F35.out _).mono ?_;rintro e wx ⟨rfl,rfl⟩
 cases U with
 |false=>
  have eV:(num !=0)=true:=by rw[bne,eU];rfl
  go_wp2;go_ret;exact⟨by rw[HZ.out];simp,H1.out.1⟩
 |true=>
 have eV:(num !=0)=false:=by rw[bne,eU];rfl
 go_wp2_with fail
 refine(F84.out _).mono ?_;rintro e wx ⟨rfl,rfl⟩
 go_wp2_with fail
 refine(HT.out _).mono ?_;rintro e w2 ⟨rfl,hb2⟩;have H2:=hd0 (QAG H1.out hb2);clear hb2 H1 c1 c2 c3 c4 c5 c6 c7 c8;have c8:=H2.out.2 8 _ rfl;have c9:=H2.out.2 9 _ rfl
 cases T with
 |false=>
  go_wp2;go_ret;exact⟨by rw[HZ.out];simp,H2.out.1⟩
 |true=>
 go_wp2_with fail
 refine(F80.out _).mono ?_;rintro e wx ⟨rfl,rfl⟩
 cases P with
 |false=>
  have eV:decide (0<np)=true:=decide_eq_true (by have:=ne_of_beq_false eP;omega);go_wp2;go_ret;exact⟨by rw[HZ.out];simp,H2.out.1⟩
 |true=>
 have eV:decide (0<np)=false:=decide_eq_false (by have:=eq_of_beq eP;omega)
 go_wp2_with fail
 refine(F75.out _).mono ?_;rintro e wx ⟨rfl,rfl⟩
 cases Q
 all_goals go_wp2
 all_goals go_ret
 all_goals exact⟨by rw[HZ.out];simp,H2.out.1⟩
theorem QB7(k num tk tl th:Int)(s ts:ByteArray)(tp pp pk pa:Option Addr) (tn tc np cp nk ck n ca:Nat)(w:World):
  Calls prog 162 #[.agg (Z9 k s num tk ts tl th tp tn tc pp np cp pk nk ck pa n ca),.string ⟨#[78]⟩] w fun e w'=>e= .returned (.bool (QAI 0 num tk tl th ⟨#[]⟩ ts tn np nk 0))∧Below w.heap.size w w':=by
 have hz:QAI 0 num tk tl th ⟨#[]⟩ ts tn np nk 0=((num==0)&&(tk==0&&QAW ts&&tl==0&&th==0&&((tn:Int)==0))&&((np:Int)==0)&&((nk:Int)==0)):=by simp[QAI,QBs];try simp[QAW,Bool.and_assoc]
 have HT:=hd0 (fun w=>QDB tk tl th ts tp tn tc w);have F78:=hd0 (fun w=>(by have:=QAN ⟨#[78]⟩ 78 w (by decide);rw[show QAR ((⟨#[78]⟩:ByteArray).data.toList) (78:Nat) 0=0 by decide]at this;exact this:Calls prog 100 #[.string ⟨#[78]⟩,.int .u8 78] w fun e w'=>e= .returned (.int .i64 (0))∧w'=w));have F35:=hd0 (fun w=>(by have:=QAN ⟨#[78]⟩ 35 w (by decide);rw[show QAR ((⟨#[78]⟩:ByteArray).data.toList) (35:Nat) 0= -1 by decide]at this;exact this:Calls prog 100 #[.string ⟨#[78]⟩,.int .u8 35] w fun e w'=>e= .returned (.int .i64 (-1))∧w'=w));have F84:=hd0 (fun w=>(by have:=QAN ⟨#[78]⟩ 84 w (by decide);rw[show QAR ((⟨#[78]⟩:ByteArray).data.toList) (84:Nat) 0= -1 by decide]at this;exact this:Calls prog 100 #[.string ⟨#[78]⟩,.int .u8 84] w fun e w'=>e= .returned (.int .i64 (-1))∧w'=w));have F80:=hd0 (fun w=>(by have:=QAN ⟨#[78]⟩ 80 w (by decide);rw[show QAR ((⟨#[78]⟩:ByteArray).data.toList) (80:Nat) 0= -1 by decide]at this;exact this:Calls prog 100 #[.string ⟨#[78]⟩,.int .u8 80] w fun e w'=>e= .returned (.int .i64 (-1))∧w'=w));have F75:=hd0 (fun w=>(by have:=QAN ⟨#[78]⟩ 75 w (by decide);rw[show QAR ((⟨#[78]⟩:ByteArray).data.toList) (75:Nat) 0= -1 by decide]at this;exact this:Calls prog 100 #[.string ⟨#[78]⟩,.int .u8 75] w fun e w'=>e= .returned (.int .i64 (-1))∧w'=w));generalize QAI 0 num tk tl th ⟨#[]⟩ ts tn np nk 0=res at*;generalize (tk==0&&QAW ts&&tl==0&&th==0&&((tn:Int)==0))=T at*;generalize eU:(num==0)=U at hz;generalize eP:((np:Int)==0)=P at hz;generalize eQ:((nk:Int)==0)=Q at hz
 have HZ:=hd0 hz;clear hz;go_enter func162,ntmps162;go_upto_region 1 with fail;refine QBk ?_;intro w1 H1;have c1:=H1.out.2 1 _ rfl;have c2:=H1.out.2 2 _ rfl;have c3:=H1.out.2 3 _ rfl;have c4:=H1.out.2 4 _ rfl;have c5:=H1.out.2 5 _ rfl;have c6:=H1.out.2 6 _ rfl;have c7:=H1.out.2 7 _ rfl;have c8:=H1.out.2 8 _ rfl
 go_wp2_with fail
 refine(F78.out _).mono ?_;rintro e wx ⟨rfl,rfl⟩
 go_wp2_with fail
 refine(F35.out _).mono ?_;rintro e wx ⟨rfl,rfl⟩
 cases U with
 |false=>
  have eV:(num !=0)=true:=by rw[bne,eU];rfl
  go_wp2;go_ret;exact⟨by rw[HZ.out];simp,H1.out.1⟩
 |true=>
 have eV:(num !=0)=false:=by rw[bne,eU];rfl
 go_wp2_with fail
 refine(F84.out _).mono ?_;rintro e wx ⟨rfl,rfl⟩
 go_wp2_with fail
 refine(HT.out _).mono ?_;rintro e w2 ⟨rfl,hb2⟩;have H2:=hd0 (QAG H1.out hb2);clear hb2 H1 c1 c2 c3 c4 c5 c6 c7 c8;have c8:=H2.out.2 8 _ rfl;have c9:=H2.out.2 9 _ rfl
 cases T with
 |false=>
  go_wp2;go_ret;exact⟨by rw[HZ.out];simp,H2.out.1⟩
 |true=>
 go_wp2_with fail
 refine(F80.out _).mono ?_;rintro e wx ⟨rfl,rfl⟩
 cases P with
 |false=>
  have eV:decide (0<np)=true:=decide_eq_true (by have:=ne_of_beq_false eP;omega);go_wp2;go_ret;exact⟨by rw[HZ.out];simp,H2.out.1⟩
 |true=>
 have eV:decide (0<np)=false:=decide_eq_false (by have:=eq_of_beq eP;omega)
 go_wp2_with fail
 refine(F75.out _).mono ?_;rintro e wx ⟨rfl,rfl⟩
 cases Q
 all_goals go_wp2
 all_goals go_ret
 all_goals exact⟨by rw[HZ.out];simp,H2.out.1⟩
theorem QEL(k num tk tl th:Int)(s ts:ByteArray)(tp pp pk pa:Option Addr) (tn tc np cp nk ck n ca:Nat)(w:World):
  Calls prog 162 #[.agg (Z9 k s num tk ts tl th tp tn tc pp np cp pk nk ck pa n ca),.string ⟨#[35]⟩] w fun e w'=>e= .returned (.bool (QAI 0 0 tk tl th s ts tn np nk 0))∧Below w.heap.size w w':=by
 have hz:QAI 0 0 tk tl th s ts tn np nk 0=((s.toList== [])&&(tk==0&&QAW ts&&tl==0&&th==0&&((tn:Int)==0))&&((np:Int)==0)&&((nk:Int)==0)):=by simp[QAI,QBs];try simp[QAW,Bool.and_assoc]
 have HT:=hd0 (fun w=>QDB tk tl th ts tp tn tc w);have F78:=hd0 (fun w=>(by have:=QAN ⟨#[35]⟩ 78 w (by decide);rw[show QAR ((⟨#[35]⟩:ByteArray).data.toList) (78:Nat) 0= -1 by decide]at this;exact this:Calls prog 100 #[.string ⟨#[35]⟩,.int .u8 78] w fun e w'=>e= .returned (.int .i64 (-1))∧w'=w));have F35:=hd0 (fun w=>(by have:=QAN ⟨#[35]⟩ 35 w (by decide);rw[show QAR ((⟨#[35]⟩:ByteArray).data.toList) (35:Nat) 0=0 by decide]at this;exact this:Calls prog 100 #[.string ⟨#[35]⟩,.int .u8 35] w fun e w'=>e= .returned (.int .i64 (0))∧w'=w));have F84:=hd0 (fun w=>(by have:=QAN ⟨#[35]⟩ 84 w (by decide);rw[show QAR ((⟨#[35]⟩:ByteArray).data.toList) (84:Nat) 0= -1 by decide]at this;exact this:Calls prog 100 #[.string ⟨#[35]⟩,.int .u8 84] w fun e w'=>e= .returned (.int .i64 (-1))∧w'=w));have F80:=hd0 (fun w=>(by have:=QAN ⟨#[35]⟩ 80 w (by decide);rw[show QAR ((⟨#[35]⟩:ByteArray).data.toList) (80:Nat) 0= -1 by decide]at this;exact this:Calls prog 100 #[.string ⟨#[35]⟩,.int .u8 80] w fun e w'=>e= .returned (.int .i64 (-1))∧w'=w));have F75:=hd0 (fun w=>(by have:=QAN ⟨#[35]⟩ 75 w (by decide);rw[show QAR ((⟨#[35]⟩:ByteArray).data.toList) (75:Nat) 0= -1 by decide]at this;exact this:Calls prog 100 #[.string ⟨#[35]⟩,.int .u8 75] w fun e w'=>e= .returned (.int .i64 (-1))∧w'=w));generalize QAI 0 0 tk tl th s ts tn np nk 0=res at*;generalize (tk==0&&QAW ts&&tl==0&&th==0&&((tn:Int)==0))=T at*;generalize eS:(s.toList== [])=S at hz;generalize eP:((np:Int)==0)=P at hz;generalize eQ:((nk:Int)==0)=Q at hz
 have HZ:=hd0 hz;clear hz;go_enter func162,ntmps162;go_upto_region 1 with fail;refine QBk ?_;intro w1 H1;have c1:=H1.out.2 1 _ rfl;have c2:=H1.out.2 2 _ rfl;have c3:=H1.out.2 3 _ rfl;have c4:=H1.out.2 4 _ rfl;have c5:=H1.out.2 5 _ rfl;have c6:=H1.out.2 6 _ rfl;have c7:=H1.out.2 7 _ rfl;have c8:=H1.out.2 8 _ rfl
 go_wp2_with fail
 refine(F78.out _).mono ?_;rintro e wx ⟨rfl,rfl⟩
 cases S with
 |false=>
  go_wp2;go_ret;exact⟨by rw[HZ.out];simp,H1.out.1⟩
 |true=>
 go_wp2_with fail
 refine(F35.out _).mono ?_;rintro e wx ⟨rfl,rfl⟩
 go_wp2_with fail
 refine(F84.out _).mono ?_;rintro e wx ⟨rfl,rfl⟩
 go_wp2_with fail
 refine(HT.out _).mono ?_;rintro e w2 ⟨rfl,hb2⟩;have H2:=hd0 (QAG H1.out hb2);clear hb2 H1 c1 c2 c3 c4 c5 c6 c7 c8;have c8:=H2.out.2 8 _ rfl;have c9:=H2.out.2 9 _ rfl
 cases T with
 |false=>
  go_wp2;go_ret;exact⟨by rw[HZ.out];simp,H2.out.1⟩
 |true=>
 go_wp2_with fail
 refine(F80.out _).mono ?_;rintro e wx ⟨rfl,rfl⟩
 cases P with
 |false=>
  have eV:decide (0<np)=true:=decide_eq_true (by have:=ne_of_beq_false eP;omega);go_wp2;go_ret;exact⟨by rw[HZ.out];simp,H2.out.1⟩
 |true=>
 have eV:decide (0<np)=false:=decide_eq_false (by have:=eq_of_beq eP;omega)
 go_wp2_with fail
 refine(F75.out _).mono ?_;rintro e wx ⟨rfl,rfl⟩
 cases Q
 all_goals go_wp2
 all_goals go_ret
 all_goals exact⟨by rw[HZ.out];simp,H2.out.1⟩
theorem QGW(k num tk tl th:Int)(s ts:ByteArray)(tp pp pk pa:Option Addr) (tn tc np cp nk ck n ca:Nat)(w:World):
  Calls prog 162 #[.agg (Z9 k s num tk ts tl th tp tn tc pp np cp pk nk ck pa n ca),.string ⟨#[78,80]⟩] w fun e w'=>e= .returned (.bool (QAI 0 num tk tl th ⟨#[]⟩ ts tn 0 nk 0))∧Below w.heap.size w w':=by
 have hz:QAI 0 num tk tl th ⟨#[]⟩ ts tn 0 nk 0=((num==0)&&(tk==0&&QAW ts&&tl==0&&th==0&&((tn:Int)==0))&&((nk:Int)==0)):=by simp[QAI,QBs];try simp[QAW,Bool.and_assoc]
 have HT:=hd0 (fun w=>QDB tk tl th ts tp tn tc w);have F78:=hd0 (fun w=>(by have:=QAN ⟨#[78,80]⟩ 78 w (by decide);rw[show QAR ((⟨#[78,80]⟩:ByteArray).data.toList) (78:Nat) 0=0 by decide]at this;exact this:Calls prog 100 #[.string ⟨#[78,80]⟩,.int .u8 78] w fun e w'=>e= .returned (.int .i64 (0))∧w'=w));have F35:=hd0 (fun w=>(by have:=QAN ⟨#[78,80]⟩ 35 w (by decide);rw[show QAR ((⟨#[78,80]⟩:ByteArray).data.toList) (35:Nat) 0= -1 by decide]at this;exact this:Calls prog 100 #[.string ⟨#[78,80]⟩,.int .u8 35] w fun e w'=>e= .returned (.int .i64 (-1))∧w'=w));have F84:=hd0 (fun w=>(by have:=QAN ⟨#[78,80]⟩ 84 w (by decide);rw[show QAR ((⟨#[78,80]⟩:ByteArray).data.toList) (84:Nat) 0= -1 by decide]at this;exact this:Calls prog 100 #[.string ⟨#[78,80]⟩,.int .u8 84] w fun e w'=>e= .returned (.int .i64 (-1))∧w'=w));have F80:=hd0 (fun w=>(by have:=QAN ⟨#[78,80]⟩ 80 w (by decide);rw[show QAR ((⟨#[78,80]⟩:ByteArray).data.toList) (80:Nat) 0=1 by decide]at this;exact this:Calls prog 100 #[.string ⟨#[78,80]⟩,.int .u8 80] w fun e w'=>e= .returned (.int .i64 (1))∧w'=w));have F75:=hd0 (fun w=>(by have:=QAN ⟨#[78,80]⟩ 75 w (by decide);rw[show QAR ((⟨#[78,80]⟩:ByteArray).data.toList) (75:Nat) 0= -1 by decide]at this;exact this:Calls prog 100 #[.string ⟨#[78,80]⟩,.int .u8 75] w fun e w'=>e= .returned (.int .i64 (-1))∧w'=w));generalize QAI 0 num tk tl th ⟨#[]⟩ ts tn 0 nk 0=res at*;generalize (tk==0&&QAW ts&&tl==0&&th==0&&((tn:Int)==0))=T at*;generalize eU:(num==0)=U at hz
 generalize eQ:((nk:Int)==0)=Q at hz;have HZ:=hd0 hz;clear hz;go_enter func162,ntmps162;go_upto_region 1 with fail;refine QBk ?_;intro w1 H1;have c1:=H1.out.2 1 _ rfl;have c2:=H1.out.2 2 _ rfl;have c3:=H1.out.2 3 _ rfl;have c4:=H1.out.2 4 _ rfl;have c5:=H1.out.2 5 _ rfl;have c6:=H1.out.2 6 _ rfl;have c7:=H1.out.2 7 _ rfl;have c8:=H1.out.2 8 _ rfl
 go_wp2_with fail
 refine(F78.out _).mono ?_;rintro e wx ⟨rfl,rfl⟩
 go_wp2_with fail
 refine(F35.out _).mono ?_;rintro e wx ⟨rfl,rfl⟩
 cases U with
 |false=>
  have eV:(num !=0)=true:=by rw[bne,eU];rfl
  go_wp2;go_ret;exact⟨by rw[HZ.out];simp,H1.out.1⟩
 |true=>
 have eV:(num !=0)=false:=by rw[bne,eU];rfl
 go_wp2_with fail
 refine(F84.out _).mono ?_;rintro e wx ⟨rfl,rfl⟩
 go_wp2_with fail
 refine(HT.out _).mono ?_;rintro e w2 ⟨rfl,hb2⟩;have H2:=hd0 (QAG H1.out hb2);clear hb2 H1 c1 c2 c3 c4 c5 c6 c7 c8;have c8:=H2.out.2 8 _ rfl;have c9:=H2.out.2 9 _ rfl
 cases T with
 |false=>
  go_wp2;go_ret;exact⟨by rw[HZ.out];simp,H2.out.1⟩
 |true=>
 go_wp2_with fail
 refine(F80.out _).mono ?_;rintro e wx ⟨rfl,rfl⟩
 go_wp2_with fail
 refine(F75.out _).mono ?_;rintro e wx ⟨rfl,rfl⟩
 cases Q
 all_goals go_wp2
 all_goals go_ret
 all_goals exact⟨by rw[HZ.out];simp,H2.out.1⟩
theorem QFc(k num tk tl th:Int)(s ts:ByteArray)(tp pp pk pa:Option Addr) (tn tc np cp nk ck n ca:Nat)(w:World):
  Calls prog 162 #[.agg (Z9 k s num tk ts tl th tp tn tc pp np cp pk nk ck pa n ca),.string ⟨#[84]⟩] w fun e w'=>e= .returned (.bool (QAI 0 num 0 0 0 s ⟨#[]⟩ 0 np nk 0))∧Below w.heap.size w w':=by
 have hz:QAI 0 num 0 0 0 s ⟨#[]⟩ 0 np nk 0=((s.toList== [])&&(num==0)&&((np:Int)==0)&&((nk:Int)==0)):=by simp[QAI,QBs];try simp[QAW,Bool.and_assoc]
 have HT:=hd0 (fun w=>QDB tk tl th ts tp tn tc w);have F78:=hd0 (fun w=>(by have:=QAN ⟨#[84]⟩ 78 w (by decide);rw[show QAR ((⟨#[84]⟩:ByteArray).data.toList) (78:Nat) 0= -1 by decide]at this;exact this:Calls prog 100 #[.string ⟨#[84]⟩,.int .u8 78] w fun e w'=>e= .returned (.int .i64 (-1))∧w'=w));have F35:=hd0 (fun w=>(by have:=QAN ⟨#[84]⟩ 35 w (by decide);rw[show QAR ((⟨#[84]⟩:ByteArray).data.toList) (35:Nat) 0= -1 by decide]at this;exact this:Calls prog 100 #[.string ⟨#[84]⟩,.int .u8 35] w fun e w'=>e= .returned (.int .i64 (-1))∧w'=w));have F84:=hd0 (fun w=>(by have:=QAN ⟨#[84]⟩ 84 w (by decide);rw[show QAR ((⟨#[84]⟩:ByteArray).data.toList) (84:Nat) 0=0 by decide]at this;exact this:Calls prog 100 #[.string ⟨#[84]⟩,.int .u8 84] w fun e w'=>e= .returned (.int .i64 (0))∧w'=w));have F80:=hd0 (fun w=>(by have:=QAN ⟨#[84]⟩ 80 w (by decide);rw[show QAR ((⟨#[84]⟩:ByteArray).data.toList) (80:Nat) 0= -1 by decide]at this;exact this:Calls prog 100 #[.string ⟨#[84]⟩,.int .u8 80] w fun e w'=>e= .returned (.int .i64 (-1))∧w'=w));have F75:=hd0 (fun w=>(by have:=QAN ⟨#[84]⟩ 75 w (by decide);rw[show QAR ((⟨#[84]⟩:ByteArray).data.toList) (75:Nat) 0= -1 by decide]at this;exact this:Calls prog 100 #[.string ⟨#[84]⟩,.int .u8 75] w fun e w'=>e= .returned (.int .i64 (-1))∧w'=w));generalize QAI 0 num 0 0 0 s ⟨#[]⟩ 0 np nk 0=res at*;generalize (tk==0&&QAW ts&&tl==0&&th==0&&((tn:Int)==0))=T at*;generalize eS:(s.toList== [])=S at hz;generalize eU:(num==0)=U at hz;generalize eP:((np:Int)==0)=P at hz
 generalize eQ:((nk:Int)==0)=Q at hz;have HZ:=hd0 hz;clear hz;go_enter func162,ntmps162;go_upto_region 1 with fail;refine QBk ?_;intro w1 H1;have c1:=H1.out.2 1 _ rfl;have c2:=H1.out.2 2 _ rfl;have c3:=H1.out.2 3 _ rfl;have c4:=H1.out.2 4 _ rfl;have c5:=H1.out.2 5 _ rfl;have c6:=H1.out.2 6 _ rfl;have c7:=H1.out.2 7 _ rfl;have c8:=H1.out.2 8 _ rfl
 go_wp2_with fail
 refine(F78.out _).mono ?_;rintro e wx ⟨rfl,rfl⟩
 cases S with
 |false=>
  go_wp2;go_ret;exact⟨by rw[HZ.out];simp,H1.out.1⟩
 |true=>
 go_wp2_with fail
 refine(F35.out _).mono ?_;rintro e wx ⟨rfl,rfl⟩
 cases U with
 |false=>
  have eV:(num !=0)=true:=by rw[bne,eU];rfl
  go_wp2;go_ret;exact⟨by rw[HZ.out];simp,H1.out.1⟩
 |true=>
 have eV:(num !=0)=false:=by rw[bne,eU];rfl
 go_wp2_with fail
 refine(F84.out _).mono ?_;rintro e wx ⟨rfl,rfl⟩
 go_wp2_with fail
 refine(F80.out _).mono ?_;rintro e wx ⟨rfl,rfl⟩
 cases P with
 |false=>
  have eV:decide (0<np)=true:=decide_eq_true (by have:=ne_of_beq_false eP;omega);go_wp2;go_ret;exact⟨by rw[HZ.out];simp,H1.out.1⟩
 |true=>
 have eV:decide (0<np)=false:=decide_eq_false (by have:=eq_of_beq eP;omega)
 go_wp2_with fail
 refine(F75.out _).mono ?_;rintro e wx ⟨rfl,rfl⟩;have c9:=H1.out.2 9 _ rfl
 cases Q
 all_goals go_wp2
 all_goals go_ret
 all_goals exact⟨by rw[HZ.out];simp,H1.out.1⟩
theorem QJi(k num tk tl th:Int)(s ts:ByteArray)(tp pp pk pa:Option Addr) (tn tc np cp nk ck n ca:Nat)(w:World):
  Calls prog 162 #[.agg (Z9 k s num tk ts tl th tp tn tc pp np cp pk nk ck pa n ca),.string ⟨#[75]⟩] w fun e w'=>e= .returned (.bool (QAI 0 num tk tl th s ts tn np 0 0))∧Below w.heap.size w w':=by
 have hz:QAI 0 num tk tl th s ts tn np 0 0=((s.toList== [])&&(num==0)&&(tk==0&&QAW ts&&tl==0&&th==0&&((tn:Int)==0))&&((np:Int)==0)):=by simp[QAI,QBs];try simp[QAW,Bool.and_assoc]
 have HT:=hd0 (fun w=>QDB tk tl th ts tp tn tc w);have F78:=hd0 (fun w=>(by have:=QAN ⟨#[75]⟩ 78 w (by decide);rw[show QAR ((⟨#[75]⟩:ByteArray).data.toList) (78:Nat) 0= -1 by decide]at this;exact this:Calls prog 100 #[.string ⟨#[75]⟩,.int .u8 78] w fun e w'=>e= .returned (.int .i64 (-1))∧w'=w));have F35:=hd0 (fun w=>(by have:=QAN ⟨#[75]⟩ 35 w (by decide);rw[show QAR ((⟨#[75]⟩:ByteArray).data.toList) (35:Nat) 0= -1 by decide]at this;exact this:Calls prog 100 #[.string ⟨#[75]⟩,.int .u8 35] w fun e w'=>e= .returned (.int .i64 (-1))∧w'=w));have F84:=hd0 (fun w=>(by have:=QAN ⟨#[75]⟩ 84 w (by decide);rw[show QAR ((⟨#[75]⟩:ByteArray).data.toList) (84:Nat) 0= -1 by decide]at this;exact this:Calls prog 100 #[.string ⟨#[75]⟩,.int .u8 84] w fun e w'=>e= .returned (.int .i64 (-1))∧w'=w));have F80:=hd0 (fun w=>(by have:=QAN ⟨#[75]⟩ 80 w (by decide);rw[show QAR ((⟨#[75]⟩:ByteArray).data.toList) (80:Nat) 0= -1 by decide]at this;exact this:Calls prog 100 #[.string ⟨#[75]⟩,.int .u8 80] w fun e w'=>e= .returned (.int .i64 (-1))∧w'=w));have F75:=hd0 (fun w=>(by have:=QAN ⟨#[75]⟩ 75 w (by decide);rw[show QAR ((⟨#[75]⟩:ByteArray).data.toList) (75:Nat) 0=0 by decide]at this;exact this:Calls prog 100 #[.string ⟨#[75]⟩,.int .u8 75] w fun e w'=>e= .returned (.int .i64 (0))∧w'=w));generalize QAI 0 num tk tl th s ts tn np 0 0=res at*;generalize (tk==0&&QAW ts&&tl==0&&th==0&&((tn:Int)==0))=T at*;generalize eS:(s.toList== [])=S at hz;generalize eU:(num==0)=U at hz;generalize eP:((np:Int)==0)=P at hz
 have HZ:=hd0 hz;clear hz;go_enter func162,ntmps162;go_upto_region 1 with fail;refine QBk ?_;intro w1 H1;have c1:=H1.out.2 1 _ rfl;have c2:=H1.out.2 2 _ rfl;have c3:=H1.out.2 3 _ rfl;have c4:=H1.out.2 4 _ rfl;have c5:=H1.out.2 5 _ rfl;have c6:=H1.out.2 6 _ rfl;have c7:=H1.out.2 7 _ rfl;have c8:=H1.out.2 8 _ rfl
 go_wp2_with fail
 refine(F78.out _).mono ?_;rintro e wx ⟨rfl,rfl⟩
 cases S with
 |false=>
  go_wp2;go_ret;exact⟨by rw[HZ.out];simp,H1.out.1⟩
 |true=>
 go_wp2_with fail
 refine(F35.out _).mono ?_;rintro e wx ⟨rfl,rfl⟩
 cases U with
 |false=>
  have eV:(num !=0)=true:=by rw[bne,eU];rfl
  go_wp2;go_ret;exact⟨by rw[HZ.out];simp,H1.out.1⟩
 |true=>
 have eV:(num !=0)=false:=by rw[bne,eU];rfl
 go_wp2_with fail
 refine(F84.out _).mono ?_;rintro e wx ⟨rfl,rfl⟩
 go_wp2_with fail
 refine(HT.out _).mono ?_;rintro e w2 ⟨rfl,hb2⟩;have H2:=hd0 (QAG H1.out hb2);clear hb2 H1 c1 c2 c3 c4 c5 c6 c7 c8;have c8:=H2.out.2 8 _ rfl;have c9:=H2.out.2 9 _ rfl
 cases T with
 |false=>
  go_wp2;go_ret;exact⟨by rw[HZ.out];simp,H2.out.1⟩
 |true=>
 go_wp2_with fail
 refine(F80.out _).mono ?_;rintro e wx ⟨rfl,rfl⟩
 cases P with
 |false=>
  have eV:decide (0<np)=true:=decide_eq_true (by have:=ne_of_beq_false eP;omega);go_wp2;go_ret;exact⟨by rw[HZ.out];simp,H2.out.1⟩
 |true=>
 have eV:decide (0<np)=false:=decide_eq_false (by have:=eq_of_beq eP;omega)
 go_wp2_with fail
 refine(F75.out _).mono ?_;rintro e wx ⟨rfl,rfl⟩;go_wp2;go_ret;exact⟨by rw[HZ.out];try simp,H2.out.1⟩
theorem QAc(k num tk tl th:Int)(s ts:ByteArray)(tp pp pk pa:Option Addr) (tn tc np cp nk ck n ca:Nat)(lo hi:Int)(w:World):
  Calls prog 163 #[.agg (Z9 k s num tk ts tl th tp tn tc pp np cp pk nk ck pa n ca),.int .i64 lo,.int .i64 hi] w fun e w'=>e= .returned (.bool (decide (lo≤(n:Int))&&decide ((n:Int)≤hi)))∧Below w.heap.size w w':=by
 generalize eL:decide (lo≤(n:Int))=L;generalize eH:decide ((n:Int)≤hi)=H;go_enter func163,ntmps163;go_upto_region 1 with fail;refine QBk ?_;intro w1 H1;have c10:=H1.out.2 10 _ rfl
 cases L <;> cases H
 all_goals go_wp2
 all_goals go_ret
 all_goals exact⟨rfl,H1.out.1⟩
theorem QPE(w:World)(X:Array Value)(t:TypeId)(ls:List (List UInt8))(h:X.toList=ls.map fun l=> .string ⟨⟨l⟩⟩):TabS (w.alloc (.cells X t)) w.heap.size ls:=
 ⟨fun i l hl=>⟨⟨⟨l⟩⟩,QAS w X t i _ (by rw[←Array.getElem?_toList,h,List.getElem?_map,hl];rfl),rfl⟩⟩
def QGd(s:ByteArray):Int:=if twoOps.contains s.toList then 2 else if oneOps.contains s.toList then 1 else 0
theorem QEu(t:List (List UInt8))(h:(decide (t.length≤100)&&t.all fun l=>decide (l.length≤100))=true):t.length≤QES∧∀l∈t,l.length≤QDP:=by
 rw[Bool.and_eq_true,decide_eq_true_eq,List.all_eq_true]at h;exact⟨Nat.le_trans h.1 (by unfold QES;omega),fun l hl=>Nat.le_trans (of_decide_eq_true (h.2 l hl)) (by unfold QDP;omega)⟩
theorem QNq(s:ByteArray)(w:World)(b:Nat)(hb:b=w.heap.size):Calls prog 49 #[.slice (some ⟨b,0,none⟩) 10 10,.string s] (w.alloc (.cells #[.string ⟨#[43]⟩,.string ⟨#[45]⟩,.string ⟨#[42]⟩,.string ⟨#[113,117,111,116,105,101,110,116]⟩,.string ⟨#[60]⟩,.string ⟨#[60,61]⟩,.string ⟨#[62]⟩,.string ⟨#[62,61]⟩,.string ⟨#[61]⟩,.string ⟨#[61,61]⟩] 9)) fun e w'=>(∃v:Int,e= .returned (.int .i64 v)∧decide (0≤v)=twoOps.contains s.data.toList)∧w'=w.alloc (.cells #[.string ⟨#[43]⟩,.string ⟨#[45]⟩,.string ⟨#[42]⟩,.string ⟨#[113,117,111,116,105,101,110,116]⟩,.string ⟨#[60]⟩,.string ⟨#[60,61]⟩,.string ⟨#[62]⟩,.string ⟨#[62,61]⟩,.string ⟨#[61]⟩,.string ⟨#[61,61]⟩] 9):=by
 subst hb;have ht:TabS (w.alloc (.cells #[.string ⟨#[43]⟩,.string ⟨#[45]⟩,.string ⟨#[42]⟩,.string ⟨#[113,117,111,116,105,101,110,116]⟩,.string ⟨#[60]⟩,.string ⟨#[60,61]⟩,.string ⟨#[62]⟩,.string ⟨#[62,61]⟩,.string ⟨#[61]⟩,.string ⟨#[61,61]⟩] 9)) w.heap.size twoOps:=QPE w #[.string ⟨#[43]⟩,.string ⟨#[45]⟩,.string ⟨#[42]⟩,.string ⟨#[113,117,111,116,105,101,110,116]⟩,.string ⟨#[60]⟩,.string ⟨#[60,61]⟩,.string ⟨#[62]⟩,.string ⟨#[62,61]⟩,.string ⟨#[61]⟩,.string ⟨#[61,61]⟩] 9 twoOps (by rfl);have h:=QEN ht (QEu twoOps (by decide)).1 (QEu twoOps (by decide)).2 s 10;have hl:twoOps.length=10:=by decide
 rw[hl]at h;exact h
theorem index_one(s:ByteArray)(w:World)(b:Nat)(hb:b=w.heap.size):Calls prog 49 #[.slice (some ⟨b,0,none⟩) 4 4,.string s] (w.alloc (.cells #[.string ⟨#[110,111,116]⟩,.string ⟨#[112,114,105,110,116]⟩,.string ⟨#[115,105,103,110,97,108]⟩,.string ⟨#[99,108,97,115,115,45,111,102]⟩] 9)) fun e w'=>(∃v:Int,e= .returned (.int .i64 v)∧decide (0≤v)=oneOps.contains s.data.toList)∧w'=w.alloc (.cells #[.string ⟨#[110,111,116]⟩,.string ⟨#[112,114,105,110,116]⟩,.string ⟨#[115,105,103,110,97,108]⟩,.string ⟨#[99,108,97,115,115,45,111,102]⟩] 9):=by
 subst hb;have ht:TabS (w.alloc (.cells #[.string ⟨#[110,111,116]⟩,.string ⟨#[112,114,105,110,116]⟩,.string ⟨#[115,105,103,110,97,108]⟩,.string ⟨#[99,108,97,115,115,45,111,102]⟩] 9)) w.heap.size oneOps:=QPE w #[.string ⟨#[110,111,116]⟩,.string ⟨#[112,114,105,110,116]⟩,.string ⟨#[115,105,103,110,97,108]⟩,.string ⟨#[99,108,97,115,115,45,111,102]⟩] 9 oneOps (by rfl);have h:=QEN ht (QEu oneOps (by decide)).1 (QEu oneOps (by decide)).2 s 4;have hl:oneOps.length=4:=by decide
 rw[hl]at h;exact h
theorem QIe(s:ByteArray)(w:World):Calls prog 166 #[.string s] w fun e w'=>e= .returned (.int .i64 (QGd s))∧Below w.heap.size w w':=by
 have H2:=hd0 (QNq s);have H1:=hd0 (index_one s);have hq:QGd s=if twoOps.contains s.data.toList then 2 else if oneOps.contains s.data.toList then 1 else 0:=by unfold QGd;rw[Lib.toList_data]
 generalize twoOps.contains s.data.toList=a at*;generalize oneOps.contains s.data.toList=b at*;have HQ:=hd0 hq;clear hq;go_enter func166,ntmps166
 go_wp2_with fail
 refine(H2.out w _ rfl).mono ?_;rintro e w1 ⟨⟨v,rfl,rfl⟩,rfl⟩
 cases hv:decide (0≤v)with
 |true=>
  go_wp2;go_ret;exact⟨by rw[HQ.out,hv];rfl,(Below.refl _ _).alloc (Nat.le_refl _) _⟩
 |false=>
  go_wp2_with fail
  refine(H1.out (w.alloc _) _ (by simp)).mono ?_;rintro e w2 ⟨⟨u,rfl,rfl⟩,rfl⟩
  cases hu:decide (0≤u)
  all_goals go_wp2
  all_goals go_ret
  all_goals exact⟨by rw[HQ.out,hv,hu];rfl,((Below.refl _ _).alloc (Nat.le_refl _) _).alloc (by simp) _⟩
theorem QCK {W:World}(h9:9≤W.heap.size){v:Value}{t:Ty}(h:TyR W v t):∀w,Below W.heap.size W w→Calls prog 43 #[v] w fun e w'=>e= .returned (.bool t.ok)∧Below w.heap.size w w':=by
 induction h with
 |mk k lo hi s n p c A f hs hn hA h ih=>
  intro w hW;have HA:=hd0 hA;have HI:=hd0 ih;have HN:=hd0 (fun w1 (hw1:Below W.heap.size W w1)=>QEo s w1 (by have:=hw1.size;omega));have hk:=Ty.ok_mk k lo hi s n f;have hm:n≤1100000:=hn;have HW:=hd0 hW;have hW0:=hW.size;clear ih h hA hW hs hn;generalize (Ty.mk k lo hi s n f).ok=res at*;generalize eL:(lo==0)=L at hk;generalize eH:(hi==0)=H at hk;generalize eN:((n:Int)==0)=N at hk;generalize eX:QAs s=X at hk HN;clear eX;unfold QAW at hk;generalize eE:(s.toList== [])=E at hk;generalize eO:(lo==1)=O at hk;generalize eQ:decide (lo≤hi)=Q at hk;generalize eM:decide ((n:Int)≤16)=M at hk
  by_cases k1:k=1∨k=4
  ·
   rw[if_pos k1]at hk;have HK:=hd0 hk;clear hk eE eO eQ eM
   have kk:(k==1)=true∨((k==1)=false∧(k==4)=true):=by
    rcases k1 with rfl|rfl
    ·
     exact Or.inl rfl
    ·
     exact Or.inr ⟨rfl,rfl⟩
   clear k1;rcases kk with e1|⟨e1,e4⟩
   all_goals cases L <;> cases H <;> cases N
   all_goals go_enter func43,ntmps43
   all_goals go_wp2_with fail
   all_goals refine(HN.out _ (HW.out.trans ((show Below w.heap.size w (w.alloc _)from(Below.refl _ _).alloc (Nat.le_refl _) _).mono hW0))).mono ?_
   all_goals rintro e w1 ⟨rfl,hb1⟩
   all_goals have HB1:=hd0 (show Below w.heap.size w w1 from((Below.refl w.heap.size w).alloc (Nat.le_refl _) _).trans (hb1.mono (by simp)))
   all_goals have c2:w1.cell? ⟨w.heap.size,2,none⟩=some (.int .i64 lo):=QAA hb1 (by simp[go_sem])
   all_goals have c3:w1.cell? ⟨w.heap.size,3,none⟩=some (.int .i64 hi):=QAA hb1 (by simp[go_sem])
   all_goals have c4:w1.cell? ⟨w.heap.size,4,none⟩=some (.slice p n c):=QAA hb1 (by simp[go_sem])
   all_goals clear hb1
   all_goals cases X
   all_goals go_wp2
   all_goals go_ret
   all_goals exact⟨by rw[HK.out];rfl,HB1.out⟩
  rw[if_neg k1]at hk;have e1:(k==1)=false:=beq_eq_false_iff_ne.2 (fun e=>k1 (Or.inl e));have e4:(k==4)=false:=beq_eq_false_iff_ne.2 (fun e=>k1 (Or.inr e));clear k1 HN
  by_cases k2:k=2
  ·
   rw[if_pos k2]at hk;have e2:(k==2)=true:=beq_iff_eq.2 k2;have HK:=hd0 hk;clear hk eO eM k2
   cases L <;> cases H <;> cases E <;> cases Q <;> cases N
   all_goals go_enter func43,ntmps43
   all_goals go_wp2
   all_goals go_ret
   all_goals exact⟨by rw[HK.out];rfl,(Below.refl _ _).alloc (Nat.le_refl _) _⟩
  rw[if_neg k2]at hk;have e2:(k==2)=false:=beq_eq_false_iff_ne.2 k2;clear k2 eQ
  by_cases k3:k=3
  ·
   rw[if_pos k3]at hk;have e3:(k==3)=true:=beq_iff_eq.2 k3;have HK:=hd0 hk;clear hk eM k3
   cases L <;> cases H <;> cases E <;> cases O <;> cases N
   all_goals go_enter func43,ntmps43
   all_goals go_wp2
   all_goals go_ret
   all_goals exact⟨by rw[HK.out];rfl,(Below.refl _ _).alloc (Nat.le_refl _) _⟩
  rw[if_neg k3]at hk;have e3:(k==3)=false:=beq_eq_false_iff_ne.2 k3;clear k3 eO
  by_cases k5:k=5
  ·
   rw[if_pos k5]at hk;have e5:(k==5)=true:=beq_iff_eq.2 k5;generalize hq:(fun i=>(f i).ok)=q at hk;have HQ:=hd0 hq;have HK:=hd0 hk;clear hk k5 eN hq;have eL2:(lo !=0)=!L:=by rw[←eL];rfl
   have eH2:(hi !=0)=!H:=by rw[←eH];rfl
   have eM2:decide ((16:Int)<n)=!M:=by rw[←eM,←decide_not];exact decide_eq_decide.2 (by omega)
   cases E with
   |false=>
    go_enter func43,ntmps43
    cases L <;> cases H <;> cases M
    all_goals simp only[Bool.not_true,Bool.not_false]at eL2 eH2 eM2
    all_goals go_wp2
    all_goals go_ret
    all_goals exact⟨by rw[HK.out];rfl,(Below.refl _ _).alloc (Nat.le_refl _) _⟩
   |true=>
   cases L with
   |false=>
    go_enter func43,ntmps43;simp only[Bool.not_false]at eL2;go_wp2;go_ret;exact⟨by rw[HK.out];rfl,(Below.refl _ _).alloc (Nat.le_refl _) _⟩
   |true=>
   cases H with
   |false=>
    go_enter func43,ntmps43;simp only[Bool.not_true,Bool.not_false]at eL2 eH2;go_wp2;go_ret;exact⟨by rw[HK.out];rfl,(Below.refl _ _).alloc (Nat.le_refl _) _⟩
   |true=>
   cases M with
   |false=>
    go_enter func43,ntmps43;simp only[Bool.not_true,Bool.not_false]at eL2 eH2 eM2;go_wp2;go_ret;exact⟨by rw[HK.out];rfl,(Below.refl _ _).alloc (Nat.le_refl _) _⟩
   |true=>
   simp only[Bool.not_true]at eL2 eH2 eM2;have HR0:=hd0 (show res=(List.range n).all q from by rw[HK.out];rfl);clear HK;go_enter func43,ntmps43
   go_wp2_with fail
   go_loopw [3] (fun v3 wr=>∃i:Nat,i≤n∧v3= .int .i64 i∧Hid ((List.range i).all q=true∧Below w.heap.size w wr∧wr.cell? ⟨w.heap.size,4,none⟩=some (.slice p n c))) (fun v3 _=>n - (intOf v3).toNat)
   case atStart=>exact⟨0,Nat.zero_le _,rfl,hd0 ⟨rfl,(Below.refl _ _).alloc (Nat.le_refl _) _,by simp[go_sem]⟩⟩
   case round=>
    obtain⟨i,hi,rfl,HR⟩:=hrel;have b4:=HR.out.2.2;have l1:w.heap.size<wr.heap.size:=World.block_lt_of_cell? wr _ b4;clear eE eL eH eM eL2 eH2 eM2 e1 e2 e3 e4 e5
    by_cases hlt:i<n
    ·
     obtain⟨pb,po,hp,hpc⟩:=(HA.out.below (HW.out.trans (HR.out.2.1.mono HW.out.size))).at_ (by omega);subst hp;have g0:decide ((i:Int)<n)=true:=decide_eq_true (by omega);have g1:(0:Int)≤i:=by omega
     have g2:(i:Int)<n:=by omega
     have a0:=hpc i hlt 0 (by decide);have a1:=hpc i hlt 1 (by decide);have a2:=hpc i hlt 2 (by decide);have a3:=hpc i hlt 3 (by decide);have a4:=hpc i hlt 4 (by decide);clear hpc;simp only[Nat.add_zero]at a0
     go_wp2_with fail
     refine(HI.out i hlt wr (HW.out.trans (HR.out.2.1.mono HW.out.size))).mono ?_;rintro e w3 ⟨rfl,hb3⟩;have HR3:=hd0 (show Below w.heap.size w w3∧w3.cell? ⟨w.heap.size,4,none⟩=some (.slice (some ⟨pb,po,none⟩) n c)from⟨HR.out.2.1.trans (hb3.mono HR.out.2.1.size),QAA hb3 b4⟩);have HQI:=hd0 (show q i=(f i).ok by rw[←HQ.out]);clear hb3 a0 a1 a2 a3 a4 b4;generalize (f i).ok=r at*
     cases r with
     |false=>
      go_wp2;go_ret;exact⟨by rw[HR0.out,QCP hlt HQI.out] <;> rfl,HR3.out.1⟩
     |true=>
      have HAL:=hd0 (show(List.range (i+1)).all q=true by rw[QAT,HR.out.1,HQI.out];rfl);go_wp2;go_roundw
      case rel=>exact⟨i+1,by omega,by go_num,hd0 ⟨HAL.out,HR3.out⟩⟩
      case measure=>simp[intOf];omega
    ·
     have g0:decide ((i:Int)<n)=false:=decide_eq_false (by omega);have HE:=hd0 (show res=true by rw[HR0.out,show n=i by omega,HR.out.1]);go_wp2;go_ret;exact⟨by rw[HE.out] <;> rfl,HR.out.2.1⟩
  rw[if_neg k5]at hk;have e5:(k==5)=false:=beq_eq_false_iff_ne.2 k5;have HK:=hd0 hk;clear hk k5 eN eM eE
  cases L <;> cases H
  all_goals go_enter func43,ntmps43
  all_goals go_wp2
  all_goals go_ret
  all_goals exact⟨by rw[HK.out];rfl,(Below.refl _ _).alloc (Nat.le_refl _) _⟩
end Go.Proofs.YtjnclkakbopnjaaGreatDoor
