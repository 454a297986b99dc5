/- XLexL -/
import Derived.Test.YtjnclkakbopnjaaGreatDoorLot04
set_option linter.unusedSimpArgs false
set_option linter.unusedVariables false
set_option maxRecDepth 100000
set_option maxHeartbeats 16000000
namespace Go.Proofs.YtjnclkakbopnjaaGreatDoor
open Go.Proofs.Tryz
open Go.RowKit
def endU(p:Nat):Option Nat→Ending
 |none=> .returned (.tuple #[])
 |some er=> .panicked [{v:=QCk p er,recovered:=false}]
def QBc(l:List UInt8)(k:Nat):Nat:=match l.drop k with|b::_=>b.toNat| []=>0
def QAM(l:List UInt8)(p kind n:Nat):Option Nat:=
 if kind=2 then
  (if(QBi ((l.drop p).take n)).2=false then some 11 else if 100≤n then some 11 else if QBN (QBc l (p+n))=true then some 11
   else if QBc l (p+n)=0 then none else if(0:Int)≤Lib.indexByte [95,63,33,36] (QBc l (p+n)).toUInt8 then some 11 else none)
 else if kind=4 then(if QDz (QBc l (p+n))=true then some 12 else none)
 else if kind=1∨kind=3∨kind=6 then(if 40<n then some 2 else none)
 else if kind=0 then(if Lib.hasPrefix (l.drop p) [35] then some 12 else some 10)
 else none
theorem QFx(l:List UInt8)(k:Nat):QBc l k<256:=by
 unfold QBc
 split
 ·
  rename_i b _ _;exact b.toNat_lt
 ·
  omega
theorem QDt(s:ByteArray)(k:Nat)(h:k<s.size):QBc s.data.toList k=s[k].toNat:=by unfold QBc;rw[QBC s k h]
theorem QMM(s:ByteArray)(k:Nat)(h:¬k<s.size):QBc s.data.toList k=0:=by unfold QBc;rw[List.drop_of_length_le (by rw[QAE];omega)]
theorem QH4(t:ByteArray)(c:Nat)(r:Int)(h:Lib.indexByte t.data.toList c.toUInt8=r)(x:Int)(hx:x=c)(w:World):
  Calls prog 246 #[.string t,.int .u8 x] w fun e w'=>e= .returned (.int .i64 r)∧w'=w:=by subst hx;exact QKQ t c r h w
theorem QAq(cb:Nat)(s pf:ByteArray)(k:Nat)(b:Bool)(hb:Lib.hasPrefix (s.data.toList.drop k) pf.data.toList=b)(w:World){tb lk la ll:Nat}(h:CutAt w cb tb s k lk la ll):
  Calls prog 282 #[.pointer (some ⟨cb,0,none⟩),.string pf] w fun e w'=>e= .returned (.bool b)∧∃n,w'=w.drewN n:=by
 rw[←hb];exact QHk cb s pf k w h.text h.pos h.le (by have:=h.size;omega)
theorem QNP(cb tb:Nat)(s:ByteArray) (p lk la ll kind n:Nat)(w:World)(h:CutAt w cb tb s p lk la ll)(hE:Env w)(hk:kind≤6)(hn:p+n≤s.size):
  Calls prog 285 #[.pointer (some ⟨cb,0,none⟩),.int .i64 kind,.int .i64 n] w fun e w'=>e=endU p (QAM s.data.toList p kind n)∧Below w.heap.size w w':=by
 have h0:=h.text;have h1:=h.pos;have h2:=h.tab;have hle:=h.le;have hsz:=h.size;have i0:(0:Int)≤p:=by omega
 have i1:(p:Int)≤p+n:=by omega
 have i2:(p:Int)+n≤s.size:=by omega
 have hval:=fun w hE=>QGo (s.extract p (p+n)) w (by rw[ByteArray.size_extract];omega) hE
 rw[Lib.extract_data,Nat.add_sub_cancel_left]at hval;have hstart:=fun pf w=>QHk cb s pf p w
 have hfail:=fun er w=>QIG (w:=w) cb p er
 have hidx:=fun r (h:Lib.indexByte [95,63,33,36] (QBc s.data.toList (p+n)).toUInt8=r)=>QH4 ⟨#[95,63,33,36]⟩ (QBc s.data.toList (p+n)) r h
 have hb:=QFx s.data.toList (p+n);have HV:=hd0 hval;have HS:=hd0 hstart;have HF:=hd0 hfail;have HI:=hd0 hidx;have HC:=hd0 h;have HE:=hd0 hE;clear hval hstart hfail hidx h hE;generalize hx1:QBi ((s.data.toList.drop p).take n)=vv at*;obtain⟨v1,v2⟩:=vv;have HX1:=hd0 hx1;clear hx1
 by_cases hnx:p+n<s.size
 ·
  have d1:decide ((p:Int)+n<s.size)=true:=by simp;omega
  have d2:(p:Int)+n<s.size:=by omega
  have d3:(0:Int)≤(p:Int)+n:=by omega
  have hnb:=QDt s (p+n) hnx;rcases (by omega:kind=0∨kind=1∨kind=2∨kind=3∨kind=4∨kind=5∨kind=6)with rfl|rfl|rfl|rfl|rfl|rfl|rfl
  ·
   cases hx:Lib.hasPrefix (s.data.toList.drop p) [35]
   ·
    have HX:=hd0 hx;have HCK:=hd0 (show QAM s.data.toList p 0 n=some 10 from by unfold QAM;simp[hx]);clear hx;go_enter func285,ntmps285;go_wp2
    go_quiet (fail)
    go_wp2
    go_quiet (fail)
    go_wp2
    go_quiet (fail)
    go_wp2_with fail
    refine(QAq cb s ⟨#[35]⟩ p false (by exact HX.out) _ (HC.out.drewN _)).mono ?_;rintro e w' ⟨rfl,m9,rfl⟩
    go_wp2_with fail
    refine(HF.out _ _ (HC.out.drewN _).pos).mono ?_;rintro e w' ⟨rfl,rfl⟩;exact⟨rfl,by rw[HCK.out];rfl,QAB (Below.refl _ _) _⟩
   ·
    have HX:=hd0 hx;have HCK:=hd0 (show QAM s.data.toList p 0 n=some 12 from by unfold QAM;simp[hx]);clear hx;go_enter func285,ntmps285;go_wp2
    go_quiet (fail)
    go_wp2
    go_quiet (fail)
    go_wp2
    go_quiet (fail)
    go_wp2_with fail
    refine(QAq cb s ⟨#[35]⟩ p true (by exact HX.out) _ (HC.out.drewN _)).mono ?_;rintro e w' ⟨rfl,m9,rfl⟩
    go_wp2_with fail
    refine(HF.out _ _ (HC.out.drewN _).pos).mono ?_;rintro e w' ⟨rfl,rfl⟩;exact⟨rfl,by rw[HCK.out];rfl,QAB (Below.refl _ _) _⟩
  ·
   by_cases hgt:40<n
   ·
    have hgt':(40:Int)<n:=by omega
    have HCK:=hd0 (show QAM s.data.toList p 1 n=some 2 from by unfold QAM;simp[hgt]);go_enter func285,ntmps285;go_wp2
    go_quiet (fail)
    go_wp2
    go_quiet (fail)
    go_wp2
    go_quiet (fail)
    go_wp2_with fail
    refine(HF.out _ _ (HC.out.drewN _).pos).mono ?_;rintro e w' ⟨rfl,rfl⟩;exact⟨rfl,by rw[HCK.out];rfl,QAB (Below.refl _ _) _⟩
   ·
    have hgt':¬(40:Int)<n:=by omega
    have HCK:=hd0 (show QAM s.data.toList p 1 n=none from by unfold QAM;simp;omega);go_enter func285,ntmps285;go_wp2
    go_quiet (fail)
    go_wp2
    go_quiet (fail)
    go_wp2
    go_quiet (fail)
    go_wp2
    first|go_end0|refine bodyPost_ret (results_none rfl _ _ _) rfl ?_
    exact⟨by rw[HCK.out];rfl,QAB (Below.refl _ _) _⟩
  ·
   cases v2
   ·
    have HCK:=hd0 (show QAM s.data.toList p 2 n=some 11 from by unfold QAM;simp[HX1.out]);go_enter func285,ntmps285;go_wp2
    go_quiet (fail)
    go_wp2
    go_quiet (fail)
    go_wp2
    go_quiet (fail)
    go_wp2_with fail
    refine(HV.out _ (HE.out.below (QAB (Below.refl _ _) _))).mono ?_;rintro e w' ⟨rfl,hB⟩;have HB:=hd0 (QAF (QAB (Below.refl w.heap.size w) _) hB);clear hB;have HC2:=hd0 (HC.out.below HB.out)
    go_wp2_with fail
    refine(HF.out _ _ HC2.out.pos).mono ?_;rintro e w' ⟨rfl,rfl⟩;exact⟨rfl,by rw[HCK.out];rfl,HB.out⟩
   ·
    by_cases hg:100≤n
    ·
     have hg':(100:Int)≤n:=by omega
     have HCK:=hd0 (show QAM s.data.toList p 2 n=some 11 from by unfold QAM;simp[HX1.out,hg]);go_enter func285,ntmps285;go_wp2
     go_quiet (fail)
     go_wp2
     go_quiet (fail)
     go_wp2
     go_quiet (fail)
     go_wp2_with fail
     refine(HV.out _ (HE.out.below (QAB (Below.refl _ _) _))).mono ?_;rintro e w' ⟨rfl,hB⟩;have HB:=hd0 (QAF (QAB (Below.refl w.heap.size w) _) hB);clear hB;have HC2:=hd0 (HC.out.below HB.out)
     go_wp2_with fail
     refine(HF.out _ _ HC2.out.pos).mono ?_;rintro e w' ⟨rfl,rfl⟩;exact⟨rfl,by rw[HCK.out];rfl,HB.out⟩
    ·
     have hg':¬(100:Int)≤n:=by omega
     cases hL:QBN s[p+n].toNat
     ·
      by_cases hz:s[p+n].toNat=0
      ·
       have hz':((s[p+n].toNat:Int) !=0)=false:=by rw[hz];rfl
       have HCK:=hd0 (show QAM s.data.toList p 2 n=none from by unfold QAM;rw[hnb];simp[HX1.out,hz,hg,show QBN 0=false from by decide]);have b1:(s[p+n].toNat:Int)<256:=by have:=s[p+n].toNat_lt;omega
       have b2:s[p+n].toNat<256:=by omega
       have HLf:=hd0 hL;clear hnb hz hL;go_enter func285,ntmps285;go_wp2
       go_quiet (fail)
       go_wp2
       go_quiet (fail)
       go_wp2
       go_quiet (fail)
       go_wp2_with fail
       refine(HV.out _ (HE.out.below (QAB (Below.refl _ _) _))).mono ?_;rintro e w' ⟨rfl,hB⟩;have HB:=hd0 (QAF (QAB (Below.refl w.heap.size w) _) hB);clear hB;have HC2:=hd0 (HC.out.below HB.out);have g1:=HC2.out.pos;have g2:=HC2.out.tab;have t0:=HC2.out.isTab.at_ 0 s[p+n].toNat (by omega) b2;simp only[cls,Nat.zero_mul,Nat.zero_add,HLf.out]at t0;generalize s[p+n]=bb at*;go_wp2
       first|go_end0|refine bodyPost_ret (results_none rfl _ _ _) rfl ?_
       exact⟨by rw[HCK.out];rfl,HB.out⟩
      ·
       have hz':((s[p+n].toNat:Int) !=0)=true:=by rw[bne_iff_ne];omega
       obtain⟨r,hr⟩:∃r,Lib.indexByte [95,63,33,36] (QBc s.data.toList (p+n)).toUInt8=r:=⟨_,rfl⟩;have hi2:=HI.out r hr (s[p+n].toNat:Int) (by rw[hnb]);have HI2:=hd0 hi2;have HLf:=hd0 hL;have b1:(s[p+n].toNat:Int)<256:=by have:=s[p+n].toNat_lt;omega
       have b2:s[p+n].toNat<256:=by omega
       by_cases hr0:(0:Int)≤r
       ·
        have HCK:=hd0 (show QAM s.data.toList p 2 n=some 11 from by unfold QAM;rw[hr,hnb];simp[HX1.out,hL,hz,hr0]);clear hnb hz hL hi2 hr;go_enter func285,ntmps285;go_wp2
        go_quiet (fail)
        go_wp2
        go_quiet (fail)
        go_wp2
        go_quiet (fail)
        go_wp2_with fail
        refine(HV.out _ (HE.out.below (QAB (Below.refl _ _) _))).mono ?_;rintro e w' ⟨rfl,hB⟩;have HB:=hd0 (QAF (QAB (Below.refl w.heap.size w) _) hB);clear hB;have HC2:=hd0 (HC.out.below HB.out);have g1:=HC2.out.pos;have g2:=HC2.out.tab;have t0:=HC2.out.isTab.at_ 0 s[p+n].toNat (by omega) b2;simp only[cls,Nat.zero_mul,Nat.zero_add,HLf.out]at t0;generalize s[p+n]=bb at*
        go_wp2_with fail
        refine(HI2.out _).mono ?_;rintro e w'' ⟨rfl,rfl⟩
        go_wp2_with fail
        refine(HF.out _ _ HC2.out.pos).mono ?_;rintro e w' ⟨rfl,rfl⟩;exact⟨rfl,by rw[HCK.out];rfl,HB.out⟩
       ·
        have HCK:=hd0 (show QAM s.data.toList p 2 n=none from by unfold QAM;rw[hr,hnb];simp[HX1.out,hL,hz,hr0,hg]);have hr1:r<0:=by omega
        clear hnb hz hL hi2 hr hr0;go_enter func285,ntmps285;go_wp2
        go_quiet (fail)
        go_wp2
        go_quiet (fail)
        go_wp2
        go_quiet (fail)
        go_wp2_with fail
        refine(HV.out _ (HE.out.below (QAB (Below.refl _ _) _))).mono ?_;rintro e w' ⟨rfl,hB⟩;have HB:=hd0 (QAF (QAB (Below.refl w.heap.size w) _) hB);clear hB;have HC2:=hd0 (HC.out.below HB.out);have g1:=HC2.out.pos;have g2:=HC2.out.tab;have t0:=HC2.out.isTab.at_ 0 s[p+n].toNat (by omega) b2;simp only[cls,Nat.zero_mul,Nat.zero_add,HLf.out]at t0;generalize s[p+n]=bb at*
        go_wp2_with fail
        refine(HI2.out _).mono ?_;rintro e w'' ⟨rfl,rfl⟩;go_wp2
        first|go_end0|refine bodyPost_ret (results_none rfl _ _ _) rfl ?_
        exact⟨by rw[HCK.out];rfl,HB.out⟩
     ·
      have HCK:=hd0 (show QAM s.data.toList p 2 n=some 11 from by unfold QAM;rw[hnb];simp[HX1.out,hL]);have HLf:=hd0 hL;have b1:(s[p+n].toNat:Int)<256:=by have:=s[p+n].toNat_lt;omega
      have b2:s[p+n].toNat<256:=by omega
      clear hnb hL;go_enter func285,ntmps285;go_wp2
      go_quiet (fail)
      go_wp2
      go_quiet (fail)
      go_wp2
      go_quiet (fail)
      go_wp2_with fail
      refine(HV.out _ (HE.out.below (QAB (Below.refl _ _) _))).mono ?_;rintro e w' ⟨rfl,hB⟩;have HB:=hd0 (QAF (QAB (Below.refl w.heap.size w) _) hB);clear hB;have HC2:=hd0 (HC.out.below HB.out);have g1:=HC2.out.pos;have g2:=HC2.out.tab;have t0:=HC2.out.isTab.at_ 0 s[p+n].toNat (by omega) b2;simp only[cls,Nat.zero_mul,Nat.zero_add,HLf.out]at t0
      go_wp2_with fail
      refine(HF.out _ _ HC2.out.pos).mono ?_;rintro e w' ⟨rfl,rfl⟩;exact⟨rfl,by rw[HCK.out];rfl,HB.out⟩
  ·
   by_cases hgt:40<n
   ·
    have hgt':(40:Int)<n:=by omega
    have HCK:=hd0 (show QAM s.data.toList p 3 n=some 2 from by unfold QAM;simp[hgt]);go_enter func285,ntmps285;go_wp2
    go_quiet (fail)
    go_wp2
    go_quiet (fail)
    go_wp2
    go_quiet (fail)
    go_wp2_with fail
    refine(HF.out _ _ (HC.out.drewN _).pos).mono ?_;rintro e w' ⟨rfl,rfl⟩;exact⟨rfl,by rw[HCK.out];rfl,QAB (Below.refl _ _) _⟩
   ·
    have hgt':¬(40:Int)<n:=by omega
    have HCK:=hd0 (show QAM s.data.toList p 3 n=none from by unfold QAM;simp;omega);go_enter func285,ntmps285;go_wp2
    go_quiet (fail)
    go_wp2
    go_quiet (fail)
    go_wp2
    go_quiet (fail)
    go_wp2
    first|go_end0|refine bodyPost_ret (results_none rfl _ _ _) rfl ?_
    exact⟨by rw[HCK.out];rfl,QAB (Below.refl _ _) _⟩
  ·
   have b1:(s[p+n].toNat:Int)<256:=by have:=s[p+n].toNat_lt;omega
   have t0:=HC.out.isTab.at_ 2 s[p+n].toNat (by omega) (by omega);simp only[cls,Nat.reduceMul]at t0
   cases hL:QDz s[p+n].toNat <;> rw[hL]at t0
   ·
    have HCK:=hd0 (show QAM s.data.toList p 4 n=none from by unfold QAM;rw[hnb];simp[hL]);clear hnb hL;go_enter func285,ntmps285;go_wp2
    go_quiet (fail)
    go_wp2
    go_quiet (fail)
    go_wp2
    go_quiet (fail)
    go_wp2
    first|go_end0|refine bodyPost_ret (results_none rfl _ _ _) rfl ?_
    exact⟨by rw[HCK.out];rfl,QAB (Below.refl _ _) _⟩
   ·
    have HCK:=hd0 (show QAM s.data.toList p 4 n=some 12 from by unfold QAM;rw[hnb];simp[hL]);clear hnb hL;go_enter func285,ntmps285;go_wp2
    go_quiet (fail)
    go_wp2
    go_quiet (fail)
    go_wp2
    go_quiet (fail)
    go_wp2_with fail
    refine(HF.out _ _ (HC.out.drewN _).pos).mono ?_;rintro e w' ⟨rfl,rfl⟩;exact⟨rfl,by rw[HCK.out];rfl,QAB (Below.refl _ _) _⟩
  ·
   have HCK:=hd0 (show QAM s.data.toList p 5 n=none from by unfold QAM;simp);go_enter func285,ntmps285;go_wp2
   go_quiet (fail)
   go_wp2
   go_quiet (fail)
   go_wp2
   go_quiet (fail)
   go_wp2
   first|go_end0|refine bodyPost_ret (results_none rfl _ _ _) rfl ?_
   exact⟨by rw[HCK.out];rfl,QAB (Below.refl _ _) _⟩
  ·
   by_cases hgt:40<n
   ·
    have hgt':(40:Int)<n:=by omega
    have HCK:=hd0 (show QAM s.data.toList p 6 n=some 2 from by unfold QAM;simp[hgt]);go_enter func285,ntmps285;go_wp2
    go_quiet (fail)
    go_wp2
    go_quiet (fail)
    go_wp2
    go_quiet (fail)
    go_wp2_with fail
    refine(HF.out _ _ (HC.out.drewN _).pos).mono ?_;rintro e w' ⟨rfl,rfl⟩;exact⟨rfl,by rw[HCK.out];rfl,QAB (Below.refl _ _) _⟩
   ·
    have hgt':¬(40:Int)<n:=by omega
    have HCK:=hd0 (show QAM s.data.toList p 6 n=none from by unfold QAM;simp;omega);go_enter func285,ntmps285;go_wp2
    go_quiet (fail)
    go_wp2
    go_quiet (fail)
    go_wp2
    go_quiet (fail)
    go_wp2
    first|go_end0|refine bodyPost_ret (results_none rfl _ _ _) rfl ?_
    exact⟨by rw[HCK.out];rfl,QAB (Below.refl _ _) _⟩
 ·
  have d1:decide ((p:Int)+n<s.size)=false:=by simp;omega
  have hnb:=QMM s (p+n) hnx;rcases (by omega:kind=0∨kind=1∨kind=2∨kind=3∨kind=4∨kind=5∨kind=6)with rfl|rfl|rfl|rfl|rfl|rfl|rfl
  ·
   cases hx:Lib.hasPrefix (s.data.toList.drop p) [35]
   ·
    have HX:=hd0 hx;have HCK:=hd0 (show QAM s.data.toList p 0 n=some 10 from by unfold QAM;simp[hx]);clear hx;go_enter func285,ntmps285;go_wp2
    go_quiet (fail)
    go_wp2
    go_quiet (fail)
    go_wp2_with fail
    refine(QAq cb s ⟨#[35]⟩ p false (by exact HX.out) _ (HC.out.drewN _)).mono ?_;rintro e w' ⟨rfl,m9,rfl⟩
    go_wp2_with fail
    refine(HF.out _ _ (HC.out.drewN _).pos).mono ?_;rintro e w' ⟨rfl,rfl⟩;exact⟨rfl,by rw[HCK.out];rfl,QAB (Below.refl _ _) _⟩
   ·
    have HX:=hd0 hx;have HCK:=hd0 (show QAM s.data.toList p 0 n=some 12 from by unfold QAM;simp[hx]);clear hx;go_enter func285,ntmps285;go_wp2
    go_quiet (fail)
    go_wp2
    go_quiet (fail)
    go_wp2_with fail
    refine(QAq cb s ⟨#[35]⟩ p true (by exact HX.out) _ (HC.out.drewN _)).mono ?_;rintro e w' ⟨rfl,m9,rfl⟩
    go_wp2_with fail
    refine(HF.out _ _ (HC.out.drewN _).pos).mono ?_;rintro e w' ⟨rfl,rfl⟩;exact⟨rfl,by rw[HCK.out];rfl,QAB (Below.refl _ _) _⟩
  ·
   by_cases hgt:40<n
   ·
    have hgt':(40:Int)<n:=by omega
    have HCK:=hd0 (show QAM s.data.toList p 1 n=some 2 from by unfold QAM;simp[hgt]);go_enter func285,ntmps285;go_wp2
    go_quiet (fail)
    go_wp2
    go_quiet (fail)
    go_wp2_with fail
    refine(HF.out _ _ (HC.out.drewN _).pos).mono ?_;rintro e w' ⟨rfl,rfl⟩;exact⟨rfl,by rw[HCK.out];rfl,QAB (Below.refl _ _) _⟩
   ·
    have hgt':¬(40:Int)<n:=by omega
    have HCK:=hd0 (show QAM s.data.toList p 1 n=none from by unfold QAM;simp;omega);go_enter func285,ntmps285;go_wp2
    go_quiet (fail)
    go_wp2
    go_quiet (fail)
    go_wp2
    first|go_end0|refine bodyPost_ret (results_none rfl _ _ _) rfl ?_
    exact⟨by rw[HCK.out];rfl,QAB (Below.refl _ _) _⟩
  ·
   cases v2
   ·
    have HCK:=hd0 (show QAM s.data.toList p 2 n=some 11 from by unfold QAM;simp[HX1.out]);go_enter func285,ntmps285;go_wp2
    go_quiet (fail)
    go_wp2
    go_quiet (fail)
    go_wp2_with fail
    refine(HV.out _ (HE.out.below (QAB (Below.refl _ _) _))).mono ?_;rintro e w' ⟨rfl,hB⟩;have HB:=hd0 (QAF (QAB (Below.refl w.heap.size w) _) hB);clear hB;have HC2:=hd0 (HC.out.below HB.out)
    go_wp2_with fail
    refine(HF.out _ _ HC2.out.pos).mono ?_;rintro e w' ⟨rfl,rfl⟩;exact⟨rfl,by rw[HCK.out];rfl,HB.out⟩
   ·
    by_cases hg:100≤n
    ·
     have hg':(100:Int)≤n:=by omega
     have HCK:=hd0 (show QAM s.data.toList p 2 n=some 11 from by unfold QAM;simp[HX1.out,hg]);go_enter func285,ntmps285;go_wp2
     go_quiet (fail)
     go_wp2
     go_quiet (fail)
     go_wp2_with fail
     refine(HV.out _ (HE.out.below (QAB (Below.refl _ _) _))).mono ?_;rintro e w' ⟨rfl,hB⟩;have HB:=hd0 (QAF (QAB (Below.refl w.heap.size w) _) hB);clear hB;have HC2:=hd0 (HC.out.below HB.out)
     go_wp2_with fail
     refine(HF.out _ _ HC2.out.pos).mono ?_;rintro e w' ⟨rfl,rfl⟩;exact⟨rfl,by rw[HCK.out];rfl,HB.out⟩
    ·
     have hg':¬(100:Int)≤n:=by omega
     have HCK:=hd0 (show QAM s.data.toList p 2 n=none from by unfold QAM;rw[hnb];simp[HX1.out,show QBN 0=false from by decide,hg]);clear hnb;go_enter func285,ntmps285;go_wp2
     go_quiet (fail)
     go_wp2
     go_quiet (fail)
     go_wp2_with fail
     refine(HV.out _ (HE.out.below (QAB (Below.refl _ _) _))).mono ?_;rintro e w' ⟨rfl,hB⟩;have HB:=hd0 (QAF (QAB (Below.refl w.heap.size w) _) hB);clear hB;have HC2:=hd0 (HC.out.below HB.out);have g1:=HC2.out.pos;have g2:=HC2.out.tab;have t0:=HC2.out.isTab.at_ 0 0 (by omega) (by omega);simp only[cls,Nat.zero_mul,Nat.zero_add,show QBN 0=false from by decide]at t0;go_wp2
     first|go_end0|refine bodyPost_ret (results_none rfl _ _ _) rfl ?_
     exact⟨by rw[HCK.out];rfl,HB.out⟩
  ·
   by_cases hgt:40<n
   ·
    have hgt':(40:Int)<n:=by omega
    have HCK:=hd0 (show QAM s.data.toList p 3 n=some 2 from by unfold QAM;simp[hgt]);go_enter func285,ntmps285;go_wp2
    go_quiet (fail)
    go_wp2
    go_quiet (fail)
    go_wp2_with fail
    refine(HF.out _ _ (HC.out.drewN _).pos).mono ?_;rintro e w' ⟨rfl,rfl⟩;exact⟨rfl,by rw[HCK.out];rfl,QAB (Below.refl _ _) _⟩
   ·
    have hgt':¬(40:Int)<n:=by omega
    have HCK:=hd0 (show QAM s.data.toList p 3 n=none from by unfold QAM;simp;omega);go_enter func285,ntmps285;go_wp2
    go_quiet (fail)
    go_wp2
    go_quiet (fail)
    go_wp2
    first|go_end0|refine bodyPost_ret (results_none rfl _ _ _) rfl ?_
    exact⟨by rw[HCK.out];rfl,QAB (Below.refl _ _) _⟩
  ·
   have t0:=HC.out.isTab.at_ 2 0 (by omega) (by omega);simp only[cls,Nat.reduceMul,Nat.add_zero,show QDz 0=false from by decide]at t0;have HCK:=hd0 (show QAM s.data.toList p 4 n=none from by unfold QAM;rw[hnb];simp[show QDz 0=false from by decide]);clear hnb;go_enter func285,ntmps285;go_wp2
   go_quiet (fail)
   go_wp2
   go_quiet (fail)
   go_wp2
   first|go_end0|refine bodyPost_ret (results_none rfl _ _ _) rfl ?_
   exact⟨by rw[HCK.out];rfl,QAB (Below.refl _ _) _⟩
  ·
   have HCK:=hd0 (show QAM s.data.toList p 5 n=none from by unfold QAM;simp);go_enter func285,ntmps285;go_wp2
   go_quiet (fail)
   go_wp2
   go_quiet (fail)
   go_wp2
   first|go_end0|refine bodyPost_ret (results_none rfl _ _ _) rfl ?_
   exact⟨by rw[HCK.out];rfl,QAB (Below.refl _ _) _⟩
  ·
   by_cases hgt:40<n
   ·
    have hgt':(40:Int)<n:=by omega
    have HCK:=hd0 (show QAM s.data.toList p 6 n=some 2 from by unfold QAM;simp[hgt]);go_enter func285,ntmps285;go_wp2
    go_quiet (fail)
    go_wp2
    go_quiet (fail)
    go_wp2_with fail
    refine(HF.out _ _ (HC.out.drewN _).pos).mono ?_;rintro e w' ⟨rfl,rfl⟩;exact⟨rfl,by rw[HCK.out];rfl,QAB (Below.refl _ _) _⟩
   ·
    have hgt':¬(40:Int)<n:=by omega
    have HCK:=hd0 (show QAM s.data.toList p 6 n=none from by unfold QAM;simp;omega);go_enter func285,ntmps285;go_wp2
    go_quiet (fail)
    go_wp2
    go_quiet (fail)
    go_wp2
    first|go_end0|refine bodyPost_ret (results_none rfl _ _ _) rfl ?_
    exact⟨by rw[HCK.out];rfl,QAB (Below.refl _ _) _⟩
end Go.Proofs.YtjnclkakbopnjaaGreatDoor
