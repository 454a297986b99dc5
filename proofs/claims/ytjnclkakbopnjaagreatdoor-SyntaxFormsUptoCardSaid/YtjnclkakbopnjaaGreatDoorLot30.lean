/- XRefJ, XRefK, XRefL, XRefQ, XRefM, XRefR -/
import Derived.Test.YtjnclkakbopnjaaGreatDoorLot29
import Derived.Lib.IndexMore
set_option linter.unusedSimpArgs false
set_option linter.unusedVariables false
set_option maxRecDepth 100000
set_option maxHeartbeats 4000000
namespace Go.Proofs.YtjnclkakbopnjaaGreatDoor
open Go.Proofs.Tryz
open Go.RowKit
theorem QIU(b:Nat)(hb:b<256)(w:World):Calls prog 227 #[.int .u8 87,.int .u8 b] w fun e w'=>e= .returned (.bool (QDz b))∧∃n,w'=w.drewN n:=QB6 87 b hb w
def QDk(l:List UInt8):Bool:=
 if byt l 0==35&&((QBF l).1==0||(decide (2<l.length)&&QDz (byt l 2))) then true else if(QBF l).1==0 then true else(QBF l).1 !=5&&decide (40<(QBF l).2)
def QPS(s:ByteArray)(w:World)(e:Ending)(w':World):Prop:=Below w.heap.size w w'∧∃k n er:Int,e= .returned (.agg #[.int .i64 k,.int .i64 0,.int .i64 n,.int .i64 er])∧
 (QFB s.data.toList=true→k=8∨er≠0)∧
 (QFB s.data.toList=false→QBn (byt s.data.toList 0)=true→k=7)∧
 (QFB s.data.toList=false→QBn (byt s.data.toList 0)=false→
  ((QBF s.data.toList).1=2→k=2∨er≠0)∧
  ((QBF s.data.toList).1≠2→if QDk s.data.toList=true then er≠0 else k=(QBF s.data.toList).1∧n=(QBF s.data.toList).2∧er=0))
theorem QAh {w w1:World}(h:Below w.heap.size w w1)(a b c d:Value):Below w.heap.size w ((((w1.setCell ⟨w.heap.size,0,none⟩ a).setCell ⟨w.heap.size,1,none⟩ b).setCell ⟨w.heap.size,2,none⟩ c).setCell ⟨w.heap.size,3,none⟩ d):=
 (((h.setCell (p:=⟨w.heap.size,0,none⟩) (Nat.le_refl _) _).setCell (p:=⟨w.heap.size,1,none⟩) (Nat.le_refl _) _).setCell (p:=⟨w.heap.size,2,none⟩) (Nat.le_refl _) _).setCell (p:=⟨w.heap.size,3,none⟩) (Nat.le_refl _) _
theorem QOV(s:ByteArray)(w:World)(h9:9≤w.heap.size)(h0:0<s.size)(hs:s.size≤20000):
  Calls prog 172 #[.string s,.int .i64 0,.bool false] w (QPS s w):=by
 have HCO:=hd0 (fun w=>QJq s w h0 hs);have HBL:=hd0 QNF;have HBE:=hd0 (fun w h=>QPU s w h (by omega));have HIN:=hd0 (QIg s);have HMW:=hd0 QIU;have HLE:=hd0 (QNE s.data.toList);have z0:(0:Int)<s.size:=by omega
 have z1:(0:Int)≤0:=by omega
 have z2:decide ((0:Int)<s.size)=true:=decide_eq_true z0;go_enter func172,ntmps172
 go_wp2_with fail
 refine(HCO.out _).mono ?_;rintro e w1 ⟨hb1,k,n,er,rfl,hc0,hc1⟩;have hz:∀j:Nat,j<4→w1.cell? ⟨w.heap.size,j,none⟩=some (.int .i64 0):=fun j hj=>QAA hb1 (by match j,hj with|0,_=>simp[go_sem]|1,_=>simp[go_sem]|2,_=>simp[go_sem]|3,_=>simp[go_sem])
 have hf:∀j:Nat,w1.frozen? ⟨w.heap.size,j,none⟩=false:=fun j=>(hb1.frozen (p:=⟨w.heap.size,j,none⟩) (by simp)).trans (by simp[go_sem])
 have hbw:Below w.heap.size w w1:=by
  have h2:Below w.heap.size w (w.alloc (.cells #[.int .i64 0,.int .i64 0,.int .i64 0,.int .i64 0] 219)):=(Below.refl _ _).alloc (Nat.le_refl _) _;exact h2.trans (hb1.mono h2.size)
 have hsz:w.heap.size+1≤w1.heap.size:=by have:=hb1.size;simpa using this
 have HB1:=hd0 hbw;clear hb1 hbw;have a0:=hz 0 (by decide);have a1:=hz 1 (by decide);have a2:=hz 2 (by decide);have a3:=hz 3 (by decide);have f0:=hf 0;have f1:=hf 1;have f2:=hf 2;have f3:=hf 3;clear hz hf;have l1:w.heap.size<w1.heap.size:=by omega
 have l2:w.heap.size≠w1.heap.size:=by omega
 cases hcom:QFB s.data.toList with
 |true=>
  have hk:=hc1 hcom;have HK:=hd0 (And.intro hcom hk);clear hc0 hc1 hcom hk
  by_cases hk0:k=0
  ·
   have e1:(k !=0)=false:=by rw[bne_eq_false_iff_eq];exact hk0
   have e2:(er !=0)=true:=by rw[bne_iff_ne];have:=HK.out.2;omega
   clear hk0;go_wp2;refine bodyPost_ret (v:= .agg #[.int .i64 k,.int .i64 0,.int .i64 n,.int .i64 er]) (by simp[results,results172,go_sem, *]) rfl ⟨(QAh HB1.out _ _ _ _).alloc (by simp;omega) _,k,n,er,rfl,fun _=>HK.out.2,fun h=>(by rw[HK.out.1]at h;cases h),fun h=>(by rw[HK.out.1]at h;cases h)⟩
  ·
   have e1:(k !=0)=true:=by rw[bne_iff_ne];exact hk0
   clear hk0;go_wp2;refine bodyPost_ret (v:= .agg #[.int .i64 k,.int .i64 0,.int .i64 n,.int .i64 er]) (by simp[results,results172,go_sem, *]) rfl ⟨(QAh HB1.out _ _ _ _).alloc (by simp;omega) _,k,n,er,rfl,fun _=>HK.out.2,fun h=>(by rw[HK.out.1]at h;cases h),fun h=>(by rw[HK.out.1]at h;cases h)⟩
 |false=>
  obtain⟨rfl,rfl,rfl⟩:=hc0 hcom;have HCM:=hd0 hcom;clear hc0 hc1 hcom;go_wp2
  go_loopw [8] (fun v8 wr=>∃n:Nat,n≤s.size∧v8= .int .i64 n∧Hid (0<n→QBn (byt s.data.toList 0)=true)∧wr=w1.alloc (.cells #[.int .i64 0,.int .i64 0,.int .i64 0,.int .i64 0] 219)) (fun v8 _=>s.size - (intOf v8).toNat)
  case atStart=>exact⟨0,Nat.zero_le _,rfl,hd0 (fun h=>absurd h (Nat.lt_irrefl _)),rfl⟩
  case round=>
   obtain⟨n,hn,rfl,HN,rfl⟩:=hrel
   by_cases hlt:n<s.size
   ·
    have g0:decide ((n:Int)<s.size)=true:=decide_eq_true (by omega);have g1:(0:Int)≤n:=by omega
    have g2:(n:Int)<s.size:=by omega
    have hq:=QCl s n hlt
    go_wp2_with fail
    refine(HBL.out _ (QJB _ _) _).mono ?_;rintro e wx ⟨rfl,rfl⟩
    cases hbn:QBn (byt s.data.toList n)with
    |true=>
     have hne:0<n+1→QBn (byt s.data.toList 0)=true:=fun _=>by
      by_cases e0:n=0
      ·
       subst e0;exact hbn
      ·
       exact HN.out (by omega)
     have HNE:=hd0 hne;clear hne hbn;go_wp2;go_roundw
     case rel=>exact⟨n+1,by omega,by go_num,HNE,trivial⟩
     case measure=>simp[intOf];omega
    |false=>
     by_cases hn0:n=0
     ·
      subst hn0;have HB0:=hd0 hbn;clear hbn hq HN g0 g1 g2
      go_wp2_with fail
      refine(HBE.out _ (by simp;omega)).mono ?_;rintro e w2 ⟨rfl,hb2⟩;have hle:=HLE.out;rw[QAE]at hle;generalize hbb:QBF s.data.toList=bb at*;obtain⟨bk,bn⟩:=bb;simp only at hle;obtain⟨hle1,hle2⟩:=hle;have b0:w2.cell? ⟨w.heap.size,0,none⟩=some (.int .i64 0):=QAA hb2 (by simp[go_sem, *]);have b1:w2.cell? ⟨w.heap.size,1,none⟩=some (.int .i64 0):=QAA hb2 (by simp[go_sem, *]);have b2:w2.cell? ⟨w.heap.size,2,none⟩=some (.int .i64 0):=QAA hb2 (by simp[go_sem, *]);have b3:w2.cell? ⟨w.heap.size,3,none⟩=some (.int .i64 0):=QAA hb2 (by simp[go_sem, *]);have d0:w2.frozen? ⟨w.heap.size,0,none⟩=false:=(hb2.frozen (p:=⟨w.heap.size,0,none⟩) (by simp;omega)).trans (by simp[go_sem, *]);have d1:w2.frozen? ⟨w.heap.size,1,none⟩=false:=(hb2.frozen (p:=⟨w.heap.size,1,none⟩) (by simp;omega)).trans (by simp[go_sem, *]);have d2:w2.frozen? ⟨w.heap.size,2,none⟩=false:=(hb2.frozen (p:=⟨w.heap.size,2,none⟩) (by simp;omega)).trans (by simp[go_sem, *]);have d3:w2.frozen? ⟨w.heap.size,3,none⟩=false:=(hb2.frozen (p:=⟨w.heap.size,3,none⟩) (by simp;omega)).trans (by simp[go_sem, *]);have m1:w.heap.size<w2.heap.size:=by have:=hb2.size;simp at this;omega
      have m2:w.heap.size≠w2.heap.size:=by omega
      have hbw:Below w.heap.size w w2:=by
       have h2:Below w.heap.size w (w1.alloc (.cells #[.int .i64 0,.int .i64 0,.int .i64 0,.int .i64 0] 219)):=HB1.out.alloc (by omega) _;exact h2.trans (hb2.mono (by simp;omega))
      have HB2:=hd0 hbw;have HBB:=hd0 hbb;clear hbw hb2 hbb a0 a1 a2 a3 f0 f1 f2 f3 l1 l2 hsz HLE HBE HBL HCO
      by_cases hk2:bk=2
      ·
       subst hk2
       go_wp2_with fail
       refine(HIN.out bn _ hs hle2).mono ?_;rintro e w3 ⟨hb3,er,rfl⟩;have c0:w3.cell? ⟨w.heap.size,0,none⟩=some (.int .i64 0):=QAA hb3 (by simp[go_sem, *]);have c1:w3.cell? ⟨w.heap.size,1,none⟩=some (.int .i64 0):=QAA hb3 (by simp[go_sem, *]);have c2:w3.cell? ⟨w.heap.size,2,none⟩=some (.int .i64 0):=QAA hb3 (by simp[go_sem, *]);have c3:w3.cell? ⟨w.heap.size,3,none⟩=some (.int .i64 0):=QAA hb3 (by simp[go_sem, *]);have n0:w3.cell? ⟨w2.heap.size,0,none⟩=some (.int .i64 2):=QAA hb3 (by simp[go_sem, *]);have n1:w3.cell? ⟨w2.heap.size,1,none⟩=some (.int .i64 bn):=QAA hb3 (by simp[go_sem, *]);have e0:w3.frozen? ⟨w.heap.size,0,none⟩=false:=(hb3.frozen (p:=⟨w.heap.size,0,none⟩) (by simp;omega)).trans (by simp[go_sem, *]);have e1:w3.frozen? ⟨w.heap.size,1,none⟩=false:=(hb3.frozen (p:=⟨w.heap.size,1,none⟩) (by simp;omega)).trans (by simp[go_sem, *]);have e2:w3.frozen? ⟨w.heap.size,2,none⟩=false:=(hb3.frozen (p:=⟨w.heap.size,2,none⟩) (by simp;omega)).trans (by simp[go_sem, *]);have e3:w3.frozen? ⟨w.heap.size,3,none⟩=false:=(hb3.frozen (p:=⟨w.heap.size,3,none⟩) (by simp;omega)).trans (by simp[go_sem, *])
       have hbw:Below w.heap.size w w3:=by
        have h2:Below w.heap.size w (w2.alloc (.cells #[.int .i64 2,.int .i64 bn] 275)):=HB2.out.alloc (by omega) _;exact h2.trans (hb3.mono (by simp;omega))
       have HB3:=hd0 hbw;clear hbw hb3 b0 b1 b2 b3 d0 d1 d2 d3
       by_cases her:er=0
       ·
        subst her;go_wp2;refine bodyPost_ret (v:= .agg #[.int .i64 2,.int .i64 0,.int .i64 bn,.int .i64 0]) (by simp[results,results172,go_sem, *]) rfl ⟨QAh HB3.out _ _ _ _,2,bn,0,rfl,fun h=>(by rw[HCM.out]at h;cases h),fun _ h=>(by rw[HB0.out]at h;cases h),fun _ _=>⟨fun _=>Or.inl rfl,fun h=>absurd (by rw[HBB.out]) h⟩⟩
       ·
        have q1:(er !=0)=true:=by rw[bne_iff_ne];exact her
        have HER:=hd0 her;clear her;go_wp2;refine bodyPost_ret (v:= .agg #[.int .i64 0,.int .i64 0,.int .i64 0,.int .i64 er]) (by simp[results,results172,go_sem, *]) rfl ⟨QAh HB3.out _ _ _ _,0,0,er,rfl,fun h=>(by rw[HCM.out]at h;cases h),fun _ h=>(by rw[HB0.out]at h;cases h),fun _ _=>⟨fun _=>Or.inr HER.out,fun h=>absurd (by rw[HBB.out]) h⟩⟩
      ·
       have p2:((bk:Int)==2)=false:=by rw[beq_eq_false_iff_ne];omega
       have hq0:=QCl s 0 h0;have HK2:=hd0 hk2;clear hk2 HIN
       by_cases h35:byt s.data.toList 0=35
       ·
        have r0:((byt s.data.toList 0:Int)==35)=true:=by rw[beq_iff_eq];omega
        by_cases hk0:bk=0
        ·
         subst hk0;have hbad:QDk s.data.toList=true:=by unfold QDk;rw[HBB.out,h35];rfl
         have HBAD:=hd0 hbad;clear hbad h35;go_wp2;refine bodyPost_ret (v:= .agg #[.int .i64 0,.int .i64 0,.int .i64 0,.int .i64 12]) (by simp[results,results172,go_sem, *]) rfl ⟨(QAh HB2.out _ _ _ _).alloc (by simp;omega) _,0,0,12,rfl,fun h=>(by rw[HCM.out]at h;cases h),fun _ h=>(by rw[HB0.out]at h;cases h),fun _ _=>⟨fun h=>absurd (by rw[HBB.out]at h;exact h) HK2.out,fun _=>by rw[if_pos HBAD.out];decide⟩⟩
        ·
         have p0:((bk:Int)==0)=false:=by rw[beq_eq_false_iff_ne];omega
         by_cases h2:2<s.size
         ·
          have s2:decide ((2:Int)<s.size)=true:=decide_eq_true (by omega);have s3:(2:Int)<s.size:=by omega
          have s4:(0:Int)≤2:=by omega
          have hq2:=QCl s 2 h2;have h2l:2<s.data.toList.length:=by rw[QAE];exact h2
          have hmw:=HMW.out _ (QJB s.data.toList 2)
          cases hcw:QDz (byt s.data.toList 2)with
          |true=>
           have hbad:QDk s.data.toList=true:=by unfold QDk;rw[HBB.out];simp[h35,h2,hcw]
           have HBAD:=hd0 hbad;rw[hcw]at hmw;have HMX:=hd0 hmw;clear hbad hcw h35 hk0 h2l hmw
           go_wp2_with fail
           refine(HMX.out _).mono ?_;rintro e w3 ⟨rfl,q3,rfl⟩;go_wp2;refine bodyPost_ret (v:= .agg #[.int .i64 0,.int .i64 0,.int .i64 0,.int .i64 12]) (by simp[results,results172,go_sem, *]) rfl ⟨(by repeat (first|with_reducible refine QAB ?_ _|with_reducible exact HB2.out.alloc (by omega) _|with_reducible refine Below.setCell ?_ (by simp) _|with_reducible exact HB2.out)),0,0,12,rfl,fun h=>(by rw[HCM.out]at h;cases h),fun _ h=>(by rw[HB0.out]at h;cases h),fun _ _=>⟨fun h=>absurd (by rw[HBB.out]at h;exact h) HK2.out,fun _=>by rw[if_pos HBAD.out];decide⟩⟩
          |false=>
           rw[hcw]at hmw;have HMX:=hd0 hmw;clear hmw
           by_cases hk5:bk=5
           ·
            have p5:((bk:Int) !=5)=false:=by rw[bne_eq_false_iff_eq];omega
            have hbad:QDk s.data.toList=false:=by unfold QDk;rw[HBB.out];simp[h35,h2,hcw,hk0,hk5]
            have HBAD:=hd0 hbad;clear hbad hk5 hk0 h35 h2l hcw
            go_wp2_with fail
            refine(HMX.out _).mono ?_;rintro e w3 ⟨rfl,q3,rfl⟩;go_wp2;refine bodyPost_ret (v:= .agg #[.int .i64 bk,.int .i64 0,.int .i64 bn,.int .i64 0]) (by simp[results,results172,go_sem, *]) rfl ⟨(by repeat (first|with_reducible refine QAB ?_ _|with_reducible exact HB2.out.alloc (by omega) _|with_reducible refine Below.setCell ?_ (by simp) _|with_reducible exact HB2.out)),bk,bn,0,rfl,fun h=>(by rw[HCM.out]at h;cases h),fun _ h=>(by rw[HB0.out]at h;cases h),fun _ _=>⟨fun h=>absurd (by rw[HBB.out]at h;exact h) HK2.out,fun _=>by rw[if_neg (by rw[HBAD.out];decide),HBB.out];exact⟨rfl,rfl,rfl⟩⟩⟩
           ·
            have p5:((bk:Int) !=5)=true:=by rw[bne_iff_ne];omega
            by_cases h40:40<bn
            ·
             have p6:decide ((40:Int)<bn)=true:=decide_eq_true (by omega);have p6n:decide (40<bn)=true:=decide_eq_true (by omega);have hbad:QDk s.data.toList=true:=by unfold QDk;rw[HBB.out];simp[h35,h2,hcw,hk0,hk5,h40]
             have HBAD:=hd0 hbad;clear hbad hk5 hk0 h40 h35 h2l hcw
             go_wp2_with fail
             refine(HMX.out _).mono ?_;rintro e w3 ⟨rfl,q3,rfl⟩;go_wp2;refine bodyPost_ret (v:= .agg #[.int .i64 0,.int .i64 0,.int .i64 0,.int .i64 2]) (by simp[results,results172,go_sem, *]) rfl ⟨(by repeat (first|with_reducible refine QAB ?_ _|with_reducible exact HB2.out.alloc (by omega) _|with_reducible refine Below.setCell ?_ (by simp) _|with_reducible exact HB2.out)),0,0,2,rfl,fun h=>(by rw[HCM.out]at h;cases h),fun _ h=>(by rw[HB0.out]at h;cases h),fun _ _=>⟨fun h=>absurd (by rw[HBB.out]at h;exact h) HK2.out,fun _=>by rw[if_pos HBAD.out];decide⟩⟩
            ·
             have p6:decide ((40:Int)<bn)=false:=decide_eq_false (by omega);have p6n:decide (40<bn)=false:=decide_eq_false (by omega);have hbad:QDk s.data.toList=false:=by unfold QDk;rw[HBB.out];simp[h35,h2,hcw,hk0,hk5,h40]
             have HBAD:=hd0 hbad;clear hbad hk5 hk0 h40 h35 h2l hcw
             go_wp2_with fail
             refine(HMX.out _).mono ?_;rintro e w3 ⟨rfl,q3,rfl⟩;go_wp2;refine bodyPost_ret (v:= .agg #[.int .i64 bk,.int .i64 0,.int .i64 bn,.int .i64 0]) (by simp[results,results172,go_sem, *]) rfl ⟨(by repeat (first|with_reducible refine QAB ?_ _|with_reducible exact HB2.out.alloc (by omega) _|with_reducible refine Below.setCell ?_ (by simp) _|with_reducible exact HB2.out)),bk,bn,0,rfl,fun h=>(by rw[HCM.out]at h;cases h),fun _ h=>(by rw[HB0.out]at h;cases h),fun _ _=>⟨fun h=>absurd (by rw[HBB.out]at h;exact h) HK2.out,fun _=>by rw[if_neg (by rw[HBAD.out];decide),HBB.out];exact⟨rfl,rfl,rfl⟩⟩⟩
         ·
          have s2:decide ((2:Int)<s.size)=false:=decide_eq_false (by omega);have h2l:¬2<s.data.toList.length:=by rw[QAE];exact h2
          by_cases hk5:bk=5
          ·
           have p5:((bk:Int) !=5)=false:=by rw[bne_eq_false_iff_eq];omega
           have hbad:QDk s.data.toList=false:=by unfold QDk;rw[HBB.out];simp[h35,h2,hk0,hk5]
           have HBAD:=hd0 hbad;clear hbad hk5 hk0 h35 h2l;go_wp2;refine bodyPost_ret (v:= .agg #[.int .i64 bk,.int .i64 0,.int .i64 bn,.int .i64 0]) (by simp[results,results172,go_sem, *]) rfl ⟨(QAh HB2.out _ _ _ _).alloc (by simp;omega) _,bk,bn,0,rfl,fun h=>(by rw[HCM.out]at h;cases h),fun _ h=>(by rw[HB0.out]at h;cases h),fun _ _=>⟨fun h=>absurd (by rw[HBB.out]at h;exact h) HK2.out,fun _=>by rw[if_neg (by rw[HBAD.out];decide),HBB.out];exact⟨rfl,rfl,rfl⟩⟩⟩
          ·
           have p5:((bk:Int) !=5)=true:=by rw[bne_iff_ne];omega
           by_cases h40:40<bn
           ·
            have p6:decide ((40:Int)<bn)=true:=decide_eq_true (by omega);have p6n:decide (40<bn)=true:=decide_eq_true (by omega);have hbad:QDk s.data.toList=true:=by unfold QDk;rw[HBB.out];simp[h35,h2,hk0,hk5,h40]
            have HBAD:=hd0 hbad;clear hbad hk5 hk0 h40 h35 h2l;go_wp2;refine bodyPost_ret (v:= .agg #[.int .i64 0,.int .i64 0,.int .i64 0,.int .i64 2]) (by simp[results,results172,go_sem, *]) rfl ⟨(QAh HB2.out _ _ _ _).alloc (by simp;omega) _,0,0,2,rfl,fun h=>(by rw[HCM.out]at h;cases h),fun _ h=>(by rw[HB0.out]at h;cases h),fun _ _=>⟨fun h=>absurd (by rw[HBB.out]at h;exact h) HK2.out,fun _=>by rw[if_pos HBAD.out];decide⟩⟩
           ·
            have p6:decide ((40:Int)<bn)=false:=decide_eq_false (by omega);have p6n:decide (40<bn)=false:=decide_eq_false (by omega);have hbad:QDk s.data.toList=false:=by unfold QDk;rw[HBB.out];simp[h35,h2,hk0,hk5,h40]
            have HBAD:=hd0 hbad;clear hbad hk5 hk0 h40 h35 h2l;go_wp2;refine bodyPost_ret (v:= .agg #[.int .i64 bk,.int .i64 0,.int .i64 bn,.int .i64 0]) (by simp[results,results172,go_sem, *]) rfl ⟨(QAh HB2.out _ _ _ _).alloc (by simp;omega) _,bk,bn,0,rfl,fun h=>(by rw[HCM.out]at h;cases h),fun _ h=>(by rw[HB0.out]at h;cases h),fun _ _=>⟨fun h=>absurd (by rw[HBB.out]at h;exact h) HK2.out,fun _=>by rw[if_neg (by rw[HBAD.out];decide),HBB.out];exact⟨rfl,rfl,rfl⟩⟩⟩
       ·
        have r0:((byt s.data.toList 0:Int)==35)=false:=by rw[beq_eq_false_iff_ne];omega
        by_cases hk0:bk=0
        ·
         subst hk0;have hbad:QDk s.data.toList=true:=by unfold QDk;rw[HBB.out];simp[h35]
         have HBAD:=hd0 hbad;clear hbad h35;go_wp2;refine bodyPost_ret (v:= .agg #[.int .i64 0,.int .i64 0,.int .i64 0,.int .i64 10]) (by simp[results,results172,go_sem, *]) rfl ⟨(QAh HB2.out _ _ _ _).alloc (by simp;omega) _,0,0,10,rfl,fun h=>(by rw[HCM.out]at h;cases h),fun _ h=>(by rw[HB0.out]at h;cases h),fun _ _=>⟨fun h=>absurd (by rw[HBB.out]at h;exact h) HK2.out,fun _=>by rw[if_pos HBAD.out];decide⟩⟩
        ·
         have p0:((bk:Int)==0)=false:=by rw[beq_eq_false_iff_ne];omega
         by_cases hk5:bk=5
         ·
          have p5:((bk:Int) !=5)=false:=by rw[bne_eq_false_iff_eq];omega
          have hbad:QDk s.data.toList=false:=by unfold QDk;rw[HBB.out];simp[h35,hk0,hk5]
          have HBAD:=hd0 hbad;clear hbad hk5 hk0 h35;go_wp2;refine bodyPost_ret (v:= .agg #[.int .i64 bk,.int .i64 0,.int .i64 bn,.int .i64 0]) (by simp[results,results172,go_sem, *]) rfl ⟨(QAh HB2.out _ _ _ _).alloc (by simp;omega) _,bk,bn,0,rfl,fun h=>(by rw[HCM.out]at h;cases h),fun _ h=>(by rw[HB0.out]at h;cases h),fun _ _=>⟨fun h=>absurd (by rw[HBB.out]at h;exact h) HK2.out,fun _=>by rw[if_neg (by rw[HBAD.out];decide),HBB.out];exact⟨rfl,rfl,rfl⟩⟩⟩
         ·
          have p5:((bk:Int) !=5)=true:=by rw[bne_iff_ne];omega
          by_cases h40:40<bn
          ·
           have p6:decide ((40:Int)<bn)=true:=decide_eq_true (by omega);have p6n:decide (40<bn)=true:=decide_eq_true (by omega);have hbad:QDk s.data.toList=true:=by unfold QDk;rw[HBB.out];simp[h35,hk0,hk5,h40]
           have HBAD:=hd0 hbad;clear hbad hk5 hk0 h40 h35;go_wp2;refine bodyPost_ret (v:= .agg #[.int .i64 0,.int .i64 0,.int .i64 0,.int .i64 2]) (by simp[results,results172,go_sem, *]) rfl ⟨(QAh HB2.out _ _ _ _).alloc (by simp;omega) _,0,0,2,rfl,fun h=>(by rw[HCM.out]at h;cases h),fun _ h=>(by rw[HB0.out]at h;cases h),fun _ _=>⟨fun h=>absurd (by rw[HBB.out]at h;exact h) HK2.out,fun _=>by rw[if_pos HBAD.out];decide⟩⟩
          ·
           have p6:decide ((40:Int)<bn)=false:=decide_eq_false (by omega);have p6n:decide (40<bn)=false:=decide_eq_false (by omega);have hbad:QDk s.data.toList=false:=by unfold QDk;rw[HBB.out];simp[h35,hk0,hk5,h40]
           have HBAD:=hd0 hbad;clear hbad hk5 hk0 h40 h35;go_wp2;refine bodyPost_ret (v:= .agg #[.int .i64 bk,.int .i64 0,.int .i64 bn,.int .i64 0]) (by simp[results,results172,go_sem, *]) rfl ⟨(QAh HB2.out _ _ _ _).alloc (by simp;omega) _,bk,bn,0,rfl,fun h=>(by rw[HCM.out]at h;cases h),fun _ h=>(by rw[HB0.out]at h;cases h),fun _ _=>⟨fun h=>absurd (by rw[HBB.out]at h;exact h) HK2.out,fun _=>by rw[if_neg (by rw[HBAD.out];decide),HBB.out];exact⟨rfl,rfl,rfl⟩⟩⟩
     ·
      have HBY:=hd0 (HN.out (by omega));have g3:decide ((0:Int)<n)=true:=decide_eq_true (by omega);have g3n:decide (0<n)=true:=decide_eq_true (by omega);clear hbn hq hn0;go_wp2;refine bodyPost_ret (v:= .agg #[.int .i64 7,.int .i64 0,.int .i64 n,.int .i64 0]) (by simp[results,results172,go_sem, *]) rfl ⟨(QAh HB1.out _ _ _ _).alloc (by simp;omega) _,7,n,0,rfl,fun h=>(by rw[HCM.out]at h;cases h),fun _ _=>rfl,fun _ h=>(by rw[HBY.out]at h;cases h)⟩
   ·
    have g0:decide ((n:Int)<s.size)=false:=decide_eq_false (by omega);have g3:decide ((0:Int)<n)=true:=decide_eq_true (by omega);have g3n:decide (0<n)=true:=decide_eq_true (by omega);have HBY:=hd0 (HN.out (by omega))
    go_wp2_with fail
    refine bodyPost_ret (v:= .agg #[.int .i64 7,.int .i64 0,.int .i64 n,.int .i64 0]) (by simp[results,results172,go_sem, *]) rfl ⟨(QAh HB1.out _ _ _ _).alloc (by simp;omega) _,7,n,0,rfl,fun h=>(by rw[HCM.out]at h;cases h),fun _ _=>rfl,fun _ h=>(by rw[HBY.out]at h;cases h)⟩
def QC0(l:List UInt8):Nat:=
 if l= []∨20000<l.length then 0 else
 if QFB l||QBn (byt l 0)||(QBF l).1==2||QDk l then 0 else if(QBF l).2=l.length then(QBF l).1 else 0
def QG6(k n er:Int)(len:Nat):Int:=if er≠0∨n≠len∨6<k then 0 else k
def KindOk(l:List UInt8)(v:Int):Prop:=v=QC0 l∨(v=2∧QC0 l=0)
theorem QPm(s:ByteArray)(k n er:Int)(h0:0<s.size)(hs:s.size≤20000)
  (h1:QFB s.data.toList=true→k=8∨er≠0)
  (h2:QFB s.data.toList=false→QBn (byt s.data.toList 0)=true→k=7)
  (h3:QFB s.data.toList=false→QBn (byt s.data.toList 0)=false→
   ((QBF s.data.toList).1=2→k=2∨er≠0)∧
   ((QBF s.data.toList).1≠2→if QDk s.data.toList=true then er≠0 else k=(QBF s.data.toList).1∧n=(QBF s.data.toList).2∧er=0)):
  KindOk s.data.toList (QG6 k n er s.size):=by
 have hb:=(QNE s.data.toList).1;have hl:=QAE s
 have hne:¬(s.data.toList= []∨20000<s.data.toList.length):=by
  rw[hl];rintro(h|h)
  ·
   have:=congrArg List.length h;rw[hl]at this;simp only[List.length_nil]at this;omega
  ·
   omega
 unfold KindOk QC0 QG6;rw[if_neg hne,QAE];generalize QFB s.data.toList=c at*;generalize QBn (byt s.data.toList 0)=bl at*;generalize QDk s.data.toList=bd at*;generalize QBF s.data.toList=bb at*;obtain⟨bk,bn⟩:=bb;simp only at*
 cases c with
 |true=>
  rw[if_pos (show(true||bl||bk==2||bd)=true by simp),if_pos]
  ·
   exact Or.inl rfl
  ·
   rcases h1 rfl with h|h
   ·
    exact Or.inr (Or.inr (by rw[h];decide))
   ·
    exact Or.inl h
 |false=>
  cases bl with
  |true=>
   rw[if_pos (show(false||true||bk==2||bd)=true by simp),if_pos]
   ·
    exact Or.inl rfl
   ·
    exact Or.inr (Or.inr (by rw[h2 rfl rfl];decide))
  |false=>
   obtain⟨h4,h5⟩:=h3 rfl rfl
   by_cases e2:bk=2
   ·
    subst e2;rw[if_pos (show(false||false||(2:Nat)==2||bd)=true by simp)]
    split
    ·
     exact Or.inl rfl
    ·
     rename_i h;rcases h4 rfl with h'|h'
     ·
      exact Or.inr ⟨h',rfl⟩
     ·
      exact absurd (Or.inl h') h
   ·
    have h6:=h5 e2
    cases bd with
    |true=>
     simp only[if_true]at h6;rw[if_pos (show(false||false||bk==2||true)=true by simp),if_pos (Or.inl h6)];exact Or.inl rfl
    |false=>
     simp only[Bool.false_eq_true,if_false]at h6;obtain⟨rfl,rfl,rfl⟩:=h6;rw[if_neg (show¬(false||false||bk==2||false)=true by simp[e2])];left
     by_cases e3:bn=s.size
     ·
      rw[if_pos e3,if_neg];rintro(h|h|h)
      ·
       exact h rfl
      ·
       exact h (by rw[e3])
      ·
       omega
     ·
      rw[if_neg e3,if_pos]
      ·
       rfl
      ·
       exact Or.inr (Or.inl (by omega))
theorem QJx(s:ByteArray)(w:World)(h9:9≤w.heap.size):
  Calls prog 98 #[.string s] w fun e w'=>Below w.heap.size w w'∧∃v:Int,e= .returned (.int .i64 v)∧KindOk s.data.toList v:=by
 by_cases h0:s.size=0
 ·
  have hr:KindOk s.data.toList 0:=Or.inl (by unfold QC0;rw[if_pos (Or.inl (List.length_eq_zero_iff.1 (by rw[QAE];exact h0)))];rfl);have HR:=hd0 hr;have z1:((s.size:Int)==0)=true:=by rw[beq_iff_eq];omega
  clear hr h0;go_enter func98,ntmps98;go_wp2;go_ret;exact⟨Below.refl _ _,0,rfl,HR.out⟩
 have z1:((s.size:Int)==0)=false:=by rw[beq_eq_false_iff_ne];omega
 by_cases hbig:20000<s.size
 ·
  have hr:KindOk s.data.toList 0:=Or.inl (by unfold QC0;rw[if_pos (Or.inr (by rw[QAE];exact hbig))];rfl);have HR:=hd0 hr;have z2:decide ((20000:Int)<s.size)=true:=decide_eq_true (by omega);have z2n:decide (20000<s.size)=true:=decide_eq_true (by omega);clear hr h0 hbig;go_enter func98,ntmps98;go_wp2;go_ret;exact⟨Below.refl _ _,0,rfl,HR.out⟩
 have z2:decide ((20000:Int)<s.size)=false:=decide_eq_false (by omega);have z2n:decide (20000<s.size)=false:=decide_eq_false (by omega);have HP:=hd0 (QOV s w h9 (by omega) (by omega));have HK:=hd0 (fun k n er=>QPm s k n er (by omega) (by omega));clear h0 hbig;go_enter func98,ntmps98
 go_wp2_with fail
 refine HP.out.mono ?_;rintro e w1 ⟨hb,k,n,er,rfl,h1,h2,h3⟩;have HV:=hd0 (HK.out k n er h1 h2 h3);have HB:=hd0 hb;clear h1 h2 h3 hb HK HP
 by_cases her:er=0
 ·
  subst her
  by_cases hn:n=s.size
  ·
   subst hn
   by_cases hk:6<k
   ·
    have k1:decide ((6:Int)<k)=true:=decide_eq_true hk;have hv:QG6 k s.size 0 s.size=0:=by unfold QG6;rw[if_pos (Or.inr (Or.inr hk))]
    have HW:=hd0 hv;clear hv hk;go_wp2;go_ret;exact⟨HB.out.alloc HB.out.size _,0,rfl,by rw[←HW.out];exact HV.out⟩
   ·
    have k1:decide ((6:Int)<k)=false:=decide_eq_false hk;have hv:QG6 k s.size 0 s.size=k:=by unfold QG6;rw[if_neg (by simp[hk])]
    have HW:=hd0 hv;clear hv hk;go_wp2;go_ret;exact⟨HB.out.alloc HB.out.size _,k,rfl,by have:=HV.out;rw[HW.out]at this;exact this⟩
  ·
   have k1:(n !=(s.size:Int))=true:=by rw[bne_iff_ne];exact hn
   have hv:QG6 k n 0 s.size=0:=by unfold QG6;rw[if_pos (Or.inr (Or.inl hn))]
   have HW:=hd0 hv;clear hv hn;go_wp2;go_ret;exact⟨HB.out.alloc HB.out.size _,0,rfl,by rw[←HW.out];exact HV.out⟩
 ·
  have k1:(er !=0)=true:=by rw[bne_iff_ne];exact her
  have hv:QG6 k n er s.size=0:=by unfold QG6;rw[if_pos (Or.inl her)]
  have HW:=hd0 hv;clear hv her;go_wp2;go_ret;exact⟨HB.out.alloc HB.out.size _,0,rfl,by rw[←HW.out];exact HV.out⟩
theorem QL1 {a:ByteArray}{l:List UInt8}(h:a.data.toList=l):a=⟨l.toArray⟩:=by rw[←h]
theorem QCc(a b:ByteArray):(a++b).data.toList=a.data.toList++b.data.toList:=by rw[ByteArray.data_append,Array.toList_append]
theorem QLW(s:ByteArray)(a b:Nat):(s.extract a b).data.toList=(s.data.toList.take b).drop a:=by
 rw[ByteArray.data_extract,Array.toList_extract];simp[List.extract,List.drop_take]
def QCI(l:List UInt8):Bool:=QC0 l==1
theorem KindOk.name {l:List UInt8}{v:Int}(h:KindOk l v):(v==1)=QCI l:=by
 unfold QCI;rcases h with h|⟨h,h2⟩
 ·
  rw[h,Bool.eq_iff_iff,beq_iff_eq,beq_iff_eq];omega
 ·
  rw[h,h2];rfl
theorem QCU(s:ByteArray)(w:World)(h9:9≤w.heap.size):
  Calls prog 53 #[.string s] w fun e w'=>e= .returned (.bool (QCI s.data.toList))∧Below w.heap.size w w':=by
 have HK:=hd0 (QJx s w h9);go_enter func53,ntmps53
 go_wp2_with fail
 refine HK.out.mono ?_;rintro e w1 ⟨hb,v,rfl,hv⟩;have hn:=hv.name;have HB:=hd0 hb;clear hb hv;go_wp2;go_ret;exact⟨rfl,HB.out⟩
theorem QQi(s:ByteArray)(hs:s.size≤1100000)(w:World):Calls prog 100 #[.string s,.int .u8 64] w fun e w'=>e= .returned (.int .i64 (QAR s.data.toList 64 0))∧w'=w:=QAN s 64 w hs
def QFd(l:List UInt8):Bool:=QCI l&&decide (QAR l 64 0<0)
theorem QJv(s:ByteArray)(w:World)(h9:9≤w.heap.size)(hs:s.size≤1100000):
  Calls prog 99 #[.string s] w fun e w'=>e= .returned (.bool (QFd s.data.toList))∧Below w.heap.size w w':=by
 have HN:=hd0 (QCU s w h9);have HF:=hd0 (QQi s hs);unfold QFd;generalize QCI s.data.toList=b at*;generalize QAR s.data.toList 64 0=r at*;go_enter func99,ntmps99
 go_wp2_with fail
 refine HN.out.mono ?_;rintro e w1 ⟨rfl,hb⟩;have HB:=hd0 hb;clear hb
 cases b with
 |false=>
  go_wp2;go_ret;exact⟨rfl,HB.out⟩
 |true=>
  go_wp2_with fail
  refine(HF.out _).mono ?_;rintro e w2 ⟨rfl,rfl⟩;go_wp2;go_ret;exact⟨rfl,HB.out⟩
def QBq(l:List UInt8):List UInt8 × List UInt8:=if QCI l=false∨QFd l=true then(l, []) else(l.take (QAR l 64 0).toNat,l.drop ((QAR l 64 0).toNat+1))
theorem QMi(s:ByteArray)(w:World)(h9:9≤w.heap.size)(hs:s.size≤1100000):
  Calls prog 54 #[.string s] w fun e w'=>e= .returned (.tuple #[.string ⟨(QBq s.data.toList).1.toArray⟩,.string ⟨(QBq s.data.toList).2.toArray⟩])∧Below w.heap.size w w':=by
 have HN:=hd0 (QCU s w h9);have HP:=hd0 (fun w h=>QJv s w h hs);have HF:=hd0 (QQi s hs);have hfa:=QII 64 s.data.toList 0;rw[QAE]at hfa;have hsp:QBq s.data.toList=if QCI s.data.toList=false∨QFd s.data.toList=true then(s.data.toList, []) else(s.data.toList.take (QAR s.data.toList 64 0).toNat,s.data.toList.drop ((QAR s.data.toList 64 0).toNat+1)):=rfl;have hpl:QFd s.data.toList=(QCI s.data.toList&&decide (QAR s.data.toList 64 0<0)):=rfl;generalize QBq s.data.toList=sp at*;generalize QFd s.data.toList=bp at*;generalize QCI s.data.toList=b at*;generalize QAR s.data.toList 64 0=r at*
 cases b with
 |false=>
  rw[if_pos (Or.inl rfl)]at hsp;subst hsp;clear hpl hfa;go_enter func54,ntmps54
  go_wp2_with fail
  refine HN.out.mono ?_;rintro e w1 ⟨rfl,hb⟩;have HB:=hd0 hb;clear hb;go_wp2;refine bodyPost_ret (v:= .tuple #[.string s,.string ⟨#[]⟩]) (by simp[results,results54,go_sem]) rfl ⟨rfl,HB.out⟩
 |true=>
  cases bp with
  |true=>
   rw[if_pos (Or.inr rfl)]at hsp;subst hsp;clear hpl hfa;go_enter func54,ntmps54
   go_wp2_with fail
   refine HN.out.mono ?_;rintro e w1 ⟨rfl,hb⟩;have HB:=hd0 hb;have hs1:=hb.size;clear hb
   go_wp2_with fail
   refine(HP.out _ (by omega)).mono ?_;rintro e w2 ⟨rfl,hb⟩;have HB2:=hd0 (HB.out.trans (hb.mono hs1));clear hb hs1;go_wp2;refine bodyPost_ret (v:= .tuple #[.string s,.string ⟨#[]⟩]) (by simp[results,results54,go_sem]) rfl ⟨rfl,HB2.out⟩
  |false=>
   rw[if_neg (by simp)]at hsp
   obtain⟨j,rfl,hj⟩:∃j:Nat,r=j∧j<s.size:=by
    rcases hfa with h|⟨j,h1,h2⟩
    ·
     rw[decide_eq_true h]at hpl;cases hpl
    ·
     exact⟨j,h1,by omega⟩
   clear hfa hpl;simp only[Int.toNat_natCast]at hsp;have h1:(s.extract 0 j)=⟨sp.1.toArray⟩:=QL1 (by rw[QLW,hsp];simp);have h2:(s.extract (j+1) s.size)=⟨sp.2.toArray⟩:=QL1 (by rw[QLW,hsp,←QAE,List.take_of_length_le (Nat.le_refl _)]);have H1:=hd0 (And.intro h1 h2);clear h1 h2 hsp;have i0:(0:Int)≤j:=by omega
   have i1:(j:Int)≤s.size:=by omega
   have i2:(0:Int)≤(j:Int)+1:=by omega
   have i3:(j:Int)+1≤s.size:=by omega
   go_enter func54,ntmps54
   go_wp2_with fail
   refine HN.out.mono ?_;rintro e w1 ⟨rfl,hb⟩;have HB:=hd0 hb;have hs1:=hb.size;clear hb
   go_wp2_with fail
   refine(HP.out _ (by omega)).mono ?_;rintro e w2 ⟨rfl,hb⟩;have HB2:=hd0 (HB.out.trans (hb.mono hs1));clear hb hs1
   go_wp2_with fail
   refine(HF.out _).mono ?_;rintro e w3 ⟨rfl,rfl⟩;go_wp2
   go_quiet (fail)
   go_wp2;refine bodyPost_ret (v:= .tuple #[.string (s.extract 0 j),.string (s.extract (j+1) s.size)]) (by simp[results,results54,go_sem]) rfl ⟨by rw[H1.out.1,H1.out.2],QAB HB2.out _⟩
def QDf:List UInt8:= [45,115,101,116,116,101,114]
def QQA(l:List UInt8):List UInt8:=(QBq l).1++QDf++(if(QBq l).2= [] then [] else 64::(QBq l).2)
def QFM(l:List UInt8):List UInt8:=if QCI l=false then [] else if QCI (QQA l)=false then [] else QQA l
theorem QO9(l:List UInt8):(QBq l).1.length≤l.length∧(QBq l).2.length≤l.length:=by
 unfold QBq
 split
 ·
  simp
 ·
  simp;omega
theorem QLC(s:ByteArray)(w:World)(h9:9≤w.heap.size)(hs:s.size≤1100000):
  Calls prog 20 #[.string s] w fun e w'=>e= .returned (.string ⟨(QFM s.data.toList).toArray⟩)∧Below w.heap.size w w':=by
 have HN:=hd0 (QCU s w h9);have HS:=hd0 (fun w h=>QMi s w h hs);have HI:=hd0 QCU;have hle:=QO9 s.data.toList;rw[QAE]at hle;have hv:QFM s.data.toList=if QCI s.data.toList=false then [] else if QCI (QQA s.data.toList)=false then [] else QQA s.data.toList:=rfl;have hr:QQA s.data.toList=(QBq s.data.toList).1++QDf++(if(QBq s.data.toList).2= [] then [] else 64::(QBq s.data.toList).2):=rfl;generalize QQA s.data.toList=t at*;generalize QFM s.data.toList=v at*;generalize QBq s.data.toList=sp at*;generalize QCI s.data.toList=b at*;obtain⟨x,y⟩:=sp;simp only at hr hle
 cases b with
 |false=>
  rw[if_pos rfl]at hv;subst hv;clear hr hle;go_enter func20,ntmps20
  go_wp2_with fail
  refine HN.out.mono ?_;rintro e w1 ⟨rfl,hb⟩;have HB:=hd0 hb;clear hb;go_wp2;go_ret;exact⟨rfl,HB.out⟩
 |true=>
  rw[if_neg (by simp)]at hv;have HV:=hd0 hv;clear hv
  cases y with
  |nil=>
   rw[if_pos rfl,List.append_nil]at hr;have ht:(⟨x.toArray⟩++⟨#[45,115,101,116,116,101,114]⟩:ByteArray).data.toList=t:=by rw[QCc,hr];rfl
   have HT:=hd0 ht;clear ht hr;go_enter func20,ntmps20
   go_wp2_with fail
   refine HN.out.mono ?_;rintro e w1 ⟨rfl,hb⟩;have HB:=hd0 hb;have hs1:=hb.size;clear hb
   go_wp2_with fail
   refine(HS.out _ (by omega)).mono ?_;rintro e w2 ⟨rfl,hb⟩;have HB2:=hd0 (HB.out.trans (hb.mono hs1));have hs2:=hb.size;clear hb
   go_wp2_with fail
   have hn:=HI.out (⟨x.toArray⟩++⟨#[45,115,101,116,116,101,114]⟩:ByteArray) w2 (by omega);rw[HT.out]at hn;have hv:=HV.out;generalize QCI t=b2 at*;have HX:=hd0 hn;clear hn HI
   cases b2 with
   |false=>
    rw[if_pos rfl]at hv;subst hv;refine HX.out.mono ?_;rintro e w3 ⟨rfl,hb⟩;have HB3:=hd0 (HB2.out.trans (hb.mono (by omega)));clear hb;go_wp2;go_ret;exact⟨rfl,HB3.out⟩
   |true=>
    rw[if_neg (by simp)]at hv;refine HX.out.mono ?_;rintro e w3 ⟨rfl,hb⟩;have HB3:=hd0 (HB2.out.trans (hb.mono (by omega)));have HT2:=hd0 (QL1 (HT.out.trans hv.symm));clear hb hv;go_wp2;go_ret;exact⟨by rw[←HT2.out];rfl,HB3.out⟩
  |cons c r=>
   rw[if_neg (by simp)]at hr;have hsz:¬9223372036854775807<x.length+7+1+(r.length+1):=by simp only[List.length_cons]at hle;omega
   have ht:(⟨x.toArray⟩++⟨#[45,115,101,116,116,101,114]⟩++⟨#[64]⟩++⟨(c::r).toArray⟩:ByteArray).data.toList=t:=by rw[QCc,QCc,QCc,hr];simp[QDf]
   have HT:=hd0 ht;clear ht hr;go_enter func20,ntmps20
   go_wp2_with fail
   refine HN.out.mono ?_;rintro e w1 ⟨rfl,hb⟩;have HB:=hd0 hb;have hs1:=hb.size;clear hb
   go_wp2_with fail
   refine(HS.out _ (by omega)).mono ?_;rintro e w2 ⟨rfl,hb⟩;have HB2:=hd0 (HB.out.trans (hb.mono hs1));have hs2:=hb.size;clear hb
   go_wp2_with fail
   have hn:=HI.out (⟨x.toArray⟩++⟨#[45,115,101,116,116,101,114]⟩++⟨#[64]⟩++⟨(c::r).toArray⟩:ByteArray) w2 (by omega);rw[HT.out]at hn;have hv:=HV.out;generalize QCI t=b2 at*;have HX:=hd0 hn;clear hn HI
   cases b2 with
   |false=>
    rw[if_pos rfl]at hv;subst hv;refine HX.out.mono ?_;rintro e w3 ⟨rfl,hb⟩;have HB3:=hd0 (HB2.out.trans (hb.mono (by omega)));clear hb;go_wp2;go_ret;exact⟨rfl,HB3.out⟩
   |true=>
    rw[if_neg (by simp)]at hv;refine HX.out.mono ?_;rintro e w3 ⟨rfl,hb⟩;have HB3:=hd0 (HB2.out.trans (hb.mono (by omega)));have HT2:=hd0 (QL1 (HT.out.trans hv.symm));clear hb hv;go_wp2;go_ret;exact⟨by rw[←HT2.out];rfl,HB3.out⟩
theorem QPw(l:List UInt8):QAH l≤QBl l:=by
 unfold QBl
 split
 ·
  split
  ·
   generalize (decide (0<QDv QFU _)&&_)=c
   cases c <;> simp <;> omega
  ·
   exact Nat.le_refl _
 ·
  exact Nat.le_refl _
theorem QGX(l:List UInt8):∀(f:Nat) (c:Cu),∀x∈(QGE l f c).1,∃op,QDL l x.at_ op= .inl (x.kind,x.len)
 |0,c,x,hx=>by cases hx
 |f+1,c,x,hx=>by
  unfold QGE at hx
  split at hx
  ·
   split at hx
   ·
    cases hx
   ·
    rename_i y c' hs;simp only at hx;rcases List.mem_cons.1 hx with rfl|hx
    ·
     unfold QDO at hs
     split at hs
     ·
      cases hs
     ·
      rename_i k n hn;refine⟨QDM c.lk ((l.drop c.la).take c.ll),?_⟩
      split at hs
      ·
       split at hs
       ·
        cases hs
       ·
        injection hs with hs
        injection hs with h1 h2
        subst h1;exact hn
      ·
       injection hs with hs
       injection hs with h1 h2
       subst h1;exact hn
    ·
     exact QGX l f c' x hx
  ·
   cases hx
theorem QCH(t:List UInt8)(op:Bool)(h:0<QAH t):QAg t op=if QBl t<QAw t then(3,QAw t) else(1,QBl t):=by
 have h1:=QPw t;have hn:0<QBl t:=by omega
 unfold QAg QEq;rw[decide_eq_true h];simp only[List.foldl_cons,List.foldl_nil,QAL];simp[hn]
theorem QFZ(t:List UInt8)(op:Bool)(h:QAH t=0):(QAg t op).1≠1∧(QAg t op).1≠3:=by
 have h1:QBl t=0:=by unfold QBl;rw[if_pos h];exact h
 have h3:QAw t=0:=by unfold QAw;rw[h];rfl
 unfold QAg QEq;rw[h1,h3,h];generalize QB2 t op=a;generalize QG5 t=b;generalize QEP t=c;generalize QB3 t=d;simp only[List.foldl_cons,List.foldl_nil,QAL,Nat.lt_irrefl,decide_false,Bool.false_and,Bool.false_eq_true,if_false];constructor <;> (repeat' split) <;> simp_all
theorem QJh(l:List UInt8)(op:Bool)(h:0<l.length)(h40:l.length≤100)(hp:0<QAH l):QDL l 0 op=
  match QAM l 0 (QAg l op).1 (QAg l op).2 with
  |none=> .inl (QAg l op)
  |some er=> .inr er:=by
 have h1:=(QCx l hp).1.first
 cases l with
 |nil=>exact absurd h (Nat.lt_irrefl _)
 |cons b r=>
  rw[QAf]at h1;have hb:b≠47:=by rintro rfl;revert h1;decide
  have hp2:∀x,Lib.hasPrefix ((b::r).drop 0) (47::x)=false:=fun x=>by
   rw[List.drop_zero];show(47::x).isPrefixOf (b::r)=false;rw[List.isPrefixOf,Bool.and_eq_false_iff];exact Or.inl (beq_eq_false_iff_ne.2 (Ne.symm hb))
  have hbl:QA7 (QBc (b::r) 0)=false:=by
   show QA7 b.toNat=false
   cases hx:QA7 b.toNat with
   |false=>rfl
   |true=>
    simp only[QA7,Bool.or_eq_true,beq_iff_eq]at hx;rcases hx with ((e|e)|e)|e <;> (rw[e]at h1;revert h1;decide)
  unfold QDL;rw[hp2,hp2,hbl,List.drop_zero,List.take_of_length_le h40];rfl
theorem QJX(l:List UInt8)(n:Nat)(op:Bool)(h:QDL l 0 op= .inl (n,l.length))(h0:l≠ [])(hn:n≤6)(hl:l.length≤20000)(hop:op=QDM 0 ((l.drop 0).take 0)):QBb l=n:=by
 have hpos:0<l.length:=List.length_pos_iff.2 h0
 have hs:QDO l ⟨0,0,0,0,0⟩= .inl (⟨n,0,l.length⟩,⟨0+l.length,n,0,l.length,1⟩):=by
  unfold QDO;simp only;rw[←hop,h];simp only;rw[if_pos hn];rfl
 have hc:QAV l=([⟨n,0,l.length⟩],none):=by
  unfold QAV;rw[QGE];simp only[hpos,if_true,hs];obtain⟨f,hf⟩:∃f,l.length=f+1:=⟨l.length - 1,by omega⟩
  have e:QGE l l.length ⟨0+l.length,n,0,l.length,1⟩=([],none):=by
   conv=>lhs;arg 2;rw[hf]
   rw[QGE,if_neg (by simp)]
  rw[e]
 unfold QBb QBQ;rw[if_neg (by omega),hc]
 have e2:QBX l [⟨n,0,l.length⟩]= [QC3 l ⟨n,0,l.length⟩]:=by
  unfold QBX;rw[List.filter_cons_of_pos (p:=fun p:Pc=>decide (p.kind≤6)) (decide_eq_true hn)];rfl
 have e3:(QC3 l ⟨n,0,l.length⟩).text=l:=by
  show(l.drop 0).take l.length=l;rw[List.drop_zero,List.take_of_length_le (Nat.le_refl _)]
 simp only[e2,e3,if_true];rfl
theorem QHU(l:List UInt8)(n:Nat)(h:QBb l=n)(h0:n≠0):l≠ []∧∃op m,QDL l 0 op= .inl (n,m)∧l.length≤m:=by
 unfold QBb QBQ at h
 split at h
 ·
  rename_i t ht
  split at ht
  ·
   cases ht
  ·
   split at ht
   ·
    cases ht
   ·
    split at ht
    ·
     rename_i t' hk
     split at ht
     ·
      rename_i htx;injection ht with ht
      subst ht
      have hx:∃x∈(QAV l).1,QC3 l x=t':=by
       have:t'∈QBX l (QAV l).1:=by rw[hk];exact List.mem_cons_self
       unfold QBX at this;obtain⟨x,hx,e⟩:=List.mem_map.1 this;exact⟨x,(List.mem_filter.1 hx).1,e⟩
      obtain⟨x,hx,e⟩:=hx
      have hne:l≠ []:=by
       rintro rfl
       cases hx
      refine⟨hne,?_⟩;obtain⟨op,hop⟩:=QGX l _ _ x hx;have hpos:0<l.length:=List.length_pos_iff.2 hne;rw[←e]at htx h;have hlen:=congrArg List.length htx;simp only[QC3,List.length_take,List.length_drop]at hlen h;have hz:x.at_=0:=by omega
      rw[hz,h]at hop;exact⟨op,x.len,hop,by omega⟩
     ·
      cases ht
    ·
     cases ht
 ·
  exact absurd h.symm h0
theorem QFF(l:List UInt8):QBb l=1↔l≠ []∧l.length≤40∧0<QAH l∧QBl l=l.length:=by
 constructor
 ·
  intro h;obtain⟨h0,op,m,hn,hm⟩:=QHU l 1 h (by decide);have hpos:0<l.length:=List.length_pos_iff.2 h0;unfold QDL at hn
  split at hn
  ·
   split at hn <;> cases hn
  ·
   split at hn
   ·
    cases hn
   ·
    split at hn
    ·
     rename_i hc;injection hn with hn
     rw[List.drop_zero]at hn;unfold QAM at hc;rw[List.drop_zero,hn]at hc;simp only at hc;rw[if_neg (by decide),if_neg (by decide),if_pos (by decide)]at hc
     have h40:m≤40:=by
      split at hc
      ·
       cases hc
      ·
       omega
     rw[List.take_of_length_le (by omega)]at hn
     have hp:0<QAH l:=by
      cases hz:QAH l with
      |zero=>exact absurd (by rw[hn]) (QFZ l op hz).1
      |succ k=>omega
     rw[QCH l op hp]at hn
     split at hn
     ·
      cases hn
     ·
      injection hn with _ hn
      have:=QIW l;exact⟨h0,by omega,hp,by omega⟩
    ·
     cases hn
 ·
  rintro⟨h0,h40,hp,hn⟩;have hpos:0<l.length:=List.length_pos_iff.2 h0;refine QJX l 1 _ ?_ h0 (by decide) (by omega) rfl;rw[QJh l _ hpos (by omega) hp,QCH l _ hp,if_neg (by have:=QEI l;omega),hn];simp only;unfold QAM;rw[if_neg (by decide),if_neg (by decide),if_pos (by decide),if_neg (by omega)]
theorem QQm(l:List UInt8)(h:QFB l=true):QAH l=0:=by
 cases l with
 |nil=>rfl
 |cons b r=>
  unfold QFB at h;rw[Bool.and_eq_true,Bool.and_eq_true,beq_iff_eq]at h;have hb:b.toNat=47:=h.2.1;show(if QBN b.toNat||QGs b.toNat then _ else 0)=0;rw[hb];rfl
theorem QQn(l:List UInt8)(h:QBn (byt l 0)=true):QAH l=0:=by
 cases l with
 |nil=>rfl
 |cons b r=>
  have hb:QBn b.toNat=true:=h;have key:∀y:Fin 256,QBn y.val=true→(QBN y.val||QGs y.val)=false:=by decide+kernel
  have h1:=key ⟨b.toNat,b.toNat_lt⟩ hb;simp only at h1;show(if QBN b.toNat||QGs b.toNat then _ else 0)=0;rw[h1];rfl
theorem QQl(l:List UInt8)(h:byt l 0=35):QAH l=0:=by
 cases l with
 |nil=>rfl
 |cons b r=>
  have hb:b.toNat=35:=h;show(if QBN b.toNat||QGs b.toNat then _ else 0)=0;rw[hb];rfl
theorem QFw(l:List UInt8):QCI l=(QBb l==1):=by
 rw[Bool.eq_iff_iff,QCI,beq_iff_eq,beq_iff_eq,QFF];constructor
 ·
  intro h;unfold QC0 at h
  split at h
  ·
   cases h
  ·
   rename_i h0
   split at h
   ·
    cases h
   ·
    rename_i h1
    split at h
    ·
     rename_i h2;simp only[Bool.or_eq_true,beq_iff_eq,not_or,Bool.not_eq_true]at h1;have hbad:=h1.2;unfold QDk at hbad
     have h40:l.length≤40:=by
      rw[←h2]
      split at hbad
      ·
       cases hbad
      ·
       split at hbad
       ·
        cases hbad
       ·
        rw[h]at hbad;simp at hbad;omega
     have hb:QBF l=(1,l.length):=by rw[←h,←h2]
     have hne:l≠ []:=fun e=>h0 (Or.inl e)
     have:=(QFy l).1 ((QI3 l hne (by omega)).1 hb);exact⟨hne,h40,this⟩
    ·
     cases h
 ·
  rintro⟨hne,h40,h1,h2⟩;have hb:=(QI3 l hne (by omega)).2 ((QFy l).2 ⟨h1,h2⟩);unfold QC0;rw[if_neg (by rintro(h|h);exact hne h;omega)];have c1:QFB l=false:=by cases h:QFB l with|false=>rfl|true=>rw[QQm l h]at h1;omega
  have c2:QBn (byt l 0)=false:=by cases h:QBn (byt l 0)with|false=>rfl|true=>rw[QQn l h]at h1;omega
  have c3:(byt l 0==35)=false:=by
   rw[beq_eq_false_iff_ne];intro h;rw[QQl l h]at h1;omega
  have c4:QDk l=false:=by
   unfold QDk;rw[hb,c3];simp;omega
  rw[c1,c2,c4,hb];simp
theorem QGK:∀(l:List UInt8) (c:UInt8) (i:Nat),QAR l c.toNat i=if Lib.indexByte l c<0 then -1 else Lib.indexByte l c+i
 | [],c,i=>by simp[QAR,Lib.indexByte]
 |b::r,c,i=>by
  have ih:=QGK r c (i+1);have hge:=(QB5 r c).2;simp only[QAR,Lib.indexByte]
  by_cases h:b=c
  ·
   subst h;simp
  ·
   rw[if_neg (by intro e;exact h (UInt8.toNat.inj (by omega))),ih];have h':(b==c)=false:=beq_eq_false_iff_ne.2 h;simp only[h',Bool.false_eq_true,if_false]
   by_cases h2:Lib.indexByte r c= -1
   ·
    rw[h2];simp
   ·
    have h3:(Lib.indexByte r c== -1)=false:=beq_eq_false_iff_ne.2 h2;simp only[h3,Bool.false_eq_true,if_false];rw[if_neg (by omega),if_neg (by omega)];omega
theorem QTu(l:List UInt8):Lib.cut l [64]=if QAR l 64 0<0 then(l, [],false) else(l.take (QAR l 64 0).toNat,l.drop ((QAR l 64 0).toNat+1),true):=by
 have h:=QGK l 64 0;have e:((64:UInt8).toNat:Int)=64:=rfl;rw[e]at h;unfold Lib.cut;rw[Lib.index_one,h]
 by_cases h2:Lib.indexByte l 64<0
 ·
  rw[if_pos h2,if_neg (by omega),if_pos (by decide)]
 ·
  rw[if_neg h2,if_pos (by omega),if_neg (by omega)];simp
theorem QJN:∀(l:List UInt8) (c:Int) (i j:Nat),QAR l c i=j→i≤j∧j<i+l.length∧(byt l (j - i):Int)=c∧∀k,k<j - i→(byt l k:Int)≠c
 | [],c,i,j,h=>by simp only[QAR]at h;omega
 |b::r,c,i,j,h=>by
  unfold QAR at h
  by_cases e:(b.toNat:Int)=c
  ·
   rw[if_pos e]at h;have:i=j:=by omega
   subst this;refine⟨Nat.le_refl _,by simp,by simp[QAf,e],fun k hk=>by omega⟩
  ·
   rw[if_neg e]at h;obtain⟨h1,h2,h3,h4⟩:=QJN r c (i+1) j h;refine⟨by omega,by simp;omega,?_,fun k hk=>?_⟩
   ·
    rw[show j - i=(j - (i+1))+1 by omega,QAe];exact h3
   ·
    cases k with
    |zero=>rw[QAf];exact e
    |succ k=>rw[QAe];exact h4 k (by omega)
theorem QKy(l:List UInt8)(h:QCI l=true):QM7 l:=by
 rw[QFw,beq_iff_eq,QFF]at h;exact(QFy l).2 h.2.2
def QQ1(l:List UInt8):List UInt8:=(Lib.cut l [64]).1++QDf++(if(Lib.cut l [64]).2.2=true then 64::(Lib.cut l [64]).2.1 else [])
def QGj(l:List UInt8):List UInt8:=if QBb l==1 then(if QBb (QQ1 l)==1 then QQ1 l else []) else []
theorem QR8(l:List UInt8)(h:QCI l=true):QQ1 l=QQA l:=by
 have hr:=QKy l h;unfold QQ1 QQA;rw[QTu]
 by_cases h1:QAR l 64 0<0
 ·
  have hsp:QBq l=(l, []):=by unfold QBq QFd;rw[h,if_pos (by simp[h1])]
  rw[if_pos h1,hsp];simp
 ·
  have hsp:QBq l=(l.take (QAR l 64 0).toNat,l.drop ((QAR l 64 0).toNat+1)):=by unfold QBq QFd;rw[h,if_neg (by simp[h1])]
  rw[if_neg h1,hsp];simp only[if_true];rw[if_neg];obtain⟨j,hj⟩:∃j:Nat,QAR l 64 0=j:=⟨(QAR l 64 0).toNat,by omega⟩;obtain⟨-,h3,h4,h5⟩:=QJN l 64 0 j hj;rw[hj];simp only[Int.toNat_natCast,Nat.sub_zero,Nat.zero_add]at*;have hW:QDz 64=false:=by decide
  have h4':byt l j=64:=by omega
  rcases (QGc l).1 hr with hp|⟨n,h6,h7,h8, -, -⟩
  ·
   have:=hp.all j h3;rw[h4',hW]at this
   cases this
  ·
   have hjn:j=n:=by
    rcases Nat.lt_trichotomy j n with hl|he|hg
    ·
     have:=h7.all j hl;rw[h4',hW]at this
     cases this
    ·
     exact he
    ·
     exact absurd (by omega) (h5 n hg)
   intro e;have:=congrArg List.length e;simp at this;omega
theorem QMp(l:List UInt8):QGj l=QFM l:=by
 unfold QGj QFM;rw[←QFw,←QFw]
 cases h:QCI l with
 |false=>rfl
 |true=>
  rw[QR8 l h]
  cases QCI (QQA l) <;> rfl
theorem QUP(l:List UInt8)(n:List UInt8)(hn:n∈plainT)(A:Nat→Bool):QEU l (n++ [58]) A=QJy l 58 (QEU l n A):=by
 simp only[plainT,List.mem_cons,List.not_mem_nil,or_false]at hn;rcases hn with rfl|rfl|rfl|rfl <;> rfl
theorem in58(b:Nat):QCG 58 b=(b==58):=rfl
def QTW(l:List UInt8):Prop:=∃p∈plainT,QEU l (p++ [58]) (fun i=>i==0) l.length=true
theorem QLs(l:List UInt8):QTW l↔∃m,l.length=m+1∧QEA l m∧byt l m=58:=by
 constructor
 ·
  rintro⟨p,hp,h⟩;rw[QUP l p hp,QAY,in58,beq_iff_eq]at h;obtain⟨h1,h2,h3⟩:=h;exact⟨l.length - 1,by omega,(QBE l _).1 ⟨p,hp,h2⟩,h3⟩
 ·
  rintro⟨m,h1,h2,h3⟩;obtain⟨p,hp,h⟩:=(QBE l _).2 h2;refine⟨p,hp,?_⟩;rw[QUP l p hp,QAY,in58,beq_iff_eq,h1];exact⟨by omega,h,h3⟩
theorem QMb {l:List UInt8}{m:Nat}(h1:l.length=m+1)(h2:QEA l m)(h3:byt l m=58):QAH l=m:=by
 have h6:=QFJ l m (by omega) h2;have h7:=h2.pos;have h8:=QCx l (by omega)
 by_cases c:m<QAH l
 ·
  have:=h8.1.all m c;rw[h3]at this;exact absurd this (by decide)
 ·
  omega
theorem QK8(l:List UInt8):QTW l↔0<QAH l∧QAw l=l.length:=by
 rw[QLs];constructor
 ·
  rintro⟨m,h1,h2,h3⟩;have hp:=QMb h1 h2 h3;have h7:=h2.pos;refine⟨by omega,?_⟩;obtain⟨c,hc,hc2⟩:=QDl l m (by omega);have c58:(c==58)=true:=by rw[beq_iff_eq];apply UInt8.toNat.inj;rw[hc2,h3];rfl
  have hco:QBf l m=true:=by
   unfold QBf;rw[hc];simp only;rw[c58,List.drop_of_length_le (by omega)];rfl
  unfold QAw;rw[hp,hco,decide_eq_true h7];show m+1=_;omega
 ·
  rintro⟨h1,h2⟩;have h3:=QCx l h1;unfold QAw at h2;rw[decide_eq_true h1,Bool.true_and]at h2
  split at h2
  ·
   rename_i hc;refine⟨QAH l,by omega,h3.1,?_⟩;obtain⟨c,hcd,hc2⟩:=QDl l (QAH l) (by omega);unfold QBf at hc;rw[hcd]at hc;simp only[Bool.and_eq_true,beq_iff_eq]at hc;rw[←hc2,hc.1];rfl
  ·
   have:=QB9 l;omega
theorem QEp {l:List UInt8}(h:QTW l):¬QM7 l:=by
 obtain⟨m,h1,h2,h3⟩:=(QLs l).1 h;rw[QGc];rintro(hp|⟨n,h4, -, -,h5,h6⟩)
 ·
  have:=hp.all m (by omega);rw[h3]at this;exact absurd this (by decide)
 ·
  by_cases e:n+1=m
  ·
   rw[e,h3]at h5;exact absurd h5 (by decide)
  ·
   have:=h6 m (by omega) (by omega);rw[h3]at this;exact absurd this (by decide)
theorem QTM:∀r∈rulesT,r.1=3→∃p∈plainT,r.2=p++ [58]:=by decide
theorem QR5:∀p∈plainT,(3,p++ [58])∈rulesT:=by decide
theorem QLO(l:List UInt8)(h0:l≠ [])(h40:l.length≤100):QBF l=(3,l.length)↔QTW l:=by
 have hpos:0<l.length:=List.length_pos_iff.2 h0;constructor
 ·
  intro h
  have key:∃r∈rulesT,(r.1,QE2 r.2 l)=(3,l.length):=by
   unfold QBF at h
   split at h
   ·
    rw[QBx]at h;rcases QBa true l rulesT (0,0)with e|⟨r,hr,e, -⟩
    ·
     rw[e]at h;cases h
    ·
     exact⟨r,hr,e.symm.trans h⟩
   ·
    rw[QFN]at h;rcases QFO l signsT (QAn false l 36)with e|e
    ·
     rw[e,QBx]at h;rcases QBa false l rulesT (0,0)with e|⟨r,hr,e, -⟩
     ·
      rw[e]at h;cases h
     ·
      exact⟨r,hr,e.symm.trans h⟩
    ·
     rw[h]at e;cases e
  obtain⟨r,hr,e⟩:=key;injection e with e1 e2
  obtain⟨p,hp,h1⟩:=QTM r hr e1;rw[QBH _ _ h40]at e2;have:=QEJ _ _ e2 h0;rw[h1]at this;exact⟨p,hp,this⟩
 ·
  intro hk;have hnn:=QEp hk;obtain⟨p,hp,h⟩:=hk;have h':=h;rw[QUP l p hp,QAY]at h';obtain⟨-,h2, -⟩:=h';have h1:=QEG l p hp _ h2;have hne:0<l.length - 1:=((QBE l _).1 ⟨p,hp,h2⟩).pos;have hnm:QDK l 4=true:=(QHY l).2 ⟨p,hp,by rw[QBH _ _ h40];exact QJa p l h0 h1 _ hne (by omega) h2⟩;have hq:QE2 (p++ [58]) l=l.length:=by rw[QBH _ _ h40,QDr _ l h0 (by rw[QJO p _ hp];exact h1) h]
  have hal:QBm 3 (p++ [58]) l=true:=by
   unfold QBm;rw[hq,if_neg (by omega),if_pos rfl];unfold QPL;rw[show decide (l.length - 1+1<l.length)=false from decide_eq_false (by omega)];rfl
  unfold QBF;rw[if_pos hnm,QBx];have h3:=(QDD true l rulesT (0,0)).2 _ (QR5 p hp) hal (fun _=>Or.inr rfl);rcases QBa true l rulesT (0,0)with e|⟨r,hr,e, -,ht⟩
  ·
   rw[e]at h3;unfold QBv at h3;simp only at h3;omega
  ·
   rw[e]at h3 ⊢;have h6:=QIS r.2 l;unfold QBv at h3;simp only at h3;rw[hq]at h3;have e2:QE2 r.2 l=l.length:=by omega
   rcases ht rfl with e1|e1
   ·
    exfalso
    obtain⟨q,hq1,hq2⟩:=QQ0 r hr e1;rw[QBH _ _ h40]at e2;have:=QEJ _ _ e2 h0;rcases hq2 with hq2|hq2
    ·
     rw[hq2]at this;exact hnn ⟨q,hq1,Or.inl this⟩
    ·
     rw[hq2]at this;exact hnn ⟨q,hq1,Or.inr this⟩
   ·
    rw[e1,e2]
theorem QN1(l:List UInt8):QBb l=3↔l≠ []∧l.length≤40∧0<QAH l∧QAw l=l.length:=by
 constructor
 ·
  intro h;obtain⟨h0,op,m,hn,hm⟩:=QHU l 3 h (by decide);have hpos:0<l.length:=List.length_pos_iff.2 h0;unfold QDL at hn
  split at hn
  ·
   split at hn <;> cases hn
  ·
   split at hn
   ·
    cases hn
   ·
    split at hn
    ·
     rename_i hc;injection hn with hn
     rw[List.drop_zero]at hn;unfold QAM at hc;rw[List.drop_zero,hn]at hc;simp only at hc;rw[if_neg (by decide),if_neg (by decide),if_pos (by decide)]at hc
     have h40:m≤40:=by
      split at hc
      ·
       cases hc
      ·
       omega
     rw[List.take_of_length_le (by omega)]at hn
     have hp:0<QAH l:=by
      cases hz:QAH l with
      |zero=>exact absurd (by rw[hn]) (QFZ l op hz).2
      |succ k=>omega
     rw[QCH l op hp]at hn
     split at hn
     ·
      injection hn with _ hn
      have:=QEI l;exact⟨h0,by omega,hp,by omega⟩
     ·
      cases hn
    ·
     cases hn
 ·
  rintro⟨h0,h40,hp,hn⟩;have hpos:0<l.length:=List.length_pos_iff.2 h0;refine QJX l 3 _ ?_ h0 (by decide) (by omega) rfl
  have hlt:QBl l<l.length:=by
   have h1:=QIW l
   by_cases e:QBl l=l.length
   ·
    exact absurd ((QFy l).2 ⟨hp,e⟩) (QEp ((QK8 l).2 ⟨hp,hn⟩))
   ·
    omega
  rw[QJh l _ hpos (by omega) hp,QCH l _ hp,hn,if_pos hlt];simp only;unfold QAM;rw[if_neg (by decide),if_neg (by decide),if_pos (by decide),if_neg (by omega)]
theorem QRU(l:List UInt8):(QC0 l==3)=(QBb l==3):=by
 rw[Bool.eq_iff_iff,beq_iff_eq,beq_iff_eq,QN1];constructor
 ·
  intro h;unfold QC0 at h
  split at h
  ·
   cases h
  ·
   rename_i h0
   split at h
   ·
    cases h
   ·
    rename_i h1
    split at h
    ·
     rename_i h2;simp only[Bool.or_eq_true,beq_iff_eq,not_or,Bool.not_eq_true]at h1;have hbad:=h1.2;unfold QDk at hbad
     have h40:l.length≤40:=by
      rw[←h2]
      split at hbad
      ·
       cases hbad
      ·
       split at hbad
       ·
        cases hbad
       ·
        rw[h]at hbad;simp at hbad;omega
     have hb:QBF l=(3,l.length):=by rw[←h,←h2]
     have hne:l≠ []:=fun e=>h0 (Or.inl e)
     have:=(QK8 l).1 ((QLO l hne (by omega)).1 hb);exact⟨hne,h40,this⟩
    ·
     cases h
 ·
  rintro⟨hne,h40,h1,h2⟩;have hb:=(QLO l hne (by omega)).2 ((QK8 l).2 ⟨h1,h2⟩);unfold QC0;rw[if_neg (by rintro(h|h);exact hne h;omega)];have c1:QFB l=false:=by cases h:QFB l with|false=>rfl|true=>rw[QQm l h]at h1;omega
  have c2:QBn (byt l 0)=false:=by cases h:QBn (byt l 0)with|false=>rfl|true=>rw[QQn l h]at h1;omega
  have c3:(byt l 0==35)=false:=by
   rw[beq_eq_false_iff_ne];intro h;rw[QQl l h]at h1;omega
  have c4:QDk l=false:=by
   unfold QDk;rw[c3,hb];simp;omega
  rw[c1,c2,c4,hb];simp
end Go.Proofs.YtjnclkakbopnjaaGreatDoor
