/- XRefE, XRefF, XRefH, XRefI, XDatA, XDatB, XDatC, XDatE -/
import Derived.Test.YtjnclkakbopnjaaGreatDoorLot10
import Derived.Deep.WholeRow
set_option linter.unusedSimpArgs false
set_option linter.unusedVariables false
set_option maxRecDepth 100000
set_option maxHeartbeats 8000000
namespace Go.Proofs.YtjnclkakbopnjaaGreatDoor
open Go.Proofs.Tryz
open Go.RowKit Go.Proofs.YtjnclkakbopnjaaGreatDoorW.PrintLast
def QNC(s:ByteArray):ByteArray:=s.extract 0 (min s.size 100)
theorem QF4(s:ByteArray):(QNC s).data.toList=s.data.toList.take 100:=by
 have h:=QAE s;unfold QNC;have e:=QIF s 0 (min s.size 100);rw[Nat.zero_add,List.drop_zero]at e;rw[e]
 by_cases h1:100≤s.size
 ·
  rw[Nat.min_eq_right h1]
 ·
  rw[Nat.min_eq_left (by omega),List.take_of_length_le (by omega),List.take_of_length_le (by omega)]
theorem QI2(s:ByteArray):(QNC s).size≤100:=by
 rw[←QAE,QF4,List.length_take];omega
theorem QHF(s:ByteArray)(w:World):Calls prog 264 #[.string s,.int .i64 0] w fun e w'=>e= .returned (.string (QNC s))∧w'=w:=by
 have h1:(0:Int)≤s.size:=by omega
 have hm:(min (s.size:Int) 100).toNat=min s.size 100:=by omega
 have HM:=hd0 hm;clear hm;go_enter func264,ntmps264;go_wp2;go_ret;refine⟨?_,rfl⟩;unfold QNC;rw[←HM.out];rfl
theorem QMW(s:ByteArray)(k:Nat)(w:World)(hk:k≤1000000):Calls prog 299 #[.string s,.int .i64 k] w fun e w'=>e= .returned (.bool (decide (k+1<s.size)&&(byt s.data.toList (k+1)==58||byt s.data.toList (k+1)==61)))∧w'=w:=by
 have hw:IntKind.i64.wrap ((k:Int)+1)=((k+1:Nat):Int):=IntWalk.i64_in _ (by omega)
 by_cases h:k+1<s.size
 ·
  have e1:decide (((k+1:Nat):Int)<s.size)=true:=decide_eq_true (by omega);have e2:(0:Int)≤((k+1:Nat):Int):=by omega
  have e3:((k+1:Nat):Int)<s.size:=by omega
  have hq:=QCl s (k+1) h
  by_cases h4:byt s.data.toList (k+1)=58
  ·
   have hq2:((s[k+1].toNat:Int)==58)=true:=by rw[hq,beq_iff_eq];omega
   have hr:(decide (k+1<s.size)&&(byt s.data.toList (k+1)==58||byt s.data.toList (k+1)==61))=true:=by simp[h,h4]
   rw[hr];clear hq hr h4;go_enter func299,ntmps299;go_wp2;go_ret;exact⟨rfl,rfl⟩
  ·
   have hq2:((s[k+1].toNat:Int)==58)=false:=by rw[hq,beq_eq_false_iff_ne];omega
   have hr:(decide (k+1<s.size)&&(byt s.data.toList (k+1)==58||byt s.data.toList (k+1)==61))=(byt s.data.toList (k+1)==61):=by simp[h,h4]
   rw[hr];have hq3:((s[k+1].toNat:Int)==61)=(byt s.data.toList (k+1)==61):=by rw[hq,Bool.eq_iff_iff,beq_iff_eq,beq_iff_eq];omega
   clear hq hr h4;go_enter func299,ntmps299;go_wp2;go_ret;exact⟨rfl,rfl⟩
 ·
  have e1:decide (((k+1:Nat):Int)<s.size)=false:=decide_eq_false (by omega);have hr:(decide (k+1<s.size)&&(byt s.data.toList (k+1)==58||byt s.data.toList (k+1)==61))=false:=by simp[h]
  rw[hr];clear hr;go_enter func299,ntmps299;go_wp2;go_ret;exact⟨rfl,rfl⟩
theorem QEQ {P:Program}{id:Nat}{Q:Exit→Act→World→Prop}{a:Act}{w:World}{l:List Oper}(n:Nat)(hm:P.follows .mixedOrders=true)(hB:Region.lexTailB .any l.toArray n=true)
  (h:wpStill P l.toArray w.drew (fun a'=>wpList P l.toArray Q (l.drop n) a' w.drew) (l.take n) a):(Code.region id l.toArray true).wp P Q a w:=wp_region_still_tail n hm hB h
def QPL(l:List UInt8)(k:Nat):Bool:=decide (k+1<l.length)&&(byt l (k+1)==58||byt l (k+1)==61)
def QE2(p l:List UInt8):Nat:=QDW p (l.take 100)
def QBm(k:Nat)(p l:List UInt8):Bool:=
 if QE2 p l=0 then false else
 if k=3 then !QPL l (QE2 p l - 1) else
 if k=6 then(decide (QAR (l.take (QE2 p l)) 58 0<0)||!QPL l (QAR (l.take (QE2 p l)) 58 0).toNat) else true
theorem QHb(s:ByteArray)(k:Nat)(w:World)(hk:k≤1000000):Calls prog 299 #[.string s,.int .i64 k] w fun e w'=>e= .returned (.bool (QPL s.data.toList k))∧w'=w:=by
 have:=QMW s k w hk;unfold QPL;rw[QAE];exact this
theorem QIQ(A:Nat→Bool):∀n,QEh A n≤n
 |0=>Nat.le_refl _
 |n+1=>by unfold QEh;split;exact Nat.le_refl _;have:=QIQ A n;omega
theorem QPo(p l:List UInt8):QDW p l≤l.length:=by
 unfold QDW
 split
 ·
  simp
 ·
  split
  ·
   simp
  ·
   exact QIQ _ _
theorem QIS(p l:List UInt8):QE2 p l≤l.length:=by
 unfold QE2;refine Nat.le_trans (QPo _ _) ?_;rw[List.length_take];omega
theorem QII(c:Int):∀(l:List UInt8) (i:Nat),QAR l c i<0∨∃j:Nat,QAR l c i=j∧j<i+l.length
 | [],i=>Or.inl (by unfold QAR;omega)
 |b::r,i=>by
  unfold QAR
  split
  ·
   exact Or.inr ⟨i,rfl,by simp⟩
  ·
   rcases QII c r (i+1)with h|⟨j,h1,h2⟩
   ·
    exact Or.inl h
   ·
    exact Or.inr ⟨j,h1,by simp at h2 ⊢;omega⟩
theorem QKL(k:Nat)(p s:ByteArray)(w:World)(hk:k<10)(hp:0<p.size)(hp2:p.size≤1000)(hs:s.size≤1000000):
  Calls prog 265 #[.agg #[.int .i64 k,.string p],.string s,.int .i64 0] w fun e w'=>e= .returned (.bool (QBm k p.data.toList s.data.toList))∧Below w.heap.size w w':=by
 have hle:=QIS p.data.toList s.data.toList;have hall:QBm k p.data.toList s.data.toList=QBm k p.data.toList s.data.toList:=rfl
 conv at hall=>rhs;unfold QBm
 have hlon:∀w,Calls prog 263 #[.string p,.string (QNC s)] w fun e w'=>e= .returned (.int .i64 (QE2 p.data.toList s.data.toList))∧Below w.heap.size w w':=by
  intro w;have:=QFf p (QNC s) w hp hp2 (by have:=QI2 s;omega);rw[QF4]at this;exact this
 rw[QAE]at hle;generalize QE2 p.data.toList s.data.toList=n at*;have HLON:=hd0 hlon;have HALL:=hd0 hall;have HBEG:=hd0 (QHF s);have hb0:Below w.heap.size w (w.alloc (.cells #[.int .i64 k,.string p] 310)):=(Below.refl _ _).alloc (Nat.le_refl _) _;have HB0:=hd0 hb0;clear hlon hall hb0;go_enter func265,ntmps265
 go_wp2_with fail
 refine QEQ 5 (by kernel_rfl) (by kernel_rfl) ?_;simp only[List.take_succ_cons,List.take_zero,List.drop_succ_cons,List.drop_zero]
 iterate 4 still_step
 still_call (HBEG.out _)
 refine wpStill_nil ?_
 go_wp2_with fail
 refine(HLON.out _).mono ?_;rintro e w1 ⟨rfl,hb1⟩
 have hbw:Below w.heap.size w w1:=by
  have h2:=QED HB0.out;exact h2.trans (hb1.mono h2.size)
 have c0:w1.cell? ⟨w.heap.size,0,none⟩=some (.int .i64 k):=QAA hb1 (by simp[go_sem]);have HBW:=hd0 hbw;clear hb1 hbw HLON HB0 HBEG
 by_cases hn0:n=0
 ·
  have e0:((n:Int)==0)=true:=by rw[beq_iff_eq];omega
  have hr:QBm k p.data.toList s.data.toList=false:=by rw[HALL.out,if_pos hn0]
  have HR:=hd0 hr;clear hr hn0;go_wp2;go_ret;exact⟨by rw[HR.out];rfl,HBW.out⟩
 ·
  have e0:((n:Int)==0)=false:=by rw[beq_eq_false_iff_ne];omega
  by_cases hk3:k=3
  ·
   have e3:((k:Int)==3)=true:=by rw[beq_iff_eq];omega
   have w1e:IntKind.i64.wrap (n:Int)=n:=IntWalk.i64_in _ (by omega);have w2e:IntKind.i64.wrap ((n:Int) - 1)=((n - 1:Nat):Int):=by rw[IntWalk.i64_in _ (by omega)];omega
   have hc:=fun w=>QHb s (n - 1) w (by omega)
   have hr:QBm k p.data.toList s.data.toList=!QPL s.data.toList (n - 1):=by rw[HALL.out,if_neg hn0,if_pos hk3]
   generalize QPL s.data.toList (n - 1)=b at*;have HC:=hd0 hc;have HR:=hd0 hr;clear hr hc hn0 hk3
   go_wp2_with fail
   refine(HC.out _).mono ?_;rintro e w2 ⟨rfl,rfl⟩;go_wp2;go_ret;exact⟨by rw[HR.out];rfl,HBW.out⟩
  ·
   have e3:((k:Int)==3)=false:=by rw[beq_eq_false_iff_ne];omega
   by_cases hk6:k=6
   ·
    have e6:((k:Int)==6)=true:=by rw[beq_iff_eq];omega
    have w1e:IntKind.i64.wrap (n:Int)=n:=IntWalk.i64_in _ (by omega);have q0:(0:Int)≤n:=by omega
    have q1:(n:Int)≤s.size:=by omega
    have hx:=QIF s 0 n;rw[Nat.zero_add,List.drop_zero]at hx;have hxs:(s.extract 0 n).size≤1000000:=by rw[←QAE,hx,List.length_take,QAE];omega
    have hf:=fun w=>QAN (s.extract 0 n) 58 w (by omega)
    rw[hx]at hf;have hr:QBm k p.data.toList s.data.toList=(decide (QAR (s.data.toList.take n) 58 0<0)||!QPL s.data.toList (QAR (s.data.toList.take n) 58 0).toNat):=by rw[HALL.out,if_neg hn0,if_neg hk3,if_pos hk6]
    have hat:=QII 58 (s.data.toList.take n) 0;rw[Nat.zero_add,List.length_take,QAE]at hat;generalize QAR (s.data.toList.take n) 58 0=i at*;have HF:=hd0 hf;rcases hat with hi|⟨j,rfl,hj⟩
    ·
     have hd:decide (i<0)=true:=decide_eq_true hi;have hr2:QBm k p.data.toList s.data.toList=true:=by rw[hr,hd];rfl
     have HR:=hd0 hr2;clear hr hr2 hf hx hxs hn0 hk3 hk6
     go_wp2_with fail
     refine(HF.out _).mono ?_;rintro e w2 ⟨rfl,rfl⟩;go_wp2;go_ret;exact⟨by rw[HR.out];rfl,HBW.out⟩
    ·
     have hd:decide ((j:Int)<0)=false:=decide_eq_false (by omega);have w2e:IntKind.i64.wrap (j:Int)=j:=IntWalk.i64_in _ (by omega);have hc:=fun w=>QHb s j w (by omega)
     have hr2:QBm k p.data.toList s.data.toList=!QPL s.data.toList j:=by rw[hr,hd];rfl
     generalize QPL s.data.toList j=b at*;have HC:=hd0 hc;have HR:=hd0 hr2;clear hr hr2 hf hx hxs hn0 hk3 hk6 hc
     go_wp2_with fail
     refine(HF.out _).mono ?_;rintro e w2 ⟨rfl,rfl⟩
     go_wp2_with fail
     refine(HC.out _).mono ?_;rintro e w3 ⟨rfl,rfl⟩;go_wp2;go_ret;exact⟨by rw[HR.out];rfl,HBW.out⟩
   ·
    have e6:((k:Int)==6)=false:=by rw[beq_eq_false_iff_ne];omega
    have hr:QBm k p.data.toList s.data.toList=true:=by rw[HALL.out,if_neg hn0,if_neg hk3,if_neg hk6]
    have HR:=hd0 hr;clear hr hn0 hk3 hk6;go_wp2;go_ret;exact⟨by rw[HR.out];rfl,HBW.out⟩
def QBn(x:Nat):Bool:=x==32||(x==9||(x==10||x==13))
theorem QNF(x:Nat)(hx:x<256)(w:World):Calls prog 224 #[.int .u8 x] w fun e w'=>e= .returned (.bool (QBn x))∧w'=w:=by
 have h1:((x:Int)==32)=(x==32):=by rw[Bool.eq_iff_iff,beq_iff_eq,beq_iff_eq];omega
 have h2:((x:Int)==9)=(x==9):=by rw[Bool.eq_iff_iff,beq_iff_eq,beq_iff_eq];omega
 have h3:((x:Int)==10)=(x==10):=by rw[Bool.eq_iff_iff,beq_iff_eq,beq_iff_eq];omega
 have h4:((x:Int)==13)=(x==13):=by rw[Bool.eq_iff_iff,beq_iff_eq,beq_iff_eq];omega
 unfold QBn;generalize (x==32)=a at*;generalize (x==9)=b at*;generalize (x==10)=c at*;generalize (x==13)=d at*
 cases a <;> cases b <;> cases c <;>
  (go_enter func224,ntmps224
   go_wp2;go_ret
   exact⟨rfl,rfl⟩)
def QFB(l:List UInt8):Bool:=decide (2≤l.length)&&(byt l 0==47&&(byt l 1==47||byt l 1==42))
def QSM(s:ByteArray)(w:World)(e:Ending)(w':World):Prop:=Below w.heap.size w w'∧∃k n er:Int,e= .returned (.agg #[.int .i64 k,.int .i64 0,.int .i64 n,.int .i64 er])∧
 (QFB s.data.toList=false→k=0∧n=0∧er=0)∧(QFB s.data.toList=true→k=8∨er≠0)
theorem QNg(s:ByteArray)(n m:Nat)(a b:UInt8)(h:((s.extract n m).toList== [a,b])=true):n+2≤s.size:=by
 have h1:=congrArg List.length (beq_iff_eq.1 h);rw[Lib.toList_data,QAE,ByteArray.size_extract]at h1;simp only[List.length_cons,List.length_nil]at h1;omega
theorem QJq(s:ByteArray)(w:World)(h0:0<s.size)(hs:s.size≤20000):
  Calls prog 223 #[.string s,.int .i64 0] w (QSM s w):=by
 have i0:(0:Int)<s.size:=by omega
 have i1:(0:Int)≤0:=by omega
 have q0:=QCl s 0 h0;have W0:=hd0 (show(s.size:Int) - 0=s.size by omega)
 by_cases h2:s.size<2
 ·
  have hc:QFB s.data.toList=false:=by unfold QFB;rw[QAE,decide_eq_false (by omega)];rfl
  have e1:decide ((s.size:Int) - 0<2)=true:=decide_eq_true (by omega);have e2:decide ((s.size:Int)<2)=true:=decide_eq_true (by omega);have HC:=hd0 hc;clear hc q0;go_enter func223,ntmps223;go_wp2;refine bodyPost_ret (v:= .agg #[.int .i64 0,.int .i64 0,.int .i64 0,.int .i64 0]) (by simp[results,results223,go_sem]) rfl ⟨(Below.refl _ _).alloc (Nat.le_refl _) _,0,0,0,rfl,fun _=>⟨rfl,rfl,rfl⟩,fun h=>by rw[HC.out]at h;cases h⟩
 ·
  have e2:decide ((s.size:Int)<2)=false:=decide_eq_false (by omega);have i2:(1:Int)<s.size:=by omega
  have i3:(0:Int)≤1:=by omega
  have hx1:1<s.size:=by omega
  have q1:=QCl s 1 hx1
  by_cases c0:byt s.data.toList 0=47
  ·
   have f0:((s[0].toNat:Int) !=47)=false:=by rw[q0,bne_eq_false_iff_eq];omega
   by_cases c1:byt s.data.toList 1=47
   ·
    have f1:((s[1].toNat:Int) !=47)=false:=by rw[q1,bne_eq_false_iff_eq];omega
    have f2:((s[1].toNat:Int)==47)=true:=by rw[q1,beq_iff_eq];omega
    have hc:QFB s.data.toList=true:=by unfold QFB;rw[QAE,decide_eq_true (by omega),c0,c1];rfl
    have HC:=hd0 hc;clear hc q0 q1 c0 c1;go_enter func223,ntmps223;go_wp2
    go_loopw [5] (fun v5 wr=>∃n:Nat,2≤n∧n≤s.size∧v5= .int .i64 n∧wr=w.alloc (.cells #[.int .i64 0,.int .i64 0,.int .i64 0,.int .i64 0] 219)) (fun v5 _=>s.size - (intOf v5).toNat)
    case atStart=>exact⟨2,Nat.le_refl _,by omega,rfl,rfl⟩
    case round=>
     obtain⟨n,hn,hn2,rfl,rfl⟩:=hrel
     by_cases hlt:n<s.size
     ·
      have g0:decide ((n:Int)<s.size)=true:=decide_eq_true (by omega);have g1:(0:Int)≤n:=by omega
      have g2:(n:Int)<s.size:=by omega
      cases g3:((s[n].toNat:Int) !=10)with
      |true=>
       go_wp2;go_roundw
       case rel=>exact⟨n+1,by omega,by omega,by go_num,trivial⟩
       case measure=>simp[intOf];omega
      |false=>
       go_wp2;refine bodyPost_ret (v:= .agg #[.int .i64 8,.int .i64 0,.int .i64 n,.int .i64 0]) (by simp[results,results223,go_sem]) rfl ⟨(Below.refl _ _).alloc (Nat.le_refl _) _,8,n,0,rfl,fun h=>(by rw[HC.out]at h;cases h),fun _=>Or.inl rfl⟩
     ·
      have g0:decide ((n:Int)<s.size)=false:=decide_eq_false (by omega);go_wp2;refine bodyPost_ret (v:= .agg #[.int .i64 8,.int .i64 0,.int .i64 n,.int .i64 0]) (by simp[results,results223,go_sem]) rfl ⟨(Below.refl _ _).alloc (Nat.le_refl _) _,8,n,0,rfl,fun h=>(by rw[HC.out]at h;cases h),fun _=>Or.inl rfl⟩
   ·
    have f1:((s[1].toNat:Int) !=47)=true:=by rw[q1,bne_iff_ne];omega
    by_cases c2:byt s.data.toList 1=42
    ·
     have f2:((s[1].toNat:Int) !=42)=false:=by rw[q1,bne_eq_false_iff_eq];omega
     have f3:((s[1].toNat:Int)==47)=false:=by rw[q1,beq_eq_false_iff_ne];omega
     have hc:QFB s.data.toList=true:=by unfold QFB;rw[QAE,decide_eq_true (by omega),c0,c2];rfl
     have HC:=hd0 hc;clear hc q0 q1 c0 c1;go_enter func223,ntmps223;go_wp2
     go_loopw [5,6] (fun v5 v6 wr=>∃n d:Nat,2≤n∧n≤s.size∧d≤100∧v5= .int .i64 n∧v6= .int .i64 d∧wr=w.alloc (.cells #[.int .i64 0,.int .i64 0,.int .i64 0,.int .i64 0] 219)) (fun v5 _ _=>s.size - (intOf v5).toNat)
     case atStart=>exact⟨2,1,Nat.le_refl _,by omega,by omega,rfl,rfl,rfl⟩
     case round=>
      obtain⟨n,d,hn,hn2,hd,rfl,rfl,rfl⟩:=hrel
      by_cases hdz:d=0
      ·
       subst hdz;go_wp2;refine bodyPost_ret (v:= .agg #[.int .i64 8,.int .i64 0,.int .i64 n,.int .i64 0]) (by simp[results,results223,go_sem]) rfl ⟨(Below.refl _ _).alloc (Nat.le_refl _) _,8,n,0,rfl,fun h=>(by rw[HC.out]at h;cases h),fun _=>Or.inl rfl⟩
      ·
       have k0:decide ((0:Int)<d)=true:=decide_eq_true (by omega);have k0n:decide (0<d)=true:=decide_eq_true (by omega);have hd1:1≤d:=by omega
       clear hdz
       by_cases hlt:n<s.size
       ·
        have g0:decide ((n:Int)<s.size)=true:=decide_eq_true (by omega);have g1:(0:Int)≤n:=by omega
        have g2:(n:Int)<s.size:=by omega
        have hopen:∀m,((s.extract n m).toList== [47,42])=true→n+2≤s.size:=fun m h=>QNg s n m _ _ h
        have hclose:∀m,((s.extract n m).toList== [42,47])=true→n+2≤s.size:=fun m h=>QNg s n m _ _ h
        have HO:=hd0 hopen;have HL:=hd0 hclose;clear hopen hclose
        by_cases h100:d=100
        ·
         have k1:decide ((100:Int)<(d:Int)+1)=true:=decide_eq_true (by omega);go_wp2
         all_goals first
          |(refine bodyPost_ret (v:= .agg #[.int .i64 0,.int .i64 0,.int .i64 0,.int .i64 6]) (by simp[results,results223,go_sem]) rfl ⟨(Below.refl _ _).alloc (Nat.le_refl _) _,0,0,6,rfl,fun h=>(by rw[HC.out]at h;cases h),fun _=>Or.inr (by decide)⟩)
          |exact⟨⟨n+2,d - 1,by omega,HL.out _ (by assumption),by omega,by go_num,by go_num,trivial⟩,by simp[intOf];omega⟩
          |exact⟨⟨n+1,d,by omega,by omega,by omega,by go_num,by go_num,trivial⟩,by simp[intOf];omega⟩
        ·
         have k1:decide ((100:Int)<(d:Int)+1)=false:=decide_eq_false (by omega);go_wp2
         all_goals first
          |exact⟨⟨n+2,d+1,by omega,HO.out _ (by assumption),by omega,by go_num,by go_num,trivial⟩,by simp[intOf];omega⟩
          |exact⟨⟨n+2,d - 1,by omega,HL.out _ (by assumption),by omega,by go_num,by go_num,trivial⟩,by simp[intOf];omega⟩
          |exact⟨⟨n+1,d,by omega,by omega,by omega,by go_num,by go_num,trivial⟩,by simp[intOf];omega⟩
       ·
        have g0:decide ((n:Int)<s.size)=false:=decide_eq_false (by omega);go_wp2;refine bodyPost_ret (v:= .agg #[.int .i64 0,.int .i64 0,.int .i64 0,.int .i64 13]) (by simp[results,results223,go_sem]) rfl ⟨(Below.refl _ _).alloc (Nat.le_refl _) _,0,0,13,rfl,fun h=>(by rw[HC.out]at h;cases h),fun _=>Or.inr (by decide)⟩
    ·
     have f2:((s[1].toNat:Int) !=42)=true:=by rw[q1,bne_iff_ne];omega
     have hc:QFB s.data.toList=false:=by unfold QFB;rw[QAE,beq_eq_false_iff_ne.2 c1,beq_eq_false_iff_ne.2 c2];simp
     have HC:=hd0 hc;clear hc q0 q1 c0 c1 c2;go_enter func223,ntmps223;go_wp2;refine bodyPost_ret (v:= .agg #[.int .i64 0,.int .i64 0,.int .i64 0,.int .i64 0]) (by simp[results,results223,go_sem]) rfl ⟨(Below.refl _ _).alloc (Nat.le_refl _) _,0,0,0,rfl,fun _=>⟨rfl,rfl,rfl⟩,fun h=>by rw[HC.out]at h;cases h⟩
  ·
   have f0:((s[0].toNat:Int) !=47)=true:=by rw[q0,bne_iff_ne];omega
   have hc:QFB s.data.toList=false:=by unfold QFB;rw[QAE,beq_eq_false_iff_ne.2 c0];simp
   have HC:=hd0 hc;clear hc q0 q1 c0;go_enter func223,ntmps223;go_wp2;refine bodyPost_ret (v:= .agg #[.int .i64 0,.int .i64 0,.int .i64 0,.int .i64 0]) (by simp[results,results223,go_sem]) rfl ⟨(Below.refl _ _).alloc (Nat.le_refl _) _,0,0,0,rfl,fun _=>⟨rfl,rfl,rfl⟩,fun h=>by rw[HC.out]at h;cases h⟩
theorem QJd(c b:Nat)(hb:b<256)(w:World):Calls prog 227 #[.int .u8 c,.int .u8 b] w fun e w'=>(∃x,e= .returned (.bool x))∧∃n,w'=w.drewN n:=
 (QB6 c b hb w).mono fun e w' h=>⟨⟨_,h.1⟩,h.2⟩
def QSO(w:World)(e:Ending)(w':World):Prop:=Below w.heap.size w w'∧∃n er:Int,e= .returned (.tuple #[.int .i64 n,.int .i64 er])
theorem QK9(s:ByteArray)(w:World)(hs:s.size≤20000):
  Calls prog 267 #[.string s] w (QSO w):=by
 have HM:=hd0 QJd
 by_cases hz:s.size=0
 ·
  have z0:decide ((0:Int)<s.size)=false:=decide_eq_false (by omega);have z1:((s.size:Int)==0)=true:=by rw[beq_iff_eq];omega
  go_enter func267,ntmps267;go_wp2;refine bodyPost_ret (v:= .tuple #[.int .i64 0,.int .i64 11]) (by simp[results,results267,go_sem]) rfl ⟨Below.refl _ _,0,11,rfl⟩
 have z0:decide ((0:Int)<s.size)=true:=decide_eq_true (by omega);have z2:(0:Int)<s.size:=by omega
 have z3:(0:Int)≤0:=by omega
 clear hz;go_enter func267,ntmps267
 go_upto_if 17 with fail
 go_cut [4,5,6] (fun s4 s5 s6 wx=>Hid (∃(d m:ByteArray) (sg:Int),s4= .string d∧s5= .string m∧s6= .int .i64 sg∧d.size≤20000)∧Hid (wx=w))
 case first=>
  go_wp2
  all_goals (go_meet;exact⟨hd0 ⟨_,_,_,rfl,rfl,rfl,by first|omega|(rw[ByteArray.size_extract];omega)⟩,hd0 rfl⟩)
 case rest=>
  go_upto_region 8 with fail;obtain⟨h4,h5⟩:=hcut;obtain⟨d,m,sg,e4,e5,e6,hd⟩:=h4.out;have e7:=h5.out;subst e4 e5 e6 e7;clear h4 h5
  go_cut [50] (fun s50 wx=>Hid (∃b,s50= .bool b∧(b=false→0<d.size))∧Hid (wx=wc))
  case first=>
   by_cases h0:d.size=0
   ·
    have k0:((d.size:Int)==0)=true:=by rw[beq_iff_eq];omega
    go_wp2
    all_goals (go_meet;exact⟨hd0 ⟨_,rfl,fun h=>by cases h⟩,hd0 rfl⟩)
   ·
    have k0:((d.size:Int)==0)=false:=by rw[beq_eq_false_iff_ne];omega
    have k1:(0:Int)<d.size:=by omega
    have k2:0<d.size:=by omega
    go_wp2
    all_goals first
     |(go_meet;exact⟨hd0 ⟨_,rfl,fun _=>k2⟩,hd0 rfl⟩)
     |(exfalso;simp_all)
  case rest=>
   go_upto_if 50 with fail
   obtain⟨h5,h6⟩:=hcut;obtain⟨b,e5,hb⟩:=h5.out;have e7:=h6.out;subst e5 e7;clear h5 h6
   cases b with
   |true=>
    go_wp2;refine bodyPost_ret (v:= .tuple #[.int .i64 0,.int .i64 11]) (by simp[results,results267,go_sem]) rfl ⟨Below.refl _ _,0,11,rfl⟩
   |false=>
    have hdz:=hb rfl;clear hb;go_wp2
    go_loopw [7,8] (fun v7 v8 wr=>∃(i:Nat) (x:Int),i≤d.size∧v7= .int .i64 x∧v8= .int .i64 i∧Hid (Below wc.heap.size wc wr)) (fun _ v8 _=>d.size - (intOf v8).toNat)
    case atStart=>exact⟨0,0,Nat.zero_le _,rfl,rfl,hd0 (Below.refl _ _)⟩
    case round=>
     obtain⟨i,x,hi,rfl,rfl,HQ⟩:=hrel
     by_cases hlt:i<d.size
     ·
      have g0:decide ((i:Int)<d.size)=true:=decide_eq_true (by omega);have g1:(0:Int)≤i:=by omega
      have g2:(i:Int)<d.size:=by omega
      go_wp2_with fail
      refine(HM.out 68 d[i].toNat (d[i].toNat_lt) _).mono ?_;rintro e w' ⟨⟨x1,rfl⟩,n1,rfl⟩
      cases x1 with
      |false=>
       go_wp2;refine bodyPost_ret (v:= .tuple #[.int .i64 0,.int .i64 11]) (by simp[results,results267,go_sem]) rfl ⟨QAB HQ.out _,0,11,rfl⟩
      |true=>
       go_wp2;go_roundw
       case rel=>exact⟨i+1,_,by omega,rfl,by go_num,hd0 (QAB HQ.out _)⟩
       case measure=>simp[intOf];omega
     ·
      have g0:decide ((i:Int)<d.size)=false:=decide_eq_false (by omega);go_wp2;refine bodyPost_ret (v:= .tuple #[.int .i64 x,.int .i64 0]) (by simp[results,results267,go_sem]) rfl ⟨HQ.out,x,0,rfl⟩
theorem QIg(s:ByteArray)(n:Nat)(w:World)(hs:s.size≤20000)(hn:n≤s.size):
  Calls prog 226 #[.string s,.int .i64 0,.int .i64 n] w fun e w'=>Below w.heap.size w w'∧∃er:Int,e= .returned (.int .i64 er):=by
 have HM:=hd0 QJd;have HF:=hd0 QAN;have HN:=hd0 (QK9 (s.extract 0 n));have hx:(s.extract 0 n).size≤20000:=by rw[ByteArray.size_extract];omega
 have g1:(0:Int)≤n:=by omega
 have g2:(n:Int)≤s.size:=by omega
 by_cases h1:100≤n
 ·
  have k1:decide ((100:Int)≤n)=true:=decide_eq_true (by omega);have k1n:decide (100≤n)=true:=decide_eq_true (by omega);go_enter func226,ntmps226;go_wp2;go_ret;exact⟨Below.refl _ _,11,rfl⟩
 ·
  have k1:decide ((100:Int)≤n)=false:=decide_eq_false (by omega);have k1n:decide (100≤n)=false:=decide_eq_false (by omega);clear h1
  by_cases h2:n<s.size
  ·
   have k2:decide ((n:Int)<s.size)=true:=decide_eq_true (by omega);have k3:(n:Int)<s.size:=by omega
   go_enter func226,ntmps226
   go_wp2_with fail
   refine(HM.out 76 s[n].toNat (s[n].toNat_lt) _).mono ?_;rintro e w' ⟨⟨x1,rfl⟩,n1,rfl⟩
   cases x1 with
   |true=>
    go_wp2;go_ret;exact⟨QAB (Below.refl _ _) _,11,rfl⟩
   |false=>
    go_wp2_with fail
    refine(HF.out ⟨#[95,63,33,36]⟩ s[n].toNat _ (by decide)).mono ?_;rintro e w' ⟨rfl,rfl⟩;generalize QAR _ _ _=r
    by_cases hr:0≤r
    ·
     have k4:decide (0≤r)=true:=decide_eq_true hr;go_wp2;go_ret;exact⟨QAB (Below.refl _ _) _,11,rfl⟩
    ·
     have k4:decide (0≤r)=false:=decide_eq_false hr
     go_wp2_with fail
     refine(HN.out _ hx).mono ?_;rintro e w' ⟨hb,nn,er,rfl⟩;have HB:=hd0 hb;clear hb;go_wp2;go_ret;exact⟨(QAB (Below.refl _ _) _).trans (HB.out.mono (Nat.le_refl _)),er,rfl⟩
  ·
   have k2:decide ((n:Int)<s.size)=false:=decide_eq_false (by omega);go_enter func226,ntmps226
   go_wp2_with fail
   refine(HN.out _ hx).mono ?_;rintro e w' ⟨hb,nn,er,rfl⟩;have HB:=hd0 hb;clear hb;go_wp2;go_ret;exact⟨HB.out,er,rfl⟩
theorem QQZ {B:Nat}{a w:World}(h:Below B a w):Below B a w.drew:=⟨h.os,h.tape,h.output,h.size,h.block⟩
def QPK(f:Nat→Value):Value:= .agg #[f 0,f 1,f 2,f 3,f 4]
def Row(w:World)(m:Nat)(p:Option Addr)(n:Nat)(A:Nat→Nat→Value):Prop:=
 ∀i,i<n→∃b o,p=some ⟨b,o,none⟩∧∀j,j<m→w.cell? ⟨b,o+i*m+j,none⟩=some (A i j)
theorem Row.below {w w':World}{m:Nat}{p:Option Addr}{n:Nat}{A:Nat→Nat→Value}(h:Row w m p n A)(hb:Below w.heap.size w w'):Row w' m p n A:=by
 intro i hi;obtain⟨b,o,h1,h2⟩:=h i hi;exact⟨b,o,h1,fun j hj=>QAA hb (h2 j hj)⟩
theorem Row.at_ {w:World}{m:Nat}{p:Option Addr}{n:Nat}{A:Nat→Nat→Value}(h:Row w m p n A)(h0:0<n):∃b o,p=some ⟨b,o,none⟩∧∀i,i<n→∀j,j<m→w.cell? ⟨b,o+i*m+j,none⟩=some (A i j):=by
 obtain⟨b,o,h1, -⟩:=h 0 h0;refine⟨b,o,h1,fun i hi j hj=>?_⟩;obtain⟨b',o',h2,h3⟩:=h i hi;rw[h1]at h2;injection h2 with h2
 injection h2 with h4 h5
 subst h4 h5;exact h3 j hj
inductive TyAl (w:World):Value→Value→Prop
 |mk (k lo hi:Int) (s:ByteArray) (n:Nat) (p q:Option Addr) (c d:Nat) (A B:Nat→Nat→Value) (hn:n≤1000000000000)
  (hA:Row w 5 p n A) (hB:Row w 5 q n B) (h:∀i,i<n→TyAl w (QPK (A i)) (QPK (B i))):
  TyAl w (.agg #[.int .i64 k,.string s,.int .i64 lo,.int .i64 hi,.slice p n c]) (.agg #[.int .i64 k,.string s,.int .i64 lo,.int .i64 hi,.slice q n d])
theorem TyAl.under {w w':World}{v u:Value}(h:TyAl w v u)(hb:Below w.heap.size w w'):TyAl w' v u:=by
 induction h with
 |mk k lo hi s n p q c d A B hn hA hB h ih=>exact TyAl.mk k lo hi s n p q c d A B hn (hA.below hb) (hB.below hb) ih
def TysAl(w:World)(n:Nat)(p q:Option Addr):Prop:=
 n≤1000000000000∧∃A B,Row w 5 p n A∧Row w 5 q n B∧∀i,i<n→TyAl w (QPK (A i)) (QPK (B i))
def ParsAl(w:World)(n:Nat)(p q:Option Addr):Prop:=
 n≤1000000000000∧∃A B,Row w 6 p n A∧Row w 6 q n B∧∀i,i<n→(∃s,A i 0= .string s∧B i 0= .string s)∧TyAl w (QPK fun j=>A i (j+1)) (QPK fun j=>B i (j+1))
def StrsAl(w:World)(n:Nat)(p q:Option Addr):Prop:=
 n≤1000000000000∧∃A B,Row w 1 p n A∧Row w 1 q n B∧∀i,i<n→∃s,A i 0= .string s∧B i 0= .string s
theorem TysAl.under {w w':World}{n:Nat}{p q:Option Addr}(h:TysAl w n p q)(hb:Below w.heap.size w w'):TysAl w' n p q:=by
 obtain⟨h1,A,B,h2,h3,h4⟩:=h;exact⟨h1,A,B,h2.below hb,h3.below hb,fun i hi=>(h4 i hi).under hb⟩
theorem ParsAl.under {w w':World}{n:Nat}{p q:Option Addr}(h:ParsAl w n p q)(hb:Below w.heap.size w w'):ParsAl w' n p q:=by
 obtain⟨h1,A,B,h2,h3,h4⟩:=h;exact⟨h1,A,B,h2.below hb,h3.below hb,fun i hi=>⟨(h4 i hi).1,(h4 i hi).2.under hb⟩⟩
theorem StrsAl.under {w w':World}{n:Nat}{p q:Option Addr}(h:StrsAl w n p q)(hb:Below w.heap.size w w'):StrsAl w' n p q:=by
 obtain⟨h1,A,B,h2,h3,h4⟩:=h;exact⟨h1,A,B,h2.below hb,h3.below hb,h4⟩
def QE6(f:Nat→Value):Value:= .agg #[f 0,f 1,f 2,f 3,f 4,f 5,f 6,f 7,f 8,f 9,f 10]
inductive ExAl (w:World):Value→Value→Prop
 |mk (k num:Int) (s:ByteArray) (t0 t1 t2 t3 t4 u0 u1 u2 u3 u4:Value) (ht:TyAl w (.agg #[t0,t1,t2,t3,t4]) (.agg #[u0,u1,u2,u3,u4]))
  (np:Nat) (pp qp:Option Addr) (cp dp:Nat) (hp:ParsAl w np pp qp) (nk:Nat) (pk qk:Option Addr) (ck dk:Nat) (hk:StrsAl w nk pk qk)
  (n:Nat) (p q:Option Addr) (c d:Nat) (A B:Nat→Nat→Value) (hn:n≤1000000000000)
  (hA:Row w 11 p n A) (hB:Row w 11 q n B) (h:∀i,i<n→ExAl w (QE6 (A i)) (QE6 (B i))):
  ExAl w (.agg #[.int .i64 k,.string s,.int .i64 num,t0,t1,t2,t3,t4,.slice pp np cp,.slice pk nk ck,.slice p n c])
   (.agg #[.int .i64 k,.string s,.int .i64 num,u0,u1,u2,u3,u4,.slice qp np dp,.slice qk nk dk,.slice q n d])
theorem ExAl.under {w w':World}{v u:Value}(h:ExAl w v u)(hb:Below w.heap.size w w'):ExAl w' v u:=by
 induction h with
 |mk k num s t0 t1 t2 t3 t4 u0 u1 u2 u3 u4 ht np pp qp cp dp hp nk pk qk ck dk hk n p q c d A B hn hA hB h ih=>
  exact ExAl.mk k num s t0 t1 t2 t3 t4 u0 u1 u2 u3 u4 (ht.under hb) np pp qp cp dp (hp.under hb) nk pk qk ck dk (hk.under hb) n p q c d A B hn (hA.below hb) (hB.below hb) ih
def BoxAt(w:World)(b:Nat)(X:Array Value):Prop:=∀i v,X[i]?=some v→w.cell? ⟨b,i,none⟩=some v
theorem BoxAt.under {w w':World}{b:Nat}{X:Array Value}(h:BoxAt w b X)(hb:Below w.heap.size w w'):BoxAt w' b X:=fun i v hi=>QAA hb (h i v hi)
theorem QA8 {P:Program}{Q:Exit→Act→World→Prop}{c:Code}{a:Act}{w:World}(F:World→Prop)(hF:F w)(h:∀wx,F wx→c.wp P Q a wx):c.wp P Q a w:=h w hF
theorem QAS(w:World)(X:Array Value)(t:TypeId):BoxAt (w.alloc (.cells X t)) w.heap.size X:=fun i v hi=>by simp[go_sem,hi]
section
variable {P : Program} {ops : Array Oper} {Q : Exit → Act → World → Prop}
theorem QBT(w:World)(t:TypeId)(b o:Nat)(X:Array Value)(fs:Array Field)(hu:P.underlying t=some (.struct fs))(hi:(P.info? t).map (·.size)=some X.size)
  (hc:∀j v,X[j]?=some v→w.cell? ⟨b,o+j,none⟩=some v):(Instr.loadAt t (.pointer (some ⟨b,o,none⟩))).run P w= .ok (.agg X) w:=by
 have hl:(loadCells ⟨b,o,none⟩ X.toList.length).run P w= .ok X.toList.toArray w:=
  run_loadCells_list (P:=P) w ⟨b,o,none⟩ X.toList (fun j v hv=>by
   have hadd:(⟨b,o,none⟩:Addr).add j=⟨b,o+j,none⟩:=by unfold Addr.add;split <;> simp_all
   rw[hadd]
   exact hc j v (by simpa using hv))
 simp only[Instr.loadAt,Instr.sureAddr,Sem.run_bind,Sem.run_pure,Result.andThen]
 cases hq:P.info? t with
 |none=>simp[hq]at hi
 |some i=>
  have hs:i.size=X.size:=by simpa[hq]using hi
  have hagg:(isAgg t).run P w= .ok true w:=by
   unfold isAgg;rw[Sem.run_bind,run_underlying hu w]
   simp_all
  simp only[Array.length_toList,Array.toArray_toList]at hl;simp[loadVar,Sem.run_bind,hagg,sizeOf,typeInfo,hq,hs,hl]
theorem QAx {rest:List Oper}{oi:Oper}{a:Act}{w:World}(t:TypeId)(x:Operand)(hop:oi.op= .load t x)(hg:oi.guard=none)(b o:Nat)(X:Array Value)(fs:Array Field)(hu:P.underlying t=some (.struct fs))
  (hx:a.eval x= .pointer (some ⟨b,o,none⟩)) (hi:(P.info? t).map (·.size)=some X.size) (hc:∀j v,X[j]?=some v→w.cell? ⟨b,o+j,none⟩=some v)
  (h:wpList P ops Q rest (a.put oi.dst (.agg X)) w):wpList P ops Q (oi::rest) a w:=by
 refine wpList_plain hg fun K hK=>?_
 have hrun:(execOp a.eval oi).run P w= .ok (.value (.agg X)) w:=by
  have:=QBT w t b o X fs hu hi hc;unfold execOp;simp only[hop,hx];simp only[Sem.run_bind,Sem.run_pure,Result.andThen,this]
 unfold Oper.wp;rw[hrun];exact hK _ _ h
theorem QAK {rest:List Oper}{oi:Oper}{a:Act}{w:World}(t:TypeId)(p x:Operand)(hop:oi.op= .store t p x)(hg:oi.guard=none)(hd:oi.dst=none)(w0:World)(Z X:Array Value)(hw:w=w0.alloc (.cells Z t))
  (hp:a.eval p= .pointer (some ⟨w0.heap.size,0,none⟩)) (hx:a.eval x= .agg X) (hi:(P.info? t).map (·.size)=some X.size) (ho:Z.size=X.size) (h1:X.all (·.oneCell')=true)
  (h:wpList P ops Q rest a (w0.alloc (.cells X t))):wpList P ops Q (oi::rest) a w:=by
 refine wpList_plain hg fun K hK=>?_
 subst hw
 have hrun:(execOp a.eval oi).run P (w0.alloc (.cells Z t))= .ok .skip (w0.alloc (.cells X t)):=by
  have:=run_storeAt_new (P:=P) w0 t Z X hi ho h1;unfold execOp;simp only[hop,hp,hx];simp only[Sem.run_bind,Sem.run_pure,Result.andThen,this]
 unfold Oper.wp;rw[hrun];refine hK _ _ ?_;rw[hd];exact h
end
end Go.Proofs.YtjnclkakbopnjaaGreatDoor
