/- XChkF -/
import Derived.Test.YtjnclkakbopnjaaGreatDoorLot12
import Derived.Test.YtjnclkakbopnjaaGreatDoorLot13
set_option linter.unusedSimpArgs false
set_option linter.unusedVariables false
set_option maxRecDepth 100000
set_option maxHeartbeats 8000000
namespace Go.Proofs.YtjnclkakbopnjaaGreatDoor
open Go.Proofs.Tryz
open Go.RowKit
def QAs(s:ByteArray):Bool:=(QBb s.data.toList==1)&&!QM4 s.data.toList
theorem QCV(s:ByteArray)(w:World)(hE:Env w)(hs:s.size≤1100000)(h9:9≤w.heap.size):Calls prog 88 #[.string s] w fun e w'=>e= .returned (.bool (QAs s))∧Below w.heap.size w w':=by
 have HN:=hd0 (QDo s w hE (by unfold maxLen;omega) h9);have HR:=hd0 (fun w' (hb:Below w.heap.size w w')=>QCm s w' (hE.below hb));have HQ:=hd0 (show QAs s=((QBb s.data.toList==1)&&!QM4 s.data.toList)from rfl);clear hE h9;generalize (QBb s.data.toList==1)=a at*;generalize QM4 s.data.toList=r at*;go_enter func88,ntmps88
 go_wp2_with fail
 refine HN.out.mono ?_;rintro e w1 ⟨rfl,hb⟩;have HB:=hd0 hb;clear hb
 cases a with
 |false=>
  go_wp2;go_ret;exact⟨by rw[HQ.out];rfl,HB.out⟩
 |true=>
  go_wp2_with fail
  refine(HR.out w1 HB.out).mono ?_;rintro e w2 ⟨rfl,hb2⟩;have HB2:=hd0 (HB.out.trans (hb2.mono HB.out.size));clear hb2;go_wp2;go_ret;exact⟨by rw[HQ.out];simp,HB2.out⟩
def Ty.ok:Ty→Bool
 | .mk k lo hi s n f=>if k=1∨k=4 then QAs s&&(lo==0&&hi==0)&&n==0 else if k=2 then QAW s&&decide (lo≤hi)&&n==0 else if k=3 then QAW s&&(lo==0||lo==1)&&hi==0&&n==0
  else if k=5 then QAW s&&(lo==0&&hi==0)&&decide (n≤16)&&(List.range n).all (fun i=>(f i).ok) else false
 | .no=>false
theorem Ty.ok_mk(k lo hi:Int)(s:ByteArray)(n:Nat)(f:Nat→Ty):(Ty.mk k lo hi s n f).ok=if k=1∨k=4 then QAs s&&(lo==0&&hi==0)&&((n:Int)==0) else if k=2 then QAW s&&decide (lo≤hi)&&((n:Int)==0) else if k=3 then QAW s&&(lo==0||lo==1)&&hi==0&&((n:Int)==0)
  else if k=5 then QAW s&&(lo==0&&hi==0)&&decide ((n:Int)≤16)&&(List.range n).all (fun i=>(f i).ok) else false:=by
 rw[show((n:Int)==0)=(n==0)from QDV n 0,show decide ((n:Int)≤16)=decide (n≤16)from decide_eq_decide.2 (by omega)];rfl
theorem QDp {W:World}(hE:Env W)(h9:9≤W.heap.size){v:Value}{t:Ty}(h:TyR W v t):∀w,Below W.heap.size W w→Calls prog 41 #[v] w fun e w'=>e= .returned (.bool t.ok)∧Below w.heap.size w w':=by
 induction h with
 |mk k lo hi s n p c A f hs hn hA h ih=>
  intro w hW;have HEV:=hd0 (fun w1 (hw1:Below W.heap.size W w1)=>QKc (c:=c) hn hA (g:=41) (cap:=#[]) (q:=fun i=>(f i).ok) ⟨⟨_,func41,by kernel_rfl,by kernel_rfl⟩,fun i hi w2 hw2=>ih i hi w2 hw2⟩ w1 hw1);have HN:=hd0 (fun w1 (hw1:Below W.heap.size W w1)=>QCV s w1 (hE.below hw1) hs (by have:=hw1.size;omega));have hk:=Ty.ok_mk k lo hi s n f;have hm:n≤1100000:=hn;have HW:=hd0 hW;have hW0:=hW.size;clear ih h hA hE hW hs hn;generalize (Ty.mk k lo hi s n f).ok=res at*;generalize eL:(lo==0)=L at hk;generalize eH:(hi==0)=H at hk;generalize eN:((n:Int)==0)=N at hk;generalize eX:QAs s=X at hk HN;clear eX;unfold QAW at hk;generalize eE:(s.toList== [])=E at hk;generalize eO:(lo==1)=O at hk;generalize eQ:decide (lo≤hi)=Q at hk;generalize eM:decide ((n:Int)≤16)=M at hk
  by_cases k1:k=1∨k=4
  ·
   rw[if_pos k1]at hk;have HK:=hd0 hk;clear hk eE eO eQ eM
   have kk:(k==1)=true∨((k==1)=false∧(k==4)=true):=by
    rcases k1 with rfl|rfl
    ·
     exact Or.inl rfl
    ·
     exact Or.inr ⟨rfl,rfl⟩
   clear k1;rcases kk with e1|⟨e1,e4⟩
   all_goals cases L <;> cases H <;> cases N
   all_goals go_enter func41,ntmps41
   all_goals go_wp2_with fail
   all_goals refine(HN.out _ (HW.out.trans ((show Below w.heap.size w (w.alloc _)from(Below.refl _ _).alloc (Nat.le_refl _) _).mono hW0))).mono ?_
   all_goals rintro e w1 ⟨rfl,hb1⟩
   all_goals have HB1:=hd0 (show Below w.heap.size w w1 from((Below.refl w.heap.size w).alloc (Nat.le_refl _) _).trans (hb1.mono (by simp)))
   all_goals have c4:w1.cell? ⟨w.heap.size,4,none⟩=some (.slice p n c):=QAA hb1 (by simp[go_sem])
   all_goals clear hb1
   all_goals cases X
   all_goals go_wp2
   all_goals go_ret
   all_goals exact⟨by rw[HK.out];rfl,HB1.out⟩
  rw[if_neg k1]at hk;have e1:(k==1)=false:=beq_eq_false_iff_ne.2 (fun e=>k1 (Or.inl e));have e4:(k==4)=false:=beq_eq_false_iff_ne.2 (fun e=>k1 (Or.inr e));clear k1 HN
  by_cases k2:k=2
  ·
   rw[if_pos k2]at hk;have e2:(k==2)=true:=beq_iff_eq.2 k2;have HK:=hd0 hk;clear hk eO eM k2 HEV
   cases L <;> cases H <;> cases E <;> cases Q <;> cases N
   all_goals go_enter func41,ntmps41
   all_goals go_wp2
   all_goals go_ret
   all_goals exact⟨by rw[HK.out];rfl,(Below.refl _ _).alloc (Nat.le_refl _) _⟩
  rw[if_neg k2]at hk;have e2:(k==2)=false:=beq_eq_false_iff_ne.2 k2;clear k2 eQ
  by_cases k3:k=3
  ·
   rw[if_pos k3]at hk;have e3:(k==3)=true:=beq_iff_eq.2 k3;have HK:=hd0 hk;clear hk eM k3 HEV
   cases L <;> cases H <;> cases E <;> cases O <;> cases N
   all_goals go_enter func41,ntmps41
   all_goals go_wp2
   all_goals go_ret
   all_goals exact⟨by rw[HK.out];rfl,(Below.refl _ _).alloc (Nat.le_refl _) _⟩
  rw[if_neg k3]at hk;have e3:(k==3)=false:=beq_eq_false_iff_ne.2 k3;clear k3 eO
  by_cases k5:k=5
  ·
   rw[if_pos k5]at hk;have e5:(k==5)=true:=beq_iff_eq.2 k5;generalize (List.range n).all (fun i=>(f i).ok)=R at hk HEV;have HK:=hd0 hk;clear hk k5 eN
   cases L <;> cases H <;> cases E <;> cases M
   all_goals go_enter func41,ntmps41
   all_goals go_wp2_with fail
   all_goals first
    |(go_ret;exact⟨by rw[HK.out];rfl,(Below.refl _ _).alloc (Nat.le_refl _) _⟩)
    |(refine(HEV.out _ (HW.out.trans ((show Below w.heap.size w (w.alloc _)from(Below.refl _ _).alloc (Nat.le_refl _) _).mono hW0))).mono ?_
      rintro e w1 ⟨rfl,hb1⟩;have HB1:=hd0 (show Below w.heap.size w w1 from((Below.refl w.heap.size w).alloc (Nat.le_refl _) _).trans (hb1.mono (by simp)));clear hb1;go_wp2;go_ret
      exact⟨by rw[HK.out];simp,HB1.out⟩)
  rw[if_neg k5]at hk;have e5:(k==5)=false:=beq_eq_false_iff_ne.2 k5;have HK:=hd0 hk;clear hk k5 HEV eN eM
  cases L <;> cases H
  all_goals go_enter func41,ntmps41
  all_goals go_wp2
  all_goals go_ret
  all_goals exact⟨by rw[HK.out];rfl,(Below.refl _ _).alloc (Nat.le_refl _) _⟩
end Go.Proofs.YtjnclkakbopnjaaGreatDoor
