/- XLexI, XLexJ, XLexK -/
import Derived.Test.YtjnclkakbopnjaaGreatDoorLot03
import Derived.Laws.EntriesVeiled
import Derived.Lib.AtoiErrMem
import Derived.Lib.SmallJoins
set_option linter.unusedSimpArgs false
set_option linter.unusedVariables false
set_option maxRecDepth 100000
set_option maxHeartbeats 8000000
namespace Go.Proofs.YtjnclkakbopnjaaGreatDoor
open Go.Proofs.Tryz
open Go.RowKit
theorem QAB {B:Nat}{a w:World}(h:Below B a w)(n:Nat):Below B a (w.drewN n):=⟨h.os,h.tape,h.output,h.size,h.block⟩
theorem QAA {w w1:World}(h:Below w.heap.size w w1){a:Addr}{v:Value}(hc:w.cell? a=some v):w1.cell? a=some v:=(h.cell (World.block_lt_of_cell? w a hc)).trans hc
theorem QAF {w w1 w2:World}(h:Below w.heap.size w w1)(k:Below w1.heap.size w1 w2):Below w.heap.size w w2:=
 h.trans ⟨k.os,k.tape,k.output,k.size,fun i hi=>k.block i (Nat.lt_of_lt_of_le hi h.size)⟩
theorem IsTab.below {w w1:World}{tb:Nat}(h:IsTab w tb)(hb:Below w.heap.size w w1):IsTab w1 tb:=⟨fun c x hc hx=>QAA hb (h.at_ c x hc hx)⟩
theorem CutAt.lt {w:World}{cb tb:Nat}{s:ByteArray}{p lk la ll:Nat}(h:CutAt w cb tb s p lk la ll):cb<w.heap.size:=World.block_lt_of_cell? w _ h.text
theorem CutAt.below {w w1:World}{cb tb:Nat}{s:ByteArray}{p lk la ll:Nat}(h:CutAt w cb tb s p lk la ll)(hb:Below w.heap.size w w1):CutAt w1 cb tb s p lk la ll:=
 ⟨QAA hb h.text,QAA hb h.pos,QAA hb h.tab,QAA hb h.kind,QAA hb h.lat,QAA hb h.llen,fun o=>(hb.frozen (p:=⟨cb,o,none⟩) h.lt).trans (h.free o),h.isTab.below hb,h.size,h.le,h.last⟩
structure RulesAt(w:World)(rb:Nat):Prop where
 k0:w.cell? ⟨rb,0,none⟩=some (.int .i64 1)
 f0:w.cell? ⟨rb,1,none⟩=some (.func (.func 276) #[] #[])
 k1:w.cell? ⟨rb,2,none⟩=some (.int .i64 2)
 f1:w.cell? ⟨rb,3,none⟩=some (.func (.func 277) #[] #[])
 k2:w.cell? ⟨rb,4,none⟩=some (.int .i64 3)
 f2:w.cell? ⟨rb,5,none⟩=some (.func (.func 278) #[] #[])
 k3:w.cell? ⟨rb,6,none⟩=some (.int .i64 4)
 f3:w.cell? ⟨rb,7,none⟩=some (.func (.func 279) #[] #[])
 k4:w.cell? ⟨rb,8,none⟩=some (.int .i64 5)
 f4:w.cell? ⟨rb,9,none⟩=some (.func (.func 280) #[] #[])
 k5:w.cell? ⟨rb,10,none⟩=some (.int .i64 6)
 f5:w.cell? ⟨rb,11,none⟩=some (.func (.func 281) #[] #[])
theorem RulesAt.below {w w1:World}{rb:Nat}(h:RulesAt w rb)(hb:Below w.heap.size w w1):RulesAt w1 rb:=
 ⟨QAA hb h.k0,QAA hb h.f0,QAA hb h.k1,QAA hb h.f1,QAA hb h.k2,QAA hb h.f2,QAA hb h.k3,QAA hb h.f3,QAA hb h.k4,QAA hb h.f4,QAA hb h.k5,QAA hb h.f5⟩
def QAL(named:Bool)(a:Nat × Nat)(r:Nat × Nat):Nat × Nat:=if named&&r.1 !=1&&r.1 !=3 then a else if a.2<r.2 then r else a
def QEq(t:List UInt8)(op:Bool):List (Nat × Nat):= [(1,QBl t),(2,QB2 t op),(3,QAw t),(4,QG5 t),(5,QEP t),(6,QB3 t)]
def QAg(t:List UInt8)(op:Bool):Nat × Nat:=(QEq t op).foldl (QAL (decide (0<QAH t))) (0,0)
theorem QAl {α β:Type}(f:β→α→β)(l:List α)(k:Nat)(x:α)(b r:β)(h:(l.take k).foldl f b=r)(hk:l[k]?=some x):(l.take (k+1)).foldl f b=f r x:=by
 rw[List.take_add_one,hk,List.foldl_append,h];rfl
theorem QOw(w:World):Calls prog 248 #[] w fun e w'=>e= .returned (.slice (some ⟨w.heap.size,0,none⟩) 6 6)∧Below w.heap.size w w'∧RulesAt w' w.heap.size:=by
 go_enter func248,ntmps248;go_wp2;go_ret;exact⟨rfl,(Below.refl _ _).alloc (Nat.le_refl _) _,by constructor <;> simp[go_sem]⟩
section
variable (cb tb : Nat) (s t : ByteArray) (p lk la ll : Nat) (w : World) (h : CutAt w cb tb s p lk la ll) (hs : t.size ≤ 1000000)
include h hs
theorem QOs:Calls prog 276 #[.pointer (some ⟨cb,0,none⟩),.string t] w fun e w'=>e= .returned (.int .i64 (QBl t.data.toList:Nat))∧Below w.heap.size w w':=by
 refine(QPx cb tb t w hs h.tab h.isTab).mono ?_;rintro e w' ⟨rfl,n,rfl⟩;exact⟨rfl,QAB (Below.refl _ _) n⟩
theorem QJ1:Calls prog 277 #[.pointer (some ⟨cb,0,none⟩),.string t] w fun e w'=>e= .returned (.int .i64 (QB2 t.data.toList (QDM lk ((s.data.toList.drop la).take ll)):Nat))∧Below w.heap.size w w':=by
 refine(QKj cb tb s t p lk la ll w h hs).mono ?_;rintro e w' ⟨rfl,n,rfl⟩;exact⟨rfl,QAB (Below.refl _ _) n⟩
theorem QJ2:Calls prog 278 #[.pointer (some ⟨cb,0,none⟩),.string t] w fun e w'=>e= .returned (.int .i64 (QAw t.data.toList:Nat))∧Below w.heap.size w w':=by
 refine(QKt cb tb t w hs h.tab h.isTab).mono ?_;rintro e w' ⟨rfl,n,rfl⟩;exact⟨rfl,QAB (Below.refl _ _) n⟩
theorem QOr:Calls prog 279 #[.pointer (some ⟨cb,0,none⟩),.string t] w fun e w'=>e= .returned (.int .i64 (QG5 t.data.toList:Nat))∧Below w.heap.size w w':=by
 have:=h;have:=hs;refine(QPl cb t w).mono ?_;rintro e w' ⟨rfl,rfl⟩;exact⟨rfl,Below.refl _ _⟩
theorem QOt:Calls prog 280 #[.pointer (some ⟨cb,0,none⟩),.string t] w fun e w'=>e= .returned (.int .i64 (QEP t.data.toList:Nat))∧Below w.heap.size w w':=by
 have:=h;exact QQC cb t w hs
theorem QJ3:Calls prog 281 #[.pointer (some ⟨cb,0,none⟩),.string t] w fun e w'=>e= .returned (.int .i64 (QB3 t.data.toList:Nat))∧Below w.heap.size w w':=by
 refine(QK0 cb tb t w hs h.tab h.isTab).mono ?_;rintro e w' ⟨rfl,n,rfl⟩;exact⟨rfl,QAB (Below.refl _ _) n⟩
end
theorem QKw(cb tb rb:Nat)(s:ByteArray)(p lk la ll:Nat)(w:World)(h:CutAt w cb tb s p lk la ll)(hR:RulesAt w rb):
  Calls prog 284 #[.pointer (some ⟨cb,0,none⟩),.slice (some ⟨rb,0,none⟩) 6 6] w fun e w'=>
   e= .returned (.tuple #[.int .i64 ((QAg ((s.data.toList.drop p).take 100) (QDM lk ((s.data.toList.drop la).take ll))).1:Nat),.int .i64 ((QAg ((s.data.toList.drop p).take 100) (QDM lk ((s.data.toList.drop la).take ll))).2:Nat)])∧Below w.heap.size w w':=by
 have hsz:s.size≤20000:=h.size;have ha:=QNA cb s p w h.text h.pos h.le (by omega)
 have hte:(s.extract p (min s.size (p+100))).data.toList=(s.data.toList.drop p).take 100:=by
  rw[Lib.extract_data]
  by_cases hm:s.size≤p+100
  ·
   rw[Nat.min_eq_left hm,List.take_of_length_le (by rw[List.length_drop,QAE];omega),List.take_of_length_le (by rw[List.length_drop,QAE];omega)]
  ·
   rw[Nat.min_eq_right (by omega),Nat.add_sub_cancel_left]
 have hts:(s.extract p (min s.size (p+100))).size≤1000000:=by rw[ByteArray.size_extract];omega
 rw[←hte];generalize s.extract p (min s.size (p+100))=t at*;generalize ho:QDM lk ((s.data.toList.drop la).take ll)=op;generalize hrl:QEq t.data.toList op=rl;have hlong:QAg t.data.toList op=rl.foldl (QAL (decide (0<QAH t.data.toList))) (0,0):=by unfold QAg;rw[hrl]
 have hpl:=fun n=>QEn cb tb t (w.drewN n) (by omega) (h.drewN n).tab (h.drewN n).isTab
 generalize QAH t.data.toList=pn at*;have HA:=hd0 ha;have HP:=hd0 hpl;have HC:=hd0 h;have HR:=hd0 hR;have HL:=hd0 hlong;have HRL:=hd0 hrl;have HO:=hd0 ho;clear ha hpl h hR hlong hrl ho hte;have nm:∃named:Bool,decide (0<pn)=named:=⟨_,rfl⟩;obtain⟨named,hnm⟩:=nm;have HN:=hd0 hnm;go_enter func284,ntmps284
 go_wp2_with fail
 refine HA.out.mono ?_;rintro e w' ⟨rfl,m0,rfl⟩
 go_wp2_with fail
 refine(HP.out _).mono ?_;rintro e w' ⟨rfl,m1,rfl⟩
 go_wp2_with fail
 clear hnm;have HC1:=hd0 (HC.out.drewN (m0+m1));have HR1:=hd0 (HR.out.below (QAB (Below.refl _ _) (m0+m1)));have HB1:=hd0 (QAB (Below.refl w.heap.size w) (m0+m1));generalize hW:w.drewN (m0+m1)=W at*;clear hW
 go_loopw [4,5,9,10,21] (fun v4 v5 _ _ v21 wr=>∃(k:Nat) (r:Nat × Nat),k≤6∧v4= .int .i64 (r.1:Nat)∧v5= .int .i64 (r.2:Nat)∧v21= .int .i64 k∧Hid ((rl.take k).foldl (QAL named) (0,0)=r)∧Hid (CutAt wr cb tb s p lk la ll)∧Hid (RulesAt wr rb)∧Hid (Below w.heap.size w wr)) (fun _ _ _ _ v21 _=>6 - (intOf v21).toNat)
 case atStart=>exact⟨0,(0,0),by omega,rfl,rfl,rfl,rfl,HC1,HR1,HB1⟩
 case round=>
  clear HC1 HR1 HB1 HA HP HC HR;obtain⟨k,⟨kd,n⟩,hk,rfl,rfl,rfl,HF,HCk,HRk,HBk⟩:=hrel;have hlt:rb<wr.heap.size:=World.block_lt_of_cell? wr _ HRk.out.k0;rcases (by omega:k=0∨k=1∨k=2∨k=3∨k=4∨k=5∨k=6)with rfl|rfl|rfl|rfl|rfl|rfl|rfl
  ·
   have c0:=HRk.out.k0;have c1:=HRk.out.f0;have HE:Hid (rl[0]?=some (1,QBl t.data.toList)):=by rw[←HRL.out];rfl
   cases named
   all_goals
     go_wp2_with fail
     refine(QOs cb tb s t p lk la ll _ (HCk.out.below (((Below.refl _ _).alloc (Nat.le_refl _) _))) hts).mono ?_;rintro e w' ⟨rfl,hX⟩
     skip
     have hcell:w'.cell? ⟨wr.heap.size,0,none⟩=some (.int .i64 1):=QAA hX (by simp[go_sem]);have HX:=hd0 (QAF ((Below.refl wr.heap.size wr).alloc (Nat.le_refl _) _) hX);clear hX;generalize hv:QBl t.data.toList=v at*;clear hv
     by_cases hvn:n<v
     ·
      have hvn':(n:Int)<v:=by omega
      have HS:=hd0 (QAl _ _ _ _ _ _ HF.out HE.out);rw[show QAL _ (kd,n) (1,v)=(1,v)from by unfold QAL;rw[if_neg (by simp),if_pos hvn]]at HS;go_wp2;go_roundw
      case rel=>exact⟨1,(1,v),by omega,rfl,rfl,by go_num,HS,hd0 (HCk.out.below HX.out),hd0 (HRk.out.below HX.out),hd0 (QAF HBk.out HX.out)⟩
      case measure=>simp[intOf]
     ·
      have hvn':¬(n:Int)<v:=by omega
      have HS:=hd0 (QAl _ _ _ _ _ _ HF.out HE.out);rw[show QAL _ (kd,n) (1,v)=(kd,n)from by unfold QAL;rw[if_neg (by simp),if_neg hvn]]at HS;go_wp2;go_roundw
      case rel=>exact⟨1,(kd,n),by omega,rfl,rfl,by go_num,HS,hd0 (HCk.out.below HX.out),hd0 (HRk.out.below HX.out),hd0 (QAF HBk.out HX.out)⟩
      case measure=>simp[intOf]
  ·
   have c0:=HRk.out.k1;have c1:=HRk.out.f1;have HE:Hid (rl[1]?=some (2,QB2 t.data.toList op)):=by rw[←HRL.out];rfl
   cases named
   ·
    go_wp2_with fail
    refine(QJ1 cb tb s t p lk la ll _ (HCk.out.below (((Below.refl _ _).alloc (Nat.le_refl _) _))) hts).mono ?_;rintro e w' ⟨rfl,hX⟩;rw[HO.out];have hcell:w'.cell? ⟨wr.heap.size,0,none⟩=some (.int .i64 2):=QAA hX (by simp[go_sem]);have HX:=hd0 (QAF ((Below.refl wr.heap.size wr).alloc (Nat.le_refl _) _) hX);clear hX;generalize hv:QB2 t.data.toList op=v at*;clear hv
    by_cases hvn:n<v
    ·
     have hvn':(n:Int)<v:=by omega
     have HS:=hd0 (QAl _ _ _ _ _ _ HF.out HE.out);rw[show QAL false (kd,n) (2,v)=(2,v)from by unfold QAL;rw[if_neg (by simp),if_pos hvn]]at HS;go_wp2;go_roundw
     case rel=>exact⟨2,(2,v),by omega,rfl,rfl,by go_num,HS,hd0 (HCk.out.below HX.out),hd0 (HRk.out.below HX.out),hd0 (QAF HBk.out HX.out)⟩
     case measure=>simp[intOf]
    ·
     have hvn':¬(n:Int)<v:=by omega
     have HS:=hd0 (QAl _ _ _ _ _ _ HF.out HE.out);rw[show QAL false (kd,n) (2,v)=(kd,n)from by unfold QAL;rw[if_neg (by simp),if_neg hvn]]at HS;go_wp2;go_roundw
     case rel=>exact⟨2,(kd,n),by omega,rfl,rfl,by go_num,HS,hd0 (HCk.out.below HX.out),hd0 (HRk.out.below HX.out),hd0 (QAF HBk.out HX.out)⟩
     case measure=>simp[intOf]
   ·
    have HX:=hd0 ((Below.refl wr.heap.size wr).alloc (Nat.le_refl _) (.cells #[.int .i64 2,.func (.func 277) #[] #[]] 318));have HS:=hd0 (QAl _ _ _ _ _ _ HF.out HE.out);rw[show QAL true (kd,n) (2,QB2 t.data.toList op)=(kd,n)from by unfold QAL;rw[if_pos (by simp)]]at HS;go_wp2;go_roundw
    case rel=>exact⟨2,(kd,n),by omega,rfl,rfl,by go_num,HS,hd0 (HCk.out.below HX.out),hd0 (HRk.out.below HX.out),hd0 (QAF HBk.out HX.out)⟩
    case measure=>simp[intOf]
  ·
   have c0:=HRk.out.k2;have c1:=HRk.out.f2;have HE:Hid (rl[2]?=some (3,QAw t.data.toList)):=by rw[←HRL.out];rfl
   cases named
   all_goals
     go_wp2_with fail
     refine(QJ2 cb tb s t p lk la ll _ (HCk.out.below (((Below.refl _ _).alloc (Nat.le_refl _) _))) hts).mono ?_;rintro e w' ⟨rfl,hX⟩
     skip
     have hcell:w'.cell? ⟨wr.heap.size,0,none⟩=some (.int .i64 3):=QAA hX (by simp[go_sem]);have HX:=hd0 (QAF ((Below.refl wr.heap.size wr).alloc (Nat.le_refl _) _) hX);clear hX;generalize hv:QAw t.data.toList=v at*;clear hv
     by_cases hvn:n<v
     ·
      have hvn':(n:Int)<v:=by omega
      have HS:=hd0 (QAl _ _ _ _ _ _ HF.out HE.out);rw[show QAL _ (kd,n) (3,v)=(3,v)from by unfold QAL;rw[if_neg (by simp),if_pos hvn]]at HS;go_wp2;go_roundw
      case rel=>exact⟨3,(3,v),by omega,rfl,rfl,by go_num,HS,hd0 (HCk.out.below HX.out),hd0 (HRk.out.below HX.out),hd0 (QAF HBk.out HX.out)⟩
      case measure=>simp[intOf]
     ·
      have hvn':¬(n:Int)<v:=by omega
      have HS:=hd0 (QAl _ _ _ _ _ _ HF.out HE.out);rw[show QAL _ (kd,n) (3,v)=(kd,n)from by unfold QAL;rw[if_neg (by simp),if_neg hvn]]at HS;go_wp2;go_roundw
      case rel=>exact⟨3,(kd,n),by omega,rfl,rfl,by go_num,HS,hd0 (HCk.out.below HX.out),hd0 (HRk.out.below HX.out),hd0 (QAF HBk.out HX.out)⟩
      case measure=>simp[intOf]
  ·
   have c0:=HRk.out.k3;have c1:=HRk.out.f3;have HE:Hid (rl[3]?=some (4,QG5 t.data.toList)):=by rw[←HRL.out];rfl
   cases named
   ·
    go_wp2_with fail
    refine(QOr cb tb s t p lk la ll _ (HCk.out.below (((Below.refl _ _).alloc (Nat.le_refl _) _))) hts).mono ?_;rintro e w' ⟨rfl,hX⟩
    skip
    have hcell:w'.cell? ⟨wr.heap.size,0,none⟩=some (.int .i64 4):=QAA hX (by simp[go_sem]);have HX:=hd0 (QAF ((Below.refl wr.heap.size wr).alloc (Nat.le_refl _) _) hX);clear hX;generalize hv:QG5 t.data.toList=v at*;clear hv
    by_cases hvn:n<v
    ·
     have hvn':(n:Int)<v:=by omega
     have HS:=hd0 (QAl _ _ _ _ _ _ HF.out HE.out);rw[show QAL false (kd,n) (4,v)=(4,v)from by unfold QAL;rw[if_neg (by simp),if_pos hvn]]at HS;go_wp2;go_roundw
     case rel=>exact⟨4,(4,v),by omega,rfl,rfl,by go_num,HS,hd0 (HCk.out.below HX.out),hd0 (HRk.out.below HX.out),hd0 (QAF HBk.out HX.out)⟩
     case measure=>simp[intOf]
    ·
     have hvn':¬(n:Int)<v:=by omega
     have HS:=hd0 (QAl _ _ _ _ _ _ HF.out HE.out);rw[show QAL false (kd,n) (4,v)=(kd,n)from by unfold QAL;rw[if_neg (by simp),if_neg hvn]]at HS;go_wp2;go_roundw
     case rel=>exact⟨4,(kd,n),by omega,rfl,rfl,by go_num,HS,hd0 (HCk.out.below HX.out),hd0 (HRk.out.below HX.out),hd0 (QAF HBk.out HX.out)⟩
     case measure=>simp[intOf]
   ·
    have HX:=hd0 ((Below.refl wr.heap.size wr).alloc (Nat.le_refl _) (.cells #[.int .i64 4,.func (.func 279) #[] #[]] 318));have HS:=hd0 (QAl _ _ _ _ _ _ HF.out HE.out);rw[show QAL true (kd,n) (4,QG5 t.data.toList)=(kd,n)from by unfold QAL;rw[if_pos (by simp)]]at HS;go_wp2;go_roundw
    case rel=>exact⟨4,(kd,n),by omega,rfl,rfl,by go_num,HS,hd0 (HCk.out.below HX.out),hd0 (HRk.out.below HX.out),hd0 (QAF HBk.out HX.out)⟩
    case measure=>simp[intOf]
  ·
   have c0:=HRk.out.k4;have c1:=HRk.out.f4;have HE:Hid (rl[4]?=some (5,QEP t.data.toList)):=by rw[←HRL.out];rfl
   cases named
   ·
    go_wp2_with fail
    refine(QOt cb tb s t p lk la ll _ (HCk.out.below (((Below.refl _ _).alloc (Nat.le_refl _) _))) hts).mono ?_;rintro e w' ⟨rfl,hX⟩
    skip
    have hcell:w'.cell? ⟨wr.heap.size,0,none⟩=some (.int .i64 5):=QAA hX (by simp[go_sem]);have HX:=hd0 (QAF ((Below.refl wr.heap.size wr).alloc (Nat.le_refl _) _) hX);clear hX;generalize hv:QEP t.data.toList=v at*;clear hv
    by_cases hvn:n<v
    ·
     have hvn':(n:Int)<v:=by omega
     have HS:=hd0 (QAl _ _ _ _ _ _ HF.out HE.out);rw[show QAL false (kd,n) (5,v)=(5,v)from by unfold QAL;rw[if_neg (by simp),if_pos hvn]]at HS;go_wp2;go_roundw
     case rel=>exact⟨5,(5,v),by omega,rfl,rfl,by go_num,HS,hd0 (HCk.out.below HX.out),hd0 (HRk.out.below HX.out),hd0 (QAF HBk.out HX.out)⟩
     case measure=>simp[intOf]
    ·
     have hvn':¬(n:Int)<v:=by omega
     have HS:=hd0 (QAl _ _ _ _ _ _ HF.out HE.out);rw[show QAL false (kd,n) (5,v)=(kd,n)from by unfold QAL;rw[if_neg (by simp),if_neg hvn]]at HS;go_wp2;go_roundw
     case rel=>exact⟨5,(kd,n),by omega,rfl,rfl,by go_num,HS,hd0 (HCk.out.below HX.out),hd0 (HRk.out.below HX.out),hd0 (QAF HBk.out HX.out)⟩
     case measure=>simp[intOf]
   ·
    have HX:=hd0 ((Below.refl wr.heap.size wr).alloc (Nat.le_refl _) (.cells #[.int .i64 5,.func (.func 280) #[] #[]] 318));have HS:=hd0 (QAl _ _ _ _ _ _ HF.out HE.out);rw[show QAL true (kd,n) (5,QEP t.data.toList)=(kd,n)from by unfold QAL;rw[if_pos (by simp)]]at HS;go_wp2;go_roundw
    case rel=>exact⟨5,(kd,n),by omega,rfl,rfl,by go_num,HS,hd0 (HCk.out.below HX.out),hd0 (HRk.out.below HX.out),hd0 (QAF HBk.out HX.out)⟩
    case measure=>simp[intOf]
  ·
   have c0:=HRk.out.k5;have c1:=HRk.out.f5;have HE:Hid (rl[5]?=some (6,QB3 t.data.toList)):=by rw[←HRL.out];rfl
   cases named
   ·
    go_wp2_with fail
    refine(QJ3 cb tb s t p lk la ll _ (HCk.out.below (((Below.refl _ _).alloc (Nat.le_refl _) _))) hts).mono ?_;rintro e w' ⟨rfl,hX⟩
    skip
    have hcell:w'.cell? ⟨wr.heap.size,0,none⟩=some (.int .i64 6):=QAA hX (by simp[go_sem]);have HX:=hd0 (QAF ((Below.refl wr.heap.size wr).alloc (Nat.le_refl _) _) hX);clear hX;generalize hv:QB3 t.data.toList=v at*;clear hv
    by_cases hvn:n<v
    ·
     have hvn':(n:Int)<v:=by omega
     have HS:=hd0 (QAl _ _ _ _ _ _ HF.out HE.out);rw[show QAL false (kd,n) (6,v)=(6,v)from by unfold QAL;rw[if_neg (by simp),if_pos hvn]]at HS;go_wp2;go_roundw
     case rel=>exact⟨6,(6,v),by omega,rfl,rfl,by go_num,HS,hd0 (HCk.out.below HX.out),hd0 (HRk.out.below HX.out),hd0 (QAF HBk.out HX.out)⟩
     case measure=>simp[intOf]
    ·
     have hvn':¬(n:Int)<v:=by omega
     have HS:=hd0 (QAl _ _ _ _ _ _ HF.out HE.out);rw[show QAL false (kd,n) (6,v)=(kd,n)from by unfold QAL;rw[if_neg (by simp),if_neg hvn]]at HS;go_wp2;go_roundw
     case rel=>exact⟨6,(kd,n),by omega,rfl,rfl,by go_num,HS,hd0 (HCk.out.below HX.out),hd0 (HRk.out.below HX.out),hd0 (QAF HBk.out HX.out)⟩
     case measure=>simp[intOf]
   ·
    have HX:=hd0 ((Below.refl wr.heap.size wr).alloc (Nat.le_refl _) (.cells #[.int .i64 6,.func (.func 281) #[] #[]] 318));have HS:=hd0 (QAl _ _ _ _ _ _ HF.out HE.out);rw[show QAL true (kd,n) (6,QB3 t.data.toList)=(kd,n)from by unfold QAL;rw[if_pos (by simp)]]at HS;go_wp2;go_roundw
    case rel=>exact⟨6,(kd,n),by omega,rfl,rfl,by go_num,HS,hd0 (HCk.out.below HX.out),hd0 (HRk.out.below HX.out),hd0 (QAF HBk.out HX.out)⟩
    case measure=>simp[intOf]
  ·
   have hfin:QAg t.data.toList op=(kd,n):=by
    rw[HL.out,HN.out,←HF.out,List.take_of_length_le (by rw[←HRL.out];exact Nat.le_refl 6)]
   have HFIN:=hd0 hfin;clear hfin;go_wp2
   go_ret2
   exact⟨by rw[HFIN.out];rfl,HBk.out⟩
def QTw(p:Nat):Nat ⊕ Nat→Ending
 | .inl n=> .returned (.int .i64 n)
 | .inr er=> .panicked [{v:=QCk p er,recovered:=false}]
def cL:List UInt8→Nat→Int→Nat ⊕ Nat
 | [],_,_=> .inr 13
 | [_],_,_=> .inr 13
 |a::b::r,i,o=>
  if a==47&&b==42 then(if 100<o+1 then .inr 6 else cL r (i+2) (o+1))
  else if a==42&&b==47 then(if o - 1=0 then .inl (i+2) else cL r (i+2) (o - 1))
  else cL (b::r) (i+1) o
def QBG(l:List UInt8):Nat ⊕ Nat:=
 if Lib.hasPrefix l [47,47] then(if 0≤Lib.indexByte l 10 then .inl (Lib.indexByte l 10).toNat else .inl l.length) else cL l 0 0
theorem QTC(a b c d:UInt8)(r:List UInt8):Lib.hasPrefix (c::d::r) [a,b]=(a==c&&b==d):=by
 simp[Lib.hasPrefix,List.isPrefixOf]
theorem QCS {l:List UInt8}{a b:UInt8}(h:Lib.hasPrefix l [a,b]=true):∃r,l=a::b::r:=by
 match l with
 | []=>simp[Lib.hasPrefix,List.isPrefixOf]at h
 | [_]=>simp[Lib.hasPrefix,List.isPrefixOf]at h
 |c::d::r=>
  rw[QTC,Bool.and_eq_true,beq_iff_eq,beq_iff_eq]at h;exact⟨r,by rw[h.1,h.2]⟩
theorem QRE {l:List UInt8}(i:Nat)(o:Int)(h:Lib.hasPrefix l [47,42]=true):cL l i o=if 100<o+1 then .inr 6 else cL (l.drop 2) (i+2) (o+1):=by
 obtain⟨r,rfl⟩:=QCS h;rw[cL,if_pos (by decide)];rfl
theorem QPY {l:List UInt8}(i:Nat)(o:Int)(h:Lib.hasPrefix l [42,47]=true):cL l i o=if o - 1=0 then .inl (i+2) else cL (l.drop 2) (i+2) (o - 1):=by
 obtain⟨r,rfl⟩:=QCS h;rw[cL,if_neg (by decide),if_pos (by decide)];rfl
theorem QPa {l:List UInt8}(i:Nat)(o:Int)(h1:Lib.hasPrefix l [47,42]=false)(h2:Lib.hasPrefix l [42,47]=false):cL l i o=cL (l.drop 1) (i+1) o:=by
 match l with
 | []=>rfl
 | [_]=>rfl
 |c::d::r=>
  rw[QTC]at h1 h2;rw[cL,if_neg,if_neg]
  ·
   rfl
  ·
   rw[Bool.and_comm,Bool.eq_false_iff]at h2;intro h
   apply h2
   rw[Bool.and_eq_true,beq_iff_eq,beq_iff_eq]at h ⊢;exact⟨h.2.symm,h.1.symm⟩
  ·
   rw[Bool.and_comm,Bool.eq_false_iff]at h1;intro h
   apply h1
   rw[Bool.and_eq_true,beq_iff_eq,beq_iff_eq]at h ⊢;exact⟨h.2.symm,h.1.symm⟩
theorem QCd(t p:ByteArray)(i:Nat)(b:Bool)(h:Lib.hasPrefix (t.data.toList.drop i) p.data.toList=b)(w:World):
  Calls prog 311 #[.string (t.extract i t.size),.string p] w fun e w'=>e= .returned (.bool b)∧w'=w:=
 QBO _ p b (by rw[Lib.extract_to_end];exact h) w
theorem QKQ(t:ByteArray)(c:Nat)(r:Int)(h:Lib.indexByte t.data.toList c.toUInt8=r)(w:World):
  Calls prog 246 #[.string t,.int .u8 (c:Int)] w fun e w'=>e= .returned (.int .i64 r)∧w'=w:=by
 have:=Tryz.strings_IndexByte t (c:Int) w;rw[Int.toNat_natCast]at this;rw[←h];exact this
theorem QB5:∀(l:List UInt8) (c:UInt8),Lib.indexByte l c<l.length∧ -1≤Lib.indexByte l c
 | [],_=>by simp[Lib.indexByte]
 |b::l,c=>by
  have:=QB5 l c;simp only[Lib.indexByte,List.length_cons]
  split
  ·
   omega
  ·
   split
   ·
    omega
   ·
    rename_i h;have:Lib.indexByte l c≠ -1:=by simpa using h
    omega
theorem QKW(cb tb:Nat)(s:ByteArray)(p lk la ll:Nat)(w:World)(h:CutAt w cb tb s p lk la ll):
  Calls prog 283 #[.pointer (some ⟨cb,0,none⟩)] w fun e w'=>e=QTw p (QBG (s.data.toList.drop p))∧∃n,w'=w.drewN n:=by
 have h0:=h.text;have h1:=h.pos;have hle:=h.le;have hsz:=h.size;have i0:(0:Int)≤p:=by omega
 have i1:(p:Int)≤s.size:=by omega
 have hte:=Lib.extract_to_end s p;have hts:(s.extract p s.size).size≤20000:=by rw[ByteArray.size_extract];omega
 have HC:=hd0 h;clear h;generalize hte0:s.extract p s.size=t at*;rw[←hte];have HT:=hd0 hte0;clear hte0;have hfail:=fun er w=>QIG (w:=w) cb p er
 have HF:=hd0 hfail;clear hfail hte
 cases hx:Lib.hasPrefix t.data.toList [47,47]
 ·
  have HX:=hd0 hx;have hv:QBG t.data.toList=cL t.data.toList 0 0:=by unfold QBG;rw[hx];rfl
  generalize hR:cL t.data.toList 0 0=R at*;have HR:=hd0 hR;have HV:=hd0 hv;clear hx hv hR;go_enter func283,ntmps283;go_wp2
  go_quiet (fail)
  go_wp2_with fail
  rw[HT.out];refine(QBO t _ false (by exact HX.out) _).mono ?_;rintro e w' ⟨rfl,rfl⟩
  go_wp2_with fail
  go_loopw [5,6] (fun v5 v6 wr=>∃(i:Nat) (o:Int),i≤t.size∧ -(i:Int)≤o∧o≤100∧v5= .int .i64 o∧v6= .int .i64 i∧Hid (cL (t.data.toList.drop i) i o=R)∧∃q,wr=w.drewN q) (fun _ v6 _=>t.size - (intOf v6).toNat)
  case atStart=>exact⟨0,0,Nat.zero_le _,by omega,by omega,rfl,rfl,HR,_,rfl⟩
  case round=>
   obtain⟨i,o,hi,ho1,ho2,rfl,rfl,HI,q,rfl⟩:=hrel
   by_cases hlt:i<t.size
   ·
    have hlt':(i:Int)<t.size:=by omega
    have i2:(0:Int)≤i:=by omega
    have i3:(i:Int)≤t.size:=by omega
    cases ha:Lib.hasPrefix (t.data.toList.drop i) [47,42]
    ·
     cases hb:Lib.hasPrefix (t.data.toList.drop i) [42,47]
     ·
      have hs:=QPa i o ha hb;rw[HI.out,List.drop_drop]at hs;have HS:=hd0 hs.symm;have HA:=hd0 ha;have HB:=hd0 hb;clear hs ha hb
      go_wp2_with fail
      refine(QCd t _ i false (by exact HA.out) _).mono ?_;rintro e w' ⟨rfl,rfl⟩
      go_wp2_with fail
      refine(QCd t _ i false (by exact HB.out) _).mono ?_;rintro e w' ⟨rfl,rfl⟩;go_wp2;go_roundw
      case rel=>exact⟨i+1,o,by omega,by omega,by omega,rfl,by go_num,HS,_,rfl⟩
      case measure=>simp[intOf];omega
     ·
      have hs:=QPY i o hb;rw[HI.out,List.drop_drop]at hs;obtain⟨r2,hr2⟩:=QCS hb
      have hl2:i+2≤t.size:=by
       have:=congrArg List.length hr2;rw[List.length_drop,QAE]at this;simp only[List.length_cons]at this;omega
      have HA:=hd0 ha;have HB:=hd0 hb;clear ha hb hr2
      by_cases o1:o - 1=0
      ·
       rw[if_pos o1]at hs;have HS:=hd0 hs;clear hs;have o2:((o - 1)==0)=true:=by rw[beq_iff_eq];exact o1
       clear o1
       go_wp2_with fail
       refine(QCd t _ i false (by exact HA.out) _).mono ?_;rintro e w' ⟨rfl,rfl⟩
       go_wp2_with fail
       refine(QCd t _ i true (by exact HB.out) _).mono ?_;rintro e w' ⟨rfl,rfl⟩;go_wp2;go_ret;exact⟨by rw[HV.out,HS.out];exact QAO (by omega),_,rfl⟩
      ·
       rw[if_neg o1]at hs;have HS:=hd0 hs.symm;clear hs;have o2:((o - 1)==0)=false:=by rw[beq_eq_false_iff_ne];exact o1
       clear o1
       go_wp2_with fail
       refine(QCd t _ i false (by exact HA.out) _).mono ?_;rintro e w' ⟨rfl,rfl⟩
       go_wp2_with fail
       refine(QCd t _ i true (by exact HB.out) _).mono ?_;rintro e w' ⟨rfl,rfl⟩;go_wp2;go_roundw
       case rel=>exact⟨i+2,o - 1,by omega,by omega,by omega,rfl,by go_num,HS,_,rfl⟩
       case measure=>simp[intOf];omega
    ·
     have hs:=QRE i o ha;rw[HI.out,List.drop_drop]at hs;obtain⟨r2,hr2⟩:=QCS ha
     have hl2:i+2≤t.size:=by
      have:=congrArg List.length hr2;rw[List.length_drop,QAE]at this;simp only[List.length_cons]at this;omega
     have HA:=hd0 ha;clear ha hr2
     by_cases o1:100<o+1
     ·
      rw[if_pos o1]at hs;have HS:=hd0 hs;clear hs
      go_wp2_with fail
      refine(QCd t _ i true (by exact HA.out) _).mono ?_;rintro e w' ⟨rfl,rfl⟩
      go_wp2_with fail
      refine(HF.out _ _ (HC.out.drewN _).pos).mono ?_;rintro e w' ⟨rfl,rfl⟩;exact⟨rfl,by rw[HV.out,HS.out];rfl,_,rfl⟩
     ·
      rw[if_neg o1]at hs;have HS:=hd0 hs.symm;clear hs
      go_wp2_with fail
      refine(QCd t _ i true (by exact HA.out) _).mono ?_;rintro e w' ⟨rfl,rfl⟩;go_wp2;go_roundw
      case rel=>exact⟨i+2,o+1,by omega,by omega,by omega,rfl,by go_num,HS,_,rfl⟩
      case measure=>simp[intOf];omega
   ·
    have he:i=t.size:=by omega
    have hs:=HI.out;rw[List.drop_of_length_le (by rw[QAE];omega),cL]at hs;have HS:=hd0 hs;clear hs he;have hlt':¬(i:Int)<t.size:=by omega
    go_wp2_with fail
    refine(HF.out _ _ (HC.out.drewN _).pos).mono ?_;rintro e w' ⟨rfl,rfl⟩;exact⟨rfl,by rw[HV.out,←HS.out];rfl,_,rfl⟩
 ·
  have HX:=hd0 hx;have hb:=QB5 t.data.toList 10;rw[QAE]at hb;have hv:QBG t.data.toList=if 0≤Lib.indexByte t.data.toList 10 then .inl (Lib.indexByte t.data.toList 10).toNat else .inl t.size:=by unfold QBG;rw[hx,QAE];rfl
  generalize hr:Lib.indexByte t.data.toList 10=r at*;have HI:=hd0 hr;have HV:=hd0 hv;clear hx hv hr
  by_cases r0:0≤r
  ·
   go_enter func283,ntmps283;go_wp2
   go_quiet (fail)
   go_wp2_with fail
   rw[HT.out];refine(QBO t _ true (by exact HX.out) _).mono ?_;rintro e w' ⟨rfl,rfl⟩
   go_wp2_with fail
   refine(QKQ t 10 r (by exact HI.out) _).mono ?_;rintro e w' ⟨rfl,rfl⟩;go_wp2;go_ret;exact⟨by rw[HV.out,if_pos r0];exact QAO (by omega),_,rfl⟩
  ·
   go_enter func283,ntmps283;go_wp2
   go_quiet (fail)
   go_wp2_with fail
   rw[HT.out];refine(QBO t _ true (by exact HX.out) _).mono ?_;rintro e w' ⟨rfl,rfl⟩
   go_wp2_with fail
   refine(QKQ t 10 r (by exact HI.out) _).mono ?_;rintro e w' ⟨rfl,rfl⟩;go_wp2;go_ret;exact⟨by rw[HV.out,if_neg (by omega)];rfl,_,rfl⟩
def IsIf(v:Value):Prop:=v=Value.nilIface∨∃te pe,v=Value.iface te pe
structure Env(w:World):Prop where
 syn:∃ev,w.cell? ⟨3,0,none⟩=some ev∧IsIf ev
 rng:∃ev,w.cell? ⟨4,0,none⟩=some ev∧IsIf ev
 pow:Lib.TabIs prog w "internal/strconv.uint64pow10" .u64 Lib.pow10Tab
 spc:Lib.TabIs prog w "strings.asciiSpace" .u8 Lib.asciiSpaceTab
 mx:∃m,w.cell? ⟨2,0,none⟩=some (.int .i64 m)
theorem QER {P:Program}{n:String}{g:Nat}{k:IntKind}{zs:List Int}{w w':World}(hg:P.globalNamed n=some g)(h:Lib.TabIs P w n k zs)(hb:Below w.heap.size w w'):Lib.TabIs P w' n k zs:=by
 unfold Lib.TabIs World.var? at h ⊢;rw[hg]at h ⊢;simp only[Option.bind_some]at h ⊢
 have hlt:g<w.heap.size:=by
  rcases Nat.lt_or_ge g w.heap.size with hl|hl
  ·
   exact hl
  ·
   rw[Array.getElem?_eq_none hl]at h;simp at h
 rw[hb.block g hlt];exact h
theorem Env.below {w w1:World}(h:Env w)(hb:Below w.heap.size w w1):Env w1:=by
 obtain⟨⟨a,h1,h2⟩,⟨b,h3,h4⟩,h5,h6,⟨m,h7⟩⟩:=h;exact⟨⟨a,QAA hb h1,h2⟩,⟨b,QAA hb h3,h4⟩,QER (g:=5) (by kernel_rfl) h5 hb,QER (g:=0) (by kernel_rfl) h6 hb,⟨m,QAA hb h7⟩⟩
def QBi(l:List UInt8):Int × Bool:=
 match Lib.atoiAll l with
 | .ok v=>(v,Lib.itoa v==l)
 | .range=>(Lib.atoiSat l,false)
 |_=>(0,false)
theorem QTI {a b:Int}{x y:Bool}(h:a=b)(g:x=y):Ending.returned (.tuple #[.int .i64 a,.bool x])= .returned (.tuple #[.int .i64 b,.bool y]):=by rw[h,g]
theorem QKM(w:World)(k:Nat)(os:Array Obj):Below w.heap.size w («Sort».grow (w.drewN k) os):=
 ⟨rfl,rfl,rfl,by show w.heap.size≤(w.heap++os).size;rw[Array.size_append];omega,fun j hj=>by show(w.heap++os)[j]?=_;rw[Array.getElem?_append_left hj]⟩
theorem QL0 {l:List UInt8}{v:Int}(h:Lib.atoiAll l= .ok v): -9223372036854775808≤v∧v≤9223372036854775807:=by
 unfold Lib.atoiAll at h
 split at h
 ·
  cases h
 ·
  dsimp only at h
  split at h
  ·
   cases h
  ·
   cases h
  ·
   split at h
   ·
    cases h
   ·
    split at h
    ·
     cases h
    ·
     injection h with h
     subst h
     split <;> omega
theorem QGo(s:ByteArray)(w:World)(hs:s.size≤1000000)(hE:Env w):
  Calls prog 137 #[.string s] w fun e w'=>e= .returned (.tuple #[.int .i64 (QBi s.data.toList).1,.bool (QBi s.data.toList).2])∧Below w.heap.size w w':=by
 have HE:=hd0 hE
 cases h:Lib.atoiAll s.data.toList with
 |ok v=>
  have hb:=QL0 h;have ha:=Tryz.strconv_Atoi_ok s (by omega) v h;have hi:=fun w hp=>Tryz.strconv_Itoa v hb.1 hb.2 w hp
  have hv:QBi s.data.toList=(v,Lib.itoa v==s.data.toList):=by unfold QBi;rw[h]
  have hq:((⟨(Lib.itoa v).toArray⟩:ByteArray).toList==s.toList)=(Lib.itoa v==s.data.toList):=by rw[Lib.toList_data,Lib.toList_data]
  have HA:=hd0 ha;have HI:=hd0 hi;have HV:=hd0 hv;clear ha hi hv h;have hb1:=hb.1;have hb2:=hb.2;go_enter func137,ntmps137
  go_wp2_with fail
  refine(HA.out _).mono ?_;rintro e w' ⟨rfl,hw⟩
  have hB:Below w.heap.size w w':=by
   rcases hw with rfl|⟨t,rfl⟩
   ·
    exact Below.refl _ _
   ·
    exact Lib.bytesWorld_below _ _ _
  clear hw;have HB:=hd0 hB;clear hB
  go_wp2_with fail
  refine(HI.out _ (HE.out.below HB.out).pow).mono ?_;rintro e w'' ⟨rfl,k,os,rfl⟩;go_wp2
  go_ret2
  refine⟨?_,QAF HB.out (QKM _ _ _)⟩;rw[HV.out];exact QTI rfl (by rw[Lib.toList_data])
 |range=>
  obtain⟨ev,he,hi⟩:=hE.rng;have ha:=Tryz.strconv_Atoi_range s (by omega) h ev w he hi;have hv:QBi s.data.toList=(Lib.atoiSat s.data.toList,false):=by unfold QBi;rw[h]
  have HA:=hd0 ha;have HV:=hd0 hv;clear ha hv h he hi;go_enter func137,ntmps137
  go_wp2_with fail
  refine HA.out.mono ?_;rintro e w' ⟨N,rfl,hN,hc,hB⟩;go_wp2
  go_ret2
  exact⟨by rw[HV.out];rfl,hB⟩
 |_=>
  obtain⟨ev,he,hi⟩:=hE.syn;have ha:=Tryz.strconv_Atoi_syntax s (by omega) h ev w he hi;have hv:QBi s.data.toList=(0,false):=by unfold QBi;rw[h]
  have HA:=hd0 ha;have HV:=hd0 hv;clear ha hv h he hi;go_enter func137,ntmps137
  go_wp2_with fail
  refine HA.out.mono ?_;rintro e w' ⟨N,rfl,hN,hc,hB⟩;go_wp2
  go_ret2
  exact⟨by rw[HV.out];rfl,hB⟩
end Go.Proofs.YtjnclkakbopnjaaGreatDoor
