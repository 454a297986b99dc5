/- XLexM, XLexN, XLexO, XLexQ, XLexP, XLexR -/
import Derived.Test.YtjnclkakbopnjaaGreatDoorLot05
import Derived.StillTailTactics
import Derived.BigRegion
import Derived.Deep.DeepCutAuto
import Derived.RangeFuncBox
import Derived.RangeFuncLeaves
import Derived.OwnWalkIn
import Derived.TacticsInMore
import Derived.LoopNIn
import Derived.LoopIn
import Derived.Recover
set_option linter.unusedSimpArgs false
set_option linter.unusedVariables false
set_option maxRecDepth 100000
set_option maxHeartbeats 4000000
namespace Go.Proofs.YtjnclkakbopnjaaGreatDoor
open Go.Proofs.Tryz
open Go.RowKit
theorem QQq {c:Prop} [Decidable c] {a b n:Nat}(ha:a≤n)(hb:b≤n):(if c then a else b)≤n:=by split <;> assumption
theorem QIW(l:List UInt8):QBl l≤l.length:=by
 have hp:=QB9 l;unfold QBl
 split
 ·
  rename_i c r h
  split at h
  ·
   cases h
  ·
   have hl:=congrArg List.length h;rw[List.length_drop,List.length_cons]at hl;have:=QEO QFU r;refine QQq (QQq ?_ ?_) ?_ <;> omega
 ·
  exact hp
theorem QKi(l:List UInt8)(b:Bool):QB2 l b≤l.length:=by
 unfold QB2
 split
 ·
  have:=QEO QCp (l.drop 1);rw[List.length_drop]at this
  split <;> omega
 ·
  exact QEO _ _
theorem QEI(l:List UInt8):QAw l≤l.length:=by
 unfold QAw
 split
 ·
  rename_i h;rw[Bool.and_eq_true]at h;have:=QGA h.2;omega
 ·
  omega
theorem QPk(l:List UInt8):QG5 l≤l.length:=by
 unfold QG5
 split
 ·
  rename_i h;rw[Bool.or_eq_true]at h;rcases h with h|h <;> (obtain⟨r,rfl⟩:=QCS h;simp)
 ·
  omega
theorem QQB(l:List UInt8):QEP l≤l.length:=by
 unfold QEP
 split
 ·
  rename_i h;rw[List.any_eq_true]at h;obtain⟨p,hp,h⟩:=h;simp only[twos,List.mem_cons,List.not_mem_nil,or_false]at hp;rcases hp with rfl|rfl|rfl|rfl|rfl|rfl <;> (obtain⟨r,rfl⟩:=QCS h;simp)
 ·
  split
  ·
   omega
  ·
   simp only[List.length_cons];split <;> omega
theorem QOZ {l:List UInt8}{a:UInt8}(h:Lib.hasPrefix l [a]=true):∃r,l=a::r:=by
 match l with
 | []=>simp[Lib.hasPrefix,List.isPrefixOf]at h
 |c::r=>
  simp[Lib.hasPrefix,List.isPrefixOf]at h;exact⟨r,by rw[h]⟩
theorem QKz(l:List UInt8):QB3 l≤l.length:=by
 unfold QB3
 split
 ·
  rename_i h;obtain⟨r,rfl⟩:=QOZ h;simp only[List.drop_succ_cons,List.drop_zero,List.length_cons];have h1:=QB9 r
  split
  ·
   omega
  ·
   split
   ·
    have h2:=QB9 (r.drop (QAH r+1));rw[List.length_drop]at h2;rename_i hc;have h3:=QGA hc;simp only[List.length_cons]at h3
    split <;> omega
   ·
    omega
 ·
  omega
theorem QGS(t:List UInt8)(op:Bool):(QAg t op).1≤6∧(QAg t op).2≤t.length:=by
 have key:∀(rl:List (Nat × Nat)) (a:Nat × Nat),(∀r∈rl,r.1≤6∧r.2≤t.length)→a.1≤6∧a.2≤t.length→(rl.foldl (QAL (decide (0<QAH t))) a).1≤6∧(rl.foldl (QAL (decide (0<QAH t))) a).2≤t.length:=by
  intro rl
  induction rl with
  |nil=>intro a _ ha;exact ha
  |cons r rs ih=>
   intro a hr ha;rw[List.foldl_cons];refine ih _ (fun x hx=>hr x (List.mem_cons_of_mem _ hx)) ?_;unfold QAL;have:=hr r List.mem_cons_self
   split
   ·
    exact ha
   ·
    split
    ·
     exact this
    ·
     exact ha
 refine key _ _ (fun r hr=>?_) ⟨by omega,by omega⟩;simp only[QEq,List.mem_cons,List.not_mem_nil,or_false]at hr;rcases hr with rfl|rfl|rfl|rfl|rfl|rfl
 ·
  exact⟨by simp,QIW _⟩
 ·
  exact⟨by simp,QKi _ _⟩
 ·
  exact⟨by simp,QEI _⟩
 ·
  exact⟨by simp,QPk _⟩
 ·
  exact⟨by simp,QQB _⟩
 ·
  exact⟨by simp,QKz _⟩
def QA7(x:Nat):Bool:=x==32||x==9||x==13||x==10
def QDL(l:List UInt8)(p:Nat)(op:Bool):(Nat × Nat) ⊕ Nat:=
 if Lib.hasPrefix (l.drop p) [47,47]||Lib.hasPrefix (l.drop p) [47,42] then
  (match QBG (l.drop p)with| .inl n=> .inl (8,n)| .inr er=> .inr er)
 else if QA7 (QBc l p) then .inl (7,QDv QA7 (l.drop p))
 else match QAM l p (QAg ((l.drop p).take 100) op).1 (QAg ((l.drop p).take 100) op).2 with
  |none=> .inl (QAg ((l.drop p).take 100) op)
  |some er=> .inr er
def QSH(p:Nat):(Nat × Nat) ⊕ Nat→Ending
 | .inl (k,n)=> .returned (.agg #[.int .i64 k,.int .i64 p,.int .i64 n])
 | .inr er=> .panicked [{v:=QCk p er,recovered:=false}]
theorem QH1(x:Nat)(hx:x<256):((0:Int)≤Lib.indexByte [32,9,13,10] x.toUInt8)↔QA7 x=true:=by
 have key:∀y:Fin 256,(decide ((0:Int)≤Lib.indexByte [32,9,13,10] y.val.toUInt8))=QA7 y.val:=by decide+kernel
 have:=key ⟨x,hx⟩;simp only at this;rw[←this,decide_eq_true_eq]
theorem QE9(x:Nat)(hx:x<256)(y:Int)(hy:y=x)(w:World):
  Calls prog 246 #[.string ⟨#[32,9,13,10]⟩,.int .u8 y] w fun e w'=>e= .returned (.int .i64 (Lib.indexByte [32,9,13,10] x.toUInt8))∧w'=w:=
 QH4 ⟨#[32,9,13,10]⟩ x _ rfl y hy w
theorem QJg(cb tb rb:Nat)(s:ByteArray)(p lk la ll:Nat)(w:World)(h:CutAt w cb tb s p lk la ll)(hp:p<s.size)
  (hc:(Lib.hasPrefix (s.data.toList.drop p) [47,47]||Lib.hasPrefix (s.data.toList.drop p) [47,42])=true):
  Calls prog 249 #[.pointer (some ⟨cb,0,none⟩),.slice (some ⟨rb,0,none⟩) 6 6] w fun e w'=>
   e=QSH p (match QBG (s.data.toList.drop p)with| .inl n=> .inl (8,n)| .inr er=> .inr er)∧Below w.heap.size w w':=by
 have h1:=h.pos;have hlt:=h.lt;have hcm:=fun w h=>QKW cb tb s p lk la ll w h
 generalize QBG (s.data.toList.drop p)=R at*;have HM:=hd0 hcm;have HC:=hd0 h;clear hcm h;have HCW:∀(o o':Obj) (k:Nat),CutAt (((w.alloc o).alloc o').drewN k) cb tb s p lk la ll:=fun o o' k=>HC.out.below (QAB (((Below.refl _ _).alloc (Nat.le_refl _) _).alloc (by simp) _) k)
 have HCV:=hd0 HCW;clear HCW
 cases ha:Lib.hasPrefix (s.data.toList.drop p) [47,47] <;> rw[ha]at hc
 ·
  simp only[Bool.false_or]at hc;have HA:=hd0 ha;have HB:=hd0 hc;clear ha hc
  cases R with
  |inl n=>
   have hm2:∀w,CutAt w cb tb s p lk la ll→Calls prog 283 #[.pointer (some ⟨cb,0,none⟩)] w fun e w'=>e= .returned (.int .i64 n)∧∃n,w'=w.drewN n:=HM.out
   have HM2:=hd0 hm2;clear hm2;go_enter func249,ntmps249
   go_wp2_with fail
   refine(QAq cb s ⟨#[47,47]⟩ p false (by exact HA.out) _ (HCV.out _ _ 0)).mono ?_;rintro e w' ⟨rfl,m0,rfl⟩
   go_wp2_with fail
   refine(QAq cb s ⟨#[47,42]⟩ p true (by exact HB.out) _ (HCV.out _ _ _)).mono ?_;rintro e w' ⟨rfl,m1,rfl⟩
   go_wp2_with fail
   refine(HM2.out _ (HCV.out _ _ _)).mono ?_;rintro e w' ⟨rfl,m2,rfl⟩;go_wp2;refine bodyPost_ret (v:= .agg #[.int .i64 8,.int .i64 p,.int .i64 n]) (by simp[results,results249,go_sem]) rfl ⟨rfl,?_⟩
   repeat (first|with_reducible refine QAB ?_ _|with_reducible refine Below.alloc ?_ (by simp) _|with_reducible refine Below.setCell ?_ (by simp) _|with_reducible exact Below.refl _ _)
  |inr er=>
   have hm2:∀w,CutAt w cb tb s p lk la ll→Calls prog 283 #[.pointer (some ⟨cb,0,none⟩)] w fun e w'=>e= .panicked [{v:=QCk p er,recovered:=false}]∧∃n,w'=w.drewN n:=HM.out
   have HM2:=hd0 hm2;clear hm2;go_enter func249,ntmps249
   go_wp2_with fail
   refine(QAq cb s ⟨#[47,47]⟩ p false (by exact HA.out) _ (HCV.out _ _ 0)).mono ?_;rintro e w' ⟨rfl,m0,rfl⟩
   go_wp2_with fail
   refine(QAq cb s ⟨#[47,42]⟩ p true (by exact HB.out) _ (HCV.out _ _ _)).mono ?_;rintro e w' ⟨rfl,m1,rfl⟩
   go_wp2_with fail
   refine(HM2.out _ (HCV.out _ _ _)).mono ?_;rintro e w' ⟨rfl,m2,rfl⟩;refine⟨rfl,rfl,?_⟩
   repeat (first|with_reducible refine QAB ?_ _|with_reducible refine Below.alloc ?_ (by simp) _|with_reducible refine Below.setCell ?_ (by simp) _|with_reducible exact Below.refl _ _)
 ·
  have HA:=hd0 ha;clear ha hc
  cases R with
  |inl n=>
   have hm2:∀w,CutAt w cb tb s p lk la ll→Calls prog 283 #[.pointer (some ⟨cb,0,none⟩)] w fun e w'=>e= .returned (.int .i64 n)∧∃n,w'=w.drewN n:=HM.out
   have HM2:=hd0 hm2;clear hm2;go_enter func249,ntmps249
   go_wp2_with fail
   refine(QAq cb s ⟨#[47,47]⟩ p true (by exact HA.out) _ (HCV.out _ _ 0)).mono ?_;rintro e w' ⟨rfl,m0,rfl⟩
   go_wp2_with fail
   refine(HM2.out _ (HCV.out _ _ _)).mono ?_;rintro e w' ⟨rfl,m2,rfl⟩;go_wp2;refine bodyPost_ret (v:= .agg #[.int .i64 8,.int .i64 p,.int .i64 n]) (by simp[results,results249,go_sem]) rfl ⟨rfl,?_⟩
   repeat (first|with_reducible refine QAB ?_ _|with_reducible refine Below.alloc ?_ (by simp) _|with_reducible refine Below.setCell ?_ (by simp) _|with_reducible exact Below.refl _ _)
  |inr er=>
   have hm2:∀w,CutAt w cb tb s p lk la ll→Calls prog 283 #[.pointer (some ⟨cb,0,none⟩)] w fun e w'=>e= .panicked [{v:=QCk p er,recovered:=false}]∧∃n,w'=w.drewN n:=HM.out
   have HM2:=hd0 hm2;clear hm2;go_enter func249,ntmps249
   go_wp2_with fail
   refine(QAq cb s ⟨#[47,47]⟩ p true (by exact HA.out) _ (HCV.out _ _ 0)).mono ?_;rintro e w' ⟨rfl,m0,rfl⟩
   go_wp2_with fail
   refine(HM2.out _ (HCV.out _ _ _)).mono ?_;rintro e w' ⟨rfl,m2,rfl⟩;refine⟨rfl,rfl,?_⟩
   repeat (first|with_reducible refine QAB ?_ _|with_reducible refine Below.alloc ?_ (by simp) _|with_reducible refine Below.setCell ?_ (by simp) _|with_reducible exact Below.refl _ _)
theorem QMO(cb tb rb:Nat)(s:ByteArray)(p lk la ll:Nat)(w:World)(h:CutAt w cb tb s p lk la ll)(hE:Env w)(hR:RulesAt w rb)(hp:p<s.size)
  (hc:(Lib.hasPrefix (s.data.toList.drop p) [47,47]||Lib.hasPrefix (s.data.toList.drop p) [47,42])=false)
  (hb:QA7 (QBc s.data.toList p)=false) (k n:Nat) (hkn:QAg ((s.data.toList.drop p).take 100) (QDM lk ((s.data.toList.drop la).take ll))=(k,n)):
  Calls prog 249 #[.pointer (some ⟨cb,0,none⟩),.slice (some ⟨rb,0,none⟩) 6 6] w fun e w'=>
   e=QSH p (match QAM s.data.toList p k n with|none=> .inl (k,n)|some er=> .inr er)∧Below w.heap.size w w':=by
 rw[Bool.or_eq_false_iff]at hc;obtain⟨ha,hc⟩:=hc;have h0:=h.text;have h1:=h.pos;have hlt:=h.lt;have hsz:=h.size;have p0:(0:Int)≤p:=by omega
 have p1:(p:Int)<s.size:=by omega
 have hlong:=fun w h hR=>QKw cb tb rb s p lk la ll w h hR
 rw[hkn]at hlong;have hle:=QGS ((s.data.toList.drop p).take 100) (QDM lk ((s.data.toList.drop la).take ll));rw[hkn,List.length_take,List.length_drop,QAE]at hle;have hk6:k≤6:=hle.1;have hn:p+n≤s.size:=by have:=hle.2;simp only at this;omega
 have hcheck:=fun w h hE=>QNP cb tb s p lk la ll k n w h hE hk6 hn
 have hbb:=QFx s.data.toList p;have hbs:=QDt s p hp;have hbl:=QE9 (QBc s.data.toList p) hbb (s[p].toNat:Int) (by rw[hbs]);have hbi:¬((0:Int)≤Lib.indexByte [32,9,13,10] (QBc s.data.toList p).toUInt8):=by rw[QH1 _ hbb,hb];simp
 generalize Lib.indexByte [32,9,13,10] (QBc s.data.toList p).toUInt8=r at*;generalize QAM s.data.toList p k n=R at*;have HA:=hd0 ha;have HB:=hd0 hc;have HBL:=hd0 hbl;have HBS:=hd0 hbs;have HL:=hd0 hlong;have HK:=hd0 hcheck;have HC:=hd0 h;have HR:=hd0 hR;have HE:=hd0 hE;clear ha hc hbl hbs hlong hcheck h hR hE hb hkn hle hbb;have HBW:∀(o o':Obj) (k:Nat),Below w.heap.size w (((w.alloc o).alloc o').drewN k):=fun o o' k=>QAB (((Below.refl _ _).alloc (Nat.le_refl _) _).alloc (by simp) _) k
 have HCV:=hd0 HBW;clear HBW;go_enter func249,ntmps249
 go_wp2_with fail
 refine(QAq cb s ⟨#[47,47]⟩ p false (by exact HA.out) _ (HC.out.below (HCV.out _ _ 0))).mono ?_;rintro e w' ⟨rfl,m0,rfl⟩
 go_wp2_with fail
 refine(QAq cb s ⟨#[47,42]⟩ p false (by exact HB.out) _ (HC.out.below (HCV.out _ _ _))).mono ?_;rintro e w' ⟨rfl,m1,rfl⟩;go_wp2
 go_quiet ((refine(HBL.out _).mono ?_;rintro e w' ⟨rfl,rfl⟩;exact⟨rfl,_,rfl⟩))
 go_wp2_with fail
 refine(HL.out _ (HC.out.below (HCV.out _ _ _)) (HR.out.below (HCV.out _ _ _))).mono ?_;rintro e w' ⟨rfl,hX⟩;have HX:=hd0 (QAF (HCV.out _ _ _) hX);have z0:w'.frozen? ⟨w.heap.size,0,none⟩=false:=(hX.frozen (p:=⟨w.heap.size,0,none⟩) (by simp;omega)).trans (by simp[go_sem]);have z3:w'.frozen? ⟨w.heap.size,1,none⟩=false:=(hX.frozen (p:=⟨w.heap.size,1,none⟩) (by simp;omega)).trans (by simp[go_sem]);have z4:w'.frozen? ⟨w.heap.size,2,none⟩=false:=(hX.frozen (p:=⟨w.heap.size,2,none⟩) (by simp;omega)).trans (by simp[go_sem]);have z1:w'.frozen? ⟨w.heap.size+1,0,none⟩=false:=(hX.frozen (p:=⟨w.heap.size+1,0,none⟩) (by simp)).trans (by simp[go_sem]);have z2:w'.frozen? ⟨w.heap.size+1,2,none⟩=false:=(hX.frozen (p:=⟨w.heap.size+1,2,none⟩) (by simp)).trans (by simp[go_sem]);have q0:w'.cell? ⟨w.heap.size,0,none⟩=some (.int .i64 0):=QAA hX (by simp[go_sem]);have q1:w'.cell? ⟨w.heap.size,1,none⟩=some (.int .i64 0):=QAA hX (by simp[go_sem]);have q2:w'.cell? ⟨w.heap.size,2,none⟩=some (.int .i64 0):=QAA hX (by simp[go_sem]);have r0:w'.cell? ⟨w.heap.size+1,0,none⟩=some (.int .i64 0):=QAA hX (by simp[go_sem]);have r1:w'.cell? ⟨w.heap.size+1,1,none⟩=some (.int .i64 p):=QAA hX (by simp[go_sem]);have r2:w'.cell? ⟨w.heap.size+1,2,none⟩=some (.int .i64 0):=QAA hX (by simp[go_sem]);clear hX;have hY:Below w.heap.size w ((w'.setCell ⟨w.heap.size+1,0,none⟩ (.int .i64 k)).setCell ⟨w.heap.size+1,2,none⟩ (.int .i64 n)):=Below.setCell (Below.setCell HX.out (by simp) _) (by simp) _;have HY:=hd0 hY;clear hY
 cases R with
 |none=>
  have hk2:∀w,CutAt w cb tb s p lk la ll→Env w→Calls prog 285 #[.pointer (some ⟨cb,0,none⟩),.int .i64 k,.int .i64 n] w fun e w'=>e= .returned (.tuple #[])∧Below w.heap.size w w':=HK.out
  have HK2:=hd0 hk2;clear hk2
  go_wp2_with fail
  refine(HK2.out _ (HC.out.below HY.out) (HE.out.below HY.out)).mono ?_;rintro e w'' ⟨rfl,hZ⟩;have HZ:=hd0 (QAF HY.out hZ);have y0:w''.frozen? ⟨w.heap.size,0,none⟩=false:=(hZ.frozen (p:=⟨w.heap.size,0,none⟩) (by simp[World.block_lt_of_cell? _ _ q0])).trans (by simp[go_sem,z0]);have y1:w''.frozen? ⟨w.heap.size,1,none⟩=false:=(hZ.frozen (p:=⟨w.heap.size,1,none⟩) (by simp[World.block_lt_of_cell? _ _ q1])).trans (by simp[go_sem,z3]);have y2:w''.frozen? ⟨w.heap.size,2,none⟩=false:=(hZ.frozen (p:=⟨w.heap.size,2,none⟩) (by simp[World.block_lt_of_cell? _ _ q2])).trans (by simp[go_sem,z4]);have q0:w''.cell? ⟨w.heap.size,0,none⟩=some (.int .i64 0):=QAA hZ (by simp[go_sem,q0]);have q1:w''.cell? ⟨w.heap.size,1,none⟩=some (.int .i64 0):=QAA hZ (by simp[go_sem,q1]);have q2:w''.cell? ⟨w.heap.size,2,none⟩=some (.int .i64 0):=QAA hZ (by simp[go_sem,q2]);have r0:w''.cell? ⟨w.heap.size+1,0,none⟩=some (.int .i64 k):=QAA hZ (by simp[go_sem,r0]);have r1:w''.cell? ⟨w.heap.size+1,1,none⟩=some (.int .i64 p):=QAA hZ (by simp[go_sem,r1]);have r2:w''.cell? ⟨w.heap.size+1,2,none⟩=some (.int .i64 n):=QAA hZ (by simp[go_sem,r2]);clear hZ;go_wp2;refine bodyPost_ret (v:= .agg #[.int .i64 k,.int .i64 p,.int .i64 n]) (by simp[results,results249,go_sem, *]) rfl ⟨rfl,?_⟩;have:=HZ.out
  repeat (first|with_reducible refine QAB ?_ _|with_reducible refine Below.alloc ?_ (by simp) _|with_reducible refine Below.setCell ?_ (by simp) _|with_reducible exact Below.refl _ _)
  exact this
 |some er=>
  have hk2:∀w,CutAt w cb tb s p lk la ll→Env w→Calls prog 285 #[.pointer (some ⟨cb,0,none⟩),.int .i64 k,.int .i64 n] w fun e w'=>e= .panicked [{v:=QCk p er,recovered:=false}]∧Below w.heap.size w w':=HK.out
  have HK2:=hd0 hk2;clear hk2
  go_wp2_with fail
  refine(HK2.out _ (HC.out.below HY.out) (HE.out.below HY.out)).mono ?_;rintro e w'' ⟨rfl,hZ⟩;exact⟨rfl,rfl,QAF HY.out hZ⟩
structure PieceAt(w:World)(b p kind n:Nat):Prop where
 q0:w.cell? ⟨b,0,none⟩=some (.int .i64 0)
 q1:w.cell? ⟨b,1,none⟩=some (.int .i64 0)
 q2:w.cell? ⟨b,2,none⟩=some (.int .i64 0)
 r0:w.cell? ⟨b+1,0,none⟩=some (.int .i64 kind)
 r1:w.cell? ⟨b+1,1,none⟩=some (.int .i64 p)
 r2:w.cell? ⟨b+1,2,none⟩=some (.int .i64 n)
 y0:w.frozen? ⟨b,0,none⟩=false
 y1:w.frozen? ⟨b,1,none⟩=false
 y2:w.frozen? ⟨b,2,none⟩=false
 z2:w.frozen? ⟨b+1,2,none⟩=false
def lenOf(w:World)(b:Nat):Nat:=match w.cell? ⟨b+1,2,none⟩ with|some (.int _ i)=>i.toNat|_=>0
theorem PieceAt.lenOf {w:World}{b p kind n:Nat}(h:PieceAt w b p kind n):lenOf w b=n:=by unfold Proofs.YtjnclkakbopnjaaGreatDoor.lenOf;rw[h.r2];simp
theorem QJ4(f:Nat→Bool)(c:UInt8)(r:List UInt8):QDv f (c::r)=if f c.toNat then 1+QDv f r else 0:=by
 unfold QDv;rw[List.takeWhile_cons];split <;> simp[Nat.add_comm]
theorem QP6(f:Nat→Bool):QDv f []=0:=rfl
theorem QMN(cb tb rb:Nat)(s:ByteArray)(p lk la ll:Nat)(w:World)(h:CutAt w cb tb s p lk la ll)(hp:p<s.size)
  (hc:(Lib.hasPrefix (s.data.toList.drop p) [47,47]||Lib.hasPrefix (s.data.toList.drop p) [47,42])=false)
  (hb:QA7 (QBc s.data.toList p)=true):
  Calls prog 249 #[.pointer (some ⟨cb,0,none⟩),.slice (some ⟨rb,0,none⟩) 6 6] w fun e w'=>
   e=QSH p (.inl (7,QDv QA7 (s.data.toList.drop p)))∧Below w.heap.size w w':=by
 rw[Bool.or_eq_false_iff]at hc;obtain⟨ha,hc⟩:=hc;have h0:=h.text;have h1:=h.pos;have hlt:=h.lt;have hsz:=h.size;have p0:(0:Int)≤p:=by omega
 have p1:(p:Int)<s.size:=by omega
 have hbb:=QFx s.data.toList p;have hbs:=QDt s p hp;have hbl:=QE9 (QBc s.data.toList p) hbb (s[p].toNat:Int) (by rw[hbs]);have hbi:((0:Int)≤Lib.indexByte [32,9,13,10] (QBc s.data.toList p).toUInt8):=by rw[QH1 _ hbb,hb]
 generalize Lib.indexByte [32,9,13,10] (QBc s.data.toList p).toUInt8=r at*;have hrun:∃N,QDv QA7 (s.data.toList.drop p)=N:=⟨_,rfl⟩;obtain⟨N,hN⟩:=hrun;rw[hN];have HN:=hd0 hN;have HA:=hd0 ha;have HB:=hd0 hc;have HBL:=hd0 hbl;have HBS:=hd0 hbs;have HC:=hd0 h;clear ha hc hbl hbs h hb hbb hN;have HBW:∀(o o':Obj) (k:Nat),Below w.heap.size w (((w.alloc o).alloc o').drewN k):=fun o o' k=>QAB (((Below.refl _ _).alloc (Nat.le_refl _) _).alloc (by simp) _) k
 have HCV:=hd0 HBW;clear HBW;go_enter func249,ntmps249
 go_wp2_with fail
 refine(QAq cb s ⟨#[47,47]⟩ p false (by exact HA.out) _ (HC.out.below (HCV.out _ _ 0))).mono ?_;rintro e w' ⟨rfl,m0,rfl⟩
 go_wp2_with fail
 refine(QAq cb s ⟨#[47,42]⟩ p false (by exact HB.out) _ (HC.out.below (HCV.out _ _ _))).mono ?_;rintro e w' ⟨rfl,m1,rfl⟩;go_wp2
 go_quiet ((refine(HBL.out _).mono ?_;rintro e w' ⟨rfl,rfl⟩;exact⟨rfl,_,rfl⟩))
 go_wp2_with fail
 go_loopw [90] (fun _ wr=>∃k:Nat,p+k≤s.size∧Hid (k+QDv QA7 (s.data.toList.drop (p+k))=N)∧Hid (PieceAt wr w.heap.size p 7 k)∧Hid (Below w.heap.size w wr)) (fun _ wr=>s.size - lenOf wr w.heap.size)
 case atStart=>
  refine⟨0,by omega,hd0 (by rw[Nat.zero_add];exact HN.out),hd0 (by constructor <;> simp[go_sem]),hd0 ?_⟩
  repeat (first|with_reducible refine QAB ?_ _|with_reducible refine Below.alloc ?_ (by simp) _|with_reducible refine Below.setCell ?_ (by simp) _|with_reducible exact Below.refl _ _)
 case round=>
  obtain⟨k,hk,HK,HP,HW⟩:=hrel;have r2:=HP.out.r2;have h0:=(HC.out.below HW.out).text;have h1:=(HC.out.below HW.out).pos;have z2:=HP.out.z2;have r0:=HP.out.r0;have r1:=HP.out.r1;have q0:=HP.out.q0;have q1:=HP.out.q1;have q2:=HP.out.q2;have y0:=HP.out.y0;have y1:=HP.out.y1;have y2:=HP.out.y2
  by_cases hl:p+k<s.size
  ·
   have d1:decide ((k:Int)<s.size - p)=true:=by simp;omega
   have d2:(0:Int)≤(p:Int)+k:=by omega
   have d3:(p:Int)+k<s.size:=by omega
   have hbb:=QFx s.data.toList (p+k);have hbs:=QDt s (p+k) hl;have hbl:=QE9 (QBc s.data.toList (p+k)) hbb (s[p+k].toNat:Int) (by rw[hbs]);have hbi:=QH1 (QBc s.data.toList (p+k)) hbb;generalize Lib.indexByte [32,9,13,10] (QBc s.data.toList (p+k)).toUInt8=r' at*;have HK2:=HK.out;rw[QBC s (p+k) hl,QJ4,←hbs]at HK2;have HBL2:=hd0 hbl
   cases hx:QA7 (QBc s.data.toList (p+k))
   ·
    have e1:decide ((0:Int)≤r')=false:=by rw[decide_eq_false_iff_not,hbi,hx];simp
    rw[hx]at HK2;have HK3:=hd0 HK2;clear hx hbi HK2 hbs hbl hbb HBL;go_wp2
    go_quiet ((refine(HBL2.out _).mono ?_;rintro e w' ⟨rfl,rfl⟩;exact⟨rfl,_,rfl⟩))
    have hkn:=HK3.out;rw[if_neg (by simp),Nat.add_zero]at hkn;subst hkn;go_wp2;refine bodyPost_ret (v:= .agg #[.int .i64 7,.int .i64 p,.int .i64 k]) (by simp[results,results249,go_sem, *]) rfl ⟨rfl,?_⟩
    repeat (first|with_reducible refine QAB ?_ _|with_reducible refine Below.alloc ?_ (by simp) _|with_reducible refine Below.setCell ?_ (by simp) _|with_reducible exact Below.refl _ _)
    exact HW.out
   ·
    have e1:decide ((0:Int)≤r')=true:=by rw[decide_eq_true_iff,hbi,hx]
    rw[hx]at HK2;have HK3:=hd0 HK2;clear hx hbi HK2 hbs hbl hbb HBL;go_wp2
    go_quiet ((refine(HBL2.out _).mono ?_;rintro e w' ⟨rfl,rfl⟩;exact⟨rfl,_,rfl⟩))
    go_wp2_with fail
    have hP2:PieceAt ((wr.drewN nq).setCell ⟨w.heap.size+1,2,none⟩ (.int .i64 ((k:Int)+1))) w.heap.size p 7 (k+1):=by
     constructor <;> simp[go_sem, *]
    refine⟨⟨k+1,by omega,hd0 ?_,hd0 hP2,hd0 ?_⟩,?_⟩
    ·
     have:=HK3.out;rw[if_pos trivial]at this;rw[←Nat.add_assoc p k 1];omega
    ·
     (repeat (first|with_reducible refine QAB ?_ _|with_reducible refine Below.alloc ?_ (by simp) _|with_reducible refine Below.setCell ?_ (by simp) _|with_reducible exact Below.refl _ _));exact HW.out
    ·
     rw[hP2.lenOf,HP.out.lenOf];omega
  ·
   have d1:decide ((k:Int)<s.size - p)=false:=by simp;omega
   have hkn:=HK.out;rw[List.drop_of_length_le (by rw[QAE];omega),QP6,Nat.add_zero]at hkn;subst hkn;go_wp2
   go_quiet (fail)
   go_wp2;refine bodyPost_ret (v:= .agg #[.int .i64 7,.int .i64 p,.int .i64 k]) (by simp[results,results249,go_sem, *]) rfl ⟨rfl,?_⟩
   repeat (first|with_reducible refine QAB ?_ _|with_reducible refine Below.alloc ?_ (by simp) _|with_reducible refine Below.setCell ?_ (by simp) _|with_reducible exact Below.refl _ _)
   exact HW.out
theorem QPz(cb tb rb:Nat)(s:ByteArray)(p lk la ll:Nat)(w:World)(h:CutAt w cb tb s p lk la ll)(hE:Env w)(hR:RulesAt w rb)(hp:p<s.size):
  Calls prog 249 #[.pointer (some ⟨cb,0,none⟩),.slice (some ⟨rb,0,none⟩) 6 6] w fun e w'=>
   e=QSH p (QDL s.data.toList p (QDM lk ((s.data.toList.drop la).take ll)))∧Below w.heap.size w w':=by
 unfold QDL
 by_cases hc:(Lib.hasPrefix (s.data.toList.drop p) [47,47]||Lib.hasPrefix (s.data.toList.drop p) [47,42])=true
 ·
  rw[if_pos hc];exact QJg cb tb rb s p lk la ll w h hp hc
 ·
  rw[if_neg hc];have hc:=Bool.eq_false_iff.2 hc
  by_cases hb:QA7 (QBc s.data.toList p)=true
  ·
   rw[if_pos hb];exact QMN cb tb rb s p lk la ll w h hp hc hb
  ·
   rw[if_neg hb];have:=QMO cb tb rb s p lk la ll w h hE hR hp hc (Bool.eq_false_iff.2 hb) _ _ rfl;exact this
theorem QEZ:∀(l:List UInt8) (i:Nat) (o:Int) (n:Nat),cL l i o= .inl n→i+2≤n∧n≤i+l.length
 | [],_,_,_,h=>by simp[cL]at h
 | [_],_,_,_,h=>by simp[cL]at h
 |a::b::r,i,o,n,h=>by
  rw[cL]at h;simp only[List.length_cons]
  split at h
  ·
   split at h
   ·
    cases h
   ·
    have:=QEZ r _ _ _ h;omega
  ·
   split at h
   ·
    split at h
    ·
     injection h with h;omega
    ·
     have:=QEZ r _ _ _ h;omega
   ·
    have:=QEZ (b::r) _ _ _ h;simp only[List.length_cons]at this;omega
theorem QGB {l:List UInt8}{n:Nat}(h:(Lib.hasPrefix l [47,47]||Lib.hasPrefix l [47,42])=true)(hn:QBG l= .inl n):0<n∧n≤l.length:=by
 unfold QBG at hn
 split at hn
 ·
  rename_i hp;obtain⟨r,rfl⟩:=QCS hp
  split at hn
  ·
   rename_i hi;injection hn with hn
   have h1:=QB5 (47::47::r) 10
   have h2:Lib.indexByte (47::47::r) 10≠0:=by
    intro h0;rw[Lib.indexByte,if_neg (by decide)]at h0
    split at h0
    ·
     omega
    ·
     have:=QB5 (47::r) 10;rename_i hx;simp only[beq_iff_eq]at hx;omega
   omega
  ·
   injection hn with hn
   subst hn;simp
 ·
  have:=QEZ _ _ _ _ hn;omega
theorem QJb {t:List UInt8}{op:Bool}(h:(QAg t op).1≠0):0<(QAg t op).2:=by
 have key:∀(nm:Bool) (rl:List (Nat × Nat)) (a:Nat × Nat),(a.1≠0→0<a.2)→(rl.foldl (QAL nm) a).1≠0→0<(rl.foldl (QAL nm) a).2:=by
  intro nm rl
  induction rl with
  |nil=>intro a ha;exact ha
  |cons r rs ih=>
   intro a ha;rw[List.foldl_cons];refine ih _ ?_;unfold QAL
   split
   ·
    exact ha
   ·
    split
    ·
     intro _;omega
    ·
     exact ha
 exact key _ _ (0,0) (fun h=>absurd rfl h) h
theorem QGv {l:List UInt8}{p:Nat}(hp:p<l.length)(h:QA7 (QBc l p)=true):0<QDv QA7 (l.drop p):=by
 unfold QBc at h
 cases hd:l.drop p with
 |nil=>
  have:=congrArg List.length hd;rw[List.length_drop,List.length_nil]at this;omega
 |cons b r=>
  rw[hd]at h;rw[QJ4,if_pos h];omega
theorem QFb {l:List UInt8}{p:Nat}{op:Bool}{k n:Nat}(hp:p<l.length)(h:QDL l p op= .inl (k,n)):0<n∧p+n≤l.length∧k≤8:=by
 unfold QDL at h
 split at h
 ·
  rename_i hc
  cases hm:QBG (l.drop p)with
  |inl m=>
   rw[hm]at h;injection h with h
   injection h with h1 h2
   have:=QGB hc hm;rw[List.length_drop]at this;omega
  |inr er=>rw[hm]at h;cases h
 ·
  split at h
  ·
   rename_i hb;injection h with h
   injection h with h1 h2
   have h3:=QGv hp hb;have h4:=QEO QA7 (l.drop p);rw[List.length_drop]at h4;omega
  ·
   split at h
   ·
    rename_i hk;injection h with h
    have hle:=QGS ((l.drop p).take 100) op;have hpos:=QJb (t:=(l.drop p).take 100) (op:=op);rw[h]at hle hpos hk;simp only[List.length_take,List.length_drop]at hle hpos hk
    have hk0:k≠0:=by
     rintro rfl;unfold QAM at hk;simp at hk
     split at hk <;> cases hk
    have:=hpos hk0;omega
   ·
    cases h
structure Pc where
 kind:Nat
 at_:Nat
 len:Nat
structure Cu where
 p:Nat
 lk:Nat
 la:Nat
 ll:Nat
 n:Nat
def QDO(l:List UInt8)(c:Cu):(Pc × Cu) ⊕ Nat:=
 match QDL l c.p (QDM c.lk ((l.drop c.la).take c.ll))with
 | .inr er=> .inr er
 | .inl (k,n)=>if k≤6 then(if 6000<c.n+1 then .inr 2 else .inl (⟨k,c.p,n⟩,⟨c.p+n,k,c.p,n,c.n+1⟩)) else .inl (⟨k,c.p,n⟩,⟨c.p+n,c.lk,c.la,c.ll,c.n⟩)
def QGN(l:List UInt8)(c:Cu):Prop:=c.p≤l.length∧c.la+c.ll≤l.length∧c.n≤c.p
theorem QFP {l:List UInt8}{c c':Cu}{x:Pc}(hg:QGN l c)(hp:c.p<l.length)(h:QDO l c= .inl (x,c')):
  QGN l c'∧c.p<c'.p∧x.at_=c.p∧c'.p=c.p+x.len∧x.kind≤8:=by
 unfold QDO at h
 split at h
 ·
  cases h
 ·
  rename_i k n hn;have hb:=QFb hp hn;unfold QGN at*
  split at h
  ·
   split at h
   ·
    cases h
   ·
    injection h with h
    injection h with h1 h2
    subst h1 h2;simp only;refine⟨⟨?_,?_,?_⟩,?_,?_,?_,?_⟩ <;> first|omega|trivial
  ·
   injection h with h
   injection h with h1 h2
   subst h1 h2;simp only;refine⟨⟨?_,?_,?_⟩,?_,?_,?_,?_⟩ <;> first|omega|trivial
def QGE(l:List UInt8):Nat→Cu→List Pc × Option (Nat × Nat)
 |0,_=>([],none)
 |f+1,c=>
  if c.p<l.length then
   match QDO l c with
   | .inr er=>([],some (c.p,er))
   | .inl (x,c')=>(x::(QGE l f c').1,(QGE l f c').2)
  else([],none)
def QAV(l:List UInt8):List Pc × Option (Nat × Nat):=QGE l (l.length+1) ⟨0,0,0,0,0⟩
theorem QSl(t:ByteArray)(vb c:Nat)(hc:c<256)(w:World)(h:w.cell? ⟨vb,0,none⟩=some (.int .i64 c))(r:Int)(hr:Lib.indexByte t.data.toList c.toUInt8=r):
  Calls prog 245 #[.string t,.pointer (some ⟨vb,0,none⟩)] w fun e w'=>e= .returned (.bool (decide (0≤r)))∧w'=w:=by
 have hi:=QH4 t c r hr;have HI:=hd0 hi;clear hi hr;have hm:((c:Int) % 256)=c:=by omega
 have c0:(c:Int)<256:=by omega
 go_enter func245,ntmps245
 go_wp2_with fail
 refine(HI.out (c:Int) rfl _).mono ?_;rintro e w' ⟨rfl,rfl⟩;go_wp2;go_ret;exact⟨rfl,rfl⟩
structure TabTo(w:World)(tb n j:Nat):Prop where
 at_:∀c x,c<6→x<256→w.cell? ⟨tb,c*256+x,none⟩=some (.bool (if x<n∨(x=n∧c<j) then cls c x else false))
 free:∀o,w.frozen? ⟨tb,o,none⟩=false
theorem TabTo.drewN {w:World}{tb n j:Nat}(h:TabTo w tb n j)(m:Nat):TabTo (w.drewN m) tb n j:=
 ⟨fun c x hc hx=>by rw[World.cell?_drewN];exact h.at_ c x hc hx,fun o=>by have:=h.free o;simpa[go_sem]using this⟩
theorem TabTo.lt {w:World}{tb n j:Nat}(h:TabTo w tb n j):tb<w.heap.size:=World.block_lt_of_cell? w _ (h.at_ 0 0 (by omega) (by omega))
theorem TabTo.alloc {w:World}{tb n j:Nat}(h:TabTo w tb n j)(o:Obj):TabTo (w.alloc o) tb n j:=
 ⟨fun c x hc hx=>QAA ((Below.refl _ _).alloc (Nat.le_refl _) _) (h.at_ c x hc hx),fun a=>(((Below.refl w.heap.size w).alloc (Nat.le_refl _) o).frozen (p:=⟨tb,a,none⟩) h.lt).trans (h.free a)⟩
theorem TabTo.set {w:World}{tb n j a:Nat}{b:Bool}(h:TabTo w tb n j)(hn:n<256)(ha:a=j*256+n)(hj:j<6)(hb:cls j n=b):TabTo (w.setCell ⟨tb,a,none⟩ (.bool b)) tb n (j+1):=by
 subst ha;refine⟨fun c x hc hx=>?_,fun o=>by have:=h.free o;simpa[go_sem]using this⟩
 by_cases he:c*256+x=j*256+n
 ·
  have e1:c=j:=by omega
  have e2:x=n:=by omega
  subst e1 e2;rw[World.cell?_setCell_same' _ _ _ (by rw[h.at_ c x hc hx];rfl),if_pos (Or.inr ⟨rfl,by omega⟩),hb]
 ·
  have hne:(⟨tb,j*256+n,none⟩:Addr)≠⟨tb,c*256+x,none⟩:=by
   intro e;injection e with e1 e2
   omega
  rw[World.cell?_setCell_other _ _ _ _ hne,h.at_ c x hc hx]
  congr 3
  apply propext
  constructor
  ·
   rintro(h|⟨h1,h2⟩)
   ·
    exact Or.inl h
   ·
    exact Or.inr ⟨h1,by omega⟩
  ·
   rintro(h|⟨h1,h2⟩)
   ·
    exact Or.inl h
   ·
    exact Or.inr ⟨h1,by omega⟩
theorem TabTo.next {w:World}{tb n:Nat}(h:TabTo w tb n 6):TabTo w tb (n+1) 0:=
 ⟨fun c x hc hx=>by
  rw[h.at_ c x hc hx]
  congr 3
  apply propext
  constructor
  ·
   rintro(h|⟨h1,h2⟩) <;> exact Or.inl (by omega)
  ·
   rintro(h|⟨h1,h2⟩)
   ·
    by_cases hx:x=n
    ·
     exact Or.inr ⟨hx,hc⟩
    ·
     exact Or.inl (by omega)
   ·
    omega,h.free⟩
theorem QSF:Tryz.zeroCells293=Array.replicate 1536 (.bool false):=by kernel_rfl
theorem QUV(c:Nat)(hc:c<256):decide ((0:Int)≤Lib.indexByte [33,36,38,42,60,62,124,94,37,95,126,63,43,45,47,61] c.toUInt8)=QDR QHq c:=by
 have key:∀y:Fin 256,(decide ((0:Int)≤Lib.indexByte [33,36,38,42,60,62,124,94,37,95,126,63,43,45,47,61] y.val.toUInt8))=QDR QHq y.val:=by decide+kernel
 exact key ⟨c,hc⟩
theorem QTz(c:Nat)(hc:c<256):decide ((0:Int)≤Lib.indexByte [43,45,47,61] c.toUInt8)=QDR [43,45,47,61] c:=by
 have key:∀y:Fin 256,(decide ((0:Int)≤Lib.indexByte [43,45,47,61] y.val.toUInt8))=QDR [43,45,47,61] y.val:=by decide+kernel
 exact key ⟨c,hc⟩
theorem QTr(c:Nat)(hc:c<256):decide ((0:Int)≤Lib.indexByte [60,36,37,42,95] c.toUInt8)=QDR [60,36,37,42,95] c:=by
 have key:∀y:Fin 256,(decide ((0:Int)≤Lib.indexByte [60,36,37,42,95] y.val.toUInt8))=QDR [60,36,37,42,95] y.val:=by decide+kernel
 exact key ⟨c,hc⟩
theorem QRS(t:ByteArray)(c:Nat)(hc:c<256)(b:Bool)(hb:decide ((0:Int)≤Lib.indexByte t.data.toList c.toUInt8)=b)(vb:Nat)(w:World)(h:w.cell? ⟨vb,0,none⟩=some (.int .i64 c)):
  Calls prog 245 #[.string t,.pointer (some ⟨vb,0,none⟩)] w fun e w'=>e= .returned (.bool b)∧w'=w:=by
 rw[←hb];exact QSl t vb c hc w h _ rfl
theorem QBK {P:Program}{id:Nat}{Q:Exit→Act→World→Prop}{a:Act}{w:World}{l:List Oper}(n:Nat)(hm:P.follows .mixedOrders=true)(hB:Region.lexTailB .any l.toArray n=true)
  (h:wpStill P l.toArray w.drew (fun a'=>wpList P l.toArray Q (l.drop n) a' w.drew) (l.take n) a):(Code.region id l.toArray true).wp P Q a w:=wp_region_still_tail n hm hB h
structure Rd(w wx:World)(k j:Nat)(s1 s2 s3 s8:Value):Prop where
 e1:s1= .pointer (some ⟨w.heap.size,0,none⟩)
 e2:∃vb,s2= .pointer (some ⟨vb,0,none⟩)∧s3= .func (.func 245) #[] #[.pointer (some ⟨vb,0,none⟩)]∧wx.cell? ⟨vb,0,none⟩=some (.int .i64 k)∧w.heap.size<vb
 e8:s8= .int .i64 k
 tab:TabTo wx w.heap.size k j
 low:Below w.heap.size w wx
theorem Rd.put {w wx:World}{k j a:Nat}{s1 s2 s3 s8:Value}{b:Bool}(h:Rd w wx k j s1 s2 s3 s8)(hn:k<256)(ha:a=j*256+k)(hj:j<6)(hb:cls j k=b):
  Rd w (wx.setCell ⟨w.heap.size,a,none⟩ (.bool b)) k (j+1) s1 s2 s3 s8:=by
 obtain⟨h1,⟨vb,h2,h3,h4,h5⟩,h6,h7,h8⟩:=h;refine⟨h1,⟨vb,h2,h3,?_,h5⟩,h6,h7.set hn ha hj hb,h8.setCell (p:=⟨w.heap.size,a,none⟩) (Nat.le_refl _) _⟩;rw[World.cell?_setCell_other _ _ _ _ (by intro e;injection e with e1 e2;omega),h4]
theorem Rd.drewN {w wx:World}{k j:Nat}{s1 s2 s3 s8:Value}(h:Rd w wx k j s1 s2 s3 s8)(n:Nat):Rd w (wx.drewN n) k j s1 s2 s3 s8:=by
 obtain⟨h1,⟨vb,h2,h3,h4,h5⟩,h6,h7,h8⟩:=h;exact⟨h1,⟨vb,h2,h3,by rw[World.cell?_drewN];exact h4,h5⟩,h6,h7.drewN n,QAB h8 n⟩
theorem Rd.drew {w wx:World}{k j:Nat}{s1 s2 s3 s8:Value}(h:Rd w wx k j s1 s2 s3 s8):Rd w wx.drew k j s1 s2 s3 s8:=h.drewN 1
theorem QH7(k:Nat):cls 2 k=(QBN k||QCp k||QDR QHq k):=rfl
theorem QNS(k:Nat):cls 3 k=((QBN k||QCp k||QDR QHq k)&&!QDR [43,45,47,61] k):=rfl
theorem QKT(k:Nat):cls 5 k=(QBN k||QCp k||k==45):=rfl
theorem QJf(w:World):
  Calls prog 199 #[] w fun e w'=>e= .returned (.pointer (some ⟨w.heap.size,0,none⟩))∧Below w.heap.size w w'∧IsTab w' w.heap.size:=by
 go_enter func199,ntmps199
 go_wp2_with fail
 go_loopw [8] (fun v wr=>∃k:Nat,k≤256∧v= .int .i64 k∧Hid (TabTo wr w.heap.size k 0)∧Hid (Below w.heap.size w wr)) (fun v _=>256 - (intOf v).toNat)
 case atStart=>
  refine⟨0,by omega,rfl,hd0 ⟨fun c x hc hx=>?_,fun o=>by simp[go_sem]⟩,hd0 ((Below.refl _ _).alloc (Nat.le_refl _) _)⟩;rw[World.cell?_alloc_new,QSF,if_neg (by omega),Array.getElem?_replicate,if_pos (by omega)]
 case round=>
  obtain⟨k,hk,rfl,HT,HB⟩:=hrel
  by_cases hlt:k<256
  ·
   have hlt':(k:Int)<256:=by omega
   have k0:(0:Int)≤k:=by omega
   have hlt2:=HT.out.lt;go_upto_region 7 with fail
   go_cut [1,2,3,4,5,8] (fun s1 s2 s3 s4 s5 s8 wx=>Hid (Rd w wx k 0 s1 s2 s3 s8)∧s4= .bool (QBN k)∧s5= .bool (QCp k))
   case first=>
    have hcl:∃b1 b2 b3 b4:Bool,decide ((97:Int)≤k)=b1∧decide ((k:Int)≤122)=b2∧decide ((48:Int)≤k)=b3∧decide ((k:Int)≤57)=b4∧QBN k=(b1&&b2)∧QCp k=(b3&&b4):=by
     refine⟨_,_,_,_,rfl,rfl,rfl,rfl,?_,?_⟩
     ·
      unfold QBN;congr 1 <;> (apply decide_eq_decide.2;omega)
     ·
      unfold QCp;congr 1 <;> (apply decide_eq_decide.2;omega)
    obtain⟨b1,b2,b3,b4,g1,g2,g3,g4,gL,gD⟩:=hcl;have G1:=hd0 gL;have G2:=hd0 gD;clear gL gD
    cases b1 <;> cases b2 <;> cases b3 <;> cases b4
    all_goals first|(exfalso;clear HT HB;simp at g1 g2 g3 g4;omega)|skip
    all_goals
     go_quiet (fail)
     go_wp2_with fail
     go_meet;exact⟨hd0 ⟨rfl,⟨_,rfl,rfl,by simp[go_sem],by omega⟩,rfl,(HT.out.alloc _).drewN _,QAB ((HB.out.alloc (by omega) _)) _⟩,by rw[G1.out];rfl,by rw[G2.out];rfl⟩
   case rest=>
    obtain⟨HR,rfl,rfl⟩:=hcut;obtain⟨rfl,⟨vb,rfl,rfl,hcell,hvb⟩,rfl,hT,hB⟩:=HR.out;clear HR HT HB;have HT:=hd0 hT;have HB:=hd0 hB;have q0:=hT.at_ 0 k (by omega) (by omega);have q1:=hT.at_ 1 k (by omega) (by omega);simp only[Nat.zero_mul,Nat.zero_add,Nat.reduceMul]at q0 q1;have hfr:=hT.free;clear hT hB;generalize hbl:QBN k=bl at*;generalize hbd:QCp k=bd at*;have HL:=hd0 hbl;have HD:=hd0 hbd;clear hbl hbd;go_upto_region 8 with fail
    go_cut [1,2,3,4,5,8] (fun s1 s2 s3 s4 s5 s8 wx=>Hid (Rd w wx k 2 s1 s2 s3 s8)∧s4= .bool bl∧s5= .bool bd)
    case first=>
     go_region
     go_wp2_with fail
     go_meet;have HR0:Rd w wc k 0 (.pointer (some ⟨w.heap.size,0,none⟩)) (.pointer (some ⟨vb,0,none⟩)) (.func (.func 245) #[] #[.pointer (some ⟨vb,0,none⟩)]) (.int .i64 k):=⟨rfl,⟨vb,rfl,rfl,hcell,hvb⟩,rfl,HT.out,HB.out⟩;exact⟨hd0 (((HR0.put hlt (by omega) (by omega) HL.out).put hlt (by omega) (by omega) HD.out).drew),rfl,rfl⟩
    case rest=>
     clear HT HB hcell hvb q0 q1 hfr;clear vb;have HWS:=QUV k hlt;have HFS:=QTz k hlt;have HBS:=QTr k hlt;generalize hbw:QDR QHq k=bw at*;generalize hbf:QDR [43,45,47,61] k=bf at*;generalize hbb:QDR [60,36,37,42,95] k=bb at*;have KW:=hd0 hbw;have KF:=hd0 hbf;have KB:=hd0 hbb;clear hbw hbf hbb;have IW:=hd0 (QRS ⟨#[33,36,38,42,60,62,124,94,37,95,126,63,43,45,47,61]⟩ k hlt _ HWS);have IF:=hd0 (QRS ⟨#[43,45,47,61]⟩ k hlt _ HFS);have IB:=hd0 (QRS ⟨#[60,36,37,42,95]⟩ k hlt _ HBS);clear HWS HFS HBS;obtain⟨HR,rfl,rfl⟩:=hcut;obtain⟨rfl,⟨vb,rfl,rfl,hcell,hvb⟩,rfl,hT, -⟩:=HR.out;have q:=hT.at_ 2 k (by omega) (by omega);have hfr:=hT.free;clear hT;simp only[Nat.reduceMul]at q;go_upto_region 9 with fail
     go_cut [1,2,3,4,5,8] (fun s1 s2 s3 s4 s5 s8 wx=>Hid (Rd w wx k 3 s1 s2 s3 s8)∧s4= .bool bl∧s5= .bool bd)
     case first=>
      cases bl
      ·
       cases bd
       ·
        refine QBK 13 (by kernel_rfl) (by kernel_rfl) ?_;simp only[List.take_succ_cons,List.take_zero,List.drop_succ_cons,List.drop_zero]
        iterate 8 still_step
        still_call (IW.out vb _ (by simp[go_sem, *]))
        iterate 4 still_step
        refine wpStill_nil ?_
        go_wp2_with fail
        go_meet;exact⟨hd0 (HR.out.drew.put hlt (by omega) (by omega) (by rw[QH7,HL.out,HD.out,KW.out];rfl)),rfl,rfl⟩
       ·
        refine QBK 13 (by kernel_rfl) (by kernel_rfl) ?_;simp only[List.take_succ_cons,List.take_zero,List.drop_succ_cons,List.drop_zero]
        iterate 13 still_step
        refine wpStill_nil ?_
        go_wp2_with fail
        go_meet;exact⟨hd0 (HR.out.drew.put hlt (by omega) (by omega) (by rw[QH7,HL.out,HD.out];rfl)),rfl,rfl⟩
      ·
       cases bd
       all_goals
        refine QBK 13 (by kernel_rfl) (by kernel_rfl) ?_;simp only[List.take_succ_cons,List.take_zero,List.drop_succ_cons,List.drop_zero]
        iterate 13 still_step
        refine wpStill_nil ?_
        go_wp2_with fail
        go_meet;exact⟨hd0 (HR.out.drew.put hlt (by omega) (by omega) (by rw[QH7,HL.out,HD.out];rfl)),rfl,rfl⟩
     case rest=>
      clear HR hcell hvb q hfr;clear vb;obtain⟨HR,rfl,rfl⟩:=hcut;obtain⟨rfl,⟨vb,rfl,rfl,hcell,hvb⟩,rfl,hT, -⟩:=HR.out;have q:=hT.at_ 2 k (by omega) (by omega);rw[if_pos (Or.inr ⟨rfl,by omega⟩),QH7,HL.out,HD.out,KW.out]at q;have q3:=hT.at_ 3 k (by omega) (by omega);have hfr:=hT.free;clear hT;simp only[Nat.reduceMul]at q q3;generalize hcw:(bl||bd||bw)=cw at*;have KC:=hd0 hcw;clear hcw;go_upto_region 10 with fail
      go_cut [1,2,3,4,5,8] (fun s1 s2 s3 s4 s5 s8 wx=>Hid (Rd w wx k 4 s1 s2 s3 s8)∧s4= .bool bl∧s5= .bool bd)
      case first=>
       cases cw
       ·
        refine QBK 16 (by kernel_rfl) (by kernel_rfl) ?_;simp only[List.take_succ_cons,List.take_zero,List.drop_succ_cons,List.drop_zero]
        iterate 16 still_step
        refine wpStill_nil ?_
        go_wp2_with fail
        go_meet;exact⟨hd0 (HR.out.drew.put hlt (by omega) (by omega) (by rw[QNS,HL.out,HD.out,KW.out,KC.out];rfl)),rfl,rfl⟩
       ·
        refine QBK 16 (by kernel_rfl) (by kernel_rfl) ?_;simp only[List.take_succ_cons,List.take_zero,List.drop_succ_cons,List.drop_zero]
        iterate 10 still_step
        still_call (IF.out vb _ (by simp[go_sem, *]))
        iterate 5 still_step
        refine wpStill_nil ?_
        go_wp2_with fail
        go_meet;exact⟨hd0 (HR.out.drew.put hlt (by omega) (by omega) (by rw[QNS,HL.out,HD.out,KW.out,KC.out,KF.out];rfl)),rfl,rfl⟩
      case rest=>
       clear HR hcell hvb q q3 hfr;clear vb;obtain⟨HR,rfl,rfl⟩:=hcut;obtain⟨rfl,⟨vb,rfl,rfl,hcell,hvb⟩,rfl,hT, -⟩:=HR.out;have q:=hT.at_ 4 k (by omega) (by omega);have hfr:=hT.free;clear hT;simp only[Nat.reduceMul]at q;go_upto_region 11 with fail
       go_cut [1,2,3,4,5,8] (fun s1 s2 s3 s4 s5 s8 wx=>Hid (Rd w wx k 5 s1 s2 s3 s8)∧s4= .bool bl∧s5= .bool bd)
       case first=>
        refine QBK 7 (by kernel_rfl) (by kernel_rfl) ?_;simp only[List.take_succ_cons,List.take_zero,List.drop_succ_cons,List.drop_zero]
        iterate 3 still_step
        still_call (IB.out vb _ (by simp[go_sem, *]))
        iterate 3 still_step
        refine wpStill_nil ?_
        go_wp2_with fail
        go_meet;exact⟨hd0 (HR.out.drew.put hlt (by omega) (by omega) KB.out),rfl,rfl⟩
       case rest=>
        clear HR hcell hvb q hfr;clear vb;obtain⟨HR,rfl,rfl⟩:=hcut;obtain⟨rfl,⟨vb,rfl,rfl,hcell,hvb⟩,rfl,hT, -⟩:=HR.out;have q:=hT.at_ 5 k (by omega) (by omega);have hfr:=hT.free;clear hT;simp only[Nat.reduceMul]at q;go_upto_region 11 with fail
        cases bl
        ·
         cases bd
         ·
          have h45:=QDV k 45;refine QBK 13 (by kernel_rfl) (by kernel_rfl) ?_;simp only[List.take_succ_cons,List.take_zero,List.drop_succ_cons,List.drop_zero]
          iterate 13 still_step
          refine wpStill_nil ?_
          go_wp2_with fail
          have hR6:Rd w _ k 6 _ _ _ _:=HR.out.drew.put (a:=1280+k) (b:=((k:Int)==45)) hlt (by omega) (by omega) (by rw[QKT,HL.out,HD.out];rw[show((k:Int)==45)=(k==45)from h45];rfl);have HT:=hd0 hR6.tab.next;have HB:=hd0 hR6.low;clear hR6;go_roundw
          case rel=>exact⟨k+1,by omega,by go_num,HT,HB⟩
          case measure=>simp[intOf];omega
         ·
          skip
          refine QBK 13 (by kernel_rfl) (by kernel_rfl) ?_;simp only[List.take_succ_cons,List.take_zero,List.drop_succ_cons,List.drop_zero]
          iterate 13 still_step
          refine wpStill_nil ?_
          go_wp2_with fail
          have hR6:Rd w _ k 6 _ _ _ _:=HR.out.drew.put (a:=1280+k) (b:=true) hlt (by omega) (by omega) (by rw[QKT,HL.out,HD.out];rfl);have HT:=hd0 hR6.tab.next;have HB:=hd0 hR6.low;clear hR6;go_roundw
          case rel=>exact⟨k+1,by omega,by go_num,HT,HB⟩
          case measure=>simp[intOf];omega
        ·
         cases bd
         all_goals
          refine QBK 13 (by kernel_rfl) (by kernel_rfl) ?_;simp only[List.take_succ_cons,List.take_zero,List.drop_succ_cons,List.drop_zero]
          iterate 13 still_step
          refine wpStill_nil ?_
          go_wp2_with fail
          have hR6:Rd w _ k 6 _ _ _ _:=HR.out.drew.put (a:=1280+k) (b:=true) hlt (by omega) (by omega) (by rw[QKT,HL.out,HD.out];rfl);have HT:=hd0 hR6.tab.next;have HB:=hd0 hR6.low;clear hR6;go_roundw
          case rel=>exact⟨k+1,by omega,by go_num,HT,HB⟩
          case measure=>simp[intOf];omega
  ·
   have:k=256:=by omega
   subst this;go_wp2;go_ret;exact⟨rfl,HB.out,⟨fun c x hc hx=>by rw[HT.out.at_ c x hc hx,if_pos (Or.inl hx)]⟩⟩
attribute [local go_sem] Oper.semAt_some
def QH8(x:Pc):List Value:= [.int .i64 x.kind,.int .i64 x.at_,.int .i64 x.len]
def QDb(l:List Pc):List Value:=l.flatMap QH8
theorem QMc(l:List Pc)(x:Pc):QDb (l++ [x])=QDb l++QH8 x:=by simp[QDb]
noncomputable def QOj:Code→Code × Code
 | .seq _ (.seq _ (.seq _ (.seq (.seq _ (.block _ (.rangeFunc _ _ a b))) _)))=>(a,b)
 |_=>(.skip,.skip)
noncomputable def QLk:Code:=match Tryz.f136.body with|some c=>(QOj c).1|none=> .skip
noncomputable def QQx:Code:=match Tryz.f136.body with|some c=>(QOj c).2|none=> .skip
theorem QSx:(prog.info? 191).map (fun i=>(i.zero,i.size,i.bytes))=some (some (.agg #[.int .i64 0,.int .i64 0,.int .i64 0]),3,24):=by kernel_rfl
noncomputable def QD1(fn D:Nat)(t:Array Value):Loop:={state:= .ready,pending:=none,fn,tmps:=t,params:=#[16],assign:=QLk,body:=QQx,defers:=D}
theorem QAX(w:World)(a:Addr)(v:Value):(w.setCell a v).heap.size=w.heap.size:=by simp[World.setCell]
structure QSN(W W':World)(l lB:Nat)(v:Value):Prop where
 size:W.heap.size≤W'.heap.size
 os:W'.os=W.os
 tape:W'.tape=W.tape
 output:W'.output=W.output
 block:∀j,j<W.heap.size→j≠l→j≠lB→some j≠v.ownBlock→W'.heap[j]?=W.heap[j]?
def QHs(base l lB:Nat)(r:Loop)(v:Value)(k:Nat)(xs ys:List Value)(W:World)(e:Ending)(W':World):Prop:=
 e= .returned (.bool true)∧∃v',Boxed W' lB 187 v'∧W'.ownsRow base 191 3 v' (k+1) (xs++ys)∧W'.heap[l]?=some (.loop r)∧QSN W W' l lB v
theorem QOn (m base l lB fn D:Nat) (u0 u1 u3 u4 u5 u6 u7 u8 u9 u10 u11 u12 u13 u14 u15 u16 u17 u18 u19 u20 u21:Value)(v:Value)(k:Nat)(xs:List Value)(x:Pc)(W:World)
  (hB:Boxed W lB 187 v) (hr:W.ownsRow base 191 3 v k xs) (hb:base≤W.heap.size) (hk:k≤1000000)
  (hl:W.heap[l]?=some (.loop (QD1 fn D #[u0,u1,.pointer (some ⟨lB,0,none⟩),u3,u4,u5,u6,u7,u8,u9,u10,u11,u12,u13,u14,u15,u16,u17,u18,u19,u20,u21]))):
  YieldAt Fence.wide m prog l #[.agg #[.int .i64 x.kind,.int .i64 x.at_,.int .i64 x.len]] W
   (QHs base l lB (QD1 fn D #[u0,u1,.pointer (some ⟨lB,0,none⟩),u3,u4,u5,u6,u7,u8,u9,u10,u11,u12,u13,u14,u15,u16,u17,u18,u19,u20,u21]) v k xs (QH8 x) W):=by
 obtain⟨i0,hi,hz0,hz1,hz2⟩:=info_parts QSx;refine⟨_,_,_,_,run_yield hl rfl,roundIn_of_wpIn trivial ?_⟩;generalize hR:QHs base l lB (QD1 fn D #[u0,u1,.pointer (some ⟨lB,0,none⟩),u3,u4,u5,u6,u7,u8,u9,u10,u11,u12,u13,u14,u15,u16,u17,u18,u19,u20,u21]) v k xs (QH8 x) W=R;have HR:=hd0 hR;clear hR;obtain⟨px,hpx⟩:∃px,px=(Value.agg #[.int .i64 x.kind,.int .i64 x.at_,.int .i64 x.len]):=⟨_,rfl⟩;rw[←hpx];simp only[QD1,QLk,QQx,Tryz.f136,QOj,List.zip_toArray,List.zip_cons_cons,List.zip_nil_left,List.zip_nil_right,List.foldl_toArray',List.foldl_cons,List.foldl_nil,List.setIfInBounds_toArray,List.set_cons_succ,List.set_cons_zero];subst hpx
 gi_wp2
 have hlt:l<W.heap.size:=(Array.getElem?_eq_some_iff.1 hl).1;obtain⟨O,hO⟩:∃O,O=Obj.cells #[.int .i64 x.kind,.int .i64 x.at_,.int .i64 x.len] 191:=⟨_,rfl⟩;rw[←hO];have hl1:=(Below.heap_alloc W O l hlt).trans hl;refine⟨_,run_beginRound hl1 rfl,?_⟩;obtain⟨W2,hW2⟩:∃W2,W2=(W.alloc O).putObj l (.loop {(QD1 fn D #[u0,u1,.pointer (some ⟨lB,0,none⟩),u3,u4,u5,u6,u7,u8,u9,u10,u11,u12,u13,u14,u15,u16,u17,u18,u19,u20,u21])with state:= .busy}):=⟨_,rfl⟩;rw[←hW2];have hs2:W2.heap.size=W.heap.size+1:=by rw[hW2];simp[World.putObj]
 have hg2:(W.alloc O).grownBy W2 (some l):=by rw[hW2];exact grownBy_putObj' _ _ _
 have hl2:W2.heap[l]?=some (.loop {(QD1 fn D #[u0,u1,.pointer (some ⟨lB,0,none⟩),u3,u4,u5,u6,u7,u8,u9,u10,u11,u12,u13,u14,u15,u16,u17,u18,u19,u20,u21])with state:= .busy}):=by
  rw[hW2];exact World.putObj_heap_same (by simp;omega)
 have nl:∀{j:Nat} {c e f},W.heap[j]?=some (.cells c e f)→j≠l:=by
  rintro j c e f h rfl;rw[hl]at h;cases h
 have hB2:Boxed W2 lB 187 v:=(hB.alloc O).kept hg2 (by have:=nl hB;intro e;injection e with e;exact this e);have hr1:(W.alloc O).ownsRow base 191 3 v k xs:=hr.alloc O
 have hnl:v.ownBlock≠some l:=by
  intro e;rcases hr.2 with ⟨rfl,_⟩|⟨g,cap,cur,rfl,_,hgb,_⟩
  ·
   cases e
  ·
   exact nl hgb (by simpa[Value.ownBlock]using e)
 have hr2:W2.ownsRow base 191 3 v k xs:=hr1.kept hg2 (.inr hnl);have hp2:W2.heap[W.heap.size]?=some O:=by rw[hW2];exact(World.putObj_heap_other (by omega)).trans (World.alloc_heap_new W O)
 have c0:W2.cell? ⟨W.heap.size,0,none⟩=some (.int .i64 x.kind):=by simp[World.cell?,hp2,hO]
 have c1:W2.cell? ⟨W.heap.size,1,none⟩=some (.int .i64 x.at_):=by simp[World.cell?,hp2,hO]
 have c2:W2.cell? ⟨W.heap.size,2,none⟩=some (.int .i64 x.len):=by simp[World.cell?,hp2,hO]
 have cB:=hB2.cell;have hbB:base≤W2.heap.size:=by omega
 have hkm:k+1≤maxLen:=by unfold maxLen;omega
 have K1:=hd0 hW2;have K2:=hd0 hl2;have K3:=hd0 hs2;have K4:=hd0 hl;have K5:=hd0 hl1;have K6:=hd0 hg2;have K7:=hd0 hp2;have K8:=hd0 hO;clear hW2 hl2 hs2 hl hl1 hg2 hp2 hO
 gi_wp2_with (gi_at_builtin;refine wpListIn_append_own _ rfl _ _ 187 rfl base 191 i0 _ 3 24 underlying187 hi hz0 hz1 hz2 rfl (by decide) v k xs rfl (hr2.alloc _) ⟨W2.heap.size,0,none⟩ 1 1 [.int .i64 x.kind,.int .i64 x.at_,.int .i64 x.len] rfl rfl (by intro j u hj;match j,hj with|0,hj=>(simp at hj;subst hj;simp[Addr.add])|1,hj=>(simp at hj;subst hj;simp[Addr.add])|2,hj=>(simp at hj;subst hj;simp[Addr.add])|j+3,hj=>simp at hj) (by simp[Value.oneCell']) (by omega) (by omega) (by simp;omega) ?_;intro v' w1 hown' hgrow _;obtain⟨g',cap',rfl⟩:=ownsRow_succ hown';have hv1:Boxed w1 lB 187 v:=(hB2.alloc _).kept hgrow (hB2.not_row (by decide) hr2);have hc1:=hv1.cell;have hf1:=hv1.frozen)
 have hv2:=hv1.set (.slice (some ⟨g',0,none⟩) (k+1) cap');have hr3:=hown'.kept (grownBy_setCell' w1 lB (.slice (some ⟨g',0,none⟩) (k+1) cap')) (.inr (hv1.not_row (by decide) hown').symm)
 have hl3:(w1.setCell ⟨lB,0,none⟩ (.slice (some ⟨g',0,none⟩) (k+1) cap')).heap[l]?=W2.heap[l]?:=by
  rw[Below.heap_setCell _ _ _ _ (by show l≠lB;exact(nl hB).symm),hgrow.block l (by simp;have:=K3.out;omega) (Ne.symm hnl)];exact Below.heap_alloc _ _ _ (by have:=K3.out;omega)
 refine⟨_,_,run_endRound none (hl3.trans K2.out),?_⟩;rw[←HR.out];refine⟨rfl,_,hv2.kept (grownBy_putObj' _ _ _) (by have:=nl hB;intro e;injection e with e;exact this e),hr3.kept (grownBy_putObj' _ _ _) (.inr ?_),?_,?_⟩
 ·
  intro e;rcases hr3.2 with ⟨h,_⟩|⟨g,cap,cur,h,_,hgb,_⟩
  ·
   cases h
  ·
   rw[h]at e;simp only[Value.ownBlock,Option.some.injEq]at e;subst e;rw[hl3,K2.out]at hgb;cases hgb
 ·
  rw[World.putObj_heap_same (by rw[QAX];have:=hgrow.size;simp at this;have:=K3.out;omega)];rfl
 ·
  have hsz:W.heap.size+1≤w1.heap.size:=by have:=hgrow.size;simp at this;have:=K3.out;omega
  refine⟨by simp[QAX];omega,?_,?_,?_,fun j hj h1 h2 h3=>?_⟩
  ·
   show w1.os=_;rw[hgrow.os];show W2.os=_;rw[K6.out.os];rfl
  ·
   show w1.tape=_;rw[hgrow.tape];show W2.tape=_;rw[K6.out.tape];rfl
  ·
   show w1.output=_;rw[hgrow.output];show W2.output=_;rw[K6.out.output];rfl
  ·
   rw[World.putObj_heap_other h1,Below.heap_setCell _ _ _ _ h2,hgrow.block j (by simp;have:=K3.out;omega) h3,Below.heap_alloc _ _ _ (by have:=K3.out;omega),K6.out.block j (by simp;omega) (by simpa using h1),Below.heap_alloc _ _ _ hj]
end Go.Proofs.YtjnclkakbopnjaaGreatDoor
