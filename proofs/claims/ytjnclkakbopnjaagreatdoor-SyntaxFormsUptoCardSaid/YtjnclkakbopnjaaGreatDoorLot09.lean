/- XRefA, XRefB -/
import Derived.Test.YtjnclkakbopnjaaGreatDoorLot08
set_option linter.unusedSimpArgs false
set_option linter.unusedVariables false
set_option maxRecDepth 100000
set_option maxHeartbeats 8000000
namespace Go.Proofs.YtjnclkakbopnjaaGreatDoor
open Go.Proofs.Tryz
open Go.RowKit Go.Proofs.YtjnclkakbopnjaaGreatDoorW.PrintLast
def bt(s:ByteArray)(i:Int):Int:=if h:i.toNat<s.size then((s[i.toNat]'h).toNat:Int) else 0
def byt(l:List UInt8)(i:Nat):Nat:=(l.getD i 0).toNat
theorem QNH(s:ByteArray)(i:Nat)(h:i<s.size):bt s i=(byt s.data.toList i:Nat):=by
 unfold bt byt;have h':i<s.data.toList.length:=by rw[QAE];exact h
 rw[dif_pos (by simpa using h)];have:s[(i:Int).toNat]'(by simpa using h)=s.data.toList[i]:=by simp;rfl
 rw[this];simp only[List.getD_eq_getElem?_getD,List.getElem?_eq_getElem h',Option.getD_some]
theorem QJB(l:List UInt8)(i:Nat):byt l i<256:=(l.getD i 0).toNat_lt
def QAR(l:List UInt8)(c:Int)(i:Nat):Int:=match l with
 | []=> -1
 |b::r=>if(b.toNat:Int)=c then i else QAR r c (i+1)
def QCG(c:Nat)(b:Nat):Bool:=
 if c=76 then QBN b else if c=68 then QCp b else if c=87 then QDz b else if c=70 then QG0 b else if c=66 then QGs b else if c=81 then QFU b else if c=65 then(QBN b||QCp b) else b==c
def fW:ByteArray:=⟨#[33,36,38,42,60,62,124,94,37,95,126,63,43,45,47,61]⟩
def fF:ByteArray:=⟨#[33,36,38,42,60,62,124,94,37,95,126,63]⟩
def fB:ByteArray:=⟨#[60,36,37,42,95]⟩
theorem memW:∀y:Fin 256,(QBN y.val||QCp y.val||decide (0≤QAR fW.data.toList (y.val:Nat) 0))=QDz y.val:=by decide+kernel
theorem QSt:∀y:Fin 256,(QBN y.val||QCp y.val||decide (0≤QAR fF.data.toList (y.val:Nat) 0))=QG0 y.val:=by decide+kernel
theorem memB:∀y:Fin 256,decide (0≤QAR fB.data.toList (y.val:Nat) 0)=QGs y.val:=by decide+kernel
theorem QMB(l:List UInt8)(c:Int)(i:Nat)(b:UInt8)(r:List UInt8)(h:l=b::r)(hc:(b.toNat:Int)=c):QAR l c i=i:=by subst h;unfold QAR;rw[if_pos hc]
theorem QMA(l:List UInt8)(c:Int)(i:Nat)(b:UInt8)(r:List UInt8)(h:l=b::r)(hc:¬(b.toNat:Int)=c):QAR l c i=QAR r c (i+1):=by subst h;rw[QAR,if_neg hc]
theorem QAN(s:ByteArray)(c:Nat)(w:World)(hs:s.size≤1100000):
  Calls prog 100 #[.string s,.int .u8 c] w fun e w'=>e= .returned (.int .i64 (QAR s.data.toList c 0))∧w'=w:=by
 generalize hR:QAR s.data.toList c 0=R;have HR:=hd0 hR;clear hR;go_enter func100,ntmps100;go_wp2
 go_loopw [5] (fun v5 wr=>∃i:Nat,i≤s.size∧v5= .int .i64 i∧Hid (QAR (s.data.toList.drop i) c i=R)∧wr=w) (fun v5 _=>s.size - (intOf v5).toNat)
 case atStart=>exact⟨0,Nat.zero_le _,rfl,HR,rfl⟩
 case round=>
  obtain⟨i,hi,rfl,HI,rfl⟩:=hrel
  by_cases hlt:i<s.size
  ·
   have g0:decide ((i:Int)<s.size)=true:=decide_eq_true (by omega);have g1:(0:Int)≤i:=by omega
   have g2:(i:Int)<s.size:=by omega
   by_cases hc:(s[i].toNat:Int)=c
   ·
    have g3:((s[i].toNat:Int)==c)=true:=beq_iff_eq.2 hc;have hv:=QMB _ (c:Int) i _ _ (QBC s i hlt) hc;rw[HI.out]at hv;have HV:=hd0 hv;clear hv hc;go_wp2;go_ret;exact⟨by rw[HV.out];rfl,rfl⟩
   ·
    have g3:((s[i].toNat:Int)==c)=false:=beq_eq_false_iff_ne.2 hc;have hv:=QMA _ (c:Int) i _ _ (QBC s i hlt) hc;rw[HI.out]at hv;have HV:=hd0 hv.symm;clear hv hc;go_wp2;go_roundw
    case rel=>exact⟨i+1,by omega,by go_num,HV,trivial⟩
    case measure=>simp[intOf];omega
  ·
   have g0:decide ((i:Int)<s.size)=false:=decide_eq_false (by omega);have hv:R= -1:=by rw[←HI.out,List.drop_of_length_le (by rw[QAE];omega)];rfl
   have HV:=hd0 hv;clear hv;go_wp2;go_ret;exact⟨by rw[HV.out];rfl,rfl⟩
theorem QML(c b:Nat)(hb:b<256)(w:World):Calls prog 227 #[.int .u8 c,.int .u8 b] w fun e w'=>e= .returned (.bool (QCG c b))∧∃n,w'=w.drewN n:=by
 have HW:=hd0 (fun w=>QAN ⟨#[33,36,38,42,60,62,124,94,37,95,126,63,43,45,47,61]⟩ b w (by decide));have HF:=hd0 (fun w=>QAN ⟨#[33,36,38,42,60,62,124,94,37,95,126,63]⟩ b w (by decide));have HB:=hd0 (fun w=>QAN ⟨#[60,36,37,42,95]⟩ b w (by decide));have mW:(QBN b||QCp b||decide (0≤QAR (⟨#[33,36,38,42,60,62,124,94,37,95,126,63,43,45,47,61]⟩:ByteArray).data.toList (b:Nat) 0))=QDz b:=memW ⟨b,hb⟩;have mF:(QBN b||QCp b||decide (0≤QAR (⟨#[33,36,38,42,60,62,124,94,37,95,126,63]⟩:ByteArray).data.toList (b:Nat) 0))=QG0 b:=QSt ⟨b,hb⟩;have mB:decide (0≤QAR (⟨#[60,36,37,42,95]⟩:ByteArray).data.toList (b:Nat) 0)=QGs b:=memB ⟨b,hb⟩;have mQ:(QBN b||QCp b||(b==45))=QFU b:=by unfold QFU;cases QBN b <;> cases QCp b <;> simp
 have dL:QBN b=(decide ((97:Int)≤b)&&decide ((b:Int)≤122)):=by unfold QBN;congr 1 <;> (apply decide_eq_decide.2;omega)
 have dD:QCp b=(decide ((48:Int)≤b)&&decide ((b:Int)≤57)):=by unfold QCp;congr 1 <;> (apply decide_eq_decide.2;omega)
 have hI:QCG c b=if c=76 then QBN b else if c=68 then QCp b else if c=87 then QDz b else if c=70 then QG0 b else if c=66 then QGs b else if c=81 then QFU b else if c=65 then(QBN b||QCp b) else b==c:=rfl;rw[←mW,←mF,←mB,←mQ]at hI;have HI:=hd0 hI;have HL:=hd0 dL;have HD:=hd0 dD;have e45:=QDV b 45;have ebc:=QDV b c;clear mW mF mB mQ dL dD hI;generalize QCG c b=res at*;generalize QAR (⟨#[33,36,38,42,60,62,124,94,37,95,126,63,43,45,47,61]⟩:ByteArray).data.toList (b:Nat) 0=rW at*;generalize QAR (⟨#[33,36,38,42,60,62,124,94,37,95,126,63]⟩:ByteArray).data.toList (b:Nat) 0=rF at*;generalize QAR (⟨#[60,36,37,42,95]⟩:ByteArray).data.toList (b:Nat) 0=rB at*;have HX:=hd0 (And.intro e45 ebc);clear e45 ebc;go_enter func227,ntmps227;go_upto_region 1 with fail
 go_cut [5] (fun v5 wc=>v5= .bool (QBN b)∧w=wc)
 case first=>
  have hl:=HL.out
  cases hx:decide ((97:Int)≤(b:Int))with
  |false=>
   rw[hx]at hl;have HLD:=hd0 hl;clear hl HL HD;go_wp2;go_meet;exact⟨by rw[HLD.out];first|done|rfl,rfl⟩
  |true=>
   rw[hx]at hl;have HLD:=hd0 hl;clear hl HL HD;go_wp2;go_meet;exact⟨by rw[HLD.out];first|done|rfl,rfl⟩
 case rest=>
  obtain⟨rfl,rfl⟩:=hcut;go_upto_region 2 with fail
  go_cut [6] (fun v6 wc=>v6= .bool (QCp b)∧w=wc)
  case first=>
   have hl:=HD.out
   cases hx:decide ((48:Int)≤(b:Int))with
   |false=>
    rw[hx]at hl;have HLD:=hd0 hl;clear hl HL HD;go_wp2;go_meet;exact⟨by rw[HLD.out];first|done|rfl,rfl⟩
   |true=>
    rw[hx]at hl;have HLD:=hd0 hl;clear hl HL HD;go_wp2;go_meet;exact⟨by rw[HLD.out];first|done|rfl,rfl⟩
  case rest=>
  obtain⟨rfl,rfl⟩:=hcut;clear HL HD;generalize QBN b=L at*;generalize QCp b=D at*
  by_cases c76:c=76
  ·
   have e76:((c:Int)==76)=true:=by rw[beq_iff_eq];omega
   have hr:=HI.out;rw[if_pos c76]at hr;have HR:=hd0 hr;clear hr HI c76;go_wp2;go_ret;exact⟨by rw[HR.out];first|done|rfl,0,rfl⟩
  have e76:((c:Int)==76)=false:=by rw[beq_eq_false_iff_ne];omega
  by_cases c68:c=68
  ·
   have e68:((c:Int)==68)=true:=by rw[beq_iff_eq];omega
   have hr:=HI.out;rw[if_neg c76,if_pos c68]at hr;have HR:=hd0 hr;clear hr HI c76 c68;go_wp2;go_ret;exact⟨by rw[HR.out];first|done|rfl,0,rfl⟩
  have e68:((c:Int)==68)=false:=by rw[beq_eq_false_iff_ne];omega
  by_cases c87:c=87
  ·
   have e87:((c:Int)==87)=true:=by rw[beq_iff_eq];omega
   have hr:=HI.out;rw[if_neg c76,if_neg c68,if_pos c87]at hr;have HR:=hd0 hr;clear hr HI c76 c68 c87
   cases L with
   |true=>
    go_wp2;go_ret;exact⟨by rw[HR.out];first|done|rfl,0,rfl⟩
   |false=>
    cases D with
    |true=>
     go_wp2;go_ret;exact⟨by rw[HR.out];first|done|rfl,0,rfl⟩
    |false=>
     go_wp2_with fail
     refine(HW.out _).mono ?_;rintro e w1 ⟨rfl,rfl⟩;go_wp2;go_ret;exact⟨by rw[HR.out];first|done|rfl,0,rfl⟩
  have e87:((c:Int)==87)=false:=by rw[beq_eq_false_iff_ne];omega
  by_cases c70:c=70
  ·
   have e70:((c:Int)==70)=true:=by rw[beq_iff_eq];omega
   have hr:=HI.out;rw[if_neg c76,if_neg c68,if_neg c87,if_pos c70]at hr;have HR:=hd0 hr;clear hr HI c76 c68 c87 c70
   cases L with
   |true=>
    go_wp2;go_ret;exact⟨by rw[HR.out];first|done|rfl,0,rfl⟩
   |false=>
    cases D with
    |true=>
     go_wp2;go_ret;exact⟨by rw[HR.out];first|done|rfl,0,rfl⟩
    |false=>
     go_wp2_with fail
     refine(HF.out _).mono ?_;rintro e w1 ⟨rfl,rfl⟩;go_wp2;go_ret;exact⟨by rw[HR.out];first|done|rfl,0,rfl⟩
  have e70:((c:Int)==70)=false:=by rw[beq_eq_false_iff_ne];omega
  by_cases c66:c=66
  ·
   have e66:((c:Int)==66)=true:=by rw[beq_iff_eq];omega
   have hr:=HI.out;rw[if_neg c76,if_neg c68,if_neg c87,if_neg c70,if_pos c66]at hr;have HR:=hd0 hr;clear hr HI c76 c68 c87 c70 c66
   go_wp2_with fail
   refine(HB.out _).mono ?_;rintro e w1 ⟨rfl,rfl⟩;go_wp2;go_ret;exact⟨by rw[HR.out];first|done|rfl,0,rfl⟩
  have e66:((c:Int)==66)=false:=by rw[beq_eq_false_iff_ne];omega
  by_cases c81:c=81
  ·
   have e81:((c:Int)==81)=true:=by rw[beq_iff_eq];omega
   have hr:=HI.out;rw[if_neg c76,if_neg c68,if_neg c87,if_neg c70,if_neg c66,if_pos c81]at hr;have HR:=hd0 hr;clear hr HI c76 c68 c87 c70 c66 c81
   cases L <;> cases D <;> (go_wp2;go_ret;exact⟨by rw[HR.out];first|done|rfl|(rw[←HX.out.1];rfl),0,rfl⟩)
  have e81:((c:Int)==81)=false:=by rw[beq_eq_false_iff_ne];omega
  by_cases c65:c=65
  ·
   have e65:((c:Int)==65)=true:=by rw[beq_iff_eq];omega
   have hr:=HI.out;rw[if_neg c76,if_neg c68,if_neg c87,if_neg c70,if_neg c66,if_neg c81,if_pos c65]at hr;have HR:=hd0 hr;clear hr HI c76 c68 c87 c70 c66 c81 c65
   cases L <;> cases D <;> (go_wp2;go_ret;exact⟨by rw[HR.out];first|done|rfl|(rw[←HX.out.1];rfl),0,rfl⟩)
  have e65:((c:Int)==65)=false:=by rw[beq_eq_false_iff_ne];omega
  have hr:=HI.out;rw[if_neg c76,if_neg c68,if_neg c87,if_neg c70,if_neg c66,if_neg c81,if_neg c65]at hr;have HR:=hd0 hr;clear hr HI c76 c68 c87 c70 c66 c81 c65;go_wp2;go_ret;exact⟨by rw[HR.out,←HX.out.2];first|done|rfl,0,rfl⟩
theorem QED {B:Nat}{a w:World}(h:Below B a w):Below B a w.drew:=⟨h.os,h.tape,h.output,h.size,h.block⟩
def QOp(l:List UInt8)(c:Nat)(A:Nat→Bool):Nat→Bool
 |0=>A 0
 |i+1=>A (i+1)||(QOp l c A i&&QCG c (byt l i))
def QJy(l:List UInt8)(c:Nat)(A:Nat→Bool):Nat→Bool
 |0=>false
 |i+1=>A i&&QCG c (byt l i)
def QJz(l:List UInt8)(star:Bool)(c:Nat)(A:Nat→Bool):Nat→Bool:=if star then QOp l c A else QJy l c A
def QEU(l:List UInt8):List UInt8→(Nat→Bool)→(Nat→Bool)
 | [],A=>A
 | [c],A=>QJy l c.toNat A
 |c::d::r,A=>if d=42 then QEU l r (QOp l c.toNat A) else QEU l (d::r) (QJy l c.toNat A)
def QEh(A:Nat→Bool):Nat→Nat
 |0=>0
 |n+1=>if A (n+1) then n+1 else QEh A n
def QDW(p l:List UInt8):Nat:=if l= [] then 0 else if QCG (byt p 0) (byt l 0)=false then 0 else QEh (QEU l p fun i=>i==0) l.length
structure Bits(w:World)(b n:Nat)(A:Nat→Bool):Prop where
 at_:∀j,j<n→w.cell? ⟨b,j,none⟩=some (.bool (A j))
 free:∀o,w.frozen? ⟨b,o,none⟩=false
 lt:b<w.heap.size
theorem Bits.below {w w':World}{b n:Nat}{A:Nat→Bool}(h:Bits w b n A)(hb:Below w.heap.size w w'):Bits w' b n A:=
 ⟨fun j hj=>QAA hb (h.at_ j hj),fun o=>(hb.frozen (p:=⟨b,o,none⟩) h.lt).trans (h.free o),Nat.lt_of_lt_of_le h.lt hb.size⟩
theorem Bits.set {w:World}{b n i:Nat}{A A':Nat→Bool}(h:Bits w b n A)(hi:i<n)(ha:A' i=true)(hA:∀j,j≠i→A' j=A j):Bits (w.setCell ⟨b,i,none⟩ (.bool true)) b n A':=by
 refine⟨fun j hj=>?_,fun o=>by rw[World.frozen?_setCell];exact h.free o,by rw[QAX];exact h.lt⟩
 by_cases hj':j=i
 ·
  subst hj';rw[World.cell?_setCell_same' _ _ _ (by rw[h.at_ j hj];rfl),ha]
 ·
  rw[World.cell?_setCell_other _ _ _ _ (by intro e;injection e with _ e2;omega),h.at_ j hj,hA j hj']
theorem Bits.other {w:World}{b b' n i:Nat}{A:Nat→Bool}(v:Value)(h:Bits w b n A)(hb:b≠b'):Bits (w.setCell ⟨b',i,none⟩ v) b n A:=
 ⟨fun j hj=>by rw[World.cell?_setCell_other _ _ _ _ (by intro e;injection e with e1 _;exact hb e1.symm)];exact h.at_ j hj,fun o=>by rw[World.frozen?_setCell];exact h.free o,by rw[QAX];exact h.lt⟩
theorem Bits.congr {w:World}{b n:Nat}{A A':Nat→Bool}(h:Bits w b n A)(hA:∀j,j<n→A' j=A j):Bits w b n A':=⟨fun j hj=>by rw[h.at_ j hj,hA j hj],h.free,h.lt⟩
end Go.Proofs.YtjnclkakbopnjaaGreatDoor
