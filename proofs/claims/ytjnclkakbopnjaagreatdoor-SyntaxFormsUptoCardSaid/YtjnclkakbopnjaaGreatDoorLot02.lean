/- XHd, XLexA, XLexB, XStepA -/
import Derived.Test.YtjnclkakbopnjaaGreatDoorProg
import Derived.Below
import Derived.WalkKit
import Derived.WalkSpells
import Derived.WalkLawsBesides
import Derived.Deep.QuietTactic
import Derived.BigQuiet
import Derived.Lib.Hide
import Derived.Lib.Strings
import Derived.Test.YtjnclkakbopnjaaGreatDoorLot01
set_option linter.unusedSimpArgs false
set_option linter.unusedVariables false
set_option maxHeartbeats 1600000
namespace Go.Proofs.YtjnclkakbopnjaaGreatDoor
open Go.Proofs.Tryz
theorem hd0 {p:Prop}(h:p):Go.RowKit.Hid p:=h
open Go.RowKit
def QCf(f:Nat→Bool)(s:ByteArray):Nat:=(s.data.toList.takeWhile fun b=>f b.toNat).length
theorem QCh {α:Type}(p:α→Bool):∀(l:List α) (k:Nat) (h:k<l.length),k≤(l.takeWhile p).length→p l[k]=true→k+1≤(l.takeWhile p).length
 | [],_,h,_,_=>by simp at h
 |x::r,k,h,hk,hp=>by
  cases hx:p x with
  |false=>simp[List.takeWhile_cons,hx]at hk;subst hk;simp[hx]at hp
  |true=>
   simp only[List.takeWhile_cons,hx,if_true,List.length_cons]at hk ⊢
   cases k with
   |zero=>omega
   |succ k=>have:=QCh p r k (by simpa using h) (by omega) (by simpa using hp);omega
theorem QCi {α:Type}(p:α→Bool):∀(l:List α) (k:Nat) (h:k<l.length),k≤(l.takeWhile p).length→p l[k]=false→(l.takeWhile p).length=k
 | [],_,h,_,_=>by simp at h
 |x::r,k,h,hk,hp=>by
  cases hx:p x with
  |false=>simp[List.takeWhile_cons,hx]at hk ⊢;omega
  |true=>
   simp only[List.takeWhile_cons,hx,if_true,List.length_cons]at hk ⊢
   cases k with
   |zero=>simp[hx]at hp
   |succ k=>have:=QCi p r k (by simpa using h) (by omega) (by simpa using hp);omega
theorem QJ6(f:Nat→Bool)(s:ByteArray):QCf f s≤s.size:=by
 have h:=(List.takeWhile_sublist (fun b:UInt8=>f b.toNat) (l:=s.data.toList)).length_le;have e:s.data.toList.length=s.size:=by show s.data.toList.length=s.data.size;simp
 unfold QCf;omega
theorem QAO {k:IntKind}{a b:Int}(h:a=b):Ending.returned (.int k a)= .returned (.int k b):=by rw[h]
theorem QLE(f:Nat→Bool)(s:ByteArray)(k:Nat)(h:k<s.size)(hk:k≤QCf f s)(hf:f s[k].toNat=true):k+1≤QCf f s:=
 QCh _ s.data.toList k (by simpa using h) hk (by simpa using (show f (s.data[k]'h).toNat=true from hf))
theorem QLF(f:Nat→Bool)(s:ByteArray)(k:Nat)(h:k<s.size)(hk:k≤QCf f s)(hf:f s[k].toNat=false):QCf f s=k:=
 QCi _ s.data.toList k (by simpa using h) hk (by simpa using (show f (s.data[k]'h).toNat=false from hf))
theorem QHu(cb tb:Nat)(s:ByteArray)(f:Nat→Bool)(c:Nat)(w:World)(hs:s.size≤9223372036854775807)(hc:c<6)
  (h2:w.cell? ⟨cb,2,none⟩=some (.pointer (some ⟨tb,0,none⟩))) (ht:∀x,x<256→w.cell? ⟨tb,c*256+x,none⟩=some (.bool (f x))):
  Calls prog 310 #[.pointer (some ⟨cb,0,none⟩),.string s,.int .i64 c] w fun e w'=>e= .returned (.int .i64 (QCf f s))∧∃n,w'=w.drewN n:=by
 have c0:(0:Int)≤c:=by omega
 have c1:(c:Int)<6:=by omega
 go_enter func310,ntmps310;go_wp2
 go_loopw [7] (fun v wr=>∃k:Nat,k≤s.size∧v= .int .i64 k∧k≤QCf f s∧∃m,wr=w.drewN m) (fun v _=>s.size - (intOf v).toNat)
 case atStart=>exact⟨0,Nat.zero_le _,rfl,Nat.zero_le _,0,rfl⟩
 case round=>
  obtain⟨k,hk,rfl,hr,m,rfl⟩:=hrel
  by_cases hlt:k<s.size
  ·
   have hd:decide ((k:Int)<s.size)=true:=by simpa using hlt
   have b1:(s[k].toNat:Int)<256:=by have:=s[k].toNat_lt;omega
   have ht':=ht s[k].toNat (by omega)
   cases hf:f s[k].toNat with
   |true=>
    rw[hf]at ht';have HF:=hd0 hf;clear hf;go_wp2
    go_quiet (fail)
    clear b1 ht' ht;go_wp2;go_roundw
    case rel=>exact⟨k+1,by omega,by go_num,QLE f s k hlt hr HF.out,_,rfl⟩
    case measure=>simp[intOf];omega
   |false=>
    rw[hf]at ht';have HF:=hd0 hf;clear hf;go_wp2
    go_quiet (fail)
    clear b1 ht' ht;go_wp2;go_ret;exact⟨QAO (by rw[QLF f s k hlt hr HF.out]),_,World.drewN_drewN ..⟩
  ·
   have hd:decide ((k:Int)<s.size)=false:=by simpa using hlt
   have he:QCf f s=k:=by have:=QJ6 f s;omega
   have HE:=hd0 he;clear he hr ht;go_wp2
   go_quiet (fail)
   go_wp2;go_ret;exact⟨QAO (by rw[HE.out]),_,World.drewN_drewN ..⟩
def QBN(x:Nat):Bool:=97≤x&&x≤122
def QCp(x:Nat):Bool:=48≤x&&x≤57
def QDR(l:List Nat)(x:Nat):Bool:=l.contains x
def QHq:List Nat:= [33,36,38,42,60,62,124,94,37,95,126,63,43,45,47,61]
def QDz(x:Nat):Bool:=QBN x||QCp x||QDR QHq x
def QG0(x:Nat):Bool:=QDz x&&!QDR [43,45,47,61] x
def QGs(x:Nat):Bool:=QDR [60,36,37,42,95] x
def QFU(x:Nat):Bool:=QBN x||QCp x||x==45
def cls(c x:Nat):Bool:=match c with|0=>QBN x|1=>QCp x|2=>QDz x|3=>QG0 x|4=>QGs x|_=>QFU x
structure IsTab(w:World)(tb:Nat):Prop where
 at_:∀c x,c<6→x<256→w.cell? ⟨tb,c*256+x,none⟩=some (.bool (cls c x))
theorem IsTab.drewN {w:World}{tb:Nat}(h:IsTab w tb)(n:Nat):IsTab (w.drewN n) tb:=⟨fun c x hc hx=>by rw[World.cell?_drewN];exact h.at_ c x hc hx⟩
def QAm:List UInt8→Nat→Bool→Nat→Nat
 | [],_,_,n=>n
 |b::r,i,letter,n=>QAm r (i+1) (letter||QBN b.toNat) (if letter||QBN b.toNat then(if QG0 b.toNat then i+1 else n) else n)
theorem QIp(s:ByteArray)(h:0<s.size):s.toList.isEmpty=false:=by
 rw[Lib.toList_data];have e:s.data.toList.length=s.size:=by show s.data.toList.length=s.data.size;simp
 cases h1:s.data.toList with
 |nil=>rw[h1]at e;simp at e;omega
 |cons=>rfl
theorem QMT(cb tb:Nat)(w:World)(h2:w.cell? ⟨cb,2,none⟩=some (.pointer (some ⟨tb,0,none⟩))):
  Calls prog 309 #[.pointer (some ⟨cb,0,none⟩),.string ⟨#[]⟩] w fun e w'=>e= .returned (.int .i64 0)∧∃n,w'=w.drewN n:=by
 go_enter func309,ntmps309;go_wp2
 go_quiet (fail)
 go_wp2;go_ret;exact⟨rfl,_,rfl⟩
theorem QOW(cb tb:Nat)(s:ByteArray)(w:World)(hs:s.size≤9223372036854775807)(h0:0<s.size)(hL:QBN s[0].toNat=false)(hB:QGs s[0].toNat=false)
  (h2:w.cell? ⟨cb,2,none⟩=some (.pointer (some ⟨tb,0,none⟩))) (ht:IsTab w tb):
  Calls prog 309 #[.pointer (some ⟨cb,0,none⟩),.string s] w fun e w'=>e= .returned (.int .i64 0)∧∃n,w'=w.drewN n:=by
 have t0:=ht.at_ 0 s[0].toNat (by omega) (by have:=s[0].toNat_lt;omega);have t4:=ht.at_ 4 s[0].toNat (by omega) (by have:=s[0].toNat_lt;omega);simp only[cls,hL,hB,Nat.zero_mul,Nat.zero_add,Nat.reduceMul]at t0 t4;have b1:(s[0].toNat:Int)<256:=by have:=s[0].toNat_lt;omega
 have he:s.toList.isEmpty=false:=QIp s h0;clear hL hB;go_enter func309,ntmps309;go_wp2
 go_quiet (fail)
 clear b1 t0 t4;go_wp2;go_ret;exact⟨rfl,_,rfl⟩
structure PlainAt(s:ByteArray)(n:Nat)(k:Nat)(letter:Bool)(m:Nat):Prop where
 le:k≤n
 eq:QAm ((s.data.toList.take n).drop k) k letter m=QAm (s.data.toList.take n) 0 false 0
 bound:m≤k
theorem PlainAt.step {s:ByteArray}{n k:Nat}{letter:Bool}{m:Nat}(h:PlainAt s n k letter m)(hk:k<n)(hn:n≤s.size){L F:Bool}(hL:QBN (s[k]'(by omega)).toNat=L)(hF:QG0 (s[k]'(by omega)).toNat=F):
  PlainAt s n (k+1) (letter||L) (if letter||L then(if F then k+1 else m) else m):=by
 have e:s.data.toList.length=s.size:=by show s.data.toList.length=s.data.size;simp
 refine⟨by omega,?_,by have:=h.bound;split <;> (try split) <;> omega⟩;rw[←h.eq]
 have hd:(s.data.toList.take n).drop k=(s[k]'(by omega))::(s.data.toList.take n).drop (k+1):=by
  rw[List.drop_eq_getElem_cons (by rw[List.length_take];omega)]
  congr 1
  rw[List.getElem_take];rfl
 rw[hd,QAm,hL,hF]
theorem PlainAt.done {s:ByteArray}{n:Nat}{letter:Bool}{m:Nat}(h:PlainAt s n n letter m)(hn:n≤s.size):QAm (s.data.toList.take n) 0 false 0=m:=by
 rw[←h.eq,List.drop_of_length_le (by rw[List.length_take];omega),QAm]
theorem QMU(cb tb:Nat)(s:ByteArray)(w:World)(hs:s.size≤9223372036854775807)(h0:0<s.size)(hLB:(QBN s[0].toNat||QGs s[0].toNat)=true)
  (h2:w.cell? ⟨cb,2,none⟩=some (.pointer (some ⟨tb,0,none⟩))) (ht:IsTab w tb):
  Calls prog 309 #[.pointer (some ⟨cb,0,none⟩),.string s] w fun e w'=>e= .returned (.int .i64 (QAm (s.data.toList.take (QCf QDz s)) 0 false 0))∧∃n,w'=w.drewN n:=by
 have t0:=ht.at_ 0 s[0].toNat (by omega) (by have:=s[0].toNat_lt;omega);have t4:=ht.at_ 4 s[0].toNat (by omega) (by have:=s[0].toNat_lt;omega);simp only[cls,Nat.zero_mul,Nat.zero_add,Nat.reduceMul]at t0 t4;have b1:(s[0].toNat:Int)<256:=by have:=s[0].toNat_lt;omega
 have he:s.toList.isEmpty=false:=QIp s h0;have HT:=hd0 ht;have hn:=QJ6 QDz s;generalize hN:QCf QDz s=n at*;have HN:=hd0 hN;clear hN ht
 cases hl:QBN s[0].toNat <;> cases hb:QGs s[0].toNat <;> rw[hl,hb]at hLB <;> first|(exact absurd hLB (by decide))|skip
 all_goals
  rw[hl]at t0;rw[hb]at t4;clear hl hb hLB;go_enter func309,ntmps309;go_wp2
  go_quiet (fail)
  clear b1 t0 t4
  go_wp2_with fail
  refine(QHu cb tb s QDz 2 _ hs (by omega) (by rw[World.cell?_drewN];exact h2) (fun x hx=>by rw[World.cell?_drewN];exact HT.out.at_ 2 x (by omega) hx)).mono ?_;rintro e w' ⟨rfl,m0,rfl⟩;rw[HN.out];go_wp2
  go_loopw [5,6,7,39] (fun vm vl _ vk wr=>∃(k m:Nat) (letter:Bool),k≤n∧vm= .int .i64 m∧vl= .bool letter∧vk= .int .i64 k∧PlainAt s n k letter m∧∃q,wr=w.drewN q) (fun _ _ _ vk _=>n - (intOf vk).toNat)
  case atStart=>exact⟨0,0,false,Nat.zero_le _,rfl,rfl,rfl,⟨Nat.zero_le _,rfl,Nat.le_refl _⟩,_,rfl⟩
  case round=>
   obtain⟨k,m,letter,hk,rfl,rfl,rfl,HP,q,rfl⟩:=hrel
   by_cases hlt:k<n
   ·
    have hks:k<s.size:=by omega
    have b1:(s[k].toNat:Int)<256:=by have:=s[k].toNat_lt;omega
    have t0:=HT.out.at_ 0 s[k].toNat (by omega) (by have:=s[k].toNat_lt;omega);have t3:=HT.out.at_ 3 s[k].toNat (by omega) (by have:=s[k].toNat_lt;omega);simp only[cls,Nat.zero_mul,Nat.zero_add,Nat.reduceMul]at t0 t3;have HL:=hd0 (rfl:QBN s[k].toNat=QBN s[k].toNat);generalize hl:QBN s[k].toNat=L at*;generalize hf:QG0 s[k].toNat=F at*;have HS:=HP.step hlt hn hl hf;clear HL hl hf
    cases letter <;> cases L <;> cases F
    all_goals
     go_wp2
     go_quiet (fail)
     go_wp2
     go_quiet (fail)
     clear b1 t0 t3;go_wp2;go_roundw
     case rel=>
      first
       |exact⟨k+1,m,_,by omega,rfl,rfl,by go_num,by simpa using HS,_,rfl⟩
       |exact⟨k+1,k+1,_,by omega,by go_num,rfl,by go_num,by simpa using HS,_,rfl⟩
     case measure=>simp[intOf];omega
   ·
    obtain rfl:k=n:=by omega
    have HD:=hd0 (HP.done hn);go_wp2;go_ret;exact⟨QAO (by rw[HD.out]),_,rfl⟩
open Go.Proofs.YtjnclkakbopnjaaGreatDoorW.PrintLast
theorem pz:(∀(ts:Array Value) (ds:List Deferred) (t:Tmp) (v:Value),Act.put ⟨ts,ds⟩ (some t) v=⟨ts.setIfInBounds t v,ds⟩)∧(∀(l:List Value) (i:Nat) (a:Value),l.toArray.setIfInBounds i a=(l.set i a).toArray)∧(∀(x:Value) (xs:List Value) (a:Value),(x::xs).set 0 a=a::xs)∧(∀(x:Value) (xs:List Value) (i:Nat) (a:Value),(x::xs).set (i+1) a=x::xs.set i a)∧(∀n:Int,IntKind.i64.wrap n=wrap64 n)∧(∀n:Int,IntKind.i32.wrap n=wrap32 n):=
 ⟨fun _ _ _ _=>rfl,fun _ _ _=>List.setIfInBounds_toArray _ _ _,fun _ _ _=>rfl,fun _ _ _ _=>rfl,QT1,QT0⟩
def bsl:Nat→Nat→List Bool
 |0,_=> []
 |n+1,m=>(m % 2==1)::bsl n (m / 2)
def bs(n m:Nat):Array Bool:=⟨bsl n m⟩
section
variable {P : Program} {ops : Array Oper} {Q : Exit → Act → World → Prop} {md : Region.Mode} {S : World → Prop} {ds : List Nat}
def QTa(md:Region.Mode)(ops:Array Oper)(l:Array Bool)(i:Nat):Bool:=Region.noSelect ops&&Region.free md ops l i&&(Region.ready md ops l).contains i
def QTT(md:Region.Mode)(ops:Array Oper)(ds:List Nat)(l:Array Bool)(i:Nat):Bool:=Region.noSelect ops&&Region.free md ops l i&&(Region.ready md ops l).contains i&&Region.closedB md ops l&&Region.lastB md ops l ds i
theorem pu_(i:Nat)(t:Tmp){oi:Oper}{v:Value}{fuel:Nat}{l:Array Bool}{a a':Act}{w:World}(h:QAJ P md ops Q S ds fuel (l.setIfInBounds i true) a' w)
  (hi:ops[i]?=some oi:=by exact rfl) (hN:oi.dst=some t:=by exact rfl) (hc:QTa md ops l i=true:=by kernel_rfl) (hQ:∀c a w,Q (.panic c) (a.put oi.dst v) w→Q (.panic c) a w:=by exact fun _ _ _ h=>h)
  (hw:Region.wanted oi (yielded ops a.tmps)=true:=by exact rfl) (hy:∀w,(execOp a.eval oi).run P w= .ok (.value v) w:=by intro w';go_simp;first|with_reducible rfl|rw[if_pos (by omega)]) (ha:a.put (some t) v=a':=by simp only[pz];rfl):
  QAJ P md ops Q S ds (fuel+1) l a w:=
 QTD (l.setIfInBounds i true) hi hN (by unfold QTa at hc;unfold QTZ;rw[hc];simp) hQ (Or.inl ⟨hw,hy⟩) ha h
theorem of_(i:Nat)(t:Tmp){oi:Oper}{fuel:Nat}{l:Array Bool}{a a':Act}{w:World}(h:QAJ P md ops Q S ds fuel (l.setIfInBounds i true) a' w)
  (hi:ops[i]?=some oi:=by exact rfl) (hN:oi.dst=some t:=by exact rfl) (hc:QTa md ops l i=true:=by kernel_rfl) (hQ:∀c a w,Q (.panic c) (a.put oi.dst undef) w→Q (.panic c) a w:=by exact fun _ _ _ h=>h)
  (hw:Region.wanted oi (yielded ops a.tmps)=false:=by exact rfl) (ha:a.put (some t) undef=a':=by simp only[pz];rfl):
  QAJ P md ops Q S ds (fuel+1) l a w:=
 QTD (l.setIfInBounds i true) hi hN (by unfold QTa at hc;unfold QTZ;rw[hc];simp) hQ (Or.inr ⟨hw,rfl⟩) ha h
theorem tk_(i:Nat)(t:Tmp){oi:Oper}{v:Value}{fuel:Nat}{l:Array Bool}{a a':Act}{w:World}(hi:ops[i]?=some oi)(hN:oi.dst=some t)(hS:S w)(hy:∀w,S w→(execOp a.eval oi).run P w= .ok (.value v) w)(h:QAJ P md ops Q S ds fuel (l.setIfInBounds i true) a' w)
  (hc:QTT md ops ds l i=true:=by kernel_rfl) (hQ:∀c a w,Q (.panic c) (a.put oi.dst v) w→Q (.panic c) a w:=by exact fun _ _ _ h=>h)
  (hw:Region.wanted oi (yielded ops a.tmps)=true:=by exact rfl) (ha:a.put (some t) v=a':=by simp only[pz];rfl):
  QAJ P md ops Q S ds (fuel+1) l a w:=
 QUS (l.setIfInBounds i true) hi hN (by unfold QTT at hc;unfold QSC;rw[hc];simp) hQ (Or.inl ⟨hw,hy⟩) hS ha h
theorem on_(i:Nat)(N:Option Tmp){oi:Oper}{fuel:Nat}{l:Array Bool}{a:Act}{w:World}(hi:ops[i]?=some oi)(hN:oi.dst=N)
  (h:∀K:Act→World→Prop,Shut (∀a' w',S w'→(S w'→QAJ P md ops Q S ds fuel (l.setIfInBounds i true) a' w')→K a' w')→if Region.wanted oi (yielded ops a.tmps)=true then Oper.wp P oi a w K Q else K (a.put N undef) w)
  (hc:(Region.ready md ops l== [i])=true:=by kernel_rfl) (hd:i∉ds:=by decide):QAJ P md ops Q S ds (fuel+1) l a w:=
 one_ (l.setIfInBounds i true) hi hN (by unfold QOe;rw[hc];simp) hd h
theorem nm_ {fuel:Nat}{l:Array Bool}{a a':Act}{w:World}(h:QAJ P md ops Q S ds fuel l a' w)(ha:a=a':=by simp only[pz];rfl):QAJ P md ops Q S ds fuel l a w:=QT9 ha h
end
end Go.Proofs.YtjnclkakbopnjaaGreatDoor
