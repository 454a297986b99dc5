/- XFreB, XFreC, XFreD, XFreE, XFreF -/
import Derived.Test.YtjnclkakbopnjaaGreatDoorLot45
set_option linter.unusedSimpArgs false
set_option linter.unusedVariables false
set_option maxRecDepth 100000
set_option maxHeartbeats 16000000
namespace Go.Proofs.YtjnclkakbopnjaaGreatDoor
open Go.Proofs.Tryz
open Go.RowKit
structure Mv(g:Nat)(u u':Value)(w w':World):Prop where
 os:w'.os=w.os
 tape:w'.tape=w.tape
 output:w'.output=w.output
 size:w.heap.size≤w'.heap.size
 block:∀b,b<w.heap.size→b≠g→u.ownBlock≠some b→w'.heap[b]?=w.heap[b]?
 own:u'.ownBlock=u.ownBlock∨∃k,u'.ownBlock=some k∧w.heap.size≤k
theorem Mv.new {g:Nat}{u:Value}{w w':World}(hb:Below w.heap.size w w'):Mv g u u w w':=⟨hb.os,hb.tape,hb.output,hb.size,fun b h _ _=>hb.block b h,Or.inl rfl⟩
theorem Mv.trans {g:Nat}{u u1 u2:Value}{w w1 w2:World}(h:Mv g u u1 w w1)(k:Mv g u1 u2 w1 w2):Mv g u u2 w w2:=by
 refine⟨k.os.trans h.os,k.tape.trans h.tape,k.output.trans h.output,Nat.le_trans h.size k.size,fun b hb hg ho=>?_,?_⟩
 ·
  refine(k.block b (Nat.lt_of_lt_of_le hb h.size) hg (fun e=>?_)).trans (h.block b hb hg ho);rcases h.own with e1|⟨j,e1,hj⟩
  ·
   exact ho (e1.symm.trans e)
  ·
   rw[e1]at e;injection e with e
   omega
 ·
  rcases k.own with e|⟨j,e,hj⟩
  ·
   rcases h.own with e1|⟨j,e1,hj⟩
   ·
    exact Or.inl (e.trans e1)
   ·
    exact Or.inr ⟨j,e.trans e1,hj⟩
  ·
   exact Or.inr ⟨j,e,Nat.le_trans h.size hj⟩
theorem Mv.below {B g:Nat}{u u':Value}{W w w':World}(h:Mv g u u' w w')(hb:Below B W w)(hg:B≤g)(ho:∀k,u.ownBlock=some k→B≤k)(hB:B≤w.heap.size):Below B W w':=
 hb.trans ⟨h.os,h.tape,h.output,h.size,fun b hb=>h.block b (by omega) (by omega) (fun e=>by have:=ho b e;omega)⟩
def QPR(g:Nat)(u:Value):Nat→Prop:=fun b=>b=g∨u.ownBlock=some b
theorem Mv.off {g:Nat}{u u':Value}{w w':World}{P:World→Prop}(h:Mv g u u' w w')(hP:Off (QPR g u) w P):Off (QPR g u') w' P:=
 hP.step h.size (fun b hb hn=>h.block b hb (fun e=>hn (Or.inl e)) (fun e=>hn (Or.inr e))) (fun b hb hn=>by
  rcases hn with e|e
  ·
   exact Or.inl e
  ·
   rcases h.own with e1|⟨j,e1,hj⟩
   ·
    exact Or.inr (e1.symm.trans e)
   ·
    rw[e1]at e;injection e with e
    omega)
structure FOut(g base:Nat)(L:List ByteArray)(u:Value)(w:World):Prop where
 box:w.heap[g]?=some (.cells #[u] 26 (0,0))
 own:w.ownsRow base 9 1 u L.length (L.map Value.string)
 lt:g<base
 le:base≤w.heap.size
 small:∀s∈L,s.size≤QDP
theorem QF6 {w w':World}(hb:Below w.heap.size w w'):w.grownBy w' none:=⟨hb.os,hb.tape,hb.output,hb.size,fun k hk _=>hb.block k hk⟩
theorem FOut.under {g base:Nat}{L:List ByteArray}{u:Value}{w w':World}(h:FOut g base L u w)(hb:Below w.heap.size w w'):FOut g base L u w':=
 ⟨(hb.block g (Array.getElem?_eq_some_iff.1 h.box).1).trans h.box,h.own.kept (row:=none) (QF6 hb) (by cases u.ownBlock <;> simp),h.lt,Nat.le_trans h.le hb.size,h.small⟩
theorem FOut.gl {g base:Nat}{L:List ByteArray}{u:Value}{w:World}(h:FOut g base L u w):g<w.heap.size:=(Array.getElem?_eq_some_iff.1 h.box).1
theorem FOut.cell {g base:Nat}{L:List ByteArray}{u:Value}{w:World}(h:FOut g base L u w):w.cell? ⟨g,0,none⟩=some u:=by simp only[World.cell?,h.box];rfl
theorem FOut.fz {g base:Nat}{L:List ByteArray}{u:Value}{w:World}(h:FOut g base L u w):w.frozen? ⟨g,0,none⟩=false:=by simp[World.frozen?,h.box]
theorem FOut.ob {g base:Nat}{L:List ByteArray}{u:Value}{w:World}(h:FOut g base L u w):∀k,u.ownBlock=some k→base≤k:=fun k hk=>(h.own.lt k hk).1
theorem FOut.strs {g base:Nat}{L:List ByteArray}{u:Value}{w:World}(h:FOut g base L u w)(hn:L.length≤QES):StrL w u L:=StrL.own h.own hn h.small
theorem QGT(l:List ByteArray)(s:ByteArray):QMK l.length (fun j=>l.getD j ⟨#[]⟩) s=QAy l s:=by
 unfold QMK QAy;rw[Bool.eq_iff_iff,List.any_eq_true,List.any_eq_true];constructor
 ·
  rintro⟨i,hi,h⟩;have hi:=List.mem_range.1 hi;refine⟨l[i],List.getElem_mem hi,?_⟩
  simpa[List.getD_eq_getElem?_getD,List.getElem?_eq_getElem hi]using h
 ·
  rintro⟨x,hx,h⟩;obtain⟨i,hi,rfl⟩:=List.getElem_of_mem hx;exact⟨i,List.mem_range.2 hi,by simpa[List.getD_eq_getElem?_getD,List.getElem?_eq_getElem hi]using h⟩
theorem QPt(l:List ByteArray)(x s:ByteArray):QAy (l++ [x]) s=(QAy l s||(x.toList==s.toList)):=by
 unfold QAy;rw[List.any_append];simp
theorem QQ7 {n:Nat}{q:Nat→Bool}(h:∀j,j<n→q j=false):(List.range n).any q=false:=by
 rw[Bool.eq_false_iff];intro hh;obtain⟨j,hj,hq⟩:=List.any_eq_true.1 hh;rw[h j (List.mem_range.1 hj)]at hq
 cases hq
theorem QMr {W:World}{n:Nat}{p:Option Addr}{ks:Nat→ByteArray}(h:StrR W n p ks)(s:ByteArray)(w:World)(hW:Below W.heap.size W w)(c:Nat):
  Calls prog 92 #[.slice p n c,.string s] w fun e w'=>(∃r:Int,e= .returned (.int .i64 r)∧decide (0≤r)=QMK n ks s)∧w'=w:=by
 obtain⟨hn,A,hA,hK⟩:=h;have hn2:n≤1100000:=hn;have HA:=hd0 (hA.below hW);have HK:=hd0 hK;clear hn hA hK hW;go_enter func92,ntmps92;go_wp2
 go_loopw [8] (fun v8 wr=>∃i:Nat,i≤n∧v8= .int .i64 i∧Hid (∀j,j<i→((ks j).toList==s.toList)=false)∧wr=w) (fun v8 _=>n - (intOf v8).toNat)
 case atStart=>exact⟨0,Nat.zero_le _,rfl,hd0 (fun j hj=>absurd hj (Nat.not_lt_zero _)),rfl⟩
 case round=>
  obtain⟨i,hi,rfl,HI,rfl⟩:=hrel
  by_cases hlt:i<n
  ·
   have g0:decide ((i:Int)<n)=true:=decide_eq_true (by omega);have g1:(0:Int)≤i:=by omega
   have g2:(i:Int)<n:=by omega
   obtain⟨pb,po,rfl,hpc⟩:=HA.out.at_ (by omega);have a0:=hpc i hlt 0 (by decide);rw[(HK.out i hlt).1]at a0;simp only[Nat.add_zero,Nat.mul_one]at a0;clear hpc
   cases he:(s.toList==(ks i).toList)with
   |true=>
    have HV:=hd0 (show QMK n ks s=true from QIx hlt (by rw[eq_of_beq he];simp));go_wp2;go_ret;exact⟨⟨(i:Int),rfl,by rw[HV.out];exact decide_eq_true (by omega)⟩,rfl⟩
   |false=>
    have HV:=hd0 (show∀j,j<i+1→((ks j).toList==s.toList)=false from fun j hj=>by
     by_cases e:j=i
     ·
      subst e;rw[beq_eq_false_iff_ne]at he ⊢;exact fun h=>he h.symm
     ·
      exact HI.out j (by omega))
    go_wp2;go_roundw
    case rel=>exact⟨i+1,by omega,by go_num,HV,trivial⟩
    case measure=>simp[intOf];omega
  ·
   have g0:decide ((i:Int)<n)=false:=decide_eq_false (by omega);have HV:=hd0 (show QMK n ks s=false from QQ7 (fun j hj=>HI.out j (by omega)));go_wp2;go_ret;exact⟨⟨-1,rfl,by rw[HV.out];rfl⟩,rfl⟩
theorem QIm {W:World}{n:Nat}{p:Option Addr}{ks:Nat→ByteArray}(h:StrR W n p ks)(s:ByteArray)(w:World)(hW:Below W.heap.size W w)(c:Nat):
  Calls prog 46 #[.slice p n c,.string s] w fun e w'=>e= .returned (.bool (QMK n ks s))∧w'=w:=by
 have HI:=hd0 (QMr h s w hW c);clear h hW;go_enter func46,ntmps46
 go_wp2_with fail
 refine HI.out.mono ?_;rintro e w1 ⟨⟨r,rfl,hr⟩,rfl⟩;have HR:=hd0 hr;clear hr;go_wp2;go_ret;exact⟨by rw[←HR.out] <;> rfl,rfl⟩
theorem QDU(s:ByteArray)(b:Nat)(p:Option Addr)(w:World)(hb:w.cell? ⟨b,0,none⟩=some (.pointer p)):
  Calls prog 91 #[.string s,.pointer (some ⟨b,0,none⟩)] w fun e w'=>e= .returned (.pointer (some ⟨w.heap.size,0,none⟩))∧w'=w.alloc (.cells #[.string s,.string ⟨#[]⟩,.pointer p] 138):=by
 have lt:b<w.heap.size:=World.block_lt_of_cell? w _ hb;go_enter func91,ntmps91;go_wp2;go_ret;exact⟨rfl,rfl⟩
theorem QF3 {ops:Array Oper}{rest:List Oper}{oi:Oper}{a:Act}{Q:Exit→Act→World→Prop}{w7:World}(u:ByteArray)(hgd:oi.guard=none)(s x:Operand)
  (ho:oi.op= .call {callee:= .builtin .append,args:=#[s,x],argTypes:=#[26,26]}) (base:Nat) (v:Value) (n:Nat) (xs:List Value) (hs:a.eval s=v) (hown:w7.ownsRow base 9 1 v n xs)
  (hx:a.eval x= .slice (some ⟨w7.heap.size,0,none⟩) 1 1) (hn:n≤10000000) (hb:base≤w7.heap.size)
  (h:∀v' w',w'.ownsRow base 9 1 v' (n+1) (xs++ [.string u])→(w7.alloc (.cells #[.string u] 9)).grownBy w' v.ownBlock→(v'.ownBlock=v.ownBlock∨v'.ownBlock=some (w7.alloc (.cells #[.string u] 9)).heap.size)→wpList prog ops Q rest (a.put oi.dst v') w'):
  wpList prog ops Q (oi::rest) a (w7.alloc (.cells #[.string u] 9)):=by
 obtain⟨i0,hi0,hz0,hz1,hz2⟩:=info_parts QRT;refine wpList_append_own_at _ hgd s x 26 ho base 9 i0 _ 1 16 underlying26 hi0 hz0 hz1 hz2 rfl (by decide) v n xs hs (hown.kept (row:=none) ⟨rfl,rfl,rfl,by simp,fun j hj _=>Below.heap_alloc _ _ _ hj⟩ (by cases v.ownBlock <;> simp)) ⟨w7.heap.size,0,none⟩ 1 1 [.string u] hx (by simp) (fun j y hj=>?_) (fun y hy=>?_) (by unfold maxLen;omega) (by omega) (by rw[World.size_alloc];omega) (fun v' w' k1 k2 _ k4=>h v' w' k1 k2 k4)
 ·
  have hj0:j=0:=by
   have:=(List.getElem?_eq_some_iff.1 hj).1;simp at this;omega
  subst hj0;exact QAS w7 #[.string u] _ 0 y (by simpa using hj)
 ·
  simp at hy;subst hy;rfl
def QQO(L:List ByteArray)(s:ByteArray):List ByteArray:=if QAy L s then L else L++ [s]
theorem QNn {g base:Nat}{L:List ByteArray}{u:Value}{w:World}(h:FOut g base L u w)(hn:L.length≤100000)(s:ByteArray)(hs:s.size≤QDP):
  Calls prog 45 #[.string s,.pointer (some ⟨g,0,none⟩)] w fun e w'=>e= .returned (.tuple #[])∧∃u',FOut g base (QQO L s) u' w'∧Mv g u u' w w':=by
 have c0:=h.cell;have lt:=h.gl;obtain⟨q,c,rfl,hS, -⟩:=h.strs (by unfold QES;omega);have HC:=hd0 (QIm hS s w (Below.refl _ _) c);rw[QGT]at HC;have HO:=hd0 (And.intro h (And.intro hn hs));clear h hn hs hS;have HM:=hd0 (show QQO L s=if QAy L s then L else L++ [s] from rfl);generalize QAy L s=M at*;go_enter func45,ntmps45
 go_wp2_with fail
 refine HC.out.mono ?_;rintro e w1 ⟨rfl,rfl⟩
 cases M with
 |true=>
  go_wp2;refine bodyPost_end (v:= .tuple #[]) (by simp[results,results45,go_sem]) rfl ⟨rfl,_,?_,Mv.new (Below.refl _ _)⟩;rw[show QQO L s=L from HM.out];exact HO.out.1
 |false=>
  have hle:=HO.out.1.le
  go_wp2_with (refine QF3 s rfl (.tmp 7) (.tmp 9) rfl base (.slice q L.length c) L.length _ rfl HO.out.1.own rfl (by have:=HO.out.2.1;omega) hle ?_)
  intro v' w' how hgr hob;obtain⟨q',c',rfl, -⟩:=QIb how
  have hbx:w'.heap[g]?=some (.cells #[.slice q L.length c] 26 (0,0)):=by
   rw[hgr.block g (by rw[World.size_alloc];omega) (fun e=>by have:=HO.out.1.ob g e.symm;have:=HO.out.1.lt;omega)];exact(Below.heap_alloc _ _ _ HO.out.1.gl).trans HO.out.1.box
  have d0:w'.cell? ⟨g,0,none⟩=some (.slice q L.length c):=by simp only[World.cell?,hbx];rfl
  have f0:w'.frozen? ⟨g,0,none⟩=false:=by simp[World.frozen?,hbx]
  have hsz:=hgr.size;simp only[World.size_alloc]at hsz hob
  have HF:=hd0 (show FOut g base (QQO L s) (.slice q' (L.length+1) c') (w'.setCell ⟨g,0,none⟩ (.slice q' (L.length+1) c'))∧Mv g (.slice q L.length c) (.slice q' (L.length+1) c') w1 (w'.setCell ⟨g,0,none⟩ (.slice q' (L.length+1) c'))from by
   rw[show QQO L s=L++ [s] from HM.out];refine⟨⟨heap_setCell_same w' g 0 _ _ _ hbx,?_,HO.out.1.lt,?_,?_⟩,⟨hgr.os,hgr.tape,hgr.output,?_,?_,?_⟩⟩
   ·
    have h1:=ownsRow_setCell_below how (a:=⟨g,0,none⟩) HO.out.1.lt (.slice q' (L.length+1) c');rw[List.length_append,List.map_append];exact h1
   ·
    rw[show(w'.setCell ⟨g,0,none⟩ (.slice q' (L.length+1) c')).heap.size=w'.heap.size by simp[World.setCell]];omega
   ·
    intro x hx;rcases List.mem_append.1 hx with hx|hx
    ·
     exact HO.out.1.small x hx
    ·
     rw[List.mem_singleton.1 hx];exact HO.out.2.2
   ·
    rw[show(w'.setCell ⟨g,0,none⟩ (.slice q' (L.length+1) c')).heap.size=w'.heap.size by simp[World.setCell]];omega
   ·
    intro b hb hg ho;rw[heap_setCell_other w' ⟨g,0,none⟩ b _ hg,hgr.block b (by rw[World.size_alloc];omega) (fun e=>ho e.symm)];exact Below.heap_alloc _ _ _ hb
   ·
    rcases hob with e|e
    ·
     exact Or.inl e
    ·
     exact Or.inr ⟨_,e,by omega⟩)
  clear how hgr hob hbx hsz;go_wp2;refine bodyPost_end (v:= .tuple #[]) (by simp[results,results45,go_sem]) rfl ⟨rfl,_,HF.out.1,HF.out.2⟩
open Go.Proofs.YtjnclkakbopnjaaGreatDoorW.PrintLast
def chB(l:Bnd)(x:ByteArray):Bool:=l.any fun p=>p.1.toList==x.toList
theorem QFr(s t:ByteArray)(l:Bnd)(x:ByteArray):chB ((s,t)::l) x=((s.toList==x.toList)||chB l x):=rfl
theorem QJF {P:Program}{ops:Array Oper}{Q:Exit→Act→World→Prop}{oi:Oper}{N:Option Tmp}{a:Act}{w:World}{K:Act→World→Prop}{f:FuncId}{fn:Func}{xs:Array Operand}{ts:Array TypeId}(x:Operand)(hf:P.funcs[f]?=some fn)(hname:(fn.name== "runtime.NumGoroutine")=false)(hb:fn.body.isSome=true)(args cap:Array Value)
  (hw:Region.wanted oi (yielded ops a.tmps)=true) (hN:oi.dst=N) (hop:oi.op= .call {callee:= .value x,args:=xs,argTypes:=ts}) (hx:a.eval x= .func (.func f) #[] cap) (hargs:xs.map a.eval=args)
  (h:Calls P f (args++cap) w fun e w'=>∃v,e= .returned v∧K (a.put N v) w'):if Region.wanted oi (yielded ops a.tmps)=true then Oper.wp P oi a w K Q else K (a.put N undef) w:=by
 refine QRG f (args++cap) hw hN ?_ h;have he:=enters_ hf hname hb (args++cap) w;unfold execOp;simp[hop,hx,resolve,Deferred.ofValue,invoke,hargs,he]
structure FrS(W w:World)(E:Array Value)(p:Option Addr)(l:Bnd)(g base:Nat)(u:Value)(L:List ByteArray)(u':Value)(wx:World):Prop where
 below:Below W.heap.size W wx
 wg:W.heap.size≤g
 e:wx.heap[w.heap.size]?=some (.cells E 29 (0,0))
 i:wx.heap[w.heap.size+1]?=some (.cells #[.pointer p] 136 (0,0))
 out:FOut g base L u' wx
 gw:g<w.heap.size
 ch:Off (fun b=>QPR g u' b∨b=w.heap.size∨b=w.heap.size+1) wx (fun w=>Chain w p l)
 mv:Mv g u u' w wx
 ob:u'.ownBlock≠some w.heap.size∧u'.ownBlock≠some (w.heap.size+1)
section
variable {W w wx : World} {E : Array Value} {p : Option Addr} {l : Bnd} {g base : Nat} {u u' : Value} {L : List ByteArray}
theorem FrS.lt(h:FrS W w E p l g base u L u' wx):w.heap.size+1<wx.heap.size:=(Array.getElem?_eq_some_iff.1 h.i).1
theorem FrS.box(h:FrS W w E p l g base u L u' wx):BoxAt wx w.heap.size E:=QJE h.e
theorem FrS.ic(h:FrS W w E p l g base u L u' wx):wx.cell? ⟨w.heap.size+1,0,none⟩=some (.pointer p):=by simp only[World.cell?,h.i];rfl
theorem FrS.ifz(h:FrS W w E p l g base u L u' wx):wx.frozen? ⟨w.heap.size+1,0,none⟩=false:=by simp[World.frozen?,h.i]
theorem FrS.efz(h:FrS W w E p l g base u L u' wx)(j:Nat):wx.frozen? ⟨w.heap.size,j,none⟩=false:=by simp[World.frozen?,h.e]
theorem FrS.chain(h:FrS W w E p l g base u L u' wx):Off (QPR g u') wx (fun w=>Chain w p l):=h.ch.less fun _ h=>Or.inl h
theorem FrS.start(hW:Below W.heap.size W w)(hg:W.heap.size≤g)(hO:FOut g base L u w)(hC:Off (QPR g u) w (fun w=>Chain w p l)):
  FrS W w E p l g base u L u ((w.alloc (.cells E 29)).alloc (.cells #[.pointer p] 136)):=by
 have hb:Below w.heap.size w ((w.alloc (.cells E 29)).alloc (.cells #[.pointer p] 136)):=((Below.refl _ _).alloc (Nat.le_refl _) _).alloc (by simp) _;have h1:=heap_alloc_last w (.cells E 29);have h2:=heap_alloc_last (w.alloc (.cells E 29)) (.cells #[.pointer p] 136);rw[World.size_alloc]at h2;have h3:=hC.new (.cells E 29);have h4:=h3.new (.cells #[.pointer p] 136);rw[World.size_alloc]at h4;refine⟨hW.trans (hb.mono hW.size),hg,(Below.heap_alloc _ _ _ (by simp)).trans h1,h2,hO.under hb,hO.gl,h4.less fun b h=>?_,Mv.new hb,⟨fun h=>?_,fun h=>?_⟩⟩
 ·
  rcases h with h|h|h
  ·
   exact Or.inl (Or.inl h)
  ·
   exact Or.inl (Or.inr h)
  ·
   exact Or.inr h
 ·
  have:=(hO.own.lt _ h).2;omega
 ·
  have:=(hO.own.lt _ h).2;omega
theorem FrS.step {u2:Value}{L2:List ByteArray}{wy:World}(h:FrS W w E p l g base u L u' wx)(mv:Mv g u' u2 wx wy)(out:FOut g base L2 u2 wy):FrS W w E p l g base u L2 u2 wy:=by
 have hlt:=h.lt;have hgw:=h.gw
 have own:∀b,b<wx.heap.size→u2.ownBlock=some b→u'.ownBlock=some b:=fun b hb e=>by
  rcases mv.own with e1|⟨j,e1,hj⟩
  ·
   exact e1.symm.trans e
  ·
   rw[e1]at e;injection e with e
   omega
 refine⟨mv.below h.below h.wg (fun k hk=>by have:=h.out.ob k hk;have:=h.out.lt;have:=h.wg;omega) h.below.size,h.wg,(mv.block _ (by omega) (by omega) h.ob.1).trans h.e,(mv.block _ (by omega) (by omega) h.ob.2).trans h.i,out,h.gw,?_,h.mv.trans mv,⟨fun e=>h.ob.1 (own _ (by omega) e),fun e=>h.ob.2 (own _ (by omega) e)⟩⟩;refine h.ch.step mv.size (fun b hb hn=>mv.block b hb (fun e=>hn (Or.inl (Or.inl e))) (fun e=>hn (Or.inl (Or.inr e)))) (fun b hb hG=>?_);rcases hG with (e|e)|e
 ·
  exact Or.inl (Or.inl e)
 ·
  exact Or.inl (Or.inr (own b hb e))
 ·
  exact Or.inr e
theorem FrS.under {wy:World}(h:FrS W w E p l g base u L u' wx)(hb:Below wx.heap.size wx wy):FrS W w E p l g base u L u' wy:=h.step (Mv.new hb) (h.out.under hb)
theorem FrS.drew(h:FrS W w E p l g base u L u' wx):FrS W w E p l g base u L u' wx.drew:=h.under ((Below.refl _ _).drew)
theorem FrS.bind(h:FrS W w E p l g base u L u' wx)(s:ByteArray):
  FrS W w E p l g base u L u' (wx.alloc (.cells #[.string s,.string ⟨#[]⟩,.pointer p] 138))∧
  Off (fun b=>QPR g u' b∨b=w.heap.size∨b=w.heap.size+1) (wx.alloc (.cells #[.string s,.string ⟨#[]⟩,.pointer p] 138)) (fun w=>Chain w (some ⟨wx.heap.size,0,none⟩) ((s,⟨#[]⟩)::l)):=by
 have hlt:=h.lt;have hgl:=h.out.gl;have h1:=h.under ((Below.refl _ _).alloc (Nat.le_refl _) (.cells #[.string s,.string ⟨#[]⟩,.pointer p] 138));refine⟨h1,fun w' hs hk=>Chain.cons _ s ⟨#[]⟩ p l (fun j v hj=>?_) (h1.ch w' hs hk)⟩
 have hb:=hk wx.heap.size (by simp) (fun hG=>by
  rcases hG with (e|e)|e
  ·
   omega
  ·
   have:=(h.out.own.lt _ e).2;omega
  ·
   omega)
 rw[World.cell?_of_block (w:=wx.alloc (.cells #[.string s,.string ⟨#[]⟩,.pointer p] 138)) (a:=⟨wx.heap.size,j,none⟩) hb];exact QAS wx _ _ j v hj
theorem FrS.setIn {p':Option Addr}{l':Bnd}(h:FrS W w E p l g base u L u' wx)(hc:Off (fun b=>QPR g u' b∨b=w.heap.size∨b=w.heap.size+1) wx (fun w=>Chain w p' l')):
  FrS W w E p' l' g base u L u' (wx.setCell ⟨w.heap.size+1,0,none⟩ (.pointer p')):=by
 have hgw:=h.gw;have ho:∀k,k≠w.heap.size+1→(wx.setCell ⟨w.heap.size+1,0,none⟩ (.pointer p')).heap[k]?=wx.heap[k]?:=fun k hk=>heap_setCell_other wx ⟨w.heap.size+1,0,none⟩ k _ hk
 have hs:(wx.setCell ⟨w.heap.size+1,0,none⟩ (.pointer p')).heap.size=wx.heap.size:=by simp[World.setCell]
 have hWw:W.heap.size≤w.heap.size+1:=by have:=h.wg;omega
 refine⟨h.below.setCell hWw _,h.wg,(ho _ (by omega)).trans h.e,heap_setCell_same wx _ 0 _ _ (.pointer p') h.i,⟨(ho _ (by omega)).trans h.out.box,h.out.own.kept (row:=some (w.heap.size+1)) ⟨rfl,rfl,rfl,by rw[hs];exact Nat.le_refl _,fun k _ hk=>ho k (fun e=>hk (by rw[e]))⟩ (Or.inr h.ob.2),h.out.lt,by rw[hs];exact h.out.le,h.out.small⟩,h.gw,?_,⟨h.mv.os,h.mv.tape,h.mv.output,by rw[hs];exact h.mv.size,fun b hb hg hn=>(ho b (by omega)).trans (h.mv.block b hb hg hn),h.mv.own⟩,h.ob⟩;exact hc.step (by rw[hs];exact Nat.le_refl _) (fun b _ hn=>ho b (fun e=>hn (Or.inr (Or.inr e)))) (fun _ _ h=>h)
theorem FrS.setE(h:FrS W w E p l g base u L u' wx)(j:Nat)(v:Value):FrS W w (E.setIfInBounds j v) p l g base u L u' (wx.setCell ⟨w.heap.size,j,none⟩ v):=by
 have hgw:=h.gw;have ho:∀k,k≠w.heap.size→(wx.setCell ⟨w.heap.size,j,none⟩ v).heap[k]?=wx.heap[k]?:=fun k hk=>heap_setCell_other wx ⟨w.heap.size,j,none⟩ k _ hk
 have hs:(wx.setCell ⟨w.heap.size,j,none⟩ v).heap.size=wx.heap.size:=by simp[World.setCell]
 have hWw:W.heap.size≤w.heap.size:=by have:=h.wg;omega
 refine⟨h.below.setCell hWw _,h.wg,heap_setCell_same wx _ j _ _ v h.e,(ho _ (by omega)).trans h.i,⟨(ho _ (by omega)).trans h.out.box,h.out.own.kept (row:=some w.heap.size) ⟨rfl,rfl,rfl,by rw[hs];exact Nat.le_refl _,fun k _ hk=>ho k (fun e=>hk (by rw[e]))⟩ (Or.inr h.ob.1),h.out.lt,by rw[hs];exact h.out.le,h.out.small⟩,h.gw,?_,⟨h.mv.os,h.mv.tape,h.mv.output,by rw[hs];exact h.mv.size,fun b hb hg hn=>(ho b (by omega)).trans (h.mv.block b hb hg hn),h.mv.own⟩,h.ob⟩;exact h.ch.step (by rw[hs];exact Nat.le_refl _) (fun b _ hn=>ho b (fun e=>hn (Or.inr (Or.inl e)))) (fun _ _ h=>h)
end
def PFree(W:World)(e:Ex):Prop:=∀v,ExR W v e→∀(w:World) (g base:Nat) (p:Option Addr) (l:Bnd) (L:List ByteArray) (u:Value),Below W.heap.size W w→W.heap.size≤g→FOut g base L u w→Off (QPR g u) w (fun w=>Chain w p l)→L.length+e.siz≤50000→
 Calls prog 44 #[v,.pointer p,.func (.func 45) #[] #[.pointer (some ⟨g,0,none⟩)]] w fun r w'=>r= .returned (.tuple #[])∧∃u',FOut g base (e.fre (chB l) L) u' w'∧Mv g u u' w w'
structure FrZ(W w:World)(E:Array Value)(p:Option Addr)(wx:World):Prop where
 below:Below W.heap.size W wx
 box:BoxAt wx w.heap.size E
 ic:wx.cell? ⟨w.heap.size+1,0,none⟩=some (.pointer p)
theorem FrS.z {W w wx:World}{E:Array Value}{p:Option Addr}{l:Bnd}{g base:Nat}{u u':Value}{L:List ByteArray}(h:FrS W w E p l g base u L u' wx):FrZ W w E p wx:=⟨h.below,h.box,h.ic⟩
theorem FrZ.under {W w w1 w2:World}{E:Array Value}{p:Option Addr}(h:FrZ W w E p w1)(hb:Below w1.heap.size w1 w2):FrZ W w E p w2:=⟨h.below.trans (hb.mono h.below.size),fun j v hj=>QAA hb (h.box j v hj),QAA hb h.ic⟩
theorem QNj:QQ3 45:=⟨_,func45,by kernel_rfl,by kernel_rfl⟩
theorem QLY:QQ3 91:=⟨_,func91,by kernel_rfl,by kernel_rfl⟩
theorem PFree.of {W:World}(e:Ex)(hfit:e.fitB=true)(ih:∀i,i<e.len→PFree W (e.arg i))
  (H:∀(k num tk tl th:Int) (s ts:ByteArray) (tp pp pk pa:Option Addr) (tn tc np cp nk ck n ca:Nat) (tf:Nat→Ty) (pn:Nat→ByteArray) (pt:Nat→Ty) (ks:Nat→ByteArray) (f:Nat→Ex) (A:Nat→Nat→Value) (w:World) (g base:Nat) (p:Option Addr) (l:Bnd) (L:List ByteArray) (u:Value) (T:Nat→List ByteArray),
   e.k=k→e.nm=s→Below W.heap.size W w→W.heap.size≤g→FOut g base L u w→Off (QPR g u) w (fun w=>Chain w p l)→L.length≤50000→n≤1100000→(np≤6∧(k=3→n=0)∧(k=6→n=2)∧(k=6→(f 0).k=8→((f 0).nm.toList== [])=false→(f 0).nm.toList=s.toList)∧(k=8→n=1)∧(k=9→n=1∨n=2)∧∀i,i<n→(f i).fitB=true)→(∀i,T (i+1)=(f i).fre (fun x=>chB l x||QAy (e.inn i) x) (T i))→(T 0=if(k==3)&&(!chB l s&&!QAy L s) then L++ [s] else L)→(∀i,i<n→(T i).length+(f i).siz≤50000)→(s.size≤QDP∧TyR W (.agg #[.int .i64 tk,.string ts,.int .i64 tl,.int .i64 th,.slice tp tn tc]) (.mk tk tl th ts tn tf)∧ParR W np pp pn pt∧StrR W nk pk ks)→(nk≤ck∧n≤ca)→(∀i:Nat,e.inn i=if k=6 then(if((i:Int)==1)||(((f 0).k==8)&& !((f 0).nm.toList== [])) then [s] else []) else if k=8 then(if s.toList== [] then [] else [s])++(List.range np).map pn else if k=9 then(if((i:Int)==0)&& !(s.toList== []) then [s] else []) else [])→Row W 11 pa n A→(∀i,i<n→ExR W (QE6 (A i)) (f i))→(∀i,i<n→PFree W (f i))→
   Calls prog 44 #[.agg (Z9 k s num tk ts tl th tp tn tc pp np cp pk nk ck pa n ca),.pointer p,.func (.func 45) #[] #[.pointer (some ⟨g,0,none⟩)]] w fun r w'=>r= .returned (.tuple #[])∧∃u',FOut g base (T n) u' w'∧Mv g u u' w w'):PFree W e:=by
 intro v h w g base p l L u hW hg hO hC hn;have hnm:e.len≤1100000:=h.len_le;have hft:=e.fit_out hfit;rw[Ex.fre_eq];have hst:∀i,e.freTo (chB l) L (i+1)=(e.arg i).fre (fun x=>chB l x||QAy (e.inn i) x) (e.freTo (chB l) L i):=e.freTo_succ (chB l) L;have hz:e.freTo (chB l) L 0=if(e.k==3)&&(!chB l e.nm&&!QAy L e.nm) then L++ [e.nm] else L:=rfl
 have hsz:∀i,i<e.len→(e.freTo (chB l) L i).length+(e.arg i).siz≤50000:=fun i hi=>by
  have h1:=e.freTo_len (chB l) L i;have h2:=QKF hi (fun j=>(e.arg j).siz);have h3:=e.siz_eq;omega
 generalize e.freTo (chB l) L=T at*;obtain⟨k,s,num,tk,ts,tl,th,tp,tn,tc,pp,np,cp,pk,nk,ck,pa,n,ca,tf,pn,pt,ks,f,A,rfl,he,hA,hf⟩:=h.cells;have hmore:=((show ExR W _ (Ex.mk k num s (.mk tk tl th ts tn tf) np pn pt nk ks n f)from by rw[←he];exact h)).more;have hcaps:=h.caps;have hlen:e.len=n:=by rw[he];rfl
 have harg:∀i,e.arg i=f i:=fun i=>by rw[he];rfl
 have hnmE:e.nm=s:=by rw[he];rfl
 have hk:e.k=k:=by rw[he];rfl
 have hnp:e.npr=np:=by rw[he];rfl
 have hinn:∀i,e.inn i=if k=6 then(if((i:Int)==1)||(((f 0).k==8)&& !((f 0).nm.toList== [])) then [s] else []) else if k=8 then(if s.toList== [] then [] else [s])++(List.range np).map pn else if k=9 then(if((i:Int)==0)&& !(s.toList== []) then [s] else []) else []:=fun i=>by rw[he];rfl
 simp only[hlen,harg,hnmE,hk,hnp]at hft hst hz hsz ih hnm ⊢;exact H k num tk tl th s ts tp pp pk pa tn tc np cp nk ck n ca tf pn pt ks f A w g base p l L u T hk hnmE hW hg hO hC (by omega) hnm hft hst hz hsz hmore hcaps hinn hA hf ih
theorem QOT {W:World}(e:Ex)(hfit:e.fitB=true)(h3:e.k=3)(ih:∀i,i<e.len→PFree W (e.arg i)):PFree W e:=by
 refine PFree.of e hfit ih (fun k num tk tl th s ts tp pp pk pa tn tc np cp nk ck n ca tf pn pt ks f A w g base p l L u T hk hnmE hW hg hO hC hn hnm hft hst hz hsz hmore hcaps hinn hA hf ih=>?_);have h3:k=3:=by rw[←hk];exact h3
 clear hk hnmE;have n0:n=0:=hft.2.1 h3;subst n0 h3
 have HT:=hd0 (show T 0=if chB l s then L else QQO L s by
  rw[hz];unfold QQO
  cases chB l s <;> cases QAy L s <;> rfl)
 have HN:=hd0 (show L.length≤100000∧s.size≤QDP from⟨by omega,hmore.1⟩);have HW:=hd0 (And.intro hW (And.intro hg (And.intro hO hC)));clear hft hst hz hsz ih hnm hmore hcaps hinn hA hf hW hg hO hC hn;generalize T 0=TE at*;obtain⟨fn,hf,hname,hbody⟩:=QNj;have HF:=hd0 (And.intro hf (And.intro hname hbody));clear hf hname hbody;go_enter func44,ntmps44;go_upto_region 1 with fail;refine QA8 (fun wx=>Hid (FrS W w (Z9 3 s num tk ts tl th tp tn tc pp np cp pk nk ck pa 0 ca) p l g base u L u wx)) (hd0 (FrS.start HW.out.1 HW.out.2.1 HW.out.2.2.1 HW.out.2.2.2)) ?_;intro w1 H1;have c0:=H1.out.box 0 _ rfl;have ic:=H1.out.ic;go_wp2;clear c0 ic
 go_loopg [7] l.length (fun gg v7 wr=>∃p' l',v7= .pointer p'∧gg=l'.length∧Hid (Chain wr p' l'∧chB l' s=chB l s∧FrS W w (Z9 3 s num tk ts tl th tp tn tc pp np cp pk nk ck pa 0 ca) p l g base u L u wr))
 case atStart=>exact⟨p,l,rfl,rfl,hd0 ⟨H1.out.chain.out,rfl,H1.out⟩⟩
 case round=>
  obtain⟨p',l',rfl,rfl,HR⟩:=hrel;obtain⟨hc,hv,hS⟩:=HR.out;have b1:=hS.box 1 _ rfl
  cases hc with
  |nil=>
   have HV:=hd0 (show TE=QQO L s by rw[HT.out,←hv];rfl);have HS:=hd0 hS;clear hS hv HR H1 HT
   go_wp2_with fail
   refine(QNn HS.out.out HN.out.1 s HN.out.2).mono ?_;rintro r w2 ⟨rfl,u2,ho2,hm2⟩;have H2:=hd0 (show FOut g base TE u2 w2∧Mv g u u2 w w2 from⟨by rw[HV.out];exact ho2,HS.out.mv.trans hm2⟩);clear ho2 hm2;go_wp2;refine bodyPost_ret (v:= .tuple #[]) (by simp[results,results44,go_sem]) rfl ⟨rfl,_,H2.out.1,H2.out.2⟩
  |cons b' x y p'' l'' hb h=>
   have a0:=hb 0 _ rfl;have a2:=hb 2 _ rfl;have HN2:=hd0 h
   cases hX:(x.toList==s.toList)with
   |true=>
    have HV:=hd0 (show TE=L by rw[HT.out,←hv,QFr,hX];rfl);have HS:=hd0 hS;clear hS hv HR H1 HT hb h
    go_wp2_with fail
    go_quiet (fail)
    go_wp2;refine bodyPost_ret (v:= .tuple #[]) (by simp[results,results44,go_sem]) rfl ⟨rfl,_,by rw[HV.out];exact HS.out.out.under (QAB (Below.refl _ _) _),HS.out.mv.trans (Mv.new (QAB (Below.refl _ _) _))⟩
   |false=>
    have HV:=hd0 (show chB l'' s=chB l s by rw[←hv,QFr,hX];rfl);have HS:=hd0 hS;clear hS hv HR H1 hb h
    go_wp2_with fail
    go_quiet (fail)
    go_wp2
    go_roundg l''.length
    case measure=>simp
    case rel=>exact⟨p'',l'',rfl,rfl,hd0 ⟨HN2.out.under (QAB (Below.refl _ _) _),HV.out,HS.out.under (QAB (Below.refl _ _) _)⟩⟩
theorem QGL(e:Ex)(P:ByteArray→Bool)(out:List ByteArray):e.fre (fun x=>P x||QAy [] x) out=e.fre P out:=by
 congr 1
 funext x
 exact Bool.or_false _
theorem QNM(l:Bnd)(s t:ByteArray):(fun x=>chB l x||QAy [s] x)=chB ((s,t)::l):=by
 funext x
 rw[QFr,Bool.or_comm];unfold QAy;simp
theorem QOS {W:World}(e:Ex)(hfit:e.fitB=true)(h6:e.k=6)(ih:∀i,i<e.len→PFree W (e.arg i)):PFree W e:=by
 refine PFree.of e hfit ih (fun k num tk tl th s ts tp pp pk pa tn tc np cp nk ck n ca tf pn pt ks f A w g base p l L u T hk hnmE hW hg hO hC hn hnm hft hst hz hsz hmore hcaps hinn hA hf ih=>?_);have h6:k=6:=by rw[←hk];exact h6
 clear hk hnmE;have n2:n=2:=hft.2.2.1 h6;have in0:e.inn 0=if((f 0).k==8)&& !((f 0).nm.toList== []) then [s] else []:=by rw[hinn 0,if_pos h6];rfl
 have in1:e.inn 1= [s]:=by rw[hinn 1,if_pos h6];rfl
 have HT:=hd0 (show T 0=L∧T 1=(f 0).fre (chB l) (T 0)∧T 2=(f 1).fre (chB ((s,⟨#[]⟩)::l)) (T 1)∧(T 0).length+(f 0).siz≤50000∧(T 1).length+(f 1).siz≤50000 from by
  refine⟨by rw[hz,h6];rfl,?_,?_,hsz 0 (by omega),hsz 1 (by omega)⟩
  ·
   rw[hst 0,in0]
   cases hb:((f 0).k==8)&& !((f 0).nm.toList== [])with
   |true=>
    rw[Bool.and_eq_true]at hb;have h8:=eq_of_beq hb.1
    have hs:((f 0).nm.toList== [])=false:=by
     cases hh:(f 0).nm.toList== []with
     |false=>rfl
     |true=>rw[hh]at hb;exact absurd hb.2 (by decide)
    rw[if_pos rfl];exact(f 0).fre_fn s h8 hs (hft.2.2.2.1 h6 h8 hs) (chB l) (T 0)
   |false=>
    rw[if_neg (by decide)];exact QGL _ _ _
  ·
   rw[hst 1,in1,QNM l s ⟨#[]⟩])
 obtain⟨qb,qo,rfl, -⟩:=hA 0 (by omega)
 have HA0:=hd0 (show CellsAt W qb qo #[A 0 0,A 0 1,A 0 2,A 0 3,A 0 4,A 0 5,A 0 6,A 0 7,A 0 8,A 0 9,A 0 10] from by
  have:=hA.at11 (i:=0) (by omega) (X:=#[A 0 0,A 0 1,A 0 2,A 0 3,A 0 4,A 0 5,A 0 6,A 0 7,A 0 8,A 0 9,A 0 10]) rfl
  rwa[Nat.zero_mul,Nat.add_zero]at this)
 have HA1:=hd0 (show CellsAt W qb (qo+11) #[A 1 0,A 1 1,A 1 2,A 1 3,A 1 4,A 1 5,A 1 6,A 1 7,A 1 8,A 1 9,A 1 10] from by
  have:=hA.at11 (i:=1) (by omega) (X:=#[A 1 0,A 1 1,A 1 2,A 1 3,A 1 4,A 1 5,A 1 6,A 1 7,A 1 8,A 1 9,A 1 10]) rfl
  rwa[Nat.one_mul]at this)
 have HF:=hd0 hf;have HI:=hd0 ih;have HW:=hd0 (And.intro hW (And.intro hg (And.intro (show FOut g base (T 0) u w by rw[HT.out.1];exact hO) hC)));have HN2:=hd0 n2;have i0:(0:Int)<n:=by omega
 have i1:(1:Int)<n:=by omega
 clear hft hst hz hsz ih hnm hmore hcaps hinn hA hf hW hg hO hC hn in0 in1 n2;subst h6;go_enter func44,ntmps44;go_upto_region 1 with fail;refine QA8 (fun wx=>Hid (FrS W w (Z9 6 s num tk ts tl th tp tn tc pp np cp pk nk ck (some ⟨qb,qo,none⟩) n ca) p l g base u (T 0) u wx)) (hd0 (FrS.start HW.out.1 HW.out.2.1 HW.out.2.2.1 HW.out.2.2.2)) ?_;intro w1 H1;have c0:=H1.out.box 0 _ rfl;go_upto_region 10 with fail;refine QBr (n:=7) (S:=FrZ W w (Z9 6 s num tk ts tl th tp tn tc pp np cp pk nk ck (some ⟨qb,qo,none⟩) n ca) p) (ds:= []) (bs 7 0) (by kernel_rfl) rfl rfl H1.out.drew.z (fun hS=>?_);refine pu_ 0 37 ?_;refine tk_ 1 38 rfl rfl hS (by intro wz hz;have b10:=hz.box 10 _ rfl;go_simp;with_reducible rfl) ?_;refine pu_ 2 39 ?_;refine tk_ 3 40 rfl rfl hS (fun wz hz=>QAP 29 _ rfl qb qo #[A 0 0,A 0 1,A 0 2,A 0 3,A 0 4,A 0 5,A 0 6,A 0 7,A 0 8,A 0 9,A 0 10] _ underlying29 rfl infoEx (HA0.out.under hz.below)) ?_;refine tk_ 4 41 rfl rfl hS (by intro wz hz;have ic:=hz.ic;go_simp;with_reducible rfl) ?_;refine pu_ 5 42 ?_;refine on_ 6 (some 43) rfl rfl (fun K hK=>?_);refine QA6 func44 (by kernel_rfl) rfl #[.agg #[A 0 0,A 0 1,A 0 2,A 0 3,A 0 4,A 0 5,A 0 6,A 0 7,A 0 8,A 0 9,A 0 10],.pointer p,.func (.func 45) #[] #[.pointer (some ⟨g,0,none⟩)]] (by rfl) rfl rfl (by (try simp only[List.map_toArray,List.map_cons,List.map_nil]);first|done|rfl) ?_
 refine(HI.out 0 (by omega) (.agg #[A 0 0,A 0 1,A 0 2,A 0 3,A 0 4,A 0 5,A 0 6,A 0 7,A 0 8,A 0 9,A 0 10]) (HF.out 0 (by omega)) _ g base p l (T 0) u H1.out.drew.below H1.out.wg H1.out.drew.out H1.out.drew.chain (HT.out.2.2.2.1)).mono ?_;rintro r w2 ⟨rfl,u2,ho,hm⟩;rw[←HT.out.2.1]at ho;have H_w2:=hd0 (H1.out.drew.step hm ho);refine⟨_,rfl,hK.out _ _ H_w2.out.z (fun _=>?_)⟩;clear hK K ho hm;refine nm_ ?_;refine QCZ (by kernel_rfl) ?_;clear H1 c0;go_upto_region 11 with fail;refine QBr (n:=10) (S:=FrZ W w (Z9 6 s num tk ts tl th tp tn tc pp np cp pk nk ck (some ⟨qb,qo,none⟩) n ca) p) (ds:= []) (bs 10 0) (by kernel_rfl) rfl rfl H_w2.out.drew.z (fun hS=>?_);refine pu_ 0 44 ?_;refine tk_ 1 45 rfl rfl hS (by intro wz hz;have b10:=hz.box 10 _ rfl;go_simp;with_reducible rfl) ?_;refine pu_ 2 46 ?_;refine tk_ 3 47 rfl rfl hS (fun wz hz=>QAP 29 _ rfl qb (qo+11) #[A 1 0,A 1 1,A 1 2,A 1 3,A 1 4,A 1 5,A 1 6,A 1 7,A 1 8,A 1 9,A 1 10] _ underlying29 rfl infoEx (HA1.out.under hz.below)) ?_;refine pu_ 4 48 ?_;refine pu_ 5 49 ?_;refine tk_ 6 50 rfl rfl hS (by intro wz hz;have b1:=hz.box 1 _ rfl;go_simp;with_reducible rfl) ?_;refine pu_ 8 52 ?_;refine on_ 7 (some 51) rfl rfl (fun K hK=>?_);refine QJF (.tmp 48) func91 (by kernel_rfl) rfl #[.string s] #[.pointer (some ⟨w.heap.size+1,0,none⟩)] (by rfl) rfl rfl (by rfl) (by (try simp only[List.map_toArray,List.map_cons,List.map_nil]);first|done|rfl) ?_;refine(QDU s (w.heap.size+1) p _ hS.ic).mono ?_;rintro r wb ⟨hr,hwb⟩
 rw[show w2.drew.heap.size=w2.heap.size from rfl]at hr;subst hr;have hB:=hd0 (H_w2.out.drew.bind s);rw[←hwb]at hB;refine⟨_,rfl,hK.out _ _ hB.out.1.z (fun _=>?_)⟩;clear hK K hwb;refine nm_ ?_;refine on_ 9 (some 53) rfl rfl (fun K hK=>?_);refine QA6 func44 (by kernel_rfl) rfl #[.agg #[A 1 0,A 1 1,A 1 2,A 1 3,A 1 4,A 1 5,A 1 6,A 1 7,A 1 8,A 1 9,A 1 10],.pointer (some ⟨_,0,none⟩),.func (.func 45) #[] #[.pointer (some ⟨g,0,none⟩)]] (by rfl) rfl rfl (by (try simp only[List.map_toArray,List.map_cons,List.map_nil]);first|done|rfl) ?_;refine(HI.out 1 (by omega) (.agg #[A 1 0,A 1 1,A 1 2,A 1 3,A 1 4,A 1 5,A 1 6,A 1 7,A 1 8,A 1 9,A 1 10]) (HF.out 1 (by omega)) _ g base _ _ (T 1) u2 hB.out.1.below hB.out.1.wg hB.out.1.out (hB.out.2.less fun _ h=>Or.inl h) (HT.out.2.2.2.2)).mono ?_;rintro r w3 ⟨rfl,u3,ho,hm⟩;rw[←HT.out.2.2.1]at ho;have H_w3:=hd0 (hB.out.1.step hm ho);refine⟨_,rfl,hK.out _ _ H_w3.out.z (fun _=>?_)⟩;clear hK K ho hm;refine nm_ ?_;refine QCZ (by kernel_rfl) ?_;go_wp2;refine bodyPost_ret (v:= .tuple #[]) (by simp[results,results44,go_sem]) rfl ⟨rfl,_,by rw[HN2.out];exact H_w3.out.out,H_w3.out.mv⟩
theorem QK1 {W:World}(e:Ex)(hfit:e.fitB=true)(k3:e.k≠3)(k6:e.k≠6)(k8:e.k≠8)(k9:e.k≠9)(ih:∀i,i<e.len→PFree W (e.arg i)):PFree W e:=by
 refine PFree.of e hfit ih (fun k num tk tl th s ts tp pp pk pa tn tc np cp nk ck n ca tf pn pt ks f A w g base p l L u T hk hnmE hW hg hO hC hn hnm hft hst hz hsz hmore hcaps hinn hA hf ih=>?_);rw[hk]at k3 k6 k8 k9;clear hk hnmE
 have HTT:=hd0 (show∀j,j<n→T (j+1)=(f j).fre (chB l) (T j)∧(T j).length+(f j).siz≤50000 from fun j hj=>⟨by
  rw[hst j,hinn j,if_neg k6,if_neg k8,if_neg k9]
  exact QGL _ _ _,hsz j hj⟩)
 have HT0:=hd0 (show T 0=L from by rw[hz,show(k==3)=false from beq_eq_false_iff_ne.2 k3];rfl);have HAT:=hd0 hA;have HET:=hd0 hf;have HIT:=hd0 ih;have HW:=hd0 (And.intro hW (And.intro hg (And.intro (show FOut g base (T 0) u w by rw[HT0.out];exact hO) hC)));have e3:(k==3)=false:=beq_eq_false_iff_ne.2 k3;have e6:(k==6)=false:=beq_eq_false_iff_ne.2 k6;have e8:(k==8)=false:=beq_eq_false_iff_ne.2 k8;have e9:(k==9)=false:=beq_eq_false_iff_ne.2 k9;clear hft hst hz hsz ih hmore hcaps hinn hA hf hW hg hO hC hn k3 k6 k8 k9;go_enter func44,ntmps44;go_upto_region 1 with fail;refine QA8 (fun wx=>Hid (FrS W w (Z9 k s num tk ts tl th tp tn tc pp np cp pk nk ck pa n ca) p l g base u (T 0) u wx)) (hd0 (FrS.start HW.out.1 HW.out.2.1 HW.out.2.2.1 HW.out.2.2.2)) ?_;intro w1 H1;have c0:=H1.out.box 0 _ rfl;have b10:=H1.out.box 10 _ rfl
 go_wp2_with fail
 go_loopw [104] (fun v104 wr=>∃j:Nat,j≤n∧v104= .int .i64 j∧Hid (∃uj,FrS W w (Z9 k s num tk ts tl th tp tn tc pp np cp pk nk ck pa n ca) p l g base u (T j) uj wr)) (fun v104 _=>n - (intOf v104).toNat)
 case atStart=>exact⟨0,Nat.zero_le _,rfl,hd0 ⟨_,H1.out⟩⟩
 case round=>
  obtain⟨j,hj,rfl,HR⟩:=hrel;obtain⟨uj,hR⟩:=HR.out;have HR:=hd0 hR;clear hR;have ic:=HR.out.ic
  by_cases hlt:j<n
  ·
   have g0:decide ((j:Int)<(n:Nat))=true:=decide_eq_true (by omega);have g1:(0:Int)≤j:=by omega
   have g2:(j:Int)<(n:Nat):=by omega
   obtain⟨rb,ro,rfl, -⟩:=HAT.out j hlt;obtain⟨k3,s3,m3,a3,u3,l3,h3,p3,y3,z3,g3,v3,x3,j3,w3,o3,q3,r3,t3,tf3,pn3,pt3,ks3,ff3,AA3,hv3,he3, -, -⟩:=(HET.out j hlt).cells;have HCI:=hd0 ((HAT.out.at11 hlt hv3).under HR.out.below);have HV:=hd0 (show ExR W (.agg (Z9 k3 s3 m3 a3 u3 l3 h3 p3 y3 z3 g3 v3 x3 j3 w3 o3 q3 r3 t3)) (f j)from by rw[←hv3];exact HET.out j hlt);clear hv3 he3;have HNX:=hd0 (HR.out.under ((Below.refl _ _).alloc (Nat.le_refl _) (.cells #[.int .i64 k3,.string s3,.int .i64 m3,.int .i64 a3,.string u3,.int .i64 l3,.int .i64 h3,.slice p3 y3 z3,.slice g3 v3 x3,.slice j3 w3 o3,.slice q3 r3 t3] 29)));have ic2:=HNX.out.ic
   go_wp2_with (first
    |refine lc_ HCI.out ?_
    |refine QAK 29 (.tmp 11) (.tmp 107) rfl rfl rfl wr _ #[.int .i64 k3,.string s3,.int .i64 m3,.int .i64 a3,.string u3,.int .i64 l3,.int .i64 h3,.slice p3 y3 z3,.slice g3 v3 x3,.slice j3 w3 o3,.slice q3 r3 t3] rfl (by rfl) rfl infoEx rfl (by simp[Value.oneCell']) ?_
    |refine lb_ (QAS wr _ _) ?_)
   refine(HIT.out j hlt (.agg (Z9 k3 s3 m3 a3 u3 l3 h3 p3 y3 z3 g3 v3 x3 j3 w3 o3 q3 r3 t3)) HV.out _ g base _ _ (T j) uj HNX.out.below HNX.out.wg HNX.out.out HNX.out.chain (HTT.out j hlt).2).mono ?_;rintro r wn ⟨rfl,un,ho,hm⟩;rw[←(HTT.out j hlt).1]at ho;have HN:=hd0 (HNX.out.step hm ho);clear ho hm ic ic2;go_wp2;go_roundw
   case rel=>exact⟨j+1,by omega,by go_num,hd0 ⟨un,HN.out⟩⟩
   case measure=>simp[intOf];omega
  ·
   have g0:decide ((j:Int)<(n:Nat))=false:=decide_eq_false (by omega);have HV:=hd0 (show FrS W w (Z9 k s num tk ts tl th tp tn tc pp np cp pk nk ck pa n ca) p l g base u (T n) uj wr from by rw[show T n=T j from by congr 1;omega];exact HR.out);clear HR;go_wp2;refine bodyPost_end (v:= .tuple #[]) (by simp[results,results44,go_sem]) rfl ⟨rfl,_,HV.out.out,HV.out.mv⟩
end Go.Proofs.YtjnclkakbopnjaaGreatDoor
