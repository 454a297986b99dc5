/- XStepB, XSimA, XSimB, XSimC, XSimD -/
import Derived.Test.YtjnclkakbopnjaaGreatDoorLot16
import Derived.LoopN
set_option linter.unusedSimpArgs false
set_option linter.unusedVariables false
namespace Go.Proofs.YtjnclkakbopnjaaGreatDoor
open Go.Proofs.Tryz
open Go.RowKit
abbrev Z9(k:Int)(s:ByteArray)(m a:Int)(u:ByteArray)(l h:Int)(p:Option Addr)(y z:Nat)(g:Option Addr)(v x:Nat)(j:Option Addr)(b o:Nat)(q:Option Addr)(r t:Nat):Array Value:=#[.int .i64 k,.string s,.int .i64 m,.int .i64 a,.string u,.int .i64 l,.int .i64 h,.slice p y z,.slice g v x,.slice j b o,.slice q r t]
theorem QAG {w w1 w':World}{b:Nat}{X:Array Value}(h:Below w.heap.size w w1∧BoxAt w1 b X)(hb:Below w1.heap.size w1 w'):Below w.heap.size w w'∧BoxAt w' b X:=⟨h.1.trans (hb.mono h.1.size),fun j v hj=>QAA hb (h.2 j v hj)⟩
theorem QBk {Q:Exit→Act→World→Prop}{c:Code}{a:Act}{w:World}{X:Array Value}{t:TypeId}(h:∀wx,Hid (Below w.heap.size w wx∧BoxAt wx w.heap.size X)→c.wp prog Q a wx):c.wp prog Q a (w.alloc (.cells X t)):=
 h _ ⟨(Below.refl _ _).alloc (Nat.le_refl _) _,QAS w X t⟩
section
variable {ops : Array Oper} {Q : Exit → Act → World → Prop} {rest : List Oper} {oi : Oper} {a : Act} {w : World}
theorem lc_ {x:Operand}{b o:Nat}{X:Array Value}(hc:CellsAt w b o X)(h:wpList prog ops Q rest (a.put oi.dst (.agg X)) w)
  (hop:oi.op= .load 29 x:=by exact rfl) (hw:Region.wanted oi (yielded ops a.tmps)=true:=by exact rfl) (hx:a.eval x= .pointer (some ⟨b,o,none⟩):=by exact rfl) (hi:(prog.info? 29).map (·.size)=some X.size:=by exact infoEx):wpList prog ops Q (oi::rest) a w:=
 QA4 29 x hop hw b o X _ underlying29 hx hi hc h
theorem lb_ {x:Operand}{b:Nat}{X:Array Value}(hc:BoxAt w b X)(h:wpList prog ops Q rest (a.put oi.dst (.agg X)) w)
  (hop:oi.op= .load 29 x:=by exact rfl) (hw:Region.wanted oi (yielded ops a.tmps)=true:=by exact rfl) (hx:a.eval x= .pointer (some ⟨b,0,none⟩):=by exact rfl) (hi:(prog.info? 29).map (·.size)=some X.size:=by exact infoEx):wpList prog ops Q (oi::rest) a w:=
 QA4 29 x hop hw b 0 X _ underlying29 hx hi (fun j v hj=>by rw[Nat.zero_add];exact hc j v hj) h
end
structure Lie where
 n:Nat
 at_:Nat→Nat
 sh:Nat→Option (TypeId × Nat)
def Lie.le(L M:Lie):Prop:=L.n≤M.n∧(∀r,r<L.n→M.at_ r=L.at_ r)∧∀r s,L.sh r=some s→M.sh r=some s
theorem Lie.le_refl(L:Lie):L.le L:=⟨Nat.le_refl _,fun _ _=>rfl,fun _ _ h=>h⟩
theorem Lie.le_trans {L M N:Lie}(h:L.le M)(g:M.le N):L.le N:=
 ⟨Nat.le_trans h.1 g.1,fun r hr=>(g.2.1 r (Nat.lt_of_lt_of_le hr h.1)).trans (h.2.1 r hr),fun r s hs=>g.2.2 r s (h.2.2 r s hs)⟩
inductive VR (P:Program) (L:Lie):Value→Value→Prop
 |bool (b:Bool):VR P L (.bool b) (.bool b)
 |int (k:IntKind) (i:Int):VR P L (.int k i) (.int k i)
 |string (s:ByteArray):VR P L (.string s) (.string s)
 |nilP:VR P L (.pointer none) (.pointer none)
 |ptr (b o:Nat) (h:b<L.n):VR P L (.pointer (some ⟨b,o,none⟩)) (.pointer (some ⟨L.at_ b,o,none⟩))
 |nilS (l c:Nat):VR P L (.slice none l c) (.slice none l c)
 |slice (b o l c c':Nat) (h:b<L.n) (hc:c'=c∨(c≤c'∧∃e m,L.sh (L.at_ b)=some (e,m)∧o+c'*P.cellsOf e≤m)):
   VR P L (.slice (some ⟨b,o,none⟩) l c) (.slice (some ⟨L.at_ b,o,none⟩) l c')
 |nilM:VR P L (.map none) (.map none)
 |map (r:Nat) (h:r<L.n):VR P L (.map (some r)) (.map (some (L.at_ r)))
 |func (fn:Fn) (xs us ys vs:Array Value) (h1:xs.size=us.size) (h2:ys.size=vs.size)
   (g1:∀i,i<xs.size→VR P L (xs.getD i undef) (us.getD i undef)) (g2:∀i,i<ys.size→VR P L (ys.getD i undef) (vs.getD i undef)):VR P L (.func fn xs ys) (.func fn us vs)
 |nilF:VR P L .nilFunc .nilFunc
 |nilI:VR P L .nilIface .nilIface
 |iface (t:TypeId) (v v':Value) (h:VR P L v v'):VR P L (.iface t v) (.iface t v')
 |agg (xs us:Array Value) (h:xs.size=us.size) (g:∀i,i<xs.size→VR P L (xs.getD i undef) (us.getD i undef)):VR P L (.agg xs) (.agg us)
 |tuple (xs us:Array Value) (h:xs.size=us.size) (g:∀i,i<xs.size→VR P L (xs.getD i undef) (us.getD i undef)):VR P L (.tuple xs) (.tuple us)
def AR(P:Program)(L:Lie)(xs us:Array Value):Prop:=xs.size=us.size∧∀i,i<xs.size→VR P L (xs.getD i undef) (us.getD i undef)
theorem VR.mono {P:Program}{L M:Lie}(hl:L.le M){v v':Value}(h:VR P L v v'):VR P M v v':=by
 induction h with
 |bool b=>exact .bool b
 |int k i=>exact .int k i
 |string s=>exact .string s
 |nilP=>exact .nilP
 |ptr b o h=>rw[←hl.2.1 b h];exact .ptr b o (Nat.lt_of_lt_of_le h hl.1)
 |nilS l c=>exact .nilS l c
 |slice b o l c c' h hc=>
  rw[←hl.2.1 b h];refine .slice b o l c c' (Nat.lt_of_lt_of_le h hl.1) (hc.imp id ?_);rintro⟨h1,e,m,h2,h3⟩;exact⟨h1,e,m,by rw[hl.2.1 b h];exact hl.2.2 _ _ h2,h3⟩
 |nilM=>exact .nilM
 |map r h=>rw[←hl.2.1 r h];exact .map r (Nat.lt_of_lt_of_le h hl.1)
 |func fn xs us ys vs h1 h2 _ _ i1 i2=>exact .func fn xs us ys vs h1 h2 i1 i2
 |nilF=>exact .nilF
 |nilI=>exact .nilI
 |iface t v v' _ ih=>exact .iface t v v' ih
 |agg xs us h _ ih=>exact .agg xs us h ih
 |tuple xs us h _ ih=>exact .tuple xs us h ih
theorem AR.mono {P:Program}{L M:Lie}(hl:L.le M){xs us:Array Value}(h:AR P L xs us):AR P M xs us:=⟨h.1,fun i hi=>(h.2 i hi).mono hl⟩
theorem VR.undef {P:Program}{L:Lie}:VR P L undef undef:= .tuple #[] #[] rfl (fun i h=>absurd h (by simp))
theorem AR.getD {P:Program}{L:Lie}{xs us:Array Value}(h:AR P L xs us)(i:Nat):VR P L (xs.getD i undef) (us.getD i undef):=by
 by_cases hi:i<xs.size
 ·
  exact h.2 i hi
 ·
  have hi':¬i<us.size:=by rw[←h.1];exact hi
  have e1:xs.getD i Go.undef=Go.undef:=by simp[Array.getD,hi]
  have e2:us.getD i Go.undef=Go.undef:=by simp[Array.getD,hi']
  rw[e1,e2];exact .undef
theorem AR.nil {P:Program}{L:Lie}:AR P L #[] #[]:=⟨rfl,fun i h=>absurd h (by simp)⟩
def QA1:Value→Bool
 | .bool _| .int _ _| .string _| .pointer none| .slice none _ _| .map none| .nilFunc| .nilIface=>true
 | .func _ xs ys=>xs.isEmpty&&ys.isEmpty
 |_=>false
def QJP:Value→Bool
 | .agg cs| .tuple cs=>cs.all QA1
 |v=>QA1 v
theorem VR.of_flat1 {P:Program}{L:Lie}{v:Value}(h:QA1 v=true):VR P L v v:=by
 cases v with
 |bool b=>exact .bool b
 |int k i=>exact .int k i
 |string s=>exact .string s
 |pointer a=>cases a with
  |none=>exact .nilP
  |some a=>cases h
 |slice a l c=>cases a with
  |none=>exact .nilS l c
  |some a=>cases h
 |map r=>cases r with
  |none=>exact .nilM
  |some a=>cases h
 |func fn xs ys=>
  simp only[QA1,Bool.and_eq_true,Array.isEmpty_iff]at h;obtain⟨rfl,rfl⟩:=h;exact .func fn _ _ _ _ rfl rfl (fun i h=>absurd h (by simp)) (fun i h=>absurd h (by simp))
 |nilFunc=>exact .nilF
 |nilIface=>exact .nilI
 |_=>cases h
theorem QFo {f:Value→Bool}{xs:Array Value}(h:xs.all f=true){i:Nat}(hi:i<xs.size):f (xs.getD i undef)=true:=by
 rw[Array.all_eq_true]at h;have:=h i hi
 simpa[Array.getD,hi]using this
theorem VR.of_flat {P:Program}{L:Lie}{v:Value}(h:QJP v=true):VR P L v v:=by
 cases v with
 |agg cs=>exact .agg cs cs rfl fun i hi=> .of_flat1 (QFo h hi)
 |tuple cs=>exact .tuple cs cs rfl fun i hi=> .of_flat1 (QFo h hi)
 |_=>exact .of_flat1 h
theorem VR.eq_of_flat1 {P:Program}{L:Lie}{v v':Value}(h:VR P L v v')(hf:QA1 v=true):v'=v:=by
 cases h with
 |func fn xs us ys vs h1 h2 _ _=>
  simp only[QA1,Bool.and_eq_true,Array.isEmpty_iff]at hf;obtain⟨rfl,rfl⟩:=hf;have e1:us=#[]:=Array.eq_empty_of_size_eq_zero h1.symm;have e2:vs=#[]:=Array.eq_empty_of_size_eq_zero h2.symm;rw[e1,e2]
 |_=>first|rfl|cases hf
def MR(P:Program)(L:Lie)(x y:MapEntry):Prop:=x.key=y.key∧QA1 x.key=true∧x.born=y.born∧VR P L x.val y.val
def OR(P:Program)(L:Lie):Obj→Obj→Prop
 | .cells xs e fz,.cells us e' fz'=>e'=e∧fz=(0,0)∧fz'=(0,0)∧xs.size≤us.size∧∀i,i<xs.size→VR P L (xs.getD i undef) (us.getD i undef)
 | .map es k,.map fs k'=>k'=k∧es.size=fs.size∧∀(i:Nat) (x y:MapEntry),es[i]?=some x→fs[i]?=some y→MR P L x y
 |_,_=>False
def QE7:Obj→Bool
 | .cells .. | .map .. =>true
 |_=>false
theorem OR.mono {P:Program}{L M:Lie}(hl:L.le M){o o':Obj}(h:OR P L o o'):OR P M o o':=by
 unfold OR at h ⊢
 split at h
 ·
  exact⟨h.1,h.2.1,h.2.2.1,h.2.2.2.1,fun i hi=>(h.2.2.2.2 i hi).mono hl⟩
 ·
  exact⟨h.1,h.2.1,fun i x y hx hy=>⟨(h.2.2 i x y hx hy).1,(h.2.2 i x y hx hy).2.1,(h.2.2 i x y hx hy).2.2.1,(h.2.2 i x y hx hy).2.2.2.mono hl⟩⟩
 ·
  exact h.elim
def QLa:Obj→Bool
 | .view .. | .pending .. =>true
 |_=>false
structure Sim(P:Program)(B G:Nat)(w0:World)(L:Lie)(c w:World):Prop where
 n:L.n=c.heap.size
 sh:L.sh=w.shape?
 glob:∀g,g<G→L.at_ g=g
 gle:G≤L.n
 ble:B≤L.n
 inj:∀r s o o',c.heap[r]?=some o→c.heap[s]?=some o'→QE7 o=true→QE7 o'=true→L.at_ r=L.at_ s→r=s
 obj:∀r o,c.heap[r]?=some o→QE7 o=true→∃o',w.heap[L.at_ r]?=some o'∧OR P L o o'
 fresh:∀r,B≤r→r<L.n→w0.heap.size≤L.at_ r
 below:Below w0.heap.size w0 w
 nov:∀(r:Nat) (o:Obj),c.heap[r]?=some o→QLa o=false
variable {P : Program} {B G : Nat} {w0 : World}
theorem cell?_some {w:World}{b o:Nat}{v:Value}(h:w.cell? ⟨b,o,none⟩=some v):∃xs e fz,w.heap[b]?=some (.cells xs e fz)∧xs[o]?=some v:=by
 unfold World.cell? at h
 split at h
 ·
  rename_i xs e fz hh;exact⟨xs,e,fz,hh,by simpa using h⟩
 ·
  cases h
theorem cell?_of {w:World}{b o:Nat}{xs:Array Value}{e:TypeId}{fz:Nat × Nat}(h:w.heap[b]?=some (.cells xs e fz)):w.cell? ⟨b,o,none⟩=xs[o]?:=by
 unfold World.cell?;simp only[h];simp
theorem getD_of_getElem? {xs:Array Value}{i:Nat}{v:Value}(h:xs[i]?=some v):i<xs.size∧xs.getD i undef=v:=by
 obtain⟨hi,he⟩:=Array.getElem?_eq_some_iff.1 h;exact⟨hi,by simp[Array.getD,hi,he]⟩
theorem getElem?_of_getD {xs:Array Value}{i:Nat}(h:i<xs.size):xs[i]?=some (xs.getD i undef):=by
 simp[Array.getD,h]
theorem Sim.cells {L:Lie}{c w:World}(h:Sim P B G w0 L c w){b:Nat}{xs:Array Value}{e:TypeId}{fz:Nat × Nat}(hc:c.heap[b]?=some (.cells xs e fz)):
  b<L.n∧∃us,w.heap[L.at_ b]?=some (.cells us e (0,0))∧fz=(0,0)∧xs.size≤us.size∧∀i,i<xs.size→VR P L (xs.getD i undef) (us.getD i undef):=by
 refine⟨by rw[h.n];exact(Array.getElem?_eq_some_iff.1 hc).1,?_⟩;obtain⟨o',ho,hr⟩:=h.obj b _ hc rfl
 cases o' with
 |cells us e' fz'=>
  obtain⟨rfl,h1,rfl,h2,h3⟩:=hr;exact⟨us,ho,h1,h2,h3⟩
 |_=>exact hr.elim
theorem Sim.load {L:Lie}{c w:World}(h:Sim P B G w0 L c w){b o:Nat}{v:Value}(hc:c.cell? ⟨b,o,none⟩=some v):
  b<L.n∧∃v',w.cell? ⟨L.at_ b,o,none⟩=some v'∧VR P L v v':=by
 obtain⟨xs,e,fz,hh,hx⟩:=cell?_some hc;obtain⟨hb,us,hw,_,hs,hv⟩:=h.cells hh;obtain⟨hi,he⟩:=getD_of_getElem? hx;refine⟨hb,us.getD o undef,?_,?_⟩
 ·
  rw[cell?_of hw,getElem?_of_getD (by omega)]
 ·
  rw[←he];exact hv o hi
theorem frozen?_zero {w:World}{b o:Nat}{xs:Array Value}{e:TypeId}(h:w.heap[b]?=some (.cells xs e (0,0))):w.frozen? ⟨b,o,none⟩=false:=by
 unfold World.frozen?;simp only[h];simp
theorem heap_setCell(w:World)(b o:Nat)(v:Value)(j:Nat):(w.setCell ⟨b,o,none⟩ v).heap[j]?=
  if b=j then(w.heap[j]?).map (fun x=>match x with| .cells c elem fz=> .cells (c.setIfInBounds o v) elem fz|o=>o) else w.heap[j]?:=by
 unfold World.setCell;simp only[Array.getElem?_modify]
 split
 ·
  congr 1
 ·
  rfl
theorem shape?_setCell'(w:World)(b o:Nat)(v:Value):(w.setCell ⟨b,o,none⟩ v).shape?=w.shape?:=by
 funext r
 unfold World.shape?;rw[heap_setCell]
 by_cases hb:b=r
 ·
  rw[if_pos hb]
  cases hr:w.heap[r]? with
  |none=>rfl
  |some x=>cases x <;> simp
 ·
  rw[if_neg hb]
theorem QEt(w:World)(a:Addr)(v:Value):(w.setCell a v).heap.size=w.heap.size:=by simp[World.setCell]
theorem Sim.store {L:Lie}{c w:World}(h:Sim P B G w0 L c w){b o:Nat}{v v':Value}(hv:VR P L v v')(hb:B≤b)(hc:(c.cell? ⟨b,o,none⟩).isSome=true):
  (w.cell? ⟨L.at_ b,o,none⟩).isSome=true∧w.frozen? ⟨L.at_ b,o,none⟩=false∧c.frozen? ⟨b,o,none⟩=false∧Sim P B G w0 L (c.setCell ⟨b,o,none⟩ v) (w.setCell ⟨L.at_ b,o,none⟩ v'):=by
 obtain⟨v0,hv0⟩:=Option.isSome_iff_exists.1 hc;obtain⟨xs,e,fz,hh,hx⟩:=cell?_some hv0;obtain⟨hbn,us,hw,rfl,hs,hvs⟩:=h.cells hh;obtain⟨hi,_⟩:=getD_of_getElem? hx;refine⟨?_,frozen?_zero hw,frozen?_zero hh,?_⟩
 ·
  rw[cell?_of hw,getElem?_of_getD (by omega)];rfl
 ·
  refine⟨by rw[QEt];exact h.n,by rw[shape?_setCell'];exact h.sh,h.glob,h.gle,h.ble,?_,?_,h.fresh,?_,?_⟩
  ·
   intro r s o1 o2 h1 h2 a1 a2 he;rw[heap_setCell]at h1 h2
   have key:∀(r:Nat) (o1:Obj),(if b=r then(c.heap[r]?).map (fun x=>match x with| .cells c elem fz=>Obj.cells (c.setIfInBounds o v) elem fz|o=>o) else c.heap[r]?)=some o1→QE7 o1=true→
     ∃o2,c.heap[r]?=some o2∧QE7 o2=true:=by
    intro r o1 h1 a1
    split at h1
    ·
     rename_i hbr;subst hbr;exact⟨_,hh,rfl⟩
    ·
     exact⟨_,h1,a1⟩
   obtain⟨p1,q1,r1⟩:=key r o1 h1 a1;obtain⟨p2,q2,r2⟩:=key s o2 h2 a2;exact h.inj r s p1 p2 q1 q2 r1 r2 he
  ·
   intro r o1 h1 a1;rw[heap_setCell]at h1
   by_cases hbr:b=r
   ·
    subst hbr;rw[if_pos rfl,hh]at h1;injection h1 with h1
    subst h1;refine⟨.cells (us.setIfInBounds o v') e (0,0),?_,?_⟩
    ·
     rw[heap_setCell,if_pos rfl,hw];rfl
    ·
     refine⟨rfl,rfl,rfl,by simpa using hs,fun i hi'=>?_⟩;simp only[Array.size_setIfInBounds]at hi'
     by_cases hio:o=i
     ·
      subst hio;have e1:(xs.setIfInBounds o v).getD o undef=v:=by simp[Array.getD,hi]
      have e2:(us.setIfInBounds o v').getD o undef=v':=by simp[Array.getD,show o<us.size by omega]
      rw[e1,e2];exact hv
     ·
      have e1:(xs.setIfInBounds o v).getD i undef=xs.getD i undef:=by simp[Array.getD,hi',Array.getElem_setIfInBounds,hio]
      have e2:(us.setIfInBounds o v').getD i undef=us.getD i undef:=by simp[Array.getD,show i<us.size by omega,Array.getElem_setIfInBounds,hio]
      rw[e1,e2];exact hvs i hi'
   ·
    rw[if_neg hbr]at h1;obtain⟨o',ho',hr'⟩:=h.obj r o1 h1 a1;refine⟨o',?_,hr'⟩;rw[heap_setCell,if_neg,ho'];intro hcon;exact hbr (h.inj b r _ _ hh h1 rfl a1 hcon)
  ·
   exact h.below.setCell (p:=⟨L.at_ b,o,none⟩) (h.fresh b hb hbn) v'
  ·
   intro r x hx;rw[heap_setCell]at hx
   split at hx
   ·
    rename_i hbr;subst hbr;rw[hh]at hx;injection hx with hx
    subst hx;rfl
   ·
    exact h.nov r x hx
def Lie.grow(L:Lie)(w:World)(o':Obj):Lie:=⟨L.n+1,fun r=>if r=L.n then w.heap.size else L.at_ r,World.shape? {w with heap:=w.heap.push o'}⟩
theorem shape?_push(w:World)(o':Obj)(r:Nat)(s:TypeId × Nat)(h:w.shape? r=some s):World.shape? {w with heap:=w.heap.push o'} r=some s:=by
 unfold World.shape? at h ⊢
 have:r<w.heap.size:=by
  rcases Nat.lt_or_ge r w.heap.size with hl|hl
  ·
   exact hl
  ·
   rw[Array.getElem?_eq_none hl]at h;cases h
 simp only[Array.getElem?_push,show¬r=w.heap.size by omega,if_false];exact h
theorem Lie.le_grow {L:Lie}{c w:World}(h:Sim P B G w0 L c w)(o':Obj):L.le (L.grow w o'):=
 ⟨Nat.le_succ _,fun r hr=>by show(if r=L.n then _ else _)=_;rw[if_neg (by omega)],fun r s hs=>shape?_push w o' r s (by rw[←h.sh];exact hs)⟩
theorem QHy {L:Lie}{c w:World}(h:Sim P B G w0 L c w){r:Nat}{o:Obj}(hr:c.heap[r]?=some o)(ha:QE7 o=true):L.at_ r<w.heap.size:=by
 obtain⟨o',ho,_⟩:=h.obj r o hr ha;exact(Array.getElem?_eq_some_iff.1 ho).1
theorem Sim.new {L:Lie}{c w:World}(h:Sim P B G w0 L c w){o o':Obj}(ho:OR P (L.grow w o') o o'∨QE7 o=false)(hv:QLa o=false):
  Sim P B G w0 (L.grow w o') {c with heap:=c.heap.push o} {w with heap:=w.heap.push o'}:=by
 have hle:=Lie.le_grow h o';have hold:∀r,r<L.n→(L.grow w o').at_ r=L.at_ r:=fun r hr=>hle.2.1 r hr
 have hnew:(L.grow w o').at_ L.n=w.heap.size:=by show(if L.n=L.n then _ else _)=_;rw[if_pos rfl]
 have hcn:=h.n
 have split:∀r x,(c.heap.push o)[r]?=some x→(r<L.n∧c.heap[r]?=some x)∨(r=L.n∧x=o):=by
  intro r x hx;rw[Array.getElem?_push]at hx
  split at hx
  ·
   rename_i he;injection hx with hx
   exact Or.inr ⟨by rw[he,hcn],hx.symm⟩
  ·
   exact Or.inl ⟨by rw[hcn];exact(Array.getElem?_eq_some_iff.1 hx).1,hx⟩
 refine⟨by show L.n+1=(c.heap.push o).size;rw[Array.size_push,hcn],rfl,fun g hg=>?_,Nat.le_succ_of_le h.gle,Nat.le_succ_of_le h.ble,?_,?_,?_,?_,?_⟩
 ·
  rw[hold g (Nat.lt_of_lt_of_le hg h.gle)];exact h.glob g hg
 ·
  intro r s x y hr hs ax ay he;rcases split r x hr with ⟨hr1,hr2⟩|⟨rfl,rfl⟩ <;> rcases split s y hs with ⟨hs1,hs2⟩|⟨rfl,rfl⟩
  ·
   rw[hold r hr1,hold s hs1]at he;exact h.inj r s x y hr2 hs2 ax ay he
  ·
   rw[hold r hr1,hnew]at he;have:=QHy h hr2 ax;omega
  ·
   rw[hold s hs1,hnew]at he;have:=QHy h hs2 ay;omega
  ·
   rfl
 ·
  intro r x hr ax;rcases split r x hr with ⟨hr1,hr2⟩|⟨rfl,rfl⟩
  ·
   obtain⟨x',hx',hor⟩:=h.obj r x hr2 ax;refine⟨x',?_,hor.mono hle⟩;rw[hold r hr1];show(w.heap.push o')[L.at_ r]?=_;rw[Array.getElem?_push,if_neg (by have:=QHy h hr2 ax;omega)];exact hx'
  ·
   refine⟨o',?_,?_⟩
   ·
    rw[hnew];show(w.heap.push o')[w.heap.size]?=_;simp
   ·
    rcases ho with ho|ho
    ·
     exact ho
    ·
     rw[ho]at ax;cases ax
 ·
  intro r hB hr
  by_cases hrn:r=L.n
  ·
   rw[hrn,hnew];exact h.below.size
  ·
   have hr':r<L.n:=by have:r<L.n+1:=hr;omega
   rw[hold r hr'];exact h.fresh r hB hr'
 ·
  exact h.below.alloc h.below.size o'
 ·
  intro r x hr;rcases split r x hr with ⟨_,hr2⟩|⟨_,rfl⟩
  ·
   exact h.nov r x hr2
  ·
   exact hv
theorem Sim.same {L:Lie}{c w c1 w1:World}(h:Sim P B G w0 L c w)(hc:c1.heap=c.heap)(hw:w1.heap=w.heap)(h1:w1.os=w.os)(h2:w1.tape=w.tape)(h3:w1.output=w.output):Sim P B G w0 L c1 w1:=by
 obtain⟨a,b,c2,d,d2,e,f,g,hb,hn⟩:=h;refine⟨by rw[hc];exact a,?_,c2,d,d2,by rw[hc];exact e,by rw[hc,hw];exact f,g,?_,by rw[hc];exact hn⟩
 ·
  rw[b];funext r;unfold World.shape?;rw[hw]
 ·
  exact⟨h1.trans hb.os,h2.trans hb.tape,h3.trans hb.output,by rw[hw];exact hb.size,fun k hk=>by rw[hw];exact hb.block k hk⟩
theorem Sim.under {L:Lie}{c w w1:World}(h:Sim P B G w0 L c w)(hb:Below w.heap.size w w1):∃M,L.le M∧M.n=L.n∧M.at_=L.at_∧Sim P B G w0 M c w1:=by
 have hle:L.le ⟨L.n,L.at_,w1.shape?⟩:=by
  refine⟨Nat.le_refl _,fun _ _=>rfl,fun r s hs=>?_⟩;rw[h.sh]at hs;show w1.shape? r=some s;unfold World.shape? at hs ⊢
  have:r<w.heap.size:=by
   rcases Nat.lt_or_ge r w.heap.size with hl|hl
   ·
    exact hl
   ·
    rw[Array.getElem?_eq_none hl]at hs;cases hs
  rw[hb.block r this];exact hs
 refine⟨⟨L.n,L.at_,w1.shape?⟩,hle,rfl,rfl,?_⟩;refine⟨h.n,rfl,h.glob,h.gle,h.ble,h.inj,?_,h.fresh,?_,h.nov⟩
 ·
  intro r o hr ha;obtain⟨o',ho,hor⟩:=h.obj r o hr ha;exact⟨o',by show w1.heap[L.at_ r]?=_;rw[hb.block _ (QHy h hr ha)];exact ho,hor.mono hle⟩
 ·
  exact⟨hb.os.trans h.below.os,hb.tape.trans h.below.tape,hb.output.trans h.below.output,Nat.le_trans h.below.size hb.size,fun k hk=>(hb.block k (Nat.lt_of_lt_of_le hk h.below.size)).trans (h.below.block k hk)⟩
def Sims(P:Program)(B G:Nat)(w0:World){α β:Type}(R:Lie→α→β→Prop)(L:Lie)(c w:World)(e:Sem α)(e':Sem β):Prop:=
 ∀a c1,e.run P c= .ok a c1→∃M w1 a',e'.run P w= .ok a' w1∧L.le M∧Sim P B G w0 M c1 w1∧R M a a'
variable {P : Program} {B G : Nat} {w0 : World} {α β γ δ : Type} {L : Lie} {c w : World}
theorem Sims.pure {R:Lie→α→β→Prop}{a:α}{a':β}(h:Sim P B G w0 L c w)(r:R L a a'):Sims P B G w0 R L c w (pure a) (pure a'):=by
 intro b c1 hb;rw[Sem.run_pure]at hb;injection hb with h1 h2
 subst h1 h2;exact⟨L,w,a',rfl,L.le_refl,h,r⟩
theorem Sims.bind {R:Lie→α→β→Prop}{R':Lie→γ→δ→Prop}{e:Sem α}{e':Sem β}{f:α→Sem γ}{f':β→Sem δ}(h:Sims P B G w0 R L c w e e')
  (k:∀M c1 w1 a a',L.le M→Sim P B G w0 M c1 w1→R M a a'→Sims P B G w0 R' M c1 w1 (f a) (f' a')):Sims P B G w0 R' L c w (e>>=f) (e'>>=f'):=by
 intro b c2 hb;rw[Sem.run_bind]at hb
 cases hr:e.run P c with
 |halt x cx=>rw[hr]at hb;cases hb
 |ok a c1=>
  rw[hr]at hb;obtain⟨M,w1,a',h1,h2,h3,h4⟩:=h a c1 hr;obtain⟨N,w2,b',g1,g2,g3,g4⟩:=k M c1 w1 a a' h2 h3 h4 b c2 hb;exact⟨N,w2,b',by rw[Sem.run_bind,h1];exact g1,Lie.le_trans h2 g2,g3,g4⟩
def Quiet(P:Program)(e:Sem α):Prop:=(∃a,∀x,e.run P x= .ok a x)∨∃h,∀x,e.run P x= .halt h x
theorem Quiet.pure(a:α):Quiet P (pure a:Sem α):= .inl ⟨a,fun _=>rfl⟩
theorem Quiet.halt(h:Halt):Quiet P (Sem.halt h:Sem α):= .inr ⟨h,fun _=>rfl⟩
theorem Quiet.bind {e:Sem α}{f:α→Sem β}(h:Quiet P e)(g:∀a,Quiet P (f a)):Quiet P (e>>=f):=by
 rcases h with ⟨a,h⟩|⟨x,h⟩
 ·
  rcases g a with ⟨b,g⟩|⟨y,g⟩
  ·
   exact .inl ⟨b,fun x=>by rw[Sem.run_bind,h];exact g x⟩
  ·
   exact .inr ⟨y,fun x=>by rw[Sem.run_bind,h];exact g x⟩
 ·
  exact .inr ⟨x,fun z=>by rw[Sem.run_bind,h];rfl⟩
theorem Quiet.program:Quiet P program:= .inl ⟨P,fun _=>rfl⟩
theorem Quiet.typeInfo(t:TypeId):Quiet P (typeInfo t):=by
 unfold Go.typeInfo;refine .bind .program fun p=>?_
 split
 ·
  exact .pure _
 ·
  exact .halt _
theorem Quiet.underlying(t:TypeId):Quiet P (underlying t):=by
 unfold Go.underlying;refine .bind .program fun p=>?_
 split
 ·
  exact .pure _
 ·
  exact .halt _
theorem Quiet.sizeOf(t:TypeId):Quiet P (Go.sizeOf t):=by
 unfold Go.sizeOf;exact .bind (.typeInfo t) fun i=> .pure _
theorem Quiet.zeroValue(t:TypeId):Quiet P (zeroValue t):=by
 unfold Go.zeroValue;refine .bind (.typeInfo t) fun i=>?_
 split
 ·
  exact .pure _
 ·
  exact .halt _
theorem Quiet.isAgg(t:TypeId):Quiet P (isAgg t):=by
 unfold Go.isAgg;refine .bind (.underlying t) fun i=>?_
 split
 ·
  exact .pure _
 ·
  exact .pure _
 ·
  exact .pure _
theorem Sims.quiet {e:Sem α}(h:Sim P B G w0 L c w)(q:Quiet P e):Sims P B G w0 (fun _ a a'=>a'=a∧∀x,e.run P x= .ok a x) L c w e e:=by
 intro a c1 ha;rcases q with ⟨b,q⟩|⟨x,q⟩
 ·
  rw[q c]at ha;injection ha with h1 h2
  subst h1 h2;exact⟨L,w,b,q w,L.le_refl,h,rfl,q⟩
 ·
  rw[q c]at ha;cases ha
theorem Sims.halt {R:Lie→α→β→Prop}(h:Halt)(e':Sem β):Sims P B G w0 R L c w (Sem.halt h) e':=by
 intro a c1 ha
 cases ha
theorem Sims.mono {R R':Lie→α→β→Prop}{e:Sem α}{e':Sem β}(h:Sims P B G w0 R L c w e e')(k:∀M a a',L.le M→R M a a'→R' M a a'):Sims P B G w0 R' L c w e e':=by
 intro a c1 ha;obtain⟨M,w1,a',h1,h2,h3,h4⟩:=h a c1 ha;exact⟨M,w1,a',h1,h2,h3,k M a a' h2 h4⟩
theorem QAz(b o n:Nat):(⟨b,o,none⟩:Addr).add n=⟨b,o+n,none⟩:=by
 unfold Addr.add
 split
 ·
  rename_i h;subst h;rfl
 ·
  rfl
theorem QLG(h:Sim P B G w0 L c w){b o:Nat}{v:Value}{c1:World}(hl:(load ⟨b,o,none⟩).run P c= .ok v c1):c1=c∧c.cell? ⟨b,o,none⟩=some v:=by
 unfold Go.load at hl;simp only[Sem.run]at hl
 split at hl
 ·
  rename_i v' hv;injection hl with h1 h2
  subst h1 h2;exact⟨rfl,hv⟩
 ·
  unfold World.farLoad at hl
  split at hl
  ·
   rename_i r hr
   split at hr
   ·
    rename_i a u hh;have:=h.nov _ _ hh
    cases this
   ·
    cases hr
  ·
   cases hl
theorem Sims.load(h:Sim P B G w0 L c w){b o:Nat}:Sims P B G w0 (VR P) L c w (load ⟨b,o,none⟩) (load ⟨L.at_ b,o,none⟩):=by
 intro v c1 hv;obtain⟨rfl,hc⟩:=QLG h hv;obtain⟨hb,v',hw,hr⟩:=h.load hc;refine⟨L,w,v',?_,L.le_refl,h,hr⟩;unfold Go.load;simp only[Sem.run,hw]
theorem AR.push {xs us:Array Value}{v v':Value}(h:AR P L xs us)(hv:VR P L v v'):AR P L (xs.push v) (us.push v'):=by
 refine⟨by simp[h.1],fun i hi=>?_⟩;rw[Array.size_push]at hi
 by_cases he:i=xs.size
 ·
  subst he;have e1:(xs.push v).getD xs.size undef=v:=by simp[Array.getD]
  have e2:(us.push v').getD xs.size undef=v':=by rw[h.1];simp[Array.getD]
  rw[e1,e2];exact hv
 ·
  have hi':i<xs.size:=by omega
  have hi2:i<us.size:=by rw[←h.1];exact hi'
  have e1:(xs.push v).getD i undef=xs.getD i undef:=by simp[Array.getD,hi',show i<xs.size+1 by omega,Array.getElem_push_lt]
  have e2:(us.push v').getD i undef=us.getD i undef:=by simp[Array.getD,hi2,show i<us.size+1 by omega,Array.getElem_push_lt]
  rw[e1,e2];exact h.2 i hi'
theorem Sims.loadCellsFrom {b o:Nat}:∀(n i:Nat) (L:Lie) (c w:World) (xs us:Array Value) (_:Sim P B G w0 L c w) (_:b<L.n) (_:AR P L xs us),
  Sims P B G w0 (AR P) L c w (loadCellsFrom ⟨b,o,none⟩ i n xs) (loadCellsFrom ⟨L.at_ b,o,none⟩ i n us)
 |0,_,_,_,_,_,_,h,_,ha=>Sims.pure h ha
 |n+1,i,L,c,w,xs,us,h,hb,ha=>by
  unfold Go.loadCellsFrom;rw[QAz,QAz];refine Sims.bind (Sims.load h) fun M c1 w1 v v' hle h1 hv=>?_
  rw[←hle.2.1 b hb];exact Sims.loadCellsFrom n (i+1) M c1 w1 _ _ h1 (Nat.lt_of_lt_of_le hb hle.1) ((ha.mono hle).push hv)
theorem Sims.loadCells(h:Sim P B G w0 L c w){b o n:Nat}(hb:b<L.n):Sims P B G w0 (AR P) L c w (loadCells ⟨b,o,none⟩ n) (loadCells ⟨L.at_ b,o,none⟩ n):=
 Sims.loadCellsFrom n 0 L c w _ _ h hb .nil
theorem Sims.loadVar(h:Sim P B G w0 L c w){b o:Nat}(t:TypeId)(hb:b<L.n):Sims P B G w0 (VR P) L c w (loadVar t ⟨b,o,none⟩) (loadVar t ⟨L.at_ b,o,none⟩):=by
 unfold Go.loadVar;refine Sims.bind (Sims.quiet h (.isAgg t)) fun M c1 w1 a a' hle h1 ha=>?_
 obtain⟨rfl,_⟩:=ha;rw[←hle.2.1 b hb];have hb1:=Nat.lt_of_lt_of_le hb hle.1
 split
 ·
  refine Sims.bind (Sims.quiet h1 (.sizeOf t)) fun N c2 w2 n n' hle2 h2 hn=>?_
  obtain⟨rfl,_⟩:=hn;rw[←hle2.2.1 b hb1];refine Sims.bind (Sims.loadCells h2 (Nat.lt_of_lt_of_le hb1 hle2.1)) fun N3 c3 w3 xs us hle3 h3 hx=>?_
  exact Sims.pure h3 (.agg xs us hx.1 hx.2)
 ·
  exact Sims.load h1
def one1:Value→Bool
 | .agg _| .tuple _=>false
 |_=>true
theorem QFh {a:Addr}{v:Value}(h:one1 v=true)(c:World):(store a v).run P c=(match c.cell? a with
   |some _=>if c.frozen? a then Result.halt (.unsupported (.unsafePointer "a write to bytes that a string shares")) c else .ok () (c.setCell a v)
   |none=>match c.farStore P a v (Mode.plain==Mode.atomic)with
    | .ok (w,_)=> .ok () w
    | .error h=> .halt h c):=by
 cases v <;> first|rfl|exact absurd h (by simp[one1])
theorem QJ7(h:Sim P B G w0 L c w){b o:Nat}{v:Value}{c1:World}{u:Unit}(hl:(store ⟨b,o,none⟩ v).run P c= .ok u c1):
  one1 v=true∧(c.cell? ⟨b,o,none⟩).isSome=true∧c1=c.setCell ⟨b,o,none⟩ v:=by
 cases h1:one1 v with
 |false=>
  unfold Go.store at hl
  cases v <;> simp only[one1,Bool.true_eq_false,reduceCtorEq]at h1
  all_goals exact absurd (show Result.halt (.stuck "store: not the value of one cell") c=Result.ok u c1 from hl) (by simp)
 |true=>
  rw[QFh h1]at hl
  split at hl
  ·
   rename_i x hx
   split at hl
   ·
    cases hl
   ·
    injection hl with e1 e2
    exact⟨rfl,by rw[hx];rfl,e2.symm⟩
  ·
   unfold World.farStore at hl
   split at hl
   ·
    rename_i r hr
    split at hr
    ·
     rename_i a u hh;have:=h.nov _ _ hh
     cases this
    ·
     cases hr
   ·
    cases hl
theorem VR.one1 {v v':Value}(h:VR P L v v'):one1 v'=one1 v:=by cases h <;> rfl
theorem Sims.store(h:Sim P B G w0 L c w){b o:Nat}{v v':Value}(hb:B≤b)(hv:VR P L v v'):Sims P B G w0 (fun _ _ _=>True) L c w (store ⟨b,o,none⟩ v) (store ⟨L.at_ b,o,none⟩ v'):=by
 intro u c1 hu;obtain⟨h1,h2,rfl⟩:=QJ7 h hu;obtain⟨g1,g2,_,g4⟩:=h.store hv hb h2;refine⟨L,_,(),?_,L.le_refl,g4,trivial⟩;obtain⟨x,hx⟩:=Option.isSome_iff_exists.1 g1;have hone:one1 v'=true:=by rw[hv.one1];exact h1
 rw[QFh hone,hx];simp only[g2,Bool.false_eq_true,if_false]
theorem Sims.storeCells {b o:Nat}:∀(vs us:List Value) (i:Nat) (L:Lie) (c w:World) (_:Sim P B G w0 L c w) (_:B≤b) (_:b<L.n) (_:vs.length=us.length) (_:∀j,j<vs.length→VR P L (vs.getD j undef) (us.getD j undef)),
  Sims P B G w0 (fun _ _ _=>True) L c w (storeCells ⟨b,o,none⟩ vs i) (storeCells ⟨L.at_ b,o,none⟩ us i)
 | [], [],_,_,_,_,h,_,_,_,_=>by unfold Go.storeCells;exact Sims.pure h trivial
 | [],_::_,_,_,_,_,_,_,_,hl,_=>by simp at hl
 |_::_, [],_,_,_,_,_,_,_,hl,_=>by simp at hl
 |v::vs,u::us,i,L,c,w,h,hB,hb,hl,hv=>by
  unfold Go.storeCells;rw[QAz,QAz];refine Sims.bind (Sims.store h hB (by simpa using hv 0 (by simp))) fun M c1 w1 _ _ hle h1 _=>?_
  rw[←hle.2.1 b hb]
  exact Sims.storeCells vs us (i+1) M c1 w1 h1 hB (Nat.lt_of_lt_of_le hb hle.1) (by simpa using hl) fun j hj=>by
   have:=(hv (j+1) (by simp;omega)).mono hle
   simpa using this
theorem AR.one {v v':Value}(h:VR P L v v'):AR P L #[v] #[v']:=⟨rfl,fun i hi=>by
 have:i=0:=by simpa using hi
 subst this
 simpa[Array.getD]using h⟩
theorem VR.cells {v v':Value}(h:VR P L v v'):AR P L v.cells v'.cells:=by
 cases h with
 |agg xs us h g=>exact⟨h,g⟩
 |bool b=>exact AR.one (.bool b)
 |int k b=>exact AR.one (.int k b)
 |string b=>exact AR.one (.string b)
 |nilP=>exact AR.one .nilP
 |ptr b o h=>exact AR.one (.ptr b o h)
 |nilS l c=>exact AR.one (.nilS l c)
 |slice b o l c c' h hc=>exact AR.one (.slice b o l c c' h hc)
 |nilM=>exact AR.one .nilM
 |map r h=>exact AR.one (.map r h)
 |func fn xs us ys vs h1 h2 g1 g2=>exact AR.one (.func fn xs us ys vs h1 h2 g1 g2)
 |nilF=>exact AR.one .nilF
 |nilI=>exact AR.one .nilI
 |iface t v v' h=>exact AR.one (.iface t v v' h)
 |tuple xs us h g=>exact AR.one (.tuple xs us h g)
theorem QAt(xs:Array Value)(i:Nat):xs.toList.getD i undef=xs.getD i undef:=by
 simp[Array.getD,List.getD]
 split <;> simp[*]
theorem Sims.storeVar(h:Sim P B G w0 L c w){b o:Nat}(t:TypeId){v v':Value}(hB:B≤b)(hb:b<L.n)(hv:VR P L v v'):Sims P B G w0 (fun _ _ _=>True) L c w (storeVar t ⟨b,o,none⟩ v) (storeVar t ⟨L.at_ b,o,none⟩ v'):=by
 unfold Go.storeVar;have hc:=hv.cells;refine Sims.bind (Sims.quiet h (.sizeOf t)) fun M c1 w1 a a' hle h1 ha=>?_
 obtain⟨rfl,_⟩:=ha;rw[←hle.2.1 b hb,hc.1]
 have hst:=Sims.storeCells (o:=o) v.cells.toList v'.cells.toList 0 M c1 w1 h1 hB (Nat.lt_of_lt_of_le hb hle.1) (by simpa using hc.1) fun j hj=>by
  rw[QAt,QAt];exact(hc.mono hle).getD j
 split
 ·
  exact fun a c1 ha=>by simp[Go.stuck]at ha
 ·
  exact hst
variable {P : Program} {B G : Nat} {w0 : World} {α β γ δ : Type} {L : Lie} {c w : World}
theorem Sims.never {R:Lie→α→β→Prop}{e:Sem α}{e':Sem β}(h:∀x,∃hl y,e.run P x= .halt hl y):Sims P B G w0 R L c w e e':=by
 intro a c1 ha;obtain⟨hl,y,hx⟩:=h c;rw[hx]at ha;cases ha
theorem AR.set {xs us:Array Value}(h:AR P L xs us){v v':Value}(hv:VR P L v v')(i:Nat):AR P L (xs.setIfInBounds i v) (us.setIfInBounds i v'):=by
 refine⟨by simpa using h.1,fun j hj=>?_⟩;simp only[Array.size_setIfInBounds]at hj;have hj':j<us.size:=by rw[←h.1];exact hj
 by_cases he:i=j
 ·
  subst he;have e1:(xs.setIfInBounds i v).getD i undef=v:=by simp[Array.getD,hj]
  have e2:(us.setIfInBounds i v').getD i undef=v':=by simp[Array.getD,hj']
  rw[e1,e2];exact hv
 ·
  have e1:(xs.setIfInBounds i v).getD j undef=xs.getD j undef:=by simp[Array.getD,hj,Array.getElem_setIfInBounds,he]
  have e2:(us.setIfInBounds i v').getD j undef=us.getD j undef:=by simp[Array.getD,hj',Array.getElem_setIfInBounds,he]
  rw[e1,e2];exact h.2 j hj
theorem AR.flat {xs:Array Value}(h:xs.all QA1=true):AR P L xs xs:=⟨rfl,fun _ hi=> .of_flat1 (QFo h hi)⟩
def RA(L:Lie)(a a':Addr):Prop:=∃b o,a=⟨b,o,none⟩∧a'=⟨L.at_ b,o,none⟩∧b<L.n
theorem RA.mono {M:Lie}(hl:L.le M){a a':Addr}(h:RA L a a'):RA M a a':=by
 obtain⟨b,o,rfl,rfl,hb⟩:=h;exact⟨b,o,rfl,by rw[hl.2.1 b hb],Nat.lt_of_lt_of_le hb hl.1⟩
theorem RA.add {a a':Addr}(h:RA L a a')(n:Nat):RA L (a.add n) (a'.add n):=by
 obtain⟨b,o,rfl,rfl,hb⟩:=h;exact⟨b,o+n,QAz _ _ _,QAz _ _ _,hb⟩
theorem RA.vr {a a':Addr}(h:RA L a a'):VR P L (.pointer (some a)) (.pointer (some a')):=by
 obtain⟨b,o,rfl,rfl,hb⟩:=h;exact .ptr b o hb
theorem Sims.sureAddr(h:Sim P B G w0 L c w){v v':Value}(hv:VR P L v v'):Sims P B G w0 (fun M a a'=>RA M a a'∧v= .pointer (some a)) L c w (Instr.sureAddr v) (Instr.sureAddr v'):=by
 cases hv with
 |ptr b o hb=>exact Sims.pure h ⟨⟨b,o,rfl,rfl,hb⟩,rfl⟩
 |_=>exact Sims.never fun x=>⟨_,_,rfl⟩
theorem Sims.loadAt(h:Sim P B G w0 L c w)(t:TypeId){v v':Value}(hv:VR P L v v'):Sims P B G w0 (VR P) L c w (Instr.loadAt t v) (Instr.loadAt t v'):=by
 unfold Instr.loadAt;refine Sims.bind (Sims.sureAddr h hv) fun M c1 w1 a a' hle h1 ha=>?_
 obtain⟨⟨b,o,rfl,rfl,hb⟩,_⟩:=ha;exact Sims.loadVar h1 t hb
theorem Sims.storeAt(h:Sim P B G w0 L c w)(t:TypeId){v v' x x':Value}(hv:VR P L v v')(hx:VR P L x x')(hB:∀a,v= .pointer (some a)→B≤a.block):
  Sims P B G w0 (fun _ _ _=>True) L c w (Instr.storeAt t v x) (Instr.storeAt t v' x'):=by
 unfold Instr.storeAt;refine Sims.bind (Sims.sureAddr h hv) fun M c1 w1 a a' hle h1 ha=>?_
 obtain⟨⟨b,o,rfl,rfl,hb⟩,hva⟩:=ha;exact Sims.storeVar h1 t (hB _ hva) hb (hx.mono hle)
theorem Sims.newRow(h:Sim P B G w0 L c w)(e:TypeId){xs us:Array Value}(ha:AR P L xs us):
  Sims P B G w0 (fun M a a'=>∃b,a=⟨b,0,none⟩∧a'=⟨M.at_ b,0,none⟩∧b<M.n∧M.sh (M.at_ b)=some (e,us.size)) L c w (Go.newRow e xs) (Go.newRow e us):=by
 intro a c1 hr;have hc:(Go.newRow e xs).run P c=Result.ok ⟨c.heap.size,0,none⟩ {c with heap:=c.heap.push (.cells xs e)}:=rfl;rw[hc]at hr;injection hr with h1 h2
 subst h1 h2;refine⟨L.grow w (.cells us e),{w with heap:=w.heap.push (.cells us e)},⟨w.heap.size,0,none⟩,rfl,Lie.le_grow h _,h.new (.inl ?_) rfl,c.heap.size,rfl,?_,?_,?_⟩
 ·
  exact⟨rfl,rfl,rfl,Nat.le_of_eq ha.1,fun i hi=>(ha.2 i hi).mono (Lie.le_grow h _)⟩
 ·
  show _=(⟨if c.heap.size=L.n then w.heap.size else L.at_ c.heap.size,0,none⟩:Addr);rw[if_pos h.n.symm]
 ·
  show c.heap.size<L.n+1;rw[h.n];omega
 ·
  show World.shape? {w with heap:=w.heap.push (.cells us e)} (if c.heap.size=L.n then w.heap.size else L.at_ c.heap.size)=_;rw[if_pos h.n.symm];unfold World.shape?;simp
def zf(P:Program)(t:TypeId):Bool:=match P.info? t with
 |some i=>(match i.zero with|some z=>z.cells.all QA1|none=>false)
 |none=>false
theorem QIv {t:TypeId}(h:zf P t=true){z:Value}(c:World)(hz:(zeroValue t).run P c= .ok z c):z.cells.all QA1=true:=by
 have h2:(zeroValue t).run P c=(match P.info? t with
  |some i=>(match i.zero with|some z=>Result.ok z c|none=> .halt (.unsupported (.resourceLimit "a value of more than 2^22 cells")) c)
  |none=> .halt (.stuck "no such type") c):=by
  unfold Go.zeroValue Go.typeInfo;simp only[Sem.run_bind,Go.program,Sem.run,Result.andThen_ok]
  cases P.info? t with
  |none=>rfl
  |some i=>
   cases hi:i.zero with
   |none=>simp[hi]
   |some z=>simp[hi]
 rw[h2]at hz;unfold zf at h
 split at h
 ·
  rename_i i hi;rw[hi]at hz;simp only at hz
  split at h
  ·
   rename_i z' hz';rw[hz']at hz;injection hz with e1 e2
   rw[←e1];exact h
  ·
   cases h
 ·
  cases h
theorem Sims.alloc(h:Sim P B G w0 L c w)(t:TypeId)(hz:zf P t=true):Sims P B G w0 (VR P) L c w (Instr.alloc t true (.tuple #[])) (Instr.alloc t true (.tuple #[])):=by
 unfold Instr.alloc;refine Sims.bind (Sims.quiet h (.zeroValue t)) fun M c1 w1 z z' hle h1 ha=>?_
 obtain⟨rfl,hzz⟩:=ha;have hf:=QIv hz c1 (hzz c1);show Sims P B G w0 (VR P) M c1 w1 (Go.newVar t z'>>=fun a=>Pure.pure (Value.pointer (some a))) (Go.newVar t z'>>=fun a=>Pure.pure (Value.pointer (some a)));unfold Go.newVar;refine Sims.bind (Sims.newRow h1 t (.flat hf)) fun N c2 w2 a a' hle2 h2 ha=>?_
 obtain⟨b,rfl,rfl,hb,_⟩:=ha;exact Sims.pure h2 (.ptr b 0 hb)
theorem Sims.box(h:Sim P B G w0 L c w)(t:TypeId){v v':Value}(hv:VR P L v v'):Sims P B G w0 (VR P) L c w (Instr.box t v) (Instr.box t v'):=by
 unfold Instr.box Go.newVar;refine Sims.bind (Sims.newRow h t hv.cells) fun N c2 w2 a a' hle2 h2 ha=>?_
 obtain⟨b,rfl,rfl,hb,_⟩:=ha;exact Sims.pure h2 (.ptr b 0 hb)
theorem QJQ:∀(xs us:List Value) (off k:Nat) (cs ds:Array Value),xs.length=us.length→(∀i,i<xs.length→VR P L (xs.getD i undef) (us.getD i undef))→AR P L cs ds→
  AR P L ((xs.zipIdx k).foldl (fun cs (x:Value × Nat)=>cs.setIfInBounds (off+x.2) x.1) cs) ((us.zipIdx k).foldl (fun cs (x:Value × Nat)=>cs.setIfInBounds (off+x.2) x.1) ds)
 | [], [],_,_,_,_,_,_,h=>h
 | [],_::_,_,_,_,_,hl,_,_=>by simp at hl
 |_::_, [],_,_,_,_,hl,_,_=>by simp at hl
 |x::xs,u::us,off,k,cs,ds,hl,hv,h=>by
  simp only[List.zipIdx_cons,List.foldl_cons];refine QJQ xs us off (k+1) _ _ (by simpa using hl) (fun i hi=>?_) (h.set (by simpa using hv 0 (by simp)) _);have:=hv (i+1) (by simp;omega)
  simpa using this
theorem QMC {xs us cs ds:Array Value}(h:AR P L xs us)(hc:AR P L cs ds)(off:Nat):
  AR P L (xs.zipIdx.foldl (fun cs (x:Value × Nat)=>cs.setIfInBounds (off+x.2) x.1) cs) (us.zipIdx.foldl (fun cs (x:Value × Nat)=>cs.setIfInBounds (off+x.2) x.1) ds):=by
 rw[←Array.foldl_toList,←Array.foldl_toList,Array.toList_zipIdx,Array.toList_zipIdx];refine QJQ _ _ _ _ _ _ (by simpa using h.1) (fun i hi=>?_) hc;rw[QAt,QAt];exact h.getD i
theorem QFu(place:Nat→Option (Nat × Nat)){ρ ρ':Operand→Value}:∀(l:List (Nat × Operand)) (cs ds xs:Array Value),(∀p∈l,VR P L (ρ p.2) (ρ' p.2))→AR P L cs ds→
  Instr.fill place cs (l.map fun p=>(p.1,ρ p.2))=some xs→∃us,Instr.fill place ds (l.map fun p=>(p.1,ρ' p.2))=some us∧AR P L xs us
 | [],cs,ds,xs,_,h,he=>by
  simp only[List.map_nil,Instr.fill,Option.some.injEq]at he ⊢;subst he;exact⟨ds,rfl,h⟩
 |p::l,cs,ds,xs,hp,h,he=>by
  simp only[List.map_cons,Instr.fill]at he ⊢;have hv:=(hp p List.mem_cons_self).cells
  split at he
  ·
   cases he
  ·
   rename_i off size hpl
   split at he
   ·
    cases he
   ·
    rename_i hc;have hc':¬((ρ' p.2).cells.size≠size||decide (off+(ρ' p.2).cells.size>ds.size))=true:=by rw[←hv.1,←h.1];exact hc
    rw[if_neg hc'];exact QFu place l _ _ xs (fun q hq=>hp q (List.mem_cons_of_mem _ hq)) (QMC hv h off) he
end Go.Proofs.YtjnclkakbopnjaaGreatDoor
