/- XSimM, XSimO, XSimP, XSimQ -/
import Derived.Test.YtjnclkakbopnjaaGreatDoorLot19
set_option linter.unusedSimpArgs false
set_option linter.unusedVariables false
namespace Go.Proofs.YtjnclkakbopnjaaGreatDoor
open Go.Proofs.Tryz
open Go.RowKit
variable {P : Program} {B G : Nat} {w0 : World} {L : Lie} {w : World}
def eqL {α:Type}(f:α→α→Bool):List α→List α→Bool
 | [], []=>true
 |x::xs,y::ys=>f x y&&eqL f xs ys
 |_,_=>false
theorem QIA {α:Type}{f:α→α→Bool}:∀(xs ys:List α),eqL f xs ys=true→xs.length=ys.length∧∀(i:Nat) (x y:α),xs[i]?=some x→ys[i]?=some y→f x y=true
 | [], [],_=>⟨rfl,fun i x y h=>by simp at h⟩
 | [],_::_,h=>by simp[eqL]at h
 |_::_, [],h=>by simp[eqL]at h
 |x::xs,y::ys,h=>by
  simp only[eqL,Bool.and_eq_true]at h;obtain⟨h1,h2⟩:=QIA xs ys h.2;refine⟨by simp[h1],fun i a b ha hb=>?_⟩
  cases i with
  |zero=>
   simp only[List.getElem?_cons_zero,Option.some.injEq]at ha hb;rw[←ha,←hb];exact h.1
  |succ i=>exact h2 i a b (by simpa using ha) (by simpa using hb)
def QHL(σ:Nat→Nat)(m:Nat):Option Addr→Option Addr→Bool
 |none,none=>true
 |some a,some b=>decide (a.block<m)&&σ a.block==b.block&&a.off==b.off&&a.spot.isNone&&b.spot.isNone
 |_,_=>false
def eqS(σ:Nat→Nat)(m:Nat):Nat→Value→Value→Bool
 |0,_,_=>false
 |_+1,.bool a,.bool b=>a==b
 |_+1,.int k a,.int l b=>k==l&&a==b
 |_+1,.string a,.string b=>a.data.toList==b.data.toList
 |_+1,.pointer a,.pointer b=>QHL σ m a b
 |_+1,.slice a l c,.slice b k d=>QHL σ m a b&&l==k&&c==d
 |_+1,.map none,.map none=>true
 |_+1,.map (some a),.map (some b)=>decide (a<m)&&σ a==b
 |n+1,.func f xs ys,.func g us vs=>f==g&&eqL (eqS σ m n) xs.toList us.toList&&eqL (eqS σ m n) ys.toList vs.toList
 |_+1,.nilFunc,.nilFunc=>true
 |n+1,.iface t v,.iface u w=>t==u&&eqS σ m n v w
 |_+1,.nilIface,.nilIface=>true
 |n+1,.agg xs,.agg us=>eqL (eqS σ m n) xs.toList us.toList
 |n+1,.tuple xs,.tuple us=>eqL (eqS σ m n) xs.toList us.toList
 |_,_,_=>false
def Lie.pull(L:Lie)(σ:Nat→Nat)(m:Nat):Lie:=⟨m,fun r=>L.at_ (σ r),L.sh⟩
theorem QFW {σ:Nat→Nat}{m n:Nat}{M:Lie}(ih:∀x y v,eqS σ m n x y=true→VR P L y v→VR P M x v){xs ys us:Array Value}(h:eqL (eqS σ m n) xs.toList ys.toList=true)(ha:AR P L ys us):AR P M xs us:=by
 obtain⟨hl,hg⟩:=QIA _ _ h;have hl':xs.size=ys.size:=by simpa using hl
 refine⟨hl'.trans ha.1,fun i hi=>?_⟩;have hy:i<ys.size:=by rw[←hl'];exact hi
 exact ih _ _ _ (hg i _ _ (by simpa using getElem?_of_getD hi) (by simpa using getElem?_of_getD hy)) (ha.2 i hy)
theorem QCR {σ:Nat→Nat}{m:Nat}:∀(n:Nat) (x y v:Value),eqS σ m n x y=true→VR P L y v→VR P (L.pull σ m) x v:=by
 intro n
 induction n with
 |zero=>intro x y v h;simp[eqS]at h
 |succ n ih=>
  intro x y v h hv
  cases hv with
  |bool b=>cases x <;> simp only[eqS,beq_iff_eq,Bool.false_eq_true]at h;rw[h];exact .bool b
  |int k i=>cases x <;> simp only[eqS,beq_iff_eq,Bool.false_eq_true,Bool.and_eq_true]at h;rw[h.1,h.2];exact .int k i
  |string s=>
   cases x <;> simp only[eqS,beq_iff_eq,Bool.false_eq_true]at h
   rename_i a;have:a=s:=ByteArray.ext (Array.ext' h);rw[this];exact .string s
  |nilP=>
   cases x <;> simp only[eqS,Bool.false_eq_true]at h
   rename_i a
   cases a with
   |none=>exact .nilP
   |some a=>cases h
  |ptr b o hb=>
   cases x <;> simp only[eqS,Bool.false_eq_true]at h
   rename_i a
   cases a with
   |none=>cases h
   |some a=>
    obtain⟨ab,ao,asp⟩:=a;simp only[QHL,Bool.and_eq_true,decide_eq_true_eq,beq_iff_eq,Option.isNone_iff_eq_none]at h;obtain⟨⟨⟨⟨h1,h2⟩,h3⟩,h4⟩,_⟩:=h;subst h2 h3 h4;exact .ptr (L:=L.pull σ m) ab ao h1
  |nilS l c=>
   cases x <;> simp only[eqS,Bool.false_eq_true,Bool.and_eq_true,beq_iff_eq]at h
   rename_i a _ _
   cases a with
   |none=>rw[h.1.2,h.2];exact .nilS l c
   |some a=>exact absurd h.1.1 (by simp[QHL])
  |slice b o l c c' hb hc=>
   cases x <;> simp only[eqS,Bool.false_eq_true,Bool.and_eq_true,beq_iff_eq]at h
   rename_i a _ _
   cases a with
   |none=>exact absurd h.1.1 (by simp[QHL])
   |some a=>
    obtain⟨ab,ao,asp⟩:=a;simp only[QHL,Bool.and_eq_true,decide_eq_true_eq,beq_iff_eq,Option.isNone_iff_eq_none]at h;obtain⟨⟨⟨⟨⟨⟨h1,h2⟩,h3⟩,h4⟩,_⟩,h5⟩,h6⟩:=h;subst h2 h3 h4 h5 h6;exact .slice (L:=L.pull σ m) ab ao _ _ c' h1 hc
  |nilM=>
   cases x with
   |map a=>
    cases a with
    |none=>exact .nilM
    |some a=>cases h
   |_=>cases h
  |map r hr=>
   cases x with
   |map a=>
    cases a with
    |none=>cases h
    |some a=>
     simp only[eqS,Bool.and_eq_true,decide_eq_true_eq,beq_iff_eq]at h;obtain⟨h1,h2⟩:=h;subst h2;exact .map (L:=L.pull σ m) a h1
   |_=>cases h
  |func fn xs us ys vs h1 h2 g1 g2=>
   cases x <;> simp only[eqS,Bool.false_eq_true,Bool.and_eq_true,beq_iff_eq]at h
   obtain⟨⟨e0,e1⟩,e2⟩:=h;have a1:=QFW ih e1 ⟨h1,g1⟩;have a2:=QFW ih e2 ⟨h2,g2⟩;rw[e0];exact .func fn _ _ _ _ a1.1 a2.1 a1.2 a2.2
  |nilF=>cases x <;> simp only[eqS,Bool.false_eq_true]at h;exact .nilF
  |nilI=>cases x <;> simp only[eqS,Bool.false_eq_true]at h;exact .nilI
  |iface t v v' hv=>
   cases x <;> simp only[eqS,Bool.false_eq_true,Bool.and_eq_true,beq_iff_eq]at h
   rw[h.1];exact .iface t _ _ (ih _ _ _ h.2 hv)
  |agg xs us hs hg=>
   cases x <;> simp only[eqS,Bool.false_eq_true]at h
   have a1:=QFW ih h ⟨hs,hg⟩;exact .agg _ _ a1.1 a1.2
  |tuple xs us hs hg=>
   cases x <;> simp only[eqS,Bool.false_eq_true]at h
   have a1:=QFW ih h ⟨hs,hg⟩;exact .tuple _ _ a1.1 a1.2
def eqM(σ:Nat→Nat)(m:Nat)(x y:MapEntry):Bool:=QA1 x.key&&eqS σ m 9 x.key y.key&&eqS id 0 9 x.key y.key&&eqS σ m 9 x.val y.val&&x.born==y.born
def eqO(σ:Nat→Nat)(m:Nat):Obj→Obj→Bool
 | .cells xs e f,.cells us e' f'=>eqL (eqS σ m 9) xs.toList us.toList&&e==e'&&f==(0,0)&&f'==(0,0)
 | .map es k,.map fs k'=>eqL (eqM σ m) es.toList fs.toList&&k==k'
 | .coro none,.coro none=>true
 |_,_=>false
def eqD(σ:Nat→Nat)(m:Nat)(x y:Deferred):Bool:=
 (match x.target,y.target with
 | .fn f xs,.fn g us=>f==g&&eqL (eqS σ m 9) xs.toList us.toList
 |_,_=>false)&&eqL (eqS σ m 9) x.args.toList y.args.toList
def sg(n0:Nat)(l:List Nat)(r:Nat):Nat:=if r<n0 then r else l.getD (r - n0) r
def QTf(B n0:Nat)(σl τl:List Nat)(c1 c2:World):Bool:=
 decide (n0≤c1.heap.size)&&decide (B≤n0)&&
 (List.range (c1.heap.size - n0)).all (fun r=>sg n0 τl (sg n0 σl (r+n0))==r+n0&&decide (n0≤sg n0 σl (r+n0))&&decide (sg n0 σl (r+n0)<c2.heap.size))&&
 (List.range c1.heap.size).all (fun r=>match c1.heap[r]?,c2.heap[sg n0 σl r]? with
  |some o1,some o2=>eqO (sg n0 σl) c1.heap.size o1 o2
  |_,_=>false)
theorem QNd {σ:Nat→Nat}{m:Nat}{x y z:MapEntry}(h:eqM σ m x y=true)(hr:MR P L y z):MR P (L.pull σ m) x z:=by
 unfold eqM at h;simp only[Bool.and_eq_true,beq_iff_eq]at h;obtain⟨⟨⟨⟨h1,_⟩,h2⟩,h3⟩,h4⟩:=h;obtain⟨g1,g2,g3,g4⟩:=hr;refine⟨?_,h1,h4.trans g3,QCR _ _ _ _ h3 g4⟩
 have key:∀(a b:Value),QA1 a=true→QA1 b=true→eqS id 0 9 a b=true→a=b:=by
  intro a b ha hb hab
  cases a <;> cases b <;> first|(simp only[eqS,Bool.false_eq_true]at hab;done)|skip
  ·
   simp only[eqS,beq_iff_eq]at hab;rw[hab]
  ·
   simp only[eqS,beq_iff_eq,Bool.and_eq_true]at hab;rw[hab.1,hab.2]
  ·
   simp only[eqS,beq_iff_eq]at hab;rename_i s t;have:s=t:=ByteArray.ext (Array.ext' hab);rw[this]
  ·
   rename_i s t
   cases s <;> cases t <;> first|rfl|(simp[QA1]at hb;done)|(simp[QA1]at ha;done)
  ·
   rename_i s _ _ t _ _;simp only[eqS,Bool.and_eq_true,beq_iff_eq]at hab
   cases s <;> cases t <;> first|(simp[QA1]at hb;done)|(simp[QA1]at ha;done)|(rw[hab.1.2,hab.2])
  ·
   rename_i s t
   cases s <;> cases t <;> first|rfl|(simp[QA1]at hb;done)|(simp[QA1]at ha;done)
  ·
   rename_i f xs ys g us vs;simp only[QA1,Bool.and_eq_true,Array.isEmpty_iff]at ha hb;simp only[eqS,Bool.and_eq_true,beq_iff_eq]at hab;rw[hab.1.1,ha.1,ha.2,hb.1,hb.2]
  ·
   rfl
  ·
   cases ha
  ·
   rfl
  ·
   cases ha
  ·
   cases ha
 exact(key _ _ h1 g2 h2).trans g1
theorem QEc {σ:Nat→Nat}{m:Nat}{x y o:Obj}(h:eqO σ m x y=true)(ha:QE7 x=true):QE7 y=true∧(OR P L y o→OR P (L.pull σ m) x o):=by
 unfold eqO at h
 split at h
 ·
  simp only[Bool.and_eq_true,beq_iff_eq]at h;obtain⟨⟨⟨h1,h2⟩,h3⟩,h4⟩:=h;refine⟨rfl,fun hr=>?_⟩;obtain⟨hl,hg⟩:=QIA _ _ h1
  cases o with
  |cells vs e2 f2=>
   obtain⟨g1,g2,g3,g4,g5⟩:=hr;rename_i xs e f us e' f';have hl':xs.size=us.size:=by simpa using hl
   refine⟨g1.trans h2.symm,h3,g3,by omega,fun i hi=>?_⟩;exact QCR _ _ _ _ (hg i _ _ (by simpa using getElem?_of_getD hi) (by simpa using getElem?_of_getD (show i<us.size by omega))) (g5 i (by omega))
  |_=>exact hr.elim
 ·
  simp only[Bool.and_eq_true,beq_iff_eq]at h;obtain⟨h1,h2⟩:=h;refine⟨rfl,fun hr=>?_⟩;obtain⟨hl,hg⟩:=QIA _ _ h1
  cases o with
  |map gs k2=>
   obtain⟨g1,g2,g3⟩:=hr;rename_i es k fs k';have hl':es.size=fs.size:=by simpa using hl
   refine⟨g1.trans h2.symm,hl'.trans g2,fun i x z hx hz=>?_⟩;have hi:=(Array.getElem?_eq_some_iff.1 hx).1;obtain⟨y,hy⟩:∃y,fs[i]?=some y:=⟨_,Array.getElem?_eq_getElem (by omega)⟩;exact QNd (hg i x y (by simpa using hx) (by simpa using hy)) (g3 i y z hy hz)
  |_=>exact hr.elim
 ·
  cases ha
 ·
  cases h
theorem QRM {σ:Nat→Nat}{m:Nat}{x y:Obj}(h:eqO σ m x y=true):QLa x=false:=by
 unfold eqO at h
 split at h <;> first|rfl|cases h
theorem QJ9 {n0:Nat}{l:List Nat}{r:Nat}(h:r<n0):sg n0 l r=r:=by unfold sg;rw[if_pos h]
theorem QMH {B G n0:Nat}{σl τl:List Nat}{c1 c2:World}{L0:Lie}(h:QTf B n0 σl τl c1 c2=true)(hs:Sim P B G w0 L c2 w)(h0:L0.le L)(hn0:L0.n=n0)(hG:G≤n0):
  Sim P B G w0 (L.pull (sg n0 σl) c1.heap.size) c1 w∧L0.le (L.pull (sg n0 σl) c1.heap.size):=by
 unfold QTf at h;simp only[Bool.and_eq_true,decide_eq_true_eq,List.all_eq_true,List.mem_range,beq_iff_eq]at h;obtain⟨⟨⟨hn,hB⟩,hp⟩,ho⟩:=h
 have hb:∀r o,c1.heap[r]?=some o→∃o2,c2.heap[sg n0 σl r]?=some o2∧eqO (sg n0 σl) c1.heap.size o o2=true:=by
  intro r o hr;have hr':=(Array.getElem?_eq_some_iff.1 hr).1;have:=ho r hr';rw[hr]at this
  split at this
  ·
   rename_i o1 o2 e1 e2;injection e1 with e1
   subst e1;exact⟨o2,e2,this⟩
  ·
   cases this
 have hσ:∀r,r<c1.heap.size→n0≤r→sg n0 τl (sg n0 σl r)=r∧n0≤sg n0 σl r∧sg n0 σl r<c2.heap.size:=by
  intro r hr hr0;have:=hp (r - n0) (by omega);rw[Nat.sub_add_cancel hr0]at this;exact⟨this.1.1,this.1.2,this.2⟩
 refine⟨⟨rfl,hs.sh,fun g hg=>?_,by show G≤c1.heap.size;omega,by show B≤c1.heap.size;omega,?_,?_,?_,hs.below,?_⟩,?_,?_,h0.2.2⟩
 ·
  show L.at_ (sg n0 σl g)=g;rw[QJ9 (by omega)];exact hs.glob g hg
 ·
  intro r s x y hx hy ax ay he;obtain⟨x2,hx2,ex⟩:=hb r x hx;obtain⟨y2,hy2,ey⟩:=hb s y hy;have e:=hs.inj _ _ _ _ hx2 hy2 (QEc (P:=P) (L:=L) (o:=x) ex ax).1 (QEc (P:=P) (L:=L) (o:=x) ey ay).1 he;have hr':=(Array.getElem?_eq_some_iff.1 hx).1;have hs':=(Array.getElem?_eq_some_iff.1 hy).1
  by_cases h1:r<n0 <;> by_cases h2:s<n0
  ·
   rw[QJ9 h1,QJ9 h2]at e;exact e
  ·
   rw[QJ9 h1]at e;have:=(hσ s hs' (by omega)).2.1;omega
  ·
   rw[QJ9 h2]at e;have:=(hσ r hr' (by omega)).2.1;omega
  ·
   have e1:=(hσ r hr' (by omega)).1;have e2:=(hσ s hs' (by omega)).1;rw[e]at e1;exact e1.symm.trans e2
 ·
  intro r x hx ax;obtain⟨x2,hx2,ex⟩:=hb r x hx;obtain⟨o',ho',hor⟩:=hs.obj _ _ hx2 (QEc (P:=P) (L:=L) (o:=x) ex ax).1;exact⟨o',ho',(QEc ex ax).2 hor⟩
 ·
  intro r hr hrn;have hrn:r<c1.heap.size:=hrn;show _≤L.at_ (sg n0 σl r)
  by_cases h1:r<n0
  ·
   rw[QJ9 h1];exact hs.fresh r hr (by have:=h0.1;omega)
  ·
   obtain⟨_,g2,g3⟩:=hσ r hrn (by omega);exact hs.fresh _ (by omega) (by rw[hs.n];exact g3)
 ·
  intro r o hr;obtain⟨o2,_,e⟩:=hb r o hr;exact QRM e
 ·
  show L0.n≤c1.heap.size;omega
 ·
  intro r hr;show L.at_ (sg n0 σl r)=L0.at_ r;rw[QJ9 (by omega)];exact h0.2.1 r hr
inductive Tr where
 |leaf
 |node (v:Option Obj) (l r:Tr)
def Tr.get:Nat→Tr→Nat→Option Obj
 |0,_,_=>none
 |_+1,.leaf,_=>none
 |d+1,.node v l r,i=>match i with
  |0=>v
  |j+1=>match j % 2 with
   |0=>l.get d (j / 2)
   |_+1=>r.get d (j / 2)
def Tr.set:Nat→Tr→Nat→Obj→Tr
 |0,t,_,_=>t
 |d+1,.leaf,i,o=>match i with
  |0=> .node (some o) .leaf .leaf
  |j+1=>match j % 2 with
   |0=> .node none (Tr.set d .leaf (j / 2) o) .leaf
   |_+1=> .node none .leaf (Tr.set d .leaf (j / 2) o)
 |d+1,.node v l r,i,o=>match i with
  |0=> .node (some o) l r
  |j+1=>match j % 2 with
   |0=> .node v (l.set d (j / 2) o) r
   |_+1=> .node v l (r.set d (j / 2) o)
theorem Tr.get_set_same:∀(d:Nat) (t:Tr) (i:Nat) (o:Obj),i+1<2 ^ d→(t.set d i o).get d i=some o
 |0,_,i,_,h=>by simp at h
 |d+1,.leaf,i,o,h=>by
  cases i with
  |zero=>rfl
  |succ j=>
   have hj:j / 2+1<2 ^ d:=by rw[Nat.pow_succ]at h;omega
   simp only[Tr.set]
   cases hm:j % 2 with
   |zero=>simp only[Tr.get,hm];exact get_set_same d _ _ _ hj
   |succ k=>simp only[Tr.get,hm];exact get_set_same d _ _ _ hj
 |d+1,.node v l r,i,o,h=>by
  cases i with
  |zero=>rfl
  |succ j=>
   have hj:j / 2+1<2 ^ d:=by rw[Nat.pow_succ]at h;omega
   simp only[Tr.set]
   cases hm:j % 2 with
   |zero=>simp only[Tr.get,hm];exact get_set_same d _ _ _ hj
   |succ k=>simp only[Tr.get,hm];exact get_set_same d _ _ _ hj
theorem Tr.get_leaf(d i:Nat):Tr.leaf.get d i=none:=by cases d <;> rfl
theorem Tr.get_set_other:∀(d:Nat) (t:Tr) (i j:Nat) (o:Obj),i≠j→(t.set d i o).get d j=t.get d j
 |0,_,_,_,_,_=>rfl
 |d+1,.leaf,i,j,o,h=>by
  cases i with
  |zero=>
   cases j with
   |zero=>exact absurd rfl h
   |succ k=>simp only[Tr.set,Tr.get];split <;> exact Tr.get_leaf _ _
  |succ i=>
   simp only[Tr.set]
   cases hm:i % 2 with
   |zero=>
    cases j with
    |zero=>rfl
    |succ k=>
     simp only[Tr.get]
     cases hk:k % 2 with
     |zero=>simp only;rw[get_set_other d _ _ _ _ (by omega)];exact Tr.get_leaf _ _
     |succ k'=>exact Tr.get_leaf _ _
   |succ m=>
    cases j with
    |zero=>rfl
    |succ k=>
     simp only[Tr.get]
     cases hk:k % 2 with
     |zero=>exact Tr.get_leaf _ _
     |succ k'=>simp only;rw[get_set_other d _ _ _ _ (by omega)];exact Tr.get_leaf _ _
 |d+1,.node v l r,i,j,o,h=>by
  cases i with
  |zero=>
   cases j with
   |zero=>exact absurd rfl h
   |succ k=>rfl
  |succ i=>
   simp only[Tr.set]
   cases hm:i % 2 with
   |zero=>
    cases j with
    |zero=>rfl
    |succ k=>
     simp only[Tr.get]
     cases hk:k % 2 with
     |zero=>simp only;exact get_set_other d _ _ _ _ (by omega)
     |succ k'=>rfl
   |succ m=>
    cases j with
    |zero=>rfl
    |succ k=>
     simp only[Tr.get]
     cases hk:k % 2 with
     |zero=>rfl
     |succ k'=>simp only;exact get_set_other d _ _ _ _ (by omega)
structure Fw where
 n:Nat
 hp:Tr
def QFm:Nat:=24
def Fw.rd(F:Fw)(b:Nat):Option Obj:=if b<F.n then F.hp.get QFm b else none
def Fw.at(F:Fw)(b:Nat):Obj:=(F.hp.get QFm b).getD (.coro none)
def Fw.toW(F:Fw):World:={(default:World)with heap:=((List.range F.n).map F.at).toArray}
def Fw.push(F:Fw)(o:Obj):Fw:=⟨F.n+1,F.hp.set QFm F.n o⟩
def Fw.put(F:Fw)(b:Nat)(o:Obj):Fw:=⟨F.n,F.hp.set QFm b o⟩
theorem Fw.heap_get(F:Fw)(i:Nat):F.toW.heap[i]?=if i<F.n then some (F.at i) else none:=by
 show(((List.range F.n).map F.at).toArray)[i]?=_;simp only[List.getElem?_toArray,List.getElem?_map,List.getElem?_range]
 split
 ·
  rename_i h;rw[List.getElem?_range h];rfl
 ·
  rename_i h;rw[List.getElem?_eq_none (by simpa using h)];rfl
theorem Fw.size(F:Fw):F.toW.heap.size=F.n:=by
 show(((List.range F.n).map F.at).toArray).size=_;simp
theorem Fw.rd_some {F:Fw}{b:Nat}{o:Obj}(h:F.rd b=some o):F.toW.heap[b]?=some o:=by
 unfold Fw.rd at h
 split at h
 ·
  rename_i hb;rw[F.heap_get,if_pos hb];unfold Fw.at;rw[h];rfl
 ·
  cases h
def big(n:Nat):Prop:=n<10000000
instance (n:Nat):Decidable (big n):=inferInstanceAs (Decidable (n<10000000))
theorem Fw.push_heap(F:Fw)(o:Obj)(h:big F.n):(F.push o).toW.heap=F.toW.heap.push o:=by
 have h':F.n+1<2 ^ QFm:=by unfold QFm;unfold big at h;omega
 apply Array.ext_getElem?
 intro i;rw[Fw.heap_get,Array.getElem?_push,Fw.size,Fw.heap_get];show(if i<F.n+1 then some ((F.push o).at i) else none)=_;unfold Fw.at Fw.push
 by_cases hi:i=F.n
 ·
  subst hi;rw[if_pos (by omega),if_pos rfl,Tr.get_set_same _ _ _ _ h'];rfl
 ·
  rw[if_neg hi]
  by_cases hlt:i<F.n
  ·
   rw[if_pos (by omega),if_pos hlt,Tr.get_set_other _ _ _ _ _ (fun e=>hi e.symm)]
  ·
   rw[if_neg (by omega),if_neg hlt]
theorem Fw.put_heap(F:Fw)(b:Nat)(o:Obj)(hb:b<F.n)(h:big F.n):(F.put b o).toW.heap=F.toW.heap.setIfInBounds b o:=by
 have h':b+1<2 ^ QFm:=by unfold QFm;unfold big at h;omega
 apply Array.ext_getElem?
 intro i;rw[Fw.heap_get,Array.getElem?_setIfInBounds,Fw.size,Fw.heap_get];show(if i<F.n then some ((F.put b o).at i) else none)=_;unfold Fw.at Fw.put
 by_cases hi:b=i
 ·
  subst hi;rw[if_pos hb,if_pos rfl,if_pos hb,Tr.get_set_same _ _ _ _ h'];rfl
 ·
  rw[if_neg hi,Tr.get_set_other _ _ _ _ _ hi]
theorem Sim.heap {P:Program}{B G:Nat}{w0:World}{L:Lie}{c c1 w:World}(h:Sim P B G w0 L c w)(hc:c1.heap=c.heap):Sim P B G w0 L c1 w:=h.same hc rfl rfl rfl rfl
variable {P : Program} {B G : Nat} {w0 : World} {L : Lie}
def getL:List Value→Nat→Value
 | [],_=>undef
 |v::_,0=>v
 |_::l,i+1=>getL l i
theorem QA5:∀(l:List Value) (i:Nat),getL l i=l.toArray.getD i undef
 | [],i=>by simp[getL,Array.getD]
 |v::l,0=>by simp[getL,Array.getD]
 |v::l,i+1=>by
  rw[getL,QA5 l i];simp[Array.getD]
def QDN:List Value→Nat→Value→List Value
 | [],_,_=> []
 |_::l,0,x=>x::l
 |v::l,i+1,x=>v::QDN l i x
theorem QCB:∀(l:List Value) (i:Nat) (x:Value),QDN l i x=l.set i x
 | [],_,_=>rfl
 |_::_,0,_=>rfl
 |v::l,i+1,x=>by rw[QDN,QCB l i x];rfl
def QRP:List Value→Nat→Option Value
 | [],_=>none
 |v::_,0=>some v
 |_::l,i+1=>QRP l i
theorem QKe:∀(l:List Value) (i:Nat),QRP l i=l[i]?
 | [],_=>rfl
 |_::_,0=>rfl
 |v::l,i+1=>by rw[QRP,QKe l i];rfl
def QIq:List Value→Nat→Option (List Value)
 |_,0=>some []
 | [],_+1=>none
 |v::l,n+1=>match QIq l n with
  |some r=>some (v::r)
  |none=>none
def takeAt:List Value→Nat→Nat→Option (List Value)
 |l,0,n=>QIq l n
 | [],_+1,n=>QIq [] n
 |_::l,o+1,n=>takeAt l o n
theorem QFR:∀(l:List Value) (n:Nat) (r:List Value),QIq l n=some r→r.length=n∧n≤l.length∧∀j,j<n→l[j]?=some (r.getD j undef)
 |_,0,r,h=>by simp only[QIq,Option.some.injEq]at h;subst h;exact⟨rfl,Nat.zero_le _,fun j hj=>absurd hj (by omega)⟩
 | [],n+1,r,h=>by simp[QIq]at h
 |v::l,n+1,r,h=>by
  simp only[QIq]at h
  split at h
  ·
   rename_i r' hr;injection h with h
   subst h;obtain⟨h1,h2,h3⟩:=QFR l n r' hr;refine⟨by simp[h1],by simp;omega,fun j hj=>?_⟩
   cases j with
   |zero=>simp[List.getD]
   |succ j=>have:=h3 j (by omega);simpa[List.getD]using this
  ·
   cases h
theorem QCX:∀(l:List Value) (o n:Nat) (r:List Value),takeAt l o n=some r→r.length=n∧(n≠0→o+n≤l.length)∧∀j,j<n→l[o+j]?=some (r.getD j undef)
 |l,0,n,r,h=>by
  rw[takeAt.eq_def]at h;have h':QIq l n=some r:=by cases l <;> exact h
  obtain⟨h1,h2,h3⟩:=QFR l n r h';exact⟨h1,fun _=>by omega,fun j hj=>by rw[Nat.zero_add];exact h3 j hj⟩
 | [],o+1,n,r,h=>by
  simp only[takeAt]at h;obtain⟨h1,h2,h3⟩:=QFR [] n r h;have:n=0:=by simpa using h2
  subst this;exact⟨h1,fun h=>absurd rfl h,fun j hj=>absurd hj (by omega)⟩
 |v::l,o+1,n,r,h=>by
  simp only[takeAt]at h;obtain⟨h1,h2,h3⟩:=QCX l o n r h;refine⟨h1,fun hn=>by have:=h2 hn;simp;omega,fun j hj=>?_⟩;rw[show o+1+j=(o+j)+1 by omega]
  simpa using h3 j hj
theorem QG7(r:List Value)(n:Nat)(h:r.length=n):((List.range n).map fun j=>r.getD j undef)=r:=by
 subst h
 apply List.ext_getElem?
 intro i
 by_cases hi:i<r.length
 ·
  simp[hi,List.getD]
 ·
  simp[hi]
def spl:List Value→Nat→List Value→Option (List Value)
 |l,_, []=>some l
 | [],_,_::_=>none
 |_::l,0,v::vs=>(match spl l 0 vs with
  |some r=>some (v::r)
  |none=>none)
 |x::l,o+1,v::vs=>(match spl l o (v::vs)with
  |some r=>some (x::r)
  |none=>none)
theorem QIo:∀(l:List Value) (o:Nat) (vs r:List Value),spl l o vs=some r→r.length=l.length∧(vs≠ []→o+vs.length≤l.length)∧∀i,r.getD i undef=if o≤i∧i<o+vs.length then vs.getD (i - o) undef else l.getD i undef
 |l,o, [],r,h=>by
  have h':l=r:=by cases l <;> (simp only[spl,Option.some.injEq]at h;exact h)
  subst h';exact⟨rfl,fun h=>absurd rfl h,fun i=>by rw[if_neg (by simp)]⟩
 | [],o,v::vs,r,h=>by simp[spl]at h
 |x::l,0,v::vs,r,h=>by
  simp only[spl]at h
  split at h
  ·
   rename_i r' hr;injection h with h
   subst h;obtain⟨h1,h2,h3⟩:=QIo l 0 vs r' hr;refine⟨by simp[h1],fun _=>?_,fun i=>?_⟩
   ·
    cases vs with
    |nil=>simp
    |cons a _=>have:=h2 (by simp);simp only[List.length_cons]at this ⊢;omega
   ·
    cases i with
    |zero=>simp[List.getD]
    |succ i=>
     have:=h3 i;simp only[List.getD_cons_succ,List.length_cons,Nat.zero_le,true_and,Nat.zero_add,Nat.sub_zero]at this ⊢;rw[this]
     by_cases hi:i<vs.length
     ·
      rw[if_pos hi,if_pos (by omega)]
     ·
      rw[if_neg hi,if_neg (by omega)]
  ·
   cases h
 |x::l,o+1,v::vs,r,h=>by
  simp only[spl]at h
  split at h
  ·
   rename_i r' hr;injection h with h
   subst h;obtain⟨h1,h2,h3⟩:=QIo l o (v::vs) r' hr;refine⟨by simp[h1],fun _=>by have:=h2 (by simp);simp only[List.length_cons]at this ⊢;omega,fun i=>?_⟩
   cases i with
   |zero=>rw[if_neg (by omega)];simp[List.getD]
   |succ i=>
    have:=h3 i;simp only[List.getD_cons_succ];rw[this]
    by_cases hi:o≤i∧i<o+(v::vs).length
    ·
     rw[if_pos hi,if_pos (by omega),show i+1 - (o+1)=i - o by omega]
    ·
     rw[if_neg hi,if_neg (by omega)]
  ·
   cases h
def QHQ(P:Program)(t:TypeId):Option Bool:=match P.underlying t with
 |some (.struct _)|some (.array _ _)=>some true
 |some _=>some false
 |none=>none
theorem QDw {t:TypeId}{b:Bool}(h:QHQ P t=some b)(w:World):(isAgg t).run P w= .ok b w:=by
 unfold QHQ at h;unfold Go.isAgg
 split at h
 ·
  rename_i hu;injection h with h;subst h;simp only[Sem.run_bind,QAD hu,Result.andThen_ok,Sem.run_pure]
 ·
  rename_i hu;injection h with h;subst h;simp only[Sem.run_bind,QAD hu,Result.andThen_ok,Sem.run_pure]
 ·
  rename_i d h1 h2 hu;injection h with h
  subst h;simp only[Sem.run_bind,QAD hu,Result.andThen_ok];rfl
 ·
  cases h
def QFG(P:Program)(t:TypeId)(x:Value)(F:Fw):Option Value:=
 match x with
 | .pointer (some ⟨b,o,none⟩)=>(match F.rd b with
  |some (.cells xs _ _)=>(match QHQ P t with
   |some true=>(match QBJ P t with
    |some n=>(match takeAt xs.toList o n with
     |some r=>some (.agg ⟨r⟩)
     |none=>none)
    |none=>none)
   |some false=>QRP xs.toList o
   |none=>none)
  |_=>none)
 |_=>none
theorem QGh {b o:Nat}{v:Value}{c:World}(h:c.cell? ⟨b,o,none⟩=some v):(load ⟨b,o,none⟩).run P c= .ok v c:=by
 unfold Go.load;simp only[Sem.run,h]
theorem QPn {t:TypeId}{x v:Value}{F:Fw}(h:QFG P t x F=some v):QO0 ((Instr.loadAt t x).run P F.toW)=some (v,F.toW):=by
 unfold QFG at h
 split at h
 ·
  rename_i b o
  split at h
  ·
   rename_i xs e fz hrd;have hh:=F.rd_some hrd;unfold Instr.loadAt Instr.sureAddr Go.loadVar
   split at h
   ·
    rename_i ha
    split at h
    ·
     rename_i n hn
     split at h
     ·
      rename_i r hr;injection h with h
      subst h;obtain⟨h1,h2,h3⟩:=QCX _ _ _ _ hr
      have hl:=run_loadCells (P:=P) F.toW ⟨b,o,none⟩ n (fun j=>r.getD j undef) fun j hj=>by
       rw[QAz,cell?_of hh]
       simpa using h3 j hj
      rw[QG7 r n h1]at hl;simp only[pure_bind,Sem.run_bind,QDw ha,Result.andThen_ok,if_true,QBg hn,hl,Sem.run_pure];rfl
     ·
      cases h
    ·
     cases h
   ·
    rename_i ha;rw[QKe]at h;have hc:F.toW.cell? ⟨b,o,none⟩=some v:=by rw[cell?_of hh];simpa using h
    simp only[pure_bind,Sem.run_bind,QDw ha,Result.andThen_ok,Bool.false_eq_true,if_false,QGh hc];rfl
   ·
    cases h
  ·
   cases h
 ·
  cases h
variable {P : Program} {B G : Nat} {w0 : World} {L : Lie}
def QEx(P:Program)(B:Nat)(t:TypeId)(x v:Value)(F:Fw):Option Fw:=
 match x with
 | .pointer (some ⟨b,o,none⟩)=>if B≤b∧big F.n then(match F.rd b with
  |some (.cells xs e fz)=>if fz=(0,0)∧v.cells.toList.all one1=true∧QBJ P t=some v.cells.toList.length∧v.cells.toList≠ [] then
    (match spl xs.toList o v.cells.toList with
    |some r=>some (F.put b (.cells ⟨r⟩ e (0,0)))
    |none=>none) else none
  |_=>none) else none
 |_=>none
theorem QRy {F:Fw}{b:Nat}{o:Obj}(h:F.rd b=some o):b<F.n:=by
 unfold Fw.rd at h
 split at h
 ·
  assumption
 ·
  cases h
theorem QRc(v:Value):one1 v=v.oneCell':=by cases v <;> rfl
theorem QPB {t:TypeId}{x v:Value}{F F1:Fw}(h:QEx P B t x v F=some F1):
  ∃a c1,x= .pointer (some a)∧B≤a.block∧(Instr.storeAt t x v).run P F.toW= .ok () c1∧c1.heap=F1.toW.heap:=by
 unfold QEx at h
 split at h
 ·
  rename_i b o
  split at h
  ·
   rename_i hB;obtain⟨hB,hbig⟩:=hB
   split at h
   ·
    rename_i xs e fz hrd
    split at h
    ·
     rename_i hc;obtain⟨rfl,hone,hsz,hne⟩:=hc
     split at h
     ·
      rename_i r hr;injection h with h
      subst h;have hh:=F.rd_some hrd;have hlt:=QRy hrd;obtain⟨h1,h2,h3⟩:=QIo _ _ _ _ hr;have h2:=h2 hne;have hxs:xs.toList.length=xs.size:=by simp
      have hst:=run_storeCells_cells (P:=P) b o v.cells.toList 0 F.toW (fun j hj=>by rw[cell?_of hh,getElem?_of_getD (by omega)];rfl) (fun j _=>frozen?_zero hh) (fun u hu=>by
       rw[←QRc];exact List.all_eq_true.1 hone u hu)
      rw[Nat.add_zero]at hst;obtain⟨us',g1,g2,g3,g4,g5,_⟩:=QDe b v.cells.toList o F.toW xs e hh (by omega);refine⟨⟨b,o,none⟩,F.toW.setCells b o v.cells.toList,rfl,hB,?_,?_⟩
      ·
       unfold Instr.storeAt Instr.sureAddr Go.storeVar;have hsize:v.cells.toList.length=v.cells.size:=by simp
       rw[hsize]at hsz;simp only[pure_bind,Sem.run_bind,QBg hsz,Result.andThen_ok,ne_eq,not_true,if_false];exact hst
      ·
       rw[F.put_heap b _ hlt hbig]
       apply Array.ext_getElem?
       intro i;rw[Array.getElem?_setIfInBounds,Fw.size]
       by_cases hi:b=i
       ·
        subst hi;rw[if_pos rfl,if_pos hlt,g1]
        congr 2
        apply Array.ext_getElem?
        intro j;have e1:us'.size=r.length:=by rw[g2,h1,hxs]
        by_cases hj:j<us'.size
        ·
         have hj2:j<r.toArray.size:=by simpa[←e1]using hj
         have e2:(⟨r⟩:Array Value)[j]?=some ((⟨r⟩:Array Value).getD j undef):=getElem?_of_getD (by simpa using hj2);rw[getElem?_of_getD hj,e2,g3 j];have e3:(⟨r⟩:Array Value).getD j undef=r.getD j undef:=(QAt ⟨r⟩ j).symm;rw[e3,h3 j,QAt,QAt]
        ·
         rw[Array.getElem?_eq_none (by omega),Array.getElem?_eq_none (by show r.length≤j;omega)]
       ·
        rw[if_neg hi,g4 i fun e=>hi e.symm]
     ·
      cases h
    ·
     cases h
   ·
    cases h
  ·
   cases h
 ·
  cases h
def QKJ(P:Program)(t:TypeId):Option Value:=if zf P t=true then(P.info? t).bind (·.zero) else none
theorem QDy {t:TypeId}{z:Value}(h:QKJ P t=some z):zf P t=true∧∀w,(zeroValue t).run P w= .ok z w:=by
 unfold QKJ at h
 split at h
 ·
  exact⟨by assumption,fun w=>QCA h w⟩
 ·
  cases h
def QQr(F:Fw)(e:TypeId)(cells:Array Value):Option (Value × Fw):=if big F.n then some (.pointer (some ⟨F.n,0,none⟩),F.push (.cells cells e)) else none
def QC2(F:Fw)(e:TypeId)(cells:Array Value)(len:Nat):Option (Value × Fw):=if big F.n then some (.slice (some ⟨F.n,0,none⟩) len len,F.push (.cells cells e)) else none
def QOJ:Nat→List (Nat × Value)→Option (Array Value)
 |0, []=>some #[]
 |_,_=>none
def QH2(P:Program)(elem:TypeId)(len:Nat)(parts:List (Nat × Value)):Option (Array Value):=
 match QBJ P elem,QKJ P elem with
 |some n,some z=>if len*n≤10000∧len*n≠0 then Instr.fill (fun i=>some (i*n,n)) ((Array.range (len*n)).map (z.cells[· % z.cells.size]!)) parts else QOJ (len*n) parts
 |_,_=>none
theorem QGw {t elem:TypeId}{len:Nat}{ps:Array (Nat × Value)}{cells:Array Value}(hu:P.underlying t=some (.slice elem))(h:QH2 P elem len ps.toList=some cells)(c:World):
  (Instr.buildSlice t len ps).run P c= .ok (.slice (some ⟨c.heap.size,0,none⟩) len len) {c with heap:=c.heap.push (.cells cells elem)}∧QDS P t=true:=by
 unfold QH2 at h
 split at h
 ·
  rename_i n z hn hz
  split at h
  ·
   rename_i hc;obtain⟨hzf,hzr⟩:=QDy hz;refine⟨?_,by unfold QDS;rw[hu];exact hzf⟩;unfold Instr.buildSlice;have h1:¬(len*n>2 ^ 24):=by omega
   simp only[Sem.run_bind,QAD hu,Result.andThen_ok,QBg hn,h1,if_false,hc.2,hzr,Sem.run_pure,h];rfl
  ·
   obtain⟨hzf,hzr⟩:=QDy hz;refine⟨?_,by unfold QDS;rw[hu];exact hzf⟩;unfold QOJ at h
   split at h
   ·
    rename_i h0 hp;injection h with h
    subst h;unfold Instr.buildSlice;have h2:¬((0:Nat)>2 ^ 24):=by omega
    simp only[Sem.run_bind,QAD hu,Result.andThen_ok,QBg hn,h0,hp,h2,if_false,if_true,Sem.run_pure,show Array.range 0=#[] from by simp,List.map_toArray,List.map_nil,Instr.fill];rfl
   ·
    cases h
 ·
  cases h
def QEi(P:Program)(elem:TypeId)(len:Nat):Option (Array Value):=
 match P.info? elem,QKJ P elem with
 |some i,some z=>if len≤10000∧i.bytes≤10000∧len*i.size≠0 then some ((Array.range (len*i.size)).map (z.cells[· % z.cells.size]!)) else none
 |_,_=>none
theorem QM0(l:Nat)(h:l≤10000):IntKind.i64.wrap (l:Int)=l:=by
 have e:((l:Int) % 2 ^ 64)=l:=by omega
 unfold IntKind.wrap;simp only[IntKind.bits,IntKind.signed,e];rw[if_neg];simp only[Bool.true_and,decide_eq_true_eq];omega
theorem QIT {t elem:TypeId}{len:Nat}{cells:Array Value}{k k':IntKind}(hu:P.underlying t=some (.slice elem))(h:QEi P elem len=some cells)(c:World):
  (Instr.makeSlice t (.int k len) (.int k' len)).run P c= .ok (.slice (some ⟨c.heap.size,0,none⟩) len len) {c with heap:=c.heap.push (.cells cells elem)}∧QDS P t=true:=by
 unfold QEi at h
 split at h
 ·
  rename_i i z hi hz
  split at h
  ·
   rename_i hc;obtain⟨h1,h2,h3⟩:=hc;injection h with h
   subst h;obtain⟨hzf,hzr⟩:=QDy hz;refine⟨?_,by unfold QDS;rw[hu];exact hzf⟩;have hsz:(P.info? elem).map (·.size)=some i.size:=by rw[hi];rfl
   have hb:(i.bytes:Int)*len≤100000000:=by
    have:i.bytes*len≤10000*10000:=Nat.mul_le_mul h2 h1;have e:((i.bytes*len:Nat):Int)=(i.bytes:Int)*len:=Int.natCast_mul _ _;omega
   have t1:((len:Int)<0||(i.bytes:Int)*len>2 ^ 48)=false:=by
    rw[Bool.or_eq_false_iff];exact⟨by simp,by simp only[decide_eq_false_iff_not];omega⟩
   unfold Instr.makeSlice;simp only[Sem.run_bind,QAD hu,Result.andThen_ok,asInt,asIntOf,pure_bind,Sem.run_pure,QDd hi,QM0 len h1]
   have t2:((((len:Int)<0||(i.bytes:Int)*len>2 ^ 48)||decide ((len:Int)<0))||decide ((len:Int)>len))=false:=by
    rw[t1];simp
   simp only[t2,Bool.false_eq_true,if_false];have hq:(askRoom (len*i.bytes)).run P c= .ok () c:=by unfold Go.askRoom;split <;> rfl
   simp only[Sem.run_bind,Int.toNat_natCast,hq,Result.andThen_ok,QBg hsz,h3,if_false,hzr,Sem.run_pure];rfl
  ·
   cases h
 ·
  cases h
def QFi(P:Program)(t:TypeId)(x low:Value)(F:Fw):Option Value:=
 match P.underlying t,x,low with
 |some (.slice elem),.slice (some a) len cap,.int _ i=>
  (match QBJ P elem with
  |some n=>(match F.rd a.block with
   |some (.cells _ e _)=>if 0≤i∧i≤len∧i.toNat<cap∧a.spot=none∧P.cellsOf e=P.cellsOf elem then some (.slice (some ⟨a.block,a.off+i.toNat*n,none⟩) (len - i.toNat) (cap - i.toNat)) else none
   |_=>none)
  |none=>none)
 |_,_,_=>none
theorem QKA {t:TypeId}{x low v:Value}{F:Fw}(h:QFi P t x low F=some v):QHj P t x low F.toW=some v:=by
 unfold QFi at h
 split at h
 ·
  rename_i elem a len cap k i hu
  split at h
  ·
   rename_i n hn
   split at h
   ·
    rename_i xs e fz hrd
    split at h
    ·
     rename_i hc;obtain⟨h1,h2,h3,h4,h5⟩:=hc;unfold QHj;simp only[hu];have hn':(P.info? elem).map (·.size)=some n:=hn;simp only[hn']
     have hro:QP5 P elem F.toW a.block=true:=by
      unfold QP5;simp only[F.rd_some hrd,h5,beq_self_eq_true]
     rw[if_pos ⟨h1,h2,h3,h4,hro⟩];exact h
    ·
     cases h
   ·
    cases h
  ·
   cases h
 ·
  cases h
def QDX(P:Program)(t:TypeId)(x k:Value)(ok:Bool)(F:Fw):Option Value:=
 match P.underlying t with
 |some (.map kt et)=>(match P.underlying kt,(P.info? et).bind (·.zero)with
  |some .string,some z=>if QJP z=true then(match x,k with
   | .map (some r),.string s=>(match F.rd r with
    |some (.map es _)=>(match QG4 s.data.toList es.toList with
     |some (some v)=>some (if ok then .tuple #[v,.bool true] else v)
     |some none=>some (if ok then .tuple #[z,.bool false] else z)
     |none=>none)
    |_=>none)
   |_,_=>none) else none
  |_,_=>none)
 |_=>none
theorem QHW {t:TypeId}{x k v:Value}{ok:Bool}{F:Fw}(h:QDX P t x k ok F=some v):QFH P t x k ok F.toW=some v:=by
 unfold QDX at h;unfold QFH
 split at h
 ·
  rename_i kt et hu;simp only[hu]
  split at h
  ·
   rename_i z h1 h2;simp only[h1,h2]
   split at h
   ·
    rename_i hf;rw[if_pos hf]
    split at h
    ·
     rename_i r s
     split at h
     ·
      rename_i es n hrd;simp only[F.rd_some hrd];exact h
     ·
      cases h
    ·
     cases h
   ·
    cases h
  ·
   cases h
 ·
  cases h
def QCC(P:Program)(B:Nat)(t:TypeId)(m k x:Value)(F:Fw):Option Fw:=
 match P.underlying t with
 |some (.map kt _)=>(match P.underlying kt with
  |some .string=>(match m,k with
   | .map (some r),.string s=>if B≤r∧big F.n then(match F.rd r with
    |some (.map es n)=>(match QG4 s.data.toList es.toList with
     |some none=>some (F.put r (.map (es.push {key:= .string s,val:=x,born:=n}) (n+1)))
     |_=>none)
    |_=>none) else none
   |_,_=>none)
  |_=>none)
 |_=>none
theorem QHo {t:TypeId}{m k x:Value}{F F1:Fw}(h:QCC P B t m k x F=some F1):∃c1,QDi P B t m k x F.toW=some c1∧c1.heap=F1.toW.heap:=by
 unfold QCC at h;unfold QDi
 split at h
 ·
  rename_i kt et hu;simp only[hu]
  split at h
  ·
   rename_i hk;simp only[hk]
   split at h
   ·
    rename_i r s
    split at h
    ·
     rename_i hB;obtain⟨hB,hbig⟩:=hB;dsimp only;rw[if_pos hB]
     split at h
     ·
      rename_i es n hrd;simp only[F.rd_some hrd]
      split at h
      ·
       rename_i hf;injection h with h
       subst h;simp only[hf];exact⟨_,rfl,(F.put_heap r _ (QRy hrd) hbig).symm⟩
      ·
       cases h
     ·
      cases h
    ·
     cases h
   ·
    cases h
  ·
   cases h
 ·
  cases h
def QNJ(F:Fw)(a:Option Addr)(n:Nat):Option (List Value):=
 match a with
 |none=>if n=0 then some [] else none
 |some ⟨b,o,none⟩=>(match F.rd b with
  |some (.cells xs _ _)=>if o≤xs.toList.length then takeAt xs.toList o n else none
  |_=>none)
 |_=>none
theorem QNK {F:Fw}{a:Option Addr}{n:Nat}{r:List Value}(h:QNJ F a n=some r):QF8 F.toW a n=some ⟨r⟩:=by
 unfold QNJ at h;unfold QF8
 split at h
 ·
  split at h
  ·
   rename_i hn;injection h with h
   subst h;rw[if_pos hn]
  ·
   cases h
 ·
  rename_i b o
  split at h
  ·
   rename_i xs e fz hrd
   split at h
   ·
    rename_i ho;simp only[F.rd_some hrd];obtain⟨h1,h2,h3⟩:=QCX _ _ _ _ h;have hs:xs.toList.length=xs.size:=by simp
    have hle:o+n≤xs.size:=by
     by_cases hn:n=0
     ·
      omega
     ·
      have:=h2 hn;omega
    rw[if_pos ⟨trivial,hle⟩]
    congr 1
    apply Array.ext_getElem?
    intro j
    by_cases hj:j<n
    ·
     have e1:(xs.extract o (o+n))[j]?=xs[o+j]?:=by
      rw[Array.getElem?_extract,if_pos (by omega)]
     have e2:(⟨r⟩:Array Value)[j]?=some (r.getD j undef):=by
      have:(⟨r⟩:Array Value)[j]?=some ((⟨r⟩:Array Value).getD j undef):=getElem?_of_getD (by show j<r.length;omega);rw[this,←QAt]
     rw[e1,e2];have:=h3 j hj
     simpa using this
    ·
     rw[Array.getElem?_eq_none (by simp only[Array.size_extract];omega),Array.getElem?_eq_none (by show r.length≤j;omega)]
   ·
    cases h
  ·
   cases h
 ·
  cases h
def QHw(P:Program)(B:Nat)(t t2:TypeId)(x y:Value)(F:Fw):Option (Value × Fw):=
 match P.underlying t,P.underlying t2,x,y with
 |some (.slice elem),some (.slice _),.slice base sl sc,.slice yb yl _=>
  (match P.info? elem with
  |some i=>(match i.zero with
   |some z=>
    if z.cells.size=i.size∧z.cells.all QA1=true∧i.bytes≤10000∧sl+yl≤10000∧big F.n then
     (match QNJ F yb (yl*i.size)with
     |some ys=>
      if ys.all one1=true then
       (if sl+yl≤sc then(if yl=0 then some (x,F) else none)
       else match base with
        |none=>if sl=0 then some (.slice (some ⟨F.n,0,none⟩) yl yl,F.push (.cells ⟨ys⟩ elem)) else none
        |some ⟨b,o,s⟩=>(match F.rd b with
         |some (.cells xs e _)=>if B≤b∧e=elem∧xs.size=sl*i.size∧o=0∧s=none then
           some (.slice (some ⟨F.n,0,none⟩) (sl+yl) (sl+yl),(F.put b (.coro none)).push (.cells ⟨xs.toList++ys⟩ elem)) else none
         |_=>none))
      else none
     |none=>none)
    else none
   |none=>none)
  |none=>none)
 |_,_,_,_=>none
theorem QLz {t t2:TypeId}{x y v:Value}{F F1:Fw}(h:QHw P B t t2 x y F=some (v,F1)):∃c1,QF2 P B t t2 x y F.toW=some (v,c1)∧c1.heap=F1.toW.heap:=by
 unfold QHw at h;unfold QF2
 split at h
 ·
  rename_i elem e2 base sl sc yb yl yk hu hu2;simp only[hu,hu2]
  split at h
  ·
   rename_i i hi;simp only[hi]
   split at h
   ·
    rename_i z hz;simp only[hz]
    split at h
    ·
     rename_i hc;obtain⟨c1,c2,c3,c4,hbig⟩:=hc;rw[if_pos ⟨c1,c2,c3,c4⟩]
     split at h
     ·
      rename_i ys hys;simp only[QNK hys]
      split at h
      ·
       rename_i hone;have hone':(⟨ys⟩:Array Value).all one1=true:=by rw[←Array.all_toList];exact hone
       rw[if_pos hone']
       split at h
       ·
        rename_i hle;rw[if_pos hle]
        split at h
        ·
         rename_i h0;rw[if_pos h0];injection h with h
         injection h with h1 h2
         subst h1 h2;exact⟨_,rfl,rfl⟩
        ·
         cases h
       ·
        rename_i hle;rw[if_neg hle]
        split at h
        ·
         split at h
         ·
          rename_i h0;dsimp only;rw[if_pos h0];injection h with h
          injection h with h1 h2
          subst h1 h2;exact⟨_,by rw[Fw.size],(F.push_heap _ hbig).symm⟩
         ·
          cases h
        ·
         rename_i b o s
         split at h
         ·
          rename_i xs e fz hrd
          split at h
          ·
           rename_i hcc;simp only[F.rd_some hrd];rw[if_pos hcc];injection h with h
           injection h with h1 h2
           subst h1 h2;refine⟨_,by rw[Fw.size],?_⟩;have e1:(⟨xs.toList++ys⟩:Array Value)=xs++⟨ys⟩:=by apply Array.ext';simp
           rw[Fw.push_heap (F.put b (.coro none)) _ hbig,F.put_heap b _ (QRy hrd) hbig,e1]
          ·
           cases h
         ·
          cases h
      ·
       cases h
     ·
      cases h
    ·
     cases h
   ·
    cases h
  ·
   cases h
 ·
  cases h
end Go.Proofs.YtjnclkakbopnjaaGreatDoor
