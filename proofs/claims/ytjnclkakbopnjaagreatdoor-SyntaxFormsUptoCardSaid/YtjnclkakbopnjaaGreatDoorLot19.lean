/- XSimI, XSimJ, XSimK, XSimL -/
import Derived.Test.YtjnclkakbopnjaaGreatDoorLot18
import Derived.Orders
import Derived.Still
set_option linter.unusedSimpArgs false
set_option linter.unusedVariables false
namespace Go.Proofs.YtjnclkakbopnjaaGreatDoor
open Go.Proofs.Tryz
open Go.RowKit
variable {P : Program} {B G : Nat} {w0 : World} {α β γ δ : Type} {L : Lie} {c w : World}
theorem QDd {t:TypeId}{i:TypeInfo}(h:P.info? t=some i)(w:World):(typeInfo t).run P w= .ok i w:=by
 unfold Go.typeInfo;simp only[Sem.run_bind,Go.program,Sem.run,Result.andThen_ok,h,Sem.run_pure]
theorem QIj {t t2 ty elem e2:TypeId}{i:TypeInfo}{z:Value}(hu:P.underlying t=some (.slice elem))(hu2:P.underlying t2=some (.slice e2))(hi:P.info? elem=some i)(hz:i.zero=some z)
  (base yb:Option Addr) (sl sc yl yk:Nat) (hb:i.bytes≤10000) (hl:sl+yl≤10000) (w:World):
  (Builtin.append_ #[t,t2] ty #[.slice base sl sc,.slice yb yl yk]).run P w=
   if sl+yl≤sc then
    (do
      let new←Builtin.firstCells i.size yl (.slice yb yl yk)
      if let some a:=base then storeCells (a.add (sl*i.size)) new.toList
      Pure.pure (Value.slice base (sl+yl) sc):Sem Value).run P w
   else
    (do
      let newCap←choose (.appendCap (sl+yl) sc elem)
      askRoom (newCap*i.bytes)
      let old←Builtin.firstCells i.size sl (.slice base sl sc)
      let new←Builtin.firstCells i.size yl (.slice yb yl yk)
      let rest:=Builtin.zeroCells z.cells (newCap - (sl+yl))
      Pure.pure (Value.slice (some (←Go.newRow elem (old++new++rest))) (sl+yl) newCap):Sem Value).run P w:=by
 have hsz:(P.info? elem).map (·.size)=some i.size:=by rw[hi];rfl
 have hzz:(P.info? elem).bind (·.zero)=some z:=by rw[hi];exact hz
 unfold Builtin.append_;simp only[List.getElem?_toArray,List.getElem?_cons_zero,List.getElem?_cons_succ,Sem.run_bind,QAD hu,QAD hu2,Result.andThen_ok,QDE hsz,Sem.run_pure,bind_pure_comp,Sem.run_map,Bool.false_eq_true,if_false,Builtin.lenOf]
 split
 ·
  simp only[Bool.not_false,if_true,Sem.run_bind];rfl
 ·
  rename_i hgt;have hnc:=QGV (Nat.lt_of_not_le hgt);have hmax:IntKind.i64.max=9223372036854775807:=by decide
  have h1:¬(((sl+yl:Nat):Int)>IntKind.i64.max):=by rw[hmax];omega
  have h2:¬(Builtin.nextslicecap (sl+yl) sc*i.bytes>2 ^ 48):=by
   have:Builtin.nextslicecap (sl+yl) sc*i.bytes≤(2*(sl+yl)+768)*10000:=Nat.mul_le_mul hnc hb;omega
  simp only[QDd hi,Result.andThen_ok,h1,false_and,if_false,h2,Sem.run_bind,QCA hzz,Sem.run_map,Bool.not_false,if_true,Bool.false_eq_true,ite_self]
theorem QA3 {n k:Nat}{a:Option Addr}{l cap:Nat}{us:Array Value}{w1:World}(h:QPP P a (k*n) us w1):
  (Builtin.firstCells n k (.slice a l cap)).run P w1= .ok us w1:=by
 cases a with
 |none=>subst h;rfl
 |some b=>exact h
theorem QD8(z:Array Value)(n:Nat):(Builtin.zeroCells z n).size=n*z.size:=by simp[Builtin.zeroCells]
theorem QA2 {xs ys:Array Value}{i:Nat}(h:i<xs.size):(xs++ys).getD i undef=xs.getD i undef:=by
 simp[Array.getD,h,show i<xs.size+ys.size by omega,Array.getElem_append_left]
theorem QBt {xs ys:Array Value}{i:Nat}(h:xs.size≤i)(h2:i<xs.size+ys.size):(xs++ys).getD i undef=ys.getD (i - xs.size) undef:=by
 simp[Array.getD,h2,show i - xs.size<ys.size by omega,Array.getElem_append_right h]
theorem AR.append {xs us ys vs:Array Value}(h:AR P L xs us)(g:AR P L ys vs):AR P L (xs++ys) (us++vs):=by
 refine⟨by simp[h.1,g.1],fun i hi=>?_⟩;rw[Array.size_append]at hi
 by_cases hl:i<xs.size
 ·
  rw[QA2 hl,QA2 (by rw[←h.1];exact hl)];exact h.2 i hl
 ·
  have e1:=h.1;have e2:=g.1;rw[QBt (by omega) hi,QBt (by omega) (by omega),←e1];exact g.2 _ (by omega)
theorem QD7 {need old:Nat}{e:TypeId}(w:World):∃k,need≤k∧(choose (.appendCap need old e)).run P w= .ok k {w with drawn:=w.drawn+1}:=by
 refine⟨_,?_,rfl⟩;show need≤need+_;omega
theorem QIz(h:Sim P B G w0 L c w){t t2 ty:TypeId}{x x' y y' v:Value}{c1:World}(hx:VR P L x x')(hy:VR P L y y')(he:QF2 P B t t2 x y c=some (v,c1)):
  ∃M w1 v',(Builtin.append_ #[t,t2] ty #[x',y']).run P w= .ok v' w1∧L.le M∧Sim P B G w0 M c1 w1∧VR P M v v':=by
 unfold QF2 at he
 split at he
 ·
  rename_i elem e2 base sl sc yb yl yk hu hu2
  split at he
  ·
   rename_i i hi
   split at he
   ·
    rename_i z hz
    split at he
    ·
     rename_i hc;obtain⟨hzs,hzf,hbytes,hlen⟩:=hc
     split at he
     ·
      rename_i ys hys
      split at he
      ·
       rename_i hone
       obtain⟨base',sc',rfl,hbase⟩:∃base' sc',x'= .slice base' sl sc'∧VR P L (.slice base sl sc) (.slice base' sl sc'):=by
        cases hx with
        |nilS=>exact⟨_,_,rfl,.nilS _ _⟩
        |slice b o _ _ k' hb hc=>exact⟨_,_,rfl,.slice b o _ _ k' hb hc⟩
       obtain⟨yb',yk',rfl,hyb⟩:∃yb' yk',y'= .slice yb' yl yk'∧VR P L (.slice yb yl yk) (.slice yb' yl yk'):=by
        cases hy with
        |nilS=>exact⟨_,_,rfl,.nilS _ _⟩
        |slice b o _ _ k' hb hc=>exact⟨_,_,rfl,.slice b o _ _ k' hb hc⟩
       obtain⟨hyn,vs,hvs,hload⟩:=QJD h hyb hys;have hrun:=QIj (ty:=ty) hu hu2 hi hz base' yb' sl sc' yl yk' hbytes hlen w;rw[hrun]
       split at he
       ·
        -- nothing is appended
        rename_i hle
        split at he
        ·
         rename_i h0;subst h0;injection he with he
         injection he with he1 he2
         subst he1 he2
         have hle':sl+0≤sc':=by
          cases hbase with
          |nilS=>exact hle
          |slice b o l k k' hb hc=>rcases hc with rfl|⟨h1,_⟩ <;> omega
         rw[if_pos hle'];have hvn:vs=#[]:=Array.eq_empty_of_size_eq_zero (by rw[←hvs.1,hyn];simp);subst hvn;refine⟨L,w,.slice base' sl sc',?_,L.le_refl,h,hbase⟩;rw[Sem.run_bind,QA3 (hload w fun _ _=>rfl)]
         cases base' with
         |none=>rfl
         |some a=>rfl
        ·
         cases he
       ·
        rename_i hgt
        split at he
        ·
         -- the first elements
         split at he
         ·
          rename_i h0;subst h0;injection he with he
          injection he with he1 he2
          subst he1 he2
          cases hbase with
          |nilS=>
           rw[if_neg hgt];obtain⟨k,hk,hch⟩:=QD7 (P:=P) (need:=0+yl) (old:=sc) (e:=elem) w;have hS:=h.same (c1:=c) (w1:={w with drawn:=w.drawn+1}) rfl rfl rfl rfl rfl;have har:AR P L ys vs:=hvs
           have hnew:=hS.new (o:= .cells ys elem) (o':= .cells (#[]++vs++Builtin.zeroCells z.cells (k - (0+yl))) elem) (.inl ⟨rfl,rfl,rfl,by simp[har.1],fun j hj=>by
            rw[QA2 (by simp only[Array.size_append,List.size_toArray,List.length_nil];rw[←har.1];omega)];simp only[Array.empty_append]
            exact(har.2 j hj).mono (Lie.le_grow hS _)⟩) rfl
           refine⟨_,_,.slice (some ⟨w.heap.size,0,none⟩) (0+yl) k,?_,Lie.le_grow hS _,hnew,?_⟩
           ·
            have hq:(askRoom (k*i.bytes)).run P {w with drawn:=w.drawn+1}= .ok () {w with drawn:=w.drawn+1}:=by unfold Go.askRoom;split <;> rfl
            rw[Sem.run_bind,hch];simp only[Result.andThen_ok,Sem.run_bind,hq];rw[QA3 (us:=#[]) (show QPP P none _ #[] _ from rfl)];simp only[Result.andThen_ok];rw[QA3 (hload {w with drawn:=w.drawn+1} fun _ _=>rfl)];rfl
           ·
            have e:VR P (L.grow {w with drawn:=w.drawn+1} (.cells (#[]++vs++Builtin.zeroCells z.cells (k - (0+yl))) elem)) (.slice (some ⟨L.n,0,none⟩) yl yl) (.slice (some ⟨(L.grow {w with drawn:=w.drawn+1} (.cells (#[]++vs++Builtin.zeroCells z.cells (k - (0+yl))) elem)).at_ L.n,0,none⟩) yl k):=by
             refine .slice _ _ _ _ _ (Nat.lt_succ_self _) (.inr ⟨by omega,elem,(#[]++vs++Builtin.zeroCells z.cells (k - (0+yl))).size,?_,?_⟩)
             ·
              show World.shape? _ (if L.n=L.n then w.heap.size else _)=_;rw[if_pos rfl];unfold World.shape?;simp
             ·
              have hce:P.cellsOf elem=i.size:=QFA (by rw[hi];rfl);simp only[Array.size_append,List.size_toArray,List.length_nil,QD8,hce,hzs,←har.1,hyn];have:yl*i.size+(k - (0+yl))*i.size=k*i.size:=by rw[←Nat.add_mul];congr 1;omega
              omega
            have e2:(L.grow {w with drawn:=w.drawn+1} (.cells (#[]++vs++Builtin.zeroCells z.cells (k - (0+yl))) elem)).at_ L.n=w.heap.size:=by show(if L.n=L.n then _ else _)=_;rw[if_pos rfl]
            rw[e2]at e;rw[←h.n];simp only[Nat.zero_add]at e ⊢;exact e
         ·
          cases he
        ·
         -- a block that is full
         rename_i b o s
         split at he
         ·
          rename_i xs e fz hh
          split at he
          ·
           rename_i hcc;obtain⟨hB,rfl,hxs,rfl,rfl⟩:=hcc;injection he with he
           injection he with he1 he2
           subst he1 he2;obtain⟨hbn,us,hw,rfl,hsz,hus⟩:=h.cells hh;have hce:P.cellsOf e=i.size:=QFA (by rw[hi];rfl);have hkill:=h.kill b;have hkn:(c.heap.setIfInBounds b (.coro none)).size=c.heap.size:=by simp
           cases hbase with
           |slice _ _ _ _ _ hb hc=>
            by_cases hfit:sl+yl≤sc'
            ·
             -- there is room in the great world:the row is written in place
             rw[if_pos hfit]
             have hroom:(sl+yl)*i.size≤us.size:=by
              rcases hc with rfl|⟨_,e',m,hs,hm⟩
              ·
               omega
              ·
               have:L.sh (L.at_ b)=some (e,us.size):=by rw[h.sh];unfold World.shape?;simp only[hw]
               rw[hs]at this;injection this with this
               injection this with t1 t2
               rw[t1,hce,t2]at hm;have:=Nat.mul_le_mul_right i.size hfit;omega
             have hmul:(sl+yl)*i.size=sl*i.size+yl*i.size:=Nat.add_mul _ _ _;have hvn:vs.toList.length=yl*i.size:=by rw[Array.length_toList,←hvs.1,hyn]
             have hstore:=run_storeCells_cells (P:=P) (L.at_ b) (0+sl*i.size) vs.toList 0 w (fun j hj=>by rw[cell?_of hw,getElem?_of_getD (by omega)];rfl) (fun j _=>frozen?_zero hw) (fun v hv=>by
              obtain⟨j,hj,rfl⟩:=List.getElem_of_mem hv;have h1:=hvs.2 j (by rw[hvs.1];simpa using hj);have h2:=h1.one1;have h3:one1 (ys.getD j undef)=true:=QFo hone (by rw[hvs.1];simpa using hj)
              have h4:vs.getD j undef=vs.toList[j]:=by
               have hj':j<vs.size:=by simpa using hj
               simp[Array.getD,hj']
              rw[h4,h3]at h2
              cases hq:vs.toList[j] <;> first|rfl|(rw[hq]at h2;cases h2))
             rw[Nat.add_zero]at hstore;obtain⟨us',g1,g2,g3,g4,g5,g6,g7,g8,g9⟩:=QDe (L.at_ b) vs.toList (0+sl*i.size) w us e hw (by omega);have hle:L.le ⟨L.n+1,fun r=>if r=L.n then L.at_ b else L.at_ r,L.sh⟩:=⟨Nat.le_succ _,fun r hr=>by show(if r=L.n then _ else _)=_;rw[if_neg (by omega)],fun _ _ h=>h⟩;have hold:∀r,r<L.n→(if r=L.n then L.at_ b else L.at_ r)=L.at_ r:=fun r hr=>by rw[if_neg (by omega)]
             have split':∀(r:Nat) (x:Obj),((c.heap.setIfInBounds b (.coro none)).push (.cells (xs++ys) e))[r]?=some x→QE7 x=true→(r<L.n∧r≠b∧c.heap[r]?=some x)∨(r=L.n∧x= .cells (xs++ys) e):=by
              intro r x hx ax;rw[Array.getElem?_push]at hx
              split at hx
              ·
               rename_i hr;injection hx with hx
               exact .inr ⟨by rw[hr,hkn,h.n],hx.symm⟩
              ·
               rw[Array.getElem?_setIfInBounds]at hx
               split at hx
               ·
                split at hx
                ·
                 injection hx with hx;subst hx;cases ax
                ·
                 cases hx
               ·
                rename_i hne;exact .inl ⟨by rw[h.n];exact(Array.getElem?_eq_some_iff.1 hx).1,fun e=>hne e.symm,hx⟩
             have hw0:w0.heap.size≤L.at_ b:=h.fresh b hB hbn;refine⟨⟨L.n+1,fun r=>if r=L.n then L.at_ b else L.at_ r,L.sh⟩,w.setCells (L.at_ b) (0+sl*i.size) vs.toList,.slice (some ⟨L.at_ b,0,none⟩) (sl+yl) sc',?_,hle,?_,?_⟩
             ·
              rw[Sem.run_bind,QA3 (hload w fun _ _=>rfl)];simp only[Result.andThen_ok,Sem.run_bind,QAz];rw[hstore];rfl
             ·
              refine⟨by simp[h.n],by show L.sh=_;rw[g6,h.sh],fun g hg=>?_,Nat.le_succ_of_le h.gle,Nat.le_succ_of_le h.ble,?_,?_,?_,?_,?_⟩
              ·
               show(if g=L.n then _ else _)=g;rw[hold g (Nat.lt_of_lt_of_le hg h.gle)];exact h.glob g hg
              ·
               intro r s x y hx hy ax ay heq;have heq:(if r=L.n then L.at_ b else L.at_ r)=(if s=L.n then L.at_ b else L.at_ s):=heq;rcases split' r x hx ax with ⟨hr,hrb,hx⟩|⟨rfl,_⟩ <;> rcases split' s y hy ay with ⟨hs,hsb,hy⟩|⟨rfl,_⟩
               ·
                rw[hold r hr,hold s hs]at heq;exact h.inj r s x y hx hy ax ay heq
               ·
                rw[hold r hr,if_pos rfl]at heq;exact absurd (h.inj r b x _ hx hh ax rfl heq) hrb
               ·
                rw[hold s hs,if_pos rfl]at heq;exact absurd (h.inj s b y _ hy hh ay rfl heq.symm) hsb
               ·
                rfl
              ·
               intro r x hx ax;rcases split' r x hx ax with ⟨hr,hrb,hx⟩|⟨rfl,rfl⟩
               ·
                obtain⟨x',hx',hor⟩:=h.obj r x hx ax;refine⟨x',?_,hor.mono hle⟩;show(w.setCells (L.at_ b) (0+sl*i.size) vs.toList).heap[if r=L.n then L.at_ b else L.at_ r]?=_;rw[hold r hr,g4 _ fun e=>hrb (h.inj r b x _ hx hh ax rfl e)];exact hx'
               ·
                refine⟨.cells us' e (0,0),?_,?_⟩
                ·
                 show(w.setCells (L.at_ b) (0+sl*i.size) vs.toList).heap[if L.n=L.n then L.at_ b else L.at_ L.n]?=_;rw[if_pos rfl];exact g1
                ·
                 refine⟨rfl,rfl,rfl,by rw[Array.size_append,hxs,hyn,g2];omega,fun j hj=>?_⟩;rw[Array.size_append]at hj;rw[g3 j]
                 by_cases hjx:j<xs.size
                 ·
                  rw[QA2 hjx,if_neg (by omega)];exact(hus j hjx).mono hle
                 ·
                  rw[QBt (by omega) hj,if_pos (by omega),QAt,show j - (0+sl*i.size)=j - xs.size by omega];exact(hvs.2 _ (by omega)).mono hle
              ·
               intro r hr hrn;have hrn:r<L.n+1:=hrn;show _≤(if r=L.n then L.at_ b else L.at_ r)
               by_cases h1:r=L.n
               ·
                rw[if_pos h1];exact hw0
               ·
                rw[if_neg h1];exact h.fresh r hr (by omega)
              ·
               exact⟨g7.trans h.below.os,g8.trans h.below.tape,g9.trans h.below.output,by rw[g5];exact h.below.size,fun k hk=>by rw[g4 k (by omega)];exact h.below.block k hk⟩
              ·
               intro r x hx;rw[Array.getElem?_push]at hx
               split at hx
               ·
                injection hx with hx;subst hx;rfl
               ·
                exact hkill.nov r x hx
             ·
              have e1:VR P ⟨L.n+1,fun r=>if r=L.n then L.at_ b else L.at_ r,L.sh⟩ (.slice (some ⟨L.n,0,none⟩) (sl+yl) (sl+yl)) (.slice (some ⟨if L.n=L.n then L.at_ b else L.at_ L.n,0,none⟩) (sl+yl) sc'):=by
               refine .slice _ _ _ _ _ (Nat.lt_succ_self _) (.inr ⟨hfit,e,us.size,?_,?_⟩)
               ·
                show L.sh (if L.n=L.n then L.at_ b else L.at_ L.n)=_;rw[if_pos rfl,h.sh];unfold World.shape?;simp only[hw]
               ·
                rcases hc with rfl|⟨_,e',m,hs,hm⟩
                ·
                 omega
                ·
                 have:L.sh (L.at_ b)=some (e,us.size):=by rw[h.sh];unfold World.shape?;simp only[hw]
                 rw[hs]at this;injection this with this
                 injection this with t1 t2
                 rw[t1,t2]at hm;exact hm
              rw[if_pos rfl]at e1;rw[←h.n];exact e1
            ·
             -- a new block in the great world too
             rw[if_neg hfit];obtain⟨k,hk,hch⟩:=QD7 (P:=P) (need:=sl+yl) (old:=sc') (e:=e) w;have hS:=hkill.same (c1:={c with heap:=c.heap.setIfInBounds b (.coro none)}) (w1:={w with drawn:=w.drawn+1}) rfl rfl rfl rfl rfl
             obtain⟨us1,hus1,har1,hld⟩:∃us1:Array Value,us1.size=sl*i.size∧AR P L xs us1∧QPP P (some ⟨L.at_ b,0,none⟩) (sl*i.size) us1 {w with drawn:=w.drawn+1}:=by
              refine⟨((List.range (sl*i.size)).map fun j=>us.getD j undef).toArray,by simp,⟨by rw[hxs];simp,fun j hj=>?_⟩,?_⟩
              ·
               rw[hxs]at hj;have e2:(((List.range (sl*i.size)).map fun j=>us.getD j undef).toArray).getD j undef=us.getD j undef:=by simp[Array.getD,hj]
               rw[e2];exact hus j (by omega)
              ·
               refine run_loadCells _ _ _ (fun j=>us.getD j undef) fun j hj=>?_
               rw[QAz,Nat.zero_add];have:({w with drawn:=w.drawn+1}:World).heap[L.at_ b]?=some (.cells us e (0,0)):=hw;rw[cell?_of this];exact getElem?_of_getD (by omega)
             have har:=har1.append hvs
             have hnew:=hS.new (o:= .cells (xs++ys) e) (o':= .cells (us1++vs++Builtin.zeroCells z.cells (k - (sl+yl))) e) (.inl ⟨rfl,rfl,rfl,by rw[har.1];simp,fun j hj=>by
              rw[show(us1++vs++Builtin.zeroCells z.cells (k - (sl+yl))).getD j undef=(us1++vs).getD j undef from QA2 (by rw[←har.1];exact hj)]
              exact(har.2 j hj).mono (Lie.le_grow hS _)⟩) rfl
             refine⟨_,_,.slice (some ⟨w.heap.size,0,none⟩) (sl+yl) k,?_,Lie.le_grow hS _,hnew,?_⟩
             ·
              have hq:(askRoom (k*i.bytes)).run P {w with drawn:=w.drawn+1}= .ok () {w with drawn:=w.drawn+1}:=by unfold Go.askRoom;split <;> rfl
              rw[Sem.run_bind,hch];simp only[Result.andThen_ok,Sem.run_bind,hq];rw[QA3 hld];simp only[Result.andThen_ok];rw[QA3 (hload {w with drawn:=w.drawn+1} fun _ _=>rfl)];rfl
             ·
              have e1:VR P (L.grow {w with drawn:=w.drawn+1} (.cells (us1++vs++Builtin.zeroCells z.cells (k - (sl+yl))) e)) (.slice (some ⟨L.n,0,none⟩) (sl+yl) (sl+yl)) (.slice (some ⟨(L.grow {w with drawn:=w.drawn+1} (.cells (us1++vs++Builtin.zeroCells z.cells (k - (sl+yl))) e)).at_ L.n,0,none⟩) (sl+yl) k):=by
               refine .slice _ _ _ _ _ (Nat.lt_succ_self _) (.inr ⟨hk,e,(us1++vs++Builtin.zeroCells z.cells (k - (sl+yl))).size,?_,?_⟩)
               ·
                show World.shape? _ (if L.n=L.n then w.heap.size else _)=_;rw[if_pos rfl];unfold World.shape?;simp
               ·
                simp only[Array.size_append,QD8,hce,hzs,hus1,←hvs.1,hyn];have e3:sl*i.size+yl*i.size+(k - (sl+yl))*i.size=k*i.size:=by rw[←Nat.add_mul,←Nat.add_mul];congr 1;omega
                omega
              have e2:(L.grow {w with drawn:=w.drawn+1} (.cells (us1++vs++Builtin.zeroCells z.cells (k - (sl+yl))) e)).at_ L.n=w.heap.size:=by show(if L.n=L.n then _ else _)=_;rw[if_pos rfl]
              rw[e2]at e1;rw[←h.n];exact e1
          ·
           cases he
         ·
          cases he
      ·
       cases he
     ·
      cases he
    ·
     cases he
   ·
    cases he
  ·
   cases he
 ·
  cases he
variable {P : Program} {B G : Nat} {w0 : World} {L : Lie} {c w : World}
def QBJ(P:Program)(t:TypeId):Option Nat:=(P.info? t).map (·.size)
def QAo(P:Program)(t:TypeId)(x:Value)(f:Nat):Option Value:=
 match P.underlying t,x with
 |some (.struct fs),.pointer (some a)=>(match fs[f]? with
  |some fl=>if QBJ P fl.type≠some 0∧QBJ P fl.type≠none∧a.spot=none then some (.pointer (some ⟨a.block,a.off+fl.offset,none⟩)) else none
  |none=>none)
 |_,_=>none
def QAj(P:Program)(t:TypeId)(x i:Value):Option Value:=
 match P.underlying t,x,i with
 |some (.slice e),.slice (some a) len _,.int _ k=>(match QBJ P e with
  |some n=>if 0≤k∧k<len∧a.spot=none then some (.pointer (some ⟨a.block,a.off+k.toNat*n,none⟩)) else none
  |none=>none)
 |some (.array len e),.pointer (some a),.int _ k=>(match QBJ P e with
  |some n=>if 0≤k∧k<len∧a.spot=none then some (.pointer (some ⟨a.block,a.off+k.toNat*n,none⟩)) else none
  |none=>none)
 |_,_,_=>none
def okX(G:Nat):Operand→Bool
 | .tmp _| .func _=>true
 | .const v=>QJP v
 | .global g=>decide (g<G)
def QCb(P:Program)(ρ:Operand→Value)(k:Call):Option Value:=
 match k.callee with
 | .builtin .len=>(match k.args.toList,k.argTypes.toList with| [x], [t]=>QT7 P t (ρ x)|_,_=>none)
 | .builtin .max=>(match k.args.toList with| [x,y]=>QT8 (ρ x) (ρ y)|_=>none)
 |_=>none
def QFX(P:Program)(op:BinOp)(t:TypeId)(x y:Value)(yo:Operand):Option Value:=
 match P.underlying t,y,yo with
 |some (.interface _),.nilIface,.const _=>(match x,op with
  | .iface _ _,.eql=>some (.bool false)
  | .iface _ _,.neq=>some (.bool true)
  | .nilIface,.eql=>some (.bool true)
  | .nilIface,.neq=>some (.bool false)
  |_,_=>none)
 |_,_,_=>none
def QIN:TypeDesc→Bool
 | .interface _=>true
 |_=>false
def QEC(P:Program)(x:Value)(t:TypeId):Option Value:=
 match P.underlying t,(P.info? t).bind (·.zero)with
 |some d,some z=>if QIN d=false∧QJP z=true then(match x with
  | .iface u v=>if u=t then some (.tuple #[v,.bool true]) else some (.tuple #[z,.bool false])
  | .nilIface=>some (.tuple #[z,.bool false])
  |_=>none) else none
 |_,_=>none
def QJo(P:Program)(ρ:Operand→Value):Op→Option Value
 | .move x| .assign x=>some (ρ x)
 | .pick x y z=>(match ρ x with| .bool b=>some (if b then ρ y else ρ z)|_=>none)
 | .nilCheck x=>(match ρ x with
  | .pointer (some a)=>some (.pointer (some a))
  | .func (.func f) xs ys=>some (.func (.func f) xs ys)
  |_=>none)
 | .binOp op t x y _=>(match QQS P op t (ρ x) (ρ y)with
  |some v=>some v
  |none=>QFX P op t (ρ x) (ρ y) y)
 | .typeAssert x _ t true=>QEC P (ρ x) t
 | .unOp .not _ x=>(match ρ x with| .bool b=>some (.bool (!b))|_=>none)
 | .makeInterface t x=>(match P.underlying t with
  |some (.interface _)=>none
  |some _=>some (.iface t (ρ x))
  |none=>none)
 | .makeFunc fn xs ys=>some (.func fn (xs.map ρ) (ys.map ρ))
 | .fieldAddr t x f=>QAo P t (ρ x) f
 | .indexAddr t x i=>QAj P t (ρ x) (ρ i)
 | .extract x i=>(match ρ x with| .tuple vs=>vs[i]?|_=>none)
 | .call k=>QCb P ρ k
 |_=>none
theorem QBg {t:TypeId}{n:Nat}(h:QBJ P t=some n)(w:World):(Go.sizeOf t).run P w= .ok n w:=QDE h w
theorem QGI {t:TypeId}{x x' v:Value}{f:Nat}(hx:VR P L x x')(he:QAo P t x f=some v):∃v',VR P L v v'∧∀w,(Instr.fieldAt t x' f).run P w= .ok v' w:=by
 unfold QAo at he
 split at he
 ·
  rename_i fs a hu
  split at he
  ·
   rename_i fl hf
   split at he
   ·
    rename_i hc;obtain⟨h0,hn,hs⟩:=hc;injection he with he
    subst he
    cases hx with
    |ptr b o hb=>
     refine⟨_,.ptr b (o+fl.offset) hb,fun w=>?_⟩
     cases hz:QBJ P fl.type with
     |none=>exact absurd hz hn
     |some n=>
      have hn0:n≠0:=fun e=>h0 (by rw[hz,e])
      unfold Instr.fieldAt;simp only[Sem.run_bind,QAD hu,Result.andThen_ok,hf];unfold Instr.sureAddr Go.fieldPlace;simp only[Sem.run_bind,Sem.run_pure,Result.andThen_ok,QBg hz,if_neg hn0,QAz]
   ·
    cases he
  ·
   cases he
 ·
  cases he
theorem QGP {t:TypeId}{x x' i i' v:Value}(hx:VR P L x x')(hi:VR P L i i')(he:QAj P t x i=some v):∃v',VR P L v v'∧∀w,(Instr.indexAt t x' i').run P w= .ok v' w:=by
 unfold QAj at he
 split at he
 ·
  rename_i e a len cap kk k hu
  split at he
  ·
   rename_i n hn
   split at he
   ·
    rename_i hc;obtain⟨h0,h1,hs⟩:=hc;injection he with he
    subst he
    cases hi
    cases hx with
    |slice b o _ _ c' hb hc=>
     refine⟨_,.ptr b (o+k.toNat*n) hb,fun w=>?_⟩;unfold Instr.indexAt;simp only[asIntOf,pure_bind,Sem.run_bind,QAD hu,Result.andThen_ok,if_pos (And.intro h0 h1),QBg hn,Sem.run_pure,QAz]
   ·
    cases he
  ·
   cases he
 ·
  rename_i len e a kk k hu
  split at he
  ·
   rename_i n hn
   split at he
   ·
    rename_i hc;obtain⟨h0,h1,hs⟩:=hc;injection he with he
    subst he
    cases hi
    cases hx with
    |ptr b o hb=>
     refine⟨_,.ptr b (o+k.toNat*n) hb,fun w=>?_⟩;unfold Instr.indexAt;simp only[asIntOf,Instr.sureAddr,pure_bind,Sem.run_bind,QAD hu,Result.andThen_ok,if_pos (And.intro h0 h1),QBg hn,Sem.run_pure,QAz]
   ·
    cases he
  ·
   cases he
 ·
  cases he
theorem QDc {t u:TypeId}{v:Value}{ms:Array (String × TypeId)}(hu:P.underlying t=some (.interface ms))(w:World):(Op.equal t (.iface u v) .nilIface).run P w= .ok false w:=by
 suffices key:∀d,(Op.equalIn (d+1) t (.iface u v) .nilIface).run P w= .ok false w from key 9999
 intro d;simp only[Op.equalIn,Sem.run_bind,QAD hu,Result.andThen_ok,Sem.run_pure]
theorem QEr {t:TypeId}{ms:Array (String × TypeId)}(hu:P.underlying t=some (.interface ms))(w:World):(Op.equal t .nilIface .nilIface).run P w= .ok true w:=by
 suffices key:∀d,(Op.equalIn (d+1) t .nilIface .nilIface).run P w= .ok true w from key 9999
 intro d;simp only[Op.equalIn,Sem.run_bind,QAD hu,Result.andThen_ok,Sem.run_pure]
theorem QGO {op:BinOp}{t:TypeId}{x y x' y' v:Value}{xo yo:Operand}(hx:VR P L x x')(hy:VR P L y y')(he:QFX P op t x y yo=some v)(w:World):
  (do eqGuard op t xo yo x' y';binOp op t x' y':Sem Value).run P w= .ok v w∧VR P L v v:=by
 unfold QFX at he
 split at he
 ·
  rename_i ms cv hu
  cases hy
  split at he
  ·
   injection he with he
   subst he
   cases hx;exact⟨by simp[eqGuard,binOp,QDc hu],.bool _⟩
  ·
   injection he with he
   subst he
   cases hx;exact⟨by simp[eqGuard,binOp,QDc hu],.bool _⟩
  ·
   injection he with he
   subst he
   cases hx;exact⟨by simp[eqGuard,binOp,QEr hu],.bool _⟩
  ·
   injection he with he
   subst he
   cases hx;exact⟨by simp[eqGuard,binOp,QEr hu],.bool _⟩
  ·
   cases he
 ·
  cases he
theorem QI0 {x x' v:Value}{t xt:TypeId}(hx:VR P L x x')(he:QEC P x t=some v):∃v',VR P L v v'∧∀w,(Instr.typeAssert x' xt t true).run P w= .ok v' w:=by
 unfold QEC at he
 split at he
 ·
  rename_i d z hu hz
  split at he
  ·
   rename_i hc;obtain⟨hd,hf⟩:=hc
   have hzero:VR P L (.tuple #[z,.bool false]) (.tuple #[z,.bool false]):=by
    have:=(show AR P L #[z,.bool false] #[z,.bool false] from by
     have:=(AR.one (VR.of_flat hf:VR P L z z)).push (.bool false)
     simpa using this)
    exact .tuple _ _ this.1 this.2
   have hzr:∀w,(zeroValue t).run P w= .ok z w:=fun w=>by
    unfold Go.zeroValue Go.typeInfo;simp only[Sem.run_bind,Go.program,Sem.run,Result.andThen_ok]
    cases hi:P.info? t with
    |none=>rw[hi]at hz;cases hz
    |some i=>
     rw[hi]at hz;simp only[Option.bind_some]at hz;simp[hz]
   split at he
   ·
    rename_i u x0
    cases hx with
    |iface _ _ v' hv=>
    split at he
    ·
     rename_i hut;injection he with he
     subst he hut;refine⟨.tuple #[v',.bool true],?_,fun w=>?_⟩
     ·
      have:=(AR.one hv).push (VR.bool true:VR P L (.bool true) (.bool true));have h2:AR P L #[x0,.bool true] #[v',.bool true]:=by simpa using this
      exact .tuple _ _ h2.1 h2.2
     ·
      unfold Instr.typeAssert;simp only[Sem.run_bind,QAD hu,Result.andThen_ok]
      cases d <;> first|(simp[QIN]at hd;done)|simp
    ·
     rename_i hut;injection he with he
     subst he;refine⟨_,hzero,fun w=>?_⟩;unfold Instr.typeAssert;simp only[Sem.run_bind,QAD hu,Result.andThen_ok]
     cases d <;> first|(simp[QIN]at hd;done)|simp[hut,hzr]
   ·
    injection he with he
    subst he
    cases hx;refine⟨_,hzero,fun w=>?_⟩;unfold Instr.typeAssert;simp only[Sem.run_bind,QAD hu,Result.andThen_ok]
    cases d <;> first|(simp[QIN]at hd;done)|simp[hzr]
   ·
    cases he
  ·
   cases he
 ·
  cases he
theorem QFK {ρ ρ':Operand→Value}{o:Oper}{v:Value}(hρ:∀x∈o.op.operands.toList,VR P L (ρ x) (ρ' x))(he:QJo P ρ o.op=some v):
  ∃v',VR P L v v'∧∀w,(execOp ρ' o).run P w= .ok (.value v') w:=by
 unfold QJo at he;unfold execOp
 split at he
 ·
  rename_i x ho;injection he with he
  subst he;rw[ho]at hρ ⊢;exact⟨_,hρ x (by simp[Op.operands]),fun w=>rfl⟩
 ·
  rename_i x ho;injection he with he
  subst he;rw[ho]at hρ ⊢;exact⟨_,hρ x (by simp[Op.operands]),fun w=>rfl⟩
 ·
  rename_i x y z ho;rw[ho]at hρ ⊢;have hx:=hρ x (by simp[Op.operands])
  split at he
  ·
   rename_i b hb;injection he with he
   subst he;rw[hb]at hx;have hxv:=hx.eq_of_flat1 rfl;refine⟨if b then ρ' y else ρ' z,?_,fun w=>?_⟩
   ·
    split
    ·
     exact hρ y (by simp[Op.operands])
    ·
     exact hρ z (by simp[Op.operands])
   ·
    simp only[hxv,asBool,pure_bind,Sem.run_pure]
  ·
   cases he
 ·
  rename_i x ho;rw[ho]at hρ ⊢;have hx:=hρ x (by simp[Op.operands])
  split at he
  ·
   rename_i a ha;injection he with he
   subst he;rw[ha]at hx;refine⟨ρ' x,hx,fun w=>?_⟩
   cases hq:ρ' x <;> rw[hq]at hx <;> cases hx
   simp only[hq,Sem.run_pure]
  ·
   rename_i f xs ys ha;injection he with he
   subst he;rw[ha]at hx;refine⟨ρ' x,hx,fun w=>?_⟩
   cases hq:ρ' x <;> rw[hq]at hx <;> cases hx
   simp only[hq,Sem.run_pure]
  ·
   cases he
 ·
  rename_i op t x y yt ho;rw[ho]at hρ ⊢
  split at he
  ·
   rename_i v0 hv0;injection he with he
   subst he;refine⟨v0,?_,fun w=>?_⟩
   ·
    exact(QI4 (xo:=x) (yo:=y) (hρ x (by simp[Op.operands])) (hρ y (by simp[Op.operands])) hv0 default).2
   ·
    have:=(QI4 (xo:=x) (yo:=y) (hρ x (by simp[Op.operands])) (hρ y (by simp[Op.operands])) hv0 w).1;simp only[Sem.run_bind,this,Result.andThen_ok,Sem.run_pure]
  ·
   refine⟨v,?_,fun w=>?_⟩
   ·
    exact(QGO (xo:=x) (hρ x (by simp[Op.operands])) (hρ y (by simp[Op.operands])) he default).2
   ·
    have:=(QGO (xo:=x) (hρ x (by simp[Op.operands])) (hρ y (by simp[Op.operands])) he w).1;simp only[Sem.run_bind,this,Result.andThen_ok,Sem.run_pure]
 ·
  rename_i x xt t ho;rw[ho]at hρ ⊢;obtain⟨v',h1,h2⟩:=QI0 (xt:=xt) (hρ x (by simp[Op.operands])) he;exact⟨v',h1,fun w=>by simp only[Sem.run_bind,h2 w,Result.andThen_ok,Sem.run_pure]⟩
 ·
  rename_i t x ho;rw[ho]at hρ ⊢;have hx:=hρ x (by simp[Op.operands])
  split at he
  ·
   rename_i b hb;injection he with he
   subst he;rw[hb]at hx;have hxv:=hx.eq_of_flat1 rfl;exact⟨.bool (!b),.bool _,fun w=>by simp[hxv,Op.unary]⟩
  ·
   cases he
 ·
  rename_i t x ho;rw[ho]at hρ ⊢;have hx:=hρ x (by simp[Op.operands])
  split at he
  ·
   cases he
  ·
   rename_i d hd hu;injection he with he
   subst he;refine⟨.iface t (ρ' x),.iface t _ _ hx,fun w=>?_⟩;unfold Instr.makeInterface;simp only[Sem.run_bind,QAD hu,Result.andThen_ok];rfl
  ·
   cases he
 ·
  rename_i fn xs ys ho;rw[ho]at hρ ⊢;injection he with he
  subst he;have h1:=AR.map xs fun x hx=>hρ x (by simp only[Op.operands,Array.toList_append,List.mem_append];exact .inl hx)
  have h2:=AR.map ys fun x hx=>hρ x (by simp only[Op.operands,Array.toList_append,List.mem_append];exact .inr hx)
  exact⟨_,.func fn _ _ _ _ h1.1 h2.1 h1.2 h2.2,fun w=>rfl⟩
 ·
  rename_i t x f ho;rw[ho]at hρ ⊢;obtain⟨v',h1,h2⟩:=QGI (hρ x (by simp[Op.operands])) he;exact⟨v',h1,fun w=>by simp only[Sem.run_bind,h2 w,Result.andThen_ok,Sem.run_pure]⟩
 ·
  rename_i t x i ho;rw[ho]at hρ ⊢;obtain⟨v',h1,h2⟩:=QGP (hρ x (by simp[Op.operands])) (hρ i (by simp[Op.operands])) he;exact⟨v',h1,fun w=>by simp only[Sem.run_bind,h2 w,Result.andThen_ok,Sem.run_pure]⟩
 ·
  rename_i x i ho;rw[ho]at hρ ⊢;have hx:=hρ x (by simp[Op.operands])
  split at he
  ·
   rename_i vs hv;rw[hv]at hx
   cases hq:ρ' x <;> rw[hq]at hx <;> cases hx
   rename_i us hs hg;obtain⟨hi,hgd⟩:=getD_of_getElem? he;refine⟨us.getD i undef,by rw[←hgd];exact hg i hi,fun w=>?_⟩;unfold Instr.extract;simp only[hq,getElem?_of_getD (show i<us.size by rw[←hs];exact hi),pure_bind,Sem.run_pure]
  ·
   cases he
 ·
  rename_i k ho;rw[ho]at hρ ⊢;obtain⟨callee,args,argTypes⟩:=k;unfold QCb at he;dsimp only at he
  split at he
  ·
   split at he
   ·
    rename_i x t h1 h2;have e1:args=#[x]:=Array.ext' h1;have e2:argTypes=#[t]:=Array.ext' h2;subst e1 e2;have hx:=hρ x (by simp[Op.operands,Call.operands]);obtain⟨_,h2⟩:=QJY (ty:=o.type) hx he default;refine⟨v,h2,fun w=>?_⟩;have h1:=(QJY (ty:=o.type) hx he w).1;simp only[resolve,invoke,builtin,pure_bind,List.map_toArray,List.map_cons,List.map_nil,Sem.run_bind,h1,Result.andThen_ok,Sem.run_pure]
   ·
    cases he
  ·
   split at he
   ·
    rename_i x y h1;have e1:args=#[x,y]:=Array.ext' h1;subst e1;have hx:=hρ x (by simp[Op.operands,Call.operands]);have hy:=hρ y (by simp[Op.operands,Call.operands]);obtain⟨_,h2⟩:=QJc (ts:=argTypes) (ty:=o.type) hx hy he default;refine⟨v,h2,fun w=>?_⟩;have h1:=(QJc (ts:=argTypes) (ty:=o.type) hx hy he w).1;simp only[resolve,invoke,builtin,pure_bind,List.map_toArray,List.map_cons,List.map_nil,Sem.run_bind,h1,Result.andThen_ok,Sem.run_pure]
   ·
    cases he
  ·
   cases he
 ·
  cases he
variable {P : Program} {B G : Nat} {w0 : World} {L : Lie} {c w : World}
def QO0(r:Result Value):Option (Value × World):=match r with| .ok v c=>some (v,c)| .halt _ _=>none
def runU(r:Result Unit):Option (Value × World):=match r with| .ok _ c=>some (undef,c)| .halt _ _=>none
def QTh(P:Program)(B:Nat)(ρ:Operand→Value)(op:Op)(c:World):Option (Value × World):=
 match op with
 | .alloc t=>if zf P t=true then QO0 ((Instr.alloc t true (.tuple #[])).run P c) else none
 | .box t x=>QO0 ((Instr.box t (ρ x)).run P c)
 | .build t ps=>if zf P t=true then QO0 ((Instr.build t (ps.map fun(i,x)=>(i,ρ x))).run P c) else none
 | .buildSlice t n ps=>if QDS P t=true then QO0 ((Instr.buildSlice t n (ps.map fun(i,x)=>(i,ρ x))).run P c) else none
 | .load t x=>QO0 ((Instr.loadAt t (ρ x)).run P c)
 | .store t x v=>(match ρ x with
  | .pointer (some a)=>if B≤a.block then runU ((Instr.storeAt t (.pointer (some a)) (ρ v)).run P c) else none
  |_=>none)
 | .makeMap t none=>QO0 ((Instr.makeMap t none).run P c)
 | .makeSlice t l k=>if QDS P t=true∧QA1 (ρ l)=true∧QA1 (ρ k)=true then QO0 ((Instr.makeSlice t (ρ l) (ρ k)).run P c) else none
 | .slice t x (some lo) none none=>(QHj P t (ρ x) (ρ lo) c).map (·,c)
 | .field t x f=>QO0 ((Instr.field t (ρ x) f).run P c)
 | .lookup t x k ok=>(QFH P t (ρ x) (ρ k) ok c).map (·,c)
 | .mapUpdate t m k x=>(QDi P B t (ρ m) (ρ k) (ρ x) c).map (undef, ·)
 | .insert t m k x=>(QDi P B t (ρ m) (ρ k) (ρ x) c).map (undef, ·)
 | .call k=>(match k.callee with
  | .builtin .append=>(match k.args.toList,k.argTypes.toList with
   | [x,y], [t,t2]=>QF2 P B t t2 (ρ x) (ρ y) c
   |_,_=>none)
  |_=>none)
 |_=>none
def Done(P:Program)(B G:Nat)(w0:World)(L:Lie)(w:World)(ρ':Operand→Value)(o:Oper)(v:Value)(c1:World):Prop:=
 ∃M w1 nx v',(execOp ρ' o).run P w= .ok nx w1∧(nx= .value v'∨(nx= .skip∧v'=undef))∧L.le M∧Sim P B G w0 M c1 w1∧VR P M v v'
theorem Done.ofSims {ρ':Operand→Value}{o:Oper}{v:Value}{c1:World}{e e':Sem Value}(h:Sims P B G w0 (VR P) L c w e e')(hr:QO0 (e.run P c)=some (v,c1))
  (hx:execOp ρ' o=(do Pure.pure (Next.value (←e')))):Done P B G w0 L w ρ' o v c1:=by
 unfold QO0 at hr
 split at hr
 ·
  rename_i v0 c0 he;injection hr with hr
  injection hr with h1 h2
  subst h1 h2;obtain⟨M,w1,v',h1,h2,h3,h4⟩:=h _ _ he;exact⟨M,w1,.value v',v',by rw[hx];simp only[Sem.run_bind,h1,Result.andThen_ok,Sem.run_pure],.inl rfl,h2,h3,h4⟩
 ·
  cases hr
theorem QOB(h:Sim P B G w0 L c w){ρ ρ':Operand→Value}{o:Oper}{v:Value}{c1:World}(hρ:∀x∈o.op.operands.toList,VR P L (ρ x) (ρ' x))(he:QTh P B ρ o.op c=some (v,c1)):
  Done P B G w0 L w ρ' o v c1:=by
 unfold QTh at he
 split at he
 ·
  rename_i t ho
  split at he
  ·
   rename_i hz;exact .ofSims (Sims.alloc h t hz) he (by unfold execOp;rw[ho])
  ·
   cases he
 ·
  rename_i t x ho;rw[ho]at hρ;exact .ofSims (Sims.box h t (hρ x (by simp[Op.operands]))) he (by unfold execOp;rw[ho])
 ·
  rename_i t ps ho;rw[ho]at hρ
  split at he
  ·
   rename_i hz;refine .ofSims (Sims.build h t hz ps fun p hp=>hρ p.2 ?_) he (by unfold execOp;rw[ho]);simp only[Op.operands,List.mem_map];exact⟨p,hp,rfl⟩
  ·
   cases he
 ·
  rename_i t n ps ho;rw[ho]at hρ
  split at he
  ·
   rename_i hz;refine .ofSims (Sims.buildSlice h t n hz ps fun p hp=>hρ p.2 ?_) he (by unfold execOp;rw[ho]);simp only[Op.operands,List.mem_map];exact⟨p,hp,rfl⟩
  ·
   cases he
 ·
  rename_i t x ho;rw[ho]at hρ;exact .ofSims (Sims.loadAt h t (hρ x (by simp[Op.operands]))) he (by unfold execOp;rw[ho])
 ·
  rename_i t x y ho;rw[ho]at hρ;have hx:=hρ x (by simp[Op.operands]);have hy:=hρ y (by simp[Op.operands])
  split at he
  ·
   rename_i a ha
   split at he
   ·
    rename_i hB;rw[ha]at hx;unfold runU at he
    split at he
    ·
     rename_i u c0 hr;injection he with he
     injection he with h1 h2
     subst h1 h2;obtain⟨M,w1,v',h1,h2,h3,_⟩:=Sims.storeAt h t hx hy (fun b hb=>by injection hb with hb;injection hb with hb;rw[←hb];exact hB) _ _ hr;refine⟨M,w1,.skip,undef,?_,.inr ⟨rfl,rfl⟩,h2,h3,.undef⟩;unfold execOp;rw[ho];simp only[Sem.run_bind,h1,Result.andThen_ok,Sem.run_pure]
    ·
     cases he
   ·
    cases he
  ·
   cases he
 ·
  rename_i t ho;exact .ofSims (Sims.makeMap h t) he (by unfold execOp;rw[ho];rfl)
 ·
  rename_i t l k ho;rw[ho]at hρ
  split at he
  ·
   rename_i hc;obtain⟨hz,hl,hk⟩:=hc;have e1:=(hρ l (by simp[Op.operands])).eq_of_flat1 hl;have e2:=(hρ k (by simp[Op.operands])).eq_of_flat1 hk;exact .ofSims (Sims.makeSlice h t hz (ρ l) (ρ k)) he (by rw[←e1,←e2];unfold execOp;rw[ho])
  ·
   cases he
 ·
  rename_i t x lo ho;rw[ho]at hρ
  cases hs:QHj P t (ρ x) (ρ lo) c with
  |none=>rw[hs]at he;cases he
  |some u=>
   rw[hs]at he;injection he with he
   injection he with h1 h2
   subst h1 h2;obtain⟨v',h1,h2⟩:=QGk h (hρ x (by simp[Op.operands])) (hρ lo (by simp[Op.operands])) hs;refine⟨L,w,.value v',v',?_,.inl rfl,L.le_refl,h,h2⟩;unfold execOp;rw[ho];simp only[Option.map_some,Option.map_none,Sem.run_bind,h1,Result.andThen_ok,Sem.run_pure]
 ·
  rename_i t x f ho;rw[ho]at hρ;exact .ofSims (Sims.field h t (hρ x (by simp[Op.operands])) f) he (by unfold execOp;rw[ho])
 ·
  rename_i t x k ok ho;rw[ho]at hρ
  cases hs:QFH P t (ρ x) (ρ k) ok c with
  |none=>rw[hs]at he;cases he
  |some u=>
   rw[hs]at he;injection he with he
   injection he with h1 h2
   subst h1 h2;obtain⟨v',h1,h2⟩:=QFa h (hρ x (by simp[Op.operands])) (hρ k (by simp[Op.operands])) hs;refine⟨L,w,.value v',v',?_,.inl rfl,L.le_refl,h,h2⟩;unfold execOp;rw[ho];simp only[Sem.run_bind,h1,Result.andThen_ok,Sem.run_pure]
 ·
  rename_i t m k x ho;rw[ho]at hρ
  cases hs:QDi P B t (ρ m) (ρ k) (ρ x) c with
  |none=>rw[hs]at he;cases he
  |some u=>
   rw[hs]at he;injection he with he
   injection he with h1 h2
   subst h1 h2;obtain⟨M,w1,h1,h2,h3⟩:=QFk h (hρ m (by simp[Op.operands])) (hρ k (by simp[Op.operands])) (hρ x (by simp[Op.operands])) hs;refine⟨M,w1,.skip,undef,?_,.inr ⟨rfl,rfl⟩,h2,h3,.undef⟩;unfold execOp;rw[ho];simp only[Sem.run_bind,h1,Result.andThen_ok,Sem.run_pure]
 ·
  rename_i t m k x ho;rw[ho]at hρ
  cases hs:QDi P B t (ρ m) (ρ k) (ρ x) c with
  |none=>rw[hs]at he;cases he
  |some u=>
   rw[hs]at he;injection he with he
   injection he with h1 h2
   subst h1 h2;obtain⟨M,w1,h1,h2,h3⟩:=QFk h (hρ m (by simp[Op.operands])) (hρ k (by simp[Op.operands])) (hρ x (by simp[Op.operands])) hs;refine⟨M,w1,.skip,undef,?_,.inr ⟨rfl,rfl⟩,h2,h3,.undef⟩;unfold execOp;rw[ho];simp only[Sem.run_bind,h1,Result.andThen_ok,Sem.run_pure]
 ·
  rename_i k ho;rw[ho]at hρ;obtain⟨callee,args,argTypes⟩:=k;dsimp only at he
  split at he
  ·
   split at he
   ·
    rename_i x y t t2 h1 h2;have e1:args=#[x,y]:=Array.ext' h1;have e2:argTypes=#[t,t2]:=Array.ext' h2;subst e1 e2;obtain⟨M,w1,v',g1,g2,g3,g4⟩:=QIz (ty:=o.type) h (hρ x (by simp[Op.operands,Call.operands])) (hρ y (by simp[Op.operands,Call.operands])) he;refine⟨M,w1,.value v',v',?_,.inl rfl,g2,g3,g4⟩;unfold execOp;rw[ho];simp only[resolve,invoke,builtin,pure_bind,List.map_toArray,List.map_cons,List.map_nil,Sem.run_bind,g1,Result.andThen_ok,Sem.run_pure]
   ·
    cases he
  ·
   cases he
 ·
  cases he
variable {P : Program} {ops : Array Oper} {md : Region.Mode} {Q : Exit → Act → World → Prop}
def Gives(P:Program)(ops:Array Oper)(o:Oper)(v:Value)(a:Act):Prop:=
 (Region.wanted o (yielded ops a.tmps)=true∧∀w,(execOp a.eval o).run P w= .ok (.value v) w)∨(Region.wanted o (yielded ops a.tmps)=false∧v=undef)
theorem Gives.of_same {o:Oper}{v:Value}{a a':Act}(hy:Gives P ops o v a)(he:execOp a'.eval o=execOp a.eval o)
  (hw:Region.wanted o (yielded ops a'.tmps)=Region.wanted o (yielded ops a.tmps)):Gives P ops o v a':=by
 unfold Gives at*;rw[he,hw];exact hy
theorem Gives.wpOp {i:Nat}{o:Oper}{v:Value}{a:Act}{w:World}(hi:ops[i]?=some o)(hy:Gives P ops o v a){K:Act→World→Prop}(h:K (a.put o.dst v) w):wpOp P ops Q i K a w:=by
 unfold Go.wpOp;simp only[hi];rcases hy with ⟨hw,hv⟩|⟨hw,rfl⟩
 ·
  simp only[hw,if_true];left;unfold Oper.wp;rw[hv w];exact h
 ·
  simp only[hw,Bool.false_eq_true,if_false];exact h
def QE4(Q:Exit→Act→World→Prop):Prop:=∀ch a w dst v,Q (.panic ch) (Act.put a dst v) w→Q (.panic ch) a w
theorem wpOp_put {j:Nat}{oi oj:Oper}{v:Value}(hQ:QE4 Q)(hj:ops[j]?=some oj)(hap:oi.apart ops oj=true)
  (hsi:∀cs b,oi.op≠ .select cs b) (hsj:∀cs b,oj.op≠ .select cs b) {K:Act→World→Prop} {a:Act} {w:World}
  (hy:Gives P ops oi v a) (h:wpOp P ops Q j K (a.put oi.dst v) w):
  wpOp P ops Q j (fun a' w'=>Gives P ops oi v a'∧K (a'.put oi.dst v) w') a w:=by
 obtain⟨h1,h2,h3⟩:=Oper.apart_spec hap
 have keep:∀(a:Act),Gives P ops oi v a→∀u,Gives P ops oi v (a.put oj.dst u):=fun a hy u=>
  hy.of_same (execOp_put oi hsi a oj.dst u h3) (wanted_put oi a oj.dst u h3)
 unfold wpOp at*;simp only[hj]at*;rw[wanted_put oj a oi.dst v h1]at h
 split
 ·
  rename_i hw;simp only[hw,if_true]at h;have hex:=execOp_put oj hsj a oi.dst v h1;rcases h with h|⟨⟨hm,hk⟩,hl⟩
  ·
   left;unfold Oper.wp at*;rw[hex]at h;generalize (execOp a.eval oj).run P w=r at*
   cases r with
   |ok n w'=>
    cases n <;> simp only[Oper.upon]at h ⊢ <;> first|exact h.elim|skip
    case value u=>exact⟨keep a hy u,by rw[←Act.put_comm a v u h2];exact h⟩
    case skip=>exact⟨keep a hy _,by rw[←Act.put_comm a v undef h2];exact h⟩
    case enter f args=>
     refine h.mono fun e w'' he=>?_
     cases e with
     |returned u=>exact⟨keep a hy u,by rw[←Act.put_comm a v u h2];exact he⟩
     |panicked ch=>exact hQ _ _ _ _ _ he
     |outgrown=>exact he
    case defer d=>
     have e1:({a with defers:=d::a.defers}:Act).put oj.dst undef={(a.put oj.dst undef)with defers:=d::a.defers}:=by cases oj.dst <;> rfl
     have e2:(({(a.put oi.dst v)with defers:=d::(a.put oi.dst v).defers}:Act).put oj.dst undef)=(({a with defers:=d::a.defers}:Act).put oj.dst undef).put oi.dst v:=by
      have:=Act.put_comm {a with defers:=d::a.defers} v undef h2;rw[←this]
      cases oi.dst <;> rfl
     refine⟨?_,by rw[←e2];exact h⟩;have hk:=keep a hy undef;rw[e1];exact hk
    case row row args=>exact h.mono fun u w'' he=>⟨keep a hy u,by rw[←Act.put_comm a v u h2];exact he⟩
   |halt x w'=>
    cases x <;> simp only[Oper.upon]at h ⊢ <;> first|exact h.elim|exact hQ _ _ _ _ _ h
  ·
   right;refine⟨?_,hl⟩;unfold Oper.asks at*;rw[hex]at hm hk;exact⟨hm,hk⟩
 ·
  rename_i hw;simp only[hw]at h;exact⟨keep a hy _,by rw[←Act.put_comm a v undef h2];exact h⟩
theorem QGr {i:Nat}{oi:Oper}{v:Value}(hQ:QE4 Q)(hQn:True)(hi:ops[i]?=some oi)(hsel:∀(j:Nat) (o:Oper) cs b,ops[j]?=some o→o.op≠ .select cs b):
  ∀(fuel:Nat) (listed:Array Bool) (a:Act) (w:World),
   (∀j oj,ops[j]?=some oj→j≠i→listed.getD j true=false→(∀e∈oj.after,Region.binds md e=true→e.on≠i)→oi.apart ops oj=true)→
   i∈Region.ready md ops listed→Gives P ops oi v a→
   wpAny P md ops Q fuel (listed.setIfInBounds i true) (a.put oi.dst v) w→wpAny P md ops Q (fuel+1) listed a w:=by
 intro fuel
 induction fuel with
 |zero=>
  intro listed a w _ hr hy H;refine⟨fun h=>(by rw[h]at hr;cases hr),fun j hj=>?_⟩
  by_cases hji:j=i
  ·
   subst hji;exact hy.wpOp hi H
  ·
   have:=ready_mono hj hji;rw[H.1]at this
   cases this
 |succ fuel ih=>
  intro listed a w hfree hr hy H;refine⟨fun h=>(by rw[h]at hr;cases hr),fun j hj=>?_⟩
  by_cases hji:j=i
  ·
   subst hji;exact hy.wpOp hi H
  ·
   have h1:=H.2 j (ready_mono hj hji);obtain⟨hjun,oj,hoj,hall⟩:=mem_ready.1 hj
   have hnot:∀e∈oj.after,Region.binds md e=true→e.on≠i:=fun e he hb heq=>by
    have h1:=hall e he hb;have h0:=(mem_ready.1 hr).1;rw[heq]at h1;rcases Nat.lt_or_ge i listed.size with h'|h'
    ·
     simp[h']at h0 h1;rw[h0]at h1;cases h1
    ·
     simp[Array.getElem?_eq_none h']at h1
   have h2:=wpOp_put hQ hoj (hfree j oj hoj hji hjun hnot) (fun cs b=>hsel i oi cs b hi) (fun cs b=>hsel j oj cs b hoj) hy h1
   have hfree':∀k ok,ops[k]?=some ok→k≠i→(listed.setIfInBounds j true).getD k true=false→
     (∀e∈ok.after,Region.binds md e=true→e.on≠i)→oi.apart ops ok=true:=fun k ok hk hki hun hno=>by
    refine hfree k ok hk hki ?_ hno
    by_cases hjk:j=k
    ·
     subst hjk;exact hjun
    ·
     rw[getD_set_ne true hjk]at hun;exact hun
   refine wpOp_mono (fun a' w' h3=>ih (listed.setIfInBounds j true) a' w' hfree' (ready_mono hr (Ne.symm hji)) h3.1 ?_) h2;rw[Array.setIfInBounds_comm _ _ hji];exact h3.2
end Go.Proofs.YtjnclkakbopnjaaGreatDoor
