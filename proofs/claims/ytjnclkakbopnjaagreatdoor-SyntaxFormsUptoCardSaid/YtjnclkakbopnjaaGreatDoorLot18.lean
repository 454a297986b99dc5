/- XSimE, XSimF, XSimG, XSimH -/
import Derived.Test.YtjnclkakbopnjaaGreatDoorLot17
import Derived.Laws.IdiomCopy
set_option linter.unusedSimpArgs false
set_option linter.unusedVariables false
namespace Go.Proofs.YtjnclkakbopnjaaGreatDoor
open Go.Proofs.Tryz
open Go.RowKit
variable {P : Program} {B G : Nat} {w0 : World} {α β γ δ : Type} {L : Lie} {c w : World}
theorem Quiet.listMapM {f:α→Sem β}(h:∀a,Quiet P (f a)):∀l:List α,Quiet P (l.mapM f)
 | []=>by rw[List.mapM_nil];exact .pure _
 |a::l=>by
  rw[List.mapM_cons];exact .bind (h a) fun b=> .bind (Quiet.listMapM h l) fun bs=> .pure _
theorem Quiet.arrayMapM {f:α→Sem β}(h:∀a,Quiet P (f a))(l:Array α):Quiet P (l.mapM f):=by
 rw[Array.mapM_eq_mapM_toList];rw[←bind_pure_comp];exact .bind (Quiet.listMapM h _) fun bs=> .pure _
theorem QCj(parts:Array (Nat × Operand))(ρ:Operand→Value):(parts.map fun(i,x)=>(i,ρ x)).toList=parts.toList.map fun p=>(p.1,ρ p.2):=by simp
theorem Sims.build(h:Sim P B G w0 L c w)(t:TypeId)(hz:zf P t=true){ρ ρ':Operand→Value}(parts:Array (Nat × Operand))(hp:∀p∈parts.toList,VR P L (ρ p.2) (ρ' p.2)):
  Sims P B G w0 (VR P) L c w (Instr.build t (parts.map fun(i,x)=>(i,ρ x))) (Instr.build t (parts.map fun(i,x)=>(i,ρ' x))):=by
 unfold Instr.build;rw[QCj,QCj];refine Sims.bind (Sims.quiet h (.zeroValue t)) fun M c1 w1 z z' hle h1 ha=>?_
 obtain⟨rfl,hzz⟩:=ha;have hf:=QIv hz c1 (hzz c1);dsimp only;refine Sims.bind (Sims.quiet h1 (.underlying t)) fun N c2 w2 d d' hle2 h2 hd=>?_
 obtain⟨rfl,_⟩:=hd;have hpm:∀p∈parts.toList,VR P N (ρ p.2) (ρ' p.2):=fun p hpp=>((hp p hpp).mono hle).mono hle2
 split
 ·
  refine Sims.bind (Sims.quiet h2 (Quiet.arrayMapM (fun f=> .bind (.sizeOf _) fun _=> .pure _) _)) fun N3 c3 w3 pl pl' hle3 h3 hpl=>?_
  obtain⟨rfl,_⟩:=hpl
  split
  ·
   rename_i xs hxs;obtain⟨us,hus,hr⟩:=QFu (L:=N3) _ parts.toList _ _ xs (fun p hpp=>(hpm p hpp).mono hle3) (.flat hf) hxs;rw[hus];exact Sims.pure h3 (.agg xs us hr.1 hr.2)
  ·
   exact Sims.never fun x=>⟨_,_,rfl⟩
 ·
  refine Sims.bind (Sims.quiet h2 (.sizeOf _)) fun N3 c3 w3 pl pl' hle3 h3 hpl=>?_
  obtain⟨rfl,_⟩:=hpl
  split
  ·
   rename_i xs hxs;obtain⟨us,hus,hr⟩:=QFu (L:=N3) _ parts.toList _ _ xs (fun p hpp=>(hpm p hpp).mono hle3) (.flat hf) hxs;rw[hus];exact Sims.pure h3 (.agg xs us hr.1 hr.2)
  ·
   exact Sims.never fun x=>⟨_,_,rfl⟩
 ·
  exact Sims.never fun x=>⟨_,_,rfl⟩
theorem QHO {z:Array Value}(h:z.all QA1=true)(n:Nat):((Array.range n).map (z[· % z.size]!)).all QA1=true:=by
 rw[Array.all_eq_true];intro i hi;simp only[Array.size_map,Array.size_range]at hi;simp only[Array.getElem_map,Array.getElem_range]
 by_cases hz:z.size=0
 ·
  rw[getElem!_neg z _ (by omega)];rfl
 ·
  have hlt:i % z.size<z.size:=Nat.mod_lt _ (by omega);rw[getElem!_pos z _ hlt];rw[Array.all_eq_true]at h;exact h _ hlt
def QDS(P:Program)(t:TypeId):Bool:=match P.underlying t with
 |some (.slice e)=>zf P e
 |_=>false
theorem QC1 {t:TypeId}{d:TypeDesc}{c:World}(h:(underlying t).run P c= .ok d c):P.underlying t=some d:=by
 unfold Go.underlying at h;simp only[Sem.run_bind,Go.program,Sem.run,Result.andThen_ok]at h
 split at h
 ·
  rename_i d' hd;injection h with e1 e2
  rw[hd,e1]
 ·
  cases h
theorem QGF {t:TypeId}{e:TypeId}{c:World}(h:QDS P t=true)(hu:(underlying t).run P c= .ok (.slice e) c):zf P e=true:=by
 unfold QDS at h;rw[QC1 hu]at h;exact h
theorem Sims.buildSlice(h:Sim P B G w0 L c w)(t:TypeId)(len:Nat)(hz:QDS P t=true){ρ ρ':Operand→Value}(parts:Array (Nat × Operand))(hp:∀p∈parts.toList,VR P L (ρ p.2) (ρ' p.2)):
  Sims P B G w0 (VR P) L c w (Instr.buildSlice t len (parts.map fun(i,x)=>(i,ρ x))) (Instr.buildSlice t len (parts.map fun(i,x)=>(i,ρ' x))):=by
 unfold Instr.buildSlice;rw[QCj,QCj];refine Sims.bind (Sims.quiet h (.underlying t)) fun M c1 w1 d d' hle h1 ha=>?_
 obtain⟨rfl,hd⟩:=ha
 split
 ·
  rename_i elem;have hze:=QGF hz (hd c1);refine Sims.bind (Sims.quiet h1 (.sizeOf _)) fun N c2 w2 n n' hle2 h2 hn=>?_
  obtain⟨rfl,_⟩:=hn;dsimp only
  split
  ·
   exact Sims.never fun x=>⟨_,_,rfl⟩
  ·
   have K:∀(N3:Lie) (c3 w3:World) (z:Array Value),N.le N3→Sim P B G w0 N3 c3 w3→z.all QA1=true→Sims P B G w0 (VR P) N3 c3 w3
     (match Instr.fill (fun i=>some (i*n',n')) ((Array.range (len*n')).map (z[· % z.size]!)) (parts.toList.map fun p=>(p.1,ρ p.2))with
      |some cells=>do Pure.pure (Value.slice (some (←Go.newRow elem cells)) len len)
      |_=>stuck "buildSlice: a part of the wrong size")
     (match Instr.fill (fun i=>some (i*n',n')) ((Array.range (len*n')).map (z[· % z.size]!)) (parts.toList.map fun p=>(p.1,ρ' p.2))with
      |some cells=>do Pure.pure (Value.slice (some (←Go.newRow elem cells)) len len)
      |_=>stuck "buildSlice: a part of the wrong size"):=by
    intro N3 c3 w3 z hle3 h3 hf
    split
    ·
     rename_i xs hxs;obtain⟨us,hus,hr⟩:=QFu (L:=N3) _ parts.toList _ _ xs (fun p hpp=>(((hp p hpp).mono hle).mono hle2).mono hle3) (.flat (QHO hf _)) hxs;rw[hus];refine Sims.bind (Sims.newRow h3 elem hr) fun N4 c4 w4 a a' hle4 h4 ha=>?_
     obtain⟨b,rfl,rfl,hb,_⟩:=ha;exact Sims.pure h4 (.slice b 0 len len len hb (.inl rfl))
    ·
     exact Sims.never fun x=>⟨_,_,rfl⟩
   split
   ·
    exact K N c2 w2 #[] (Lie.le_refl _) h2 (by simp)
   ·
    refine Sims.bind (Sims.quiet h2 (.zeroValue _)) fun N3 c3 w3 z z' hle3 h3 ha=>?_
    obtain⟨rfl,hzz⟩:=ha;exact K N3 c3 w3 _ hle3 h3 (QIv hze c3 (hzz c3))
 ·
  exact Sims.never fun x=>⟨_,_,rfl⟩
theorem Quiet.askRoom(n:Nat):Quiet P (askRoom n):=by
 unfold Go.askRoom
 split
 ·
  exact .inl ⟨(),fun _=>rfl⟩
 ·
  exact .pure _
theorem Quiet.asInt(v:Value):Quiet P (asInt v):=by
 unfold Go.asInt Go.asIntOf
 split
 ·
  exact .bind (.pure _) fun _=> .pure _
 ·
  exact .bind (.halt _) fun _=> .pure _
 ·
  exact .bind (.halt _) fun _=> .pure _
theorem Sims.makeSlice(h:Sim P B G w0 L c w)(t:TypeId)(hz:QDS P t=true)(l k:Value):Sims P B G w0 (VR P) L c w (Instr.makeSlice t l k) (Instr.makeSlice t l k):=by
 unfold Instr.makeSlice;refine Sims.bind (Sims.quiet h (.underlying t)) fun M c1 w1 d d' hle h1 ha=>?_
 obtain⟨rfl,hd⟩:=ha
 split
 ·
  rename_i elem;have hze:=QGF hz (hd c1);refine Sims.bind (Sims.quiet h1 (.asInt _)) fun N c2 w2 n n' hle2 h2 hn=>?_
  obtain⟨rfl,_⟩:=hn;refine Sims.bind (Sims.quiet h2 (.asInt _)) fun N c2 w2 n n' hle2 h2 hn=>?_
  obtain⟨rfl,_⟩:=hn;refine Sims.bind (Sims.quiet h2 (.typeInfo _)) fun N c2 w2 n n' hle2 h2 hn=>?_
  obtain⟨rfl,_⟩:=hn;dsimp only
  split
  ·
   split
   ·
    exact Sims.never fun x=>⟨_,_,rfl⟩
   ·
    split
    ·
     exact Sims.never fun x=>⟨_,_,rfl⟩
    ·
     exact Sims.never fun x=>⟨_,_,rfl⟩
  ·
   refine Sims.bind (Sims.quiet h2 (.askRoom _)) fun N c2 w2 n n' hle2 h2 hn=>?_
   refine Sims.bind (Sims.quiet h2 (.sizeOf _)) fun N c2 w2 n n' hle2 h2 hn=>?_
   obtain⟨rfl,_⟩:=hn
   have K:∀(N3:Lie) (c3 w3:World) (z:Array Value) (k j i:Nat),Sim P B G w0 N3 c3 w3→z.all QA1=true→Sims P B G w0 (VR P) N3 c3 w3
     (do Pure.pure (Value.slice (some (←Go.newRow elem ((Array.range k).map (z[· % z.size]!)))) j i)) (do Pure.pure (Value.slice (some (←Go.newRow elem ((Array.range k).map (z[· % z.size]!)))) j i)):=by
    intro N3 c3 w3 z k j i h3 hf;refine Sims.bind (Sims.newRow h3 elem (.flat (QHO hf _))) fun N4 c4 w4 a a' hle4 h4 ha=>?_
    obtain⟨b,rfl,rfl,hb,_⟩:=ha;exact Sims.pure h4 (.slice b 0 _ _ _ hb (.inl rfl))
   split
   ·
    exact K _ _ _ #[] _ _ _ h2 (by simp)
   ·
    refine Sims.bind (Sims.quiet h2 (.zeroValue _)) fun N3 c3 w3 z z' hle3 h3 ha=>?_
    obtain⟨rfl,hzz⟩:=ha;exact K _ _ _ _ _ _ _ h3 (QIv hze c3 (hzz c3))
 ·
  exact Sims.never fun x=>⟨_,_,rfl⟩
theorem Sims.makeInterface(h:Sim P B G w0 L c w)(t:TypeId){v v':Value}(hv:VR P L v v'):Sims P B G w0 (VR P) L c w (Instr.makeInterface t v) (Instr.makeInterface t v'):=by
 unfold Instr.makeInterface;refine Sims.bind (Sims.quiet h (.underlying t)) fun N c2 w2 d d' hle2 h2 hd=>?_
 obtain⟨rfl,_⟩:=hd
 split
 ·
  exact Sims.never fun x=>⟨_,_,rfl⟩
 ·
  exact Sims.pure h2 (.iface t _ _ (hv.mono hle2))
theorem AR.map {ρ ρ':Operand→Value}(xs:Array Operand)(h:∀x∈xs.toList,VR P L (ρ x) (ρ' x)):AR P L (xs.map ρ) (xs.map ρ'):=by
 refine⟨by simp,fun i hi=>?_⟩;simp only[Array.size_map]at hi;have e1:(xs.map ρ).getD i undef=ρ xs[i]:=by simp[Array.getD,hi]
 have e2:(xs.map ρ').getD i undef=ρ' xs[i]:=by simp[Array.getD,hi]
 rw[e1,e2];exact h _ (Array.mem_toList_iff.2 (Array.getElem_mem hi))
theorem Sims.makeFunc(h:Sim P B G w0 L c w)(fn:Fn){ρ ρ':Operand→Value}(xs ys:Array Operand)(hx:∀x∈xs.toList,VR P L (ρ x) (ρ' x))(hy:∀x∈ys.toList,VR P L (ρ x) (ρ' x)):
  Sims P B G w0 (VR P) L c w (Instr.makeFunc fn (xs.map ρ) (ys.map ρ)) (Instr.makeFunc fn (xs.map ρ') (ys.map ρ')):=by
 have h1:=AR.map xs hx;have h2:=AR.map ys hy;exact Sims.pure h (.func fn _ _ _ _ h1.1 h2.1 h1.2 h2.2)
theorem Sims.makeMap(h:Sim P B G w0 L c w)(t:TypeId):Sims P B G w0 (VR P) L c w (Instr.makeMap t none) (Instr.makeMap t none):=by
 intro a c1 hr;have hc:(Instr.makeMap t none).run P c=Result.ok (.map (some c.heap.size)) {c with heap:=c.heap.push (.map #[] 0)}:=rfl;rw[hc]at hr;injection hr with h1 h2
 subst h1 h2;refine⟨L.grow w (.map #[] 0),{w with heap:=w.heap.push (.map #[] 0)},.map (some w.heap.size),rfl,Lie.le_grow h _,h.new (.inl ⟨rfl,rfl,fun i x y hx=>by simp at hx⟩) rfl,?_⟩;have e:VR P (L.grow w (.map #[] 0)) (.map (some L.n)) (.map (some ((L.grow w (.map #[] 0)).at_ L.n))):= .map _ (Nat.lt_succ_self _);have e2:(L.grow w (.map #[] 0)).at_ L.n=w.heap.size:=by show(if L.n=L.n then _ else _)=_;rw[if_pos rfl]
 rw[e2,h.n]at e;exact e
theorem AR.extract {xs us:Array Value}(h:AR P L xs us)(i j:Nat):AR P L (xs.extract i j) (us.extract i j):=by
 refine⟨by simp[h.1],fun k hk=>?_⟩;simp only[Array.size_extract]at hk;have hk2:k<min j us.size - i:=by rw[←h.1];exact hk
 have e1:(xs.extract i j).getD k undef=xs.getD (i+k) undef:=by simp[Array.getD,hk,show i+k<xs.size by omega]
 have e2:(us.extract i j).getD k undef=us.getD (i+k) undef:=by simp[Array.getD,hk2,show i+k<us.size by omega]
 rw[e1,e2];exact h.2 _ (by omega)
theorem Sims.part(h:Sim P B G w0 L c w)(t:TypeId){xs us:Array Value}(hx:AR P L xs us)(off:Nat):Sims P B G w0 (VR P) L c w (part t xs off) (part t us off):=by
 unfold Go.part;refine Sims.bind (Sims.quiet h (.isAgg t)) fun M c1 w1 d d' hle h1 hd=>?_
 obtain⟨rfl,_⟩:=hd;have hx1:=hx.mono hle
 split
 ·
  refine Sims.bind (Sims.quiet h1 (.sizeOf t)) fun N c2 w2 d d' hle2 h2 hd=>?_
  obtain⟨rfl,_⟩:=hd;have:=(hx1.mono hle2).extract off (off+d');exact Sims.pure h2 (.agg _ _ this.1 this.2)
 ·
  split
  ·
   rename_i v hv;obtain⟨hi,he⟩:=getD_of_getElem? hv;have hu:us[off]?=some (us.getD off undef):=getElem?_of_getD (by rw[←hx.1];exact hi);rw[hu];refine Sims.pure h1 ?_;rw[←he];exact hx1.2 off hi
  ·
   exact Sims.never fun x=>⟨_,_,rfl⟩
theorem Sims.field(h:Sim P B G w0 L c w)(t:TypeId){v v':Value}(hv:VR P L v v')(f:Nat):Sims P B G w0 (VR P) L c w (Instr.field t v f) (Instr.field t v' f):=by
 unfold Instr.field;refine Sims.bind (Sims.quiet h (.underlying t)) fun M c1 w1 d d' hle h1 hd=>?_
 obtain⟨rfl,_⟩:=hd
 split
 ·
  split
  ·
   cases hv with
   |agg xs us hs hg=>exact Sims.bind (Sims.pure (R:=AR P) h1 ((show AR P L xs us from⟨hs,hg⟩).mono hle)) fun N c2 w2 a a' hle2 h2 ha=>Sims.part h2 _ ha _
   |_=>exact Sims.never fun x=>⟨_,_,rfl⟩
  ·
   exact Sims.never fun x=>⟨_,_,rfl⟩
 ·
  exact Sims.never fun x=>⟨_,_,rfl⟩
theorem Sims.extract(h:Sim P B G w0 L c w){v v':Value}(hv:VR P L v v')(i:Nat):Sims P B G w0 (VR P) L c w (Instr.extract v i) (Instr.extract v' i):=by
 unfold Instr.extract
 cases hv with
 |tuple xs us hs hg=>
  simp only
  split
  ·
   rename_i x hx;obtain⟨hi,he⟩:=getD_of_getElem? hx;have hu:us[i]?=some (us.getD i undef):=getElem?_of_getD (by rw[←hs];exact hi);rw[hu];refine Sims.pure h ?_;rw[←he];exact hg i hi
  ·
   exact Sims.never fun x=>⟨_,_,rfl⟩
 |_=>exact Sims.never fun x=>⟨_,_,rfl⟩
theorem Sims.fieldAt(h:Sim P B G w0 L c w)(t:TypeId){v v':Value}(hv:VR P L v v')(f:Nat)(hz:∀fs x,P.underlying t=some (.struct fs)→fs[f]?=some x→P.cellsOf x.type≠0):
  Sims P B G w0 (VR P) L c w (Instr.fieldAt t v f) (Instr.fieldAt t v' f):=by
 unfold Instr.fieldAt;refine Sims.bind (Sims.quiet h (.underlying t)) fun M c1 w1 d d' hle h1 ha=>?_
 obtain⟨rfl,hd⟩:=ha
 split
 ·
  rename_i fs
  split
  ·
   rename_i x hx;have hne:=hz fs x (QC1 (hd c1)) hx;refine Sims.bind (Sims.sureAddr h1 (hv.mono hle)) fun N c2 w2 a a' hle2 h2 ha=>?_
   obtain⟨ha,_⟩:=ha;unfold Go.fieldPlace;refine Sims.bind (R:=fun M a a'=>RA M a a') (Sims.bind (Sims.quiet h2 (.sizeOf _)) fun N3 c3 w3 n n' hle3 h3 hn=>?_) fun N4 c4 w4 a a' hle4 h4 ha=>Sims.pure h4 ha.vr
   obtain⟨rfl,hn⟩:=hn
   have hne2:¬n'=0:=by
    intro h0
    apply hne
    have:=hn c3;unfold Go.sizeOf Go.typeInfo at this;simp only[Sem.run_bind,Go.program,Sem.run,Result.andThen_ok]at this;unfold Program.cellsOf
    cases hi:P.info? x.type with
    |none=>rfl
    |some i=>
     rw[hi]at this;simp only[Sem.run_pure,Result.andThen_ok]at this;injection this with e1 e2
     simp[e1,h0]
   rw[if_neg hne2,if_neg hne2];exact Sims.pure h3 ((ha.mono hle3).add _)
  ·
   exact Sims.never fun x=>⟨_,_,rfl⟩
 ·
  exact Sims.never fun x=>⟨_,_,rfl⟩
theorem QDY {e':Sem β}{R:Lie→α→β→Prop}(k:IntKind)(x y:Int)(code:BoundsCode):Sims P B G w0 R L c w (boundsPanic k x y code:Sem α) e':=by
 refine Sims.never fun z=>?_
 unfold boundsPanic
 split
 ·
  exact⟨_,_,rfl⟩
 ·
  exact⟨_,_,rfl⟩
theorem Sims.iteL {R:Lie→α→β→Prop}{p:Prop} [Decidable p] {e1 e2:Sem α}{e':Sem β}(h1:Sims P B G w0 R L c w e1 e')(h2:Sims P B G w0 R L c w e2 e'):Sims P B G w0 R L c w (if p then e1 else e2) e':=by
 split <;> assumption
theorem Sims.indexAt(h:Sim P B G w0 L c w)(t:TypeId){v v' x x':Value}(hv:VR P L v v')(hx:VR P L x x'):Sims P B G w0 (VR P) L c w (Instr.indexAt t v x) (Instr.indexAt t v' x'):=by
 unfold Instr.indexAt
 cases hx with
 |int k i=>
  refine Sims.bind (Sims.pure (R:=fun _ a a'=>a=(k,i)∧a'=(k,i)) h ⟨rfl,rfl⟩) fun M c1 w1 a a' hle h1 ha=>?_
  obtain⟨rfl,rfl⟩:=ha;dsimp only;refine Sims.bind (Sims.quiet h1 (.underlying t)) fun N c2 w2 d d' hle2 h2 ha=>?_
  obtain⟨rfl,hd⟩:=ha;have hv2:=(hv.mono hle).mono hle2
  cases d' with
  |slice elem=>
   cases hv2 with
   |slice b o l k1 k2 hb hc=>
    dsimp only;refine Sims.bind (Sims.pure (R:=fun _ a a'=>a=(some ⟨b,o,none⟩,l,elem)∧a'=(some ⟨N.at_ b,o,none⟩,l,elem)) h2 ⟨rfl,rfl⟩) fun N3 c3 w3 a a' hle3 h3 ha=>?_
    obtain⟨rfl,rfl⟩:=ha;dsimp only;refine Sims.bind (Sims.quiet h3 (.underlying t)) fun N4 c4 w4 d d' hle4 h4 ha=>?_
    obtain⟨rfl,_⟩:=ha
    split
    ·
     refine Sims.bind (Sims.quiet h4 (.sizeOf _)) fun N5 c5 w5 n n' hle5 h5 hn=>?_
     obtain⟨rfl,_⟩:=hn;refine Sims.pure h5 (RA.vr (RA.add ⟨b,o,rfl,?_,?_⟩ _))
     ·
      rw[(Lie.le_trans hle3 (Lie.le_trans hle4 hle5)).2.1 b hb]
     ·
      exact Nat.lt_of_lt_of_le hb (Lie.le_trans hle3 (Lie.le_trans hle4 hle5)).1
    ·
     exact Sims.iteL (Sims.never fun x=>⟨_,_,rfl⟩) (QDY _ _ _ _)
   |nilS l k1=>
    dsimp only;refine Sims.bind (Sims.pure (R:=fun _ a a'=>a=(none,l,elem)∧a'=(none,l,elem)) h2 ⟨rfl,rfl⟩) fun N3 c3 w3 a a' hle3 h3 ha=>?_
    obtain⟨rfl,rfl⟩:=ha;dsimp only;refine Sims.bind (Sims.quiet h3 (.underlying t)) fun N4 c4 w4 d d' hle4 h4 ha=>?_
    exact QDY _ _ _ _
   |_=>exact Sims.never fun x=>⟨_,_,rfl⟩
  |array len elem=>
   dsimp only;refine Sims.bind (Sims.sureAddr h2 hv2) fun N3 c3 w3 a a' hle3 h3 ha=>?_
   obtain⟨ha,_⟩:=ha;refine Sims.bind (Sims.pure (R:=fun M x y=>x=(some a,len,elem)∧y=(some a',len,elem)) h3 ⟨rfl,rfl⟩) fun N4 c4 w4 x y hle4 h4 hxy=>?_
   obtain⟨rfl,rfl⟩:=hxy;dsimp only;refine Sims.bind (Sims.quiet h4 (.underlying t)) fun N5 c5 w5 d d' hle5 h5 hd=>?_
   obtain⟨rfl,_⟩:=hd
   split
   ·
    refine Sims.bind (Sims.quiet h5 (.sizeOf _)) fun N6 c6 w6 n n' hle6 h6 hn=>?_
    obtain⟨rfl,_⟩:=hn;exact Sims.pure h6 (RA.vr (((ha.mono hle4).mono hle5).mono hle6 |>.add _))
   ·
    exact Sims.iteL (Sims.never fun x=>⟨_,_,rfl⟩) (QDY _ _ _ _)
  |_=>exact Sims.never fun x=>⟨_,_,rfl⟩
 |_=>exact Sims.never fun x=>⟨_,_,rfl⟩
variable {P : Program} {B G : Nat} {w0 : World} {α β γ δ : Type} {L : Lie} {c w : World}
theorem QAD {t:TypeId}{d:TypeDesc}(h:P.underlying t=some d)(w:World):(underlying t).run P w= .ok d w:=run_underlying h w
theorem QDE {t:TypeId}{n:Nat}(h:(P.info? t).map (·.size)=some n)(w:World):(Go.sizeOf t).run P w= .ok n w:=by
 unfold Go.sizeOf Go.typeInfo;simp only[Sem.run_bind,Go.program,Sem.run,Result.andThen_ok]
 cases hi:P.info? t with
 |none=>rw[hi]at h;cases h
 |some i=>
  rw[hi]at h;injection h with h
  simp[hi,h]
theorem QFA {t:TypeId}{n:Nat}(h:(P.info? t).map (·.size)=some n):P.cellsOf t=n:=by
 unfold Program.cellsOf;rw[h];rfl
def QP5(P:Program)(elem:TypeId)(c:World)(b:Nat):Bool:=match c.heap[b]? with
 |some (.cells _ e _)=>P.cellsOf e==P.cellsOf elem
 |_=>false
def QHj(P:Program)(t:TypeId)(x:Value)(low:Value)(c:World):Option Value:=
 match P.underlying t,x,low with
 |some (.slice elem),.slice (some a) len cap,.int _ i=>
  (match (P.info? elem).map (·.size)with
  |some n=>if 0≤i∧i≤len∧i.toNat<cap∧a.spot=none∧QP5 P elem c a.block=true then some (.slice (some ⟨a.block,a.off+i.toNat*n,none⟩) (len - i.toNat) (cap - i.toNat)) else none
  |none=>none)
 |_,_,_=>none
theorem QGk(h:Sim P B G w0 L c w){t:TypeId}{x x' low low' v:Value}(hx:VR P L x x')(hl:VR P L low low')(he:QHj P t x low c=some v):
  ∃v',(Instr.sliceAt t x' (some low') none none).run P w= .ok v' w∧VR P L v v':=by
 unfold QHj at he
 split at he
 ·
  rename_i elem a len cap k i hu
  split at he
  ·
   rename_i n hn
   split at he
   ·
    rename_i hc;obtain⟨h0,hlen,hcap,hsp,hrow⟩:=hc;injection he with he
    subst he
    cases hl with
    |int k i=>
     cases hx with
     |slice b o l cp cp' hb hcc=>
      have hcp:cap≤cp':=by rcases hcc with rfl|⟨h1,_⟩ <;> omega
      refine⟨.slice (some ⟨L.at_ b,o+i.toNat*n,none⟩) (len - i.toNat) (cp' - i.toNat),?_,?_⟩
      ·
       unfold Instr.sliceAt;simp only[Sem.run_bind,QAD hu,Result.andThen_ok];unfold Instr.slice;simp only[Sem.run_bind,QAD hu,Result.andThen_ok];unfold Instr.sliceBounds Instr.sliceBound;simp only[asIntOf,bind_pure_comp,pure_bind,map_pure];rw[if_pos ⟨h0,hlen⟩];simp only[Sem.run_bind,Sem.run_pure,Result.andThen_ok,pure_bind,QDE hn,Sem.run_map,Option.map_some];rw[if_neg (by omega)];simp only[Option.map_some,QAz]
      ·
       refine .slice b _ _ _ _ hb ?_;rcases hcc with rfl|⟨h1,e,m,hs,hm⟩
       ·
        exact .inl rfl
       ·
        refine .inr ⟨by omega,e,m,hs,?_⟩;unfold QP5 at hrow;dsimp only at hrow
        split at hrow
        ·
         rename_i xs e' fz hh;obtain⟨_,us,hw,_,_,_⟩:=h.cells hh;have:L.sh (L.at_ b)=some (e',us.size):=by rw[h.sh];unfold World.shape?;simp only[hw]
         rw[hs]at this;injection this with this
         injection this with e1 e2
         rw[beq_iff_eq,←e1,QFA hn]at hrow;rw[hrow]at hm ⊢;have:i.toNat*n+(cp' - i.toNat)*n=cp'*n:=by rw[←Nat.add_mul];congr 1;omega
         show o+i.toNat*n+(cp' - i.toNat)*n≤m;omega
        ·
         cases hrow
   ·
    cases he
  ·
   cases he
 ·
  cases he
def QT7(P:Program)(t:TypeId)(x:Value):Option Value:=
 match P.underlying t,x with
 |some .string,.string s=>some (goInt s.data.toList.length)
 |some (.slice _),.slice _ n _=>some (goInt n)
 |_,_=>none
theorem QJY {t ty:TypeId}{x x' v:Value}(hx:VR P L x x')(he:QT7 P t x=some v)(w:World):(Builtin.len_ #[t] ty #[x']).run P w= .ok v w∧VR P L v v:=by
 unfold QT7 at he
 split at he
 ·
  rename_i s hu;injection he with he
  subst he
  cases hx;refine⟨?_,.int _ _⟩;unfold Builtin.len_;simp only[Sem.run_bind,List.getElem?_toArray,List.getElem?_cons_zero,QAD hu,Result.andThen_ok,Sem.run_pure];rw[show s.data.toList.length=s.size from by simp]
 ·
  rename_i e a n k hu;injection he with he
  subst he;refine⟨?_,.int _ _⟩;unfold Builtin.len_
  cases hx <;> simp only[Sem.run_bind,List.getElem?_toArray,List.getElem?_cons_zero,QAD hu,Result.andThen_ok,Sem.run_pure]
 ·
  cases he
def QT8:Value→Value→Option Value
 | .int k x,.int _ y=>some (.int k (if y>x then y else x))
 |_,_=>none
theorem QJc {ts:Array TypeId}{ty:TypeId}{x x' y y' v:Value}(hx:VR P L x x')(hy:VR P L y y')(he:QT8 x y=some v)(w:World):(Builtin.max_ ts ty #[x',y']).run P w= .ok v w∧VR P L v v:=by
 unfold QT8 at he
 split at he
 ·
  injection he with he
  subst he
  cases hx;cases hy;refine⟨?_,.int _ _⟩;unfold Builtin.max_;simp[Builtin.max2]
 ·
  cases he
def QTm(op:BinOp)(a b:List UInt8):Option Value:=
 match op with
 | .add=>if a.length+b.length≤1000000 then some (.string ⟨⟨a++b⟩⟩) else none
 | .eql=>some (.bool (a==b))
 | .neq=>some (.bool (!(a==b)))
 |_=>none
def QSn(op:BinOp)(k:IntKind)(a b:Int):Option Value:=
 match op with
 | .add=>some (.int k (k.wrap (a+b)))
 | .sub=>some (.int k (k.wrap (a - b)))
 | .eql=>some (.bool (a==b))
 | .neq=>some (.bool (a !=b))
 | .lss=>some (.bool (a<b))
 | .leq=>some (.bool (a≤b))
 | .gtr=>some (.bool (a>b))
 | .geq=>some (.bool (a≥b))
 |_=>none
def QPN(P:Program)(t:TypeId)(x y:Value):Option Bool:=
 match P.underlying t,x,y with
 |some (.pointer _),.pointer a,.pointer none=>some a.isNone
 |some (.slice _),.slice a _ _,.slice none _ _=>some a.isNone
 |some (.func _ _ _),.func _ _ _,.nilFunc=>some false
 |some (.func _ _ _),.nilFunc,.nilFunc=>some true
 |_,_,_=>none
def QQS(P:Program)(op:BinOp)(t:TypeId)(x y:Value):Option Value:=
 match x,y with
 | .int k a,.int k' b=>if k=k' then QSn op k a b else none
 | .string a,.string b=>QTm op a.data.toList b.data.toList
 |x,y=>match op with
  | .eql=>(QPN P t x y).map .bool
  | .neq=>(QPN P t x y).map fun b=> .bool (!b)
  |_=>none
theorem QJC(a b:ByteArray):(⟨⟨a.data.toList++b.data.toList⟩⟩:ByteArray)=a++b:=by
 apply ByteArray.ext
 simp
theorem QOI {t:TypeId}{x y x' y':Value}{r:Bool}(hx:VR P L x x')(hy:VR P L y y')(he:QPN P t x y=some r)(w:World):(Op.equal t x' y').run P w= .ok r w:=by
 suffices key:∀d,(Op.equalIn (d+1) t x' y').run P w= .ok r w from key 9999
 intro d;unfold QPN at he
 split at he
 ·
  rename_i e a hu;injection he with he
  subst he
  cases hy
  cases hx <;> simp only[Op.equalIn,Sem.run_bind,QAD hu,Result.andThen_ok,Sem.run_pure] <;> rfl
 ·
  rename_i e a l k l2 k2 hu;injection he with he
  subst he
  cases hy
  cases hx <;> simp only[Op.equalIn,Sem.run_bind,QAD hu,Result.andThen_ok,Sem.run_pure] <;> rfl
 ·
  rename_i hu;injection he with he
  subst he
  cases hy
  cases hx;simp only[Op.equalIn,Sem.run_bind,QAD hu,Result.andThen_ok,Sem.run_pure]
 ·
  rename_i hu;injection he with he
  subst he
  cases hy
  cases hx;simp only[Op.equalIn,Sem.run_bind,QAD hu,Result.andThen_ok,Sem.run_pure]
 ·
  cases he
theorem QI4 {op:BinOp}{t:TypeId}{x y x' y' v:Value}{xo yo:Operand}(hx:VR P L x x')(hy:VR P L y y')(he:QQS P op t x y=some v)(w:World):
  (do eqGuard op t xo yo x' y';binOp op t x' y':Sem Value).run P w= .ok v w∧VR P L v v:=by
 unfold QQS at he
 split at he
 ·
  rename_i k a k' b
  cases hx;cases hy
  split at he
  ·
   rename_i hk;subst hk;unfold QSn at he
   split at he <;> first|cases he|skip
   all_goals (refine⟨?_,by first|exact .int _ _|exact .bool _⟩;simp[eqGuard,binOp,Op.intArith,Op.intCmp])
  ·
   cases he
 ·
  rename_i a b
  cases hx;cases hy;unfold QTm at he
  split at he <;> first|cases he|skip
  ·
   split at he
   ·
    rename_i hlt;injection he with he
    subst he;refine⟨?_,.string _⟩;rw[QJC];have h1:a.data.toList.length=a.size:=by simp
    have h2:b.data.toList.length=b.size:=by simp
    have:¬((a.size+b.size:Nat):Int)>IntKind.i64.max:=by
     have:IntKind.i64.max=9223372036854775807:=by decide
     rw[this];omega
    simp only[eqGuard,binOp,Op.stringOp,Sem.run_bind];simp only[if_neg this];simp
   ·
    cases he
  all_goals (refine⟨?_,.bool _⟩;simp[eqGuard,binOp,Op.stringOp,Lib.toList_data])
 ·
  have hg:∀b,QPN P t x y=some b→(eqGuard op t xo yo x' y').run P w= .ok () w:=by
   intro b hb;unfold QPN at hb
   split at hb <;> first|cases hb|skip
   all_goals (cases hx <;> cases hy <;> simp[eqGuard])
  have hb:∀b,QPN P t x y=some b→(op= .eql→(binOp op t x' y').run P w= .ok (.bool b) w)∧(op= .neq→(binOp op t x' y').run P w= .ok (.bool (!b)) w):=by
   intro b hb;have hq:=QOI hx hy hb w;unfold QPN at hb
   split at hb <;> first|cases hb|skip
   all_goals (cases hx <;> cases hy <;> refine⟨?_,?_⟩ <;> rintro rfl <;> simp[binOp,hq])
  split at he
  ·
   cases hn:QPN P t x y with
   |none=>rw[hn]at he;cases he
   |some b=>
    rw[hn]at he;injection he with he
    subst he;refine⟨?_,.bool _⟩;rw[Sem.run_bind,hg b hn];exact(hb b hn).1 rfl
  ·
   cases hn:QPN P t x y with
   |none=>rw[hn]at he;cases he
   |some b=>
    rw[hn]at he;injection he with he
    subst he;refine⟨?_,.bool _⟩;rw[Sem.run_bind,hg b hn];exact(hb b hn).2 rfl
  ·
   cases he
variable {P : Program} {B G : Nat} {w0 : World} {α β γ δ : Type} {L : Lie} {c w : World}
def QG4(s:List UInt8):List MapEntry→Option (Option Value)
 | []=>some none
 |e::es=>match e.key with
  | .string a=>if s==a.data.toList then some (some e.val) else QG4 s es
  |_=>none
theorem QF7(a b:ByteArray):(a==b)=(a.data.toList==b.data.toList):=by
 obtain⟨a⟩:=a;obtain⟨b⟩:=b;show(a==b)=(a.toList==b.toList);rw[Bool.eq_iff_iff,beq_iff_eq,beq_iff_eq];exact⟨fun h=>by rw[h],fun h=>Array.ext' h⟩
def ER(P:Program)(L:Lie):List MapEntry→List MapEntry→Prop
 | [], []=>True
 |x::xs,y::ys=>MR P L x y∧ER P L xs ys
 |_,_=>False
theorem QFD {s:ByteArray}:∀(es fs:List MapEntry) (i:Nat),ER P L es fs→QG4 s.data.toList es=some none→Instr.findNow .string (.string s) fs i=some none
 | [], [],_,_,_=>rfl
 | [],_::_,_,h,_=>h.elim
 |_::_, [],_,h,_=>h.elim
 |e::es,f::fs,i,h,hf=>by
  obtain⟨⟨hk,_,_,_⟩,ht⟩:=h;unfold QG4 at hf;unfold Instr.findNow;rw[←hk]
  split at hf
  ·
   rename_i a ha;rw[ha]
   split at hf
   ·
    cases hf
   ·
    rename_i hne;simp only[Instr.sameNow,QF7,Bool.eq_false_iff.2 hne];exact QFD es fs (i+1) ht hf
  ·
   cases hf
theorem QHN {s:ByteArray}{v:Value}:∀(es fs:List MapEntry) (i:Nat),ER P L es fs→QG4 s.data.toList es=some (some v)→
  ∃j v',Instr.findNow .string (.string s) fs i=some (some (j,v'))∧VR P L v v'
 | [], [],_,_,h=>by simp[QG4]at h
 | [],_::_,_,h,_=>h.elim
 |_::_, [],_,h,_=>h.elim
 |e::es,f::fs,i,h,hf=>by
  obtain⟨⟨hk,_,_,hv⟩,ht⟩:=h;unfold QG4 at hf;unfold Instr.findNow;rw[←hk]
  split at hf
  ·
   rename_i a ha;rw[ha]
   split at hf
   ·
    rename_i he;injection hf with hf
    injection hf with hf
    subst hf;refine⟨i,f.val,?_,hv⟩;simp only[Instr.sameNow,QF7,he]
   ·
    rename_i hne;simp only[Instr.sameNow,QF7,Bool.eq_false_iff.2 hne];exact QHN es fs (i+1) ht hf
  ·
   cases hf
theorem ER.of {es fs:Array MapEntry}(hs:es.size=fs.size)(h:∀(i:Nat) (x y:MapEntry),es[i]?=some x→fs[i]?=some y→MR P L x y):ER P L es.toList fs.toList:=by
 have key:∀(l m:List MapEntry),l.length=m.length→(∀(i:Nat) (x y:MapEntry),l[i]?=some x→m[i]?=some y→MR P L x y)→ER P L l m:=by
  intro l
  induction l with
  |nil=>intro m hl _;cases m with
   |nil=>trivial
   |cons=>simp at hl
  |cons a l ih=>
   intro m hl hh
   cases m with
   |nil=>simp at hl
   |cons b m=>exact⟨hh 0 a b rfl rfl,ih m (by simpa using hl) fun i x y hx hy=>hh (i+1) x y (by simpa using hx) (by simpa using hy)⟩
 exact key _ _ (by simpa using hs) fun i x y hx hy=>h i x y (by simpa using hx) (by simpa using hy)
theorem Sim.mapAt(h:Sim P B G w0 L c w){r:Nat}{es:Array MapEntry}{k:Nat}(hc:c.heap[r]?=some (.map es k)):
  r<L.n∧∃fs,w.heap[L.at_ r]?=some (.map fs k)∧es.size=fs.size∧∀(i:Nat) (x y:MapEntry),es[i]?=some x→fs[i]?=some y→MR P L x y:=by
 refine⟨by rw[h.n];exact(Array.getElem?_eq_some_iff.1 hc).1,?_⟩;obtain⟨o',ho,hr⟩:=h.obj r _ hc rfl
 cases o' with
 |map fs k'=>
  obtain⟨rfl,h1,h2⟩:=hr;exact⟨fs,ho,h1,h2⟩
 |_=>exact hr.elim
def QFH(P:Program)(t:TypeId)(x k:Value)(ok:Bool)(c:World):Option Value:=
 match P.underlying t with
 |some (.map kt et)=>(match P.underlying kt,(P.info? et).bind (·.zero)with
  |some .string,some z=>if QJP z=true then(match x,k with
   | .map (some r),.string s=>(match c.heap[r]? with
    |some (.map es _)=>(match QG4 s.data.toList es.toList with
     |some (some v)=>some (if ok then .tuple #[v,.bool true] else v)
     |some none=>some (if ok then .tuple #[z,.bool false] else z)
     |none=>none)
    |_=>none)
   |_,_=>none) else none
  |_,_=>none)
 |_=>none
theorem QBW {e:Bool}{n:Nat}{t:TypeId}{s:ByteArray}(hu:P.underlying t=some .string)(w:World):(Instr.checkKey e (n+1) t (.string s)).run P w= .ok () w:=by
 unfold Instr.checkKey;simp only[Sem.run_bind,QAD hu,Result.andThen_ok,Sem.run_pure]
theorem QCA {t:TypeId}{z:Value}(h:(P.info? t).bind (·.zero)=some z)(w:World):(zeroValue t).run P w= .ok z w:=by
 unfold Go.zeroValue Go.typeInfo;simp only[Sem.run_bind,Go.program,Sem.run,Result.andThen_ok]
 cases hi:P.info? t with
 |none=>rw[hi]at h;cases h
 |some i=>
  rw[hi]at h;simp only[Option.bind_some]at h;simp[h]
theorem AR.pair {a b a' b':Value}(h:VR P L a a')(g:VR P L b b'):AR P L #[a,b] #[a',b']:=by
 have:=(AR.one h).push g
 simpa using this
theorem QFa(h:Sim P B G w0 L c w){t:TypeId}{x x' k k' v:Value}{ok:Bool}(hx:VR P L x x')(hk:VR P L k k')(he:QFH P t x k ok c=some v):
  ∃v',(Instr.lookup t x' k' ok).run P w= .ok v' w∧VR P L v v':=by
 unfold QFH at he
 split at he
 ·
  rename_i kt et hu
  split at he
  ·
   rename_i z hku hz
   split at he
   ·
    rename_i hfz
    split at he
    ·
     rename_i r s
     split at he
     ·
      rename_i es kk hh
      cases hx;cases hk;obtain⟨_,fs,hw,hsz,hm⟩:=h.mapAt hh;have hER:=ER.of hsz hm;have hget:(getObj (L.at_ r)).run P w= .ok (.map fs kk) w:=by unfold Go.getObj;simp only[Sem.run,hw]
      split at he
      ·
       rename_i v0 hf;injection he with he
       obtain⟨j,v',hn,hv⟩:=QHN _ _ 0 hER hf;refine⟨if ok then .tuple #[v',.bool true] else v',?_,?_⟩
       ·
        unfold Instr.lookup;simp only[Sem.run_bind,QAD hu,Result.andThen_ok,hget,Sem.run_pure,QBW (n:=9999) hku];unfold Instr.findKey;simp only[Sem.run_bind,QAD hku,Result.andThen_ok,hn,Sem.run_pure]
       ·
        rw[←he]
        split
        ·
         have:=AR.pair hv (.bool true:VR P L _ _);exact .tuple _ _ this.1 this.2
        ·
         exact hv
      ·
       rename_i hf;injection he with he
       have hn:=QFD _ _ 0 hER hf;refine⟨if ok then .tuple #[z,.bool false] else z,?_,?_⟩
       ·
        unfold Instr.lookup;simp only[Sem.run_bind,QAD hu,Result.andThen_ok,hget,Sem.run_pure,QBW (n:=9999) hku];unfold Instr.findKey;simp only[Sem.run_bind,QAD hku,Result.andThen_ok,hn,Sem.run_pure,QCA hz]
       ·
        rw[←he]
        split
        ·
         have:=AR.pair (VR.of_flat hfz:VR P L z z) (.bool false:VR P L _ _);exact .tuple _ _ this.1 this.2
        ·
         exact .of_flat hfz
      ·
       cases he
     ·
      cases he
    ·
     cases he
   ·
    cases he
  ·
   cases he
 ·
  cases he
def QDi(P:Program)(B:Nat)(t:TypeId)(m k x:Value)(c:World):Option World:=
 match P.underlying t with
 |some (.map kt _)=>(match P.underlying kt with
  |some .string=>(match m,k with
   | .map (some r),.string s=>if B≤r then(match c.heap[r]? with
    |some (.map es n)=>(match QG4 s.data.toList es.toList with
     |some none=>some {c with heap:=c.heap.setIfInBounds r (.map (es.push {key:= .string s,val:=x,born:=n}) (n+1))}
     |_=>none)
    |_=>none) else none
   |_,_=>none)
  |_=>none)
 |_=>none
theorem Sim.setObj(h:Sim P B G w0 L c w){r:Nat}{o o1 o':Obj}(hB:B≤r)(hc:c.heap[r]?=some o)(ha:QE7 o=true)(hn:QLa o1=false)(hs:∀s,w.shape? (L.at_ r)=some s→World.shape? {w with heap:=w.heap.setIfInBounds (L.at_ r) o'} (L.at_ r)=some s)
  (hr:OR P L o1 o'):∃M,L.le M∧Sim P B G w0 M {c with heap:=c.heap.setIfInBounds r o1} {w with heap:=w.heap.setIfInBounds (L.at_ r) o'}:=by
 have hrn:r<c.heap.size:=(Array.getElem?_eq_some_iff.1 hc).1;have hwn:=QHy h hc ha
 have hle:L.le ⟨L.n,L.at_,World.shape? {w with heap:=w.heap.setIfInBounds (L.at_ r) o'}⟩:=by
  refine⟨Nat.le_refl _,fun _ _=>rfl,fun q s hq=>?_⟩;rw[h.sh]at hq
  by_cases he:q=L.at_ r
  ·
   subst he;exact hs s hq
  ·
   show World.shape? {w with heap:=w.heap.setIfInBounds (L.at_ r) o'} q=some s;unfold World.shape? at hq ⊢;simp only[Array.getElem?_setIfInBounds,show¬L.at_ r=q from fun e=>he e.symm,if_false];exact hq
 have key:∀(q:Nat) (x:Obj),(c.heap.setIfInBounds r o1)[q]?=some x→(q=r∧x=o1)∨(q≠r∧c.heap[q]?=some x):=by
  intro q x hq;rw[Array.getElem?_setIfInBounds]at hq
  by_cases he:r=q
  ·
   subst he;rw[if_pos rfl,if_pos hrn]at hq;injection hq with hq
   exact .inl ⟨rfl,hq.symm⟩
  ·
   rw[if_neg he]at hq;exact .inr ⟨fun e=>he e.symm,hq⟩
 have aliveOf:∀(q:Nat) (x:Obj),(c.heap.setIfInBounds r o1)[q]?=some x→QE7 x=true→∃y,c.heap[q]?=some y∧QE7 y=true:=by
  intro q x hq hx;rcases key q x hq with ⟨rfl,_⟩|⟨_,h2⟩
  ·
   exact⟨o,hc,ha⟩
  ·
   exact⟨x,h2,hx⟩
 refine⟨_,hle,by simpa using h.n,rfl,h.glob,h.gle,h.ble,?_,?_,h.fresh,?_,?_⟩
 ·
  intro a b x y hx hy ax ay he;obtain⟨x',hx',ax'⟩:=aliveOf a x hx ax;obtain⟨y',hy',ay'⟩:=aliveOf b y hy ay;exact h.inj a b x' y' hx' hy' ax' ay' he
 ·
  intro q x hq ax;rcases key q x hq with ⟨rfl,rfl⟩|⟨h1,h2⟩
  ·
   refine⟨o',?_,hr.mono hle⟩;show(w.heap.setIfInBounds (L.at_ q) o')[L.at_ q]?=_;rw[Array.getElem?_setIfInBounds,if_pos rfl,if_pos hwn]
  ·
   obtain⟨y,hy,hor⟩:=h.obj q x h2 ax;refine⟨y,?_,hor.mono hle⟩;show(w.heap.setIfInBounds (L.at_ r) o')[L.at_ q]?=_;rw[Array.getElem?_setIfInBounds,if_neg,hy];intro e;exact h1 (h.inj r q o x hc h2 ha ax e).symm
 ·
  refine⟨h.below.os,h.below.tape,h.below.output,by simpa using h.below.size,fun k hk=>?_⟩;show(w.heap.setIfInBounds (L.at_ r) o')[k]?=_;have:=h.fresh r hB (by rw[h.n];exact hrn);rw[Array.getElem?_setIfInBounds,if_neg (by omega)];exact h.below.block k hk
 ·
  intro q x hq;rcases key q x hq with ⟨_,rfl⟩|⟨_,h2⟩
  ·
   exact hn
  ·
   exact h.nov q x h2
theorem QFk(h:Sim P B G w0 L c w){t:TypeId}{m m' k k' x x':Value}{c1:World}(hm:VR P L m m')(hk:VR P L k k')(hx:VR P L x x')(he:QDi P B t m k x c=some c1):
  ∃M w1,(Instr.mapUpdate t m' k' x').run P w= .ok () w1∧L.le M∧Sim P B G w0 M c1 w1:=by
 unfold QDi at he
 split at he
 ·
  rename_i kt et hu
  split at he
  ·
   rename_i hku
   split at he
   ·
    rename_i r s
    split at he
    ·
     rename_i hB
     split at he
     ·
      rename_i es n hh
      split at he
      ·
       rename_i hf;injection he with he
       subst he
       cases hm;cases hk;obtain⟨_,fs,hw,hsz,hmr⟩:=h.mapAt hh;have hn:=QFD _ _ 0 (ER.of hsz hmr) hf;have hget:(getObj (L.at_ r)).run P w= .ok (.map fs n) w:=by unfold Go.getObj;simp only[Sem.run,hw]
       have hor:OR P L (.map (es.push {key:= .string s,val:=x,born:=n}) (n+1)) (.map (fs.push {key:= .string s,val:=x',born:=n}) (n+1)):=by
        refine⟨rfl,by simp[hsz],fun i a b ha hb=>?_⟩;rw[Array.getElem?_push]at ha hb
        split at ha
        ·
         rename_i hi;rw[if_pos (by rw[hi,hsz])]at hb;injection ha with ha
         injection hb with hb
         subst ha hb;exact⟨rfl,rfl,rfl,hx⟩
        ·
         rename_i hi;rw[if_neg (by rw[←hsz];exact hi)]at hb;exact hmr i a b ha hb
       obtain⟨M,hle,hS⟩:=h.setObj hB hh rfl (o1:= .map (es.push {key:= .string s,val:=x,born:=n}) (n+1)) rfl (fun s hs=>by unfold World.shape? at hs;simp only[hw]at hs;cases hs) hor;refine⟨M,_,?_,hle,hS⟩;unfold Instr.mapUpdate;simp only[Sem.run_bind,QAD hu,Result.andThen_ok,hget,Sem.run_pure,QBW (n:=9999) hku];unfold Instr.findKey;simp only[Sem.run_bind,QAD hku,Result.andThen_ok,hn,Sem.run_pure];unfold Go.setObj;simp only[Sem.run,hw]
      ·
       cases he
     ·
      cases he
    ·
     cases he
   ·
    cases he
  ·
   cases he
 ·
  cases he
variable {P : Program} {B G : Nat} {w0 : World} {α β γ δ : Type} {L : Lie} {c w : World}
def QF8(c:World)(a:Option Addr)(n:Nat):Option (Array Value):=
 match a with
 |none=>if n=0 then some #[] else none
 |some a=>(match c.heap[a.block]? with
  |some (.cells xs _ _)=>if a.spot=none∧a.off+n≤xs.size then some (xs.extract a.off (a.off+n)) else none
  |_=>none)
def QF2(P:Program)(B:Nat)(t t2:TypeId)(x y:Value)(c:World):Option (Value × World):=
 match P.underlying t,P.underlying t2,x,y with
 |some (.slice elem),some (.slice _),.slice base sl sc,.slice yb yl _=>
  (match P.info? elem with
  |some i=>(match i.zero with
   |some z=>
    if z.cells.size=i.size∧z.cells.all QA1=true∧i.bytes≤10000∧sl+yl≤10000 then
     (match QF8 c yb (yl*i.size)with
     |some ys=>
      if ys.all one1=true then
       (if sl+yl≤sc then(if yl=0 then some (x,c) else none)
       else match base with
        |none=>if sl=0 then some (.slice (some ⟨c.heap.size,0,none⟩) yl yl,{c with heap:=c.heap.push (.cells ys elem)}) else none
        |some ⟨b,o,s⟩=>(match c.heap[b]? with
         |some (.cells xs e _)=>if B≤b∧e=elem∧xs.size=sl*i.size∧o=0∧s=none then
           some (.slice (some ⟨c.heap.size,0,none⟩) (sl+yl) (sl+yl),{c with heap:=(c.heap.setIfInBounds b (.coro none)).push (.cells (xs++ys) elem)}) else none
         |_=>none))
      else none
     |none=>none)
    else none
   |none=>none)
  |none=>none)
 |_,_,_,_=>none
def QPP(P:Program)(a:Option Addr)(n:Nat)(us:Array Value)(w:World):Prop:=
 match a with
 |none=>us=#[]
 |some b=>(loadCells b n).run P w= .ok us w
theorem QJD(h:Sim P B G w0 L c w){a a':Option Addr}{l k k' n l':Nat}{ys:Array Value}(hv:VR P L (.slice a l k) (.slice a' l' k'))(he:QF8 c a n=some ys):
  ys.size=n∧∃us,AR P L ys us∧∀w1:World,(∀j,j<w.heap.size→w1.heap[j]?=w.heap[j]?)→QPP P a' n us w1:=by
 unfold QF8 at he
 cases hv with
 |nilS l k=>
  dsimp only at he
  split at he
  ·
   rename_i h0;injection he with he
   subst he;exact⟨by simp[h0],#[],.nil,fun _ _=>rfl⟩
  ·
   cases he
 |slice b o l k k' hb hc=>
  dsimp only at he
  split at he
  ·
   rename_i xs e fz hh
   split at he
   ·
    rename_i ho;injection he with he
    subst he;obtain⟨_,us,hw,_,hs,hvs⟩:=h.cells hh;have hsz:(xs.extract o (o+n)).size=n:=by simp only[Array.size_extract];omega
    refine⟨hsz,((List.range n).map fun j=>us.getD (o+j) undef).toArray,⟨by rw[hsz];simp,fun i hi=>?_⟩,fun w1 hw1=>?_⟩
    ·
     rw[hsz]at hi;have e1:(xs.extract o (o+n)).getD i undef=xs.getD (o+i) undef:=by simp[Array.getD,show i<min (o+n) xs.size - o by omega,show o+i<xs.size by omega]
     have e2:(((List.range n).map fun j=>us.getD (o+j) undef).toArray).getD i undef=us.getD (o+i) undef:=by simp[Array.getD,hi]
     rw[e1,e2];exact hvs _ (by omega)
    ·
     refine run_loadCells w1 _ n (fun j=>us.getD (o+j) undef) fun j hj=>?_
     rw[QAz];have:w1.heap[L.at_ b]?=some (.cells us e (0,0)):=by rw[hw1 _ (QHy h hh rfl)];exact hw
     rw[cell?_of this];exact getElem?_of_getD (by omega)
   ·
    cases he
  ·
   cases he
theorem QJS(need:Nat):∀(r k:Nat),k≤need+(need+768) / 4→Builtin.growBy need r k≤need+(need+768) / 4
 |0,k,h=>h
 |r+1,k,h=>by
  unfold Builtin.growBy
  split
  ·
   exact h
  ·
   rename_i hlt;refine QJS need r _ ?_;omega
theorem QGV {need k:Nat}(h:k<need):Builtin.nextslicecap need k≤2*need+768:=by
 unfold Builtin.nextslicecap
 split
 ·
  omega
 ·
  split
  ·
   omega
  ·
   have:=QJS need 4 k (by omega);omega
theorem Sim.kill(h:Sim P B G w0 L c w)(b:Nat):Sim P B G w0 L {c with heap:=c.heap.setIfInBounds b (.coro none)} w:=by
 have key:∀(q:Nat) (x:Obj),(c.heap.setIfInBounds b (.coro none))[q]?=some x→x= .coro none∨(q≠b∧c.heap[q]?=some x):=by
  intro q x hq;rw[Array.getElem?_setIfInBounds]at hq
  split at hq
  ·
   rename_i he
   split at hq
   ·
    injection hq with hq;exact .inl hq.symm
   ·
    cases hq
  ·
   rename_i he;exact .inr ⟨fun e=>he e.symm,hq⟩
 refine⟨by simpa using h.n,h.sh,h.glob,h.gle,h.ble,?_,?_,h.fresh,h.below,?_⟩
 ·
  intro r s x y hx hy ax ay he;rcases key r x hx with rfl|⟨_,hx⟩
  ·
   cases ax
  ·
   rcases key s y hy with rfl|⟨_,hy⟩
   ·
    cases ay
   ·
    exact h.inj r s x y hx hy ax ay he
 ·
  intro r x hx ax;rcases key r x hx with rfl|⟨_,hx⟩
  ·
   cases ax
  ·
   exact h.obj r x hx ax
 ·
  intro r x hx;rcases key r x hx with rfl|⟨_,hx⟩
  ·
   rfl
  ·
   exact h.nov r x hx
theorem QDe(b:Nat):∀(vs:List Value) (o:Nat) (w:World) (us:Array Value) (e:TypeId),w.heap[b]?=some (.cells us e (0,0))→o+vs.length≤us.size→
  ∃us',(w.setCells b o vs).heap[b]?=some (.cells us' e (0,0))∧us'.size=us.size∧(∀i,us'.getD i undef=if o≤i∧i<o+vs.length then vs.getD (i - o) undef else us.getD i undef)∧
   (∀j,j≠b→(w.setCells b o vs).heap[j]?=w.heap[j]?)∧(w.setCells b o vs).heap.size=w.heap.size∧(w.setCells b o vs).shape?=w.shape?∧
   (w.setCells b o vs).os=w.os∧(w.setCells b o vs).tape=w.tape∧(w.setCells b o vs).output=w.output
 | [],o,w,us,e,h,_=>⟨us,h,rfl,fun i=>by rw[if_neg (by simp)],fun _ _=>rfl,rfl,rfl,rfl,rfl,rfl⟩
 |v::vs,o,w,us,e,h,hl=>by
  have hl':o<us.size:=by simp only[List.length_cons]at hl;omega
  have h1:(w.setCell ⟨b,o,none⟩ v).heap[b]?=some (.cells (us.setIfInBounds o v) e (0,0)):=by rw[heap_setCell,if_pos rfl,h];rfl
  obtain⟨us',g1,g2,g3,g4,g5,g6,g7,g8,g9⟩:=QDe b vs (o+1) (w.setCell ⟨b,o,none⟩ v) _ e h1 (by simp only[List.length_cons]at hl;simp;omega);refine⟨us',g1,by simpa using g2,fun i=>?_,fun j hj=>?_,g5.trans (QEt _ _ _),g6.trans (shape?_setCell' _ _ _ _),g7,g8,g9⟩
  ·
   rw[g3 i];simp only[List.length_cons]
   by_cases hi:o+1≤i∧i<o+1+vs.length
   ·
    rw[if_pos hi,if_pos (by omega)];obtain⟨k,rfl⟩:∃k,i=o+1+k:=⟨i - (o+1),by omega⟩;rw[show o+1+k - (o+1)=k by omega,show o+1+k - o=k+1 by omega];simp[List.getD]
   ·
    rw[if_neg hi]
    by_cases hio:i=o
    ·
     subst hio;rw[if_pos (by omega)];simp[Array.getD,hl',List.getD]
    ·
     rw[if_neg (by omega)]
     by_cases hlt:i<us.size
     ·
      simp[Array.getD,hlt,Array.getElem_setIfInBounds,show¬o=i from fun e=>hio e.symm]
     ·
      simp[Array.getD,hlt]
  ·
   rw[show(w.setCells b o (v::vs))=(w.setCell ⟨b,o,none⟩ v).setCells b (o+1) vs from rfl,g4 j hj,heap_setCell,if_neg (fun e=>hj e.symm)]
end Go.Proofs.YtjnclkakbopnjaaGreatDoor
