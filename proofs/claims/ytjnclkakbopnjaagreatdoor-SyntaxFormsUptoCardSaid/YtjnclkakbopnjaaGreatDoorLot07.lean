/- XLexS, XLexT, XLexU, XLexV, XLexW -/
import Derived.Test.YtjnclkakbopnjaaGreatDoorLot06
import Derived.RecoverIn
import Derived.LoadGo3
set_option linter.unusedSimpArgs false
set_option linter.unusedVariables false
set_option maxRecDepth 100000
set_option maxHeartbeats 4000000
namespace Go.Proofs.YtjnclkakbopnjaaGreatDoor
open Go.Proofs.Tryz
open Go.RowKit
attribute [local go_sem] Oper.semAt_some
theorem cell?_same {w w':World}{a:Addr}(h:w'.heap[a.block]?=w.heap[a.block]?):w'.cell? a=w.cell? a:=by unfold World.cell?;rw[h]
theorem frozen?_same {w w':World}{a:Addr}(h:w'.heap[a.block]?=w.heap[a.block]?):w'.frozen? a=w.frozen? a:=by unfold World.frozen?;rw[h]
theorem IsTab.same {w w':World}{tb:Nat}(h:IsTab w tb)(ht:w'.heap[tb]?=w.heap[tb]?):IsTab w' tb:=⟨fun c x hc hx=>(cell?_same (a:=⟨tb,_,none⟩) ht).trans (h.at_ c x hc hx)⟩
theorem CutAt.same {w w':World}{cb tb:Nat}{s:ByteArray}{p lk la ll:Nat}(h:CutAt w cb tb s p lk la ll)(hc:w'.heap[cb]?=w.heap[cb]?)(ht:w'.heap[tb]?=w.heap[tb]?):CutAt w' cb tb s p lk la ll:=
 ⟨(cell?_same (a:=⟨cb,0,none⟩) hc).trans h.text,(cell?_same (a:=⟨cb,1,none⟩) hc).trans h.pos,(cell?_same (a:=⟨cb,2,none⟩) hc).trans h.tab,(cell?_same (a:=⟨cb,3,none⟩) hc).trans h.kind,(cell?_same (a:=⟨cb,4,none⟩) hc).trans h.lat,(cell?_same (a:=⟨cb,5,none⟩) hc).trans h.llen,fun o=>(frozen?_same (a:=⟨cb,o,none⟩) hc).trans (h.free o),h.isTab.same ht,h.size,h.le,h.last⟩
theorem RulesAt.same {w w':World}{rb:Nat}(h:RulesAt w rb)(ht:w'.heap[rb]?=w.heap[rb]?):RulesAt w' rb:=
 ⟨(cell?_same (a:=⟨rb,0,none⟩) ht).trans h.k0,(cell?_same (a:=⟨rb,1,none⟩) ht).trans h.f0,(cell?_same (a:=⟨rb,2,none⟩) ht).trans h.k1,(cell?_same (a:=⟨rb,3,none⟩) ht).trans h.f1,(cell?_same (a:=⟨rb,4,none⟩) ht).trans h.k2,(cell?_same (a:=⟨rb,5,none⟩) ht).trans h.f2,(cell?_same (a:=⟨rb,6,none⟩) ht).trans h.k3,(cell?_same (a:=⟨rb,7,none⟩) ht).trans h.f3,(cell?_same (a:=⟨rb,8,none⟩) ht).trans h.k4,(cell?_same (a:=⟨rb,9,none⟩) ht).trans h.f4,(cell?_same (a:=⟨rb,10,none⟩) ht).trans h.k5,(cell?_same (a:=⟨rb,11,none⟩) ht).trans h.f5⟩
structure Kept3(W1 W:World)(a b c:Nat):Prop where
 size:W1.heap.size≤W.heap.size
 os:W.os=W1.os
 tape:W.tape=W1.tape
 output:W.output=W1.output
 block:∀j,j<W1.heap.size→j≠a→j≠b→j≠c→W.heap[j]?=W1.heap[j]?
theorem Kept3.refl(W:World)(a b c:Nat):Kept3 W W a b c:=⟨Nat.le_refl _,rfl,rfl,rfl,fun _ _ _ _ _=>rfl⟩
theorem Kept3.trans {A B C:World}{a b c:Nat}(h:Kept3 A B a b c)(k:Kept3 B C a b c):Kept3 A C a b c:=
 ⟨Nat.le_trans h.size k.size,k.os.trans h.os,k.tape.trans h.tape,k.output.trans h.output,fun j hj h1 h2 h3=>(k.block j (Nat.lt_of_lt_of_le hj h.size) h1 h2 h3).trans (h.block j hj h1 h2 h3)⟩
theorem Kept3.below {A B:World}{a b c:Nat}(h:Below A.heap.size A B):Kept3 A B a b c:=⟨h.size,h.os,h.tape,h.output,fun j hj _ _ _=>h.block j hj⟩
theorem Kept3.set(A:World){a b c:Nat}(o:Nat)(v:Value):Kept3 A (A.setCell ⟨a,o,none⟩ v) a b c:=
 ⟨by rw[QAX];exact Nat.le_refl _,rfl,rfl,rfl,fun j hj h1 _ _=>Below.heap_setCell _ _ _ _ h1⟩
theorem QHl {P:Program}{n:String}{g:Nat}{k:IntKind}{zs:List Int}{w w':World}(hg:P.globalNamed n=some g)(h:Lib.TabIs P w n k zs)(hb:w'.heap[g]?=w.heap[g]?):Lib.TabIs P w' n k zs:=by
 unfold Lib.TabIs World.var? at h ⊢;rw[hg]at h ⊢;simp only[Option.bind_some]at h ⊢;rw[hb];exact h
theorem Env.kept {w w':World}{a b c:Nat}(h:Env w)(hk:Kept3 w w' a b c)(ha:9≤a)(hb:9≤b)(hc:9≤c):Env w':=by
 obtain⟨⟨x,h1,h2⟩,⟨y,h3,h4⟩,h5,h6,⟨m,h7⟩⟩:=h;have same:∀{g v},w.cell? ⟨g,0,none⟩=some v→g<9→w'.heap[g]?=w.heap[g]?:=fun {g v} hv hg=>hk.block g (World.block_lt_of_cell? w _ hv) (by omega) (by omega) (by omega)
 have same':∀{n:String} {g:Nat} {k:IntKind} {zs:List Int},prog.globalNamed n=some g→Lib.TabIs prog w n k zs→g<9→w'.heap[g]?=w.heap[g]?:=fun {n g k zs} hg h hlt=>by
  have:=QER (w':=w) hg h (Below.refl _ _);unfold Lib.TabIs World.var? at h;rw[hg]at h;simp only[Option.bind_some]at h;refine hk.block g ?_ (by omega) (by omega) (by omega);rcases Nat.lt_or_ge g w.heap.size with hl|hl
  ·
   exact hl
  ·
   rw[Array.getElem?_eq_none hl]at h;simp at h
 refine⟨⟨x,(cell?_same (a:=⟨_,0,none⟩) (same h1 (by decide))).trans h1,h2⟩,⟨y,(cell?_same (a:=⟨_,0,none⟩) (same h3 (by decide))).trans h3,h4⟩,?_,?_,⟨m,(cell?_same (a:=⟨_,0,none⟩) (same h7 (by decide))).trans h7⟩⟩
 ·
  exact QHl (g:=5) (by kernel_rfl) h5 (same' (g:=5) (by kernel_rfl) h5 (by omega))
 ·
  exact QHl (g:=0) (by kernel_rfl) h6 (same' (g:=0) (by kernel_rfl) h6 (by omega))
structure Kp(W1 W:World)(cb l lB:Nat)(r:Loop)(pre:List Pc):Prop where
 keep:Kept3 W1 W cb l lB
 box:∃v,Boxed W lB 187 v∧W.ownsRow W1.heap.size 191 3 v pre.length (QDb pre)
 loop:W.heap[l]?=some (.loop r)
theorem QDJ {A B:World}(h:Below A.heap.size A B):A.grownBy B none:=⟨h.os,h.tape,h.output,h.size,fun j hj _=>h.block j hj⟩
theorem Kp.below {W1 W W':World}{cb l lB:Nat}{r:Loop}{pre:List Pc}(h:Kp W1 W cb l lB r pre)(hb:Below W.heap.size W W'):Kp W1 W' cb l lB r pre:=by
 obtain⟨h1,⟨v,h2,h3⟩,h4⟩:=h;exact⟨h1.trans (.below hb),⟨v,(hb.block _ h2.lt).trans h2,h3.kept (QDJ hb) (by cases v.ownBlock <;> simp)⟩,(hb.block _ (Array.getElem?_eq_some_iff.1 h4).1).trans h4⟩
theorem Kp.drewN {W1 W:World}{cb l lB:Nat}{r:Loop}{pre:List Pc}(h:Kp W1 W cb l lB r pre)(n:Nat):Kp W1 (W.drewN n) cb l lB r pre:=h.below (QAB (Below.refl _ _) n)
theorem Kp.set {W1 W:World}{cb l lB:Nat}{r:Loop}{pre:List Pc}(h:Kp W1 W cb l lB r pre)(h1:cb<W1.heap.size)(h2:cb≠lB)(h3:cb≠l)(o:Nat)(u:Value):Kp W1 (W.setCell ⟨cb,o,none⟩ u) cb l lB r pre:=by
 obtain⟨k1,⟨v,k2,k3⟩,k4⟩:=h;have hg:=grownBy_setCell' W cb u;have hg':W.grownBy (W.setCell ⟨cb,o,none⟩ u) (some cb):=⟨rfl,rfl,rfl,by rw[QAX];exact Nat.le_refl _,fun k _ hk=>Below.heap_setCell _ _ _ k (fun e=>hk (by rw[e]))⟩;refine⟨k1.trans (.set _ _ _),⟨v,k2.kept hg' (by simpa using h2.symm),k3.kept hg' ?_⟩,(Below.heap_setCell _ _ _ _ (Ne.symm h3)).trans k4⟩
 cases ho:v.ownBlock with
 |none=>exact .inl rfl
 |some g=>
  have:=k3.lt g ho;right;intro e;injection e with e
  omega
theorem Kp.round {W1 W W':World}{cb l lB:Nat}{r:Loop}{pre:List Pc}{x:Pc}(h:Kp W1 W cb l lB r pre){v v':Value}(hB:Boxed W lB 187 v)(hr:W.ownsRow W1.heap.size 191 3 v pre.length (QDb pre))
  (h1:Boxed W' lB 187 v') (h2:W'.ownsRow W1.heap.size 191 3 v' (pre.length+1) (QDb pre++QH8 x)) (h3:W'.heap[l]?=some (.loop r)) (h4:QSN W W' l lB v):
  Kp W1 W' cb l lB r (pre++ [x])∧∀j,j<W.heap.size→(j<W1.heap.size∨∀g,v.ownBlock=some g→j≠g)→j≠l→j≠lB→W'.heap[j]?=W.heap[j]?:=by
 have hk:∀j,j<W.heap.size→(j<W1.heap.size∨∀g,v.ownBlock=some g→j≠g)→j≠l→j≠lB→W'.heap[j]?=W.heap[j]?:=fun j hj hg a b=>h4.block j hj a b (by
  intro e;rcases hg with hg|hg
  ·
   have:=(hr.lt j e.symm).1;omega
  ·
   exact hg j e.symm rfl)
 refine⟨⟨?_,⟨v',h1,by rw[QMc,List.length_append];exact h2⟩,h3⟩,hk⟩;exact⟨Nat.le_trans h.keep.size h4.size,h4.os.trans h.keep.os,h4.tape.trans h.keep.tape,h4.output.trans h.keep.output,fun j hj a b c=>(hk j (Nat.lt_of_lt_of_le hj h.keep.size) (.inl hj) b c).trans (h.keep.block j hj a b c)⟩
structure It(W1 W:World)(cb tb l lB:Nat)(r:Loop)(s:ByteArray)(c:Cu)(pre:List Pc):Prop where
 cut:CutAt W cb tb s c.p c.lk c.la c.ll
 good:QGN s.data.toList c
 kp:Kp W1 W cb l lB r pre
 few:pre.length≤c.p
 rest:∃f,s.size<f+c.p∧QAV s.data.toList=(pre++(QGE s.data.toList f c).1,(QGE s.data.toList f c).2)
theorem It.done {W1 W:World}{cb tb l lB:Nat}{r:Loop}{s:ByteArray}{c:Cu}{pre:List Pc}(h:It W1 W cb tb l lB r s c pre)(hp:¬c.p<s.size):QAV s.data.toList=(pre,none):=by
 obtain⟨f,hf,he⟩:=h.rest;have:¬c.p<s.data.toList.length:=by rw[QAE];exact hp
 cases f with
 |zero=>rw[he];simp[QGE]
 |succ f=>rw[he];simp only[QGE,if_neg this,List.append_nil]
theorem It.err {W1 W:World}{cb tb l lB:Nat}{r:Loop}{s:ByteArray}{c:Cu}{pre:List Pc}(h:It W1 W cb tb l lB r s c pre)(hp:c.p<s.size){er:Nat}(hs:QDO s.data.toList c= .inr er):QAV s.data.toList=(pre,some (c.p,er)):=by
 obtain⟨f,hf,he⟩:=h.rest;have hp':c.p<s.data.toList.length:=by rw[QAE];exact hp
 cases f with
 |zero=>omega
 |succ f=>rw[he];simp only[QGE,if_pos hp',hs,List.append_nil]
theorem It.next {W1 W:World}{cb tb l lB:Nat}{r:Loop}{s:ByteArray}{c c':Cu}{pre:List Pc}{x:Pc}(h:It W1 W cb tb l lB r s c pre)(hp:c.p<s.size)(hs:QDO s.data.toList c= .inl (x,c')):
  QGN s.data.toList c'∧(pre++ [x]).length≤c'.p∧c.p<c'.p∧∃f,s.size<f+c'.p∧QAV s.data.toList=((pre++ [x])++(QGE s.data.toList f c').1,(QGE s.data.toList f c').2):=by
 obtain⟨f,hf,he⟩:=h.rest;have hp':c.p<s.data.toList.length:=by rw[QAE];exact hp
 obtain⟨g1,g2,_⟩:=QFP h.good hp' hs;have:=h.few;refine⟨g1,by simp;omega,g2,?_⟩
 cases f with
 |zero=>omega
 |succ f=>exact⟨f,by omega,by rw[he];simp only[QGE,if_pos hp',hs,List.append_assoc,List.singleton_append]⟩
def QRs(w:World)(cb:Nat):Nat:=match w.cell? ⟨cb,1,none⟩ with|some (.int _ i)=>i.toNat|_=>0
theorem QLm {w:World}{cb p:Nat}(h:w.cell? ⟨cb,1,none⟩=some (.int .i64 p)):QRs w cb=p:=by unfold QRs;rw[h];simp
structure Mid(W1 W:World)(cb tb xb l lB:Nat)(r:Loop)(s:ByteArray)(p:Nat)(c':Cu)(x:Pc)(pre:List Pc)(pb:Nat):Prop where
 kp:Kp W1 W cb l lB r pre
 cut:CutAt W cb tb s p c'.lk c'.la c'.ll
 xc:W.cell? ⟨xb,0,none⟩=some (.pointer (some ⟨cb,0,none⟩))
 p0:W.cell? ⟨pb,0,none⟩=some (.int .i64 x.kind)
 p1:W.cell? ⟨pb,1,none⟩=some (.int .i64 x.at_)
 p2:W.cell? ⟨pb,2,none⟩=some (.int .i64 x.len)
 far:W1.heap.size≤pb∧∀v g,Boxed W lB 187 v→v.ownBlock=some g→pb≠g
theorem QQE {l:List UInt8}{c:Cu}{k n:Nat}(h:QDL l c.p (QDM c.lk ((l.drop c.la).take c.ll))= .inl (k,n))(hk:k≤6)(hn:¬6000<c.n+1):QDO l c= .inl (⟨k,c.p,n⟩,⟨c.p+n,k,c.p,n,c.n+1⟩):=by
 unfold QDO;rw[h];simp only;rw[if_pos hk,if_neg hn]
theorem QMt {l:List UInt8}{c:Cu}{k n:Nat}(h:QDL l c.p (QDM c.lk ((l.drop c.la).take c.ll))= .inl (k,n))(hk:k≤6)(hn:6000<c.n+1):QDO l c= .inr 2:=by
 unfold QDO;rw[h];simp only;rw[if_pos hk,if_pos hn]
theorem QQD {l:List UInt8}{c:Cu}{k n:Nat}(h:QDL l c.p (QDM c.lk ((l.drop c.la).take c.ll))= .inl (k,n))(hk:¬k≤6):QDO l c= .inl (⟨k,c.p,n⟩,⟨c.p+n,c.lk,c.la,c.ll,c.n⟩):=by
 unfold QDO;rw[h];simp only;rw[if_neg hk]
def PEnd(cb l lB base:Nat)(r:Loop)(x:List Pc × Option (Nat × Nat))(W:World)(e:Ending)(W':World):Prop:=
 Kept3 W W' cb l lB∧match x.2 with
 |none=>(∃v,e= .returned v)∧W'.heap[l]?=some (.loop r)∧∃v,Boxed W' lB 187 v∧W'.ownsRow base 191 3 v x.1.length (QDb x.1)
 |some (p,er)=>e= .panicked [{v:=QCk p er,recovered:=false}]∧∃v,Boxed W' lB 187 v
attribute [local go_sem] Oper.semAt_some
theorem QK2 (m l lB fn D cb tb xb:Nat)(r:Loop)(s:ByteArray)(W:World)(hm:1≤m)
  (hY:∀(base:Nat) (v:Value) (k:Nat) (xs:List Value) (x:Pc) (W:World),Boxed W lB 187 v→W.ownsRow base 191 3 v k xs→base≤W.heap.size→k≤1000000→W.heap[l]?=some (.loop r)→
   YieldAt Fence.wide (m - 1) prog l #[.agg #[.int .i64 x.kind,.int .i64 x.at_,.int .i64 x.len]] W (QHs base l lB r v k xs (QH8 x) W))
  (hE:Env W) (hC:CutAt W cb tb s 0 0 0 0) (hx:W.cell? ⟨xb,0,none⟩=some (.pointer (some ⟨cb,0,none⟩))) (hB:Boxed W lB 187 (.slice none 0 0)) (hl:W.heap[l]?=some (.loop r))
  (d1:cb≠lB) (d2:tb≠cb∧tb≠lB) (d3:xb≠cb∧xb≠lB) (g1:9≤cb) (g2:9≤l) (g3:9≤lB):
  Calls prog 247 #[.func (.yield l) #[] #[],.pointer (some ⟨xb,0,none⟩)] W fun e W'=>∃base,W.heap.size≤base∧PEnd cb l lB base r (QAV s.data.toList) W e W':=by
 go_enter func247,ntmps247
 go_wp2_with fail
 refine(QOw _).mono ?_;rintro e W1 ⟨rfl,hb1,hru⟩
 go_wp2_with fail
 have HY:=hd0 hY;clear hY;have HU:=hd0 hru;have HB1:=hd0 hb1;have HE:=hd0 (hE.below hb1);have hlt1:∀{j o},W.heap[j]?=some o→j<W.heap.size:=fun h=>(Array.getElem?_eq_some_iff.1 h).1
 have hx1:=QAA hb1 hx;have HX:=hd0 hx1;have hcl:cb<W.heap.size:=hC.lt;have hsz1:=hb1.size
 have e0:cb≠l:=by
  have:=hC.text;rintro rfl;unfold World.cell? at this;rw[hl]at this;cases this
 have hI0:It W1 W1 cb tb l lB r s ⟨0,0,0,0,0⟩ []:=
  ⟨hC.below hb1,⟨Nat.zero_le _,Nat.zero_le _,Nat.le_refl _⟩,⟨.refl _ _ _ _,⟨_,(hb1.block _ hB.lt).trans hB,World.ownsRow_nil _ _ _ _⟩,(hb1.block _ (hlt1 hl)).trans hl⟩,Nat.zero_le _,s.size+1,by simp,by simp only[List.nil_append];unfold QAV;rw[QAE]⟩
 have HI:=hd0 hI0
 have e1:tb≠l:=by
  have:=hC.isTab.at_ 0 0 (by omega) (by omega);rintro rfl;unfold World.cell? at this;rw[hl]at this;cases this
 have e2:xb≠l:=by
  rintro rfl;unfold World.cell? at hx;rw[hl]at hx;cases hx
 have etb:tb<W.heap.size:=World.block_lt_of_cell? _ _ (hC.isTab.at_ 0 0 (by omega) (by omega));have erl:W.heap.size≠cb∧W.heap.size≠l∧W.heap.size≠lB∧W.heap.size<W1.heap.size:=⟨by omega,by have:=hlt1 hl;omega,by have:=hB.lt;omega,World.block_lt_of_cell? _ _ hru.k0⟩;have ell:l<W.heap.size:=hlt1 hl;have elB:lB<W.heap.size:=hB.lt;clear hI0 hx1 hru hE hC hx hB hl hb1
 go_loopw [4] (fun v4 wr=>∃(c:Cu) (pre:List Pc),v4= .int .i64 c.n∧Hid (It W1 wr cb tb l lB r s c pre)) (fun _ wr=>s.size - QRs wr cb)
 case atStart=>exact⟨_,_,rfl,HI⟩
 case round=>
  clear HI;obtain⟨c,pre,rfl,HI⟩:=hrel;have hcut:=HI.out.cut;have h0:=hcut.text;have h1:=hcut.pos;have hx:wr.cell? ⟨xb,0,none⟩=some (.pointer (some ⟨cb,0,none⟩)):=(cell?_same (a:=⟨xb,0,none⟩) (HI.out.kp.keep.block xb (World.block_lt_of_cell? _ _ HX.out) d3.1 e2 d3.2)).trans HX.out;have hsz:=hcut.size;have HC:=hd0 hcut;clear hcut
  by_cases hp:c.p<s.size
  ·
   have hd:decide ((c.p:Int)<s.size)=true:=by simpa using hp
   have hn0:c.n≤20000:=by have:=HI.out.good;have:=this.2.2;omega
   go_wp2_with fail
   go_quiet (fail)
   go_wp2_with fail
   have hnx:=QPz cb tb W.heap.size s c.p c.lk c.la c.ll (wr.drewN nq) (HC.out.below (QAB (Below.refl _ _) nq)) ((HE.out.kept HI.out.kp.keep g1 g2 g3).below (QAB (Below.refl _ _) nq))
    (((HU.out).same (HI.out.kp.keep.block _ erl.2.2.2 erl.1 erl.2.1 erl.2.2.1)).below (QAB (Below.refl _ _) nq)) hp
   rcases hN:QDL s.data.toList c.p (QDM c.lk ((s.data.toList.drop c.la).take c.ll))with ⟨k,n⟩|er
   ·
    rw[hN]at hnx;simp only[QSH]at hnx;have hbd:=QFb (by rw[QAE];exact hp) hN;rw[QAE]at hbd;obtain⟨hn1,hn2,hk8⟩:=hbd;have HN:=hd0 hN;have HX2:=hd0 hnx;clear hN hnx;refine HX2.out.mono ?_;rintro e w2 ⟨rfl,hb2⟩;clear HX2;have hx2:w2.cell? ⟨xb,0,none⟩=some (.pointer (some ⟨cb,0,none⟩)):=QAA hb2 (by rw[World.cell?_drewN];exact hx);have HP:=hd0 ((HI.out.kp.drewN nq).below hb2);have HC2:=hd0 ((HC.out.below (QAB (Below.refl _ _) nq)).below hb2);have hsz2:wr.heap.size≤w2.heap.size:=hb2.size;have HBL:=hd0 hb2;have h02:=HC2.out.text;have h12:=HC2.out.pos;have h32:=HC2.out.kind;have h42:=HC2.out.lat;have h52:=HC2.out.llen;have hfr:=HC2.out.free;have nx:xb<w2.heap.size:=World.block_lt_of_cell? w2 _ hx2;have nc:cb<w2.heap.size:=World.block_lt_of_cell? w2 _ h02;have nx':xb≠w2.heap.size:=by omega
    have nc':cb≠w2.heap.size:=by omega
    clear hb2 h0 h1 hx
    have hO:∀v g,Boxed w2 lB 187 v→v.ownBlock=some g→g<w2.heap.size:=by
     intro v g hv hg;obtain⟨v',hv',hr'⟩:=HP.out.box;have:v=v':=by have h1:=hv.cell;have h2:=hv'.cell;rw[h1]at h2;injection h2
     subst this;exact(hr'.lt g hg).2
    have HO:=hd0 hO;clear hO;have hlB:lB<w2.heap.size:=by obtain⟨v',hv',_⟩:=HP.out.box;exact hv'.lt
    go_upto_if 24 with fail
    go_cut [4,5] (fun s4 s5 wx=>∃(x:Pc) (c':Cu) (pb:Nat),s4= .int .i64 c'.n∧s5= .pointer (some ⟨pb,0,none⟩)∧Hid (c'.p=c.p+x.len)∧Hid (QDO s.data.toList c= .inl (x,c'))∧Hid (Mid W1 wx cb tb xb l lB r s c.p c' x pre pb))
    case first=>
     by_cases hk6:k≤6
     ·
      have hk6d:decide ((k:Int)≤6)=true:=decide_eq_true (by omega)
      by_cases hn6:6000<c.n+1
      ·
       have hn6d:decide ((6000:Int)<(c.n:Int)+1)=true:=by simp;omega
       have HE2:=hd0 (HI.out.err hp (QMt HN.out hk6 hn6))
       go_wp2_with fail
       refine(QIG cb c.p 2 _ (QAA ((Below.refl _ _).alloc (Nat.le_refl _) _) h12)).mono ?_;rintro e w3 ⟨rfl,rfl⟩;refine⟨rfl,W1.heap.size,hsz1,?_⟩;rw[HE2.out];obtain⟨vb,hvb,_⟩:=HP.out.box;exact⟨(Kept3.below HB1.out).trans (HP.out.keep.trans (.below ((Below.refl _ _).alloc (Nat.le_refl _) _))),rfl,vb,hvb.alloc _⟩
      ·
       have hn6d:decide ((6000:Int)<(c.n:Int)+1)=false:=by simp;omega
       have HS:=hd0 (QQE HN.out hk6 hn6)
       go_wp2_with fail
       go_meet;refine⟨⟨k,c.p,n⟩,⟨c.p+n,k,c.p,n,c.n+1⟩,w2.heap.size,?_,rfl,hd0 rfl,HS,hd0 ?_⟩
       ·
        simp
       ·
        have hk3:=((HP.out.set (by omega) d1 e0 3 (.int .i64 k)).set (by omega) d1 e0 4 (.int .i64 c.p)).set (by omega) d1 e0 5 (.int .i64 n)
        have hh:∀j,j≠cb→(((w2.setCell ⟨cb,3,none⟩ (.int .i64 k)).setCell ⟨cb,4,none⟩ (.int .i64 c.p)).setCell ⟨cb,5,none⟩ (.int .i64 n)).heap[j]?=w2.heap[j]?:=fun j hj=>by
         rw[Below.heap_setCell _ _ _ _ hj,Below.heap_setCell _ _ _ _ hj,Below.heap_setCell _ _ _ _ hj]
        have h22:=HC2.out.tab
        have hc3:CutAt (((w2.setCell ⟨cb,3,none⟩ (.int .i64 k)).setCell ⟨cb,4,none⟩ (.int .i64 c.p)).setCell ⟨cb,5,none⟩ (.int .i64 n)) cb tb s c.p k c.p n:=by
         refine⟨by simp[go_sem,h02],by simp[go_sem,h12],by simp[go_sem,h22],by simp[go_sem,h32,h42,h52],by simp[go_sem,h32,h42,h52],by simp[go_sem,h32,h42,h52],fun o=>by simpa[go_sem]using hfr o,HC2.out.isTab.same (hh tb d2.1),hsz,by omega,by omega⟩
        have hx3:(((w2.setCell ⟨cb,3,none⟩ (.int .i64 k)).setCell ⟨cb,4,none⟩ (.int .i64 c.p)).setCell ⟨cb,5,none⟩ (.int .i64 n)).cell? ⟨xb,0,none⟩=some (.pointer (some ⟨cb,0,none⟩)):=(cell?_same (a:=⟨xb,0,none⟩) (hh xb d3.1)).trans hx2;have hlB3:=(hh lB (Ne.symm d1));have hs3:(((w2.setCell ⟨cb,3,none⟩ (.int .i64 k)).setCell ⟨cb,4,none⟩ (.int .i64 c.p)).setCell ⟨cb,5,none⟩ (.int .i64 n)).heap.size=w2.heap.size:=by rw[QAX,QAX,QAX]
        clear hh h22;generalize (((w2.setCell ⟨cb,3,none⟩ (.int .i64 k)).setCell ⟨cb,4,none⟩ (.int .i64 c.p)).setCell ⟨cb,5,none⟩ (.int .i64 n))=w3 at*;have hb3:Below w3.heap.size w3 (w3.alloc (.cells #[.int .i64 k,.int .i64 c.p,.int .i64 n] 191)):=(Below.refl _ _).alloc (Nat.le_refl _) _;refine⟨hk3.below hb3,hc3.below hb3,QAA hb3 hx3,by rw[←hs3];simp[go_sem],by rw[←hs3];simp[go_sem],by rw[←hs3];simp[go_sem],?_,fun v g hv hg=>?_⟩
        ·
         have:=HP.out.keep.size;omega
        ·
         have h5:Boxed w2 lB 187 v:=(hlB3.symm.trans (hb3.block lB (by omega)).symm).trans hv;have:=HO.out v g h5 hg;omega
     ·
      have hk6d:decide ((k:Int)≤6)=false:=decide_eq_false (by omega);have HS:=hd0 (QQD HN.out hk6)
      go_wp2_with fail
      go_meet;refine⟨⟨k,c.p,n⟩,⟨c.p+n,c.lk,c.la,c.ll,c.n⟩,w2.heap.size,rfl,rfl,hd0 rfl,HS,hd0 ?_⟩;have hb3:Below w2.heap.size w2 (w2.alloc (.cells #[.int .i64 k,.int .i64 c.p,.int .i64 n] 191)):=(Below.refl _ _).alloc (Nat.le_refl _) _;refine⟨HP.out.below hb3,HC2.out.below hb3,QAA hb3 hx2,by simp[go_sem],by simp[go_sem],by simp[go_sem],?_,fun v g hv hg=>?_⟩
      ·
       have:=HP.out.keep.size;omega
      ·
       have:Boxed w2 lB 187 v:=(hb3.block lB hlB).symm.trans hv;have:=HO.out v g this hg;omega
    case rest=>
     obtain⟨x,c',pb,rfl,rfl,HQ,HS,HM⟩:=hcut;clear HP HC2 HC HBL HO HN nx nc nx' nc' hx2 h02 h12 h32 h42 h52 hfr hsz2 hlB hn1 hn2 hk8;have p0:=HM.out.p0;have p1:=HM.out.p1;have p2:=HM.out.p2;obtain⟨v,hv1,hv2⟩:=HM.out.kp.box;have hy:=HY.out W1.heap.size v pre.length (QDb pre) x wc hv1 hv2 HM.out.kp.keep.size (by have:=HI.out.few;omega) HM.out.kp.loop;obtain⟨f1,t1,a1,b1,hy1,hR⟩:=hy;have V1:=hd0 hv1;have V2:=hd0 hv2;clear hv1 hv2;go_upto_region 9 with fail;refine(wpIn_wide (n:=m)).1 ?_
     gi_wp2
     refine hR.mono ?_;rintro e w4 ⟨rfl,v',hb4,hr4,hl4,hk4⟩;clear hR hy1;obtain⟨hkp,hsame⟩:=HM.out.kp.round V1.out V2.out hb4 hr4 hl4 hk4;have hcs:=HM.out.kp.keep.size;have exb:xb<W1.heap.size:=World.block_lt_of_cell? _ _ HX.out;have epb:pb<wc.heap.size:=World.block_lt_of_cell? _ _ p0;have s1:=hsame cb (by omega) (.inl (by omega)) e0 d1;have s2:=hsame tb (by omega) (.inl (by omega)) e1 d2.2;have s3:=hsame xb (by omega) (.inl exb) e2 d3.2;have s4:=hsame pb epb (.inr fun g hg=>HM.out.far.2 v g V1.out hg) (by have:=HM.out.far.1;omega) (by have:=HM.out.far.1;omega);have hc4:=HM.out.cut.same s1 s2;have hx4:w4.cell? ⟨xb,0,none⟩=some (.pointer (some ⟨cb,0,none⟩)):=(cell?_same (a:=⟨xb,0,none⟩) s3).trans HM.out.xc;have hp4:w4.cell? ⟨pb,2,none⟩=some (.int .i64 x.len):=(cell?_same (a:=⟨pb,2,none⟩) s4).trans p2;have h14:=hc4.pos;have hf4:=hc4.free;have hgl:=HI.out.good;have hnxt:=HI.out.next hp HS.out;have h20:c'.p≤20000:=by have:=hnxt.1.1;rw[QAE]at this;omega
     have hlen:c.p+x.len≤20000:=by have:=HQ.out;omega
     have HC4:=hd0 hc4;have HK:=hd0 hkp;have HNX:=hd0 hnxt;clear hb4 hr4 hl4 hk4 hkp hsame s1 s2 s3 s4 hc4 p0 p1 p2 hnxt hgl V1 V2
     gi_wp2
     go_wp2_with fail
     go_region
     have hv:((c.p:Int)+x.len)=((c'.p:Nat):Int):=by have:=HQ.out;omega
     rw[hv]
     have hcf:CutAt (w4.setCell ⟨cb,1,none⟩ (.int .i64 c'.p)) cb tb s c'.p c'.lk c'.la c'.ll:=by
      have q:=HC4.out;have q0:=q.text;have q1:=q.pos;have q2:=q.tab;have q3:=q.kind;have q4:=q.lat;have q5:=q.llen;refine⟨by simp[go_sem,q0,q1],by simp[go_sem,q1],by simp[go_sem,q2,q1],by simp[go_sem,q3,q1],by simp[go_sem,q4,q1],by simp[go_sem,q5,q1],fun o=>by simpa[go_sem]using hf4 o,q.isTab.same (Below.heap_setCell _ _ _ _ d2.1),q.size,?_,q.last⟩;have:=HNX.out.1.1;rw[QAE]at this;exact this
     have hbd:Below (w4.setCell ⟨cb,1,none⟩ (.int .i64 c'.p)).heap.size (w4.setCell ⟨cb,1,none⟩ (.int .i64 c'.p)) (w4.setCell ⟨cb,1,none⟩ (.int .i64 c'.p)).drew:=QAB (Below.refl _ _) 1;have hI:=hd0 (show It W1 (w4.setCell ⟨cb,1,none⟩ (.int .i64 c'.p)).drew cb tb l lB r s c' (pre++ [x])from⟨hcf.below hbd,HNX.out.1,(HK.out.set (by omega) d1 e0 1 _).below hbd,HNX.out.2.1,HNX.out.2.2.2⟩);clear hcf hbd hv;unfold Exit.inBlock;go_roundw
     case rel=>(repeat apply Exists.intro);exact⟨⟨c',pre++ [x],rfl,hI⟩,rfl⟩
     case measure=>
      rw[QLm hI.out.cut.pos,QLm HI.out.cut.pos];have:=HNX.out.2.2.1;omega
   ·
    rw[hN]at hnx;simp only[QSH]at hnx;have hst:QDO s.data.toList c= .inr er:=by unfold QDO;rw[hN]
    have HE2:=hd0 (HI.out.err hp hst);have HX2:=hd0 hnx;clear hN hst hnx;refine HX2.out.mono ?_;rintro e w2 ⟨rfl,hb2⟩;clear HX2;have HK:=hd0 ((HI.out.kp.drewN nq).below hb2);refine⟨rfl,W1.heap.size,hsz1,?_⟩;rw[HE2.out];obtain⟨vb,hvb,_⟩:=HK.out.box;exact⟨(Kept3.below HB1.out).trans HK.out.keep,rfl,vb,hvb⟩
  ·
   have hd:decide ((c.p:Int)<s.size)=false:=by simpa using hp
   have hdn:=HI.out.done hp;have HD:=hd0 hdn;clear hdn
   go_wp2_with fail
   go_quiet (fail)
   go_wp2_with fail
   go_end0
   refine⟨W1.heap.size,hsz1,?_⟩;rw[HD.out];obtain⟨k1,k2,k3⟩:=HI.out.kp.drewN nq;exact⟨(Kept3.below HB1.out).trans k1,⟨_,rfl⟩,k3,k2⟩
attribute [local go_sem] Oper.semAt_some
theorem QHd {P:Program}{o:Oper}{k:Call}(hk:o.op= .call k)(hc:k.callee= .builtin .recover)(ρ:Operand→Value)(w:World):(execOp ρ o).run P w= .ok .recover w:=by
 unfold execOp;rw[hk];simp only[resolve,hc,pure_bind,invoke,builtin,Sem.run_pure]
theorem QI1(v:Value)(w:World):(Instr.typeAssert (.iface 235 v) 20 235 true).run prog w= .ok (.tuple #[v,.bool true]) w:=by
 unfold Instr.typeAssert;simp only[Sem.run_bind,run_underlying underlying235,Result.andThen_ok];simp
theorem QFl(o:Oper) (y)(h:o.guard=none):Region.wanted o y=true:=by unfold Region.wanted;rw[h]
theorem QNI(n lB aB eB:Nat)(w:World):
  CallsDIn Fence.wide n prog 198 #[.pointer (some ⟨lB,0,none⟩),.pointer (some ⟨aB,0,none⟩),.pointer (some ⟨eB,0,none⟩)] .returning w fun e u w'=>(∃v,e= .returned v)∧settle u= .returning∧w'=w:=by
 refine callsDIn_of_wpSIn func198 rfl trivial fun c₀ cs hu=>?_
 simp only[ntmps198,List.size_toArray,List.length_cons,List.length_nil,Nat.reduceAdd,Nat.reduceSub,Array.replicate_succ,Array.replicate_zero,List.push_toArray,List.append_toArray,List.nil_append,List.cons_append];refine wpSIn_seq (wpSIn_region ?_);simp only[List.size_toArray,List.length_cons,List.length_nil,Nat.zero_add];show wpOpsSIn _ _ _ _ _ [0] _ _ _;unfold wpOpsSIn;simp only[List.getElem?_toArray,List.getElem?_cons_zero];refine⟨fun _ _=>trivial,?_⟩;rw[if_pos (QFl _ _ rfl),QHd rfl rfl];have hr:recoverD (c₀::cs)=none:=by simp only[recoverD,hu]
 dsimp only;rw[hr];unfold wpOpsSIn;refine wpSIn_of_wpIn rfl (wpIn_wide.2 ?_);simp only[Act.put,List.setIfInBounds_toArray,List.set_cons_succ,List.set_cons_zero];go_wp2;refine⟨rfl,c₀.mode,rfl,_,results_none rfl _ _ _,⟨_,rfl⟩,by rw[hu];rfl,rfl⟩
theorem QL5 (n lB aB eB p er:Nat)(w:World)(vl va ve:Value)(h1:Boxed w lB 187 vl)(h2:Boxed w aB 3 va)(h3:Boxed w eB 31 ve)(d1:lB≠aB)(d2:lB≠eB)(d3:aB≠eB):
  CallsDIn Fence.wide n prog 198 #[.pointer (some ⟨lB,0,none⟩),.pointer (some ⟨aB,0,none⟩),.pointer (some ⟨eB,0,none⟩)] (.panicking [{v:=QCk p er,recovered:=false}]) w fun e u w'=>(∃v,e= .returned v)∧settle u= .returning∧Boxed w' lB 187 (.slice none 0 0)∧Boxed w' aB 3 (.int .i64 p)∧Boxed w' eB 31 (.int .i64 er)∧Kept3 w w' lB aB eB:=by
 refine callsDIn_of_wpSIn func198 rfl trivial fun c₀ cs hu=>?_
 simp only[ntmps198,List.size_toArray,List.length_cons,List.length_nil,Nat.reduceAdd,Nat.reduceSub,Array.replicate_succ,Array.replicate_zero,List.push_toArray,List.append_toArray,List.nil_append,List.cons_append];refine wpSIn_seq (wpSIn_region ?_);simp only[List.size_toArray,List.length_cons,List.length_nil,Nat.zero_add];show wpOpsSIn _ _ _ _ _ [0] _ _ _;unfold wpOpsSIn;simp only[List.getElem?_toArray,List.getElem?_cons_zero];refine⟨fun _ _=>trivial,?_⟩;rw[if_pos (QFl _ _ rfl),QHd rfl rfl];have hr:recoverD (c₀::cs)=some (QCk p er,{c₀ with mode:= .panicking [{v:=QCk p er,recovered:=true}]}::cs):=by simp only[recoverD,hu]
 dsimp only;rw[hr];unfold wpOpsSIn;refine wpSIn_of_wpIn rfl (wpIn_wide.2 ?_);simp only[Act.put,List.setIfInBounds_toArray,List.set_cons_succ,List.set_cons_zero,QCk];have c1:=h1.cell;have c2:=h2.cell;have c3:=h3.cell;have f1:=h1.frozen;have f2:=h2.frozen;have f3:=h3.frozen;have l1:=h1.lt;have l2:=h2.lt;have l3:=h3.lt;have B1:=hd0 h1;have B2:=hd0 h2;have B3:=hd0 h3;clear h1 h2 h3;have hta:=QI1 (Value.agg #[Value.int IntKind.i64 ↑p,Value.int IntKind.i64 ↑er]) w
 go_wp2_with fail
 have n1:lB≠w.heap.size:=by omega
 have n2:aB≠w.heap.size:=by omega
 have n3:eB≠w.heap.size:=by omega
 go_region
 have b1:=B1.out.set (.slice none 0 0);have b2:Boxed (w.setCell ⟨lB,0,none⟩ (.slice none 0 0)) aB 3 va:=(Below.heap_setCell _ _ _ _ (Ne.symm d1)).trans B2.out;have b2':=b2.set (.int .i64 p);have b3:Boxed ((w.setCell ⟨lB,0,none⟩ (.slice none 0 0)).setCell ⟨aB,0,none⟩ (.int .i64 p)) eB 31 ve:=(Below.heap_setCell _ _ _ _ (Ne.symm d3)).trans ((Below.heap_setCell _ _ _ _ (Ne.symm d2)).trans B3.out);have b3':=b3.set (.int .i64 er);have b1':Boxed (((w.setCell ⟨lB,0,none⟩ (.slice none 0 0)).setCell ⟨aB,0,none⟩ (.int .i64 p)).setCell ⟨eB,0,none⟩ (.int .i64 er)) lB 187 (.slice none 0 0):=(Below.heap_setCell _ _ _ _ d2).trans ((Below.heap_setCell _ _ _ _ d1).trans b1);have b2'':Boxed (((w.setCell ⟨lB,0,none⟩ (.slice none 0 0)).setCell ⟨aB,0,none⟩ (.int .i64 p)).setCell ⟨eB,0,none⟩ (.int .i64 er)) aB 3 (.int .i64 p):=(Below.heap_setCell _ _ _ _ d3).trans b2';refine⟨rfl,.panicking [{v:=QCk p er,recovered:=true}],rfl,_,results_none rfl _ _ _,⟨_,rfl⟩,rfl,b1'.alloc _,b2''.alloc _,b3'.alloc _,?_⟩;refine⟨?_,rfl,rfl,rfl,fun j hj h1 h2 h3=>?_⟩
 ·
  show _≤(((((w.setCell ⟨lB,0,none⟩ (.slice none 0 0)).setCell ⟨aB,0,none⟩ (.int .i64 p)).setCell ⟨eB,0,none⟩ (.int .i64 er)).alloc _).heap.size);rw[World.size_alloc,QAX,QAX,QAX];omega
 ·
  show(((((w.setCell ⟨lB,0,none⟩ (.slice none 0 0)).setCell ⟨aB,0,none⟩ (.int .i64 p)).setCell ⟨eB,0,none⟩ (.int .i64 er)).alloc _).heap[j]?)=_;rw[Below.heap_alloc _ _ _ (by rw[QAX,QAX,QAX];exact hj),Below.heap_setCell _ _ _ _ h3,Below.heap_setCell _ _ _ _ h2,Below.heap_setCell _ _ _ _ h1]
attribute [local go_sem] Oper.semAt_some
theorem QDZ {w:World}{b b':Nat}{e:TypeId}{size:Nat}{v:Value}{n:Nat}{xs:List Value}(h:w.ownsRow b e size v n xs)(hb:b'≤b):w.ownsRow b' e size v n xs:=by
 refine⟨h.1,h.2.imp id ?_⟩;rintro⟨g,cap,cur,h1,h2,h3⟩;exact⟨g,cap,cur,h1,by omega,h3⟩
theorem QIn(cb:Nat)(w:World):
  Calls prog 200 #[.pointer (some ⟨cb,0,none⟩)] w fun e w'=>e= .returned (.func (.func 247) #[] #[.pointer (some ⟨w.heap.size,0,none⟩)])∧w'=w.alloc (.cells #[.pointer (some ⟨cb,0,none⟩)] 238):=by
 go_enter func200,ntmps200;go_wp2;go_ret;exact⟨rfl,rfl⟩
def QM5(s:ByteArray)(w:World)(e:Ending)(w':World):Prop:=Below w.heap.size w w'∧
 if 20000<s.size then e= .returned (.tuple #[.slice none 0 0,.int .i64 0,.int .i64 2]) else
 match (QAV s.data.toList).2 with
 |some (p,er)=>e= .returned (.tuple #[.slice none 0 0,.int .i64 p,.int .i64 er])
 |none=>∃v,e= .returned (.tuple #[v,.int .i64 0,.int .i64 0])∧w'.ownsRow w.heap.size 191 3 v (QAV s.data.toList).1.length (QDb (QAV s.data.toList).1)
theorem QCo(lB aB eB:Nat) (u0 u1 u5 u6 u7 u8 u9 u10 u11 u12 u13 u14 u15 u16 u17 u18 u19 u20 u21 vl va ve:Value)(w:World)(h1:Boxed w lB 187 vl)(h2:Boxed w aB 3 va)(h3:Boxed w eB 31 ve):
  (results Tryz.f136 #[u0,u1,.pointer (some ⟨lB,0,none⟩),.pointer (some ⟨aB,0,none⟩),.pointer (some ⟨eB,0,none⟩),u5,u6,u7,u8,u9,u10,u11,u12,u13,u14,u15,u16,u17,u18,u19,u20,u21]).run prog w= .ok (.tuple #[vl,va,ve]) w:=by
 have c1:=h1.cell;have c2:=h2.cell;have c3:=h3.cell;clear h1 h2 h3;simp[results,results136,go_sem,c1,c2,c3]
theorem QCt {W:World}{D B:Nat}{t:TypeId}{v:Value}{o:Obj}(hD:W.heap[D]?=some (.deferred (some [])))(h:Boxed W B t v):Boxed (W.putObj D o) B t v:=
 (World.putObj_heap_other (by rintro rfl;rw[show W.heap[B]?=_ from h]at hD;cases hD)).trans h
theorem QLe(lB aB eB D:Nat) (u0 u1 u5 u6 u7 u8 u9 u10 u11 u12 u13 u14 u15 u16 u17 u18 u19 u20 u21 vl va ve:Value)(w:World)(R:Ending→World→Prop)(hD:w.heap[D]?=some (.deferred (some [])))(h1:Boxed w lB 187 vl)(h2:Boxed w aB 3 va)(h3:Boxed w eB 31 ve)
  (hR:R (.returned (.tuple #[vl,va,ve])) (w.putObj D (.deferred none))):
  LeavesInM Fence.wide 3 prog Tryz.f136 #[u0,u1,.pointer (some ⟨lB,0,none⟩),.pointer (some ⟨aB,0,none⟩),.pointer (some ⟨eB,0,none⟩),u5,u6,u7,u8,u9,u10,u11,u12,u13,u14,u15,u16,u17,u18,u19,u20,u21] R [{target:= .collected D,args:=#[]},{target:= .fn (.func 198) #[.pointer (some ⟨lB,0,none⟩),.pointer (some ⟨aB,0,none⟩),.pointer (some ⟨eB,0,none⟩)],args:=#[]}] .returning w:=by
 refine⟨by simp,.inl ⟨_,_,rfl,run_takeDeferred hD,?_⟩⟩;refine⟨by simp,.inr ⟨fun _=>by omega,.func 198,#[.pointer (some ⟨lB,0,none⟩),.pointer (some ⟨aB,0,none⟩),.pointer (some ⟨eB,0,none⟩)],198,#[.pointer (some ⟨lB,0,none⟩),.pointer (some ⟨aB,0,none⟩),.pointer (some ⟨eB,0,none⟩)],rfl,(by simp[invoke,go_sem,enters_of func198 (by kernel_rfl) rfl]),fun _ _=>trivial,?_⟩⟩;refine(QNI 2 lB aB eB _).mono ?_;rintro e u w' ⟨⟨v,rfl⟩,hs,rfl⟩;show LeavesInM _ _ _ _ _ _ [] (settle u) _;rw[hs];exact⟨_,QCo lB aB eB u0 u1 u5 u6 u7 u8 u9 u10 u11 u12 u13 u14 u15 u16 u17 u18 u19 u20 u21 vl va ve _ (QCt hD h1) (QCt hD h2) (QCt hD h3),hR⟩
theorem QKv (lB aB eB D p er:Nat) (u0 u1 u5 u6 u7 u8 u9 u10 u11 u12 u13 u14 u15 u16 u17 u18 u19 u20 u21 vl va ve:Value)(w:World)(R:Ending→World→Prop)(hD:w.heap[D]?=some (.deferred (some [])))(h1:Boxed w lB 187 vl)(h2:Boxed w aB 3 va)(h3:Boxed w eB 31 ve)
  (d1:lB≠aB) (d2:lB≠eB) (d3:aB≠eB)
  (hR:∀w',Kept3 (w.putObj D (.deferred none)) w' lB aB eB→R (.returned (.tuple #[.slice none 0 0,.int .i64 p,.int .i64 er])) w'):
  LeavesInM Fence.wide 3 prog Tryz.f136 #[u0,u1,.pointer (some ⟨lB,0,none⟩),.pointer (some ⟨aB,0,none⟩),.pointer (some ⟨eB,0,none⟩),u5,u6,u7,u8,u9,u10,u11,u12,u13,u14,u15,u16,u17,u18,u19,u20,u21] R [{target:= .collected D,args:=#[]},{target:= .fn (.func 198) #[.pointer (some ⟨lB,0,none⟩),.pointer (some ⟨aB,0,none⟩),.pointer (some ⟨eB,0,none⟩)],args:=#[]}] (.panicking [{v:=QCk p er,recovered:=false}]) w:=by
 refine⟨by simp,.inl ⟨_,_,rfl,run_takeDeferred hD,?_⟩⟩;refine⟨by simp,.inr ⟨fun _=>by omega,.func 198,#[.pointer (some ⟨lB,0,none⟩),.pointer (some ⟨aB,0,none⟩),.pointer (some ⟨eB,0,none⟩)],198,#[.pointer (some ⟨lB,0,none⟩),.pointer (some ⟨aB,0,none⟩),.pointer (some ⟨eB,0,none⟩)],rfl,(by simp[invoke,go_sem,enters_of func198 (by kernel_rfl) rfl]),fun _ _=>trivial,?_⟩⟩;refine(QL5 2 lB aB eB p er _ vl va ve (QCt hD h1) (QCt hD h2) (QCt hD h3) d1 d2 d3).mono ?_;rintro e u w' ⟨⟨v,rfl⟩,hs,k1,k2,k3,k4⟩;show LeavesInM _ _ _ _ _ _ [] (settle u) _;rw[hs];exact⟨_,QCo lB aB eB u0 u1 u5 u6 u7 u8 u9 u10 u11 u12 u13 u14 u15 u16 u17 u18 u19 u20 u21 _ _ _ _ k1 k2 k3,hR w' k4⟩
theorem QHn {W:World}{lB aB eB base n:Nat}{vl va ve ul ua ue v:Value}{xs:List Value}(h1:Boxed W lB 187 vl)(h2:Boxed W aB 3 va)(h3:Boxed W eB 31 ve)(d1:lB≠aB)(d2:lB≠eB)(d3:aB≠eB)
  (hr:W.ownsRow base 191 3 v n xs) (S:World) (hS:S=((W.setCell ⟨lB,0,none⟩ ul).setCell ⟨aB,0,none⟩ ua).setCell ⟨eB,0,none⟩ ue):
  Boxed S lB 187 ul∧Boxed S aB 3 ua∧Boxed S eB 31 ue∧S.ownsRow base 191 3 v n xs∧S.heap.size=W.heap.size∧S.os=W.os∧S.tape=W.tape∧S.output=W.output∧∀j,j≠lB→j≠aB→j≠eB→S.heap[j]?=W.heap[j]?:=by
 subst hS;have b1:=h1.set ul;have b2:Boxed (W.setCell ⟨lB,0,none⟩ ul) aB 3 va:=(Below.heap_setCell _ _ _ _ (Ne.symm d1)).trans h2;have b3:Boxed ((W.setCell ⟨lB,0,none⟩ ul).setCell ⟨aB,0,none⟩ ua) eB 31 ve:=(Below.heap_setCell _ _ _ _ (Ne.symm d3)).trans ((Below.heap_setCell _ _ _ _ (Ne.symm d2)).trans h3);have r1:=hr.kept (grownBy_setCell' W lB ul) (.inr (h1.not_row (by decide) hr).symm);have r2:=r1.kept (grownBy_setCell' _ aB ua) (.inr (b2.not_row (by decide) r1).symm);have r3:=r2.kept (grownBy_setCell' _ eB ue) (.inr (b3.not_row (by decide) r2).symm)
 exact⟨(Below.heap_setCell _ _ _ _ d2).trans ((Below.heap_setCell _ _ _ _ d1).trans b1),(Below.heap_setCell _ _ _ _ d3).trans (b2.set ua),b3.set ue,r3,by rw[QAX,QAX,QAX],rfl,rfl,rfl,
  fun j a b c=>by rw[Below.heap_setCell _ _ _ _ c,Below.heap_setCell _ _ _ _ b,Below.heap_setCell _ _ _ _ a]⟩
theorem QMR(s:ByteArray)(w:World)(hE:Env w)(hs:s.size≤maxLen)(h9:9≤w.heap.size):Calls prog 136 #[.string s] w (QM5 s w):=by
 unfold maxLen at hs;refine(callsIn_wide (n:=3)).1 (callsIn_of_wp_marks func136 rfl trivial ?_ rfl);simp only[ntmps136,List.size_toArray,List.length_cons,List.length_nil,Nat.reduceAdd,Nat.reduceSub,Array.replicate_succ,Array.replicate_zero,List.push_toArray,List.append_toArray,List.nil_append,List.cons_append];refine wpIn_wide.2 ?_
 by_cases hbig:20000<s.size
 ·
  have hd:decide ((20000:Int)<s.size)=true:=by simp;omega
  go_wp2_with fail
  refine⟨_,QCo _ _ _ _ _ _ _ _ _ _ _ _ _ _ _ _ _ _ _ _ _ _ (.slice none 0 0) (.int .i64 0) (.int .i64 2) _ (((Boxed.new w 187 (.slice none 0 0)).alloc _).alloc _) ?_ ?_,?_⟩
  ·
   have:=Boxed.new (w.alloc (.cells #[.slice none 0 0] 187)) 3 (.int .i64 0);rw[World.size_alloc]at this;exact this.alloc _
  ·
   have:=Boxed.new ((w.alloc (.cells #[.slice none 0 0] 187)).alloc (.cells #[.int .i64 0] 3)) 31 (.int .i64 2);rw[World.size_alloc,World.size_alloc]at this;exact this
  ·
   refine⟨(((Below.refl _ _).alloc (Nat.le_refl _) _).alloc (by simp) _).alloc (by simp;omega) _,?_⟩;rw[if_pos hbig]
 ·
  have hd:decide ((20000:Int)<s.size)=false:=by simp;omega
  go_wp2_with fail
  refine(QJf _).mono ?_;rintro e w1 ⟨rfl,hb1,ht1⟩
  go_wp2_with fail
  refine(QIn _ _).mono ?_;rintro e w2 ⟨rfl,rfl⟩
  go_wp2_with fail
  have B1:Boxed (((w.alloc (.cells #[.slice none 0 0] 187)).alloc (.cells #[.int .i64 0] 3)).alloc (.cells #[.int .i64 0] 31)) w.heap.size 187 (.slice none 0 0):=((Boxed.new w 187 (.slice none 0 0)).alloc _).alloc _
  have B2:Boxed (((w.alloc (.cells #[.slice none 0 0] 187)).alloc (.cells #[.int .i64 0] 3)).alloc (.cells #[.int .i64 0] 31)) (w.heap.size+1) 3 (.int .i64 0):=by
   have:=Boxed.new (w.alloc (.cells #[.slice none 0 0] 187)) 3 (.int .i64 0);rw[World.size_alloc]at this;exact this.alloc _
  have B3:Boxed (((w.alloc (.cells #[.slice none 0 0] 187)).alloc (.cells #[.int .i64 0] 3)).alloc (.cells #[.int .i64 0] 31)) (w.heap.size+1+1) 31 (.int .i64 0):=by
   have:=Boxed.new ((w.alloc (.cells #[.slice none 0 0] 187)).alloc (.cells #[.int .i64 0] 3)) 31 (.int .i64 0);rw[World.size_alloc,World.size_alloc]at this;exact this
  have hw0:Below w.heap.size w (((w.alloc (.cells #[.slice none 0 0] 187)).alloc (.cells #[.int .i64 0] 3)).alloc (.cells #[.int .i64 0] 31)):=(((Below.refl _ _).alloc (Nat.le_refl _) _).alloc (by simp) _).alloc (by simp;omega) _;have hz0:(((w.alloc (.cells #[.slice none 0 0] 187)).alloc (.cells #[.int .i64 0] 3)).alloc (.cells #[.int .i64 0] 31)).heap.size=w.heap.size+3:=by simp
  generalize (((w.alloc (.cells #[.slice none 0 0] 187)).alloc (.cells #[.int .i64 0] 3)).alloc (.cells #[.int .i64 0] 31))=w0 at*;rw[show w.heap.size+1+1+1=w0.heap.size by omega];obtain⟨wA,hwA⟩:∃wA,wA=((w1.alloc (.cells #[.string s,.int .i64 0,.pointer (some ⟨w0.heap.size,0,none⟩),.int .i64 0,.int .i64 0,.int .i64 0] 244)).alloc (.cells #[.pointer (some ⟨w1.heap.size,0,none⟩)] 238)):=⟨_,rfl⟩;rw[←hwA];have hA:Below w1.heap.size w1 wA:=by rw[hwA];exact((Below.refl _ _).alloc (Nat.le_refl _) _).alloc (by simp) _
  have hzA:wA.heap.size=w1.heap.size+2:=by rw[hwA];simp
  have hz1:=hb1.size
  have hC:CutAt wA w1.heap.size w0.heap.size s 0 0 0 0:=by
   refine⟨by rw[hwA];simp[go_sem],by rw[hwA];simp[go_sem],by rw[hwA];simp[go_sem],by rw[hwA];simp[go_sem],by rw[hwA];simp[go_sem],by rw[hwA];simp[go_sem],fun o=>by rw[hwA];simp[go_sem],ht1.below hA,by omega,by omega,by omega⟩
  have hX:wA.cell? ⟨w1.heap.size+1,0,none⟩=some (.pointer (some ⟨w1.heap.size,0,none⟩)):=by
   have b:Boxed wA (w1.heap.size+1) 238 (.pointer (some ⟨w1.heap.size,0,none⟩)):=by
    rw[hwA];have:=Boxed.new (w1.alloc (.cells #[.string s,.int .i64 0,.pointer (some ⟨w0.heap.size,0,none⟩),.int .i64 0,.int .i64 0,.int .i64 0] 244)) 238 (.pointer (some ⟨w1.heap.size,0,none⟩));rw[World.size_alloc]at this;exact this
   exact b.cell
  have hz1':w0.heap.size<w1.heap.size:=World.block_lt_of_cell? _ _ (ht1.at_ 0 0 (by omega) (by omega));have hb0A:Below w0.heap.size w0 wA:=QAF hb1 hA;have hEA:Env wA:=(hE.below hw0).below hb0A;have C1:Boxed wA w.heap.size 187 (.slice none 0 0):=(hb0A.block _ B1.lt).trans B1;have C2:Boxed wA (w.heap.size+1) 3 (.int .i64 0):=(hb0A.block _ B2.lt).trans B2;have C3:Boxed wA (w.heap.size+1+1) 31 (.int .i64 0):=(hb0A.block _ B3.lt).trans B3;have hbA:Below w.heap.size w wA:=QAF hw0 hb0A;clear hwA B1 B2 B3 hb1 ht1 hb0A hw0 hE hA;refine(wpIn_wide (n:=3)).1 ?_;refine wpIn_rangeFunc fun fn _=>?_
  obtain⟨tm,htm⟩:∃tm:Array Value,tm=#[.string s,undef,.pointer (some ⟨w.heap.size,0,none⟩),.pointer (some ⟨w.heap.size+1,0,none⟩),.pointer (some ⟨w.heap.size+1+1,0,none⟩),undef,.string s,.int .i64 s.size,.bool false,
   .func (.func 198) #[] #[.pointer (some ⟨w.heap.size,0,none⟩),.pointer (some ⟨w.heap.size+1,0,none⟩),.pointer (some ⟨w.heap.size+1+1,0,none⟩)],.string s,.agg #[.string s,.int .i64 0],.pointer (some ⟨w0.heap.size,0,none⟩),
   .agg #[.string s,.int .i64 0,.pointer (some ⟨w0.heap.size,0,none⟩),.int .i64 0,.int .i64 0,.int .i64 0],.pointer (some ⟨w1.heap.size,0,none⟩),.func (.func 247) #[] #[.pointer (some ⟨w1.heap.size+1,0,none⟩)],undef,undef,undef,undef,undef,undef]:=⟨_,rfl⟩
  obtain⟨W1,hW1⟩:∃W1,W1=(wA.alloc (.deferred (some []))).alloc (.loop (QD1 fn wA.heap.size tm)):=⟨_,rfl⟩
  refine⟨wA.heap.size+1, [{target:= .collected wA.heap.size,args:=#[]}],W1,{target:= .fn (.func 247) #[.pointer (some ⟨w1.heap.size+1,0,none⟩)],args:=#[.func (.yield (wA.heap.size+1)) #[] #[]]},W1,247,
   #[.func (.yield (wA.heap.size+1)) #[] #[],.pointer (some ⟨w1.heap.size+1,0,none⟩)],W1,?_,?_,fun _ _=>trivial,?_,fun _=>by omega,callsIn_wide.2 ?_⟩
  ·
   rw[hW1,htm];exact run_enterLoop_outer _ _ _ _ _
  ·
   simp[resolve,go_sem]
  ·
   simp[invoke,go_sem,enters_of func247 (by kernel_rfl) rfl]
  have hb1:Below wA.heap.size wA W1:=by rw[hW1];exact((Below.refl _ _).alloc (Nat.le_refl _) _).alloc (by simp) _
  have hL1:W1.heap[wA.heap.size+1]?=some (.loop (QD1 fn wA.heap.size tm)):=by
   rw[hW1];have:=World.alloc_heap_new (wA.alloc (.deferred (some []))) (.loop (QD1 fn wA.heap.size tm));rwa[World.size_alloc]at this
  have hD1:W1.heap[wA.heap.size]?=some (.deferred (some [])):=by
   rw[hW1];exact(Below.heap_alloc _ _ _ (by simp)).trans (World.alloc_heap_new wA _)
  have hzW:W1.heap.size=wA.heap.size+2:=by rw[hW1];simp
  clear hW1
  refine(QK2 3 (wA.heap.size+1) w.heap.size fn wA.heap.size w1.heap.size w0.heap.size (w1.heap.size+1) (QD1 fn wA.heap.size tm) s W1 (by omega) (fun base v k xs x W h1 h2 h3 h4 h5=>?_) (hEA.below hb1) (hC.below hb1) (QAA hb1 hX) ((hb1.block _ C1.lt).trans C1) hL1
   (by omega) (by omega) (by omega) (by omega) (by omega) (by omega)).mono ?_
  ·
   subst htm;exact QOn 2 base _ _ fn _ _ _ _ _ _ _ _ _ _ _ _ _ _ _ _ _ _ _ _ _ _ v k xs x W h1 h2 h3 h4 h5
  ·
   rintro e W2 ⟨base,hbase,hK,hend⟩;have C2':Boxed W2 (w.heap.size+1) 3 (.int .i64 0):=(hK.block _ (by omega) (by omega) (by omega) (by omega)).trans ((hb1.block _ C2.lt).trans C2);have C3':Boxed W2 (w.heap.size+1+1) 31 (.int .i64 0):=(hK.block _ (by omega) (by omega) (by omega) (by omega)).trans ((hb1.block _ C3.lt).trans C3);have hD2:W2.heap[wA.heap.size]?=some (.deferred (some [])):=(hK.block _ (by omega) (by omega) (by omega) (by omega)).trans hD1;have hbe:Below w.heap.size w W2:=⟨hK.os.trans (hb1.os.trans hbA.os),hK.tape.trans (hb1.tape.trans hbA.tape),hK.output.trans (hb1.output.trans hbA.output),by have:=hK.size;omega,fun j hj=>(hK.block j (by omega) (by omega) (by omega) (by omega)).trans ((hb1.block j (by omega)).trans (hbA.block j hj))⟩
   cases hpc:(QAV s.data.toList).2 with
   |some q=>
    obtain⟨p,er⟩:=q;rw[hpc]at hend;simp only at hend;obtain⟨rfl,vl,hvl⟩:=hend;show LeavesInM _ _ _ _ _ _ _ _ _;refine QKv _ _ _ wA.heap.size p er _ _ _ _ _ _ _ _ _ _ _ _ _ _ _ _ _ _ _ vl _ _ W2 _ hD2 hvl C2' C3' (by omega) (by omega) (by omega) fun w' hk=>?_
    refine⟨⟨hk.os.trans hbe.os,hk.tape.trans hbe.tape,hk.output.trans hbe.output,by have:=hk.size;have:=hbe.size;simp at*;omega,fun j hj=>(hk.block j (by simp;have:=hbe.size;omega) (by omega) (by omega) (by omega)).trans ((World.putObj_heap_other (by omega)).trans (hbe.block j hj))⟩,?_⟩;rw[if_neg hbig,hpc]
   |none=>
    rw[hpc]at hend;obtain⟨⟨v,rfl⟩,hL2,vl,hvl,hrow⟩:=hend;refine⟨none,_,run_endLoop hL2 (by simp[QD1]),?_⟩
    have bp:∀{B t v},Boxed W2 B t v→Boxed (W2.putObj (wA.heap.size+1) (.loop {(QD1 fn wA.heap.size tm)with state:= .exhausted})) B t v:=fun {B t v} h=>
     (World.putObj_heap_other (by rintro rfl;rw[show W2.heap[_]?=_ from h]at hL2;cases hL2)).trans h
    have D1:=bp hvl;have D2:=bp C2';have D3:=bp C3'
    have hr1:(W2.putObj (wA.heap.size+1) (.loop {(QD1 fn wA.heap.size tm)with state:= .exhausted})).ownsRow base 191 3 vl (QAV s.data.toList).1.length (QDb (QAV s.data.toList).1):=by
     refine hrow.kept (grownBy_putObj' _ _ _) ?_;rcases hrow.2 with ⟨rfl,_⟩|⟨g,cap,cur,rfl,_,hgb,_⟩
     ·
      exact .inl rfl
     ·
      refine .inr fun e=>?_
      simp only[Value.ownBlock,Option.some.injEq]at e;subst e;rw[hL2]at hgb;cases hgb
    have hD3:(W2.putObj (wA.heap.size+1) (.loop {(QD1 fn wA.heap.size tm)with state:= .exhausted})).heap[wA.heap.size]?=some (.deferred (some [])):=(World.putObj_heap_other (by omega)).trans hD2;have hbe3:Below w.heap.size w (W2.putObj (wA.heap.size+1) (.loop {(QD1 fn wA.heap.size tm)with state:= .exhausted})):=⟨hbe.os,hbe.tape,hbe.output,by simp;exact hbe.size,fun j hj=>(World.putObj_heap_other (by omega)).trans (hbe.block j hj)⟩;dsimp only;generalize (W2.putObj (wA.heap.size+1) (.loop {(QD1 fn wA.heap.size tm)with state:= .exhausted}))=W3 at*
    have hvs:(∃g cap,vl= .slice (some ⟨g,0,none⟩) (QAV s.data.toList).1.length cap)∨vl= .slice none 0 0:=by
     rcases hr1.2 with ⟨h,_⟩|⟨g,cap,_,h,_⟩
     ·
      exact .inr h
     ·
      exact .inl ⟨g,cap,h⟩
    generalize hN:(QAV s.data.toList).1.length=N at*;have KN:=hd0 hN;have KP:=hd0 hpc;have K1:=hd0 D1;have K2:=hd0 D2;have K3:=hd0 D3;have c1:=D1.cell;have c2:=D2.cell;have c3:=D3.cell;have f1:=D1.frozen;have f2:=D2.frozen;have f3:=D3.frozen;have KR:=hd0 hr1;have KD:=hd0 hD3;have KB:=hd0 hbe3;clear hN hpc D1 D2 D3 hr1 hD3 hbe3 bp hrow hvl hL2 C2' C3' hD2 hbe hK hb1 hL1 hD1 C1 C2 C3 hEA hbA hC hX htm;rcases hvs with ⟨g,cap,rfl⟩|rfl
    ·
     skip
     go_wp2_with fail
     obtain⟨S,hS⟩:∃S,S=((W3.setCell ⟨w.heap.size,0,none⟩ (.slice (some ⟨g,0,none⟩) N cap)).setCell ⟨w.heap.size+1,0,none⟩ (.int .i64 0)).setCell ⟨w.heap.size+1+1,0,none⟩ (.int .i64 0):=⟨_,rfl⟩;obtain⟨g1,g2,g3,g4,g5,g6,g7,g8,g9⟩:=QHn K1.out K2.out K3.out (by omega) (by omega) (by omega) KR.out S hS;rw[←hS];show LeavesInM _ _ _ _ _ _ _ _ _;refine QLe _ _ _ wA.heap.size _ _ _ _ _ _ _ _ _ _ _ _ _ _ _ _ _ _ _ _ _ _ S _ ((g9 _ (by omega) (by omega) (by omega)).trans KD.out) g1 g2 g3 ?_;refine⟨⟨g6.trans KB.out.os,g7.trans KB.out.tape,g8.trans KB.out.output,by simp[g5];exact KB.out.size,fun j hj=>(World.putObj_heap_other (by omega)).trans ((g9 j (by omega) (by omega) (by omega)).trans (KB.out.block j hj))⟩,?_⟩;rw[if_neg hbig,KP.out];refine⟨_,rfl,?_⟩;rw[KN.out];refine QDZ (g4.kept (grownBy_putObj' _ _ _) ?_) (by omega);right;intro e;simp only[Value.ownBlock,Option.some.injEq]at e;subst e;rcases g4.2 with ⟨h,_⟩|⟨g',cap',cur,h,_,hgb,_⟩
     ·
      cases h
     ·
      injection h with h _ _
      injection h with h
      injection h with h
      subst h;have:=(g9 _ (by omega) (by omega) (by omega)).trans KD.out;rw[this]at hgb;cases hgb
    ·
     skip
     go_wp2_with fail
     obtain⟨S,hS⟩:∃S,S=((W3.setCell ⟨w.heap.size,0,none⟩ (.slice none 0 0)).setCell ⟨w.heap.size+1,0,none⟩ (.int .i64 0)).setCell ⟨w.heap.size+1+1,0,none⟩ (.int .i64 0):=⟨_,rfl⟩;obtain⟨g1,g2,g3,g4,g5,g6,g7,g8,g9⟩:=QHn K1.out K2.out K3.out (by omega) (by omega) (by omega) KR.out S hS;rw[←hS];show LeavesInM _ _ _ _ _ _ _ _ _;refine QLe _ _ _ wA.heap.size _ _ _ _ _ _ _ _ _ _ _ _ _ _ _ _ _ _ _ _ _ _ S _ ((g9 _ (by omega) (by omega) (by omega)).trans KD.out) g1 g2 g3 ?_;refine⟨⟨g6.trans KB.out.os,g7.trans KB.out.tape,g8.trans KB.out.output,by simp[g5];exact KB.out.size,fun j hj=>(World.putObj_heap_other (by omega)).trans ((g9 j (by omega) (by omega) (by omega)).trans (KB.out.block j hj))⟩,?_⟩;rw[if_neg hbig,KP.out];refine⟨_,rfl,?_⟩;rw[KN.out];refine QDZ (g4.kept (grownBy_putObj' _ _ _) ?_) (by omega);exact .inl rfl
structure Tk where
 kind:Nat
 num:Int
 text:List UInt8
 at_:Nat
def QC3(l:List UInt8)(p:Pc):Tk:=⟨p.kind,if p.kind=2 then(QBi ((l.drop p.at_).take p.len)).1 else 0,(l.drop p.at_).take p.len,p.at_⟩
def QBX(l:List UInt8)(ps:List Pc):List Tk:=(ps.filter fun p=>decide (p.kind≤6)).map (QC3 l)
def QH9(t:Tk):List Value:= [.int .i64 t.kind,.int .i64 t.num,.string ⟨⟨t.text⟩⟩,.int .i64 t.at_,.int .i64 0]
def QDC(l:List Tk):List Value:=l.flatMap QH9
theorem QMe(l:List Tk)(x:Tk):QDC (l++ [x])=QDC l++QH9 x:=by simp[QDC]
theorem QFg(l:List Tk):(QDC l).length=l.length*5:=by
 induction l with
 |nil=>rfl
 |cons x l ih=>simp only[QDC,List.flatMap_cons,List.length_append,List.length_cons]at*;rw[ih];simp[QH9];omega
theorem QOo {l:List Pc}{k:Nat}{x:Pc}(h:l[k]?=some x):(QDb l)[k*3]?=some (.int .i64 x.kind)∧(QDb l)[k*3+1]?=some (.int .i64 x.at_)∧(QDb l)[k*3+2]?=some (.int .i64 x.len):=by
 induction l generalizing k with
 |nil=>cases h
 |cons y l ih=>
  cases k with
  |zero=>injection h with h;subst h;exact⟨rfl,rfl,rfl⟩
  |succ k=>
   obtain⟨h1,h2,h3⟩:=ih (show l[k]?=some x from h)
   have e:∀j,(QDb (y::l))[(k+1)*3+j]?=(QDb l)[k*3+j]?:=fun j=>by
    have:(k+1)*3+j=(QH8 y).length+(k*3+j):=by simp[QH8];omega
    rw[this];show(QH8 y++QDb l)[_]?=_;rw[List.getElem?_append_right (by omega),Nat.add_sub_cancel_left]
   exact⟨(e 0).trans h1,(e 1).trans h2,(e 2).trans h3⟩
theorem QIr(l:List UInt8)(ps:List Pc)(x:Pc)(h:x.kind≤6):QBX l (ps++ [x])=QBX l ps++ [QC3 l x]:=by
 simp[QBX,List.filter_append,h]
theorem QHA(l:List UInt8)(ps:List Pc)(x:Pc)(h:¬x.kind≤6):QBX l (ps++ [x])=QBX l ps:=by
 simp[QBX,List.filter_append,h]
theorem QQJ(l:List UInt8)(ps:List Pc):(QBX l ps).length≤ps.length:=by
 simp only[QBX,List.length_map];exact List.length_filter_le _ _
theorem QNW(l:List UInt8):∀(f:Nat) (c:Cu),QGN l c→∀x∈(QGE l f c).1,x.at_+x.len≤l.length∧x.kind≤8
 |0,c,_=>by intro x hx;cases hx
 |f+1,c,hg=>by
  intro x hx;simp only[QGE]at hx
  split at hx
  ·
   rename_i hp
   split at hx
   ·
    cases hx
   ·
    rename_i y c' hs;obtain⟨g1,g2,g3,g4,g5⟩:=QFP hg hp hs;rcases List.mem_cons.1 hx with rfl|hx
    ·
     exact⟨by have:=g1.1;omega,g5⟩
    ·
     exact QNW l f c' g1 x hx
  ·
   cases hx
theorem QLV(l:List UInt8):∀(f:Nat) (c:Cu),QGN l c→(QGE l f c).1.length+c.p≤l.length
 |0,c,hg=>by simp only[QGE,List.length_nil];have:=hg.1;omega
 |f+1,c,hg=>by
  simp only[QGE]
  split
  ·
   rename_i hp
   split
   ·
    simp only[List.length_nil];omega
   ·
    rename_i y c' hs;obtain⟨g1,g2,g3,g4,g5⟩:=QFP hg hp hs;have:=QLV l f c' g1;simp only[List.length_cons];omega
  ·
   simp only[List.length_nil];have:=hg.1;omega
theorem QMQ(l:List UInt8):∀x∈(QAV l).1,x.at_+x.len≤l.length∧x.kind≤8:=QNW l _ _ ⟨Nat.zero_le _,Nat.zero_le _,Nat.le_refl _⟩
theorem QK3(l:List UInt8):(QAV l).1.length≤l.length:=by
 have:=QLV l (l.length+1) ⟨0,0,0,0,0⟩ ⟨Nat.zero_le _,Nat.zero_le _,Nat.le_refl _⟩;exact Nat.le_of_add_right_le this
def QQ4(s:ByteArray)(w:World)(e:Ending)(w':World):Prop:=Below w.heap.size w w'∧
 if 20000<s.size then e= .returned (.tuple #[.slice none 0 0,.int .i64 0,.int .i64 2]) else
 match (QAV s.data.toList).2 with
 |some (p,er)=>e= .returned (.tuple #[.slice none 0 0,.int .i64 p,.int .i64 er])
 |none=>∃v,e= .returned (.tuple #[v,.int .i64 0,.int .i64 0])∧w'.ownsRow w.heap.size 193 5 v (QBX s.data.toList (QAV s.data.toList).1).length (QDC (QBX s.data.toList (QAV s.data.toList).1))
theorem QTU:(prog.info? 193).map (fun i=>(i.zero,i.size,i.bytes))=some (some (.agg #[.int .i64 0,.int .i64 0,.string ⟨#[]⟩,.int .i64 0,.int .i64 0]),5,48):=by kernel_rfl
theorem QPZ:∀(l:List UInt8) (i:Nat) (o:Int) (er:Nat),cL l i o= .inr er→er≠0
 | [],_,_,er,h=>by simp[cL]at h;omega
 | [_],_,_,er,h=>by simp[cL]at h;omega
 |a::b::r,i,o,er,h=>by
  rw[cL]at h
  split at h
  ·
   split at h
   ·
    injection h with h;omega
   ·
    exact QPZ r _ _ _ h
  ·
   split at h
   ·
    split at h
    ·
     cases h
    ·
     exact QPZ r _ _ _ h
   ·
    exact QPZ (b::r) _ _ _ h
theorem QKV {l:List UInt8}{er:Nat}(h:QBG l= .inr er):er≠0:=by
 unfold QBG at h
 split at h
 ·
  split at h <;> cases h
 ·
  exact QPZ _ _ _ _ h
theorem QNN {l:List UInt8}{p k n er:Nat}(h:QAM l p k n=some er):er≠0:=by
 unfold QAM at h
 repeat' split at h
 all_goals first|(cases h;done)|(injection h with h;omega)
theorem QPy {l:List UInt8}{p:Nat}{op:Bool}{er:Nat}(h:QDL l p op= .inr er):er≠0:=by
 unfold QDL at h
 split at h
 ·
  split at h
  ·
   cases h
  ·
   injection h with h;subst h;exact QKV (by assumption)
 ·
  split at h
  ·
   cases h
  ·
   split at h
   ·
    cases h
   ·
    injection h with h;subst h;exact QNN (by assumption)
theorem QNV(l:List UInt8):∀(f:Nat) (c:Cu) (p er:Nat),(QGE l f c).2=some (p,er)→er≠0
 |0,c,p,er,h=>by cases h
 |f+1,c,p,er,h=>by
  simp only[QGE]at h
  split at h
  ·
   split at h
   ·
    rename_i e hs;injection h with h
    injection h with _ h
    subst h;unfold QDO at hs
    split at hs
    ·
     injection hs with hs;subst hs;exact QPy (by assumption)
    ·
     split at hs
     ·
      split at hs
      ·
       injection hs with hs;omega
      ·
       cases hs
     ·
      cases hs
   ·
    exact QNV l f _ p er h
  ·
   cases h
theorem QHZ {l:List UInt8}{p er:Nat}(h:(QAV l).2=some (p,er)):er≠0:=QNV l _ _ p er h
end Go.Proofs.YtjnclkakbopnjaaGreatDoor
