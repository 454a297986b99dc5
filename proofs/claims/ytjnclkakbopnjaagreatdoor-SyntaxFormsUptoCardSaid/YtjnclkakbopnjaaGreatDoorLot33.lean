/- XChkR -/
import Derived.Deep.CutBlock
import Derived.Test.YtjnclkakbopnjaaGreatDoorLot17
set_option linter.unusedSimpArgs false
set_option linter.unusedVariables false
namespace Go.Proofs.YtjnclkakbopnjaaGreatDoor
open Go.Proofs.Tryz
open Go.RowKit
theorem ExR.len_le {W:World}{v:Value}{e:Ex}(h:ExR W v e):e.len≤1100000:=by
 cases h with
 |mk k num s t0 t1 t2 t3 t4 ty np pp cp pn pt nk pk ck ks n pa ca A f hs ht hp hk hn hA h=>exact hn
theorem ExR.more {W:World}{k num tk tl th:Int}{s ts:ByteArray}{tp pp pk pa:Option Addr}{tn tc np cp nk ck n ca:Nat}{ty:Ty}{pn:Nat→ByteArray}{pt:Nat→Ty}{ks:Nat→ByteArray}{f:Nat→Ex}
  (h:ExR W (.agg (Z9 k s num tk ts tl th tp tn tc pp np cp pk nk ck pa n ca)) (.mk k num s ty np pn pt nk ks n f)):s.size≤QDP∧TyR W (.agg #[.int .i64 tk,.string ts,.int .i64 tl,.int .i64 th,.slice tp tn tc]) ty∧ParR W np pp pn pt∧StrR W nk pk ks:=by
 cases h with
 |mk k num s t0 t1 t2 t3 t4 ty np pp cp pn pt nk pk ck ks n pa ca A f hs ht hp hk hn hA h=>exact⟨hs,ht,hp,hk.1⟩
theorem ExR.caps {W:World}{k num tk tl th:Int}{s ts:ByteArray}{tp pp pk pa:Option Addr}{tn tc np cp nk ck n ca:Nat}{e:Ex}(h:ExR W (.agg (Z9 k s num tk ts tl th tp tn tc pp np cp pk nk ck pa n ca)) e):nk≤ck∧n≤ca:=by
 generalize hv:Value.agg #[.int .i64 k,.string s,.int .i64 num,.int .i64 tk,.string ts,.int .i64 tl,.int .i64 th,.slice tp tn tc,.slice pp np cp,.slice pk nk ck,.slice pa n ca]=v at h
 cases h with
 |mk k num s t0 t1 t2 t3 t4 ty np pp cp pn pt nk pk ck ks n pa ca A f hs ht hp hk hn hA h=>
  injection hv with hv
  simp only[Array.mk.injEq,List.cons.injEq,Value.slice.injEq,and_true]at hv;obtain⟨-, -, -, -, -, -, -, -, -,⟨-,h1,h2⟩,⟨-,h3,h4⟩⟩:=hv;rw[h1,h2,h3,h4];exact hk.2
theorem QCr {n i:Nat}{q:Nat→Bool}{b:Bool}(hi:i<n)(h:(b&&(List.range i).all q)=false):(b&&(List.range n).all q)=false:=by
 cases b with
 |false=>rfl
 |true=>
  rw[Bool.true_and]at h ⊢;obtain⟨j,hj,hq⟩:=List.all_eq_false.1 h;exact List.all_eq_false.2 ⟨j,List.mem_range.2 (by have:=List.mem_range.1 hj;omega),hq⟩
theorem QPc {W:World}(hE:Env W)(h9:9≤W.heap.size){n:Nat}{p:Option Addr}{ks:Nat→ByteArray}(h:StrR W n p ks)(w:World)(hW:Below W.heap.size W w)(c:Nat):
  Calls prog 116 #[.slice p n c,.func (.func 160) #[] #[]] w fun e w'=>e= .returned (.bool ((List.range n).all fun i=>QLb (ks i)))∧Below w.heap.size w w':=by
 obtain⟨hn,A,hA,hK⟩:=h;have hn2:n≤1100000:=hn
 exact QJK (c:=c) hn2 hA (g:=160) (cap:=#[]) (q:=fun i=>QLb (ks i)) ⟨⟨_,func160,by kernel_rfl,by kernel_rfl⟩,fun i hi w2 hw2=>(by
  obtain⟨h0,h1⟩:=hK i hi;have:=QNu (ks i) w2 (hE.below hw2) h1 (by have:=hw2.size;omega);rw[←h0]at this
  exact this)⟩ w hW
theorem QAa {l:List Value}{n:Nat}(h:l.length=n+1):∃x t,l=x::t∧t.length=n:=by
 cases l with
 |nil=>simp at h
 |cons x t=>exact⟨x,t,rfl,by simpa using h⟩
theorem QAC {l:List Value}{n:Nat}(h:l.length=n+10):∃x0 x1 x2 x3 x4 x5 x6 x7 x8 x9 t,l=x0::x1::x2::x3::x4::x5::x6::x7::x8::x9::t∧t.length=n:=by
 obtain⟨x0,l0,e0,h0⟩:=QAa (n:=n+9) h;obtain⟨x1,l1,e1,h1⟩:=QAa (n:=n+8) h0;obtain⟨x2,l2,e2,h2⟩:=QAa (n:=n+7) h1;obtain⟨x3,l3,e3,h3⟩:=QAa (n:=n+6) h2;obtain⟨x4,l4,e4,h4⟩:=QAa (n:=n+5) h3;obtain⟨x5,l5,e5,h5⟩:=QAa (n:=n+4) h4;obtain⟨x6,l6,e6,h6⟩:=QAa (n:=n+3) h5;obtain⟨x7,l7,e7,h7⟩:=QAa (n:=n+2) h6;obtain⟨x8,l8,e8,h8⟩:=QAa (n:=n+1) h7;obtain⟨x9,l9,e9,h9⟩:=QAa (n:=n) h8;exact⟨x0,x1,x2,x3,x4,x5,x6,x7,x8,x9,l9,by rw[e0,e1,e2,e3,e4,e5,e6,e7,e8,e9],h9⟩
end Go.Proofs.YtjnclkakbopnjaaGreatDoor
