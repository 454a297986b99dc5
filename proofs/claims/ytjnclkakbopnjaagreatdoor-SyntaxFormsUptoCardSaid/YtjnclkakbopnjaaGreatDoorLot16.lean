/- XChkM, XChkN, XChkO, XChkP, XChkQ -/
import Derived.Test.YtjnclkakbopnjaaGreatDoorLot15
import Derived.Laws.CopyOwn
set_option linter.unusedSimpArgs false
set_option linter.unusedVariables false
set_option maxRecDepth 100000
set_option maxHeartbeats 8000000
namespace Go.Proofs.YtjnclkakbopnjaaGreatDoor
open Go.Proofs.Tryz
open Go.RowKit Go.Proofs.YtjnclkakbopnjaaGreatDoorW.PrintLast
theorem QAP {P:Program}{oi:Oper}{a:Act}{w:World}(t:TypeId)(x:Operand)(hop:oi.op= .load t x)(b o:Nat)(X:Array Value)(fs:Array Field)(hu:P.underlying t=some (.struct fs))
  (hx:a.eval x= .pointer (some ⟨b,o,none⟩)) (hi:(P.info? t).map (·.size)=some X.size) (hc:CellsAt w b o X):(execOp a.eval oi).run P w= .ok (.value (.agg X)) w:=by
 have:=QBT w t b o X fs hu hi hc;unfold execOp;simp only[hop,hx];simp only[Sem.run_bind,Sem.run_pure,Result.andThen,this]
theorem QBB {P:Program}{oi:Oper}{a:Act}{w:World}(t:TypeId)(p x:Operand)(hop:oi.op= .store t p x)(g:Nat)(Z X:Array Value)(tt:TypeId)
  (hp:a.eval p= .pointer (some ⟨g,0,none⟩)) (hx:a.eval x= .agg X) (hg:w.heap[g]?=some (.cells Z tt (0,0))) (hi:(P.info? t).map (·.size)=some X.size) (ho:Z.size=X.size) (h1:X.all (·.oneCell')=true):
  (execOp a.eval oi).run P w= .ok .skip (w.setRow g X):=by
 have:=run_storeVar_row (P:=P) w g tt t Z X hg hi ho h1;unfold execOp;simp only[hop,hp,hx,Instr.storeAt,Instr.sureAddr];simp only[Sem.run_bind,Sem.run_pure,Result.andThen,this]
theorem QFs {w:World}{g:Nat}{Z X:Array Value}{t:TypeId}{fr:Nat × Nat}(hg:w.heap[g]?=some (.cells Z t fr)):BoxAt (w.setRow g X) g X:=fun i v hi=>by
 rw[cell_setRow_same w g i Z X t fr hg];exact hi
theorem QBe {w:World}{b g:Nat}{X Y:Array Value}(h:BoxAt w b X)(hne:b≠g):BoxAt (w.setRow g Y) b X:=fun i v hi=>by
 rw[cell_setRow_other _ _ _ _ hne];exact h i v hi
theorem QLS {P:Program}{ops:Array Oper}{Q:Exit→Act→World→Prop}{oi:Oper}{N:Option Tmp}{a:Act}{w:World}{K:Act→World→Prop}{f:FuncId}{fn:Func}{xs:Array Operand}{ts:Array TypeId}(x:Operand)(hf:P.funcs[f]?=some fn)(hname:(fn.name== "runtime.NumGoroutine")=false)(hb:fn.body.isSome=true)(args:Array Value)
  (hw:Region.wanted oi (yielded ops a.tmps)=true) (hN:oi.dst=N) (hop:oi.op= .call {callee:= .value x,args:=xs,argTypes:=ts}) (hx:a.eval x= .func (.func f) #[] #[]) (hargs:xs.map a.eval=args)
  (h:Calls P f args w fun e w'=>∃v,e= .returned v∧K (a.put N v) w'):if Region.wanted oi (yielded ops a.tmps)=true then Oper.wp P oi a w K Q else K (a.put N undef) w:=by
 refine QRG f args hw hN ?_ h;have he:=enters_ hf hname hb args w;unfold execOp;simp[hop,hx,resolve,Deferred.ofValue,invoke,hargs,he]
theorem QCz {P:Program}{fn:Func}{p q r:Tmp}{ty:TypeId}(h:fn.results=#[.cell p ty,.cell q ty,.tmp r])(tmps:Array Value)(w:World)(b c:Nat)(X Y:Array Value)(v:Value)(fs:Array Field)
  (hp:tmps.getD p undef= .pointer (some ⟨b,0,none⟩)) (hq:tmps.getD q undef= .pointer (some ⟨c,0,none⟩)) (hr:tmps.getD r undef=v) (hu:P.underlying ty=some (.struct fs)) (hi:(P.info? ty).map (·.size)=some X.size) (hj:(P.info? ty).map (·.size)=some Y.size) (hX:BoxAt w b X) (hY:BoxAt w c Y):
  (results fn tmps).run P w= .ok (.tuple #[.agg X,.agg Y,v]) w:=by
 have h1:=QBT (P:=P) w ty b 0 X fs hu hi (fun j v hj=>by rw[Nat.zero_add];exact hX j v hj);have h2:=QBT (P:=P) w ty c 0 Y fs hu hj (fun j v hj=>by rw[Nat.zero_add];exact hY j v hj);simp only[Instr.loadAt,Instr.sureAddr,Sem.run_bind,Sem.run_pure,Result.andThen]at h1 h2;have hp':tmps[p]?.getD undef= .pointer (some ⟨b,0,none⟩):=by simpa using hp
 have hq':tmps[q]?.getD undef= .pointer (some ⟨c,0,none⟩):=by simpa using hq
 have hr':tmps[r]?.getD undef=v:=by simpa using hr
 simp[results,h,hp',hq',hr',asAddr,Sem.run_bind,h1,h2]
theorem QB0 {B:Nat}{w w':World}(h:Below B w w'):Below B w w'.drew:=h.trans ((Below.refl _ _).drew)
structure OrAt(w:World)(F:Array Value)(w0:World):Prop where
 below:Below w.heap.size w w0
 box:BoxAt w0 w.heap.size F
 ra:w0.heap[w.heap.size+1]?=some (.cells #[.int .i64 0,.string ⟨#[]⟩,.int .i64 0,.int .i64 0,.string ⟨#[]⟩,.int .i64 0,.int .i64 0,.slice none 0 0,.slice none 0 0,.slice none 0 0,.slice none 0 0] 29 (0,0))
 rb:w0.heap[w.heap.size+1+1]?=some (.cells #[.int .i64 0,.string ⟨#[]⟩,.int .i64 0,.int .i64 0,.string ⟨#[]⟩,.int .i64 0,.int .i64 0,.slice none 0 0,.slice none 0 0,.slice none 0 0,.slice none 0 0] 29 (0,0))
theorem QQw(w:World)(F:Array Value):OrAt w F (((w.alloc (.cells F 29)).alloc (.cells #[.int .i64 0,.string ⟨#[]⟩,.int .i64 0,.int .i64 0,.string ⟨#[]⟩,.int .i64 0,.int .i64 0,.slice none 0 0,.slice none 0 0,.slice none 0 0,.slice none 0 0] 29)).alloc (.cells #[.int .i64 0,.string ⟨#[]⟩,.int .i64 0,.int .i64 0,.string ⟨#[]⟩,.int .i64 0,.int .i64 0,.slice none 0 0,.slice none 0 0,.slice none 0 0,.slice none 0 0] 29)):=by
 have h1:=heap_alloc_last (w.alloc (.cells F 29)) (.cells #[.int .i64 0,.string ⟨#[]⟩,.int .i64 0,.int .i64 0,.string ⟨#[]⟩,.int .i64 0,.int .i64 0,.slice none 0 0,.slice none 0 0,.slice none 0 0,.slice none 0 0] 29);have h2:=heap_alloc_last ((w.alloc (.cells F 29)).alloc (.cells #[.int .i64 0,.string ⟨#[]⟩,.int .i64 0,.int .i64 0,.string ⟨#[]⟩,.int .i64 0,.int .i64 0,.slice none 0 0,.slice none 0 0,.slice none 0 0,.slice none 0 0] 29)) (.cells #[.int .i64 0,.string ⟨#[]⟩,.int .i64 0,.int .i64 0,.string ⟨#[]⟩,.int .i64 0,.int .i64 0,.slice none 0 0,.slice none 0 0,.slice none 0 0,.slice none 0 0] 29);simp only[World.size_alloc]at h1 h2;exact⟨(((Below.refl _ _).alloc (Nat.le_refl _) _).alloc (by simp) _).alloc (by simp;omega) _,((QAS w F 29).under ((Below.refl _ _).alloc (Nat.le_refl _) _)).under ((Below.refl _ _).alloc (Nat.le_refl _) _),(Below.heap_alloc _ _ _ (by simp)).trans h1,h2⟩
structure OrS(w:World)(F:Array Value)(wx:World):Prop where
 below:Below w.heap.size w wx
 box:BoxAt wx w.heap.size F
 ra:∃A,wx.heap[w.heap.size+1]?=some (.cells A 29 (0,0))∧A.size=11
 rb:∃A,wx.heap[w.heap.size+1+1]?=some (.cells A 29 (0,0))∧A.size=11
theorem OrAt.ors {w w0:World}{F:Array Value}(h:OrAt w F w0):OrS w F w0:=⟨h.below,h.box,⟨_,h.ra,rfl⟩,⟨_,h.rb,rfl⟩⟩
theorem OrS.under {w w1 w2:World}{F:Array Value}(h:OrS w F w1)(hb:Below w1.heap.size w1 w2):OrS w F w2:=by
 obtain⟨A,hA,sA⟩:=h.ra;obtain⟨B,hB,sB⟩:=h.rb;have l1:=(Array.getElem?_eq_some_iff.1 hA).1;have l2:=(Array.getElem?_eq_some_iff.1 hB).1;exact⟨h.below.trans (hb.mono h.below.size),fun j v hj=>QAA hb (h.box j v hj),⟨A,(hb.block _ l1).trans hA,sA⟩,⟨B,(hb.block _ l2).trans hB,sB⟩⟩
theorem OrS.putA {w w1:World}{F V:Array Value}(h:OrS w F w1)(hV:V.size=11):OrS w F (w1.setRow (w.heap.size+1) V)∧BoxAt (w1.setRow (w.heap.size+1) V) (w.heap.size+1) V:=by
 obtain⟨A,hA,sA⟩:=h.ra;obtain⟨B,hB,sB⟩:=h.rb;exact⟨⟨below_setRow h.below (by omega) _,QBe h.box (by omega),⟨V,setRow_heap _ _ _ _ _ _ hA,hV⟩,⟨B,(setRow_other _ _ _ _ (by omega)).trans hB,sB⟩⟩,QFs hA⟩
theorem OrS.putB {w w1:World}{F V:Array Value}(h:OrS w F w1)(hV:V.size=11):OrS w F (w1.setRow (w.heap.size+1+1) V)∧BoxAt (w1.setRow (w.heap.size+1+1) V) (w.heap.size+1+1) V:=by
 obtain⟨A,hA,sA⟩:=h.ra;obtain⟨B,hB,sB⟩:=h.rb;exact⟨⟨below_setRow h.below (by omega) _,QBe h.box (by omega),⟨A,(setRow_other _ _ _ _ (by omega)).trans hA,sA⟩,⟨V,setRow_heap _ _ _ _ _ _ hB,hV⟩⟩,QFs hB⟩
theorem QNx(k num tk tl th:Int)(s ts:ByteArray)(tp pp pk:Option Addr) (tn tc np cp nk ck n ca:Nat) (qb qo rb ro n1 c1:Nat)(k1':Int)(V:Array Value)(k0 m0 a0 l0 h0:Int)(s0 u0:ByteArray)(p0 g0 j0 q0:Option Addr) (y0 z0 v0 x0 w0 o0 r0 t0:Nat)(k1 m1 a1 l1 h1:Int)(s1 u1:ByteArray)(p1 g1 j1 q1:Option Addr) (y1 z1 v1 x1 w1 o1 r1 t1:Nat)(k2 m2 a2 l2 h2:Int)(s2 u2:ByteArray)(p2 g2 j2 q2:Option Addr) (y2 z2 v2 x2 w2 o2 r2 t2:Nat)(w:World)
  (e1:(k !=6)=false) (e2:(s.toList== [37,124])=true) (e3:((n:Int) !=2)=false) (e4:(k1' !=5)=false) (e5:((n1:Int) !=3)=false) (i1:(1:Int)<n) (i0:(0:Int)<n) (z0i:(0:Int)<n1) (z1i:(1:Int)<n1) (z2i:(2:Int)<n1)
  (f0:w.cell? ⟨qb,qo+11,none⟩=some (.int .i64 k1')) (f10:w.cell? ⟨qb,qo+11+10,none⟩=some (.slice (some ⟨rb,ro,none⟩) n1 c1))
  (hV:V.size=11) (hV1:V.all (·.oneCell')=true) (hA:CellsAt w qb qo V) (hx0:CellsAt w rb ro #[.int .i64 k0,.string s0,.int .i64 m0,.int .i64 a0,.string u0,.int .i64 l0,.int .i64 h0,.slice p0 y0 z0,.slice g0 v0 x0,.slice j0 w0 o0,.slice q0 r0 t0]) (hx1:CellsAt w rb (ro+11) #[.int .i64 k1,.string s1,.int .i64 m1,.int .i64 a1,.string u1,.int .i64 l1,.int .i64 h1,.slice p1 y1 z1,.slice g1 v1 x1,.slice j1 w1 o1,.slice q1 r1 t1]) (hx2:CellsAt w rb (ro+22) #[.int .i64 k2,.string s2,.int .i64 m2,.int .i64 a2,.string u2,.int .i64 l2,.int .i64 h2,.slice p2 y2 z2,.slice g2 v2 x2,.slice j2 w2 o2,.slice q2 r2 t2]):
  Calls prog 145 #[.agg #[.int .i64 k,.string s,.int .i64 num,.int .i64 tk,.string ts,.int .i64 tl,.int .i64 th,.slice tp tn tc,.slice pp np cp,.slice pk nk ck,.slice (some ⟨qb,qo,none⟩) n ca]] w fun e w'=>e= .returned (.tuple #[.agg V,.agg #[.int .i64 k2,.string s2,.int .i64 m2,.int .i64 a2,.string u2,.int .i64 l2,.int .i64 h2,.slice p2 y2 z2,.slice g2 v2 x2,.slice j2 w2 o2,.slice q2 r2 t2],.bool (((s0.toList== [37,124])&&(s1.toList== [37,124]))&&(QAI 0 m0 a0 l0 h0 ⟨#[]⟩ u0 y0 v0 w0 r0&&(k0==3))&&(QAI 0 m1 a1 l1 h1 ⟨#[]⟩ u1 y1 v1 w1 r1&&(k1==3)))])∧Below w.heap.size w w':=by
 obtain⟨B0,hE0⟩:∃b,(s0.toList== [37,124])=b:=⟨_,rfl⟩;obtain⟨B1,hE1⟩:∃b,(s1.toList== [37,124])=b:=⟨_,rfl⟩;have HZ0:=hd0 (fun w=>QJW k0 m0 a0 l0 h0 s0 u0 p0 g0 j0 q0 y0 z0 v0 x0 w0 o0 r0 t0 w);have HZ1:=hd0 (fun w=>QJW k1 m1 a1 l1 h1 s1 u1 p1 g1 j1 q1 y1 z1 v1 x1 w1 o1 r1 t1 w);generalize (QAI 0 m0 a0 l0 h0 ⟨#[]⟩ u0 y0 v0 w0 r0&&(k0==3))=Z0 at*;generalize (QAI 0 m1 a1 l1 h1 ⟨#[]⟩ u1 y1 v1 w1 r1&&(k1==3))=Z1 at*;rw[hE0,hE1];have HE0:=hd0 hE0;have HE1:=hd0 hE1;clear hE0 hE1;have HA:=hd0 (And.intro hA (And.intro hx0 (And.intro hx1 hx2)));have HV:=hd0 (And.intro hV hV1);clear hA hx0 hx1 hx2 hV hV1;go_enter func145,ntmps145;go_upto_region 1 with fail;refine QA8 (fun wx=>Hid (OrAt w #[.int .i64 k,.string s,.int .i64 num,.int .i64 tk,.string ts,.int .i64 tl,.int .i64 th,.slice tp tn tc,.slice pp np cp,.slice pk nk ck,.slice (some ⟨qb,qo,none⟩) n ca] wx)) (hd0 (QQw w _)) ?_;intro wa H;have b0:=H.out.box 0 _ rfl;have b1:=H.out.box 1 _ rfl;have b10:=H.out.box 10 _ rfl;have d0:=QAA H.out.below f0;have d10:=QAA H.out.below f10;clear f0 f10;go_upto_region 5 with fail;have HS0:=hd0 H.out.ors;clear H b0 b1 b10 d0 d10;refine QBr (n:=36) (S:=OrS w #[.int .i64 k,.string s,.int .i64 num,.int .i64 tk,.string ts,.int .i64 tl,.int .i64 th,.slice tp tn tc,.slice pp np cp,.slice pk nk ck,.slice (some ⟨qb,qo,none⟩) n ca]) (ds:= []) (bs 36 0) (by kernel_rfl) rfl rfl (HS0.out.under (QB0 (Below.refl _ _))) (fun hS=>?_);refine pu_ 0 45 ?_
 refine tk_ 1 46 rfl rfl hS (by intro wz hz;have b10:=hz.box 10 _ rfl;go_simp;with_reducible rfl) ?_;refine pu_ 2 47 ?_;refine tk_ 3 48 rfl rfl hS (fun wz hz=>QAP 29 _ rfl qb qo V _ underlying29 rfl (infoEx.trans (by rw[HV.out.1])) (HA.out.1.under hz.below)) ?_;refine pu_ 4 49 ?_;refine pu_ 5 50 ?_;refine tk_ 6 51 rfl rfl hS (fun wz hz=>QAP 29 _ rfl rb (ro+22) #[.int .i64 k2,.string s2,.int .i64 m2,.int .i64 a2,.string u2,.int .i64 l2,.int .i64 h2,.slice p2 y2 z2,.slice g2 v2 x2,.slice j2 w2 o2,.slice q2 r2 t2] _ underlying29 rfl infoEx (HA.out.2.2.2.under hz.below)) ?_;refine pu_ 7 52 ?_;refine pu_ 8 53 ?_;refine pu_ 9 54 ?_;refine tk_ 10 55 rfl rfl hS (by intro wz hz;have b1:=HA.out.2.1.under hz.below 1 _ rfl;go_simp;with_reducible rfl) ?_;refine pu_ 11 56 ?_ (hy:=by intro w';go_simp;rw[HE0.out]);refine pu_ 12 57 ?_
 cases B0 with
 |false=>
  refine of_ 13 58 ?_;refine of_ 14 59 ?_;refine of_ 15 60 ?_;refine of_ 16 61 ?_;refine of_ 17 62 ?_;refine pu_ 18 63 ?_;refine pu_ 19 64 ?_;refine of_ 20 65 ?_;refine of_ 21 66 ?_;refine of_ 22 67 ?_;refine of_ 23 68 ?_;refine of_ 24 69 ?_;refine pu_ 25 70 ?_;refine pu_ 26 71 ?_;refine of_ 27 72 ?_;refine of_ 28 73 ?_;refine of_ 29 74 ?_;refine of_ 30 75 ?_;refine of_ 31 76 ?_;refine pu_ 32 77 ?_;refine on_ 33 none rfl rfl (fun K hK=>?_);obtain⟨A33,hA33,sA33⟩:=hS.ra;have hP:=hS.putA (V:=V) HV.out.1;refine QG9 (w1:=_) (by rfl) rfl (QBB 29 (.tmp 2) (.tmp 48) rfl (w.heap.size+1) A33 V 29 (by rfl) (by rfl) hA33 (infoEx.trans (by rw[HV.out.1])) (sA33.trans HV.out.1.symm) HV.out.2) ?_;refine hK.out _ _ hP.1 (fun _=>?_);clear hK K;refine on_ 34 none rfl rfl (fun K hK=>?_);obtain⟨A34,hA34,sA34⟩:=hP.1.rb;have hQ:=hP.1.putB (V:=#[.int .i64 k2,.string s2,.int .i64 m2,.int .i64 a2,.string u2,.int .i64 l2,.int .i64 h2,.slice p2 y2 z2,.slice g2 v2 x2,.slice j2 w2 o2,.slice q2 r2 t2]) rfl;refine QG9 (w1:=_) (by rfl) rfl (QBB 29 (.tmp 3) (.tmp 51) rfl (w.heap.size+1+1) A34 #[.int .i64 k2,.string s2,.int .i64 m2,.int .i64 a2,.string u2,.int .i64 l2,.int .i64 h2,.slice p2 y2 z2,.slice g2 v2 x2,.slice j2 w2 o2,.slice q2 r2 t2] 29 (by rfl) (by rfl) hA34 infoEx (sA34.trans rfl) (by simp[Value.oneCell'])) ?_;refine hK.out _ _ hQ.1 (fun _=>?_);clear hK K
  have hPB:=QBe (Y:=#[.int .i64 k2,.string s2,.int .i64 m2,.int .i64 a2,.string u2,.int .i64 l2,.int .i64 h2,.slice p2 y2 z2,.slice g2 v2 x2,.slice j2 w2 o2,.slice q2 r2 t2]) hP.2 (show w.heap.size+1≠w.heap.size+1+1 by omega);refine pu_ 35 4 ?_;refine QCZ (by kernel_rfl) ?_;go_wp2;exact bodyPost_ret (QCz rfl _ _ (w.heap.size+1) (w.heap.size+1+1) V #[.int .i64 k2,.string s2,.int .i64 m2,.int .i64 a2,.string u2,.int .i64 l2,.int .i64 h2,.slice p2 y2 z2,.slice g2 v2 x2,.slice j2 w2 o2,.slice q2 r2 t2] _ _ rfl rfl rfl underlying29 (infoEx.trans (by rw[HV.out.1])) infoEx hPB hQ.2) rfl ⟨by rfl,hQ.1.below⟩
 |true=>
  refine pu_ 13 58 ?_;refine pu_ 14 59 ?_;refine pu_ 15 60 ?_;refine tk_ 16 61 rfl rfl hS (by intro wz hz;have b1:=HA.out.2.2.1.under hz.below 1 _ rfl;go_simp;with_reducible rfl) ?_;refine pu_ 17 62 ?_ (hy:=by intro w';go_simp;rw[HE1.out]);refine pu_ 18 63 ?_;refine pu_ 19 64 ?_
  cases B1 with
  |false=>
   refine of_ 20 65 ?_;refine of_ 21 66 ?_;refine of_ 22 67 ?_;refine of_ 23 68 ?_;refine of_ 24 69 ?_;refine pu_ 25 70 ?_;refine pu_ 26 71 ?_;refine of_ 27 72 ?_;refine of_ 28 73 ?_;refine of_ 29 74 ?_;refine of_ 30 75 ?_;refine of_ 31 76 ?_;refine pu_ 32 77 ?_;refine on_ 33 none rfl rfl (fun K hK=>?_);obtain⟨A33,hA33,sA33⟩:=hS.ra;have hP:=hS.putA (V:=V) HV.out.1;refine QG9 (w1:=_) (by rfl) rfl (QBB 29 (.tmp 2) (.tmp 48) rfl (w.heap.size+1) A33 V 29 (by rfl) (by rfl) hA33 (infoEx.trans (by rw[HV.out.1])) (sA33.trans HV.out.1.symm) HV.out.2) ?_;refine hK.out _ _ hP.1 (fun _=>?_);clear hK K;refine on_ 34 none rfl rfl (fun K hK=>?_);obtain⟨A34,hA34,sA34⟩:=hP.1.rb;have hQ:=hP.1.putB (V:=#[.int .i64 k2,.string s2,.int .i64 m2,.int .i64 a2,.string u2,.int .i64 l2,.int .i64 h2,.slice p2 y2 z2,.slice g2 v2 x2,.slice j2 w2 o2,.slice q2 r2 t2]) rfl;refine QG9 (w1:=_) (by rfl) rfl (QBB 29 (.tmp 3) (.tmp 51) rfl (w.heap.size+1+1) A34 #[.int .i64 k2,.string s2,.int .i64 m2,.int .i64 a2,.string u2,.int .i64 l2,.int .i64 h2,.slice p2 y2 z2,.slice g2 v2 x2,.slice j2 w2 o2,.slice q2 r2 t2] 29 (by rfl) (by rfl) hA34 infoEx (sA34.trans rfl) (by simp[Value.oneCell'])) ?_;refine hK.out _ _ hQ.1 (fun _=>?_);clear hK K;have hPB:=QBe (Y:=#[.int .i64 k2,.string s2,.int .i64 m2,.int .i64 a2,.string u2,.int .i64 l2,.int .i64 h2,.slice p2 y2 z2,.slice g2 v2 x2,.slice j2 w2 o2,.slice q2 r2 t2]) hP.2 (show w.heap.size+1≠w.heap.size+1+1 by omega);refine pu_ 35 4 ?_;refine QCZ (by kernel_rfl) ?_;go_wp2
   exact bodyPost_ret (QCz rfl _ _ (w.heap.size+1) (w.heap.size+1+1) V #[.int .i64 k2,.string s2,.int .i64 m2,.int .i64 a2,.string u2,.int .i64 l2,.int .i64 h2,.slice p2 y2 z2,.slice g2 v2 x2,.slice j2 w2 o2,.slice q2 r2 t2] _ _ rfl rfl rfl underlying29 (infoEx.trans (by rw[HV.out.1])) infoEx hPB hQ.2) rfl ⟨by rfl,hQ.1.below⟩
  |true=>
   refine pu_ 20 65 ?_;refine pu_ 21 66 ?_;refine pu_ 22 67 ?_;refine tk_ 23 68 rfl rfl hS (fun wz hz=>QAP 29 _ rfl rb ro #[.int .i64 k0,.string s0,.int .i64 m0,.int .i64 a0,.string u0,.int .i64 l0,.int .i64 h0,.slice p0 y0 z0,.slice g0 v0 x0,.slice j0 w0 o0,.slice q0 r0 t0] _ underlying29 rfl infoEx (HA.out.2.1.under hz.below)) ?_;refine on_ 24 (some 69) rfl rfl (fun K hK=>?_);refine QLS (.tmp 65) func204 (by kernel_rfl) rfl #[.agg #[.int .i64 k0,.string s0,.int .i64 m0,.int .i64 a0,.string u0,.int .i64 l0,.int .i64 h0,.slice p0 y0 z0,.slice g0 v0 x0,.slice j0 w0 o0,.slice q0 r0 t0]] (by rfl) rfl rfl (by rfl) (by (try simp only[List.map_toArray,List.map_cons,List.map_nil]);first|done|rfl) ?_;refine(HZ0.out _).mono ?_;rintro e wb ⟨rfl,hb2⟩;have hS2:=hS.under hb2;refine⟨_,rfl,hK.out _ _ hS2 (fun _=>?_)⟩;clear hK K hb2;refine nm_ ?_;refine pu_ 25 70 ?_;refine pu_ 26 71 ?_
   cases Z0 with
   |false=>
    refine of_ 27 72 ?_;refine of_ 28 73 ?_;refine of_ 29 74 ?_;refine of_ 30 75 ?_;refine of_ 31 76 ?_;refine pu_ 32 77 ?_;refine on_ 33 none rfl rfl (fun K hK=>?_);obtain⟨A33,hA33,sA33⟩:=hS2.ra;have hP:=hS2.putA (V:=V) HV.out.1;refine QG9 (w1:=_) (by rfl) rfl (QBB 29 (.tmp 2) (.tmp 48) rfl (w.heap.size+1) A33 V 29 (by rfl) (by rfl) hA33 (infoEx.trans (by rw[HV.out.1])) (sA33.trans HV.out.1.symm) HV.out.2) ?_;refine hK.out _ _ hP.1 (fun _=>?_);clear hK K;refine on_ 34 none rfl rfl (fun K hK=>?_);obtain⟨A34,hA34,sA34⟩:=hP.1.rb;have hQ:=hP.1.putB (V:=#[.int .i64 k2,.string s2,.int .i64 m2,.int .i64 a2,.string u2,.int .i64 l2,.int .i64 h2,.slice p2 y2 z2,.slice g2 v2 x2,.slice j2 w2 o2,.slice q2 r2 t2]) rfl;refine QG9 (w1:=_) (by rfl) rfl (QBB 29 (.tmp 3) (.tmp 51) rfl (w.heap.size+1+1) A34 #[.int .i64 k2,.string s2,.int .i64 m2,.int .i64 a2,.string u2,.int .i64 l2,.int .i64 h2,.slice p2 y2 z2,.slice g2 v2 x2,.slice j2 w2 o2,.slice q2 r2 t2] 29 (by rfl) (by rfl) hA34 infoEx (sA34.trans rfl) (by simp[Value.oneCell'])) ?_;refine hK.out _ _ hQ.1 (fun _=>?_);clear hK K;have hPB:=QBe (Y:=#[.int .i64 k2,.string s2,.int .i64 m2,.int .i64 a2,.string u2,.int .i64 l2,.int .i64 h2,.slice p2 y2 z2,.slice g2 v2 x2,.slice j2 w2 o2,.slice q2 r2 t2]) hP.2 (show w.heap.size+1≠w.heap.size+1+1 by omega);refine pu_ 35 4 ?_;refine QCZ (by kernel_rfl) ?_;go_wp2
    exact bodyPost_ret (QCz rfl _ _ (w.heap.size+1) (w.heap.size+1+1) V #[.int .i64 k2,.string s2,.int .i64 m2,.int .i64 a2,.string u2,.int .i64 l2,.int .i64 h2,.slice p2 y2 z2,.slice g2 v2 x2,.slice j2 w2 o2,.slice q2 r2 t2] _ _ rfl rfl rfl underlying29 (infoEx.trans (by rw[HV.out.1])) infoEx hPB hQ.2) rfl ⟨by rfl,hQ.1.below⟩
   |true=>
    refine pu_ 27 72 ?_;refine pu_ 28 73 ?_;refine pu_ 29 74 ?_;refine tk_ 30 75 rfl rfl hS2 (fun wz hz=>QAP 29 _ rfl rb (ro+11) #[.int .i64 k1,.string s1,.int .i64 m1,.int .i64 a1,.string u1,.int .i64 l1,.int .i64 h1,.slice p1 y1 z1,.slice g1 v1 x1,.slice j1 w1 o1,.slice q1 r1 t1] _ underlying29 rfl infoEx (HA.out.2.2.1.under hz.below)) ?_;refine on_ 31 (some 76) rfl rfl (fun K hK=>?_);refine QLS (.tmp 72) func204 (by kernel_rfl) rfl #[.agg #[.int .i64 k1,.string s1,.int .i64 m1,.int .i64 a1,.string u1,.int .i64 l1,.int .i64 h1,.slice p1 y1 z1,.slice g1 v1 x1,.slice j1 w1 o1,.slice q1 r1 t1]] (by rfl) rfl rfl (by rfl) (by (try simp only[List.map_toArray,List.map_cons,List.map_nil]);first|done|rfl) ?_;refine(HZ1.out _).mono ?_;rintro e wc ⟨rfl,hb3⟩;have hS3:=hS2.under hb3;refine⟨_,rfl,hK.out _ _ hS3 (fun _=>?_)⟩;clear hK K hb3;refine nm_ ?_;refine pu_ 32 77 ?_;refine on_ 33 none rfl rfl (fun K hK=>?_);obtain⟨A33,hA33,sA33⟩:=hS3.ra;have hP:=hS3.putA (V:=V) HV.out.1;refine QG9 (w1:=_) (by rfl) rfl (QBB 29 (.tmp 2) (.tmp 48) rfl (w.heap.size+1) A33 V 29 (by rfl) (by rfl) hA33 (infoEx.trans (by rw[HV.out.1])) (sA33.trans HV.out.1.symm) HV.out.2) ?_;refine hK.out _ _ hP.1 (fun _=>?_);clear hK K;refine on_ 34 none rfl rfl (fun K hK=>?_);obtain⟨A34,hA34,sA34⟩:=hP.1.rb;have hQ:=hP.1.putB (V:=#[.int .i64 k2,.string s2,.int .i64 m2,.int .i64 a2,.string u2,.int .i64 l2,.int .i64 h2,.slice p2 y2 z2,.slice g2 v2 x2,.slice j2 w2 o2,.slice q2 r2 t2]) rfl
    refine QG9 (w1:=_) (by rfl) rfl (QBB 29 (.tmp 3) (.tmp 51) rfl (w.heap.size+1+1) A34 #[.int .i64 k2,.string s2,.int .i64 m2,.int .i64 a2,.string u2,.int .i64 l2,.int .i64 h2,.slice p2 y2 z2,.slice g2 v2 x2,.slice j2 w2 o2,.slice q2 r2 t2] 29 (by rfl) (by rfl) hA34 infoEx (sA34.trans rfl) (by simp[Value.oneCell'])) ?_;refine hK.out _ _ hQ.1 (fun _=>?_);clear hK K;have hPB:=QBe (Y:=#[.int .i64 k2,.string s2,.int .i64 m2,.int .i64 a2,.string u2,.int .i64 l2,.int .i64 h2,.slice p2 y2 z2,.slice g2 v2 x2,.slice j2 w2 o2,.slice q2 r2 t2]) hP.2 (show w.heap.size+1≠w.heap.size+1+1 by omega);refine pu_ 35 4 ?_;refine QCZ (by kernel_rfl) ?_;go_wp2;exact bodyPost_ret (QCz rfl _ _ (w.heap.size+1) (w.heap.size+1+1) V #[.int .i64 k2,.string s2,.int .i64 m2,.int .i64 a2,.string u2,.int .i64 l2,.int .i64 h2,.slice p2 y2 z2,.slice g2 v2 x2,.slice j2 w2 o2,.slice q2 r2 t2] _ _ rfl rfl rfl underlying29 (infoEx.trans (by rw[HV.out.1])) infoEx hPB hQ.2) rfl ⟨by rfl,hQ.1.below⟩
theorem QJE {w:World}{g:Nat}{X:Array Value}{t:TypeId}{fr:Nat × Nat}(h:w.heap[g]?=some (.cells X t fr)):BoxAt w g X:=fun i v hi=>by
 simp only[World.cell?,h]
 simpa using hi
theorem OrAt.putA {w w1:World}{F:Array Value}(h:OrAt w F w1):OrAt w F (w1.setRow (w.heap.size+1) #[.int .i64 0,.string ⟨#[]⟩,.int .i64 0,.int .i64 0,.string ⟨#[]⟩,.int .i64 0,.int .i64 0,.slice none 0 0,.slice none 0 0,.slice none 0 0,.slice none 0 0]):=
 ⟨below_setRow h.below (by omega) _,QBe h.box (by omega),setRow_heap _ _ _ _ _ _ h.ra,(setRow_other _ _ _ _ (by omega)).trans h.rb⟩
theorem OrAt.putB {w w1:World}{F:Array Value}(h:OrAt w F w1):OrAt w F (w1.setRow (w.heap.size+1+1) #[.int .i64 0,.string ⟨#[]⟩,.int .i64 0,.int .i64 0,.string ⟨#[]⟩,.int .i64 0,.int .i64 0,.slice none 0 0,.slice none 0 0,.slice none 0 0,.slice none 0 0]):=
 ⟨below_setRow h.below (by omega) _,QBe h.box (by omega),(setRow_other _ _ _ _ (by omega)).trans h.ra,setRow_heap _ _ _ _ _ _ h.rb⟩
theorem OrAt.under {w w1 w2:World}{F:Array Value}(h:OrAt w F w1)(hb:Below w1.heap.size w1 w2):OrAt w F w2:=by
 have l1:=(Array.getElem?_eq_some_iff.1 h.ra).1;have l2:=(Array.getElem?_eq_some_iff.1 h.rb).1;exact⟨h.below.trans (hb.mono h.below.size),fun j v hj=>QAA hb (h.box j v hj),(hb.block _ l1).trans h.ra,(hb.block _ l2).trans h.rb⟩
def QQN(k:Int)(s:ByteArray)(pa:Option Addr)(n:Nat)(w:World):Prop:=
 (k !=6)=true∨((k !=6)=false∧(s.toList== [37,124])=false)∨((k !=6)=false∧(s.toList== [37,124])=true∧((n:Int) !=2)=true)∨
 (∃qb qo k1',pa=some ⟨qb,qo,none⟩∧(k !=6)=false∧(s.toList== [37,124])=true∧((n:Int) !=2)=false∧(1:Int)<n∧w.cell? ⟨qb,qo+11,none⟩=some (.int .i64 k1')∧
  ((k1' !=5)=true∨((k1' !=5)=false∧∃p1 n1 c1,w.cell? ⟨qb,qo+11+10,none⟩=some (.slice p1 n1 c1)∧((n1:Int) !=3)=true)))
theorem QNw(k num tk tl th:Int)(s ts:ByteArray)(tp pp pk pa:Option Addr) (tn tc np cp nk ck n ca:Nat)(w:World)(hs:QQN k s pa n w):
  Calls prog 145 #[.agg #[.int .i64 k,.string s,.int .i64 num,.int .i64 tk,.string ts,.int .i64 tl,.int .i64 th,.slice tp tn tc,.slice pp np cp,.slice pk nk ck,.slice pa n ca]] w fun e w'=>e= .returned (.tuple #[.agg #[.int .i64 0,.string ⟨#[]⟩,.int .i64 0,.int .i64 0,.string ⟨#[]⟩,.int .i64 0,.int .i64 0,.slice none 0 0,.slice none 0 0,.slice none 0 0,.slice none 0 0],.agg #[.int .i64 0,.string ⟨#[]⟩,.int .i64 0,.int .i64 0,.string ⟨#[]⟩,.int .i64 0,.int .i64 0,.slice none 0 0,.slice none 0 0,.slice none 0 0,.slice none 0 0],.bool false])∧Below w.heap.size w w':=by
 have HS:=hd0 hs;clear hs;go_enter func145,ntmps145;go_upto_region 1 with fail;refine QA8 (fun wx=>Hid (OrAt w #[.int .i64 k,.string s,.int .i64 num,.int .i64 tk,.string ts,.int .i64 tl,.int .i64 th,.slice tp tn tc,.slice pp np cp,.slice pk nk ck,.slice pa n ca] wx)) (hd0 (QQw w _)) ?_;intro wa H;have b0:=H.out.box 0 _ rfl;have b1:=H.out.box 1 _ rfl;have b10:=H.out.box 10 _ rfl;obtain e1|⟨e1,e2⟩|⟨e1,e2,e3⟩|⟨qb,qo,k1',rfl,e1,e2,e3,i1,f0,e4|⟨e4,p1,n1,c1,f10,e5⟩⟩:=HS.out
 case' inr.inr.inr.inl=>have d0:=QAA H.out.below f0;clear f0
 case' inr.inr.inr.inr=>have d0:=QAA H.out.below f0;have d10:=QAA H.out.below f10;clear f0 f10
 all_goals go_upto_region 2 with fail
 all_goals (
  refine QBr (n:=5) (S:=OrAt w _) (ds:= []) (bs 5 0) (by kernel_rfl) rfl rfl (H.out.under (QB0 (Below.refl _ _))) (fun hS=>?_);clear b0 b1 b10 HS H;refine tk_ 0 38 rfl rfl hS (fun wz hz=>QAP 29 _ rfl (w.heap.size+1) 0 #[.int .i64 0,.string ⟨#[]⟩,.int .i64 0,.int .i64 0,.string ⟨#[]⟩,.int .i64 0,.int .i64 0,.slice none 0 0,.slice none 0 0,.slice none 0 0,.slice none 0 0] _ underlying29 rfl infoEx (fun j v hj=>by rw[Nat.zero_add];exact QJE hz.ra j v hj)) ?_;refine tk_ 1 39 rfl rfl hS (fun wz hz=>QAP 29 _ rfl (w.heap.size+1+1) 0 #[.int .i64 0,.string ⟨#[]⟩,.int .i64 0,.int .i64 0,.string ⟨#[]⟩,.int .i64 0,.int .i64 0,.slice none 0 0,.slice none 0 0,.slice none 0 0,.slice none 0 0] _ underlying29 rfl infoEx (fun j v hj=>by rw[Nat.zero_add];exact QJE hz.rb j v hj)) ?_;refine on_ 2 none rfl rfl (fun K hK=>?_);refine QG9 (w1:=_) (by rfl) rfl (QBB 29 (.tmp 2) (.tmp 38) rfl (w.heap.size+1) #[.int .i64 0,.string ⟨#[]⟩,.int .i64 0,.int .i64 0,.string ⟨#[]⟩,.int .i64 0,.int .i64 0,.slice none 0 0,.slice none 0 0,.slice none 0 0,.slice none 0 0] #[.int .i64 0,.string ⟨#[]⟩,.int .i64 0,.int .i64 0,.string ⟨#[]⟩,.int .i64 0,.int .i64 0,.slice none 0 0,.slice none 0 0,.slice none 0 0,.slice none 0 0] 29 (by rfl) (by rfl) hS.ra infoEx rfl (by simp[Value.oneCell'])) ?_;have hP:=hS.putA;refine hK.out _ _ hP (fun _=>?_);clear hK K;refine on_ 3 none rfl rfl (fun K hK=>?_)
  refine QG9 (w1:=_) (by rfl) rfl (QBB 29 (.tmp 3) (.tmp 39) rfl (w.heap.size+1+1) #[.int .i64 0,.string ⟨#[]⟩,.int .i64 0,.int .i64 0,.string ⟨#[]⟩,.int .i64 0,.int .i64 0,.slice none 0 0,.slice none 0 0,.slice none 0 0,.slice none 0 0] #[.int .i64 0,.string ⟨#[]⟩,.int .i64 0,.int .i64 0,.string ⟨#[]⟩,.int .i64 0,.int .i64 0,.slice none 0 0,.slice none 0 0,.slice none 0 0,.slice none 0 0] 29 (by rfl) (by rfl) hP.rb infoEx rfl (by simp[Value.oneCell'])) ?_;have hQ:=hP.putB;refine hK.out _ _ hQ (fun _=>?_);clear hK K;refine pu_ 4 4 ?_;refine QCZ (by kernel_rfl) ?_;go_wp2;exact bodyPost_ret (QCz rfl _ _ (w.heap.size+1) (w.heap.size+1+1) #[.int .i64 0,.string ⟨#[]⟩,.int .i64 0,.int .i64 0,.string ⟨#[]⟩,.int .i64 0,.int .i64 0,.slice none 0 0,.slice none 0 0,.slice none 0 0,.slice none 0 0] #[.int .i64 0,.string ⟨#[]⟩,.int .i64 0,.int .i64 0,.string ⟨#[]⟩,.int .i64 0,.int .i64 0,.slice none 0 0,.slice none 0 0,.slice none 0 0,.slice none 0 0] _ _ rfl rfl rfl underlying29 infoEx infoEx (QJE hQ.ra) (QJE hQ.rb)) rfl ⟨by rfl,hQ.below⟩
 )
theorem ExR.cells {W:World}{v:Value}{e:Ex}(h:ExR W v e):∃k s num tk ts tl th tp tn tc pp np cp pk nk ck pa n ca tf pn pt ks f A,
  v= .agg #[.int .i64 k,.string s,.int .i64 num,.int .i64 tk,.string ts,.int .i64 tl,.int .i64 th,.slice tp tn tc,.slice pp np cp,.slice pk nk ck,.slice pa n ca]∧e= .mk k num s (.mk tk tl th ts tn tf) np pn pt nk ks n f∧Row W 11 pa n A∧∀i,i<n→ExR W (QE6 (A i)) (f i):=by
 cases h with
 |mk k num s t0 t1 t2 t3 t4 ty np pp cp pn pt nk pk ck ks n pa ca A f hs ht hp hk hn hA h=>
  obtain⟨tk,tl,th,ts,tn,tp,tc,tf,he,rfl, -, -⟩:=ht.cells;injection he with he
  injection he with he
  simp only[List.cons.injEq,and_true]at he;obtain⟨rfl,rfl,rfl,rfl,rfl⟩:=he;exact⟨k,s,num,tk,ts,tl,th,tp,tn,tc,pp,np,cp,pk,nk,ck,pa,n,ca,tf,pn,pt,ks,f,A,rfl,rfl,hA,h⟩
theorem Row.at11 {W:World}{b o n:Nat}{A:Nat→Nat→Value}(h:Row W 11 (some ⟨b,o,none⟩) n A){i:Nat}(hi:i<n){X:Array Value}(hX:QE6 (A i)= .agg X):CellsAt W b (o+i*11) X:=by
 unfold QE6 at hX;injection hX with hX
 subst hX;intro j v hj;have hj2:j<11:=(Array.getElem?_eq_some_iff.1 hj).1;obtain⟨b',o',hp,hc⟩:=h i hi;injection hp with hp
 injection hp with h1 h2
 subst h1;subst h2;rcases (by omega:j=0∨j=1∨j=2∨j=3∨j=4∨j=5∨j=6∨j=7∨j=8∨j=9∨j=10)with rfl|rfl|rfl|rfl|rfl|rfl|rfl|rfl|rfl|rfl|rfl
 all_goals (injection hj with hj;subst hj;exact hc _ (by omega))
def Ex.k:Ex→Int| .mk k _ _ _ _ _ _ _ _ _ _=>k| .no=>0
def Ex.nm:Ex→ByteArray| .mk _ _ s _ _ _ _ _ _ _ _=>s| .no=>⟨#[]⟩
def Ex.len:Ex→Nat| .mk _ _ _ _ _ _ _ _ _ n _=>n| .no=>0
def Ex.arg:Ex→Nat→Ex| .mk _ _ _ _ _ _ _ _ _ _ f,i=>f i| .no,_=> .no
def Ex.bare:Ex→Bool| .mk k num _ (.mk tk tl th ts tn _) np _ _ nk _ n _=>QAI 0 num tk tl th ⟨#[]⟩ ts tn np nk n&&(k==3)|_=>false
def Ex.orT(e:Ex):Bool:=(e.k==6)&&(e.nm.toList== [37,124])&&((e.len:Int)==2)&&((e.arg 1).k==5)&&(((e.arg 1).len:Int)==3)
def Ex.orB(e:Ex):Bool:=e.orT&&((((e.arg 1).arg 0).nm.toList== [37,124]&&((e.arg 1).arg 1).nm.toList== [37,124])&&((e.arg 1).arg 0).bare&&((e.arg 1).arg 1).bare)
theorem QDA {W:World}{v:Value}{e:Ex}(h:ExR W v e)(w:World)(hW:Below W.heap.size W w):
  Calls prog 145 #[v] w fun r w'=>(∃X Y:Array Value,X.size=11∧X.all (·.oneCell')=true∧Y.size=11∧Y.all (·.oneCell')=true∧r= .returned (.tuple #[.agg X,.agg Y,.bool e.orB])∧(e.orB=true→ExR W (.agg X) (e.arg 0)∧ExR W (.agg Y) ((e.arg 1).arg 2)))∧Below w.heap.size w w':=by
 obtain⟨k,s,num,tk,ts,tl,th,tp,tn,tc,pp,np,cp,pk,nk,ck,pa,n,ca,tf,pn,pt,ks,f,A,rfl,rfl,hA,hf⟩:=h.cells
 have stop:QQN k s pa n w→Ex.orT (.mk k num s (.mk tk tl th ts tn tf) np pn pt nk ks n f)=false→Calls prog 145 #[.agg #[.int .i64 k,.string s,.int .i64 num,.int .i64 tk,.string ts,.int .i64 tl,.int .i64 th,.slice tp tn tc,.slice pp np cp,.slice pk nk ck,.slice pa n ca]] w fun r w'=>(∃X Y:Array Value,X.size=11∧X.all (·.oneCell')=true∧Y.size=11∧Y.all (·.oneCell')=true∧r= .returned (.tuple #[.agg X,.agg Y,.bool (Ex.orB (.mk k num s (.mk tk tl th ts tn tf) np pn pt nk ks n f))])∧(Ex.orB (.mk k num s (.mk tk tl th ts tn tf) np pn pt nk ks n f)=true→ExR W (.agg X) (f 0)∧ExR W (.agg Y) ((f 1).arg 2)))∧Below w.heap.size w w':=by
  intro hs ho;have ho2:Ex.orB (.mk k num s (.mk tk tl th ts tn tf) np pn pt nk ks n f)=false:=by unfold Ex.orB;rw[ho,Bool.false_and]
  refine(QNw k num tk tl th s ts tp pp pk pa tn tc np cp nk ck n ca w hs).mono ?_;rintro r w' ⟨rfl,hb⟩;exact⟨⟨#[.int .i64 0,.string ⟨#[]⟩,.int .i64 0,.int .i64 0,.string ⟨#[]⟩,.int .i64 0,.int .i64 0,.slice none 0 0,.slice none 0 0,.slice none 0 0,.slice none 0 0],#[.int .i64 0,.string ⟨#[]⟩,.int .i64 0,.int .i64 0,.string ⟨#[]⟩,.int .i64 0,.int .i64 0,.slice none 0 0,.slice none 0 0,.slice none 0 0,.slice none 0 0],rfl,by simp[Value.oneCell'],rfl,by simp[Value.oneCell'],by rw[ho2],fun h=>by rw[ho2]at h;cases h⟩,hb⟩
 cases e1:(k !=6)with
 |true=>exact stop (Or.inl e1) (by unfold Ex.orT;show((k==6)&&_&&_&&_&&_)=false;rw[show(k==6)=false by simpa[bne]using e1];simp)
 |false=>
 cases e2:(s.toList== [37,124])with
 |false=>exact stop (Or.inr (Or.inl ⟨e1,e2⟩)) (by unfold Ex.orT;show(_&&(s.toList== [37,124])&&_&&_&&_)=false;rw[e2];simp)
 |true=>
 cases e3:((n:Int) !=2)with
 |true=>exact stop (Or.inr (Or.inr (Or.inl ⟨e1,e2,e3⟩))) (by unfold Ex.orT;show(_&&_&&((n:Int)==2)&&_&&_)=false;rw[show((n:Int)==2)=false by simpa[bne]using e3];simp)
 |false=>
 have hn2:n=2:=by
             have:((n:Int)==2)=true:=by simpa[bne]using e3
             have:=eq_of_beq this;omega
 subst hn2;obtain⟨qb,qo,rfl, -⟩:=hA 0 (by omega);obtain⟨k',s',num',tk',ts',tl',th',tp',tn',tc',pp',np',cp',pk',nk',ck',pa',n',ca',tf',pn',pt',ks',f',A',hv1,he1,hA',hf'⟩:=(hf 1 (by omega)).cells;have C1:=(hA.at11 (i:=1) (by omega) hv1).under hW;have f0:w.cell? ⟨qb,qo+11,none⟩=some (.int .i64 k'):=C1 0 _ rfl;have f10:w.cell? ⟨qb,qo+11+10,none⟩=some (.slice pa' n' ca'):=C1 10 _ rfl
 cases e4:(k' !=5)with
 |true=>exact stop (Or.inr (Or.inr (Or.inr ⟨qb,qo,k',rfl,e1,e2,e3,by omega,f0,Or.inl e4⟩))) (by unfold Ex.orT;show(_&&_&&_&&((f 1).k==5)&&_)=false;rw[he1];show(_&&_&&_&&(k'==5)&&_)=false;rw[show(k'==5)=false by simpa[bne]using e4];simp)
 |false=>
 cases e5:((n':Int) !=3)with
 |true=>exact stop (Or.inr (Or.inr (Or.inr ⟨qb,qo,k',rfl,e1,e2,e3,by omega,f0,Or.inr ⟨e4,pa',n',ca',f10,e5⟩⟩))) (by unfold Ex.orT;show(_&&_&&_&&_&&(((f 1).len:Int)==3))=false;rw[he1];show(_&&_&&_&&_&&((n':Int)==3))=false;rw[show((n':Int)==3)=false by simpa[bne]using e5];simp)
 |false=>
 have hn3:n'=3:=by
             have:((n':Int)==3)=true:=by simpa[bne]using e5
             have:=eq_of_beq this;omega
 subst hn3;clear stop;obtain⟨rb,ro,rfl, -⟩:=hA' 0 (by omega);obtain⟨k3,s3,m3,a3,u3,l3,h3,p3,y3,z3,g3,v3,x3,j3,w3,o3,q3,r3,t3,tf3,pn3,pt3,ks3,ff3,AA3,hv3,he3, -, -⟩:=(hf 0 (by omega)).cells;obtain⟨k0,s0,m0,a0,u0,l0,h0,p0,y0,z0,g0,v0,x0,j0,w0,o0,q0,r0,t0,tf0,pn0,pt0,ks0,ff0,AA0,hw0,hx0, -, -⟩:=(hf' 0 (by omega)).cells;obtain⟨k1,s1,m1,a1,u1,l1,h1,p1,y1,z1,g1,v1,x1,j1,w1,o1,q1,r1,t1,tf1,pn1,pt1,ks1,ff1,AA1,hw1,hx1, -, -⟩:=(hf' 1 (by omega)).cells;obtain⟨k2,s2,m2,a2,u2,l2,h2,p2,y2,z2,g2,v2,x2,j2,w2,o2,q2,r2,t2,tf2,pn2,pt2,ks2,ff2,AA2,hw2,hx2, -, -⟩:=(hf' 2 (by omega)).cells;have D0:=(hA.at11 (i:=0) (by omega) hv3).under hW;have G0:=(hA'.at11 (i:=0) (by omega) hw0).under hW;have G1:=(hA'.at11 (i:=1) (by omega) hw1).under hW;have G2:=(hA'.at11 (i:=2) (by omega) hw2).under hW;rw[Nat.zero_mul,Nat.add_zero]at D0 G0
 have hor:Ex.orB (.mk k num s (.mk tk tl th ts tn tf) np pn pt nk ks 2 f)=(((s0.toList== [37,124])&&(s1.toList== [37,124]))&&(QAI 0 m0 a0 l0 h0 ⟨#[]⟩ u0 y0 v0 w0 r0&&(k0==3))&&(QAI 0 m1 a1 l1 h1 ⟨#[]⟩ u1 y1 v1 w1 r1&&(k1==3))):=by
  have ht:Ex.orT (.mk k num s (.mk tk tl th ts tn tf) np pn pt nk ks 2 f)=true:=by
   unfold Ex.orT;show((k==6)&&(s.toList== [37,124])&&(((2:Nat):Int)==2)&&((f 1).k==5)&&(((f 1).len:Int)==3))=true;rw[he1,e2,show(k==6)=true by simpa[bne]using e1];show(true&&true&&true&&(k'==5)&&(((3:Nat):Int)==3))=true;rw[show(k'==5)=true by simpa[bne]using e4];rfl
  unfold Ex.orB;rw[ht,Bool.true_and];show(((((f 1).arg 0).nm.toList== [37,124])&&(((f 1).arg 1).nm.toList== [37,124]))&&((f 1).arg 0).bare&&((f 1).arg 1).bare)=_;rw[he1];show((((f' 0).nm.toList== [37,124])&&((f' 1).nm.toList== [37,124]))&&(f' 0).bare&&(f' 1).bare)=_;rw[hx0,hx1];rfl
 have hB:=QNx k num tk tl th s ts tp pp pk tn tc np cp nk ck 2 ca qb qo rb ro 3 ca' k' #[.int .i64 k3,.string s3,.int .i64 m3,.int .i64 a3,.string u3,.int .i64 l3,.int .i64 h3,.slice p3 y3 z3,.slice g3 v3 x3,.slice j3 w3 o3,.slice q3 r3 t3] k0 m0 a0 l0 h0 s0 u0 p0 g0 j0 q0 y0 z0 v0 x0 w0 o0 r0 t0 k1 m1 a1 l1 h1 s1 u1 p1 g1 j1 q1 y1 z1 v1 x1 w1 o1 r1 t1 k2 m2 a2 l2 h2 s2 u2 p2 g2 j2 q2 y2 z2 v2 x2 w2 o2 r2 t2 w e1 e2 e3 e4 e5 (by omega) (by omega) (by omega) (by omega) (by omega) f0 f10 rfl (by simp[Value.oneCell']) D0 G0 G1 G2;rw[←hor]at hB;refine hB.mono ?_;rintro r w' ⟨rfl,hb⟩;refine⟨⟨_,_,rfl,by simp[Value.oneCell'],rfl,by simp[Value.oneCell'],rfl,fun _=>⟨?_,?_⟩⟩,hb⟩
 ·
  rw[←hv3];exact hf 0 (by omega)
 ·
  show ExR W _ ((f 1).arg 2);rw[he1,←hw2];exact hf' 2 (by omega)
def Ex.fNone:Ex→Bool| .mk _ num s (.mk tk tl th ts tn _) np _ _ nk _ _ _=>QAI 0 num tk tl th s ts tn np nk 0|_=>false
def Ex.fName:Ex→Bool| .mk _ num _ (.mk tk tl th ts tn _) np _ _ nk _ _ _=>QAI 0 num tk tl th ⟨#[]⟩ ts tn np nk 0|_=>false
def Ex.fNum:Ex→Bool| .mk _ _ s (.mk tk tl th ts tn _) np _ _ nk _ _ _=>QAI 0 0 tk tl th s ts tn np nk 0|_=>false
def Ex.fPar:Ex→Bool| .mk _ num _ (.mk tk tl th ts tn _) _ _ _ nk _ _ _=>QAI 0 num tk tl th ⟨#[]⟩ ts tn 0 nk 0|_=>false
def Ex.fType:Ex→Bool| .mk _ num s _ np _ _ nk _ _ _=>QAI 0 num 0 0 0 s ⟨#[]⟩ 0 np nk 0|_=>false
def Ex.fKeys:Ex→Bool| .mk _ num s (.mk tk tl th ts tn _) np _ _ _ _ _ _=>QAI 0 num tk tl th s ts tn np 0 0|_=>false
def Ex.fits(e:Ex)(l:ByteArray):Bool:=match e with
 | .mk k num s ty np pn pt nk ks n _=>
  if k=1 then e.fNum&&((n:Int)==0)
  else if k=2 then e.fNum&&((n:Int)==0)&&(num==0||num==1)
  else if k=3 then e.fName&&((n:Int)==0)&&QAs s
  else if k=4 then e.fNone&&decide ((1:Int)≤n)&&decide ((n:Int)≤17)
  else if k=5 then e.fNone&&((n:Int)==3)
  else if k=6 then e.fName&&((n:Int)==2)&&QAs s
  else if k=7 then e.fNone&&decide ((2:Int)≤n)
  else if k=8 then e.fPar&&((n:Int)==1)&&((s.toList== [])||(s.toList==l.toList))&&QD0 np pn pt
  else if k=9 then e.fName&&(((n:Int)==1)||((n:Int)==2))&&((s.toList== [])||QAs s)
  else if k=10 then e.fType&&((n:Int)==2)&&ty.ok
  else if k=11 then e.fNone&&decide ((n:Int)≤6)
  else if k=12 then e.fKeys&&((n:Int)==(nk:Int)+1)&&decide ((nk:Int)≤16)&&QAk nk ks&&(List.range nk).all (fun i=>QLb (ks i))
  else if k=13 then e.fName&&((n:Int)==QQv s)
  else if k=14 then e.fType&&((n:Int)==1)&&ty.ok
  else if k=17 then e.fNum&&((n:Int)==0)&&decide ((0:Int)≤num)
  else false
 | .no=>false
def QBM(k:Int)(s:ByteArray)(i:Nat):ByteArray:=if(k==6)&&i==0 then s else⟨#[]⟩
def Ex.okP:Ex→(ByteArray→Bool) × (Nat→ByteArray→Bool)
 | .mk k num s ty np pn pt nk ks n f=>
  ⟨fun l=>if(Ex.mk k num s ty np pn pt nk ks n f).orB then(Ex.mk k num s ty np pn pt nk ks n f).fName&&(f 1).fNone&&(f 0).okP.1 ⟨#[]⟩&&(f 1).okP.2 2 ⟨#[]⟩
   else(Ex.mk k num s ty np pn pt nk ks n f).fits l&&(List.range n).all (fun i=>(f i).okP.1 (QBM k s i)),fun i l=>(f i).okP.1 l⟩
 | .no=>⟨fun _=>false,fun _ _=>false⟩
def Ex.ok(e:Ex)(l:ByteArray):Bool:=e.okP.1 l
theorem Ex.ok_arg(e:Ex)(i:Nat)(l:ByteArray):e.okP.2 i l=(e.arg i).ok l:=by
 cases e <;> rfl
theorem Ex.ok_eq(e:Ex)(l:ByteArray):e.ok l=if e.orB then e.fName&&(e.arg 1).fNone&&(e.arg 0).ok ⟨#[]⟩&&((e.arg 1).arg 2).ok ⟨#[]⟩
  else e.fits l&&(List.range e.len).all (fun i=>(e.arg i).ok (QBM e.k e.nm i)):=by
 cases e with
 |no=>rfl
 |mk k num s ty np pn pt nk ks n f=>
  show(Ex.okP _).1 l=_;rw[Ex.okP];show(if _ then _&&_&&_&&(f 1).okP.2 2 ⟨#[]⟩ else _)=_;rw[Ex.ok_arg];rfl
theorem Ex.induct2 {P:Ex→Prop}(h0:P .no)(h:∀e,(∀i,P (e.arg i))→(∀i j,P ((e.arg i).arg j))→P e)(e:Ex):P e:=by
 have key:∀e,P e∧∀i,P (e.arg i):=by
  intro e
  induction e with
  |no=>exact⟨h0,fun _=>h0⟩
  |mk k num s ty np pn pt nk ks n f ih=>exact⟨h _ (fun i=>(ih i).1) (fun i j=>(ih i).2 j),fun i=>(ih i).1⟩
 exact(key e).1
theorem QAQ {P:Program}{ops:Array Oper}{Q:Exit→Act→World→Prop}{rest:List Oper}{oi:Oper}{a:Act}{w:World}(t:TypeId)(p x:Operand)(hop:oi.op= .store t p x)(hg:oi.guard=none)(hd:oi.dst=none)(g:Nat)(Z X:Array Value)(tt:TypeId)
  (hp:a.eval p= .pointer (some ⟨g,0,none⟩)) (hx:a.eval x= .agg X) (hgr:w.heap[g]?=some (.cells Z tt (0,0))) (hi:(P.info? t).map (·.size)=some X.size) (ho:Z.size=X.size) (h1:X.all (·.oneCell')=true)
  (h:wpList P ops Q rest a (w.setRow g X)):wpList P ops Q (oi::rest) a w:=by
 refine wpList_plain hg fun K hK=>?_
 have hrun:=QBB (P:=P) (oi:=oi) (a:=a) t p x hop g Z X tt hp hx hgr hi ho h1;unfold Oper.wp;rw[hrun];refine hK _ _ ?_;rw[hd];exact h
theorem QA4 {P:Program}{ops:Array Oper}{Q:Exit→Act→World→Prop}{rest:List Oper}{oi:Oper}{a:Act}{w:World}(t:TypeId)(x:Operand)(hop:oi.op= .load t x)(hw:Region.wanted oi (yielded ops a.tmps)=true)(b o:Nat)(X:Array Value)(fs:Array Field)(hu:P.underlying t=some (.struct fs))
  (hx:a.eval x= .pointer (some ⟨b,o,none⟩)) (hi:(P.info? t).map (·.size)=some X.size) (hc:CellsAt w b o X)
  (h:wpList P ops Q rest (a.put oi.dst (.agg X)) w):wpList P ops Q (oi::rest) a w:=by
 have hrun:=QAP (P:=P) (oi:=oi) (a:=a) t x hop b o X fs hu hx hi hc;unfold wpList;rw[if_pos hw];left;unfold Oper.wp;rw[hrun];exact h
theorem QI5(w:World):((w.alloc (.cells #[.int .i64 0,.string ⟨#[]⟩,.int .i64 0,.int .i64 0,.string ⟨#[]⟩,.int .i64 0,.int .i64 0,.slice none 0 0,.slice none 0 0,.slice none 0 0,.slice none 0 0] 29)).alloc (.cells #[.int .i64 0,.string ⟨#[]⟩,.int .i64 0,.int .i64 0,.string ⟨#[]⟩,.int .i64 0,.int .i64 0,.slice none 0 0,.slice none 0 0,.slice none 0 0,.slice none 0 0] 29)).heap[w.heap.size]?=some (.cells #[.int .i64 0,.string ⟨#[]⟩,.int .i64 0,.int .i64 0,.string ⟨#[]⟩,.int .i64 0,.int .i64 0,.slice none 0 0,.slice none 0 0,.slice none 0 0,.slice none 0 0] 29 (0,0)):=
 (Below.heap_alloc _ _ _ (by simp)).trans (heap_alloc_last w (.cells #[.int .i64 0,.string ⟨#[]⟩,.int .i64 0,.int .i64 0,.string ⟨#[]⟩,.int .i64 0,.int .i64 0,.slice none 0 0,.slice none 0 0,.slice none 0 0,.slice none 0 0] 29))
theorem QI6(w:World)(V:Array Value):(((w.alloc (.cells #[.int .i64 0,.string ⟨#[]⟩,.int .i64 0,.int .i64 0,.string ⟨#[]⟩,.int .i64 0,.int .i64 0,.slice none 0 0,.slice none 0 0,.slice none 0 0,.slice none 0 0] 29)).alloc (.cells #[.int .i64 0,.string ⟨#[]⟩,.int .i64 0,.int .i64 0,.string ⟨#[]⟩,.int .i64 0,.int .i64 0,.slice none 0 0,.slice none 0 0,.slice none 0 0,.slice none 0 0] 29)).setRow w.heap.size V).heap[w.heap.size+1]?=some (.cells #[.int .i64 0,.string ⟨#[]⟩,.int .i64 0,.int .i64 0,.string ⟨#[]⟩,.int .i64 0,.int .i64 0,.slice none 0 0,.slice none 0 0,.slice none 0 0,.slice none 0 0] 29 (0,0)):=by
 rw[setRow_other _ _ _ _ (by omega)];have h2:=heap_alloc_last (w.alloc (.cells #[.int .i64 0,.string ⟨#[]⟩,.int .i64 0,.int .i64 0,.string ⟨#[]⟩,.int .i64 0,.int .i64 0,.slice none 0 0,.slice none 0 0,.slice none 0 0,.slice none 0 0] 29)) (.cells #[.int .i64 0,.string ⟨#[]⟩,.int .i64 0,.int .i64 0,.string ⟨#[]⟩,.int .i64 0,.int .i64 0,.slice none 0 0,.slice none 0 0,.slice none 0 0,.slice none 0 0] 29)
 simpa only[World.size_alloc]using h2
theorem QA0(w:World)(V U:Array Value):Below w.heap.size w ((((w.alloc (.cells #[.int .i64 0,.string ⟨#[]⟩,.int .i64 0,.int .i64 0,.string ⟨#[]⟩,.int .i64 0,.int .i64 0,.slice none 0 0,.slice none 0 0,.slice none 0 0,.slice none 0 0] 29)).alloc (.cells #[.int .i64 0,.string ⟨#[]⟩,.int .i64 0,.int .i64 0,.string ⟨#[]⟩,.int .i64 0,.int .i64 0,.slice none 0 0,.slice none 0 0,.slice none 0 0,.slice none 0 0] 29)).setRow w.heap.size V).setRow (w.heap.size+1) U)∧
  BoxAt ((((w.alloc (.cells #[.int .i64 0,.string ⟨#[]⟩,.int .i64 0,.int .i64 0,.string ⟨#[]⟩,.int .i64 0,.int .i64 0,.slice none 0 0,.slice none 0 0,.slice none 0 0,.slice none 0 0] 29)).alloc (.cells #[.int .i64 0,.string ⟨#[]⟩,.int .i64 0,.int .i64 0,.string ⟨#[]⟩,.int .i64 0,.int .i64 0,.slice none 0 0,.slice none 0 0,.slice none 0 0,.slice none 0 0] 29)).setRow w.heap.size V).setRow (w.heap.size+1) U) w.heap.size V∧BoxAt ((((w.alloc (.cells #[.int .i64 0,.string ⟨#[]⟩,.int .i64 0,.int .i64 0,.string ⟨#[]⟩,.int .i64 0,.int .i64 0,.slice none 0 0,.slice none 0 0,.slice none 0 0,.slice none 0 0] 29)).alloc (.cells #[.int .i64 0,.string ⟨#[]⟩,.int .i64 0,.int .i64 0,.string ⟨#[]⟩,.int .i64 0,.int .i64 0,.slice none 0 0,.slice none 0 0,.slice none 0 0,.slice none 0 0] 29)).setRow w.heap.size V).setRow (w.heap.size+1) U) (w.heap.size+1) U:=
 ⟨below_setRow (below_setRow (((Below.refl _ _).alloc (Nat.le_refl _) _).alloc (by simp) _) (Nat.le_refl _) _) (by omega) _,QBe (QFs (QI5 w)) (by omega),QFs (QI6 w V)⟩
theorem QNt {W:World}(hE:Env W)(h9:9≤W.heap.size)(e:Ex)(ho:e.orB=true)
  (ih0:∀v,ExR W v (e.arg 0)→∀w,Below W.heap.size W w→Calls prog 84 #[v,.string ⟨#[]⟩] w fun r w'=>r= .returned (.bool ((e.arg 0).ok ⟨#[]⟩))∧Below w.heap.size w w')
  (ih2:∀v,ExR W v ((e.arg 1).arg 2)→∀w,Below W.heap.size W w→Calls prog 84 #[v,.string ⟨#[]⟩] w fun r w'=>r= .returned (.bool (((e.arg 1).arg 2).ok ⟨#[]⟩))∧Below w.heap.size w w')
  (v:Value) (h:ExR W v e) (l:ByteArray) (w:World) (hW:Below W.heap.size W w):
  Calls prog 84 #[v,.string l] w fun r w'=>r= .returned (.bool (e.ok l))∧Below w.heap.size w w':=by
 have HO:=hd0 (fun w (hW:Below W.heap.size W w)=>QDA h w hW);have hok:=e.ok_eq l;rw[ho,if_pos rfl]at hok;rw[hok];obtain⟨k,s,num,tk,ts,tl,th,tp,tn,tc,pp,np,cp,pk,nk,ck,pa,n,ca,tf,pn,pt,ks,f,A,rfl,rfl,hA,hf⟩:=h.cells
 have hn:n=2:=by
  unfold Ex.orB Ex.orT at ho;simp only[Bool.and_eq_true]at ho;have h3:=ho.1.1.1.2;have h4:((n:Int)==2)=true:=h3;have:=eq_of_beq h4;omega
 subst hn;obtain⟨qb,qo,rfl, -⟩:=hA 0 (by omega);obtain⟨k',s',num',tk',ts',tl',th',tp',tn',tc',pp',np',cp',pk',nk',ck',pa',n',ca',tf',pn',pt',ks',f',A',hv1,he1,hA',hf'⟩:=(hf 1 (by omega)).cells;have HC1:=hd0 (hA.at11 (i:=1) (by omega) hv1);have HF1:=hd0 (fun w (hE:Env w)=>QBR k num tk tl th s ts tp pp pk (some ⟨qb,qo,none⟩) tn tc np cp nk ck 2 ca w hE);have HF2:=hd0 (fun w (hE:Env w)=>QBS k' num' tk' tl' th' s' ts' tp' pp' pk' pa' tn' tc' np' cp' nk' ck' n' ca' w hE)
 have hfn:Ex.fNone ((Ex.mk k num s (.mk tk tl th ts tn tf) np pn pt nk ks 2 f).arg 1)=QAI 0 num' tk' tl' th' s' ts' tn' np' nk' 0:=by
  show(f 1).fNone=_;rw[he1];rfl
 have hfm:Ex.fName (Ex.mk k num s (.mk tk tl th ts tn tf) np pn pt nk ks 2 f)=QAI 0 num tk tl th ⟨#[]⟩ ts tn np nk 0:=rfl;rw[hfn,hfm];rw[ho]at HO;clear hfn hfm hok he1 hA hA' hf hf' hv1 h ho;generalize QAI 0 num' tk' tl' th' s' ts' tn' np' nk' 0=R2 at*;generalize QAI 0 num tk tl th ⟨#[]⟩ ts tn np nk 0=R1 at*;have HI0:=hd0 ih0;have HI2:=hd0 ih2;clear ih0 ih2;generalize (Ex.mk k num s (.mk tk tl th ts tn tf) np pn pt nk ks 2 f).arg 0=e0 at*;generalize ((Ex.mk k num s (.mk tk tl th ts tn tf) np pn pt nk ks 2 f).arg 1).arg 2=e2 at*;generalize Ex.ok e0 ⟨#[]⟩=R3 at*;generalize Ex.ok e2 ⟨#[]⟩=R4 at*;have HW:=hd0 (And.intro hW (And.intro hE h9));clear hW hE h9;go_enter func84,ntmps84;go_upto_region 1 with fail;refine QA8 (fun wx=>Hid (Below w.heap.size w wx∧BoxAt wx w.heap.size #[.int .i64 k,.string s,.int .i64 num,.int .i64 tk,.string ts,.int .i64 tl,.int .i64 th,.slice tp tn tc,.slice pp np cp,.slice pk nk ck,.slice (some ⟨qb,qo,none⟩) 2 ca])) (hd0 ⟨(Below.refl _ _).alloc (Nat.le_refl _) _,QAS w _ _⟩) ?_;intro w1 H1
 go_wp2_with (refine QAx 29 _ rfl rfl w.heap.size 0 #[.int .i64 k,.string s,.int .i64 num,.int .i64 tk,.string ts,.int .i64 tl,.int .i64 th,.slice tp tn tc,.slice pp np cp,.slice pk nk ck,.slice (some ⟨qb,qo,none⟩) 2 ca] _ underlying29 rfl infoEx (fun j v hj=>by rw[Nat.zero_add];exact H1.out.2 j v hj) ?_)
 refine(HO.out w1 (HW.out.1.trans (H1.out.1.mono HW.out.1.size))).mono ?_;rintro r w2 ⟨⟨X,Y,hX,hX1,hY,hY1,rfl,hO⟩,hb2⟩;have H2:=hd0 (show Below w.heap.size w w2∧BoxAt w2 w.heap.size #[.int .i64 k,.string s,.int .i64 num,.int .i64 tk,.string ts,.int .i64 tl,.int .i64 th,.slice tp tn tc,.slice pp np cp,.slice pk nk ck,.slice (some ⟨qb,qo,none⟩) 2 ca] from⟨H1.out.1.trans (hb2.mono H1.out.1.size),fun j v hj=>QAA hb2 (H1.out.2 j v hj)⟩);have HX:=hd0 (And.intro hX (And.intro hX1 (And.intro hY (And.intro hY1 (hO trivial)))));clear hX hX1 hY hY1 hO hb2 H1 HO
 go_upto_region 2 with (first
  |refine QAQ 29 (.tmp 5) (.tmp 16) rfl rfl rfl w2.heap.size #[.int .i64 0,.string ⟨#[]⟩,.int .i64 0,.int .i64 0,.string ⟨#[]⟩,.int .i64 0,.int .i64 0,.slice none 0 0,.slice none 0 0,.slice none 0 0,.slice none 0 0] X 29 (by rfl) (by rfl) (QI5 w2) (infoEx.trans (by rw[HX.out.1])) HX.out.1.symm HX.out.2.1 ?_
  |refine QAQ 29 (.tmp 6) (.tmp 17) rfl rfl rfl (w2.heap.size+1) #[.int .i64 0,.string ⟨#[]⟩,.int .i64 0,.int .i64 0,.string ⟨#[]⟩,.int .i64 0,.int .i64 0,.slice none 0 0,.slice none 0 0,.slice none 0 0,.slice none 0 0] Y 29 (by rfl) (by rfl) (QI6 w2 X) (infoEx.trans (by rw[HX.out.2.2.1])) HX.out.2.2.1.symm HX.out.2.2.2.1 ?_)
 refine QA8 (fun wx=>Hid (Below w.heap.size w wx∧BoxAt wx w.heap.size #[.int .i64 k,.string s,.int .i64 num,.int .i64 tk,.string ts,.int .i64 tl,.int .i64 th,.slice tp tn tc,.slice pp np cp,.slice pk nk ck,.slice (some ⟨qb,qo,none⟩) 2 ca]∧BoxAt wx w2.heap.size X∧BoxAt wx (w2.heap.size+1) Y)) (hd0 ⟨H2.out.1.trans ((QA0 w2 X Y).1.mono H2.out.1.size),fun j v hj=>QAA (QA0 w2 X Y).1 (H2.out.2 j v hj),(QA0 w2 X Y).2⟩) ?_;intro w3 H3;generalize w2.heap.size=g at*;have c10:=H3.out.2.1 10 _ rfl;have C1:=hd0 ((HC1.out.under HW.out.1).under H3.out.1)
 go_upto_region 4 with (first
  |refine QAx 29 _ rfl rfl qb (qo+11) #[.int .i64 k',.string s',.int .i64 num',.int .i64 tk',.string ts',.int .i64 tl',.int .i64 th',.slice tp' tn' tc',.slice pp' np' cp',.slice pk' nk' ck',.slice pa' n' ca'] _ underlying29 rfl infoEx C1.out ?_
  |refine QAK 29 (.tmp 8) (.tmp 23) rfl rfl rfl w3 #[.int .i64 0,.string ⟨#[]⟩,.int .i64 0,.int .i64 0,.string ⟨#[]⟩,.int .i64 0,.int .i64 0,.slice none 0 0,.slice none 0 0,.slice none 0 0,.slice none 0 0] #[.int .i64 k',.string s',.int .i64 num',.int .i64 tk',.string ts',.int .i64 tl',.int .i64 th',.slice tp' tn' tc',.slice pp' np' cp',.slice pk' nk' ck',.slice pa' n' ca'] rfl rfl rfl infoEx rfl (by simp[Value.oneCell']) ?_)
 have hb34:Below w3.heap.size w3 (w3.alloc (.cells #[.int .i64 k',.string s',.int .i64 num',.int .i64 tk',.string ts',.int .i64 tl',.int .i64 th',.slice tp' tn' tc',.slice pp' np' cp',.slice pk' nk' ck',.slice pa' n' ca'] 29)):=(Below.refl _ _).alloc (Nat.le_refl _) _;refine QA8 (fun wx=>Hid (Below w.heap.size w wx∧BoxAt wx w.heap.size #[.int .i64 k,.string s,.int .i64 num,.int .i64 tk,.string ts,.int .i64 tl,.int .i64 th,.slice tp tn tc,.slice pp np cp,.slice pk nk ck,.slice (some ⟨qb,qo,none⟩) 2 ca]∧BoxAt wx g X∧BoxAt wx (g+1) Y∧BoxAt wx w3.heap.size #[.int .i64 k',.string s',.int .i64 num',.int .i64 tk',.string ts',.int .i64 tl',.int .i64 th',.slice tp' tn' tc',.slice pp' np' cp',.slice pk' nk' ck',.slice pa' n' ca'])) (hd0 ⟨H3.out.1.trans (hb34.mono H3.out.1.size),fun j v hj=>QAA hb34 (H3.out.2.1 j v hj),fun j v hj=>QAA hb34 (H3.out.2.2.1 j v hj),fun j v hj=>QAA hb34 (H3.out.2.2.2 j v hj),QAS w3 _ _⟩) ?_;intro w4 H4;clear hb34 c10 H3 C1 HC1;generalize w3.heap.size=g8 at*
 go_wp2_with (refine QAx 29 _ rfl rfl w.heap.size 0 #[.int .i64 k,.string s,.int .i64 num,.int .i64 tk,.string ts,.int .i64 tl,.int .i64 th,.slice tp tn tc,.slice pp np cp,.slice pk nk ck,.slice (some ⟨qb,qo,none⟩) 2 ca] _ underlying29 rfl infoEx (fun j v hj=>by rw[Nat.zero_add];exact H4.out.2.1 j v hj) ?_)
 refine(HF1.out w4 (HW.out.2.1.below (HW.out.1.trans (H4.out.1.mono HW.out.1.size)))).mono ?_;rintro r w5 ⟨rfl,hb5⟩;have H5:=hd0 (show Below w.heap.size w w5∧BoxAt w5 g X∧BoxAt w5 (g+1) Y∧BoxAt w5 g8 #[.int .i64 k',.string s',.int .i64 num',.int .i64 tk',.string ts',.int .i64 tl',.int .i64 th',.slice tp' tn' tc',.slice pp' np' cp',.slice pk' nk' ck',.slice pa' n' ca'] from⟨H4.out.1.trans (hb5.mono H4.out.1.size),fun j v hj=>QAA hb5 (H4.out.2.2.1 j v hj),fun j v hj=>QAA hb5 (H4.out.2.2.2.1 j v hj),fun j v hj=>QAA hb5 (H4.out.2.2.2.2 j v hj)⟩);clear hb5 H4 HF1
 cases R1 with
 |false=>
  go_wp2;go_ret;exact⟨by simp,H5.out.1⟩
 |true=>
 go_wp2_with (refine QA4 29 _ rfl (by rfl) g8 0 #[.int .i64 k',.string s',.int .i64 num',.int .i64 tk',.string ts',.int .i64 tl',.int .i64 th',.slice tp' tn' tc',.slice pp' np' cp',.slice pk' nk' ck',.slice pa' n' ca'] _ underlying29 rfl infoEx (fun j v hj=>by rw[Nat.zero_add];exact H5.out.2.2.2 j v hj) ?_)
 refine(HF2.out w5 (HW.out.2.1.below (HW.out.1.trans (H5.out.1.mono HW.out.1.size)))).mono ?_;rintro r w6 ⟨rfl,hb6⟩;have H6:=hd0 (show Below w.heap.size w w6∧BoxAt w6 g X∧BoxAt w6 (g+1) Y from⟨H5.out.1.trans (hb6.mono H5.out.1.size),fun j v hj=>QAA hb6 (H5.out.2.1 j v hj),fun j v hj=>QAA hb6 (H5.out.2.2.1 j v hj)⟩);clear hb6 H5 HF2
 cases R2 with
 |false=>
  go_wp2;go_ret;exact⟨by simp,H6.out.1⟩
 |true=>
 go_wp2_with (refine QA4 29 _ rfl (by rfl) g 0 X _ underlying29 rfl (infoEx.trans (by rw[HX.out.1])) (fun j v hj=>by rw[Nat.zero_add];exact H6.out.2.1 j v hj) ?_)
 refine(HI0.out _ HX.out.2.2.2.2.1 w6 (HW.out.1.trans (H6.out.1.mono HW.out.1.size))).mono ?_;rintro r w7 ⟨rfl,hb7⟩;have H7:=hd0 (show Below w.heap.size w w7∧BoxAt w7 (g+1) Y from⟨H6.out.1.trans (hb7.mono H6.out.1.size),fun j v hj=>QAA hb7 (H6.out.2.2 j v hj)⟩);clear hb7 H6 HI0
 cases R3 with
 |false=>
  go_wp2;go_ret;exact⟨by simp,H7.out.1⟩
 |true=>
 go_wp2_with (refine QA4 29 _ rfl (by rfl) (g+1) 0 Y _ underlying29 rfl (infoEx.trans (by rw[HX.out.2.2.1])) (fun j v hj=>by rw[Nat.zero_add];exact H7.out.2 j v hj) ?_)
 refine(HI2.out _ HX.out.2.2.2.2.2 w7 (HW.out.1.trans (H7.out.1.mono HW.out.1.size))).mono ?_;rintro r w8 ⟨rfl,hb8⟩;have H8:=hd0 (show Below w.heap.size w w8 from H7.out.1.trans (hb8.mono H7.out.1.size));clear hb8 H7 HI2
 cases R4
 all_goals go_wp2
 all_goals go_ret
 all_goals exact⟨by simp,H8.out⟩
end Go.Proofs.YtjnclkakbopnjaaGreatDoor
