/- XChkG, XChkH, XChkI, XChkJ, XChkK, XChkL -/
import Derived.Test.YtjnclkakbopnjaaGreatDoorLot14
import Derived.Maps.OwnSet
import Derived.Maps.OwnOps
import Derived.Maps.Views
import Derived.Maps.AppendAt
set_option linter.unusedSimpArgs false
set_option linter.unusedVariables false
set_option maxRecDepth 100000
set_option maxHeartbeats 4000000
namespace Go.Proofs.YtjnclkakbopnjaaGreatDoor
open Go.Proofs.Tryz
open Go.RowKit Go.WideMaps Go.Maps
def QMu(a b:ByteArray):Bool:=a.data.toList==b.data.toList
def QKK(ks:Nat→ByteArray)(i:Nat):Bool:=(List.range i).any fun j=>QMu (ks j) (ks i)
def QAk(n:Nat)(ks:Nat→ByteArray):Bool:=(List.range n).all fun i=>!QKK ks i
theorem QAT(n:Nat)(q:Nat→Bool):(List.range (n+1)).all q=((List.range n).all q&&q n):=by rw[List.range_succ,List.all_append];simp
theorem QCP {n i:Nat}{q:Nat→Bool}(hi:i<n)(h:q i=false):(List.range n).all q=false:=by
 rw[List.all_eq_false];exact⟨i,List.mem_range.2 hi,by simp[h]⟩
theorem law9:Keyed prog 9:=string_keyed underlying9
theorem QUW(w:World):(zeroValue 4).run prog w= .ok (.bool false) w:=by kernel_rfl
theorem QPW {v:Value}{q:Bool}{ps:List MemPlace}(h:plainElem (H:=Unit) prog 4 v=some (.lit (.bool q),ps)):v= .bool q:=by
 unfold plainElem at h;rw[underlying4]at h
 cases v <;> simp at h
 rw[h.1]
structure QSP(w wr:World)(ks:Nat→ByteArray)(i:Nat)(D:DataW Unit):Prop where
 own:wr.ownsMap prog 9 (plainElem prog 4) w.heap.size i D
 at_:∀l,D.atKey (.string l) (.lit (.bool false))= .lit (.bool ((List.range i).any fun j=>(ks j).data.toList==l))
 below:Below w.heap.size w wr
 all:(List.range i).all (fun i=>!QKK ks i)=true
theorem QHH {W:World}{n:Nat}{p:Option Addr}{ks:Nat→ByteArray}(h:StrR W n p ks)(w:World)(hW:Below W.heap.size W w)(c:Nat):
  Calls prog 115 #[.slice p n c] w fun e w'=>e= .returned (.bool (QAk n ks))∧Below w.heap.size w w':=by
 obtain⟨hn,A,hA,hK⟩:=h;have hn2:n≤1100000:=hn;have HA:=hd0 hA;have HK:=hd0 hK;have HW:=hd0 hW;have hW0:=hW.size;have hmm:= @run_makeMap prog;clear hA hK hW;go_enter func115,ntmps115;go_wp2
 go_loopw [9] (fun v9 wr=>∃i:Nat,i≤n∧v9= .int .i64 i∧Hid (∃D,QSP w wr ks i D)) (fun v9 _=>n - (intOf v9).toNat)
 case atStart=>exact⟨0,Nat.zero_le _,rfl,hd0 ⟨.map [],World.ownsMap_made _ _ _ _,fun l=>rfl,(Below.refl _ _).alloc (Nat.le_refl _) _,rfl⟩⟩
 case round=>
  obtain⟨i,hi,rfl,HR⟩:=hrel;obtain⟨D,hr⟩:=HR.out
  by_cases hlt:i<n
  ·
   have g1:decide ((i:Int)<n)=true:=decide_eq_true (by omega);have HWr:=hd0 (show Below W.heap.size W wr from HW.out.trans (hr.below.mono hW0));obtain⟨qb,qo,rfl,hpc⟩:=(HA.out.below HWr.out).at_ (by omega);have e0:=hpc i hlt 0 (by decide);obtain⟨hk1,hk2⟩:=HK.out i hlt;rw[hk1]at e0;simp only[Nat.mul_one,Nat.add_zero]at e0;have q0:(0:Int)≤i:=by omega
   have q1:(i:Int)<n:=by omega
   have hdup:QKK ks i=(List.range i).any fun j=>(ks j).data.toList==(ks i).data.toList:=rfl
   have hat:=hr.at_ (ks i).data.toList;rw[←hdup]at hat;have hkey:keyOf prog 9 (.string (ks i))=some (.string (ks i).data.toList):=keyOf_string_mk underlying9 (by unfold maxLen QDP at*;omega);obtain⟨v,ps,hrun,hv⟩:=hr.own.lookup law9 underlying224 (QUW wr) (plainElem_bool underlying4 false) hkey;rw[hat]at hv;obtain rfl:=QPW hv;have HR:=hd0 hr;have HKEY:=hd0 hkey;clear hpc hk1 hat hv hr hdup;generalize hs:ks i=s at*
   cases hq:QKK ks i with
   |true=>
    rw[hq]at hrun;have HQ:=hd0 hq;clear hq hs;go_wp2;go_ret;exact⟨by unfold QAk;rw[QCP (q:=fun i=>!QKK ks i) hlt (by simp[HQ.out])];rfl,HR.out.below⟩
   |false=>
    rw[hq]at hrun;have HQ:=hd0 hq;have HSS:=hd0 hs;clear hq hs
    go_wp2_with (refine wpList_mapUpdate_own _ rfl _ _ _ 224 rfl 9 4 law9 underlying224 _ w.heap.size i _ rfl HR.out.own (by unfold maxLen;omega) _ _ _ rfl rfl HKEY.out _ [] (plainElem_bool underlying4 true) ?_)
    intro w1 hown1 hgrow1
    have HN:=hd0 (show∃D,QSP w w1 ks (i+1) D from⟨_,hown1,fun l=>by
      by_cases hl:s.data.toList=l
      ·
       subst hl;rw[atKey_put_same HR.out.own.isMap (law9.key HKEY.out),QEV,HSS.out];simp
      ·
       rw[atKey_put_other (fun e=>hl (by injection e with e;exact e.symm)),HR.out.at_,QEV,HSS.out]
       simp[hl],HR.out.below.grown hgrow1 HR.out.below.size (fun j hj=>by cases hj;exact Nat.le_refl _),by rw[QAT,HR.out.all,HQ.out];rfl⟩)
    clear hown1 hgrow1 hrun e0;go_wp2;go_roundw
    case rel=>exact⟨i+1,by omega,by go_num,HN⟩
    case measure=>simp[intOf];omega
  ·
   have g1:decide ((i:Int)<n)=false:=decide_eq_false (by omega);obtain rfl:i=n:=by omega
   have HR:=hd0 hr;clear hr;go_wp2;go_ret;exact⟨by unfold QAk;rw[HR.out.all];rfl,HR.out.below⟩
def QLb(s:ByteArray):Bool:=QBb (s.data.toList++ [58])==3
theorem QNu(s:ByteArray)(w:World)(hE:Env w)(hs:s.size≤1100000)(h9:9≤w.heap.size):Calls prog 160 #[.string s] w fun e w'=>e= .returned (.bool (QLb s))∧Below w.heap.size w w':=by
 have hk:=QIO (s++⟨#[58]⟩) w hE (by rw[ByteArray.size_append];show s.size+1≤maxLen;unfold maxLen;omega) h9;have hd:(s++(⟨#[58]⟩:ByteArray)).data.toList=s.data.toList++ [58]:=by rw[ByteArray.data_append,Array.toList_append]
 rw[hd]at hk;have he:=QDV (QBb (s.data.toList++ [58])) 3;have HQ:=hd0 (show QLb s=(QBb (s.data.toList++ [58])==3)from rfl);generalize QBb (s.data.toList++ [58])=k at*;have HK:=hd0 hk;have HI:=hd0 he;clear hE h9 hk hd he;go_enter func160,ntmps160
 go_wp2_with fail
 refine HK.out.mono ?_;rintro e w1 ⟨rfl,hb⟩;have HB:=hd0 hb;clear hb;go_wp2;go_ret;exact⟨by rw[HQ.out,←HI.out];rfl,HB.out⟩
theorem QGu {W:World}(hE:Env W)(h9:9≤W.heap.size)(s:ByteArray)(x1 x2 x3 x4 x5:Value){t:Ty}(hs:s.size≤QDP)(ht:TyR W (.agg #[x1,x2,x3,x4,x5]) t)(w:World)(hW:Below W.heap.size W w):
  Calls prog 215 #[.agg #[.string s,x1,x2,x3,x4,x5]] w fun e w'=>e= .returned (.bool (QAs s&&t.ok))∧Below w.heap.size w w':=by
 have HN:=hd0 (fun w1 (hw1:Below W.heap.size W w1)=>QCV s w1 (hE.below hw1) hs (by have:=hw1.size;omega));have HT:=hd0 (fun w1 (hw1:Below W.heap.size W w1)=>QDp hE h9 ht w1 hw1);have HW:=hd0 hW;have hW0:=hW.size;obtain⟨k,lo,hi,sx,n,p,c,f,e, -, -, -⟩:=ht.cells;injection e with e
 simp only[Array.mk.injEq,List.cons.injEq,and_true]at e;obtain⟨rfl,rfl,rfl,rfl,rfl⟩:=e;clear hE h9 ht hW;generalize QAs s=X at*;generalize t.ok=T at*;go_enter func215,ntmps215
 go_wp2_with fail
 refine(HN.out _ (HW.out.trans ((show Below w.heap.size w (w.alloc _)from(Below.refl _ _).alloc (Nat.le_refl _) _).mono hW0))).mono ?_;rintro e w1 ⟨rfl,hb1⟩;have HB1:=hd0 (show Below w.heap.size w w1 from((Below.refl w.heap.size w).alloc (Nat.le_refl _) _).trans (hb1.mono (by simp)))
 cases X with
 |false=>
  clear hb1;go_wp2;go_ret;exact⟨rfl,HB1.out⟩
 |true=>
  have c1:w1.cell? ⟨w.heap.size,1,none⟩=some (.int .i64 k):=QAA hb1 (by simp[go_sem]);have c2:w1.cell? ⟨w.heap.size,2,none⟩=some (.string sx):=QAA hb1 (by simp[go_sem]);have c3:w1.cell? ⟨w.heap.size,3,none⟩=some (.int .i64 lo):=QAA hb1 (by simp[go_sem]);have c4:w1.cell? ⟨w.heap.size,4,none⟩=some (.int .i64 hi):=QAA hb1 (by simp[go_sem]);have c5:w1.cell? ⟨w.heap.size,5,none⟩=some (.slice p n c):=QAA hb1 (by simp[go_sem]);clear hb1
  go_wp2_with fail
  refine(HT.out w1 (HW.out.trans (HB1.out.mono hW0))).mono ?_;rintro e w2 ⟨rfl,hb2⟩;have HB2:=hd0 (show Below w.heap.size w w2 from HB1.out.trans (hb2.mono HB1.out.size));clear hb2;go_wp2;go_ret;exact⟨by simp,HB2.out⟩
theorem QRT:(prog.info? 9).map (fun i=>(i.zero,i.size,i.bytes))=some (some (.string ⟨#[]⟩),1,16):=by kernel_rfl
theorem QE8 {ops:Array Oper}{rest:List Oper}{oi:Oper}{a:Act}{Q:Exit→Act→World→Prop}{w7:World}(u:ByteArray)(hgd:oi.guard=none)(s x:Operand)
  (ho:oi.op= .call {callee:= .builtin .append,args:=#[s,x],argTypes:=#[26,26]}) (base:Nat) (v:Value) (n:Nat) (xs:List Value) (hs:a.eval s=v) (hown:w7.ownsRow base 9 1 v n xs)
  (hx:a.eval x= .slice (some ⟨w7.heap.size,0,none⟩) 1 1) (hn:n≤10000000) (hb:base≤w7.heap.size)
  (h:∀v' w',w'.ownsRow base 9 1 v' (n+1) (xs++ [.string u])→(w7.alloc (.cells #[.string u] 9)).grownBy w' v.ownBlock→wpList prog ops Q rest (a.put oi.dst v') w'):
  wpList prog ops Q (oi::rest) a (w7.alloc (.cells #[.string u] 9)):=by
 obtain⟨i0,hi0,hz0,hz1,hz2⟩:=info_parts QRT;refine wpList_append_own_at _ hgd s x 26 ho base 9 i0 _ 1 16 underlying26 hi0 hz0 hz1 hz2 rfl (by decide) v n xs hs (hown.kept (row:=none) ⟨rfl,rfl,rfl,by simp,fun j hj _=>Below.heap_alloc _ _ _ hj⟩ (by cases v.ownBlock <;> simp)) ⟨w7.heap.size,0,none⟩ 1 1 [.string u] hx (by simp) (fun j y hj=>?_) (fun y hy=>?_) (by unfold maxLen;omega) (by omega) (by rw[World.size_alloc];omega) (fun v' w' k1 k2 _ _=>h v' w' k1 k2)
 ·
  have hj0:j=0:=by
   have:=(List.getElem?_eq_some_iff.1 hj).1;simp at this;omega
  subst hj0;exact QAS w7 #[.string u] _ 0 y (by simpa using hj)
 ·
  simp at hy;subst hy;rfl
theorem QIb {w:World}{B n:Nat}{v:Value}{xs:List Value}(h:w.ownsRow B 9 1 v n xs):∃q c,v= .slice q n c∧Row w 1 q n (fun i _=>xs.getD i undef):=by
 obtain⟨hl,⟨rfl,h0⟩|⟨g,cap,cur,rfl, -,hg, -, -, -,ht⟩⟩:=h
 ·
  exact⟨none,0,by rw[h0],fun i hi=>absurd hi (by omega)⟩
 ·
  refine⟨_,_,rfl,fun i hi=>⟨g,0,rfl,fun j hj=>?_⟩⟩;obtain rfl:j=0:=by omega
  have h1:(cur.toList.take (n*1))[i]?=xs[i]?:=by rw[ht]
  rw[List.getElem?_take_of_lt (by omega),Array.getElem?_toList]at h1
  have h2:xs[i]?=some (xs.getD i undef):=by
   have:i<xs.length:=by omega
   simp[List.getD_eq_getElem?_getD,List.getElem?_eq_getElem this]
  simp only[World.cell?,hg,Nat.zero_add,Nat.mul_one,Nat.add_zero];rw[h1,h2];rfl
def QD0(n:Nat)(pn:Nat→ByteArray)(pt:Nat→Ty):Bool:=decide (n≤6)&&QAk n pn&&(List.range n).all fun i=>QAs (pn i)&&(pt i).ok
theorem QHx {W:World}(hE:Env W)(h9:9≤W.heap.size){n:Nat}{p:Option Addr}{pn:Nat→ByteArray}{pt:Nat→Ty}(h:ParR W n p pn pt)(w:World)(hW:Below W.heap.size W w)(c:Nat):
  Calls prog 159 #[.slice p n c] w fun e w'=>e= .returned (.bool (QD0 n pn pt))∧Below w.heap.size w w':=by
 obtain⟨hn,A,hA,hP⟩:=h;have hn2:n≤1100000:=hn
 have HEV:=hd0 (fun w1 (hw1:Below W.heap.size W w1)=>QJJ (c:=c) hn2 hA (g:=215) (cap:=#[]) (q:=fun i=>QAs (pn i)&&(pt i).ok) ⟨⟨_,func215,by kernel_rfl,by kernel_rfl⟩,fun i hi w2 hw2=>(by
  obtain⟨h0,h1,h2⟩:=hP i hi;have:=QGu hE h9 (pn i) (A i 1) (A i 2) (A i 3) (A i 4) (A i 5) h1 h2 w2 hw2;rw[←h0]at this
  exact this)⟩ w1 hw1)
 have HA:=hd0 hA;have HP:=hd0 hP;have HW:=hd0 hW;have hW0:=hW.size;clear hA hP hW hE h9;go_enter func159,ntmps159;go_wp2
 go_loopw [3,8] (fun v3 v8 wr=>∃i:Nat,i≤n∧v8= .int .i64 i∧Hid (wr.ownsRow w.heap.size 9 1 v3 i ((List.range i).map fun j=> .string (pn j))∧Below w.heap.size w wr)) (fun _ v8 _=>n - (intOf v8).toNat)
 case atStart=>exact⟨0,Nat.zero_le _,rfl,hd0 ⟨World.ownsRow_nil ..,Below.refl _ _⟩⟩
 case round=>
  obtain⟨i,hi,rfl,HR⟩:=hrel;have hwr:=HR.out.2.size
  by_cases hlt:i<n
  ·
   have g1:decide ((i:Int)<n)=true:=decide_eq_true (by omega);have HWr:=hd0 (show Below W.heap.size W wr from HW.out.trans (HR.out.2.mono hW0));obtain⟨qb,qo,rfl,hpc⟩:=(HA.out.below HWr.out).at_ (by omega);have e0:=hpc i hlt 0 (by decide);have e1:=hpc i hlt 1 (by decide);have e2:=hpc i hlt 2 (by decide);have e3:=hpc i hlt 3 (by decide);have e4:=hpc i hlt 4 (by decide);have e5:=hpc i hlt 5 (by decide);rw[(HP.out i hlt).1]at e0;simp only[Nat.add_zero]at e0;obtain⟨k,lo,h0,sx,m,pp,cc,f,e, -, -, -⟩:=(HP.out i hlt).2.2.cells;injection e with e
   simp only[Array.mk.injEq,List.cons.injEq,and_true]at e;obtain⟨f1,f2,f3,f4,f5⟩:=e;rw[f1]at e1;rw[f2]at e2;rw[f3]at e3;rw[f4]at e4;rw[f5]at e5;clear f1 f2 f3 f4 f5;have q0:(0:Int)≤i:=by omega
   have q1:(i:Int)<n:=by omega
   clear hpc;have HO:=hd0 (fun(o:Obj)=>HR.out.1.kept (w':=wr.alloc o) (row:=none) ⟨rfl,rfl,rfl,by simp,fun j hj _=>Below.heap_alloc wr o j hj⟩ (by cases u3.ownBlock <;> simp))
   go_wp2_with (refine QE8 (pn i) rfl (.tmp 12) (.tmp 15) rfl w.heap.size u3 i _ rfl (HO.out _) (by show Value.slice (some ⟨wr.heap.size+1,0,none⟩) 1 1=_;rw[World.size_alloc]) (by omega) (by rw[World.size_alloc];omega) ?_)
   intro v' w' how hgr
   have HN:=hd0 (show w'.ownsRow w.heap.size 9 1 v' (i+1) ((List.range (i+1)).map fun j=> .string (pn j))∧Below w.heap.size w w' from by
    refine⟨by rw[List.range_succ,List.map_append];exact how,?_⟩;refine((HR.out.2.alloc hwr _).alloc (by rw[World.size_alloc];omega) _).grown hgr (by simp;omega) (fun k hk=>?_)
    exact(HR.out.1.lt k hk).1)
   clear how hgr e0 e1 e2 e3 e4 e5;go_wp2;go_roundw
   case rel=>exact⟨i+1,by omega,by go_num,HN⟩
   case measure=>simp[intOf];omega
  ·
   have g1:decide ((i:Int)<n)=false:=decide_eq_false (by omega);obtain rfl:i=n:=by omega
   obtain⟨q,cq,rfl,hrow⟩:=QIb HR.out.1;have HD:=hd0 (QHH (W:=wr) (show StrR wr i q pn from⟨hn,_,hrow,fun j hj=>⟨by simp[List.getD_eq_getElem?_getD,hj],(HP.out j hj).2.1⟩⟩) wr (Below.refl _ _) cq);clear hrow;have HPB:=hd0 (show QD0 i pn pt=(decide ((i:Int)≤6)&&QAk i pn&&(List.range i).all fun j=>QAs (pn j)&&(pt j).ok)from by unfold QD0;rw[show decide ((i:Int)≤6)=decide (i≤6)from decide_eq_decide.2 (by omega)]);generalize QAk i pn=D at*;generalize ((List.range i).all fun j=>QAs (pn j)&&(pt j).ok)=E at*
   cases e6:decide ((i:Int)≤6)with
   |false=>
    have HE:=hd0 HPB.out;rw[e6]at HE;clear HPB;go_wp2;go_ret;exact⟨by rw[HE.out];rfl,HR.out.2⟩
   |true=>
    have HE:=hd0 HPB.out;rw[e6]at HE;clear HPB
    go_wp2_with fail
    refine HD.out.mono ?_;rintro e w1 ⟨rfl,hb1⟩;have HB1:=hd0 (show Below w.heap.size w w1 from HR.out.2.trans (hb1.mono hwr));clear hb1
    cases D with
    |false=>
     go_wp2;go_ret;exact⟨by rw[HE.out];rfl,HB1.out⟩
    |true=>
     go_wp2_with fail
     refine(HEV.out w1 (HW.out.trans (HB1.out.mono hW0))).mono ?_;rintro e w2 ⟨rfl,hb2⟩;have HB2:=hd0 (show Below w.heap.size w w2 from HB1.out.trans (hb2.mono HB1.out.size));clear hb2;go_wp2;go_ret;exact⟨by rw[HE.out];simp,HB2.out⟩
def twoOps:List (List UInt8):= [[43], [45], [42], [113,117,111,116,105,101,110,116], [60], [60,61], [62], [62,61], [61], [61,61]]
def oneOps:List (List UInt8):= [[110,111,116], [112,114,105,110,116], [115,105,103,110,97,108], [99,108,97,115,115,45,111,102]]
def QQv(s:ByteArray):Int:=if twoOps.contains s.toList then 2 else if oneOps.contains s.toList then 1 else -1
theorem QJj(s:ByteArray)(w:World):Calls prog 161 #[.string s] w fun e w'=>e= .returned (.int .i64 (QQv s))∧w'=w:=by
 have HO:=hd0 (show QQv s=if twoOps.contains s.toList then 2 else if oneOps.contains s.toList then 1 else -1 from rfl);generalize QQv s=r at*
 by_cases h0:s.toList= [43]
 ·
  have hr:r=2:=by rw[HO.out,h0];decide
  subst hr;clear HO;go_enter func161,ntmps161;go_wp2;go_ret;exact⟨rfl,rfl⟩
 have e0:(s.toList== [43])=false:=beq_eq_false_iff_ne.2 h0
 by_cases h1:s.toList= [45]
 ·
  have hr:r=2:=by rw[HO.out,h1];decide
  subst hr;clear HO;go_enter func161,ntmps161;go_wp2;go_ret;exact⟨rfl,rfl⟩
 have e1:(s.toList== [45])=false:=beq_eq_false_iff_ne.2 h1
 by_cases h2:s.toList= [42]
 ·
  have hr:r=2:=by rw[HO.out,h2];decide
  subst hr;clear HO;go_enter func161,ntmps161;go_wp2;go_ret;exact⟨rfl,rfl⟩
 have e2:(s.toList== [42])=false:=beq_eq_false_iff_ne.2 h2
 by_cases h3:s.toList= [113,117,111,116,105,101,110,116]
 ·
  have hr:r=2:=by rw[HO.out,h3];decide
  subst hr;clear HO;go_enter func161,ntmps161;go_wp2;go_ret;exact⟨rfl,rfl⟩
 have e3:(s.toList== [113,117,111,116,105,101,110,116])=false:=beq_eq_false_iff_ne.2 h3
 by_cases h4:s.toList= [60]
 ·
  have hr:r=2:=by rw[HO.out,h4];decide
  subst hr;clear HO;go_enter func161,ntmps161;go_wp2;go_ret;exact⟨rfl,rfl⟩
 have e4:(s.toList== [60])=false:=beq_eq_false_iff_ne.2 h4
 by_cases h5:s.toList= [60,61]
 ·
  have hr:r=2:=by rw[HO.out,h5];decide
  subst hr;clear HO;go_enter func161,ntmps161;go_wp2;go_ret;exact⟨rfl,rfl⟩
 have e5:(s.toList== [60,61])=false:=beq_eq_false_iff_ne.2 h5
 by_cases h6:s.toList= [62]
 ·
  have hr:r=2:=by rw[HO.out,h6];decide
  subst hr;clear HO;go_enter func161,ntmps161;go_wp2;go_ret;exact⟨rfl,rfl⟩
 have e6:(s.toList== [62])=false:=beq_eq_false_iff_ne.2 h6
 by_cases h7:s.toList= [62,61]
 ·
  have hr:r=2:=by rw[HO.out,h7];decide
  subst hr;clear HO;go_enter func161,ntmps161;go_wp2;go_ret;exact⟨rfl,rfl⟩
 have e7:(s.toList== [62,61])=false:=beq_eq_false_iff_ne.2 h7
 by_cases h8:s.toList= [61]
 ·
  have hr:r=2:=by rw[HO.out,h8];decide
  subst hr;clear HO;go_enter func161,ntmps161;go_wp2;go_ret;exact⟨rfl,rfl⟩
 have e8:(s.toList== [61])=false:=beq_eq_false_iff_ne.2 h8
 by_cases h9:s.toList= [61,61]
 ·
  have hr:r=2:=by rw[HO.out,h9];decide
  subst hr;clear HO;go_enter func161,ntmps161;go_wp2;go_ret;exact⟨rfl,rfl⟩
 have e9:(s.toList== [61,61])=false:=beq_eq_false_iff_ne.2 h9
 by_cases h10:s.toList= [110,111,116]
 ·
  have hr:r=1:=by rw[HO.out,h10];decide
  subst hr;clear HO;go_enter func161,ntmps161;go_wp2;go_ret;exact⟨rfl,rfl⟩
 have e10:(s.toList== [110,111,116])=false:=beq_eq_false_iff_ne.2 h10
 by_cases h11:s.toList= [112,114,105,110,116]
 ·
  have hr:r=1:=by rw[HO.out,h11];decide
  subst hr;clear HO;go_enter func161,ntmps161;go_wp2;go_ret;exact⟨rfl,rfl⟩
 have e11:(s.toList== [112,114,105,110,116])=false:=beq_eq_false_iff_ne.2 h11
 by_cases h12:s.toList= [115,105,103,110,97,108]
 ·
  have hr:r=1:=by rw[HO.out,h12];decide
  subst hr;clear HO;go_enter func161,ntmps161;go_wp2;go_ret;exact⟨rfl,rfl⟩
 have e12:(s.toList== [115,105,103,110,97,108])=false:=beq_eq_false_iff_ne.2 h12
 by_cases h13:s.toList= [99,108,97,115,115,45,111,102]
 ·
  have hr:r=1:=by rw[HO.out,h13];decide
  subst hr;clear HO;go_enter func161,ntmps161;go_wp2;go_ret;exact⟨rfl,rfl⟩
 have e13:(s.toList== [99,108,97,115,115,45,111,102])=false:=beq_eq_false_iff_ne.2 h13
 have hr:r= -1:=by
  rw[HO.out];simp only[twoOps,oneOps,List.contains_cons,List.contains_nil,e0,e1,e2,e3,e4,e5,e6,e7,e8,e9,e10,e11,e12,e13]
  decide
 subst hr;clear HO h0 h1 h2 h3 h4 h5 h6 h7 h8 h9 h10 h11 h12 h13;go_enter func161,ntmps161;go_wp2;go_ret;exact⟨rfl,rfl⟩
def QAI(k num tk tl th:Int)(s ts:ByteArray)(tn np nk n:Nat):Bool:=k==0&&QAW s&&num==0&&(tk==0&&QAW ts&&tl==0&&th==0&&((tn:Int)==0))&&((np:Int)==0)&&((nk:Int)==0)&&((n:Int)==0)
theorem QAr(k num tk tl th:Int)(s ts:ByteArray)(tp pp pk pa:Option Addr) (tn tc np cp nk ck n ca:Nat)(w:World):
  Calls prog 111 #[.agg #[.int .i64 k,.string s,.int .i64 num,.int .i64 tk,.string ts,.int .i64 tl,.int .i64 th,.slice tp tn tc,.slice pp np cp,.slice pk nk ck,.slice pa n ca]] w fun e w'=>e= .returned (.bool (QAI k num tk tl th s ts tn np nk n))∧Below w.heap.size w w':=by
 have hz:QAI k num tk tl th s ts tn np nk n=(k==0&&QAW s&&num==0&&(tk==0&&QAW ts&&tl==0&&th==0&&((tn:Int)==0))&&((np:Int)==0)&&((nk:Int)==0)&&((n:Int)==0)):=rfl;have HT:=hd0 (fun w=>QD4 tk tl th ts tp tn tc w);generalize (tk==0&&QAW ts&&tl==0&&th==0&&((tn:Int)==0))=T at hz HT;generalize QAI k num tk tl th s ts tn np nk n=res at*;unfold QAW at hz;generalize eK:(k==0)=K at hz;generalize eS:(s.toList== [])=S at hz;generalize eU:(num==0)=U at hz;generalize eP:((np:Int)==0)=P at hz;generalize eQ:((nk:Int)==0)=Q at hz;generalize eR:((n:Int)==0)=R at hz;have HZ:=hd0 hz;clear hz
 cases K with
 |false=>
  go_enter func111,ntmps111;go_wp2;go_ret;exact⟨by rw[HZ.out];simp,(Below.refl _ _).alloc (Nat.le_refl _) _⟩
 |true=>
 cases S with
 |false=>
  go_enter func111,ntmps111;go_wp2;go_ret;exact⟨by rw[HZ.out];simp,(Below.refl _ _).alloc (Nat.le_refl _) _⟩
 |true=>
 cases U with
 |false=>
  go_enter func111,ntmps111;go_wp2;go_ret;exact⟨by rw[HZ.out];simp,(Below.refl _ _).alloc (Nat.le_refl _) _⟩
 |true=>
 go_enter func111,ntmps111
 go_wp2_with fail
 refine(HT.out _).mono ?_;rintro e w1 ⟨rfl,hb1⟩;have c8:w1.cell? ⟨w.heap.size,8,none⟩=some (.slice pp np cp):=QAA hb1 (by simp[go_sem]);have c9:w1.cell? ⟨w.heap.size,9,none⟩=some (.slice pk nk ck):=QAA hb1 (by simp[go_sem]);have c10:w1.cell? ⟨w.heap.size,10,none⟩=some (.slice pa n ca):=QAA hb1 (by simp[go_sem]);have HB1:=hd0 (show Below w.heap.size w w1 from((Below.refl w.heap.size w).alloc (Nat.le_refl _) _).trans (hb1.mono (by simp)));clear hb1
 cases T <;> cases P <;> cases Q
 all_goals go_wp2
 all_goals go_ret
 all_goals exact⟨by rw[HZ.out];simp,HB1.out⟩
theorem infoEx:(prog.info? 29).map (·.size)=some 11:=by kernel_rfl
theorem QJs {P:Program}{fn:Func}{p:Tmp}{ty:TypeId}(h:fn.results=#[.cell p ty])(tmps:Array Value)(w:World)(b:Nat)(X:Array Value)(fs:Array Field)
  (hp:tmps.getD p undef= .pointer (some ⟨b,0,none⟩)) (hu:P.underlying ty=some (.struct fs)) (hi:(P.info? ty).map (·.size)=some X.size) (hc:BoxAt w b X):(results fn tmps).run P w= .ok (.agg X) w:=by
 have h1:=QBT (P:=P) w ty b 0 X fs hu hi (fun j v hj=>by rw[Nat.zero_add];exact hc j v hj);simp only[Instr.loadAt,Instr.sureAddr,Sem.run_bind,Sem.run_pure,Result.andThen]at h1;have hp':tmps[p]?.getD undef= .pointer (some ⟨b,0,none⟩):=by simpa using hp
 simp[results,h,hp',asAddr,Sem.run_bind,h1]
theorem QKI(k num tk tl th:Int)(s ts:ByteArray)(tp pp pk pa:Option Addr) (tn tc np cp nk ck n ca:Nat)(kk:Int)(w:World):
  Calls prog 205 #[.agg #[.int .i64 k,.string s,.int .i64 num,.int .i64 tk,.string ts,.int .i64 tl,.int .i64 th,.slice tp tn tc,.slice pp np cp,.slice pk nk ck,.slice pa n ca],.int .i64 kk] w fun e w'=>e= .returned (.agg #[.int .i64 kk,.string s,.int .i64 num,.int .i64 tk,.string ts,.int .i64 tl,.int .i64 th,.slice tp tn tc,.slice pp np cp,.slice pk nk ck,.slice pa n ca])∧Below w.heap.size w w':=by
 have H:=hd0 ((QAS w #[.int .i64 kk,.string s,.int .i64 num,.int .i64 tk,.string ts,.int .i64 tl,.int .i64 th,.slice tp tn tc,.slice pp np cp,.slice pk nk ck,.slice pa n ca] 29).under ((Below.refl _ _).alloc (Nat.le_refl _) (.cells #[.int .i64 0,.string ⟨#[]⟩,.int .i64 0,.int .i64 0,.string ⟨#[]⟩,.int .i64 0,.int .i64 0,.slice none 0 0,.slice none 0 0,.slice none 0 0,.slice none 0 0] 29)));go_enter func205,ntmps205
 go_wp2_with (first
  |refine QAx 29 _ rfl rfl w.heap.size 0 #[.int .i64 kk,.string s,.int .i64 num,.int .i64 tk,.string ts,.int .i64 tl,.int .i64 th,.slice tp tn tc,.slice pp np cp,.slice pk nk ck,.slice pa n ca] _ underlying29 rfl infoEx (fun j v hj=>by rw[Nat.zero_add];exact H.out j v hj) ?_
  |refine QAK 29 (.tmp 4) (.tmp 7) rfl rfl rfl (w.alloc (.cells #[.int .i64 kk,.string s,.int .i64 num,.int .i64 tk,.string ts,.int .i64 tl,.int .i64 th,.slice tp tn tc,.slice pp np cp,.slice pk nk ck,.slice pa n ca] 29)) _ #[.int .i64 kk,.string s,.int .i64 num,.int .i64 tk,.string ts,.int .i64 tl,.int .i64 th,.slice tp tn tc,.slice pp np cp,.slice pk nk ck,.slice pa n ca] rfl (by show Value.pointer (some ⟨w.heap.size+1,0,none⟩)=_;rw[World.size_alloc]) rfl infoEx rfl (by simp[Value.oneCell']) ?_)
 have hbx:=QAS (w.alloc (.cells #[.int .i64 kk,.string s,.int .i64 num,.int .i64 tk,.string ts,.int .i64 tl,.int .i64 th,.slice tp tn tc,.slice pp np cp,.slice pk nk ck,.slice pa n ca] 29)) #[.int .i64 kk,.string s,.int .i64 num,.int .i64 tk,.string ts,.int .i64 tl,.int .i64 th,.slice tp tn tc,.slice pp np cp,.slice pk nk ck,.slice pa n ca] 29;rw[World.size_alloc]at hbx;refine bodyPost_ret (QJs rfl _ _ (w.heap.size+1) #[.int .i64 kk,.string s,.int .i64 num,.int .i64 tk,.string ts,.int .i64 tl,.int .i64 th,.slice tp tn tc,.slice pp np cp,.slice pk nk ck,.slice pa n ca] _ rfl underlying29 infoEx hbx) rfl ⟨rfl,((Below.refl _ _).alloc (Nat.le_refl _) _).alloc (by simp) _⟩
theorem QJW(k num tk tl th:Int)(s ts:ByteArray)(tp pp pk pa:Option Addr) (tn tc np cp nk ck n ca:Nat)(w:World):
  Calls prog 204 #[.agg #[.int .i64 k,.string s,.int .i64 num,.int .i64 tk,.string ts,.int .i64 tl,.int .i64 th,.slice tp tn tc,.slice pp np cp,.slice pk nk ck,.slice pa n ca]] w fun e w'=>e= .returned (.bool (QAI 0 num tk tl th ⟨#[]⟩ ts tn np nk n&&(k==3)))∧Below w.heap.size w w':=by
 have HW:=hd0 (fun w=>QKI k num tk tl th ⟨#[]⟩ ts tp pp pk pa tn tc np cp nk ck n ca 0 w);have HZ:=hd0 (fun w=>QAr 0 num tk tl th ⟨#[]⟩ ts tp pp pk pa tn tc np cp nk ck n ca w);generalize QAI 0 num tk tl th ⟨#[]⟩ ts tn np nk n=Z at*;go_enter func204,ntmps204;go_upto_region 2 with fail;refine QA8 (fun wx=>Hid (Below w.heap.size w wx∧BoxAt wx w.heap.size #[.int .i64 k,.string ⟨#[]⟩,.int .i64 num,.int .i64 tk,.string ts,.int .i64 tl,.int .i64 th,.slice tp tn tc,.slice pp np cp,.slice pk nk ck,.slice pa n ca])) (hd0 ⟨(Below.refl _ _).alloc (Nat.le_refl _) _,QAS w _ _⟩) ?_;intro w1 H
 go_wp2_with (refine QAx 29 _ rfl rfl w.heap.size 0 #[.int .i64 k,.string ⟨#[]⟩,.int .i64 num,.int .i64 tk,.string ts,.int .i64 tl,.int .i64 th,.slice tp tn tc,.slice pp np cp,.slice pk nk ck,.slice pa n ca] _ underlying29 rfl infoEx (fun j v hj=>by rw[Nat.zero_add];exact H.out.2 j v hj) ?_)
 refine(HW.out w1).mono ?_;rintro e w2 ⟨rfl,hb2⟩
 go_wp2_with fail
 refine(HZ.out w2).mono ?_;rintro e w3 ⟨rfl,hb3⟩;have hb13:Below w1.heap.size w1 w3:=hb2.trans (hb3.mono hb2.size);have HB:=hd0 (show Below w.heap.size w w3 from H.out.1.trans (hb13.mono H.out.1.size));have c0:w3.cell? ⟨w.heap.size,0,none⟩=some (.int .i64 k):=QAA hb13 (H.out.2 0 _ rfl);clear hb2 hb3 hb13 H
 cases Z
 all_goals go_wp2
 all_goals go_ret
 all_goals exact⟨by first|rfl|simp,HB.out⟩
theorem QSh:Lib.fields []= []:=by decide+kernel
theorem QBS(k num tk tl th:Int)(s ts:ByteArray)(tp pp pk pa:Option Addr) (tn tc np cp nk ck n ca:Nat)(w:World)(hE:Env w):
  Calls prog 158 #[.agg #[.int .i64 k,.string s,.int .i64 num,.int .i64 tk,.string ts,.int .i64 tl,.int .i64 th,.slice tp tn tc,.slice pp np cp,.slice pk nk ck,.slice pa n ca],.string ⟨#[]⟩] w fun e w'=>e= .returned (.bool (QAI 0 num tk tl th s ts tn np nk 0))∧Below w.heap.size w w':=by
 have HF:=hd0 (fun w' (hb:Below w.heap.size w w')=>(by
  have hf:=Tryz.strings_Fields ⟨#[]⟩ w' (by decide+kernel) (by
   have h:([]:List UInt8).all (fun b=>decide (b.toNat<128))=true:=by decide
   intro j b hj;have:=List.all_eq_true.1 h b (List.mem_of_getElem? hj)
   simpa using this) (hE.below hb).spc
  rw[show(⟨#[]⟩:ByteArray).data.toList= [] from rfl,QSh]at hf
  exact hf:Calls prog 48 #[.string ⟨#[]⟩] w' fun e w''=>e= .returned (.slice (some ⟨w'.heap.size,0,none⟩) 0 0)∧w''=w'.alloc (.cells #[] 9)))
 have HZ:=hd0 (fun w=>QAr 0 num tk tl th s ts tp pp pk none tn tc np cp nk ck 0 0 w);generalize QAI 0 num tk tl th s ts tn np nk 0=Z at*;clear hE;go_enter func158,ntmps158
 go_wp2_with fail
 refine(HF.out _ ((Below.refl _ _).alloc (Nat.le_refl _) _)).mono ?_;rintro e w1 ⟨rfl,rfl⟩
 go_wp2_with fail
 refine wp_loop_rounds 1 ?_;rw[rounds_succ]
 go_wp2_with fail
 refine(HZ.out _).mono ?_;rintro e w2 ⟨rfl,hb2⟩;have HB:=hd0 (show Below w.heap.size w w2 from(((Below.refl w.heap.size w).alloc (Nat.le_refl _) _).alloc (by simp) _).trans (hb2.mono (by simp;omega)));clear hb2;go_wp2;go_ret;exact⟨rfl,HB.out⟩
theorem QSg:Lib.fields [110,97,109,101]= [[110,97,109,101]]:=by decide+kernel
theorem QBR(k num tk tl th:Int)(s ts:ByteArray)(tp pp pk pa:Option Addr) (tn tc np cp nk ck n ca:Nat)(w:World)(hE:Env w):
  Calls prog 158 #[.agg #[.int .i64 k,.string s,.int .i64 num,.int .i64 tk,.string ts,.int .i64 tl,.int .i64 th,.slice tp tn tc,.slice pp np cp,.slice pk nk ck,.slice pa n ca],.string ⟨#[110,97,109,101]⟩] w fun e w'=>e= .returned (.bool (QAI 0 num tk tl th ⟨#[]⟩ ts tn np nk 0))∧Below w.heap.size w w':=by
 have HF:=hd0 (fun w' (hb:Below w.heap.size w w')=>(by
  have hf:=Tryz.strings_Fields ⟨#[110,97,109,101]⟩ w' (by decide+kernel) (by
   have h:([110,97,109,101]:List UInt8).all (fun b=>decide (b.toNat<128))=true:=by decide
   intro j b hj;have:=List.all_eq_true.1 h b (List.mem_of_getElem? hj)
   simpa using this) (hE.below hb).spc
  rw[show(⟨#[110,97,109,101]⟩:ByteArray).data.toList= [110,97,109,101] from rfl,QSg]at hf
  exact hf:Calls prog 48 #[.string ⟨#[110,97,109,101]⟩] w' fun e w''=>e= .returned (.slice (some ⟨w'.heap.size,0,none⟩) 1 1)∧w''=w'.alloc (.cells #[.string ⟨#[110,97,109,101]⟩] 9)))
 have HZ:=hd0 (fun w=>QAr 0 num tk tl th ⟨#[]⟩ ts tp pp pk none tn tc np cp nk ck 0 0 w);generalize QAI 0 num tk tl th ⟨#[]⟩ ts tn np nk 0=Z at*;clear hE;go_enter func158,ntmps158
 go_wp2_with fail
 refine(HF.out _ ((Below.refl _ _).alloc (Nat.le_refl _) _)).mono ?_;rintro e w1 ⟨rfl,rfl⟩
 go_wp2_with fail
 refine wp_loop_rounds 2 ?_;rw[rounds_succ]
 go_wp2_with fail
 rw[rounds_succ]
 go_wp2_with fail
 refine(HZ.out _).mono ?_;rintro e w2 ⟨rfl,hb2⟩;have HB:=hd0 (show Below w.heap.size w w2 from(((Below.refl w.heap.size w).alloc (Nat.le_refl _) _).alloc (by simp) _).trans (hb2.mono (by simp;omega)));clear hb2;go_wp2;go_ret;exact⟨rfl,HB.out⟩
theorem QTy:Lib.fields [110,117,109]= [[110,117,109]]:=by decide+kernel
theorem QC8(k num tk tl th:Int)(s ts:ByteArray)(tp pp pk pa:Option Addr) (tn tc np cp nk ck n ca:Nat)(w:World)(hE:Env w):
  Calls prog 158 #[.agg #[.int .i64 k,.string s,.int .i64 num,.int .i64 tk,.string ts,.int .i64 tl,.int .i64 th,.slice tp tn tc,.slice pp np cp,.slice pk nk ck,.slice pa n ca],.string ⟨#[110,117,109]⟩] w fun e w'=>e= .returned (.bool (QAI 0 0 tk tl th s ts tn np nk 0))∧Below w.heap.size w w':=by
 have HF:=hd0 (fun w' (hb:Below w.heap.size w w')=>(by
  have hf:=Tryz.strings_Fields ⟨#[110,117,109]⟩ w' (by decide+kernel) (by
   have h:([110,117,109]:List UInt8).all (fun b=>decide (b.toNat<128))=true:=by decide
   intro j b hj;have:=List.all_eq_true.1 h b (List.mem_of_getElem? hj)
   simpa using this) (hE.below hb).spc
  rw[show(⟨#[110,117,109]⟩:ByteArray).data.toList= [110,117,109] from rfl,QTy]at hf
  exact hf:Calls prog 48 #[.string ⟨#[110,117,109]⟩] w' fun e w''=>e= .returned (.slice (some ⟨w'.heap.size,0,none⟩) 1 1)∧w''=w'.alloc (.cells #[.string ⟨#[110,117,109]⟩] 9)))
 have HZ:=hd0 (fun w=>QAr 0 0 tk tl th s ts tp pp pk none tn tc np cp nk ck 0 0 w);generalize QAI 0 0 tk tl th s ts tn np nk 0=Z at*;clear hE;go_enter func158,ntmps158
 go_wp2_with fail
 refine(HF.out _ ((Below.refl _ _).alloc (Nat.le_refl _) _)).mono ?_;rintro e w1 ⟨rfl,rfl⟩
 go_wp2_with fail
 refine wp_loop_rounds 2 ?_;rw[rounds_succ]
 go_wp2_with fail
 rw[rounds_succ]
 go_wp2_with fail
 refine(HZ.out _).mono ?_;rintro e w2 ⟨rfl,hb2⟩;have HB:=hd0 (show Below w.heap.size w w2 from(((Below.refl w.heap.size w).alloc (Nat.le_refl _) _).alloc (by simp) _).trans (hb2.mono (by simp;omega)));clear hb2;go_wp2;go_ret;exact⟨rfl,HB.out⟩
theorem QNh:Lib.fields [110,97,109,101,32,112,97,114,97,109,115]= [[110,97,109,101], [112,97,114,97,109,115]]:=by decide+kernel
theorem QFC(k num tk tl th:Int)(s ts:ByteArray)(tp pp pk pa:Option Addr) (tn tc np cp nk ck n ca:Nat)(w:World)(hE:Env w):
  Calls prog 158 #[.agg #[.int .i64 k,.string s,.int .i64 num,.int .i64 tk,.string ts,.int .i64 tl,.int .i64 th,.slice tp tn tc,.slice pp np cp,.slice pk nk ck,.slice pa n ca],.string ⟨#[110,97,109,101,32,112,97,114,97,109,115]⟩] w fun e w'=>e= .returned (.bool (QAI 0 num tk tl th ⟨#[]⟩ ts tn 0 nk 0))∧Below w.heap.size w w':=by
 have HF:=hd0 (fun w' (hb:Below w.heap.size w w')=>(by
  have hf:=Tryz.strings_Fields ⟨#[110,97,109,101,32,112,97,114,97,109,115]⟩ w' (by decide+kernel) (by
   have h:([110,97,109,101,32,112,97,114,97,109,115]:List UInt8).all (fun b=>decide (b.toNat<128))=true:=by decide
   intro j b hj;have:=List.all_eq_true.1 h b (List.mem_of_getElem? hj)
   simpa using this) (hE.below hb).spc
  rw[show(⟨#[110,97,109,101,32,112,97,114,97,109,115]⟩:ByteArray).data.toList= [110,97,109,101,32,112,97,114,97,109,115] from rfl,QNh]at hf
  exact hf:Calls prog 48 #[.string ⟨#[110,97,109,101,32,112,97,114,97,109,115]⟩] w' fun e w''=>e= .returned (.slice (some ⟨w'.heap.size,0,none⟩) 2 2)∧w''=w'.alloc (.cells #[.string ⟨#[110,97,109,101]⟩,.string ⟨#[112,97,114,97,109,115]⟩] 9)))
 have HZ:=hd0 (fun w=>QAr 0 num tk tl th ⟨#[]⟩ ts tp none pk none tn tc 0 0 nk ck 0 0 w);generalize QAI 0 num tk tl th ⟨#[]⟩ ts tn 0 nk 0=Z at*;clear hE;go_enter func158,ntmps158
 go_wp2_with fail
 refine(HF.out _ ((Below.refl _ _).alloc (Nat.le_refl _) _)).mono ?_;rintro e w1 ⟨rfl,rfl⟩
 go_wp2_with fail
 refine wp_loop_rounds 3 ?_;rw[rounds_succ]
 go_wp2_with fail
 rw[rounds_succ]
 go_wp2_with fail
 rw[rounds_succ]
 go_wp2_with fail
 refine(HZ.out _).mono ?_;rintro e w2 ⟨rfl,hb2⟩;have HB:=hd0 (show Below w.heap.size w w2 from(((Below.refl w.heap.size w).alloc (Nat.le_refl _) _).alloc (by simp) _).trans (hb2.mono (by simp;omega)));clear hb2;go_wp2;go_ret;exact⟨rfl,HB.out⟩
theorem QSi:Lib.fields [116,121,112,101]= [[116,121,112,101]]:=by decide+kernel
theorem QD3(k num tk tl th:Int)(s ts:ByteArray)(tp pp pk pa:Option Addr) (tn tc np cp nk ck n ca:Nat)(w:World)(hE:Env w):
  Calls prog 158 #[.agg #[.int .i64 k,.string s,.int .i64 num,.int .i64 tk,.string ts,.int .i64 tl,.int .i64 th,.slice tp tn tc,.slice pp np cp,.slice pk nk ck,.slice pa n ca],.string ⟨#[116,121,112,101]⟩] w fun e w'=>e= .returned (.bool (QAI 0 num 0 0 0 s ⟨#[]⟩ 0 np nk 0))∧Below w.heap.size w w':=by
 have HF:=hd0 (fun w' (hb:Below w.heap.size w w')=>(by
  have hf:=Tryz.strings_Fields ⟨#[116,121,112,101]⟩ w' (by decide+kernel) (by
   have h:([116,121,112,101]:List UInt8).all (fun b=>decide (b.toNat<128))=true:=by decide
   intro j b hj;have:=List.all_eq_true.1 h b (List.mem_of_getElem? hj)
   simpa using this) (hE.below hb).spc
  rw[show(⟨#[116,121,112,101]⟩:ByteArray).data.toList= [116,121,112,101] from rfl,QSi]at hf
  exact hf:Calls prog 48 #[.string ⟨#[116,121,112,101]⟩] w' fun e w''=>e= .returned (.slice (some ⟨w'.heap.size,0,none⟩) 1 1)∧w''=w'.alloc (.cells #[.string ⟨#[116,121,112,101]⟩] 9)))
 have HZ:=hd0 (fun w=>QAr 0 num 0 0 0 s ⟨#[]⟩ none pp pk none 0 0 np cp nk ck 0 0 w);generalize QAI 0 num 0 0 0 s ⟨#[]⟩ 0 np nk 0=Z at*;clear hE;go_enter func158,ntmps158
 go_wp2_with fail
 refine(HF.out _ ((Below.refl _ _).alloc (Nat.le_refl _) _)).mono ?_;rintro e w1 ⟨rfl,rfl⟩
 go_wp2_with fail
 refine wp_loop_rounds 2 ?_;rw[rounds_succ]
 go_wp2_with fail
 rw[rounds_succ]
 go_wp2_with fail
 refine(HZ.out _).mono ?_;rintro e w2 ⟨rfl,hb2⟩;have HB:=hd0 (show Below w.heap.size w w2 from(((Below.refl w.heap.size w).alloc (Nat.le_refl _) _).alloc (by simp) _).trans (hb2.mono (by simp;omega)));clear hb2;go_wp2;go_ret;exact⟨rfl,HB.out⟩
theorem QSf:Lib.fields [107,101,121,115]= [[107,101,121,115]]:=by decide+kernel
theorem QG3(k num tk tl th:Int)(s ts:ByteArray)(tp pp pk pa:Option Addr) (tn tc np cp nk ck n ca:Nat)(w:World)(hE:Env w):
  Calls prog 158 #[.agg #[.int .i64 k,.string s,.int .i64 num,.int .i64 tk,.string ts,.int .i64 tl,.int .i64 th,.slice tp tn tc,.slice pp np cp,.slice pk nk ck,.slice pa n ca],.string ⟨#[107,101,121,115]⟩] w fun e w'=>e= .returned (.bool (QAI 0 num tk tl th s ts tn np 0 0))∧Below w.heap.size w w':=by
 have HF:=hd0 (fun w' (hb:Below w.heap.size w w')=>(by
  have hf:=Tryz.strings_Fields ⟨#[107,101,121,115]⟩ w' (by decide+kernel) (by
   have h:([107,101,121,115]:List UInt8).all (fun b=>decide (b.toNat<128))=true:=by decide
   intro j b hj;have:=List.all_eq_true.1 h b (List.mem_of_getElem? hj)
   simpa using this) (hE.below hb).spc
  rw[show(⟨#[107,101,121,115]⟩:ByteArray).data.toList= [107,101,121,115] from rfl,QSf]at hf
  exact hf:Calls prog 48 #[.string ⟨#[107,101,121,115]⟩] w' fun e w''=>e= .returned (.slice (some ⟨w'.heap.size,0,none⟩) 1 1)∧w''=w'.alloc (.cells #[.string ⟨#[107,101,121,115]⟩] 9)))
 have HZ:=hd0 (fun w=>QAr 0 num tk tl th s ts tp pp none none tn tc np cp 0 0 0 0 w);generalize QAI 0 num tk tl th s ts tn np 0 0=Z at*;clear hE;go_enter func158,ntmps158
 go_wp2_with fail
 refine(HF.out _ ((Below.refl _ _).alloc (Nat.le_refl _) _)).mono ?_;rintro e w1 ⟨rfl,rfl⟩
 go_wp2_with fail
 refine wp_loop_rounds 2 ?_;rw[rounds_succ]
 go_wp2_with fail
 rw[rounds_succ]
 go_wp2_with fail
 refine(HZ.out _).mono ?_;rintro e w2 ⟨rfl,hb2⟩;have HB:=hd0 (show Below w.heap.size w w2 from(((Below.refl w.heap.size w).alloc (Nat.le_refl _) _).alloc (by simp) _).trans (hb2.mono (by simp;omega)));clear hb2;go_wp2;go_ret;exact⟨rfl,HB.out⟩
def QBp(st:Nat × Nat)(ok:Bool):Int:=if MXN<st.1 then 2 else if 100<st.2 then 6 else if ok then 0 else 8
theorem QHT(b n d:Nat)(g:FuncId)(cap:Array Value)(ok:Bool)(w:World)(hB:MB w b n d)(hf:QQ3 g)(hc:Calls prog g cap w fun e w'=>e= .returned (.bool ok)∧Below w.heap.size w w'):
  Calls prog 33 #[.pointer (some ⟨b,0,none⟩),.func (.func g) #[] cap] w fun e w'=>e= .returned (.int .i64 (QBp (n,d) ok))∧Below w.heap.size w w':=by
 have c0:=hB.c0;have c1:=hB.c1;have lt:=hB.lt;have HJ:=hd0 (show QBp (n,d) ok=if MXN<n then 2 else if 100<d then 6 else if ok then 0 else 8 from rfl);obtain⟨fn,hf,hname,hbody⟩:=hf;have HF:=hd0 (And.intro hf (And.intro hname hbody));have HC:=hd0 hc;clear hf hname hbody hc hB
 by_cases h1:MXN<n
 ·
  have e1:decide ((n:Int)>3000)=true:=decide_eq_true (by unfold MXN at h1;omega);have e1':decide ((3000:Int)<n)=true:=e1;have HR:=hd0 (show QBp (n,d) ok=2 by rw[HJ.out,if_pos h1]);clear HJ;go_enter func33,ntmps33;go_wp2;go_ret;exact⟨by rw[HR.out];rfl,Below.refl _ _⟩
 have e1:decide ((3000:Int)<n)=false:=decide_eq_false (by unfold MXN at h1;omega);have hj:=HJ.out;rw[if_neg h1]at hj;clear HJ h1
 by_cases h2:100<d
 ·
  have e2:decide ((100:Int)<d)=true:=decide_eq_true (by omega);have HR:=hd0 (show QBp (n,d) ok=6 by rw[hj,if_pos h2]);clear hj;go_enter func33,ntmps33;go_wp2;go_ret;exact⟨by rw[HR.out];rfl,Below.refl _ _⟩
 have e2:decide ((100:Int)<d)=false:=decide_eq_false (by omega);rw[if_neg h2]at hj;have HR:=hd0 hj;clear hj h2;go_enter func33,ntmps33
 go_wp2_with fail
 refine QBU HF.out.1 HF.out.2.1 HF.out.2.2 ?_;rw[Oper.upon_enter];refine HC.out.mono ?_;rintro e w1 ⟨rfl,hb1⟩;have HB1:=hd0 hb1;clear hb1
 cases ok
 all_goals go_wp2
 all_goals go_ret
 all_goals exact⟨by rw[HR.out];rfl,HB1.out⟩
def Ty.check(t:Ty):Int:=QBp (t.meas 1 (0,0)) t.ok
theorem QGz {W:World}(hE:Env W)(h9:9≤W.heap.size){X:Array Value}{t:Ty}(h:TyR W (.agg X) t)(b:Nat)(hC:CellsAt W b 0 X)(w:World)(hW:Below W.heap.size W w):
  Calls prog 40 #[.pointer (some ⟨b,0,none⟩)] w fun e w'=>e= .returned (.bool t.ok)∧Below w.heap.size w w':=by
 have HT:=hd0 (QDp hE h9 h w hW);obtain⟨k,lo,hi,s,m,p,c,f,e, -, -, -⟩:=h.cells;injection e with e
 subst e;have hc:=hC.under hW;have c0:=hc 0 _ rfl;have c1:=hc 1 _ rfl;have c2:=hc 2 _ rfl;have c3:=hc 3 _ rfl;have c4:=hc 4 _ rfl;simp only[Nat.add_zero,Nat.zero_add]at c0 c1 c2 c3 c4;clear hE h9 h hC hW hc;go_enter func40,ntmps40
 go_wp2_with fail
 refine HT.out.mono ?_;rintro e w1 ⟨rfl,hb1⟩;have HB1:=hd0 hb1;clear hb1;go_wp2;go_ret;exact⟨rfl,HB1.out⟩
theorem QH6 {W:World}(hE:Env W)(h9:9≤W.heap.size){v:Value}{t:Ty}(h:TyR W v t)(w:World)(hW:Below W.heap.size W w):
  Calls prog 10 #[v] w fun e w'=>e= .returned (.int .i64 t.check)∧Below w.heap.size w w':=by
 obtain⟨k,lo,hi,s,m,p,c,f,rfl, -, -, -⟩:=h.cells;have hbx:=QAS w #[.int .i64 k,.string s,.int .i64 lo,.int .i64 hi,.slice p m c] 24;have hb1:Below w.heap.size w (w.alloc (.cells #[.int .i64 k,.string s,.int .i64 lo,.int .i64 hi,.slice p m c] 24)):=(Below.refl _ _).alloc (Nat.le_refl _) _;have hW1:Below W.heap.size W (w.alloc (.cells #[.int .i64 k,.string s,.int .i64 lo,.int .i64 hi,.slice p m c] 24)):=hW.trans (hb1.mono hW.size);have h1:=h.under hW1;have hC1:CellsAt (w.alloc (.cells #[.int .i64 k,.string s,.int .i64 lo,.int .i64 hi,.slice p m c] 24)) w.heap.size 0 #[.int .i64 k,.string s,.int .i64 lo,.int .i64 hi,.slice p m c]:=fun j u hj=>by rw[Nat.zero_add];exact hbx j u hj
 have HM:=hd0 (QIV h1 ((w.alloc (.cells #[.int .i64 k,.string s,.int .i64 lo,.int .i64 hi,.slice p m c] 24)).alloc (.cells #[.int .i64 0,.int .i64 0] 61)) (w.heap.size+1) 0 0 1 w.heap.size 0 _ rfl hC1 ((Below.refl _ _).alloc (Nat.le_refl _) _) (by rw[World.size_alloc];exact Nat.le_refl _) (by
  have:=heap_alloc_last (w.alloc (.cells #[.int .i64 k,.string s,.int .i64 lo,.int .i64 hi,.slice p m c] 24)) (.cells #[.int .i64 0,.int .i64 0] 61);rw[World.size_alloc]at this
  exact this) (by unfold MXN;omega) (by omega) (by omega))
 have HT:=hd0 (fun w1 hw1=>QGz (hE.below hW1) (by have:=hW1.size;omega) h1 w.heap.size hC1 w1 hw1);have HB1:=hd0 hb1;have HCK:=hd0 (show t.check=QBp (t.meas 1 (0,0)) t.ok from rfl);have hmf:∀(fn:Fn) (first cap:Array Value) (w:World),(Instr.makeFunc fn first cap).run prog w= .ok (.func fn first cap) w:=fun _ _ _ _=>rfl
 clear hE h9 h hW hbx hb1 hW1 h1 hC1;generalize t.meas 1 (0,0)=st at*;obtain⟨n,d⟩:=st;go_enter func10,ntmps10
 go_wp2_with fail
 refine HM.out.mono ?_;rintro e w1 ⟨rfl,hm⟩;have HM1:=hd0 hm;have hw1:Below (w.alloc (.cells #[.int .i64 k,.string s,.int .i64 lo,.int .i64 hi,.slice p m c] 24)).heap.size (w.alloc (.cells #[.int .i64 k,.string s,.int .i64 lo,.int .i64 hi,.slice p m c] 24)) w1:=hm.below ((Below.refl _ _).alloc (Nat.le_refl _) _) (by rw[World.size_alloc];exact Nat.le_refl _) (by simp);have HW1:=hd0 (show Below w.heap.size w w1 from HB1.out.trans (hw1.mono HB1.out.size));have HJ:=hd0 (QHT (w.heap.size+1) n d 40 #[.pointer (some ⟨w.heap.size,0,none⟩)] t.ok w1 hm.2 ⟨_,func40,by kernel_rfl,by kernel_rfl⟩ (HT.out w1 hw1));clear hm hw1 HM HT
 go_wp2_with fail
 refine HJ.out.mono ?_;rintro e w2 ⟨rfl,hb2⟩;have HB2:=hd0 (show Below w.heap.size w w2 from HW1.out.trans (hb2.mono HW1.out.size));clear hb2;go_wp2;go_ret;exact⟨by rw[HCK.out];rfl,HB2.out⟩
end Go.Proofs.YtjnclkakbopnjaaGreatDoor
