/- XOrcB, XOrcC, XOrcD, XRefD, XRefGd, XRefP -/
import Derived.Test.YtjnclkakbopnjaaGreatDoorLot27
set_option linter.unusedSimpArgs false
set_option linter.unusedVariables false
namespace Go.Proofs.YtjnclkakbopnjaaGreatDoor
open Go.Proofs.Tryz
open Go.RowKit
variable {P : Program} {B G : Nat} {w0 : World} {L : Lie}
theorem AR.flatL {l:List Value}{us:Array Value}(h:AR P L ⟨l⟩ us)(hf:l.all QA1=true):us=⟨l⟩:=by
 obtain⟨h1,h2⟩:=h
 apply Array.ext
 ·
  exact h1.symm
 ·
  intro i hi1 hi2;have hi3:i<l.length:=by simpa using hi2
  have he:(⟨l⟩:Array Value).getD i undef=l[i]:=by simp[Array.getD,hi3]
  have:=(h2 i hi2).eq_of_flat1 (by rw[he];exact List.all_eq_true.1 hf _ (List.getElem_mem hi3));rw[he]at this;have h4:us.getD i undef=us[i]:=by simp[Array.getD,hi1]
  rw[h4]at this;rw[this];simp
theorem VR.agg_flat {cs:Array Value}{v':Value}(h:VR P L (.agg cs) v')(hf:cs.toList.all QA1=true):v'= .agg cs:=by
 cases h with
 |agg _ us h1 h2=>
  have:us=⟨cs.toList⟩:=AR.flatL (l:=cs.toList) (us:=us) ⟨h1,h2⟩ hf;rw[this]
theorem QEK {f:FuncId}{args':Array Value}{w:World}{F:Fw}{v:Value}(hs:Sim P B G w0 L F.toW w)(hv:QJP v=true)
  (h:Calls P f args' w fun e w'=>e= .returned v∧Below w.heap.size w w'):
  Calls P f args' w fun e w1=>∃M,L.le M∧Sim P B G w0 M F.toW w1∧QTX P M (.ret v) e:=by
 refine h.mono ?_;rintro e w1 ⟨rfl,hb⟩;obtain⟨M,h1,_,_,h4⟩:=hs.under hb;exact⟨M,h1,h4,VR.of_flat hv⟩
theorem Sim.adopt {c w w1:World}(h:Sim P B G w0 L c w)(hb:Below w.heap.size w w1){g:Nat}(hg:w.heap.size≤g){xs us:Array Value}{e:TypeId}(ho:w1.heap[g]?=some (.cells us e (0,0)))
  (hsz:xs.size≤us.size) (hx:∀i,i<xs.size→VR P L (xs.getD i undef) (us.getD i undef)):
  ∃M,L.le M∧M.n=L.n+1∧M.at_ L.n=g∧M.sh=w1.shape?∧Sim P B G w0 M {c with heap:=c.heap.push (.cells xs e)} w1:=by
 obtain⟨M1,l1,n1,a1,s1⟩:=h.under hb;have hn:=h.n
 have hle:L.le ⟨L.n+1,fun r=>if r=L.n then g else L.at_ r,w1.shape?⟩:=by
  refine⟨Nat.le_succ _,fun r hr=>by show(if r=L.n then _ else _)=_;rw[if_neg (by omega)],fun r s hs=>?_⟩;have:=l1.2.2 r s hs;rw[s1.sh]at this;exact this
 have old:∀r,r<L.n→(fun r=>if r=L.n then g else L.at_ r) r=L.at_ r:=fun r hr=>by show(if r=L.n then _ else _)=_;rw[if_neg (by omega)]
 have split:∀r x,(c.heap.push (.cells xs e))[r]?=some x→(r<L.n∧c.heap[r]?=some x)∨(r=L.n∧x= .cells xs e):=by
  intro r x hx;rw[Array.getElem?_push]at hx
  split at hx
  ·
   rename_i he;injection hx with hx
   exact Or.inr ⟨by rw[he,hn],hx.symm⟩
  ·
   exact Or.inl ⟨by rw[hn];exact(Array.getElem?_eq_some_iff.1 hx).1,hx⟩
 refine⟨⟨L.n+1,fun r=>if r=L.n then g else L.at_ r,w1.shape?⟩,hle,rfl,if_pos rfl,rfl,?_⟩;refine⟨by show L.n+1=(c.heap.push _).size;rw[Array.size_push,hn],rfl,fun k hk=>(old k (Nat.lt_of_lt_of_le hk h.gle)).trans (h.glob k hk),Nat.le_succ_of_le h.gle,Nat.le_succ_of_le h.ble,?_,?_,?_,s1.below,?_⟩
 ·
  intro r s x y hr hs ax ay he;have he:(if r=L.n then g else L.at_ r)=(if s=L.n then g else L.at_ s):=he;rcases split r x hr with ⟨hr1,hr2⟩|⟨rfl,rfl⟩ <;> rcases split s y hs with ⟨hs1,hs2⟩|⟨rfl,rfl⟩
  ·
   rw[if_neg (by omega),if_neg (by omega)]at he;exact h.inj r s x y hr2 hs2 ax ay he
  ·
   rw[if_neg (by omega),if_pos rfl]at he;have:=QHy h hr2 ax;omega
  ·
   rw[if_pos rfl,if_neg (by omega)]at he;have:=QHy h hs2 ay;omega
  ·
   rfl
 ·
  intro r x hr ax;show∃o',w1.heap[if r=L.n then g else L.at_ r]?=some o'∧_;rcases split r x hr with ⟨hr1,hr2⟩|⟨rfl,rfl⟩
  ·
   obtain⟨x',hx',hor⟩:=h.obj r x hr2 ax;rw[if_neg (by omega)];exact⟨x',(hb.block _ (QHy h hr2 ax)).trans hx',hor.mono hle⟩
  ·
   rw[if_pos rfl];exact⟨_,ho,rfl,rfl,rfl,hsz,fun i hi=>(hx i hi).mono hle⟩
 ·
  intro r hB hr;show w0.heap.size≤(if r=L.n then g else L.at_ r);have hr:r<L.n+1:=hr
  by_cases hrn:r=L.n
  ·
   rw[if_pos hrn];have:=h.below.size;omega
  ·
   rw[if_neg hrn];exact h.fresh r hB (by omega)
 ·
  intro r x hr;rcases split r x hr with ⟨_,hr2⟩|⟨_,rfl⟩
  ·
   exact h.nov r x hr2
  ·
   rfl
theorem QHa {c c1:Fw}{o:Obj}{f:Nat→Value}{r:Res}(h:QP2 c o f=some (r,c1)):big c.n∧r= .ret (f c.n)∧c1=c.push o:=by
 unfold QP2 at h;rw[QJR]at h;obtain⟨hb,h⟩:=QAi h;rw[QKN]at hb;injection h with h
 injection h with h1 h2
 refine⟨of_decide_eq_true hb,h1.symm,?_⟩;rw[←h2,QLK];rfl
theorem Sim.adoptF {F:Fw}{w w1:World}(h:Sim P B G w0 L F.toW w)(hbig:big F.n)(hb:Below w.heap.size w w1){g:Nat}(hg:w.heap.size≤g){xs us:Array Value}{e:TypeId}(ho:w1.heap[g]?=some (.cells us e (0,0)))
  (hsz:xs.size≤us.size) (hx:∀i,i<xs.size→VR P L (xs.getD i undef) (us.getD i undef)):
  ∃M,L.le M∧M.n=F.n+1∧M.at_ F.n=g∧M.sh=w1.shape?∧Sim P B G w0 M (F.push (.cells xs e)).toW w1:=by
 obtain⟨M,m1,m2,m3,m4,m5⟩:=h.adopt hb hg ho hsz hx;have hn:L.n=F.n:=by rw[h.n,Fw.size]
 rw[hn]at m2 m3;exact⟨M,m1,m2,m3,m4,m5.heap (Fw.push_heap F _ hbig)⟩
def QHr(P:Program)(B G:Nat)(w0:World)(f:FuncId)(o:List Value→Fw→RF):Prop:=
 ∀args F r F1,o args F=some (r,F1)→∀L w args',Sim P B G w0 L F.toW w→AR P L ⟨args⟩ args'→
  Calls P f args' w fun e w1=>∃M,L.le M∧Sim P B G w0 M F1.toW w1∧QTX P M r e
theorem QFV {L:Lie}{c w:World}(hE:Env w0)(h:Sim P B G w0 L c w):Env w:=hE.below h.below
theorem QIX {L:Lie}{c w:World}(h9:9≤w0.heap.size)(h:Sim P B G w0 L c w):9≤w.heap.size:=Nat.le_trans h9 h.below.size
theorem QDF {s:ByteArray}(h:QEs s.data.toList=true):s.size≤20000:=by
 unfold QEs at h;rw[QIR]at h;have:=Nat.le_of_ble_eq_true h
 rwa[QAE]at this
theorem QLh {s:ByteArray}(h:s.size≤20000):s.size≤maxLen:=by unfold maxLen;omega
theorem ok36(hE:Env w0)(h9:9≤w0.heap.size):QHr prog B G w0 51 o36:=by
 intro args F r F1 h L w args' hs ha;unfold o36 at h
 split at h
 ·
  rename_i s;obtain⟨hb,h⟩:=QAi h;injection h with h
  injection h with h1 h2
  subst h1 h2;have:=ha.flatL rfl;subst this;exact QEK hs rfl (QDo s w (QFV hE hs) (QLh (QDF hb)) (QIX h9 hs))
 ·
  cases h
theorem ok86(hE:Env w0)(h9:9≤w0.heap.size):QHr prog B G w0 96 o86:=by
 intro args F r F1 h L w args' hs ha;unfold o86 at h
 split at h
 ·
  rename_i s;obtain⟨hb,h⟩:=QAi h;injection h with h
  injection h with h1 h2
  subst h1 h2;have:=ha.flatL rfl;subst this;exact QEK hs rfl (QIO s w (QFV hE hs) (QLh (QDF hb)) (QIX h9 hs))
 ·
  cases h
theorem ok15(hE:Env w0):QHr prog B G w0 17 o15:=by
 intro args F r F1 h L w args' hs ha;unfold o15 at h
 split at h
 ·
  rename_i s;injection h with h
  injection h with h1 h2
  subst h1 h2;have:=ha.flatL rfl;subst this;exact QEK hs rfl (QCm s w (QFV hE hs))
 ·
  cases h
theorem ok94(hE:Env w0)(h9:9≤w0.heap.size):QHr prog B G w0 190 o94:=by
 intro args F r F1 h L w args' hs ha;unfold o94 at h
 split at h
 ·
  rename_i cs
  split at h
  ·
   rename_i k n s a m hcs;obtain⟨hb,h⟩:=QAi h;injection h with h
   injection h with h1 h2
   subst h1 h2;have e1:args'.size=1:=ha.1.symm;have e2:=ha.2 0 (by simp);have hv:args'.getD 0 undef= .agg cs:=VR.agg_flat (by simpa using e2) (by rw[hcs];rfl)
   have e3:args'=#[.agg cs]:=by
    apply Array.ext
    ·
     simp[e1]
    ·
     intro i hi1 hi2;have:i=0:=by simp at hi2;exact hi2
     subst this
     simpa[Array.getD,hi1]using hv
   have e4:cs=#[.int .i64 k,.int .i64 n,.string s,.int .i64 a,.int .i64 m]:=by apply Array.ext';simpa using hcs
   subst e3 e4;exact QEK hs rfl (QNQ k n a m s w (QFV hE hs) (QLh (QDF hb)) (QIX h9 hs))
  ·
   cases h
 ·
  cases h
theorem ok37(hE:Env w0):QHr prog B G w0 52 o37:=by
 intro args F r F1 h L w args' hs ha;unfold o37 at h
 split at h
 ·
  rename_i s t;obtain⟨hb,h⟩:=QAi h;injection h with h
  injection h with h1 h2
  subst h1 h2;have:=ha.flatL rfl;subst this;obtain⟨m,hm⟩:=(QFV hE hs).mx;refine QEK hs (by simp[QJP,QA1,QQG]) ((Tryz.strings_Cut s t m w (by have:=QDF hb;omega) hm).mono ?_);rintro e w' ⟨he,n,rfl⟩;exact⟨he,QAB (Below.refl _ _) n⟩
 ·
  cases h
theorem ok53(hE:Env w0):QHr prog B G w0 132 o53:=by
 intro args F r F1 h L w args' hs ha;unfold o53 at h
 split at h
 ·
  rename_i s;obtain⟨hb,h⟩:=QAi h;injection h with h
  injection h with h1 h2
  subst h1 h2;have:=ha.flatL rfl;subst this;exact QEK hs (by simp[QJP,QA1]) (QMP s w (by have:=QDF hb;omega) (QFV hE hs))
 ·
  cases h
theorem QPD(ls:List (List UInt8)):(ls.map fun l=>Value.string ⟨l.toArray⟩).all QA1=true:=by
 induction ls with
 |nil=>rfl
 |cons x l ih=>simp[QA1]
theorem QL6 {l:List Value}(h:l.all QA1=true)(i:Nat)(hi:i<l.toArray.size):VR P L (l.toArray.getD i undef) (l.toArray.getD i undef):=by
 have hi':i<l.length:=by simpa using hi
 have:l.toArray.getD i undef=l[i]:=by simp[Array.getD,hi']
 rw[this];exact VR.of_flat1 (List.all_eq_true.1 h _ (List.getElem_mem hi'))
theorem ok38(hE:Env w0):QHr prog B G w0 48 o38:=by
 intro args F r F1 h L w args' hs ha;unfold o38 at h
 split at h
 ·
  rename_i s;obtain⟨hb,h⟩:=QAi h;obtain⟨hasc,h⟩:=QAi h;obtain⟨hbig,rfl,rfl⟩:=QHa h;have:=ha.flatL rfl;subst this;refine(Tryz.strings_Fields s w (by have:=QDF hb;omega) (fun j b hj=>?_) (QFV hE hs).spc).mono ?_
  ·
   have:=List.all_eq_true.1 hasc b (List.mem_of_getElem? hj);have:=Nat.le_of_ble_eq_true this;omega
  ·
   rintro e w1 ⟨rfl,rfl⟩;obtain⟨M,m1,m2,m3,m4,m5⟩:=hs.adoptF hbig ((Below.refl _ _).alloc (Nat.le_refl _) _) (Nat.le_refl _) (World.alloc_heap_new w _) (Nat.le_refl _) (fun i hi=>QL6 (QPD _) i hi);refine⟨M,m1,m5,?_⟩;show VR _ M (.slice (some ⟨F.n,0,none⟩) _ _) (.slice (some ⟨w.heap.size,0,none⟩) _ _);rw[←m3];exact .slice _ _ _ _ _ (by omega) (.inl rfl)
 ·
  cases h
theorem QMd(l:List Tk):(QDC l).all QA1=true:=by
 induction l with
 |nil=>rfl
 |cons x l ih=>show((QH9 x++QDC l).all QA1)=true;rw[List.all_append,ih];rfl
theorem QQI:prog.cellsOf 193=5:=by kernel_rfl
theorem ok9(hE:Env w0)(h9:9≤w0.heap.size):QHr prog B G w0 29 o9:=by
 intro args F r F1 h L w args' hs ha;unfold o9 at h
 split at h
 ·
  rename_i s;obtain⟨hb,h⟩:=QAi h
  split at h
  ·
   cases h
  ·
   rename_i t ts hts;obtain⟨hbig,rfl,rfl⟩:=QHa h;have:=ha.flatL rfl;subst this;refine(QMx s w (QFV hE hs) (QLh (QDF hb)) (QIX h9 hs)).mono ?_;rintro e w1 ⟨v,rfl,hown,hbw⟩;rw[hts]at hown;rcases hown.2 with ⟨_,hn⟩|⟨g,cap,cur,rfl,hg,hgb,hcap,_,hcs,htk⟩
   ·
    simp at hn
   ·
    have hcur:(QDC (t::ts)).length≤cur.size:=by rw[QFg,hcs];exact Nat.mul_le_mul_right 5 hcap
    obtain⟨M,m1,m2,m3,m4,m5⟩:=hs.adoptF (xs:=⟨QDC (t::ts)⟩) hbig hbw hg hgb (by simpa using hcur) (fun i hi=>by
     simp only[List.size_toArray]at hi
     have he:cur.getD i undef=(⟨QDC (t::ts)⟩:Array Value).getD i undef:=by
      have h1:i<cur.size:=by omega
      have h2:cur.toList[i]?=(QDC (t::ts))[i]?:=by
       rw[←htk,List.getElem?_take_of_lt (by rw[←QFg];exact hi)]
      simp only[Array.getD,h1,hi,List.size_toArray,dite_true];rw[List.getElem?_eq_getElem (by simpa using h1),List.getElem?_eq_getElem hi]at h2;injection h2
     rw[he]
     exact VR.of_flat1 (L:=L) (by have:=List.all_eq_true.1 (QMd (t::ts)) _ (List.getElem_mem hi);simpa[Array.getD,hi]using this))
    refine⟨M,m1,m5,?_⟩;show VR _ M (.slice (some ⟨F.n,0,none⟩) _ _) (.slice (some ⟨g,0,none⟩) _ _);rw[←m3];refine .slice _ _ _ _ _ (by omega) (.inr ⟨hcap,193,cur.size,?_,?_⟩)
    ·
     rw[m4,m3];unfold World.shape?;rw[hgb]
    ·
     rw[QQI,hcs];omega
 ·
  cases h
end Go.Proofs.YtjnclkakbopnjaaGreatDoor
set_option maxRecDepth 100000
namespace Go.Proofs.YtjnclkakbopnjaaGreatDoor
open Go.Proofs.Tryz
open Go.RowKit
variable {B G : Nat} {w0 : World}
theorem QF1:∀{vs:List Value} {ls:List (List UInt8)},QIw vs=some ls→vs=ls.map fun l=>Value.string ⟨⟨l⟩⟩
 | [],ls,h=>by simp only[QIw,Option.some.injEq]at h;subst h;rfl
 | .string s::r,ls,h=>by
  simp only[QIw]at h
  split at h
  ·
   rename_i l hl;injection h with h
   subst h;rw[List.map_cons,QF1 hl]
  ·
   cases h
theorem ok83:QHr prog B G w0 156 o83:=by
 intro args F r F1 h L w args' hs ha;unfold o83 at h
 split at h
 ·
  rename_i b o n c sep
  split at h
  ·
   rename_i xs e fz hrd
   split at h
   ·
    rename_i vs hvs
    split at h
    ·
     rename_i ls hls;obtain⟨hnc,h⟩:=QAi h;obtain⟨hlen,h⟩:=QAi h;injection h with h
     injection h with h1 h2
     subst h1 h2
     have hnb:n≤100000∧n≤c:=by
      cases hb1:Nat.ble n 100000 with
      |false=>rw[hb1]at hnc;cases hnc
      |true=>rw[hb1]at hnc;exact⟨Nat.le_of_ble_eq_true hb1,Nat.le_of_ble_eq_true hnc⟩
     have hnc:=hnb.2;have hlen:=Nat.le_of_ble_eq_true hlen;rw[QHm]at hvs;rw[QLp]at hrd;obtain⟨k1,k2,k3⟩:=QCX _ _ _ _ hvs;have hvl:=QF1 hls;have hll:ls.length=n:=by rw[←k1,hvl,List.length_map]
     obtain⟨hbn,us,hus,hfz,hxu,hvr⟩:=hs.cells (Fw.rd_some hrd);have e1:args'.size=2:=ha.1.symm;have v0:VR prog L (.slice (some ⟨b,o,none⟩) n c) (args'.getD 0 undef):=by simpa using ha.2 0 (by simp)
     have v1:VR prog L (.string sep) (args'.getD 1 undef):=by simpa using ha.2 1 (by simp)
     have v1':=v1.eq_of_flat1 rfl;generalize h0:args'.getD 0 undef=a0 at v0
     cases v0 with
     |slice _ _ _ _ c' hb' hc'=>
     have e3:args'=#[.slice (some ⟨L.at_ b,o,none⟩) n c',.string sep]:=by
      apply Array.ext
      ·
       simp[e1]
      ·
       intro i hi1 hi2;have hi3:i<2:=by simpa using hi2
       match i,hi3 with
       |0,_=>simpa[Array.getD,hi1]using h0
       |1,_=>simpa[Array.getD,hi1]using v1'
     subst e3;have hcc:n≤c':=by rcases hc' with rfl|⟨h,_⟩ <;> omega
     have hJ:=Tryz.strings_Join (L.at_ b) o c' (ls.map fun l=>(⟨⟨l⟩⟩:ByteArray)) sep w (fun j x hj=>by
      have hjn:j<n:=by
       have:=(List.getElem?_eq_some_iff.1 hj).1
       simpa[hll]using this
      have k4:=k3 j hjn
      have hxj:vs.getD j undef= .string x:=by
       rw[hvl];rw[List.getElem?_map]at hj;simp only[List.getD_eq_getElem?_getD,List.getElem?_map]
       cases hl:ls[j]? with
       |none=>rw[hl]at hj;cases hj
       |some l=>rw[hl]at hj;injection hj with hj;simp[←hj]
      rw[hxj]at k4;have hlt:o+j<xs.size:=by have:=(List.getElem?_eq_some_iff.1 k4).1;simpa using this
      have hv:=hvr (o+j) hlt
      have hx0:xs.getD (o+j) undef= .string x:=by
       have h5:xs[o+j]?=some (.string x):=by rw[←Array.getElem?_toList];exact k4
       simp only[Array.getD,hlt,dite_true];rw[Array.getElem?_eq_getElem hlt]at h5;injection h5
      rw[hx0]at hv;have:=hv.eq_of_flat1 rfl
      rw[cell?_of hus,getElem?_of_getD (by omega),this]) (by have:=(Array.getElem?_eq_some_iff.1 hus).1;exact this) (by
       simp only[List.length_map]
       omega) (by simp only[List.length_map];omega) (by
       simp only[List.map_map];have:((fun x:ByteArray=>x.data.toList)∘fun l:List UInt8=>(⟨⟨l⟩⟩:ByteArray))=id:=rfl;rw[this,List.map_id]
       omega)
     simp only[List.length_map,List.map_map,hll]at hJ;rw[show((fun x:ByteArray=>x.data.toList)∘fun l:List UInt8=>(⟨⟨l⟩⟩:ByteArray))=id from rfl,List.map_id]at hJ;exact QEK hs rfl hJ
    ·
     cases h
   ·
    cases h
  ·
   cases h
 ·
  cases h
theorem QSw(hE:Env w0)(h9:9≤w0.heap.size):QCD prog B G w0 fun f args F=>(QTk f).run args F:=by
 intro f args F r F1 h L w args' hs ha;have h:(QTk f).run args F=some (r,F1):=h;unfold QTk at h
 have st:∀{x y:Oc} {k:Nat},(bre x y (Nat.beq f k)).run args F=some (r,F1)→(f=k∧y.run args F=some (r,F1))∨x.run args F=some (r,F1):=by
  intro x y k h
  cases hk:Nat.beq f k with
  |true=>rw[hk]at h;exact .inl ⟨Nat.eq_of_beq_eq_true hk,h⟩
  |false=>rw[hk]at h;exact .inr h
 rcases st h with ⟨rfl,h⟩|h
 ·
  exact ok38 hE args F r F1 h L w args' hs ha
 rcases st h with ⟨rfl,h⟩|h
 ·
  exact ok15 hE args F r F1 h L w args' hs ha
 rcases st h with ⟨rfl,h⟩|h
 ·
  exact ok36 hE h9 args F r F1 h L w args' hs ha
 rcases st h with ⟨rfl,h⟩|h
 ·
  exact ok86 hE h9 args F r F1 h L w args' hs ha
 rcases st h with ⟨rfl,h⟩|h
 ·
  exact ok94 hE h9 args F r F1 h L w args' hs ha
 rcases st h with ⟨rfl,h⟩|h
 ·
  exact ok37 hE args F r F1 h L w args' hs ha
 rcases st h with ⟨rfl,h⟩|h
 ·
  exact ok53 hE args F r F1 h L w args' hs ha
 rcases st h with ⟨rfl,h⟩|h
 ·
  exact ok9 hE h9 args F r F1 h L w args' hs ha
 rcases st h with ⟨rfl,h⟩|h
 ·
  exact ok83 args F r F1 h L w args' hs ha
 ·
  cases h
def QQa(P:Program)(f:Nat):Bool:=match P.funcs[f]? with
 |some fn=>fn.body.isSome&& !(fn.name== "runtime.NumGoroutine")
 |none=>false
theorem QRK:((List.range 338).all fun f=>!QNa f||QQa prog f)=true:=by kernel_rfl
theorem QQb:QE3 prog QNa:=by
 intro f hf args w
 have hlt:f<338:=by
  unfold QNa at hf
  cases hb:Nat.ble (Nat.succ f) 338 with
  |true=>exact Nat.le_of_ble_eq_true hb
  |false=>rw[hb]at hf;cases hf
 have h1:=List.all_eq_true.1 QRK f (List.mem_range.2 hlt);rw[hf]at h1;simp only[Bool.not_true,Bool.false_or]at h1;unfold QQa at h1
 split at h1
 ·
  rename_i fn hfn;simp only[Bool.and_eq_true,Bool.not_eq_true',Option.isSome_iff_exists]at h1;obtain⟨⟨c,hc⟩,hn⟩:=h1;exact MuLone.run_callFunc_enter hfn hn hc args w
 ·
  cases h1
theorem QOY:(prog.funcs.toList.zipIdx.all fun p=>match p.1.body with|some c=>QBo 9 (QB4 p.2) c|none=>true)=true:=by kernel_rfl
theorem QLl:QE5 prog 9 QB4:=by
 intro f fn code hf hb
 have hm:(fn,f)∈prog.funcs.toList.zipIdx:=by
  rw[List.mem_zipIdx_iff_getElem?]
  simpa using hf
 have:=List.all_eq_true.1 QOY _ hm;simp only[hb]at this;exact this
end Go.Proofs.YtjnclkakbopnjaaGreatDoor
set_option maxRecDepth 100000
namespace Go.Proofs.YtjnclkakbopnjaaGreatDoor
open Go.Proofs.Tryz
open Go.RowKit
theorem QQT(w:World)(h9:9≤w.heap.size):Sim prog 9 9 w ⟨9,fun r=>r,w.shape?⟩ c0.toW w:=by
 have hd:∀(r:Nat) (o:Obj),c0.toW.heap[r]?=some o→o=Obj.coro none:=by
  intro r o h;rw[Fw.heap_get]at h
  split at h
  ·
   injection h with h;rw[←h];rfl
  ·
   cases h
 refine⟨by rw[Fw.size];rfl,rfl,fun _ _=>rfl,Nat.le_refl _,Nat.le_refl _,?_,?_,?_,Below.refl _ _,?_⟩
 ·
  intro r s o o' hr _ ha _ _;rw[hd r o hr]at ha;cases ha
 ·
  intro r o hr ha;rw[hd r o hr]at ha;cases ha
 ·
  intro r h1 h2;have h2:r<9:=h2;omega
 ·
  intro r o hr;rw[hd r o hr];rfl
theorem QKr {r:RF}(h:QNy r=true):∃F1,r=some (.ret (.bool true),F1):=by
 unfold QNy at h
 split at h
 ·
  exact⟨_,rfl⟩
 ·
  cases h
theorem QO3(w:World)(hE:Env w)(h9:9≤w.heap.size):Calls prog 7 #[] w fun e w'=>e= .returned (.bool true)∧Below w.heap.size w w':=by
 obtain⟨F1,hx⟩:=QKr QP7;have hC:=QGM (w0:=w) (G:=9) (B:=9) (P:=prog) (by kernel_rfl) QQb QLl (QSw hE h9) (fuel:=100000) 300;refine(hC _ _ _ _ _ hx _ w #[] (QQT w h9) ⟨rfl,fun i h=>absurd h (by simp)⟩).mono ?_;rintro e w' ⟨M,_,hS,hR⟩
 cases e with
 |returned v=>
  have hR:VR prog M (.bool true) v:=hR;exact⟨by rw[hR.eq_of_flat1 rfl],hS.below⟩
 |_=>exact hR.elim
end Go.Proofs.YtjnclkakbopnjaaGreatDoor
set_option maxRecDepth 100000
namespace Go.Proofs.YtjnclkakbopnjaaGreatDoor
open Go.Proofs.Tryz
open Go.RowKit
def noO:FuncId→Oc:=fun _=>⟨fun _ _=>none⟩
theorem QSv {w0:World}:QCD prog 9 9 w0 fun f args F=>(noO f).run args F:=by
 intro f args F r F1 h;have h:none=some (r,F1):=h
 cases h
def QGl:RF→Option (Nat × List Value)
 |some (.ret (.slice (some ⟨b,0,none⟩) n _),F)=>(match F.rd b with
  |some (.cells xs _ _)=>some (n,xs.toList)
  |_=>none)
 |_=>none
def QO2:List UInt8→List UInt8→Bool
 | [], []=>true
 |a::x,b::y=>if Nat.beq a.toNat b.toNat then QO2 x y else false
 |_,_=>false
theorem QIk:∀a b:List UInt8,QO2 a b=true→a=b
 | [], [],_=>rfl
 |a::x,b::y,h=>by
  unfold QO2 at h
  split at h
  ·
   rename_i he;rw[QIk x y h,UInt8.toNat_inj.1 (Nat.eq_of_beq_eq_true he)]
  ·
   cases h
 | [],_::_,h=>by cases h
 |_::_, [],h=>by cases h
def QMm:List Value→List (List UInt8)→Bool
 | .string s::vs,l::ls=>if QO2 s.data.toList l then QMm vs ls else false
 |_, []=>true
 |_,_=>false
def QMl:List Value→List (Nat × List UInt8)→Bool
 | .int .i64 (.ofNat k):: .string s::vs,(m,l)::ls=>if Nat.beq k m then(if QO2 s.data.toList l then QMl vs ls else false) else false
 |_, []=>true
 |_,_=>false
def plainT:List (List UInt8):= [[76], [76,87,42,70], [66,87,42,76], [66,87,42,76,87,42,70]]
def rulesT:List (Nat × List UInt8):=
 (plainT.flatMap fun n=> [(1,n),(1,n++ [64,65,81,42]),(3,n++ [58]),(6,63::n)]++plainT.map fun m=>(6,63::n++58::m))++ [(2, [68,68,42]),(2, [45,68,68,42]),(4, [35,116]),(4, [35,102])]
def signsT:List (List UInt8):= [[40], [41], [91], [93], [123], [125], [44], [59], [46], [61], [60], [62], [43], [45], [42], [47], [38], [124], [126], [63], [58,61], [58,58], [61,62], [61,61], [60,61], [62,61]]
def QNo(r:RF)(t:List (List UInt8)):Bool:=match QGl r with|some (n,vs)=>if Nat.beq n t.length then QMm vs t else false|none=>false
def QRR(r:RF)(t:List (Nat × List UInt8)):Bool:=match QGl r with|some (n,vs)=>if Nat.beq n t.length then QMl vs t else false|none=>false
theorem QOX:QNo (QPM prog 9 QNa QB4 noO 10000 20 262 [] c0) plainT=true:=by kernel_rfl
theorem QO7:QNo (QPM prog 9 QNa QB4 noO 10000 20 266 [] c0) signsT=true:=by kernel_rfl
theorem QOy:QRR (QPM prog 9 QNa QB4 noO 10000 20 261 [] c0) rulesT=true:=by kernel_rfl
theorem QKB {r:RF}{n:Nat}{vs:List Value}(h:QGl r=some (n,vs)):∃b c F xs e fz,r=some (.ret (.slice (some ⟨b,0,none⟩) n c),F)∧F.rd b=some (.cells xs e fz)∧xs.toList=vs:=by
 unfold QGl at h
 split at h
 ·
  rename_i b n' c F
  split at h
  ·
   rename_i xs e fz hrd;injection h with h
   injection h with h1 h2
   subst h1;exact⟨b,c,F,xs,e,fz,rfl,hrd,h2⟩
  ·
   cases h
 ·
  cases h
theorem QGm {f:FuncId}{n:Nat}{vs:List Value}(h:QGl (QPM prog 9 QNa QB4 noO 10000 20 f [] c0)=some (n,vs))(w:World)(h9:9≤w.heap.size):
  Calls prog f #[] w fun e w'=>Below w.heap.size w w'∧∃b c,e= .returned (.slice (some ⟨b,0,none⟩) n c)∧∀(i:Nat) (v:Value),vs[i]?=some v→QA1 v=true→w'.cell? ⟨b,i,none⟩=some v:=by
 obtain⟨b,c,F1,xs,e,fz,hx,hrd,rfl⟩:=QKB h;have hC:=QGM (w0:=w) (G:=9) (B:=9) (P:=prog) (by kernel_rfl) QQb QLl QSv (fuel:=10000) 20;refine(hC _ _ _ _ _ hx _ w #[] (QQT w h9) ⟨rfl,fun i h=>absurd h (by simp)⟩).mono ?_;rintro en w' ⟨M,_,hS,hR⟩
 cases en with
 |returned v=>
  have hR:VR prog M (.slice (some ⟨b,0,none⟩) n c) v:=hR;refine⟨hS.below,?_⟩
  cases hR with
  |slice _ _ _ _ c' hb hc=>
  refine⟨M.at_ b,c',rfl,fun i v hv hf=>?_⟩
  have hcell:F1.toW.cell? ⟨b,i,none⟩=some v:=by
   rw[cell?_of (F1.rd_some hrd)]
   simpa using hv
  obtain⟨_,v',h1,h2⟩:=hS.load hcell;rw[h1,h2.eq_of_flat1 hf]
 |_=>exact hR.elim
theorem QHh:∀(vs:List Value) (ls:List (List UInt8)),QMm vs ls=true→∀(i:Nat) (l:List UInt8),ls[i]?=some l→∃s:ByteArray,vs[i]?=some (Value.string s)∧s.data.toList=l
 |vs, [],_,i,l,h=>by simp at h
 | [],l::ls,h,_,_,_=>by simp[QMm]at h
 |v::vs,l::ls,h,i,l',hl=>by
  cases v with
  |string s=>
   simp only[QMm]at h
   split at h
   ·
    rename_i he
    cases i with
    |zero=>exact⟨s,rfl,by rw[QIk _ _ he];simpa using hl⟩
    |succ i=>exact QHh vs ls h i l' (by simpa using hl)
   ·
    cases h
  |_=>simp[QMm]at h
theorem QHg:∀(vs:List Value) (ls:List (Nat × List UInt8)),QMl vs ls=true→∀(i k:Nat) (l:List UInt8),ls[i]?=some (k,l)→∃s:ByteArray,vs[2*i]?=some (Value.int .i64 k)∧vs[2*i+1]?=some (Value.string s)∧s.data.toList=l
 |vs, [],_,i,k,l,h=>by simp at h
 | [],l::ls,h,_,_,_,_=>by simp[QMl]at h
 | [v],l::ls,h,_,_,_,_=>by unfold QMl at h;split at h <;> simp_all
 |v::u::vs,(k,l)::ls,h,i,k',l',hl=>by
  unfold QMl at h
  split at h
  ·
   rename_i m s vs' k2 l2 ls' e1 e2;injection e1 with e1 e3
   injection e3 with e3 e4
   injection e2 with e2 e5
   injection e2 with e6 e7
   subst e1 e3 e4 e5 e6 e7
   split at h
   ·
    rename_i hk
    split at h
    ·
     rename_i hl2
     cases i with
     |zero=>
      simp only[List.getElem?_cons_zero,Option.some.injEq,Prod.mk.injEq]at hl;refine⟨s,?_,rfl,?_⟩
      ·
       rw[←hl.1,←Nat.eq_of_beq_eq_true hk];rfl
      ·
       rw[QIk _ _ hl2];exact hl.2
     |succ i=>
      have:=QHg vs ls h i k' l' (by simpa using hl)
      simpa[Nat.mul_add]using this
    ·
     cases h
   ·
    cases h
  ·
   rename_i h2;cases h2
  ·
   cases h
structure TabS(w:World)(b:Nat)(t:List (List UInt8)):Prop where
 at_:∀(i:Nat) (l:List UInt8),t[i]?=some l→∃s:ByteArray,w.cell? ⟨b,i,none⟩=some (.string s)∧s.data.toList=l
structure TabR(w:World)(b:Nat)(t:List (Nat × List UInt8)):Prop where
 at_:∀(i k:Nat) (l:List UInt8),t[i]?=some (k,l)→∃s:ByteArray,w.cell? ⟨b,2*i,none⟩=some (.int .i64 k)∧w.cell? ⟨b,2*i+1,none⟩=some (.string s)∧s.data.toList=l
theorem TabS.below {w w':World}{b:Nat}{t:List (List UInt8)}(h:TabS w b t)(hb:Below w.heap.size w w'):TabS w' b t:=
 ⟨fun i l hl=>by obtain⟨s,h1,h2⟩:=h.at_ i l hl;exact⟨s,QAA hb h1,h2⟩⟩
theorem TabR.below {w w':World}{b:Nat}{t:List (Nat × List UInt8)}(h:TabR w b t)(hb:Below w.heap.size w w'):TabR w' b t:=
 ⟨fun i k l hl=>by obtain⟨s,h1,h2,h3⟩:=h.at_ i k l hl;exact⟨s,QAA hb h1,QAA hb h2,h3⟩⟩
theorem QEH {f:FuncId}{t:List (List UInt8)}(h:QNo (QPM prog 9 QNa QB4 noO 10000 20 f [] c0) t=true)(w:World)(h9:9≤w.heap.size):
  Calls prog f #[] w fun e w'=>Below w.heap.size w w'∧∃b c,e= .returned (.slice (some ⟨b,0,none⟩) t.length c)∧TabS w' b t:=by
 unfold QNo at h
 split at h
 ·
  rename_i n vs hs
  split at h
  ·
   rename_i hn;have hn:=Nat.eq_of_beq_eq_true hn;subst hn;refine(QGm hs w h9).mono ?_;rintro e w' ⟨hb,b,c,rfl,hc⟩;refine⟨hb,b,c,rfl,⟨fun i l hl=>?_⟩⟩;obtain⟨s,h1,h2⟩:=QHh vs t h i l hl;exact⟨s,hc i _ h1 rfl,h2⟩
  ·
   cases h
 ·
  cases h
theorem QKf {f:FuncId}{t:List (Nat × List UInt8)}(h:QRR (QPM prog 9 QNa QB4 noO 10000 20 f [] c0) t=true)(w:World)(h9:9≤w.heap.size):
  Calls prog f #[] w fun e w'=>Below w.heap.size w w'∧∃b c,e= .returned (.slice (some ⟨b,0,none⟩) t.length c)∧TabR w' b t:=by
 unfold QRR at h
 split at h
 ·
  rename_i n vs hs
  split at h
  ·
   rename_i hn;have hn:=Nat.eq_of_beq_eq_true hn;subst hn;refine(QGm hs w h9).mono ?_;rintro e w' ⟨hb,b,c,rfl,hc⟩;refine⟨hb,b,c,rfl,⟨fun i k l hl=>?_⟩⟩;obtain⟨s,h1,h2,h3⟩:=QHg vs t h i k l hl;exact⟨s,hc _ _ h1 rfl,hc _ _ h2 rfl,h3⟩
  ·
   cases h
 ·
  cases h
theorem QMf(w:World)(h9:9≤w.heap.size):Calls prog 262 #[] w fun e w'=>Below w.heap.size w w'∧∃b c,e= .returned (.slice (some ⟨b,0,none⟩) 4 c)∧TabS w' b plainT:=QEH QOX w h9
theorem QMh(w:World)(h9:9≤w.heap.size):Calls prog 266 #[] w fun e w'=>Below w.heap.size w w'∧∃b c,e= .returned (.slice (some ⟨b,0,none⟩) 26 c)∧TabS w' b signsT:=QEH QO7 w h9
theorem QMg(w:World)(h9:9≤w.heap.size):Calls prog 261 #[] w fun e w'=>Below w.heap.size w w'∧∃b c,e= .returned (.slice (some ⟨b,0,none⟩) 36 c)∧TabR w' b rulesT:=QKf QOy w h9
def QDK(l:List UInt8)(i:Nat):Bool:=(plainT.take i).any fun p=>decide (0<QE2 p l)
def QAv(name:Bool)(l:List UInt8)(out:Nat × Nat)(r:Nat × List UInt8):Nat × Nat:=
 if(name&&r.1 !=1&&r.1 !=3)||!QBm r.1 r.2 l then out
 else if decide (out.2<QE2 r.2 l)||(QE2 r.2 l==out.2&&decide (r.1<out.1)) then(r.1,QE2 r.2 l) else out
def QAn(name:Bool)(l:List UInt8)(i:Nat):Nat × Nat:=(rulesT.take i).foldl (QAv name l) (0,0)
def QBh(l:List UInt8)(out:Nat × Nat)(t:List UInt8):Nat × Nat:=if decide (out.2<t.length)&&decide (t.length≤l.length)&&l.take t.length==t then(5,t.length) else out
def QCg(l:List UInt8)(out:Nat × Nat)(i:Nat):Nat × Nat:=(signsT.take i).foldl (QBh l) out
def QBF(l:List UInt8):Nat × Nat:=if QDK l 4 then QAn true l 36 else QCg l (QAn false l 36) 26
structure QEA(l:List UInt8)(n:Nat):Prop where
 pos:0<n
 first:(QBN (byt l 0)||QGs (byt l 0))=true
 all:∀j,j<n→QDz (byt l j)=true
 letter:∃j,j<n∧QBN (byt l j)=true
 last:QG0 (byt l (n - 1))=true
theorem QJG {x:Nat}(h:QBN x=true):QDz x=true:=by simp[QDz,h]
theorem QQX {x:Nat}(h:QBN x=true):QG0 x=true:=by
 simp only[QG0,QJG h,Bool.true_and];simp only[QBN,Bool.and_eq_true,decide_eq_true_eq]at h;simp[QDR];omega
theorem QQW {x:Nat}(h:QG0 x=true):QDz x=true:=by simp only[QG0,Bool.and_eq_true]at h;exact h.1
theorem QQV {x:Nat}(h:QGs x=true):QDz x=true:=by
 simp only[QGs,QDR,List.contains_eq_mem,List.mem_cons,List.not_mem_nil,or_false,decide_eq_true_eq]at h;rcases h with rfl|rfl|rfl|rfl|rfl <;> decide
theorem QAY(l:List UInt8)(c:Nat)(A:Nat→Bool)(i:Nat):QJy l c A i=true↔0<i∧A (i - 1)=true∧QCG c (byt l (i - 1))=true:=by
 cases i with
 |zero=>simp[QJy]
 |succ i=>simp[QJy]
theorem QBP(l:List UInt8)(c:Nat)(A:Nat→Bool):∀i:Nat,QOp l c A i=true↔∃j,j≤i∧A j=true∧∀k,j≤k→k<i→QCG c (byt l k)=true
 |0=>by
  simp only[QOp];constructor
  ·
   intro h;exact⟨0,Nat.le_refl _,h,fun k _ hk=>absurd hk (Nat.not_lt_zero _)⟩
  ·
   rintro⟨j,hj,h, -⟩;have:j=0:=by omega
   subst this;exact h
 |i+1=>by
  simp only[QOp,Bool.or_eq_true,Bool.and_eq_true,QBP l c A i];constructor
  ·
   rintro(h|⟨⟨j,hj,h,hk⟩,hc⟩)
   ·
    exact⟨i+1,Nat.le_refl _,h,fun k h1 h2=>by omega⟩
   ·
    refine⟨j,by omega,h,fun k h1 h2=>?_⟩
    by_cases e:k=i
    ·
     subst e;exact hc
    ·
     exact hk k h1 (by omega)
  ·
   rintro⟨j,hj,h,hk⟩
   by_cases e:j=i+1
   ·
    subst e;exact Or.inl h
   ·
    exact Or.inr ⟨⟨j,by omega,h,fun k h1 h2=>hk k h1 (by omega)⟩,hk i (by omega) (by omega)⟩
theorem QUL(l:List UInt8)(A:Nat→Bool):QEU l [76] A=QJy l 76 A:=rfl
theorem QUM(l:List UInt8)(A:Nat→Bool):QEU l [76,87,42,70] A=QJy l 70 (QOp l 87 (QJy l 76 A)):=rfl
theorem QUN(l:List UInt8)(A:Nat→Bool):QEU l [66,87,42,76] A=QJy l 76 (QOp l 87 (QJy l 66 A)):=rfl
theorem QUO(l:List UInt8)(A:Nat→Bool):QEU l [66,87,42,76,87,42,70] A=QJy l 70 (QOp l 87 (QJy l 76 (QOp l 87 (QJy l 66 A)))):=rfl
theorem QUQ(l:List UInt8)(n:List UInt8)(hn:n∈plainT)(A:Nat→Bool):QEU l (n++ [64,65,81,42]) A=QOp l 81 (QJy l 65 (QJy l 64 (QEU l n A))):=by
 simp only[plainT,List.mem_cons,List.not_mem_nil,or_false]at hn;rcases hn with rfl|rfl|rfl|rfl <;> rfl
theorem QQo(b:Nat):QCG 76 b=QBN b:=rfl
theorem QTe(b:Nat):QCG 70 b=QG0 b:=rfl
theorem QTd(b:Nat):QCG 66 b=QGs b:=rfl
theorem in65(b:Nat):QCG 65 b=(QBN b||QCp b):=rfl
theorem in64(b:Nat):QCG 64 b=(b==64):=rfl
theorem QBE(l:List UInt8)(n:Nat):(∃p∈plainT,QEU l p (fun i=>i==0) n=true)↔QEA l n:=by
 constructor
 ·
  rintro⟨p,hp,h⟩;simp only[plainT,List.mem_cons,List.not_mem_nil,or_false]at hp;rcases hp with rfl|rfl|rfl|rfl
  ·
   rw[QUL,QAY,QQo,beq_iff_eq]at h;obtain⟨h1,h2,h3⟩:=h;have e:n=1:=by omega
   subst e;refine⟨by omega,by rw[show byt l 0=byt l (1 - 1)from rfl,h3];rfl,fun j hj=>?_,⟨0,by omega,h3⟩,QQX h3⟩;have:j=0:=by omega
   subst this;exact QJG h3
  ·
   rw[QUM,QAY,QTe,QBP]at h;obtain⟨h1,⟨j,h2,h3,h4⟩,h5⟩:=h;rw[QAY,QQo,beq_iff_eq]at h3;obtain⟨h6,h7,h8⟩:=h3;have e:j=1:=by omega
   subst e;refine⟨by omega,by rw[show byt l 0=byt l (1 - 1)from rfl,h8];rfl,fun k hk=>?_,⟨0,by omega,h8⟩,h5⟩
   by_cases e1:k=n - 1
   ·
    subst e1;exact QQW h5
   ·
    by_cases e2:k=0
    ·
     subst e2;exact QJG h8
    ·
     exact h4 k (by omega) (by omega)
  ·
   rw[QUN,QAY,QQo,QBP]at h;obtain⟨h1,⟨j,h2,h3,h4⟩,h5⟩:=h;rw[QAY,QTd,beq_iff_eq]at h3;obtain⟨h6,h7,h8⟩:=h3;have e:j=1:=by omega
   subst e;refine⟨by omega,by rw[show byt l 0=byt l (1 - 1)from rfl,h8];simp,fun k hk=>?_,⟨n - 1,by omega,h5⟩,QQX h5⟩
   by_cases e1:k=n - 1
   ·
    subst e1;exact QJG h5
   ·
    by_cases e2:k=0
    ·
     subst e2;exact QQV h8
    ·
     exact h4 k (by omega) (by omega)
  ·
   rw[QUO,QAY,QTe,QBP]at h;obtain⟨h1,⟨j,h2,h3,h4⟩,h5⟩:=h;rw[QAY,QQo,QBP]at h3;obtain⟨h6,⟨i,h7,h8,h9⟩,h10⟩:=h3;rw[QAY,QTd,beq_iff_eq]at h8;obtain⟨h11,h12,h13⟩:=h8;have e:i=1:=by omega
   subst e;refine⟨by omega,by rw[show byt l 0=byt l (1 - 1)from rfl,h13];simp,fun k hk=>?_,⟨j - 1,by omega,h10⟩,h5⟩
   by_cases e1:k=n - 1
   ·
    subst e1;exact QQW h5
   ·
    by_cases e2:k=0
    ·
     subst e2;exact QQV h13
    ·
     by_cases e3:k=j - 1
     ·
      subst e3;exact QJG h10
     ·
      by_cases e4:k<j - 1
      ·
       exact h9 k (by omega) e4
      ·
       exact h4 k (by omega) (by omega)
 ·
  intro h;have h0:=h.pos
  cases hL:QBN (byt l 0)with
  |true=>
   by_cases e:n=1
   ·
    subst e;exact⟨_,List.mem_cons_self,by rw[QUL,QAY,QQo];exact⟨by omega,rfl,hL⟩⟩
   ·
    refine⟨[76,87,42,70],by decide,?_⟩;rw[QUM,QAY,QTe,QBP];refine⟨h0,⟨1,by omega,?_,fun k _ hk=>h.all k (by omega)⟩,h.last⟩;rw[QAY,QQo];exact⟨by omega,rfl,hL⟩
  |false=>
   have hB:QGs (byt l 0)=true:=by have:=h.first;rw[hL]at this;exact this
   obtain⟨j,hj,hl⟩:=h.letter;have hj0:j≠0:=by intro e;subst e;rw[hL]at hl;cases hl
   by_cases e:j=n - 1
   ·
    subst e;refine⟨[66,87,42,76],by decide,?_⟩;rw[QUN,QAY,QQo,QBP];refine⟨h0,⟨1,by omega,?_,fun k _ hk=>h.all k (by omega)⟩,hl⟩;rw[QAY,QTd];exact⟨by omega,rfl,hB⟩
   ·
    refine⟨[66,87,42,76,87,42,70],by decide,?_⟩;rw[QUO,QAY,QTe,QBP];refine⟨h0,⟨j+1,by omega,?_,fun k _ hk=>h.all k (by omega)⟩,h.last⟩;rw[QAY,QQo,QBP];refine⟨by omega,⟨1,by omega,?_,fun k _ hk=>h.all k (by omega)⟩,hl⟩;rw[QAY,QTd];exact⟨by omega,rfl,hB⟩
theorem QAf(b:UInt8)(r:List UInt8):byt (b::r) 0=b.toNat:=rfl
theorem QAe(b:UInt8)(r:List UInt8)(i:Nat):byt (b::r) (i+1)=byt r i:=by simp[byt]
theorem QEM:∀(t:List UInt8) (i:Nat) (lt:Bool) (n:Nat),n≤i→
  (QAm t i lt n=n∨∃k,k<t.length∧QAm t i lt n=i+k+1∧QG0 (byt t k)=true∧(lt=true∨∃j,j≤k∧QBN (byt t j)=true))∧
  n≤QAm t i lt n∧∀k,k<t.length→QG0 (byt t k)=true→(lt=true∨∃j,j≤k∧QBN (byt t j)=true)→i+k+1≤QAm t i lt n
 | [],i,lt,n,h=>⟨Or.inl rfl,Nat.le_refl _,fun k hk=>absurd hk (Nat.not_lt_zero _)⟩
 |b::r,i,lt,n,h=>by
  simp only[QAm]
  have hm:(if lt||QBN b.toNat then(if QG0 b.toNat then i+1 else n) else n)≤i+1∧n≤(if lt||QBN b.toNat then(if QG0 b.toNat then i+1 else n) else n):=by
   split
   ·
    split <;> omega
   ·
    omega
  obtain⟨h1,h2,h3⟩:=QEM r (i+1) (lt||QBN b.toNat) (if lt||QBN b.toNat then(if QG0 b.toNat then i+1 else n) else n) hm.1;refine⟨?_,Nat.le_trans hm.2 h2,fun k hk hf hl=>?_⟩
  ·
   rcases h1 with h1|⟨k,hk,h4,h5,h6⟩
   ·
    rw[h1]
    by_cases c1:(lt||QBN b.toNat)=true
    ·
     by_cases c2:QG0 b.toNat=true
     ·
      rw[if_pos c1,if_pos c2];refine Or.inr ⟨0,by simp,rfl,by rw[QAf];exact c2,?_⟩;rcases Bool.or_eq_true _ _▸c1 with c|c
      ·
       exact Or.inl c
      ·
       exact Or.inr ⟨0,Nat.le_refl _,by rw[QAf];exact c⟩
     ·
      rw[if_pos c1,if_neg c2];exact Or.inl rfl
    ·
     rw[if_neg c1];exact Or.inl rfl
   ·
    refine Or.inr ⟨k+1,by simp;omega,by rw[h4];omega,by rw[QAe];exact h5,?_⟩;rcases h6 with h6|⟨j,hj,h7⟩
    ·
     rcases Bool.or_eq_true _ _▸h6 with c|c
     ·
      exact Or.inl c
     ·
      exact Or.inr ⟨0,by omega,by rw[QAf];exact c⟩
    ·
     exact Or.inr ⟨j+1,by omega,by rw[QAe];exact h7⟩
  ·
   cases k with
   |zero=>
    rw[QAf]at hf
    have c1:(lt||QBN b.toNat)=true:=by
     rcases hl with c|⟨j,hj,hl⟩
     ·
      simp[c]
     ·
      have:j=0:=by omega
      subst this;rw[QAf]at hl;simp[hl]
    rw[if_pos c1,if_pos hf]at h2;rw[if_pos c1,if_pos hf];omega
   |succ k=>
    rw[QAe]at hf
    have:=h3 k (by simp at hk;omega) hf (by
     rcases hl with c|⟨j,hj,hl⟩
     ·
      exact Or.inl (by simp[c])
     ·
      cases j with
      |zero=>rw[QAf]at hl;exact Or.inl (by simp[hl])
      |succ j=>rw[QAe]at hl;exact Or.inr ⟨j,by omega,hl⟩)
    omega
theorem QEY(f:UInt8→Bool):∀(l:List UInt8) (k:Nat),k<(l.takeWhile f).length→byt (l.takeWhile f) k=byt l k
 | [],k,h=>absurd h (Nat.not_lt_zero _)
 |b::r,k,h=>by
  by_cases c:f b=true
  ·
   rw[List.takeWhile_cons_of_pos c]at h ⊢
   cases k with
   |zero=>rfl
   |succ k=>rw[QAe,QAe];exact QEY f r k (by simp at h;omega)
  ·
   rw[List.takeWhile_cons_of_neg c]at h;exact absurd h (Nat.not_lt_zero _)
theorem QEz(f:Nat→Bool):∀(l:List UInt8) (n:Nat),n≤l.length→((∀j,j<n→f (byt l j)=true)↔n≤(l.takeWhile fun b=>f b.toNat).length)
 | [],n,h=>by simp at h;subst h;simp
 |b::r,n,h=>by
  by_cases c:f b.toNat=true
  ·
   rw[List.takeWhile_cons_of_pos (p:=fun b:UInt8=>f b.toNat) c]
   cases n with
   |zero=>simp
   |succ n=>
    have:=QEz f r n (by simp at h;omega);rw[List.length_cons,Nat.add_le_add_iff_right,←this];constructor
    ·
     intro g j hj;have:=g (j+1) (by omega);rw[QAe]at this;exact this
    ·
     intro g j hj
     cases j with
     |zero=>exact c
     |succ j=>rw[QAe];exact g j (by omega)
  ·
   rw[List.takeWhile_cons_of_neg (p:=fun b:UInt8=>f b.toNat) c]
   cases n with
   |zero=>simp
   |succ n=>
    simp only[List.length_nil,Nat.le_zero_eq,Nat.add_one_ne_zero,iff_false];intro g;exact c (g 0 (by omega))
theorem QCx(l:List UInt8)(h:0<QAH l):QEA l (QAH l)∧QAH l≤l.length:=by
 cases l with
 |nil=>exact absurd h (Nat.lt_irrefl _)
 |cons b r=>
  have hd:QAH (b::r)=if QBN b.toNat||QGs b.toNat then QAm ((b::r).takeWhile fun b=>QDz b.toNat) 0 false 0 else 0:=rfl
  by_cases c:(QBN b.toNat||QGs b.toNat)=true
  ·
   rw[if_pos c]at hd;obtain⟨h1,h2,h3⟩:=QEM ((b::r).takeWhile fun b=>QDz b.toNat) 0 false 0 (Nat.le_refl _);rw[←hd]at h1;rcases h1 with h1|⟨k,hk,h4,h5,h6⟩
   ·
    omega
   ·
    have hk2:k+1≤(b::r).length:=Nat.le_trans hk (List.takeWhile_sublist _).length_le;have hall:=(QEz QDz (b::r) (k+1) hk2).2 hk;rw[QEY _ _ _ hk]at h5;have e:QAH (b::r)=k+1:=by omega
    rw[e];refine⟨⟨by omega,c,hall,?_,h5⟩,hk2⟩;rcases h6 with h6|⟨j,hj,h6⟩
    ·
     cases h6
    ·
     rw[QEY _ _ _ (by omega)]at h6;exact⟨j,by omega,h6⟩
  ·
   rw[if_neg c]at hd;omega
theorem QFJ(l:List UInt8)(n:Nat)(hn:n≤l.length)(h:QEA l n):n≤QAH l:=by
 have hp:=h.pos
 cases l with
 |nil=>simp at hn;omega
 |cons b r=>
  have hd:QAH (b::r)=if QBN b.toNat||QGs b.toNat then QAm ((b::r).takeWhile fun b=>QDz b.toNat) 0 false 0 else 0:=rfl;have hf:=h.first
  rw[QAf]at hf;rw[if_pos hf]at hd;obtain⟨-, -,h3⟩:=QEM ((b::r).takeWhile fun b=>QDz b.toNat) 0 false 0 (Nat.le_refl _);rw[←hd]at h3;have hall:=(QEz QDz (b::r) n hn).1 h.all;obtain⟨j,hj,hl⟩:=h.letter;have:=h3 (n - 1) (by omega) (by rw[QEY _ _ _ (by omega)];exact h.last) (Or.inr ⟨j,by omega,by rw[QEY _ _ _ (by omega)];exact hl⟩);omega
theorem QDl(l:List UInt8)(n:Nat)(h:n<l.length):∃c,l.drop n=c::l.drop (n+1)∧c.toNat=byt l n:=by
 refine⟨l[n],(List.drop_eq_getElem_cons h),?_⟩;simp[byt,List.getD,List.getElem?_eq_getElem h]
theorem QH3(l:List UInt8)(n k:Nat):byt (l.drop n) k=byt l (n+k):=by
 simp[byt,List.getD,List.getElem?_drop]
def QM7(l:List UInt8):Prop:=∃p∈plainT,QEU l p (fun i=>i==0) l.length=true∨QEU l (p++ [64,65,81,42]) (fun i=>i==0) l.length=true
theorem QNR(x:Nat):(QBN x||QCp x)=true↔QFU x=true∧x≠45:=by
 constructor
 ·
  intro h;refine⟨by simp only[QFU,h,Bool.true_or],?_⟩;rintro rfl
  revert h
  decide
 ·
  rintro⟨h,hn⟩;simp only[QFU,Bool.or_eq_true,beq_iff_eq]at h;rcases h with h|h
  ·
   simpa using h
  ·
   exact absurd h hn
theorem QGc(l:List UInt8):QM7 l↔QEA l l.length∨∃n,n+1<l.length∧QEA l n∧byt l n=64∧(QBN (byt l (n+1))||QCp (byt l (n+1)))=true∧∀k,n+1<k→k<l.length→QFU (byt l k)=true:=by
 constructor
 ·
  rintro⟨p,hp,h|h⟩
  ·
   exact Or.inl ((QBE l _).1 ⟨p,hp,h⟩)
  ·
   right;rw[QUQ l p hp,QBP]at h;obtain⟨j,h1,h2,h3⟩:=h;rw[QAY,QAY,in65,in64,beq_iff_eq]at h2;obtain⟨h4,⟨h5,h6,h7⟩,h8⟩:=h2;have hpl:=(QBE l _).1 ⟨p,hp,h6⟩;have:=hpl.pos;refine⟨j - 1 - 1,by omega,hpl,h7,?_,fun k h9 h10=>h3 k (by omega) h10⟩;rw[show j - 1 - 1+1=j - 1 by omega];exact h8
 ·
  rintro(h|⟨n,h1,h2,h3,h4,h5⟩)
  ·
   obtain⟨p,hp,h⟩:=(QBE l _).2 h;exact⟨p,hp,Or.inl h⟩
  ·
   obtain⟨p,hp,h⟩:=(QBE l _).2 h2;refine⟨p,hp,Or.inr ?_⟩;rw[QUQ l p hp,QBP];refine⟨n+2,by omega,?_,fun k hk1 hk2=>h5 k (by omega) hk2⟩;rw[QAY,QAY,in65,in64,beq_iff_eq];exact⟨by omega,⟨by omega,h,h3⟩,h4⟩
theorem QFy(l:List UInt8):QM7 l↔0<QAH l∧QBl l=l.length:=by
 rw[QGc];constructor
 ·
  rintro(h|⟨n,h1,h2,h3,h4,h5⟩)
  ·
   have h6:=QFJ l _ (Nat.le_refl _) h;have h7:=h.pos;have h8:=(QCx l (by omega)).2;refine⟨by omega,?_⟩;unfold QBl;rw[if_neg (by omega),List.drop_of_length_le (by omega)];show QAH l=l.length;omega
  ·
   have h6:=QFJ l n (by omega) h2;have h7:=h2.pos;have h8:=QCx l (by omega)
   have e:QAH l=n:=by
    by_cases c:n<QAH l
    ·
     have:=h8.1.all n c;rw[h3]at this;exact absurd this (by decide)
    ·
     omega
   refine⟨by omega,?_⟩;unfold QBl;rw[if_neg (by omega),e];obtain⟨c,hc,hc2⟩:=QDl l n (by omega);obtain⟨d,hdd,hd2⟩:=QDl l (n+1) (by omega)
   have hq:QDv QFU (l.drop (n+1))=l.length - (n+1):=by
    have:=(QEz QFU (l.drop (n+1)) (l.length - (n+1)) (by simp)).1 (fun j hj=>by
     rw[QH3]
     cases j with
     |zero=>exact((QNR _).1 h4).1
     |succ j=>exact h5 _ (by omega) (by omega))
    have h9:((l.drop (n+1)).takeWhile fun b=>QFU b.toNat).length≤(l.drop (n+1)).length:=(List.takeWhile_sublist _).length_le;simp only[List.length_drop]at h9;unfold QDv;omega
   rw[hc];simp only;have c64:(c==64)=true:=by rw[beq_iff_eq];apply UInt8.toNat.inj;rw[hc2,h3];rfl
   rw[if_pos c64,hq]
   have d45:(d !=45)=true:=by
    rw[bne_iff_ne];rintro rfl;rw[←hd2]at h4
    revert h4
    decide
   rw[if_pos]
   ·
    omega
   ·
    rw[Bool.and_eq_true,decide_eq_true_eq];refine⟨by omega,?_⟩;rw[hdd];exact d45
 ·
  rintro⟨h1,h2⟩;have h3:=QCx l h1;unfold QBl at h2;rw[if_neg (by omega)]at h2
  by_cases c:QAH l<l.length
  ·
   right;obtain⟨b,hb,hb2⟩:=QDl l _ c;rw[hb]at h2;simp only at h2
   by_cases c64:(b==64)=true
   ·
    rw[if_pos c64]at h2;obtain⟨m,hm⟩:∃m:Bool,m=(match l.drop (QAH l+1)with|d::_=>d !=45| []=>false):=⟨_,rfl⟩;have h2':(if(decide (0<QDv QFU (l.drop (QAH l+1)))&&m)=true then QAH l+1+QDv QFU (l.drop (QAH l+1)) else QAH l)=l.length:=by rw[hm];exact h2
    clear h2
    by_cases c2:(decide (0<QDv QFU (l.drop (QAH l+1)))&&m)=true
    ·
     rw[if_pos c2]at h2';rw[Bool.and_eq_true,decide_eq_true_eq]at c2;have hr:((l.drop (QAH l+1)).takeWhile fun b=>QFU b.toNat).length=l.length - (QAH l+1):=by unfold QDv at h2';omega
     have hall:=(QEz QFU (l.drop (QAH l+1)) (l.length - (QAH l+1)) (by simp)).2 (by omega);have hlt:QAH l+1<l.length:=by unfold QDv at c2;omega
     obtain⟨d,hdd,hd2⟩:=QDl l _ hlt;have c3:=c2.2;rw[hm,hdd]at c3;simp only[bne_iff_ne]at c3;refine⟨QAH l,hlt,h3.1,?_,?_,fun k h4 h5=>?_⟩
     ·
      rw[←hb2,beq_iff_eq.1 c64];rfl
     ·
      rw[QNR];refine⟨by have:=hall 0 (by omega);rw[QH3]at this;exact this,?_⟩;rw[←hd2];intro e;exact c3 (UInt8.toNat.inj e)
     ·
      have:=hall (k - (QAH l+1)) (by omega);rw[QH3,show QAH l+1+(k - (QAH l+1))=k by omega]at this;exact this
    ·
     rw[if_neg c2]at h2';omega
   ·
    rw[if_neg c64]at h2;omega
  ·
   left;have:QAH l=l.length:=by omega
   rw[←this];exact h3.1
theorem QEG(l p:List UInt8)(hp:p∈plainT)(n:Nat)(h:QEU l p (fun i=>i==0) n=true):QCG (byt p 0) (byt l 0)=true:=by
 simp only[plainT,List.mem_cons,List.not_mem_nil,or_false]at hp;rcases hp with rfl|rfl|rfl|rfl
 ·
  rw[QUL,QAY,beq_iff_eq]at h;obtain⟨-,h2,h3⟩:=h;rw[h2]at h3;exact h3
 ·
  rw[QUM,QAY,QBP]at h;obtain⟨-,⟨j, -,h3, -⟩, -⟩:=h;rw[QAY,beq_iff_eq]at h3;obtain⟨-,h7,h8⟩:=h3;rw[h7]at h8;exact h8
 ·
  rw[QUN,QAY,QBP]at h;obtain⟨-,⟨j, -,h3, -⟩, -⟩:=h;rw[QAY,beq_iff_eq]at h3;obtain⟨-,h7,h8⟩:=h3;rw[h7]at h8;exact h8
 ·
  rw[QUO,QAY,QBP]at h;obtain⟨-,⟨j, -,h3, -⟩, -⟩:=h;rw[QAY,QBP]at h3;obtain⟨-,⟨i, -,h8, -⟩, -⟩:=h3;rw[QAY,beq_iff_eq]at h8;obtain⟨-,h12,h13⟩:=h8;rw[h12]at h13;exact h13
theorem QJO(p q:List UInt8)(hp:p∈plainT):byt (p++q) 0=byt p 0:=by
 simp only[plainT,List.mem_cons,List.not_mem_nil,or_false]at hp;rcases hp with rfl|rfl|rfl|rfl <;> rfl
theorem QIP(A:Nat→Bool):∀(n k:Nat),k≤n→A k=true→k≤QEh A n
 |0,k,h,_=>by omega
 |n+1,k,h,ha=>by
  unfold QEh
  split
  ·
   exact h
  ·
   rename_i hn
   by_cases e:k=n+1
   ·
    subst e;exact absurd ha hn
   ·
    exact QIP A n k (by omega) ha
theorem QLc(A:Nat→Bool):∀n,0<QEh A n→A (QEh A n)=true
 |0,h=>absurd h (Nat.lt_irrefl _)
 |n+1,h=>by
  unfold QEh at h ⊢
  split
  ·
   assumption
  ·
   rename_i hn;rw[if_neg hn]at h;exact QLc A n h
theorem QDr(p l:List UInt8)(hl:l≠ [])(h1:QCG (byt p 0) (byt l 0)=true)(h2:QEU l p (fun i=>i==0) l.length=true):QDW p l=l.length:=by
 unfold QDW;rw[if_neg hl,if_neg (by rw[h1];decide)];have:=QIP _ l.length l.length (Nat.le_refl _) h2;have:=QIQ (QEU l p fun i=>i==0) l.length;omega
theorem QJa(p l:List UInt8)(hl:l≠ [])(h1:QCG (byt p 0) (byt l 0)=true)(n:Nat)(h0:0<n)(hn:n≤l.length)(h2:QEU l p (fun i=>i==0) n=true):0<QDW p l:=by
 unfold QDW;rw[if_neg hl,if_neg (by rw[h1];decide)];have:=QIP _ l.length n hn h2;omega
theorem QEJ(p l:List UInt8)(h:QDW p l=l.length)(hl:l≠ []):QEU l p (fun i=>i==0) l.length=true:=by
 have hpos:0<l.length:=List.length_pos_iff.2 hl;unfold QDW at h;rw[if_neg hl]at h
 split at h
 ·
  omega
 ·
  rw[←h];exact QLc _ _ (by omega)
theorem QBH(p l:List UInt8)(h:l.length≤100):QE2 p l=QDW p l:=by
 unfold QE2;rw[List.take_of_length_le h]
theorem QQ0:∀r∈rulesT,r.1=1→∃p∈plainT,r.2=p∨r.2=p++ [64,65,81,42]:=by decide
theorem QOu:∀p∈plainT,(1,p)∈rulesT∧(1,p++ [64,65,81,42])∈rulesT:=by decide
theorem QTN:∀r∈rulesT,0<r.1:=by decide
theorem QOx:rulesT.length=36:=by decide
theorem QO6:signsT.length=26:=by decide
theorem QBx(nm:Bool)(l:List UInt8):QAn nm l 36=rulesT.foldl (QAv nm l) (0,0):=by unfold QAn;rw[List.take_of_length_le (by rw[QOx];omega)]
theorem QFN(l:List UInt8)(o:Nat × Nat):QCg l o 26=signsT.foldl (QBh l) o:=by unfold QCg;rw[List.take_of_length_le (by rw[QO6];omega)]
theorem QHY(l:List UInt8):QDK l 4=true↔∃p∈plainT,0<QE2 p l:=by
 unfold QDK;rw[List.take_of_length_le (by decide),List.any_eq_true];simp only[decide_eq_true_eq]
theorem QBa(nm:Bool)(l:List UInt8):∀(rs:List (Nat × List UInt8)) (o:Nat × Nat),
  (rs.foldl (QAv nm l) o=o∨∃r∈rs,rs.foldl (QAv nm l) o=(r.1,QE2 r.2 l)∧QBm r.1 r.2 l=true∧(nm=true→r.1=1∨r.1=3))
 | [],o=>Or.inl rfl
 |r::rs,o=>by
  rw[List.foldl_cons];rcases QBa nm l rs (QAv nm l o r)with h|⟨x,hx,h1,h2⟩
  ·
   rw[h];unfold QAv
   split
   ·
    exact Or.inl rfl
   ·
    rename_i hn
    split
    ·
     simp only[Bool.or_eq_true,Bool.and_eq_true,Bool.not_eq_true',not_or,Bool.not_eq_false,bne_iff_ne,ne_eq,not_and]at hn;refine Or.inr ⟨r,List.mem_cons_self,rfl,hn.2,fun hm=>?_⟩
     by_cases e:r.1=1
     ·
      exact Or.inl e
     ·
      by_cases e3:r.1=3
      ·
       exact Or.inr e3
      ·
       exact absurd e3 (hn.1 ⟨hm,e⟩)
    ·
     exact Or.inl rfl
  ·
   exact Or.inr ⟨x,List.mem_cons_of_mem _ hx,h1,h2⟩
def QBv(a b:Nat × Nat):Prop:=b.2<a.2∨(b.2=a.2∧a.1≤b.1)
theorem QKD(nm:Bool)(l:List UInt8)(o:Nat × Nat)(r:Nat × List UInt8):QBv (QAv nm l o r) o:=by
 unfold QAv QBv
 split
 ·
  exact Or.inr ⟨rfl,Nat.le_refl _⟩
 ·
  split
  ·
   rename_i h;simp only[Bool.or_eq_true,Bool.and_eq_true,decide_eq_true_eq,beq_iff_eq]at h;omega
  ·
   exact Or.inr ⟨rfl,Nat.le_refl _⟩
theorem QEk {a b c:Nat × Nat}(h:QBv a b)(k:QBv b c):QBv a c:=by unfold QBv at*;omega
theorem QDD(nm:Bool)(l:List UInt8):∀(rs:List (Nat × List UInt8)) (o:Nat × Nat),
  QBv (rs.foldl (QAv nm l) o) o∧∀r∈rs,QBm r.1 r.2 l=true→(nm=true→r.1=1∨r.1=3)→QBv (rs.foldl (QAv nm l) o) (r.1,QE2 r.2 l)
 | [],o=>⟨Or.inr ⟨rfl,Nat.le_refl _⟩,fun r hr=>by cases hr⟩
 |r::rs,o=>by
  rw[List.foldl_cons];obtain⟨h1,h2⟩:=QDD nm l rs (QAv nm l o r);refine⟨QEk h1 (QKD nm l o r),fun x hx ha hn=>?_⟩;rcases List.mem_cons.1 hx with rfl|hx
  ·
   refine QEk h1 ?_;unfold QAv QBv
   rw[if_neg (by
    rw[ha]
    cases nm with
    |false=>simp
    |true=>
     rcases hn rfl with e|e <;> simp[e])]
   split
   ·
    exact Or.inr ⟨rfl,Nat.le_refl _⟩
   ·
    rename_i h;simp only[Bool.or_eq_true,Bool.and_eq_true,decide_eq_true_eq,beq_iff_eq]at h;omega
  ·
   exact h2 x hx ha hn
theorem QFO(l:List UInt8):∀(ts:List (List UInt8)) (o:Nat × Nat),ts.foldl (QBh l) o=o∨(ts.foldl (QBh l) o).1=5
 | [],o=>Or.inl rfl
 |t::ts,o=>by
  rw[List.foldl_cons];rcases QFO l ts (QBh l o t)with h|h
  ·
   rw[h];unfold QBh
   split
   ·
    exact Or.inr rfl
   ·
    exact Or.inl rfl
  ·
   exact Or.inr h
theorem QSU(p l:List UInt8):QBm 1 p l=true↔0<QE2 p l:=by
 unfold QBm
 split
 ·
  simp;omega
 ·
  simp;omega
theorem QI3(l:List UInt8)(h0:l≠ [])(h40:l.length≤100):QBF l=(1,l.length)↔QM7 l:=by
 have hpos:0<l.length:=List.length_pos_iff.2 h0;constructor
 ·
  intro h
  have key:∃r∈rulesT,(r.1,QE2 r.2 l)=(1,l.length):=by
   unfold QBF at h
   split at h
   ·
    rw[QBx]at h;rcases QBa true l rulesT (0,0)with e|⟨r,hr,e, -⟩
    ·
     rw[e]at h;cases h
    ·
     exact⟨r,hr,e.symm.trans h⟩
   ·
    rw[QFN]at h;rcases QFO l signsT (QAn false l 36)with e|e
    ·
     rw[e,QBx]at h;rcases QBa false l rulesT (0,0)with e|⟨r,hr,e, -⟩
     ·
      rw[e]at h;cases h
     ·
      exact⟨r,hr,e.symm.trans h⟩
    ·
     rw[h]at e;cases e
  obtain⟨r,hr,e⟩:=key;injection e with e1 e2
  obtain⟨p,hp,h1⟩:=QQ0 r hr e1;rw[QBH _ _ h40]at e2;have:=QEJ _ _ e2 h0;rcases h1 with h1|h1
  ·
   rw[h1]at this;exact⟨p,hp,Or.inl this⟩
  ·
   rw[h1]at this;exact⟨p,hp,Or.inr this⟩
 ·
  rintro⟨p,hp,h⟩
  have hf:QCG (byt p 0) (byt l 0)=true∧0<QE2 p l:=by
   rcases h with h|h
   ·
    have h1:=QEG l p hp _ h;exact⟨h1,by rw[QBH _ _ h40,QDr p l h0 h1 h];exact hpos⟩
   ·
    rw[QUQ l p hp,QBP]at h;obtain⟨j,h1,h2, -⟩:=h;rw[QAY,QAY]at h2;obtain⟨h4,⟨h5,h6, -⟩, -⟩:=h2;have h1:=QEG l p hp _ h6;refine⟨h1,?_⟩;rw[QBH _ _ h40];have hne:0<j - 1 - 1:=((QBE l _).1 ⟨p,hp,h6⟩).pos;exact QJa p l h0 h1 _ hne (by omega) h6
  have hnm:QDK l 4=true:=(QHY l).2 ⟨p,hp,hf.2⟩
  have hq:∃q,(1,q)∈rulesT∧QE2 q l=l.length:=by
   rcases h with h|h
   ·
    exact⟨p,(QOu p hp).1,by rw[QBH _ _ h40,QDr p l h0 hf.1 h]⟩
   ·
    exact⟨_,(QOu p hp).2,by rw[QBH _ _ h40,QDr _ l h0 (by rw[QJO p _ hp];exact hf.1) h]⟩
  obtain⟨q,hq1,hq2⟩:=hq;unfold QBF;rw[if_pos hnm,QBx];have h3:=(QDD true l rulesT (0,0)).2 _ hq1 ((QSU q l).2 (by rw[hq2];exact hpos)) (fun _=>Or.inl rfl);rcases QBa true l rulesT (0,0)with e|⟨r,hr,e, -⟩
  ·
   rw[e]at h3;unfold QBv at h3;simp only at h3;omega
  ·
   rw[e]at h3 ⊢;have h5:=QTN r hr;have h6:=QIS r.2 l;unfold QBv at h3;simp only at h3;rw[hq2]at h3;have e1:r.1=1:=by omega
   have e2:QE2 r.2 l=l.length:=by omega
   rw[e1,e2]
theorem QR6:∀r∈rulesT,r.1≤6:=by decide
theorem QNE(l:List UInt8):(QBF l).1≤6∧(QBF l).2≤l.length:=by
 have hr:∀nm,(QAn nm l 36).1≤6∧(QAn nm l 36).2≤l.length:=fun nm=>by
  rw[QBx];rcases QBa nm l rulesT (0,0)with e|⟨r,hr,e, -⟩
  ·
   rw[e];exact⟨by decide,Nat.zero_le _⟩
  ·
   rw[e];exact⟨QR6 r hr,QIS _ _⟩
 have hs:∀(ts:List (List UInt8)) (o:Nat × Nat),o.1≤6∧o.2≤l.length→(ts.foldl (QBh l) o).1≤6∧(ts.foldl (QBh l) o).2≤l.length:=by
  intro ts
  induction ts with
  |nil=>intro o h;exact h
  |cons t ts ih=>
   intro o h;rw[List.foldl_cons];refine ih _ ?_;unfold QBh
   split
   ·
    rename_i hc;simp only[Bool.and_eq_true,decide_eq_true_eq]at hc;exact⟨show 5≤6 by decide,hc.1.2⟩
   ·
    exact h
 unfold QBF
 split
 ·
  exact hr _
 ·
  rw[QFN];exact hs _ _ (hr _)
end Go.Proofs.YtjnclkakbopnjaaGreatDoor
