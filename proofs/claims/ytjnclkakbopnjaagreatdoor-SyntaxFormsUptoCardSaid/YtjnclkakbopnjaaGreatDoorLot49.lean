/- XFrmA, XRdE -/
import Derived.Test.YtjnclkakbopnjaaGreatDoorLot48
import Derived.Test.YtjnclkakbopnjaaGreatDoorRows
import Derived.OpenShut
import Derived.Deep.Slices
set_option linter.unusedSimpArgs false
set_option linter.unusedVariables false
set_option maxRecDepth 100000
set_option maxHeartbeats 16000000
namespace Go.Proofs.YtjnclkakbopnjaaGreatDoor
open Go.Proofs.Tryz
open Go.RowKit Go.Proofs.YtjnclkakbopnjaaGreatDoorW.PrintLast
theorem QQp:(prog.info? 24).map (·.size)=some 5:=by kernel_rfl
theorem QMw(n:Nat)(ks:Nat→ByteArray):QPC n ks n ks=true:=by
 unfold QPC;simp
structure FmS(W:World)(E T:Array Value)(wx:World):Prop where
 below:Below W.heap.size W wx
 e:BoxAt wx W.heap.size E
 t:BoxAt wx (W.heap.size+1) T
theorem FmS.under {W w w':World}{E T:Array Value}(h:FmS W E T w)(hb:Below w.heap.size w w'):FmS W E T w':=⟨h.below.trans (hb.mono h.below.size),fun j v hj=>QAA hb (h.e j v hj),fun j v hj=>QAA hb (h.t j v hj)⟩
theorem FmS.drew {W w:World}{E T:Array Value}(h:FmS W E T w):FmS W E T w.drew:=h.under ((Below.refl _ _).drew)
theorem FmS.new(W:World)(E T:Array Value):FmS W E T ((W.alloc (.cells E 29)).alloc (.cells T 24)):=by
 refine⟨((Below.refl _ _).alloc (Nat.le_refl _) _).alloc (by simp) _,fun j v hj=>QAA ((Below.refl _ _).alloc (Nat.le_refl _) _) (QAS W E _ j v hj),?_⟩;have:=QAS (W.alloc (.cells E 29)) T 24;rw[World.size_alloc]at this;exact this
theorem QFq(W:World)(h9:9≤W.heap.size){w:World}(hb:Below W.heap.size W w):9≤w.heap.size:=by have:=hb.size;omega
theorem QNm {W:World}(hE:Env W)(h9:9≤W.heap.size){v tv:Value}{e:Ex}{ty:Ty}(h:ExR W v e)(ht:TyR W tv ty)(str:ByteArray)(hs:str.size≤1100000):
  Calls prog 3 #[v,tv,.string str] W fun r w=>r= .returned (.bool true)∧Below W.heap.size W w:=by
 have HE:=hd0 hE;have H9:=hd0 h9;have C1:=hd0 (fun w hw=>QC6 hE h9 h w hw);have C2:=hd0 (fun w hw=>QCn h9 h w hw);have C3:=hd0 (fun w hw=>QH6 hE h9 ht w hw);have C4:=hd0 (fun w hw=>QG8 h9 ht w hw);have C5:=hd0 (fun w hw=>QOb hE h9 h w hw);have C6:=hd0 (fun w hw=>QOq h9 h w hw);have C7:=hd0 (fun w hw=>QON hE h9 h w hw);have C8:=hd0 (fun w hw=>QOd h9 h w hw);have C9:=hd0 (fun w (hw:Below W.heap.size W w)=>QCm str w (hE.below hw));have C10:=hd0 (fun w (hw:Below W.heap.size W w)=>QDa str w (QFq W h9 hw));have C11:=hd0 (fun w (hw:Below W.heap.size W w)=>QMq str w (hE.below hw) (by omega) (QFq W h9 hw));have C12:=hd0 (fun w (hw:Below W.heap.size W w)=>QLC str w (QFq W h9 hw) hs);have hst:=QMp str.data.toList;have HCK:=e.check_fit;obtain⟨k,s,num,tk,ts,tl,th,tp,tn,tc,pp,np,cp,pk,nk,ck,pa,n,ca,tf,pn,pt,ks,f,A,rfl,he, -, -⟩:=h.cells;obtain⟨k1,lo1,hi1,s1,m1,p1,c1,f1,rfl,he1, -, -⟩:=ht.cells;clear he he1 h ht hE h9;generalize e.check=chk at*;generalize ty.check=tchk at*;generalize e.size=siz at*;generalize e.free=fre at*;generalize QM4 str.data.toList=rsv at*;rw[hst]at C11;generalize (⟨(QFM str.data.toList).toArray⟩:ByteArray)=stt at*;clear hst HCK;go_enter func3,ntmps3;go_upto_region 1 with fail;refine QA8 (fun wx=>Hid (FmS W #[.int .i64 k,.string s,.int .i64 num,.int .i64 tk,.string ts,.int .i64 tl,.int .i64 th,.slice tp tn tc,.slice pp np cp,.slice pk nk ck,.slice pa n ca] #[.int .i64 k1,.string s1,.int .i64 lo1,.int .i64 hi1,.slice p1 m1 c1] wx)) (hd0 (FmS.new W _ _)) ?_;intro w1 H1
 go_wp2_with fail
 refine(QO3 w1 (HE.out.below H1.out.below) (QFq W H9.out H1.out.below)).mono ?_;rintro r w2 ⟨rfl,hb2⟩;have H2:=hd0 (H1.out.under hb2);clear hb2 H1;go_upto_region 2 with fail;refine QBr (n:=23) (S:=FmS W #[.int .i64 k,.string s,.int .i64 num,.int .i64 tk,.string ts,.int .i64 tl,.int .i64 th,.slice tp tn tc,.slice pp np cp,.slice pk nk ck,.slice pa n ca] #[.int .i64 k1,.string s1,.int .i64 lo1,.int .i64 hi1,.slice p1 m1 c1]) (ds:= []) (bs 23 0) (by kernel_rfl) rfl rfl H2.out.drew (fun hS=>?_);refine pu_ 0 9 ?_;refine pu_ 1 10 ?_;refine pu_ 2 11 ?_;refine tk_ 3 12 rfl rfl hS (fun wz hz=>QAP 29 _ rfl W.heap.size 0 #[.int .i64 k,.string s,.int .i64 num,.int .i64 tk,.string ts,.int .i64 tl,.int .i64 th,.slice tp tn tc,.slice pp np cp,.slice pk nk ck,.slice pa n ca] _ underlying29 rfl infoEx (fun j v hj=>by rw[Nat.zero_add];exact hz.e j v hj)) ?_;refine tk_ 5 14 rfl rfl hS (fun wz hz=>QAP 29 _ rfl W.heap.size 0 #[.int .i64 k,.string s,.int .i64 num,.int .i64 tk,.string ts,.int .i64 tl,.int .i64 th,.slice tp tn tc,.slice pp np cp,.slice pk nk ck,.slice pa n ca] _ underlying29 rfl infoEx (fun j v hj=>by rw[Nat.zero_add];exact hz.e j v hj)) ?_;refine on_ 4 (some 13) rfl rfl (fun K hK=>?_);refine QA6 func8 (by kernel_rfl) rfl #[.agg (Z9 k s num tk ts tl th tp tn tc pp np cp pk nk ck pa n ca)] (by rfl) rfl rfl (by (try simp only[List.map_toArray,List.map_cons,List.map_nil]);first|done|rfl) ?_;refine(C1.out _ hS.below).mono ?_;rintro r w' ⟨rfl,hb⟩;have hS:=hS.under hb
 refine⟨_,rfl,hK.out _ _ hS (fun _=>?_)⟩;clear hK K hb;refine nm_ ?_;refine on_ 6 (some 15) rfl rfl (fun K hK=>?_);refine QA6 func9 (by kernel_rfl) rfl #[.agg (Z9 k s num tk ts tl th tp tn tc pp np cp pk nk ck pa n ca)] (by rfl) rfl rfl (by (try simp only[List.map_toArray,List.map_cons,List.map_nil]);first|done|rfl) ?_;refine(C2.out _ hS.below).mono ?_;rintro r w' ⟨rfl,hb⟩;have hS:=hS.under hb;refine⟨_,rfl,hK.out _ _ hS (fun _=>?_)⟩;clear hK K hb;refine nm_ ?_;refine pu_ 7 16 ?_ (hy:=by intro w';go_simp;first|rw[bne_self_eq_false]|with_reducible rfl);refine pu_ 8 17 ?_;refine pu_ 9 18 ?_;refine tk_ 10 19 rfl rfl hS (fun wz hz=>QAP 24 _ rfl (W.heap.size+1) 0 #[.int .i64 k1,.string s1,.int .i64 lo1,.int .i64 hi1,.slice p1 m1 c1] _ underlying24 rfl QQp (fun j v hj=>by rw[Nat.zero_add];exact hz.t j v hj)) ?_;refine tk_ 12 21 rfl rfl hS (fun wz hz=>QAP 24 _ rfl (W.heap.size+1) 0 #[.int .i64 k1,.string s1,.int .i64 lo1,.int .i64 hi1,.slice p1 m1 c1] _ underlying24 rfl QQp (fun j v hj=>by rw[Nat.zero_add];exact hz.t j v hj)) ?_;refine on_ 11 (some 20) rfl rfl (fun K hK=>?_);refine QA6 func10 (by kernel_rfl) rfl #[.agg #[.int .i64 k1,.string s1,.int .i64 lo1,.int .i64 hi1,.slice p1 m1 c1]] (by rfl) rfl rfl (by (try simp only[List.map_toArray,List.map_cons,List.map_nil]);first|done|rfl) ?_;refine(C3.out _ hS.below).mono ?_;rintro r w' ⟨rfl,hb⟩;have hS:=hS.under hb;refine⟨_,rfl,hK.out _ _ hS (fun _=>?_)⟩;clear hK K hb;refine nm_ ?_;refine on_ 13 (some 22) rfl rfl (fun K hK=>?_)
 refine QA6 func11 (by kernel_rfl) rfl #[.agg #[.int .i64 k1,.string s1,.int .i64 lo1,.int .i64 hi1,.slice p1 m1 c1]] (by rfl) rfl rfl (by (try simp only[List.map_toArray,List.map_cons,List.map_nil]);first|done|rfl) ?_;refine(C4.out _ hS.below).mono ?_;rintro r w' ⟨rfl,hb⟩;have hS:=hS.under hb;refine⟨_,rfl,hK.out _ _ hS (fun _=>?_)⟩;clear hK K hb;refine nm_ ?_;refine pu_ 14 23 ?_ (hy:=by intro w';go_simp;first|rw[bne_self_eq_false]|with_reducible rfl);refine pu_ 15 24 ?_;refine pu_ 16 25 ?_;refine tk_ 17 26 rfl rfl hS (fun wz hz=>QAP 29 _ rfl W.heap.size 0 #[.int .i64 k,.string s,.int .i64 num,.int .i64 tk,.string ts,.int .i64 tl,.int .i64 th,.slice tp tn tc,.slice pp np cp,.slice pk nk ck,.slice pa n ca] _ underlying29 rfl infoEx (fun j v hj=>by rw[Nat.zero_add];exact hz.e j v hj)) ?_;refine tk_ 19 28 rfl rfl hS (fun wz hz=>QAP 29 _ rfl W.heap.size 0 #[.int .i64 k,.string s,.int .i64 num,.int .i64 tk,.string ts,.int .i64 tl,.int .i64 th,.slice tp tn tc,.slice pp np cp,.slice pk nk ck,.slice pa n ca] _ underlying29 rfl infoEx (fun j v hj=>by rw[Nat.zero_add];exact hz.e j v hj)) ?_;refine on_ 18 (some 27) rfl rfl (fun K hK=>?_);refine QA6 func12 (by kernel_rfl) rfl #[.agg (Z9 k s num tk ts tl th tp tn tc pp np cp pk nk ck pa n ca)] (by rfl) rfl rfl (by (try simp only[List.map_toArray,List.map_cons,List.map_nil]);first|done|rfl) ?_;refine(C5.out _ hS.below).mono ?_;rintro r w' ⟨rfl,hb⟩;have hS:=hS.under hb;refine⟨_,rfl,hK.out _ _ hS (fun _=>?_)⟩;clear hK K hb;refine nm_ ?_
 refine on_ 20 (some 29) rfl rfl (fun K hK=>?_);refine QA6 func13 (by kernel_rfl) rfl #[.agg (Z9 k s num tk ts tl th tp tn tc pp np cp pk nk ck pa n ca)] (by rfl) rfl rfl (by (try simp only[List.map_toArray,List.map_cons,List.map_nil]);first|done|rfl) ?_;refine(C6.out _ hS.below).mono ?_;rintro r w' ⟨rfl,hb⟩;have hS:=hS.under hb;refine⟨_,rfl,hK.out _ _ hS (fun _=>?_)⟩;clear hK K hb;refine nm_ ?_;refine pu_ 21 30 ?_ (hy:=by intro w';go_simp;first|rw[bne_self_eq_false]|with_reducible rfl);refine pu_ 22 31 ?_;refine QCZ (by kernel_rfl) ?_;have H3:=hd0 hS;clear hS H2;go_upto_region 4 with fail;refine QBr (n:=20) (S:=FmS W #[.int .i64 k,.string s,.int .i64 num,.int .i64 tk,.string ts,.int .i64 tl,.int .i64 th,.slice tp tn tc,.slice pp np cp,.slice pk nk ck,.slice pa n ca] #[.int .i64 k1,.string s1,.int .i64 lo1,.int .i64 hi1,.slice p1 m1 c1]) (ds:= []) (bs 20 0) (by kernel_rfl) rfl rfl H3.out.drew (fun hS=>?_);refine tk_ 0 32 rfl rfl hS (fun wz hz=>QAP 29 _ rfl W.heap.size 0 #[.int .i64 k,.string s,.int .i64 num,.int .i64 tk,.string ts,.int .i64 tl,.int .i64 th,.slice tp tn tc,.slice pp np cp,.slice pk nk ck,.slice pa n ca] _ underlying29 rfl infoEx (fun j v hj=>by rw[Nat.zero_add];exact hz.e j v hj)) ?_
 refine tk_ 2 34 rfl rfl hS (fun wz hz=>QAP 29 _ rfl W.heap.size 0 #[.int .i64 k,.string s,.int .i64 num,.int .i64 tk,.string ts,.int .i64 tl,.int .i64 th,.slice tp tn tc,.slice pp np cp,.slice pk nk ck,.slice pa n ca] _ underlying29 rfl infoEx (fun j v hj=>by rw[Nat.zero_add];exact hz.e j v hj)) ?_;refine on_ 1 (some 33) rfl rfl (fun K hK=>?_);refine QA6 func15 (by kernel_rfl) rfl #[.agg (Z9 k s num tk ts tl th tp tn tc pp np cp pk nk ck pa n ca)] (by rfl) rfl rfl (by (try simp only[List.map_toArray,List.map_cons,List.map_nil]);first|done|rfl) ?_;refine(C7.out _ hS.below).mono ?_;rintro r w' ⟨⟨u1,rfl,hu1⟩,hb⟩;have hS:=hS.under hb;refine⟨_,rfl,hK.out _ _ hS (fun _=>?_)⟩;clear hK K hb;refine nm_ ?_;refine on_ 3 (some 35) rfl rfl (fun K hK=>?_);refine QA6 func16 (by kernel_rfl) rfl #[.agg (Z9 k s num tk ts tl th tp tn tc pp np cp pk nk ck pa n ca)] (by rfl) rfl rfl (by (try simp only[List.map_toArray,List.map_cons,List.map_nil]);first|done|rfl) ?_;refine(C8.out _ hS.below).mono ?_;rintro r w'' ⟨⟨u2,rfl,hu2⟩,hb⟩;have hu1:=hu1.under hb;have hS:=hS.under hb;refine⟨_,rfl,hK.out _ _ hS (fun _=>?_)⟩;clear hK K hb;refine nm_ ?_;obtain⟨q1,d1,rfl, -, -⟩:=id hu1;obtain⟨q2,d2,rfl, -, -⟩:=id hu2;have HSS:=hd0 (QJ0 hu1.str.2 hu2.str.2 w'' (Below.refl _ _) d1 d2);rw[QMw]at HSS;clear hu1 hu2;refine on_ 4 (some 36) rfl rfl (fun K hK=>?_)
 refine QA6 func14 (by kernel_rfl) rfl #[.slice q1 fre.length d1,.slice q2 fre.length d2] (by rfl) rfl rfl (by (try simp only[List.map_toArray,List.map_cons,List.map_nil]);first|done|rfl) ?_;refine(HSS.out).mono ?_;rintro r w' ⟨rfl,hb⟩;have hS:=hS.under hb;refine⟨_,rfl,hK.out _ _ hS (fun _=>?_)⟩;clear hK K hb;refine nm_ ?_;refine pu_ 5 37 ?_;refine pu_ 6 38 ?_;refine pu_ 8 40 ?_;refine on_ 7 (some 39) rfl rfl (fun K hK=>?_);refine QA6 func17 (by kernel_rfl) rfl #[.string str] (by rfl) rfl rfl (by (try simp only[List.map_toArray,List.map_cons,List.map_nil]);first|done|rfl) ?_;refine(C9.out _ hS.below).mono ?_;rintro r w' ⟨rfl,hb⟩;have hS:=hS.under hb;refine⟨_,rfl,hK.out _ _ hS (fun _=>?_)⟩;clear hK K hb;refine nm_ ?_;refine on_ 9 (some 41) rfl rfl (fun K hK=>?_);refine QA6 func18 (by kernel_rfl) rfl #[.string str] (by rfl) rfl rfl (by (try simp only[List.map_toArray,List.map_cons,List.map_nil]);first|done|rfl) ?_;refine(C10.out _ hS.below).mono ?_;rintro r w' ⟨rfl,hb⟩;have hS:=hS.under hb;refine⟨_,rfl,hK.out _ _ hS (fun _=>?_)⟩;clear hK K hb;refine nm_ ?_;refine pu_ 10 42 ?_ (hy:=by intro w';go_simp;first|rw[beq_self_eq_true]|with_reducible rfl);refine pu_ 11 43 ?_;refine pu_ 12 44 ?_;refine pu_ 13 45 ?_;refine pu_ 15 47 ?_;refine on_ 14 (some 46) rfl rfl (fun K hK=>?_);refine QA6 func19 (by kernel_rfl) rfl #[.string str] (by rfl) rfl rfl (by (try simp only[List.map_toArray,List.map_cons,List.map_nil]);first|done|rfl) ?_;refine(C11.out _ hS.below).mono ?_;rintro r w' ⟨rfl,hb⟩
 have hS:=hS.under hb;refine⟨_,rfl,hK.out _ _ hS (fun _=>?_)⟩;clear hK K hb;refine nm_ ?_;refine on_ 16 (some 48) rfl rfl (fun K hK=>?_);refine QA6 func20 (by kernel_rfl) rfl #[.string str] (by rfl) rfl rfl (by (try simp only[List.map_toArray,List.map_cons,List.map_nil]);first|done|rfl) ?_;refine(C12.out _ hS.below).mono ?_;rintro r w' ⟨rfl,hb⟩;have hS:=hS.under hb;refine⟨_,rfl,hK.out _ _ hS (fun _=>?_)⟩;clear hK K hb;refine nm_ ?_;refine pu_ 17 49 ?_ (hy:=by intro w';go_simp;first|rw[beq_self_eq_true]|with_reducible rfl);refine pu_ 18 50 ?_;refine pu_ 19 6 ?_;refine QCZ (by kernel_rfl) ?_;go_wp2;go_ret;exact⟨rfl,hS.below⟩
open Go.ChangeShapes Go.WideShapes
section
variable {H : Type} {enc : TypeId × Value → H} {W : World} {sp : Nat → Bool} {held : Bool}
theorem QLP {H:Type}(d:DataW H):1≤Rows.uptoBulk d:=by
 cases d with
 |lit l=>cases l <;> simp[Rows.uptoBulk]
 |nil=>simp[Rows.uptoBulk]
 |ptr d=>simp[Rows.uptoBulk]
 |slice elems spare=>simp[Rows.uptoBulk]
 |agg parts=>simp[Rows.uptoBulk]
 |iface t d=>simp[Rows.uptoBulk]
 |map entries=>simp[Rows.uptoBulk]
 |held h=>simp[Rows.uptoBulk]
theorem QJA {H:Type}{d:DataW H}{l:List (DataW H)}(h:d∈l):Rows.uptoBulk d≤Rows.uptoBulkAll l:=by
 induction l with
 |nil=>cases h
 |cons x r ih=>
  simp only[Rows.uptoBulkAll]
  cases List.mem_cons.1 h with
  |inl e=>subst e;omega
  |inr e=>have:=ih e;omega
theorem QPX {H:Type}(l:List (DataW H)):l.length≤Rows.uptoBulkAll l:=by
 induction l with
 |nil=>simp[Rows.uptoBulkAll]
 |cons x r ih=>have:=QLP x;simp only[Rows.uptoBulkAll,List.length_cons];omega
theorem QL3 {H:Type}(elems spare:List (DataW H)):Rows.uptoBulkAll elems+1≤Rows.uptoBulk (.slice elems spare):=by
 simp only[Rows.uptoBulk];omega
theorem QEW {H:Type}{d:DataW H}{l:List (DataW H)}(h:d∈l):Rows.uptoBulk d+1≤Rows.uptoBulk (.agg l):=by
 have:=QJA h;simp only[Rows.uptoBulk];omega
theorem QLq {t e:TypeId}{m fuel:Nat}{cs:List Value}{x:DataW H × List MemPlace}(ht:prog.underlying t=some (.slice e))(hc:prog.cellsOf e=m)(hm:0<m)(h:DataW.trod enc prog W 0 sp held fuel t cs=some x):
  ∃(p:Option Addr) (n c:Nat) (A:Nat→Nat→Value),cs= [.slice p n c]∧n≤c∧Row W m p n A∧n+1≤Rows.uptoBulk x.1∧∀i,i<n→∃k z,k<fuel∧DataW.trod enc prog W 0 sp held k e ((List.range m).map (A i))=some z∧Rows.uptoBulk z.1+1≤Rows.uptoBulk x.1:=by
 rcases DataW.trod_slice ht h with ⟨rfl,rfl⟩|⟨a,len,cap,elems,rest,k,rfl,rfl,rfl, -,hcap, -,hlen,hel, -, -⟩
 ·
  exact⟨none,0,0,fun _ _=>undef,rfl,Nat.le_refl _,fun i hi=>absurd hi (Nat.not_lt_zero _),QLP _,fun i hi=>absurd hi (Nat.not_lt_zero _)⟩
 ·
  have each:∀i,i<len→∃cs',(∀j,j<m→W.cell? ((a.add (i*m)).add j)=cs'[j]?)∧cs'.length=m∧∃z∈elems,DataW.trod enc prog W 0 sp held k e cs'=some z:=by
   intro i hi;have h1:=hel i hi;rw[hc,List.getElem?_eq_getElem (by omega)]at h1;obtain⟨cs',h2,h3⟩:=Option.bind_eq_some_iff.1 h1;obtain⟨-,h4,h5⟩:=World.cells?_some h2;exact⟨cs',h5,h4,_,List.getElem_mem _,h3⟩
  have hB:=QL3 (elems.map (·.1)) (rest.map (·.1));have hL:=QPX (elems.map (·.1));rw[List.length_map,hlen]at hL;refine⟨some a,len,cap,fun i j=>if hi:i<len then((each i hi).choose.getD j undef) else undef,rfl,hcap,fun i hi=>?_,?_,fun i hi=>?_⟩
  ·
   obtain⟨h1,h2, -⟩:=(each i hi).choose_spec;simp only[dif_pos hi];generalize (each i hi).choose=cs' at h1 h2 ⊢
   have hs:a.spot=none:=by
    obtain⟨cs0,k1,k2, -⟩:=each 0 (by omega);have k3:=k1 0 hm;rw[List.getElem?_eq_getElem (by omega)]at k3
    simpa[Addr.add]using World.cell?_spot k3
   obtain⟨b,o,spt⟩:=a;obtain rfl:spt=none:=hs;refine⟨b,o,rfl,fun j hj=>?_⟩;have h3:=h1 j hj
   have hadd:((⟨b,o,none⟩:Addr).add (i*m)).add j=⟨b,o+i*m+j,none⟩:=by
    rw[Go.Deep.add_add];unfold Addr.add
    split
    ·
     rename_i hz;have:i*m=0:=by omega
     have:j=0:=by omega
     simp_all
    ·
     simp[Nat.add_assoc]
   rw[hadd,List.getElem?_eq_getElem (by omega)]at h3;rw[h3];simp[List.getD_eq_getElem?_getD,List.getElem?_eq_getElem (show j<cs'.length by omega)]
  ·
   show len+1≤Rows.uptoBulk (.slice (elems.map (·.1)) (rest.map (·.1)));omega
  ·
   obtain⟨-,h2,z,h3,h4⟩:=(each i hi).choose_spec;simp only[dif_pos hi];generalize (each i hi).choose=cs' at h2 h4 ⊢;refine⟨k,z,Nat.lt_succ_self k,?_,?_⟩
   ·
    have:(List.range m).map (fun j=>cs'.getD j undef)=cs':=by
     refine List.ext_getElem? fun j=>?_
     by_cases hj:j<m
     ·
      simp[hj,List.getD_eq_getElem?_getD,List.getElem?_eq_getElem (show j<cs'.length by omega)]
     ·
      simp[hj,List.getElem?_eq_none (show cs'.length≤j by omega)]
    rw[this];exact h4
   ·
    have:=QJA (List.mem_map_of_mem (f:=(·.1)) h3);show Rows.uptoBulk z.1+1≤Rows.uptoBulk (.slice (elems.map (·.1)) (rest.map (·.1)));omega
theorem QSX:prog.cellsOf 3=1:=by kernel_rfl
theorem QL4:prog.cellsOf 9=1:=by kernel_rfl
theorem QTb:prog.cellsOf 24=5:=by kernel_rfl
theorem QTt:prog.cellsOf 22=1:=by kernel_rfl
theorem QTs:prog.cellsOf 98=6:=by kernel_rfl
theorem QSY:prog.cellsOf 25=1:=by kernel_rfl
theorem QRF:prog.cellsOf 27=1:=by kernel_rfl
theorem QSZ:prog.cellsOf 26=1:=by kernel_rfl
theorem QQU:prog.cellsOf 29=11:=by kernel_rfl
theorem QEX {H:Type}(s:ByteArray):Rows.uptoBulk (DataW.lit (H:=H) (.string s.data.toList))=s.size+1:=by
 have e':s.data.toList.length=s.size:=by rw[Array.length_toList];rfl
 simp[Rows.uptoBulk,e']
theorem QTG(A:Nat→Value):(List.range 5).map A= [A 0,A 1,A 2,A 3,A 4]:=rfl
theorem QTH(A:Nat→Value):(List.range 6).map A= [A 0,A 1,A 2,A 3,A 4,A 5]:=rfl
theorem QRw(A:Nat→Value):(List.range 11).map A= [A 0,A 1,A 2,A 3,A 4,A 5,A 6,A 7,A 8,A 9,A 10]:=rfl
theorem QR1:∀(fuel:Nat) (cs:List Value) (x:DataW H × List MemPlace),DataW.trod enc prog W 0 sp held fuel 24 cs=some x→Rows.uptoBulk x.1≤1048576→
  ∃a0 a1 a2 a3 a4 ty,cs= [a0,a1,a2,a3,a4]∧TyR W (.agg #[a0,a1,a2,a3,a4]) ty:=by
 intro fuel
 induction fuel using Nat.strongRecOn with
 |_ fuel ih=>
  intro cs x h hb;obtain⟨xs,n,rfl,rfl,hl,hxl,hf⟩:=DataW.trod_struct underlying24 h;rw[QTb]at hl;have hxl:xs.length=5:=hxl
  match cs,hl,xs,hxl with
  | [c0,c1,c2,c3,c4],_, [y0,y1,y2,y3,y4],_=>
   have g0:DataW.trod enc prog W 0 sp held n 3 (([c0,c1,c2,c3,c4].drop 0).take (prog.cellsOf 3))=some y0:=hf 0 _ rfl;have g1:DataW.trod enc prog W 0 sp held n 9 (([c0,c1,c2,c3,c4].drop 1).take (prog.cellsOf 9))=some y1:=hf 1 _ rfl;have g2:DataW.trod enc prog W 0 sp held n 3 (([c0,c1,c2,c3,c4].drop 2).take (prog.cellsOf 3))=some y2:=hf 2 _ rfl;have g3:DataW.trod enc prog W 0 sp held n 3 (([c0,c1,c2,c3,c4].drop 3).take (prog.cellsOf 3))=some y3:=hf 3 _ rfl;have g4:DataW.trod enc prog W 0 sp held n 22 (([c0,c1,c2,c3,c4].drop 4).take (prog.cellsOf 22))=some y4:=hf 4 _ rfl;rw[QSX]at g0 g2 g3;rw[QL4]at g1;rw[QTt]at g4;have hb':Rows.uptoBulk (.agg ([y0,y1,y2,y3,y4].map (·.1)))≤1048576:=hb;have hb1:Rows.uptoBulk y1.1+1≤Rows.uptoBulk (.agg ([y0,y1,y2,y3,y4].map (·.1))):=QEW (by simp);have hb4:Rows.uptoBulk y4.1+1≤Rows.uptoBulk (.agg ([y0,y1,y2,y3,y4].map (·.1))):=QEW (by simp);obtain⟨k,e0, -, -⟩:=DataW.trod_int underlying3 g0;obtain⟨s,e1,rfl, -⟩:=DataW.trod_string underlying9 g1;obtain⟨lo,e2, -, -⟩:=DataW.trod_int underlying3 g2;obtain⟨hi,e3, -, -⟩:=DataW.trod_int underlying3 g3;obtain⟨p,m,c,A,e4, -,hA,hn,hr⟩:=QLq underlying22 QTb (by decide) g4;simp only[List.drop_succ_cons,List.drop_zero,List.take_succ_cons,List.take_zero,List.cons.injEq,and_true]at e0 e1 e2 e3 e4;subst e0 e1 e2 e3 e4;rw[QEX]at hb1
   have each:∀i,i<m→∃ty,TyR W (QPK (A i)) ty:=by
    intro i hi;obtain⟨k',z,hk,hz,hbz⟩:=hr i hi;obtain⟨a0,a1,a2,a3,a4,ty,e,ht⟩:=ih k' (by omega) _ _ hz (by omega);rw[QTG]at e;simp only[List.cons.injEq,and_true]at e;obtain⟨rfl,rfl,rfl,rfl,rfl⟩:=e;exact⟨ty,ht⟩
   refine⟨_,_,_,_,_,.mk k lo hi s m (fun i=>if hi:i<m then(each i hi).choose else .no),rfl,TyR.mk k lo hi s m p c A _ (by unfold QDP;omega) (by unfold QES;omega) hA (fun i hi=>?_)⟩;simp only[dif_pos hi];exact(each i hi).choose_spec
theorem QR0 {n:Nat}{y:DataW H × List MemPlace}{cs:List Value}(h:DataW.trod enc prog W 0 sp held n 26 cs=some y)(hb:Rows.uptoBulk y.1≤1048576):
  ∃p m c ks,cs= [.slice p m c]∧m≤c∧StrR W m p ks:=by
 obtain⟨p,m,c,A,e4,hc,hA,hn,hr⟩:=QLq underlying26 QL4 (by decide) h
 have each:∀i,i<m→∃s:ByteArray,A i 0= .string s∧s.size≤QDP:=by
  intro i hi;obtain⟨k',z,hk,hz,hbz⟩:=hr i hi;obtain⟨s,e1,rfl, -⟩:=DataW.trod_string underlying9 hz;have e:(List.range 1).map (A i)= [A i 0]:=rfl;rw[e]at e1;simp only[List.cons.injEq,and_true]at e1;rw[QEX]at hbz;exact⟨s,e1,by unfold QDP;omega⟩
 refine⟨p,m,c,fun i=>if hi:i<m then(each i hi).choose else⟨#[]⟩,e4,hc,by unfold QES;omega,A,hA,fun i hi=>?_⟩;simp only[dif_pos hi];exact(each i hi).choose_spec
theorem QRz {n:Nat}{y:DataW H × List MemPlace}{cs:List Value}(h:DataW.trod enc prog W 0 sp held n 25 cs=some y)(hb:Rows.uptoBulk y.1≤1048576):
  ∃p m c pn pt,cs= [.slice p m c]∧ParR W m p pn pt:=by
 obtain⟨p,m,c,A,e4, -,hA,hn,hr⟩:=QLq underlying25 QTs (by decide) h
 have each:∀i,i<m→∃x:ByteArray × Ty,A i 0= .string x.1∧x.1.size≤QDP∧TyR W (QPK fun j=>A i (j+1)) x.2:=by
  intro i hi;obtain⟨k',z,hk,hz,hbz⟩:=hr i hi;obtain⟨xs,n,rfl,rfl,hl,hxl,hf⟩:=DataW.trod_struct underlying98 hz;have hxl:xs.length=2:=hxl;rw[QTH]at hf
  match xs,hxl with
  | [y0,y1],_=>
   have g0:DataW.trod enc prog W 0 sp held n 9 (([A i 0,A i 1,A i 2,A i 3,A i 4,A i 5].drop 0).take (prog.cellsOf 9))=some y0:=hf 0 _ rfl;have g1:DataW.trod enc prog W 0 sp held n 24 (([A i 0,A i 1,A i 2,A i 3,A i 4,A i 5].drop 1).take (prog.cellsOf 24))=some y1:=hf 1 _ rfl;rw[QL4]at g0;rw[QTb]at g1;have hbz':Rows.uptoBulk (.agg ([y0,y1].map (·.1)))+1≤Rows.uptoBulk y.1:=hbz;have hb0:Rows.uptoBulk y0.1+1≤Rows.uptoBulk (.agg ([y0,y1].map (·.1))):=QEW (by simp);have hb1:Rows.uptoBulk y1.1+1≤Rows.uptoBulk (.agg ([y0,y1].map (·.1))):=QEW (by simp);obtain⟨s,e0,rfl, -⟩:=DataW.trod_string underlying9 g0;obtain⟨a0,a1,a2,a3,a4,ty,e1,ht⟩:=QR1 _ _ _ g1 (by omega);rw[QEX]at hb0;simp only[List.drop_succ_cons,List.drop_zero,List.take_succ_cons,List.take_zero,List.cons.injEq,and_true]at e0 e1;obtain⟨rfl,rfl,rfl,rfl,rfl⟩:=e1;exact⟨(s,ty),e0,by show s.size≤QDP;unfold QDP;omega,ht⟩
 refine⟨p,m,c,fun i=>if hi:i<m then(each i hi).choose.1 else⟨#[]⟩,fun i=>if hi:i<m then(each i hi).choose.2 else .no,e4,by unfold QES;omega,A,hA,fun i hi=>?_⟩;simp only[dif_pos hi];exact(each i hi).choose_spec
theorem QRx:∀(fuel:Nat) (cs:List Value) (x:DataW H × List MemPlace),DataW.trod enc prog W 0 sp held fuel 29 cs=some x→Rows.uptoBulk x.1≤1048576→
  ∃X e,cs=X.toList∧ExR W (.agg X) e:=by
 intro fuel
 induction fuel using Nat.strongRecOn with
 |_ fuel ih=>
  intro cs x h hb;obtain⟨xs,n,rfl,rfl,hl,hxl,hf⟩:=DataW.trod_struct underlying29 h;rw[QQU]at hl;have hxl:xs.length=7:=hxl
  match cs,hl,xs,hxl with
  | [c0,c1,c2,c3,c4,c5,c6,c7,c8,c9,c10],_, [y0,y1,y2,y3,y4,y5,y6],_=>
   have g0:DataW.trod enc prog W 0 sp held n 3 (([c0,c1,c2,c3,c4,c5,c6,c7,c8,c9,c10].drop 0).take (prog.cellsOf 3))=some y0:=hf 0 _ rfl;have g1:DataW.trod enc prog W 0 sp held n 9 (([c0,c1,c2,c3,c4,c5,c6,c7,c8,c9,c10].drop 1).take (prog.cellsOf 9))=some y1:=hf 1 _ rfl;have g2:DataW.trod enc prog W 0 sp held n 3 (([c0,c1,c2,c3,c4,c5,c6,c7,c8,c9,c10].drop 2).take (prog.cellsOf 3))=some y2:=hf 2 _ rfl;have g3:DataW.trod enc prog W 0 sp held n 24 (([c0,c1,c2,c3,c4,c5,c6,c7,c8,c9,c10].drop 3).take (prog.cellsOf 24))=some y3:=hf 3 _ rfl;have g4:DataW.trod enc prog W 0 sp held n 25 (([c0,c1,c2,c3,c4,c5,c6,c7,c8,c9,c10].drop 8).take (prog.cellsOf 25))=some y4:=hf 4 _ rfl;have g5:DataW.trod enc prog W 0 sp held n 26 (([c0,c1,c2,c3,c4,c5,c6,c7,c8,c9,c10].drop 9).take (prog.cellsOf 26))=some y5:=hf 5 _ rfl;have g6:DataW.trod enc prog W 0 sp held n 27 (([c0,c1,c2,c3,c4,c5,c6,c7,c8,c9,c10].drop 10).take (prog.cellsOf 27))=some y6:=hf 6 _ rfl;rw[QSX]at g0 g2;rw[QL4]at g1;rw[QTb]at g3;rw[QSY]at g4;rw[QSZ]at g5;rw[QRF]at g6;have hb':Rows.uptoBulk (.agg ([y0,y1,y2,y3,y4,y5,y6].map (·.1)))≤1048576:=hb;have hbp {y:DataW H × List MemPlace} (hy:y∈ [y0,y1,y2,y3,y4,y5,y6]):Rows.uptoBulk y.1+1≤1048576:=Nat.le_trans (QEW (List.mem_map_of_mem (f:=(·.1)) hy)) hb';have hb1:=hbp (y:=y1) (by simp);have hb3:=hbp (y:=y3) (by simp);have hb4:=hbp (y:=y4) (by simp);have hb5:=hbp (y:=y5) (by simp);have hb6:=hbp (y:=y6) (by simp);clear hbp;obtain⟨k,e0, -, -⟩:=DataW.trod_int underlying3 g0
   obtain⟨s,e1,rfl, -⟩:=DataW.trod_string underlying9 g1;obtain⟨num,e2, -, -⟩:=DataW.trod_int underlying3 g2;obtain⟨a0,a1,a2,a3,a4,ty,e3,ht⟩:=QR1 _ _ _ g3 (by omega);obtain⟨pp,np,cp,pn,pt,e4,hp⟩:=QRz g4 (by omega);obtain⟨pk,nk,ck,ks,e5,hck,hk⟩:=QR0 g5 (by omega);obtain⟨pa,m,ca,A,e6,hca,hA,hn,hr⟩:=QLq underlying27 QQU (by decide) g6;simp only[List.drop_succ_cons,List.drop_zero,List.take_succ_cons,List.take_zero,List.cons.injEq,and_true]at e0 e1 e2 e3 e4 e5 e6;obtain⟨rfl,rfl,rfl,rfl,rfl⟩:=e3;subst e0 e1 e2 e4 e5 e6;rw[QEX]at hb1
   have each:∀i,i<m→∃e,ExR W (QE6 (A i)) e:=by
    intro i hi;obtain⟨k',z,hk,hz,hbz⟩:=hr i hi;obtain⟨X,e,eX,he⟩:=ih k' (by omega) _ _ hz (by omega);rw[QRw]at eX
    have:QE6 (A i)= .agg X:=by
     unfold QE6
     congr 1
     exact Array.toList_inj.1 eX
    exact⟨e,by rw[this];exact he⟩
   refine⟨#[.int .i64 k,.string s,.int .i64 num,c3,c4,c5,c6,c7,.slice pp np cp,.slice pk nk ck,.slice pa m ca],.mk k num s ty np pn pt nk ks m (fun i=>if hi:i<m then(each i hi).choose else .no),rfl,ExR.mk k num s _ _ _ _ _ ty np pp cp pn pt nk pk ck ks m pa ca A _ (by unfold QDP;omega) ht hp ⟨hk,hck,hca⟩ (by unfold QES;omega) hA (fun i hi=>?_)⟩;simp only[dif_pos hi];exact(each i hi).choose_spec
end
end Go.Proofs.YtjnclkakbopnjaaGreatDoor
