/- XRefG -/
import Derived.Test.YtjnclkakbopnjaaGreatDoorLot28
set_option linter.unusedSimpArgs false
set_option linter.unusedVariables false
set_option maxRecDepth 100000
set_option maxHeartbeats 40000000
namespace Go.Proofs.YtjnclkakbopnjaaGreatDoor
open Go.Proofs.Tryz
open Go.RowKit Go.Proofs.YtjnclkakbopnjaaGreatDoorW.PrintLast
theorem QJn(i:Nat)(h:i<4):∃l,plainT[i]?=some l∧0<l.length∧l.length≤10:=by
 match i,h with
 |0,_=>exact⟨_,rfl,by decide,by decide⟩
 |1,_=>exact⟨_,rfl,by decide,by decide⟩
 |2,_=>exact⟨_,rfl,by decide,by decide⟩
 |3,_=>exact⟨_,rfl,by decide,by decide⟩
theorem QGU(l:List UInt8)(i:Nat)(p:List UInt8)(h:plainT[i]?=some p):QDK l (i+1)=(QDK l i||decide (0<QE2 p l)):=by
 unfold QDK;rw[List.take_add_one,h,List.any_append];simp
structure BestAt(w wr:World)(rb ob:Nat)(r:Nat × Nat):Prop where
 below:Below w.heap.size w wr
 tab:TabR wr rb rulesT
 o0:wr.cell? ⟨ob,0,none⟩=some (.int .i64 r.1)
 o1:wr.cell? ⟨ob,1,none⟩=some (.int .i64 r.2)
 f0:wr.frozen? ⟨ob,0,none⟩=false
 f1:wr.frozen? ⟨ob,1,none⟩=false
 le:w.heap.size≤ob
 z0:wr.cell? ⟨w.heap.size,0,none⟩=some (.int .i64 0)
 z1:wr.cell? ⟨w.heap.size,1,none⟩=some (.int .i64 0)
 y0:wr.frozen? ⟨w.heap.size,0,none⟩=false
 y1:wr.frozen? ⟨w.heap.size,1,none⟩=false
 ne0:ob≠w.heap.size
theorem BestAt.mono {w wr wx:World}{rb ob:Nat}{r:Nat × Nat}(h:BestAt w wr rb ob r)(hb:Below wr.heap.size wr wx):BestAt w wx rb ob r:=
 ⟨h.below.trans (hb.mono h.below.size),h.tab.below hb,QAA hb h.o0,QAA hb h.o1,(hb.frozen (p:=⟨ob,0,none⟩) (World.block_lt_of_cell? wr _ h.o0)).trans h.f0,(hb.frozen (p:=⟨ob,1,none⟩) (World.block_lt_of_cell? wr _ h.o1)).trans h.f1,h.le,QAA hb h.z0,QAA hb h.z1,(hb.frozen (p:=⟨w.heap.size,0,none⟩) (World.block_lt_of_cell? wr _ h.z0)).trans h.y0,(hb.frozen (p:=⟨w.heap.size,1,none⟩) (World.block_lt_of_cell? wr _ h.z1)).trans h.y1,h.ne0⟩
theorem BestAt.ne {w wr:World}{rb ob:Nat}{r:Nat × Nat}(h:BestAt w wr rb ob r):rb≠ob:=by
 intro e;obtain⟨s,_,h2,_⟩:=h.tab.at_ 0 1 [76] rfl;have h3:=h.o1;rw[←e]at h3;rw[h3]at h2
 cases h2
theorem BestAt.put {w wr:World}{rb ob:Nat}{r:Nat × Nat}(h:BestAt w wr rb ob r)(a b m:Nat):
  BestAt w (((wr.drewN m).setCell ⟨ob,0,none⟩ (.int .i64 a)).setCell ⟨ob,1,none⟩ (.int .i64 b)) rb ob (a,b):=by
 have hne:=h.ne;have hz:∀(o o':Nat),(⟨ob,o',none⟩:Addr)≠⟨w.heap.size,o,none⟩:=fun o o' e=>by injection e with e1 _;exact h.ne0 e1
 have hx:∀(o o':Nat),(⟨rb,o,none⟩:Addr)≠⟨ob,o',none⟩:=fun o o' e=>by injection e with e1 _;exact hne e1
 refine⟨((QAB h.below m).setCell (p:=⟨ob,0,none⟩) h.le _).setCell (p:=⟨ob,1,none⟩) h.le _,⟨fun i k l hl=>?_⟩,?_,?_,?_,?_,h.le,?_,?_,?_,?_,h.ne0⟩
 ·
  obtain⟨s,h1,h2,h3⟩:=h.tab.at_ i k l hl;refine⟨s,?_,?_,h3⟩
  ·
   rw[World.cell?_setCell_other _ _ _ _ (Ne.symm (hx _ _)),World.cell?_setCell_other _ _ _ _ (Ne.symm (hx _ _)),World.cell?_drewN];exact h1
  ·
   rw[World.cell?_setCell_other _ _ _ _ (Ne.symm (hx _ _)),World.cell?_setCell_other _ _ _ _ (Ne.symm (hx _ _)),World.cell?_drewN];exact h2
 ·
  have:=h.o0;simp[go_sem,h.o0,h.o1]
 ·
  simp[go_sem,h.o0,h.o1]
 ·
  simp[go_sem,h.f0]
 ·
  simp[go_sem,h.f1]
 ·
  rw[World.cell?_setCell_other _ _ _ _ (hz _ _),World.cell?_setCell_other _ _ _ _ (hz _ _),World.cell?_drewN];exact h.z0
 ·
  rw[World.cell?_setCell_other _ _ _ _ (hz _ _),World.cell?_setCell_other _ _ _ _ (hz _ _),World.cell?_drewN];exact h.z1
 ·
  simp[go_sem,h.y0]
 ·
  simp[go_sem,h.y1]
theorem TabS.put {w wr:World}{rb ob sb:Nat}{r:Nat × Nat}{t:List (List UInt8)}(h:TabS wr sb t)(hb:BestAt w wr rb ob r)(ht:∃l,t[0]?=some l)(a b:Value)(m:Nat):
  TabS (((wr.drewN m).setCell ⟨ob,0,none⟩ a).setCell ⟨ob,1,none⟩ b) sb t:=by
 obtain⟨l,hl⟩:=ht
 have hne:sb≠ob:=by
  intro e;obtain⟨s,h1, -⟩:=h.at_ 0 l hl;have h3:=hb.o0;rw[←e,h1]at h3
  cases h3
 have hx:∀(o o':Nat),(⟨sb,o,none⟩:Addr)≠⟨ob,o',none⟩:=fun o o' e=>by injection e with e1 _;exact hne e1
 refine⟨fun i l hl=>?_⟩;obtain⟨s,h1,h2⟩:=h.at_ i l hl;refine⟨s,?_,h2⟩;rw[World.cell?_setCell_other _ _ _ _ (Ne.symm (hx _ _)),World.cell?_setCell_other _ _ _ _ (Ne.symm (hx _ _)),World.cell?_drewN];exact h1
theorem QO5(i:Nat)(h:i<26):∃l,signsT[i]?=some l∧0<l.length∧l.length≤2:=by
 have hlen:signsT.length=26:=by decide
 have hok:∀l∈signsT,0<l.length∧l.length≤2:=by decide
 exact⟨signsT[i]'(by omega),List.getElem?_eq_getElem (by omega),hok _ (List.getElem_mem _)⟩
theorem QLL(l:List UInt8)(o:Nat × Nat)(i:Nat)(t:List UInt8)(h:signsT[i]?=some t):QCg l o (i+1)=QBh l (QCg l o i) t:=by
 unfold QCg;rw[List.take_add_one,h,List.foldl_append];rfl
def QR7:Bool:=rulesT.all fun r=>decide (0<r.2.length)&&decide (r.2.length≤1000)&&decide (r.1<10)
theorem QOv(i:Nat)(h:i<36):∃k l,rulesT[i]?=some (k,l)∧0<l.length∧l.length≤1000∧k<10:=by
 have hlen:rulesT.length=36:=by decide+kernel
 have hok:QR7=true:=by decide+kernel
 have hi:i<rulesT.length:=by omega
 have hm:=List.all_eq_true.1 hok rulesT[i] (List.getElem_mem hi);simp only[Bool.and_eq_true,decide_eq_true_eq]at hm;exact⟨rulesT[i].1,rulesT[i].2,List.getElem?_eq_getElem hi,hm.1.1,hm.1.2,hm.2⟩
theorem QLD(nm:Bool)(l:List UInt8)(i k:Nat)(p:List UInt8)(h:rulesT[i]?=some (k,p)):QAn nm l (i+1)=QAv nm l (QAn nm l i) (k,p):=by
 unfold QAn;rw[List.take_add_one,h,List.foldl_append];rfl
theorem QF5 {B:Nat}{a w1 w2 w3 w4:World}(hB:B≤a.heap.size)(h1:Below B a w1)(h2:Below w1.heap.size w1 w2)(h3:Below w2.drew.heap.size w2.drew w3)(h4:Below w3.heap.size w3 w4):Below B a w4:=by
 have s1:=h1.size;have s2:=h2.size;have s3:=h3.size;have e:w2.drew.heap.size=w2.heap.size:=rfl;exact h1.trans ((h2.mono (by omega)).trans ((QED (Below.refl B w2)).trans ((h3.mono (by omega)).trans (h4.mono (by omega)))))
theorem QPU(s:ByteArray)(w:World)(h9:9≤w.heap.size)(hs:s.size≤1000000):
  Calls prog 225 #[.string s,.int .i64 0,.bool false] w fun e w'=>e= .returned (.agg #[.int .i64 (QBF s.data.toList).1,.int .i64 (QBF s.data.toList).2])∧Below w.heap.size w w':=by
 have HR:=hd0 QMg;have HP:=hd0 QMf;have HSG:=hd0 QMh;have HBEG:=hd0 (QHF s)
 have hlon:∀(p:ByteArray) w,0<p.size→p.size≤1000→Calls prog 263 #[.string p,.string (QNC s)] w fun e w'=>e= .returned (.int .i64 (QE2 p.data.toList s.data.toList))∧Below w.heap.size w w':=by
  intro p w hp hp2;have:=QFf p (QNC s) w hp hp2 (by have:=QI2 s;omega);rw[QF4]at this;exact this
 have HLON:=hd0 hlon;clear hlon;go_enter func225,ntmps225
 go_wp2_with fail
 refine(HR.out _ (by simp;omega)).mono ?_;rintro e w1 ⟨hb1,rb,rc,rfl,htab⟩
 have hb2:Below w.heap.size w w1:=by
  have h2:Below w.heap.size w ((w.alloc (.cells #[.int .i64 0,.int .i64 0] 275)).alloc (.cells #[.int .i64 0,.int .i64 0] 275)):=((Below.refl _ _).alloc (Nat.le_refl _) _).alloc (by simp) _;exact h2.trans (hb1.mono h2.size)
 have hf0:w1.frozen? ⟨w.heap.size+1,0,none⟩=false:=(hb1.frozen (p:=⟨w.heap.size+1,0,none⟩) (by simp)).trans (by simp[go_sem]);have hf1:w1.frozen? ⟨w.heap.size+1,1,none⟩=false:=(hb1.frozen (p:=⟨w.heap.size+1,1,none⟩) (by simp)).trans (by simp[go_sem]);have ho0:w1.cell? ⟨w.heap.size+1,0,none⟩=some (.int .i64 0):=QAA hb1 (by simp[go_sem]);have ho1:w1.cell? ⟨w.heap.size+1,1,none⟩=some (.int .i64 0):=QAA hb1 (by simp[go_sem]);have HZ:=hd0 (show w1.cell? ⟨w.heap.size,0,none⟩=some (.int .i64 0)∧w1.cell? ⟨w.heap.size,1,none⟩=some (.int .i64 0)∧w1.frozen? ⟨w.heap.size,0,none⟩=false∧w1.frozen? ⟨w.heap.size,1,none⟩=false from⟨QAA hb1 (by simp[go_sem]),QAA hb1 (by simp[go_sem]),(hb1.frozen (p:=⟨w.heap.size,0,none⟩) (by simp;omega)).trans (by simp[go_sem]),(hb1.frozen (p:=⟨w.heap.size,1,none⟩) (by simp;omega)).trans (by simp[go_sem])⟩);have H1:=hd0 (And.intro hb2 (And.intro htab (And.intro ho0 (And.intro ho1 (And.intro hf0 hf1)))));clear hb1 hb2 htab ho0 ho1 hf0 hf1
 go_wp2_with fail
 go_loopw [9,10] (fun v9 v10 wr=>∃i:Nat,i≤4∧v10= .int .i64 i∧v9= .bool (QDK s.data.toList i)∧Hid (Below w1.heap.size w1 wr)) (fun _ v10 _=>4 - (intOf v10).toNat)
 case atStart=>exact⟨0,Nat.zero_le _,rfl,rfl,hd0 (Below.refl _ _)⟩
 case round=>
  obtain⟨i,hi,rfl,rfl,HW⟩:=hrel
  go_wp2_with fail
  refine(HP.out _ (by have:=HW.out.size;have:=H1.out.1.size;omega)).mono ?_;rintro e w2 ⟨hb2,pb,pc,rfl, -⟩
  by_cases hlt:i<4
  ·
   have hd:decide ((i:Int)<4)=true:=decide_eq_true (by omega);have hi4:(i:Int)<4:=by omega
   have hi0:(0:Int)≤i:=by omega
   cases hnm:QDK s.data.toList i with
   |true=>
    go_wp2_with fail
    go_quiet (fail)
    go_wp2;obtain⟨pl,hpl, -, -⟩:=QJn i hlt;refine⟨⟨i+1,by omega,by go_num,by rw[QGU _ i pl hpl,hnm];rfl,hd0 (QAB (HW.out.trans (hb2.mono HW.out.size)) _)⟩,by simp[intOf];omega⟩
   |false=>
    go_wp2_with fail
    refine QBr (n:=13) (S:=fun _=>True) (ds:= []) (bs 13 0) (by kernel_rfl) rfl rfl trivial (fun _=>?_);refine pu_ 0 22 ?_;refine pu_ 1 23 ?_;refine pu_ 3 25 ?_;refine pu_ 6 28 ?_;refine pu_ 7 29 ?_;refine on_ 2 (some 24) rfl rfl (fun K hK=>?_);refine QA6 func262 (by kernel_rfl) rfl #[] (by rfl) rfl rfl (by (try simp only[List.map_toArray,List.map_cons,List.map_nil]);first|done|rfl) ?_;refine(HP.out _ (by have:=HW.out.size;have:=H1.out.1.size;have:=hb2.size;simp;omega)).mono ?_;rintro e w3 ⟨hb3,qb,qc,rfl,htab⟩;refine⟨_,rfl,?_⟩;refine hK.out _ _ trivial (fun _=>?_);clear hK K;refine nm_ ?_;refine pu_ 4 26 ?_;obtain⟨pl,hpl,hpl1,hpl2⟩:=QJn i hlt;obtain⟨ps,hps,hpd⟩:=htab.at_ i pl hpl;have hp0:0<ps.size:=by rw[←QAE,hpd];exact hpl1
    have hp1:ps.size≤1000:=by rw[←QAE,hpd];omega
    have hnt:=QGU s.data.toList i pl hpl;rw[hnm,Bool.false_or,←hpd]at hnt;have HNT:=hd0 hnt;have HB3:=hd0 hb3;have HL:=hd0 (fun w=>HLON.out ps w hp0 hp1);clear hnt hpd hpl hpl1 hpl2 htab hb3;refine two_ (i:=5) (j:=8) (Ni:=some 27) (Nj:=some 30) (bs 13 255) (bs 13 479) rfl rfl rfl rfl (by kernel_rfl) (by decide) (by decide) (fun K hK=>?_) (fun K hK=>?_)
    ·
     refine QKG (by rfl) rfl (by go_simp;exact⟨rfl,rfl⟩) ?_;refine hK.out _ _ trivial (fun _=>?_);clear hK K;refine nm_ ?_;refine on_ 8 (some 30) rfl rfl (fun K hK=>?_);refine QA6 func264 (by kernel_rfl) rfl #[.string s,.int .i64 0] (by rfl) rfl rfl (by (try simp only[List.map_toArray,List.map_cons,List.map_nil]);first|done|rfl) ?_;refine(HBEG.out _).mono ?_;rintro e w4 ⟨rfl,rfl⟩;refine⟨_,rfl,?_⟩;refine hK.out _ _ trivial (fun _=>?_);clear hK K;refine nm_ ?_;refine on_ 9 (some 31) rfl rfl (fun K hK=>?_);refine QA6 func263 (by kernel_rfl) rfl #[.string ps,.string (QNC s)] (by rfl) rfl rfl (by (try simp only[List.map_toArray,List.map_cons,List.map_nil]);first|done|rfl) ?_;refine(HL.out _).mono ?_;rintro e w5 ⟨rfl,hb5⟩;refine⟨_,rfl,?_⟩;refine hK.out _ _ trivial (fun _=>?_);clear hK K;refine nm_ ?_;refine pu_ 10 32 ?_;refine pu_ 11 33 ?_;refine pu_ 12 9 ?_;refine QCZ (by kernel_rfl) ?_;have HBW:=hd0 (QF5 (Nat.le_refl _) HW.out hb2 HB3.out hb5);clear hb5;go_wp2;refine⟨⟨i+1,by omega,by go_num,?_,HBW⟩,by simp[intOf];omega⟩;rw[HNT.out]
    ·
     refine QA6 func264 (by kernel_rfl) rfl #[.string s,.int .i64 0] (by rfl) rfl rfl (by (try simp only[List.map_toArray,List.map_cons,List.map_nil]);first|done|rfl) ?_;refine(HBEG.out _).mono ?_;rintro e w4 ⟨rfl,rfl⟩;refine⟨_,rfl,?_⟩;refine hK.out _ _ trivial (fun _=>?_);clear hK K;refine nm_ ?_;refine on_ 5 (some 27) rfl rfl (fun K hK=>?_);refine QKG (by rfl) rfl (by go_simp;exact⟨rfl,rfl⟩) ?_;refine hK.out _ _ trivial (fun _=>?_);clear hK K;refine nm_ ?_;refine on_ 9 (some 31) rfl rfl (fun K hK=>?_);refine QA6 func263 (by kernel_rfl) rfl #[.string ps,.string (QNC s)] (by rfl) rfl rfl (by (try simp only[List.map_toArray,List.map_cons,List.map_nil]);first|done|rfl) ?_;refine(HL.out _).mono ?_;rintro e w5 ⟨rfl,hb5⟩;refine⟨_,rfl,?_⟩;refine hK.out _ _ trivial (fun _=>?_);clear hK K;refine nm_ ?_;refine pu_ 10 32 ?_;refine pu_ 11 33 ?_;refine pu_ 12 9 ?_;refine QCZ (by kernel_rfl) ?_;have HBW:=hd0 (QF5 (Nat.le_refl _) HW.out hb2 HB3.out hb5);clear hb5;go_wp2;refine⟨⟨i+1,by omega,by go_num,?_,HBW⟩,by simp[intOf];omega⟩;rw[HNT.out]
  ·
   have hd:decide ((i:Int)<4)=false:=decide_eq_false (by omega);have hi4:i=4:=by omega
   subst hi4;have hbw:=H1.out.1.trans ((HW.out.trans (hb2.mono HW.out.size)).mono H1.out.1.size);have hbx:=HW.out.trans (hb2.mono HW.out.size);have htab:=H1.out.2.1.below hbx;have ho0:=QAA hbx H1.out.2.2.1;have ho1:=QAA hbx H1.out.2.2.2.1;have hf0:=(hbx.frozen (p:=⟨w.heap.size+1,0,none⟩) (World.block_lt_of_cell? w1 _ H1.out.2.2.1)).trans H1.out.2.2.2.2.1;have hf1:=(hbx.frozen (p:=⟨w.heap.size+1,1,none⟩) (World.block_lt_of_cell? w1 _ H1.out.2.2.2.1)).trans H1.out.2.2.2.2.2;obtain⟨ob,hob⟩:∃ob,ob=w.heap.size+1:=⟨_,rfl⟩;have H2:=hd0 (show BestAt w w2 rb ob (QAn (QDK s.data.toList 4) s.data.toList 0)from⟨hbw,htab,by rw[hob];exact ho0,by rw[hob];exact ho1,by rw[hob];exact hf0,by rw[hob];exact hf1,by omega,QAA hbx HZ.out.1,QAA hbx HZ.out.2.1,(hbx.frozen (p:=⟨w.heap.size,0,none⟩) (World.block_lt_of_cell? w1 _ HZ.out.1)).trans HZ.out.2.2.1,(hbx.frozen (p:=⟨w.heap.size,1,none⟩) (World.block_lt_of_cell? w1 _ HZ.out.2.1)).trans HZ.out.2.2.2,by omega⟩);clear hbw hbx htab ho0 ho1 hf0 hf1 HW hb2 H1
   go_wp2_with fail
   simp only[←hob];clear hob;generalize hnm:QDK s.data.toList 4=nm at*;have HNM:=hd0 hnm;clear hnm
   go_loopw [11] (fun v11 wr=>∃k:Nat,k≤36∧v11= .int .i64 k∧Hid (BestAt w wr rb ob (QAn nm s.data.toList k))) (fun v11 _=>36 - (intOf v11).toNat)
   case atStart=>exact⟨0,Nat.zero_le _,rfl,H2⟩
   case round=>
    clear H2;obtain⟨k,hk,rfl,HB⟩:=hrel
    by_cases hlt2:k<36
    ·
     have hd2:decide ((k:Int)<36)=true:=decide_eq_true (by omega);have hk0:(0:Int)≤k:=by omega
     have hk1:(k:Int)<36:=by omega
     obtain⟨kk,pl,hr,hp0,hp1,hkk⟩:=QOv k hlt2;obtain⟨ps,c0,c1,hpd⟩:=HB.out.tab.at_ k kk pl hr;rw[Nat.mul_comm]at c0 c1;have o0:=HB.out.o0;have o1:=HB.out.o1;have f0:=HB.out.f0;have f1:=HB.out.f1;have hnt:=QLD nm s.data.toList k kk pl hr;rw[←hpd]at hnt hp0 hp1;rw[QAE]at hp0 hp1;have hall:=fun w=>QKL kk ps s w hkk hp0 hp1 hs
     have hnx:IntKind.i64.wrap ((k:Int)+1)=((k+1:Nat):Int):=IntWalk.i64_in _ (by omega)
     by_cases hskip:(nm&&kk !=1&&kk !=3)=true
     ·
      have hn2:QAn nm s.data.toList (k+1)=QAn nm s.data.toList k:=by rw[hnt];unfold QAv;rw[if_pos (by simp only[hskip,Bool.true_or])]
      simp only[Bool.and_eq_true,bne_iff_ne,ne_eq]at hskip;obtain⟨⟨rfl,s1⟩,s3⟩:=hskip;have e1:((kk:Int) !=1)=true:=by rw[bne_iff_ne];omega
      have e3:((kk:Int) !=3)=true:=by rw[bne_iff_ne];omega
      have HN:=hd0 hn2;clear hall hnt hr hpd hn2 s1 s3
      go_wp2_with fail
      go_roundw
      case rel=>exact⟨k+1,by omega,by go_num,by rw[HN.out];exact HB⟩
      case measure=>simp[intOf];omega
     ·
      cases ha:QBm kk ps.data.toList s.data.toList with
      |false=>
       have hn2:QAn nm s.data.toList (k+1)=QAn nm s.data.toList k:=by rw[hnt];unfold QAv;rw[if_pos (by simp only[ha,Bool.not_false,Bool.or_true])]
       rw[ha]at hall;have HALL:=hd0 hall;have HN:=hd0 hn2;clear hall hnt hr hpd hn2 ha;have fin:∀wx,Below wr.heap.size wr wx→Hid (BestAt w wx rb ob (QAn nm s.data.toList (k+1))):=fun wx hb=>hd0 (by rw[HN.out];exact HB.out.mono hb)
       have FIN:=hd0 fin;clear fin
       cases nm with
       |false=>
        clear hskip
        go_wp2_with fail
        refine(HALL.out _).mono ?_;rintro e wx ⟨rfl,hbx⟩;have HBX:=hd0 hbx;clear hbx
        go_wp2_with fail
        go_roundw
        case rel=>exact⟨k+1,by omega,by go_num,FIN.out _ HBX.out⟩
        case measure=>simp[intOf];omega
       |true=>
        by_cases h1:kk=1
        ·
         have e1:((kk:Int) !=1)=false:=by rw[bne_eq_false_iff_eq];omega
         clear hskip h1
         go_wp2_with fail
         refine(HALL.out _).mono ?_;rintro e wx ⟨rfl,hbx⟩;have HBX:=hd0 hbx;clear hbx
         go_wp2_with fail
         go_roundw
         case rel=>exact⟨k+1,by omega,by go_num,FIN.out _ HBX.out⟩
         case measure=>simp[intOf];omega
        ·
         have h3:kk=3:=by simp[h1]at hskip;exact hskip
         have e1:((kk:Int) !=1)=true:=by rw[bne_iff_ne];omega
         have e3:((kk:Int) !=3)=false:=by rw[bne_eq_false_iff_eq];omega
         clear hskip h1 h3
         go_wp2_with fail
         refine(HALL.out _).mono ?_;rintro e wx ⟨rfl,hbx⟩;have HBX:=hd0 hbx;clear hbx
         go_wp2_with fail
         go_roundw
         case rel=>exact⟨k+1,by omega,by go_num,FIN.out _ HBX.out⟩
         case measure=>simp[intOf];omega
      |true=>
       rw[ha]at hall;have HALL:=hd0 hall;have HNT:=hd0 hnt;have HA:=hd0 ha;have HSK:=hd0 hskip;have HPD:=hd0 hpd;clear hall hnt hr hpd ha;go_upto_region 11 with fail
       go_cut [78] (fun s78 wx=>Hid (s78= .bool false)∧Hid (BestAt w wx rb ob (QAn nm s.data.toList k)∧wx.cell? ⟨rb,k*2,none⟩=some (.int .i64 kk)∧wx.cell? ⟨rb,k*2+1,none⟩=some (.string ps)))
       case first=>
        cases nm with
        |false=>
         clear hskip
         go_wp2_with fail
         refine(HALL.out _).mono ?_;rintro e wx ⟨rfl,hbx⟩;have HBX:=hd0 hbx;clear hbx;go_wp2;go_meet;exact⟨hd0 rfl,hd0 ⟨HB.out.mono HBX.out,QAA HBX.out c0,QAA HBX.out c1⟩⟩
        |true=>
         by_cases h1:kk=1
         ·
          have e1:((kk:Int) !=1)=false:=by rw[bne_eq_false_iff_eq];omega
          clear hskip h1
          go_wp2_with fail
          refine(HALL.out _).mono ?_;rintro e wx ⟨rfl,hbx⟩;have HBX:=hd0 hbx;clear hbx;go_wp2;go_meet;exact⟨hd0 rfl,hd0 ⟨HB.out.mono HBX.out,QAA HBX.out c0,QAA HBX.out c1⟩⟩
         ·
          have h3:kk=3:=by simp[h1]at hskip;exact hskip
          have e1:((kk:Int) !=1)=true:=by rw[bne_iff_ne];omega
          have e3:((kk:Int) !=3)=false:=by rw[bne_eq_false_iff_eq];omega
          clear hskip h1 h3
          go_wp2_with fail
          refine(HALL.out _).mono ?_;rintro e wx ⟨rfl,hbx⟩;have HBX:=hd0 hbx;clear hbx;go_wp2;go_meet;exact⟨hd0 rfl,hd0 ⟨HB.out.mono HBX.out,QAA HBX.out c0,QAA HBX.out c1⟩⟩
       case rest=>
        clear HB c0 c1 o0 o1 f0 f1 hskip;go_upto_region 12 with fail;obtain⟨h78,HB⟩:=hcut;have h78:=h78.out;subst h78;have c0:=HB.out.2.1;have c1:=HB.out.2.2
        go_wp2_with fail
        refine QEQ 8 (by kernel_rfl) (by kernel_rfl) ?_;simp only[List.take_succ_cons,List.take_zero,List.drop_succ_cons,List.drop_zero]
        iterate 7 still_step
        still_call (HBEG.out _)
        refine wpStill_nil ?_
        go_wp2_with fail
        refine(HLON.out ps _ hp0 hp1).mono ?_;rintro e wy ⟨rfl,hby⟩;have hbz:Below wc.heap.size wc wy:=(QED (Below.refl wc.heap.size wc)).trans (hby.mono (Nat.le_refl _));have hbest:=HB.out.1.mono hbz;have d0:=QAA hbz c0;have d1:=QAA hbz c1;have hnt:=HNT.out;unfold QAv at hnt;rw[if_neg (by simp only[HA.out,Bool.not_true,Bool.or_false];exact HSK.out)]at hnt;clear hby hbz HB c0 c1 HNT HALL HA HSK HPD;generalize QE2 ps.data.toList s.data.toList=n at*;generalize QAn nm s.data.toList k=r at*;obtain⟨m1,m2⟩:=r;have o0:=hbest.o0;have o1:=hbest.o1;have f0:=hbest.f0;have f1:=hbest.f1;simp only at o0 o1 hnt;have HBE:=hd0 hbest;clear hbest
        by_cases hgt:m2<n
        ·
         have e1:decide ((m2:Int)<n)=true:=decide_eq_true (by omega);have e1n:decide (m2<n)=true:=decide_eq_true hgt;have hn2:QAn nm s.data.toList (k+1)=(kk,n):=by rw[hnt,if_pos (by simp[hgt])]
         have HN:=hd0 hn2;clear hn2 hnt hgt
         go_wp2_with fail
         go_quiet (fail)
         go_wp2_with fail
         refine⟨⟨k+1,by omega,by go_num,hd0 (by rw[HN.out];exact HBE.out.put kk n _)⟩,by simp[intOf];omega⟩
        ·
         have e1:decide ((m2:Int)<n)=false:=decide_eq_false (by omega);have e1n:decide (m2<n)=false:=decide_eq_false hgt
         by_cases heq:n=m2∧kk<m1
         ·
          have e2:((n:Int)==m2)=true:=by rw[beq_iff_eq];omega
          have e3:decide ((kk:Int)<m1)=true:=decide_eq_true (by omega);have e3n:decide (kk<m1)=true:=decide_eq_true heq.2;have hn2:QAn nm s.data.toList (k+1)=(kk,n):=by rw[hnt,if_pos (by simp[heq.1,heq.2])]
          have HN:=hd0 hn2;clear hn2 hnt hgt heq
          go_wp2_with fail
          go_quiet (fail)
          go_wp2_with fail
          refine⟨⟨k+1,by omega,by go_num,hd0 (by rw[HN.out];exact HBE.out.put kk n _)⟩,by simp[intOf];omega⟩
         ·
          have hn2:QAn nm s.data.toList (k+1)=(m1,m2):=by
           rw[hnt,if_neg];simp only[Bool.or_eq_true,Bool.and_eq_true,decide_eq_true_eq,beq_iff_eq];omega
          have HN:=hd0 hn2
          by_cases hnm2:n=m2
          ·
           have e2:((n:Int)==m2)=true:=by rw[beq_iff_eq];omega
           have e3:decide ((kk:Int)<m1)=false:=decide_eq_false (by omega);have e3n:decide (kk<m1)=false:=decide_eq_false (by omega);clear hn2 hnt hgt heq hnm2
           go_wp2_with fail
           go_quiet (fail)
           go_wp2_with fail
           refine⟨⟨k+1,by omega,by go_num,hd0 (by rw[HN.out];exact HBE.out.mono (QAB (Below.refl _ _) _))⟩,by simp[intOf];omega⟩
          ·
           have e2:((n:Int)==m2)=false:=by rw[beq_eq_false_iff_ne];omega
           clear hn2 hnt hgt heq hnm2
           go_wp2_with fail
           go_quiet (fail)
           go_wp2_with fail
           refine⟨⟨k+1,by omega,by go_num,hd0 (by rw[HN.out];exact HBE.out.mono (QAB (Below.refl _ _) _))⟩,by simp[intOf];omega⟩
    ·
     have hd2:decide ((k:Int)<36)=false:=decide_eq_false (by omega);have hk36:k=36:=by omega
     subst hk36;have hs9:=HB.out.below.size
     go_wp2_with fail
     refine(HSG.out _ (by omega)).mono ?_;rintro e wy ⟨hby,sb,sc,rfl,hst⟩;have HB2:=hd0 (And.intro (HB.out.mono hby) hst);clear hby hst HB hs9
     go_wp2_with fail
     go_loopw [14] (fun v14 wr2=>∃i:Nat,i≤26∧(nm=true→i=0)∧v14= .int .i64 i∧Hid (BestAt w wr2 rb ob (QCg s.data.toList (QAn nm s.data.toList 36) i)∧TabS wr2 sb signsT)) (fun v14 _=>26 - (intOf v14).toNat)
     case atStart=>exact⟨0,Nat.zero_le _,fun _=>rfl,rfl,HB2⟩
     case round=>
      clear HB2;obtain⟨i,hi,hi0,rfl,HS⟩:=hrel
      cases nm with
      |true=>
       have hi0:=hi0 rfl;subst hi0;have o0:=HS.out.1.o0;have o1:=HS.out.1.o1;have z0:=HS.out.1.z0;have z1:=HS.out.1.z1;have y0:=HS.out.1.y0;have y1:=HS.out.1.y1;have hbb:QBF s.data.toList=QCg s.data.toList (QAn true s.data.toList 36) 0:=by unfold QBF;rw[HNM.out];rfl
       have HBB:=hd0 hbb;clear hbb;go_wp2;refine bodyPost_ret (v:= .agg #[.int .i64 (QCg s.data.toList (QAn true s.data.toList 36) 0).1,.int .i64 (QCg s.data.toList (QAn true s.data.toList 36) 0).2]) (by simp[results,results225,go_sem, *]) rfl ⟨by rw[HBB.out],(HS.out.1.below.setCell (p:=⟨w.heap.size,0,none⟩) (Nat.le_refl _) _).setCell (p:=⟨w.heap.size,1,none⟩) (Nat.le_refl _) _⟩
      |false=>
       have o0:=HS.out.1.o0;have o1:=HS.out.1.o1
       by_cases hlt3:i<26
       ·
        obtain⟨tl,hr,ht0,ht1⟩:=QO5 i hlt3;obtain⟨ts,c0,htd⟩:=HS.out.2.at_ i tl hr;have hnt:=QLL s.data.toList (QAn false s.data.toList 36) i tl hr;rw[←htd]at hnt ht0 ht1;rw[QAE]at ht0 ht1;have hd3:decide ((i:Int)<26)=true:=decide_eq_true (by omega);have hi0':(0:Int)≤i:=by omega
        have hi1:(i:Int)<26:=by omega
        have f0:=HS.out.1.f0;have f1:=HS.out.1.f1;clear hi0 hr htd;generalize hsg:QCg s.data.toList (QAn false s.data.toList 36) i=r at*;obtain⟨m1,m2⟩:=r;simp only at o0 o1;unfold QBh at hnt;rw[QAE,QAE]at hnt
        by_cases hgt:m2<ts.size
        ·
         have e1:decide ((m2:Int)<ts.size)=true:=decide_eq_true (by omega);have e1n:decide (m2<ts.size)=true:=decide_eq_true hgt
         by_cases hle:ts.size≤s.size
         ·
          have e2:decide ((ts.size:Int)≤s.size)=true:=decide_eq_true (by omega);have e2n:decide (ts.size≤s.size)=true:=decide_eq_true hle;have e3:(ts.size:Int)≤s.size:=by omega
          have e4:(0:Int)≤ts.size:=by omega
          have hex:(s.extract 0 ts.size).data.toList=s.data.toList.take ts.size:=by rw[ByteArray.data_extract,Array.toList_extract];simp[List.extract]
          cases heq:(s.data.toList.take ts.size==ts.data.toList)with
          |true=>
           have hq:((s.extract 0 ts.size).toList==ts.toList)=true:=by rw[Lib.toList_data,Lib.toList_data,hex];exact heq
           rw[if_pos (by simp[hgt,hle,heq])]at hnt;have HN:=hd0 hnt;clear hnt hgt hle heq hex hsg
           go_wp2_with fail
           go_quiet (fail)
           go_wp2_with fail
           refine⟨⟨i+1,by omega,fun h=>(by cases h),by go_num,hd0 ⟨by rw[HN.out];exact HS.out.1.put 5 ts.size _,HS.out.2.put HS.out.1 ⟨_,rfl⟩ _ _ _⟩⟩,by simp[intOf];omega⟩
          |false=>
           have hq:((s.extract 0 ts.size).toList==ts.toList)=false:=by rw[Lib.toList_data,Lib.toList_data,hex];exact heq
           rw[if_neg (by simp[heq])]at hnt;have HN:=hd0 hnt;clear hnt hgt hle heq hex hsg
           go_wp2_with fail
           go_quiet (fail)
           go_wp2_with fail
           refine⟨⟨i+1,by omega,fun h=>(by cases h),by go_num,hd0 ⟨by rw[HN.out];exact HS.out.1.mono (QAB (Below.refl _ _) _),HS.out.2.below (QAB (Below.refl _ _) _)⟩⟩,by simp[intOf];omega⟩
         ·
          have e2:decide ((ts.size:Int)≤s.size)=false:=decide_eq_false (by omega);have e2n:decide (ts.size≤s.size)=false:=decide_eq_false hle;rw[if_neg (by simp[hle])]at hnt;have HN:=hd0 hnt;clear hnt hgt hle hsg
          go_wp2_with fail
          go_quiet (fail)
          go_wp2_with fail
          refine⟨⟨i+1,by omega,fun h=>(by cases h),by go_num,hd0 ⟨by rw[HN.out];exact HS.out.1.mono (QAB (Below.refl _ _) _),HS.out.2.below (QAB (Below.refl _ _) _)⟩⟩,by simp[intOf];omega⟩
        ·
         have e1:decide ((m2:Int)<ts.size)=false:=decide_eq_false (by omega);have e1n:decide (m2<ts.size)=false:=decide_eq_false hgt;rw[if_neg (by simp[hgt])]at hnt;have HN:=hd0 hnt;clear hnt hgt hsg
         go_wp2_with fail
         go_quiet (fail)
         go_wp2_with fail
         refine⟨⟨i+1,by omega,fun h=>(by cases h),by go_num,hd0 ⟨by rw[HN.out];exact HS.out.1.mono (QAB (Below.refl _ _) _),HS.out.2.below (QAB (Below.refl _ _) _)⟩⟩,by simp[intOf];omega⟩
       ·
        have hi26:i=26:=by omega
        subst hi26;have e0:decide ((26:Int)<26)=false:=rfl;have z0:=HS.out.1.z0;have z1:=HS.out.1.z1;have y0:=HS.out.1.y0;have y1:=HS.out.1.y1;have hbb:QBF s.data.toList=QCg s.data.toList (QAn false s.data.toList 36) 26:=by unfold QBF;rw[HNM.out];rfl
        have HBB:=hd0 hbb;clear hbb hi0;go_wp2;refine bodyPost_ret (v:= .agg #[.int .i64 (QCg s.data.toList (QAn false s.data.toList 36) 26).1,.int .i64 (QCg s.data.toList (QAn false s.data.toList 36) 26).2]) (by simp[results,results225,go_sem, *]) rfl ⟨by rw[HBB.out],(HS.out.1.below.setCell (p:=⟨w.heap.size,0,none⟩) (Nat.le_refl _) _).setCell (p:=⟨w.heap.size,1,none⟩) (Nat.le_refl _) _⟩
end Go.Proofs.YtjnclkakbopnjaaGreatDoor
