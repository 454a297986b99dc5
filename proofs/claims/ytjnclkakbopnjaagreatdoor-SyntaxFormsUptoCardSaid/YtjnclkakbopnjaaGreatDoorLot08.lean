/- XLexX, XLexY, XLexZ -/
import Derived.Test.YtjnclkakbopnjaaGreatDoorLot07
import Derived.OwnWalk
import Derived.IntWalk
set_option linter.unusedSimpArgs false
set_option linter.unusedVariables false
set_option maxRecDepth 100000
set_option maxHeartbeats 4000000
namespace Go.Proofs.YtjnclkakbopnjaaGreatDoor
open Go.Proofs.Tryz
open Go.RowKit
theorem QIF(s:ByteArray)(a n:Nat):(s.extract a (a+n)).data.toList=(s.data.toList.drop a).take n:=by
 have:=QFt s a n
 rwa[Lib.toList_data]at this
theorem QSB(b:ByteArray)(l:List UInt8)(h:b.data.toList=l):b=⟨⟨l⟩⟩:=by subst h;rfl
structure TkAt(w1 wr wx:World)(l:List UInt8)(x:Pc)(tb:Nat):Prop where
 low:Below wr.heap.size wr wx
 c0:wx.cell? ⟨tb,0,none⟩=some (.int .i64 (QC3 l x).kind)
 c1:wx.cell? ⟨tb,1,none⟩=some (.int .i64 (QC3 l x).num)
 c2:wx.cell? ⟨tb,2,none⟩=some (.string ⟨⟨(QC3 l x).text⟩⟩)
 c3:wx.cell? ⟨tb,3,none⟩=some (.int .i64 (QC3 l x).at_)
 c4:wx.cell? ⟨tb,4,none⟩=some (.int .i64 0)
theorem QOF(a b:Nat)(h:a≠b):((a:Int) !=(b:Int))=true:=by rw[bne_iff_ne];omega
theorem QLt(s:ByteArray)(w:World)(hE:Env w)(hs:s.size≤maxLen)(h9:9≤w.heap.size):Calls prog 75 #[.string s] w (QQ4 s w):=by
 have hp:=hd0 (QMR s w hE hs h9);unfold maxLen at hs;obtain⟨i0,hi,hz0,hz1,hz2⟩:=info_parts QTU
 by_cases hbig:20000<s.size
 ·
  go_enter func75,ntmps75
  go_wp2_with fail
  refine hp.out.mono ?_;rintro e w1 ⟨hb,he⟩;rw[if_pos hbig]at he;subst he;have HB:=hd0 hb;clear hb;go_wp2;exact bodyPost_ret (v:= .tuple #[.slice none 0 0,.int .i64 0,.int .i64 2]) (by simp[results,results75,go_sem]) rfl ⟨HB.out,by rw[if_pos hbig]⟩
 ·
  cases hpc:(QAV s.data.toList).2 with
  |some q=>
   obtain⟨p,er⟩:=q;have her:=QOF er 0 (QHZ hpc);have HP:=hd0 hpc;clear hpc;go_enter func75,ntmps75
   go_wp2_with fail
   refine hp.out.mono ?_;rintro e w1 ⟨hb,he⟩;rw[if_neg hbig,HP.out]at he;simp only at he;subst he;have HB:=hd0 hb;clear hb;go_wp2;exact bodyPost_ret (v:= .tuple #[.slice none 0 0,.int .i64 p,.int .i64 er]) (by simp[results,results75,go_sem]) rfl ⟨HB.out,by rw[if_neg hbig,HP.out]⟩
  |none=>
   have HP:=hd0 hpc;clear hpc;go_enter func75,ntmps75
   go_wp2_with fail
   refine hp.out.mono ?_;rintro e w1 ⟨hb,he⟩;rw[if_neg hbig,HP.out]at he;simp only at he;obtain⟨v,rfl,hown⟩:=he;have hE1:=hd0 (hE.below hb);have HB:=hd0 hb;have hpl:=QK3 s.data.toList;rw[QAE]at hpl;have HIN:=hd0 (QMQ s.data.toList);generalize hps:(QAV s.data.toList).1=ps at*;have HPS:=hd0 hps;have HO:=hd0 hown;have hb1:=hb.size;clear hb hE hps;rcases hown.2 with ⟨rfl,hn⟩|⟨g,cap,cur,rfl,hg0,hgb,hcap,_⟩
   ·
    have hps0:ps= []:=List.length_eq_zero_iff.1 hn;subst hps0;clear hown
    go_wp2_with fail
    go_loopw [8,24] (fun v8 v24 wr=>v8= .slice none 0 0∧v24= .int .i64 0∧wr=w1) (fun _ v24 _=>0)
    case atStart=>exact⟨rfl,rfl,rfl⟩
    case round=>
     obtain⟨rfl,rfl,rfl⟩:=hrel;go_wp2;refine bodyPost_ret (v:= .tuple #[.slice none 0 0,.int .i64 0,.int .i64 0]) (by simp[results,results75,go_sem]) rfl ⟨HB.out,?_⟩;rw[if_neg hbig,HP.out];refine⟨_,rfl,?_⟩;rw[HPS.out];exact World.ownsRow_nil _ _ _ _
   ·
    clear hown
    go_wp2_with fail
    have hgl:g<w1.heap.size:=(Array.getElem?_eq_some_iff.1 hgb).1;clear hgb
    go_loopw [8,24] (fun v8 v24 wr=>∃k:Nat,k≤ps.length∧v24= .int .i64 k∧Hid (Below w1.heap.size w1 wr∧wr.ownsRow w1.heap.size 193 5 v8 (QBX s.data.toList (ps.take k)).length (QDC (QBX s.data.toList (ps.take k))))) (fun _ v24 _=>ps.length - (intOf v24).toNat)
    case atStart=>exact⟨0,Nat.zero_le _,rfl,hd0 ⟨Below.refl _ _,World.ownsRow_nil _ _ _ _⟩⟩
    case round=>
     obtain⟨k,hk,rfl,HR⟩:=hrel
     by_cases hlt:k<ps.length
     ·
      have hd:decide ((k:Int)<ps.length)=true:=by simp;omega
      obtain⟨x,hx⟩:∃x,ps[k]?=some x:=⟨_,List.getElem?_eq_getElem hlt⟩;have hxi:=HIN.out x (List.mem_of_getElem? hx);rw[QAE]at hxi;have hbw:=HR.out.1;have hbs:=hbw.size
      have hcell:∀j u,(QDb ps)[j]?=some u→wr.cell? ⟨g,j,none⟩=some u:=fun j u h=>by
       have h:=QAA hbw (HO.out.cells rfl j u h);have e:(⟨g,0,none⟩:Addr).add j=⟨g,j,none⟩:=by unfold Addr.add;split <;> simp_all
       rw[←e];exact h
      obtain⟨r0,r1,r2⟩:=QOo hx;have p0:=hcell _ _ r0;have p1:=hcell _ _ r1;have p2:=hcell _ _ r2;clear hcell r0 r1 r2 hbw;have hk0:(0:Int)≤k:=by omega
      have hk1:(k:Int)<ps.length:=by omega
      have HX:=hd0 hx;clear hx;have hgr:g<wr.heap.size:=by omega
      have hgr':g≠wr.heap.size:=by omega
      by_cases hk6:x.kind≤6
      ·
       have d6:decide ((6:Int)<x.kind)=false:=decide_eq_false (by omega);have q1:(0:Int)≤x.at_:=by omega
       have q2:(x.at_:Int)≤x.at_+x.len:=by omega
       have q3:(x.at_:Int)+x.len≤s.size:=by omega
       go_wp2_with fail
       have w1e:IntKind.i64.wrap ((x.at_:Int)+x.len)=(x.at_:Int)+x.len:=IntWalk.i64_in _ (by omega);have w2e:((x.at_:Int)+x.len).toNat=x.at_+x.len:=by omega
       have w3e:(0:Int)≤(x.at_:Int)+x.len:=by omega
       go_region
       clear w1e w2e w3e
       go_upto_if 47 with fail
       go_cut [] (fun wx=>Hid (TkAt w1 wr wx s.data.toList x (wr.heap.size+1)))
       case first=>
        have hxt:=QIF s x.at_ x.len;have hEr:=hd0 (hE1.out.below HR.out.1);have htx:s.extract x.at_ (x.at_+x.len)=⟨⟨(s.data.toList.drop x.at_).take x.len⟩⟩:=QSB _ _ hxt
        have htsz:(s.extract x.at_ (x.at_+x.len)).size≤1000000:=by
         rw[←QAE,hxt,List.length_take,List.length_drop,QAE];omega
        have hv:=fun w (h:Env w)=>QGo (s.extract x.at_ (x.at_+x.len)) w htsz h
        rw[hxt]at hv;have HV:=hd0 hv;have HT:=hd0 htx;clear hv hxt htx htsz
        by_cases h2:x.kind=2
        ·
         have e2:((x.kind:Int)==2)=true:=beq_iff_eq.2 (by omega);have hnum:(QC3 s.data.toList x).num=(QBi ((s.data.toList.drop x.at_).take x.len)).1:=by unfold QC3;simp only;rw[if_pos h2]
         have HN:=hd0 hnum;clear hnum
         go_wp2_with fail
         refine(HV.out _ (hEr.out.below (QAB (((Below.refl _ _).alloc (Nat.le_refl _) _).alloc (by simp) _) 1))).mono ?_;rintro e w3 ⟨rfl,hb3⟩;have hk2:((x.kind:Nat):Int)=2:=by omega
         have t0:w3.cell? ⟨wr.heap.size+1,0,none⟩=some (.int .i64 2):=QAA hb3 (by simp[go_sem]);have t1:w3.cell? ⟨wr.heap.size+1,1,none⟩=some (.int .i64 0):=QAA hb3 (by simp[go_sem]);have t2:w3.cell? ⟨wr.heap.size+1,2,none⟩=some (.string (s.extract x.at_ (x.at_+x.len))):=QAA hb3 (by simp[go_sem]);have t3:w3.cell? ⟨wr.heap.size+1,3,none⟩=some (.int .i64 x.at_):=QAA hb3 (by simp[go_sem]);have t4:w3.cell? ⟨wr.heap.size+1,4,none⟩=some (.int .i64 0):=QAA hb3 (by simp[go_sem]);have f1:w3.frozen? ⟨wr.heap.size+1,1,none⟩=false:=(hb3.frozen (p:=⟨wr.heap.size+1,1,none⟩) (by simp[World.drew])).trans (by simp[go_sem]);have hlow:Below wr.heap.size wr w3:=(QAB (((Below.refl wr.heap.size wr).alloc (Nat.le_refl _) _).alloc (by simp) _) 1).trans (hb3.mono (by simp[World.drew];omega));have HL:=hd0 hlow;clear hlow hb3;have HK2:=hd0 hk2;clear hk2
         go_wp2_with fail
         go_meet;refine hd0 ⟨HL.out.setCell (p:=⟨wr.heap.size+1,1,none⟩) (by simp) _,?_,?_,?_,?_,?_⟩
         ·
          simp[go_sem,t0,t1];exact HK2.out.symm
         ·
          simp[go_sem,t1];rw[HN.out]
         ·
          simp[go_sem,t2,t1];exact HT.out
         ·
          simp[go_sem,t3,t1];rfl
         ·
          simp[go_sem,t4,t1]
        ·
         have e2:((x.kind:Int)==2)=false:=beq_eq_false_iff_ne.2 (by omega);have hnum:(QC3 s.data.toList x).num=0:=by unfold QC3;simp only;rw[if_neg h2]
         have HN:=hd0 hnum;clear hnum
         go_wp2_with fail
         go_meet;refine hd0 ⟨QAB (((Below.refl _ _).alloc (Nat.le_refl _) _).alloc (by simp) _) 1,?_,?_,?_,?_,?_⟩
         ·
          simp[go_sem];rfl
         ·
          simp[go_sem];exact HN.out.symm
         ·
          simp[go_sem];exact HT.out
         ·
          simp[go_sem];rfl
         ·
          simp[go_sem]
       case rest=>
        have HT:=hcut;clear hcut;have c0:=HT.out.c0;have c1:=HT.out.c1;have c2:=HT.out.c2;have c3:=HT.out.c3;have c4:=HT.out.c4;have hlw:=HT.out.low.size
        have hlen:(QBX s.data.toList (ps.take k)).length≤20000:=by
         have h1:=QQJ s.data.toList (ps.take k);have h2:(ps.take k).length≤k:=List.length_take_le _ _;omega
        have hrow:=HR.out.2.kept (QDJ HT.out.low) (by cases u8.ownBlock <;> simp);have HBC:=hd0 (HR.out.1.trans (HT.out.low.mono hbs))
        have hsnoc:QBX s.data.toList (ps.take (k+1))=QBX s.data.toList (ps.take k)++ [QC3 s.data.toList x]:=by
         rw[List.take_add_one,HX.out];exact QIr _ _ _ hk6
        have HSN:=hd0 hsnoc;clear hsnoc;generalize hN:(QBX s.data.toList (ps.take k)).length=N at*;have HN:=hd0 hN;clear hN;generalize hK:(QC3 s.data.toList x).kind=tk at*;generalize hM:(QC3 s.data.toList x).num=tn at*;generalize hT:(QC3 s.data.toList x).text=tx at*;generalize hA:(QC3 s.data.toList x).at_=ta at*;have HE:=hd0 (show QH9 (QC3 s.data.toList x)= [.int .i64 tk,.int .i64 tn,.string ⟨⟨tx⟩⟩,.int .i64 ta,.int .i64 0] by unfold QH9;rw[hK,hM,hT,hA]);clear hK hM hT hA;have hN1:N+1≤maxLen:=by unfold maxLen;omega
        go_wp2_with (at_builtin;refine wpList_append_own _ rfl _ _ 53 rfl w1.heap.size 193 i0 _ 5 48 underlying53 hi hz0 hz1 hz2 rfl (by decide) u8 N _ rfl (hrow.alloc _) ⟨wc.heap.size,0,none⟩ 1 1 [.int .i64 tk,.int .i64 tn,.string ⟨⟨tx⟩⟩,.int .i64 ta,.int .i64 0] rfl rfl (by intro j u hj;match j,hj with|0,hj=>(simp at hj;subst hj;simp[Addr.add])|1,hj=>(simp at hj;subst hj;simp[Addr.add])|2,hj=>(simp at hj;subst hj;simp[Addr.add])|3,hj=>(simp at hj;subst hj;simp[Addr.add])|4,hj=>(simp at hj;subst hj;simp[Addr.add])|j+5,hj=>simp at hj) (by simp[Value.oneCell']) (by omega) (by omega) (by simp;omega) ?_;intro v' w5 hown' hgrow _)
        have hfin:Below w1.heap.size w1 w5:=(HBC.out.alloc (by omega) _).grown hgrow (by simp;omega) fun j ej=>((hrow.alloc (.cells #[.int .i64 tk,.int .i64 tn,.string ⟨⟨tx⟩⟩,.int .i64 ta,.int .i64 0] 193)).lt j ej).1
        have HF:=hd0 (show Below w1.heap.size w1 w5∧w5.ownsRow w1.heap.size 193 5 v' (QBX s.data.toList (ps.take (k+1))).length (QDC (QBX s.data.toList (ps.take (k+1))))from⟨hfin,by rw[HSN.out,QMe,HE.out,List.length_append,HN.out];exact hown'⟩);clear hfin hown' hgrow hrow;go_roundw
        case rel=>exact⟨k+1,by omega,by go_num,HF⟩
        case measure=>simp[intOf];omega
      ·
       have d6:decide ((6:Int)<x.kind)=true:=decide_eq_true (by omega)
       have hsnoc:QBX s.data.toList (ps.take (k+1))=QBX s.data.toList (ps.take k):=by
        rw[List.take_add_one,HX.out];exact QHA _ _ _ hk6
       have HF:=hd0 (show Below w1.heap.size w1 (wr.alloc (.cells #[.int .i64 x.kind,.int .i64 x.at_,.int .i64 x.len] 191))∧(wr.alloc (.cells #[.int .i64 x.kind,.int .i64 x.at_,.int .i64 x.len] 191)).ownsRow w1.heap.size 193 5 u8 (QBX s.data.toList (ps.take (k+1))).length (QDC (QBX s.data.toList (ps.take (k+1))))from⟨HR.out.1.alloc hbs _,by rw[hsnoc];exact HR.out.2.alloc _⟩);clear hsnoc;go_wp2;go_roundw
       case rel=>exact⟨k+1,by omega,by go_num,HF⟩
       case measure=>simp[intOf];omega
     ·
      have hd:decide ((k:Int)<ps.length)=false:=by simp;omega
      have hek:k=ps.length:=by omega
      subst hek;rw[List.take_length]at HR;go_wp2;refine bodyPost_ret (v:= .tuple #[u8,.int .i64 0,.int .i64 0]) (by simp[results,results75,go_sem]) rfl ⟨QAF HB.out HR.out.1,?_⟩;rw[if_neg hbig,HP.out];refine⟨_,rfl,?_⟩;rw[HPS.out];exact QDZ HR.out.2 hb1
def QBQ(l:List UInt8):Option Tk:=
 if 20000<l.length then none else
 match (QAV l).2 with
 |some _=>none
 |none=>match QBX l (QAV l).1 with
  | [t]=>if t.text=l then some t else none
  |_=>none
def QBb(l:List UInt8):Nat:=match QBQ l with
 |some t=>t.kind
 |none=>0
def tkV(t:Option Tk):Value:=match t with
 |some t=> .agg ⟨QH9 t⟩
 |none=> .agg #[.int .i64 0,.int .i64 0,.string ⟨#[]⟩,.int .i64 0,.int .i64 0]
def QM8(l:List UInt8)(w:World)(e:Ending)(w':World):Prop:=e= .returned (.tuple #[tkV (QBQ l),.bool (QBQ l).isSome])∧Below w.heap.size w w'
theorem QE1 {w w1:World}(hb:Below (w.alloc (.cells #[.int .i64 0,.int .i64 0,.string ⟨#[]⟩,.int .i64 0,.int .i64 0] 193)).heap.size (w.alloc (.cells #[.int .i64 0,.int .i64 0,.string ⟨#[]⟩,.int .i64 0,.int .i64 0] 193)) w1):
  (∀o,w1.frozen? ⟨w.heap.size,o,none⟩=false)∧w1.cell? ⟨w.heap.size,0,none⟩=some (.int .i64 0)∧w1.cell? ⟨w.heap.size,1,none⟩=some (.int .i64 0)∧w1.cell? ⟨w.heap.size,2,none⟩=some (.string ⟨#[]⟩)∧
  w1.cell? ⟨w.heap.size,3,none⟩=some (.int .i64 0)∧w1.cell? ⟨w.heap.size,4,none⟩=some (.int .i64 0)∧w.heap.size<w1.heap.size:=
 ⟨fun o=>(hb.frozen (p:=⟨w.heap.size,o,none⟩) (by simp)).trans (by simp[go_sem]),QAA hb (by simp[go_sem]),QAA hb (by simp[go_sem]),QAA hb (by simp[go_sem]),QAA hb (by simp[go_sem]),QAA hb (by simp[go_sem]),by have:=hb.size;simp at this;omega⟩
theorem QCL {w w1:World}(h:Below w.heap.size w w1)(a b c d e:Value):Below w.heap.size w (((((w1.setCell ⟨w.heap.size,0,none⟩ a).setCell ⟨w.heap.size,1,none⟩ b).setCell ⟨w.heap.size,2,none⟩ c).setCell ⟨w.heap.size,3,none⟩ d).setCell ⟨w.heap.size,4,none⟩ e):=
 ((((h.setCell (p:=⟨w.heap.size,0,none⟩) (Nat.le_refl _) _).setCell (p:=⟨w.heap.size,1,none⟩) (Nat.le_refl _) _).setCell (p:=⟨w.heap.size,2,none⟩) (Nat.le_refl _) _).setCell (p:=⟨w.heap.size,3,none⟩) (Nat.le_refl _) _).setCell (p:=⟨w.heap.size,4,none⟩) (Nat.le_refl _) _
theorem QHi(s:ByteArray)(w:World)(hE:Env w)(hs:s.size≤maxLen)(h9:9≤w.heap.size):Calls prog 170 #[.string s] w (QM8 s.data.toList w):=by
 have hp:=fun w (h:Env w) h9=>QLt s w h hs h9
 have HP:=hd0 hp;clear hp;unfold maxLen at hs;have HE:=hd0 hE;have hsz:=QAE s;have HZ:=hd0 hsz;clear hE hsz
 by_cases hbig:20000<s.size
 ·
  have hsi:QBQ s.data.toList=none:=by unfold QBQ;rw[if_pos (by rw[HZ.out];exact hbig)]
  have HS:=hd0 hsi;clear hsi;go_enter func170,ntmps170
  go_wp2_with fail
  refine(HP.out _ (HE.out.below ((Below.refl _ _).alloc (Nat.le_refl _) _)) (by simp;omega)).mono ?_;rintro e w1 ⟨hb,he⟩;rw[if_pos hbig]at he;subst he;have HB:=hd0 (QAF ((Below.refl _ _).alloc (Nat.le_refl _) _) hb);obtain⟨f0,t0,t1,t2,t3,t4,hsz1⟩:=QE1 hb;clear hb;go_wp2
  all_goals refine bodyPost_ret (v:= .tuple #[.agg #[.int .i64 0,.int .i64 0,.string ⟨#[]⟩,.int .i64 0,.int .i64 0],.bool false]) (by simp[results,results170,go_sem, *]) rfl ⟨by rw[HS.out];rfl,QCL HB.out _ _ _ _ _⟩
 ·
  cases hpc:(QAV s.data.toList).2 with
  |some q=>
   obtain⟨p,er⟩:=q;have hsi:QBQ s.data.toList=none:=by unfold QBQ;rw[if_neg (by rw[HZ.out];exact hbig),hpc]
   have HS:=hd0 hsi;have her:=QOF er 0 (QHZ hpc);have HPC:=hd0 hpc;clear hsi hpc;go_enter func170,ntmps170
   go_wp2_with fail
   refine(HP.out _ (HE.out.below ((Below.refl _ _).alloc (Nat.le_refl _) _)) (by simp;omega)).mono ?_;rintro e w1 ⟨hb,he⟩;rw[if_neg hbig,HPC.out]at he;simp only at he;subst he;have HB:=hd0 (QAF ((Below.refl _ _).alloc (Nat.le_refl _) _) hb);obtain⟨f0,t0,t1,t2,t3,t4,hsz1⟩:=QE1 hb;clear hb;go_wp2
   all_goals refine bodyPost_ret (v:= .tuple #[.agg #[.int .i64 0,.int .i64 0,.string ⟨#[]⟩,.int .i64 0,.int .i64 0],.bool false]) (by simp[results,results170,go_sem, *]) rfl ⟨by rw[HS.out];rfl,QCL HB.out _ _ _ _ _⟩
  |none=>
   have hsi:QBQ s.data.toList=(match QBX s.data.toList (QAV s.data.toList).1 with| [t]=>if t.text=s.data.toList then some t else none|_=>none):=by unfold QBQ;rw[if_neg (by rw[HZ.out];exact hbig),hpc]
   have HPC:=hd0 hpc;clear hpc;generalize hts:QBX s.data.toList (QAV s.data.toList).1=ts at hsi;have HTS:=hd0 hts;clear hts
   match ts,hsi,HTS with
   | [],hsi,HTS=>
    simp only at hsi;have HS:=hd0 hsi;clear hsi;go_enter func170,ntmps170
    go_wp2_with fail
    refine(HP.out _ (HE.out.below ((Below.refl _ _).alloc (Nat.le_refl _) _)) (by simp;omega)).mono ?_;rintro e w1 ⟨hb,he⟩;rw[if_neg hbig,HPC.out,HTS.out]at he;simp only at he;obtain⟨v,rfl,hown⟩:=he;have HB:=hd0 (QAF ((Below.refl _ _).alloc (Nat.le_refl _) _) hb);obtain⟨f0,t0,t1,t2,t3,t4,hsz1⟩:=QE1 hb;clear hb;rcases hown.2 with ⟨rfl, -⟩|⟨g,cap,cur,rfl, -, -, -⟩
    all_goals
     clear hown;go_wp2
     all_goals refine bodyPost_ret (v:= .tuple #[.agg #[.int .i64 0,.int .i64 0,.string ⟨#[]⟩,.int .i64 0,.int .i64 0],.bool false]) (by simp[results,results170,go_sem, *]) rfl ⟨by rw[HS.out];rfl,QCL HB.out _ _ _ _ _⟩
   |ta::tb::r,hsi,HTS=>
    simp only at hsi;have HS:=hd0 hsi;clear hsi;go_enter func170,ntmps170
    go_wp2_with fail
    refine(HP.out _ (HE.out.below ((Below.refl _ _).alloc (Nat.le_refl _) _)) (by simp;omega)).mono ?_;rintro e w1 ⟨hb,he⟩;rw[if_neg hbig,HPC.out,HTS.out]at he;simp only at he;obtain⟨v,rfl,hown⟩:=he;have HB:=hd0 (QAF ((Below.refl _ _).alloc (Nat.le_refl _) _) hb);obtain⟨f0,t0,t1,t2,t3,t4,hsz1⟩:=QE1 hb;clear hb;rcases hown.2 with ⟨-,hn⟩|⟨g,cap,cur,rfl, -, -, -⟩
    ·
     simp at hn
    ·
     clear hown;generalize hN:(ta::tb::r).length=N at*;have hN2:2≤N:=by rw[←hN];simp
     clear hN;have hln:((N:Int) !=1)=true:=by rw[bne_iff_ne];omega
     go_wp2
     all_goals refine bodyPost_ret (v:= .tuple #[.agg #[.int .i64 0,.int .i64 0,.string ⟨#[]⟩,.int .i64 0,.int .i64 0],.bool false]) (by simp[results,results170,go_sem, *]) rfl ⟨by rw[HS.out];rfl,QCL HB.out _ _ _ _ _⟩
   | [t],hsi,HTS=>
    simp only at hsi;have HS:=hd0 hsi;clear hsi;go_enter func170,ntmps170
    go_wp2_with fail
    refine(HP.out _ (HE.out.below ((Below.refl _ _).alloc (Nat.le_refl _) _)) (by simp;omega)).mono ?_;rintro e w1 ⟨hb,he⟩;rw[if_neg hbig,HPC.out,HTS.out]at he;simp only at he;obtain⟨v,rfl,hown⟩:=he;have HB:=hd0 (QAF ((Below.refl _ _).alloc (Nat.le_refl _) _) hb);obtain⟨f0,t0,t1,t2,t3,t4,hsz1⟩:=QE1 hb;clear hb;rcases hown.2 with ⟨-,hn⟩|⟨g,cap,cur,rfl,hg0, -, -⟩
    ·
     simp at hn
    ·
     have hcell:∀j u,(QH9 t)[j]?=some u→w1.cell? ⟨g,j,none⟩=some u:=fun j u h=>by
      have h:=hown.cells rfl j u (by simpa[QDC]using h);have e:(⟨g,0,none⟩:Addr).add j=⟨g,j,none⟩:=by unfold Addr.add;split <;> simp_all
      rw[←e];exact h
     have r0:=hcell 0 _ rfl;have r1:=hcell 1 _ rfl;have r2:=hcell 2 _ rfl;have r3:=hcell 3 _ rfl;have r4:=hcell 4 _ rfl;have hgw:g≠w.heap.size:=by simp at hg0;omega
     clear hcell hown;simp only[List.length_cons,List.length_nil,Nat.zero_add]
     by_cases ht:t.text=s.data.toList
     ·
      have htb:(t.text==s.toList)=true:=by rw[Lib.toList_data];exact beq_iff_eq.2 ht
      rw[if_pos ht]at HS;have HT:=hd0 ht;clear ht;go_wp2
      all_goals refine bodyPost_ret (v:= .tuple #[.agg #[.int .i64 t.kind,.int .i64 t.num,.string ⟨⟨t.text⟩⟩,.int .i64 t.at_,.int .i64 0],.bool true]) (by simp[results,results170,go_sem, *]) rfl ⟨by rw[HS.out];rfl,QCL HB.out _ _ _ _ _⟩
     ·
      have htb:(t.text==s.toList)=false:=by rw[Lib.toList_data];exact beq_eq_false_iff_ne.2 ht
      rw[if_neg ht]at HS;have HT:=hd0 ht;clear ht;go_wp2
      all_goals refine bodyPost_ret (v:= .tuple #[.agg #[.int .i64 0,.int .i64 0,.string ⟨#[]⟩,.int .i64 0,.int .i64 0],.bool false]) (by simp[results,results170,go_sem, *]) rfl ⟨by rw[HS.out];rfl,QCL HB.out _ _ _ _ _⟩
theorem QPF(o:Option Tk):∃t:Tk,tkV o= .agg #[.int .i64 t.kind,.int .i64 t.num,.string ⟨⟨t.text⟩⟩,.int .i64 t.at_,.int .i64 0]∧(∀x,o=some x→t=x)∧(o=none→t=⟨0,0, [],0⟩):=by
 cases o with
 |some t=>exact⟨t,rfl,(fun x h=>by injection h),(fun h=>by cases h)⟩
 |none=>exact⟨⟨0,0, [],0⟩,rfl,(fun x h=>by cases h),fun _=>rfl⟩
theorem QIO(s:ByteArray)(w:World)(hE:Env w)(hs:s.size≤maxLen)(h9:9≤w.heap.size):Calls prog 96 #[.string s] w fun e w'=>e= .returned (.int .i64 (QBb s.data.toList))∧Below w.heap.size w w':=by
 have HP:=hd0 (QHi s w hE hs h9);clear hE hs h9;obtain⟨t,ht1,ht2,ht3⟩:=QPF (QBQ s.data.toList)
 have hk:QBb s.data.toList=t.kind:=by
  unfold QBb
  cases h:QBQ s.data.toList with
  |some x=>rw[ht2 x h]
  |none=>rw[ht3 h]
 have HK:=hd0 hk;have HT:=hd0 ht1;clear hk ht1 ht2 ht3;go_enter func96,ntmps96
 go_wp2_with fail
 refine HP.out.mono ?_;rintro e w1 ⟨rfl,hb⟩;rw[HT.out];have HB:=hd0 hb;clear hb;go_wp2;go_ret;exact⟨QAO (by rw[HK.out]),HB.out.alloc HB.out.size _⟩
theorem QDo(s:ByteArray)(w:World)(hE:Env w)(hs:s.size≤maxLen)(h9:9≤w.heap.size):Calls prog 51 #[.string s] w fun e w'=>e= .returned (.bool (QBb s.data.toList==1))∧Below w.heap.size w w':=by
 have HP:=hd0 (QIO s w hE hs h9);clear hE hs h9;have he:=QDV (QBb s.data.toList) 1;have HE:=hd0 he;clear he;go_enter func51,ntmps51
 go_wp2_with fail
 refine HP.out.mono ?_;rintro e w1 ⟨rfl,hb⟩;have HB:=hd0 hb;clear hb;go_wp2;go_ret;exact⟨congrArg (fun b=>Ending.returned (.bool b)) HE.out,HB.out⟩
def QNO(k n:Int)(l:List UInt8)(a m:Int):Bool:=match QBQ l with
 |some t=>decide (k=t.kind∧n=t.num∧0≤a∧0≤m)
 |none=>false
def QQ2(b:Bool):Int:=if b=true then 0 else 14
theorem QNQ(k n a m:Int)(s:ByteArray)(w:World)(hE:Env w)(hs:s.size≤maxLen)(h9:9≤w.heap.size):
  Calls prog 190 #[.agg #[.int .i64 k,.int .i64 n,.string s,.int .i64 a,.int .i64 m]] w fun e w'=>e= .returned (.int .i64 (QQ2 (QNO k n s.data.toList a m)))∧Below w.heap.size w w':=by
 have HP:=hd0 (fun w (h:Env w) h9=>QHi s w h hs h9);have HE:=hd0 hE;clear hE hs;have hc:QNO k n s.data.toList a m=(match QBQ s.data.toList with|some t=>decide (k=t.kind∧n=t.num∧0≤a∧0≤m)|none=>false):=rfl
 cases hs:QBQ s.data.toList with
 |none=>
  rw[hs]at hc;have HS:=hd0 hs;have HC:=hd0 hc;clear hs hc;go_enter func190,ntmps190
  go_wp2_with fail
  refine(HP.out _ (HE.out.below ((Below.refl _ _).alloc (Nat.le_refl _) _)) (by simp;omega)).mono ?_;rintro e w1 ⟨rfl,hb⟩;rw[HS.out];have HB:=hd0 (QAF ((Below.refl _ _).alloc (Nat.le_refl _) _) hb);clear hb;simp only[tkV,Option.isSome];go_wp2;go_ret;exact⟨QAO (by rw[HC.out];rfl),HB.out.alloc HB.out.size _⟩
 |some t=>
  rw[hs]at hc;have HS:=hd0 hs;have HC:=hd0 hc;clear hs hc;go_enter func190,ntmps190
  go_wp2_with fail
  refine(HP.out _ (HE.out.below ((Below.refl _ _).alloc (Nat.le_refl _) _)) (by simp;omega)).mono ?_;rintro e w1 ⟨rfl,hb⟩;rw[HS.out];have HB:=hd0 (QAF ((Below.refl _ _).alloc (Nat.le_refl _) _) hb);have t0:w1.cell? ⟨w.heap.size,0,none⟩=some (.int .i64 k):=QAA hb (by simp[go_sem]);have t1:w1.cell? ⟨w.heap.size,1,none⟩=some (.int .i64 n):=QAA hb (by simp[go_sem]);have t3:w1.cell? ⟨w.heap.size,3,none⟩=some (.int .i64 a):=QAA hb (by simp[go_sem]);have t4:w1.cell? ⟨w.heap.size,4,none⟩=some (.int .i64 m):=QAA hb (by simp[go_sem]);have hsz:w.heap.size<w1.heap.size:=by have:=hb.size;simp at this;omega
  clear hb;simp only[tkV,Option.isSome,QH9]
  by_cases c1:k=t.kind
  ·
   by_cases c2:n=t.num
   ·
    by_cases c3:0≤a
    ·
     by_cases c4:0≤m
     ·
      have b1:(k !=(t.kind:Int))=false:=by rw[bne_eq_false_iff_eq];exact c1
      have b2:(n !=t.num)=false:=by rw[bne_eq_false_iff_eq];exact c2
      have b3:decide (a<0)=false:=by simp;omega
      have b4:decide (m<0)=false:=by simp;omega
      have HH:=hd0 (show decide (k=t.kind∧n=t.num∧0≤a∧0≤m)=true from decide_eq_true ⟨c1,c2,c3,c4⟩);clear c1 c2;go_wp2;go_ret;exact⟨QAO (by rw[HC.out,HH.out];rfl),HB.out.alloc HB.out.size _⟩
     ·
      have b1:(k !=(t.kind:Int))=false:=by rw[bne_eq_false_iff_eq];exact c1
      have b2:(n !=t.num)=false:=by rw[bne_eq_false_iff_eq];exact c2
      have b3:decide (a<0)=false:=by simp;omega
      have b4:decide (m<0)=true:=by simp;omega
      have HH:=hd0 (show decide (k=t.kind∧n=t.num∧0≤a∧0≤m)=false from decide_eq_false fun h=>c4 h.2.2.2);clear c1 c2 c4;go_wp2;go_ret;exact⟨QAO (by rw[HC.out,HH.out];rfl),HB.out.alloc HB.out.size _⟩
    ·
     have b1:(k !=(t.kind:Int))=false:=by rw[bne_eq_false_iff_eq];exact c1
     have b2:(n !=t.num)=false:=by rw[bne_eq_false_iff_eq];exact c2
     have b3:decide (a<0)=true:=by simp;omega
     have HH:=hd0 (show decide (k=t.kind∧n=t.num∧0≤a∧0≤m)=false from decide_eq_false fun h=>c3 h.2.2.1);clear c1 c2 c3;go_wp2;go_ret;exact⟨QAO (by rw[HC.out,HH.out];rfl),HB.out.alloc HB.out.size _⟩
   ·
    have b1:(k !=(t.kind:Int))=false:=by rw[bne_eq_false_iff_eq];exact c1
    have b2:(n !=t.num)=true:=by rw[bne_iff_ne];exact c2
    have HH:=hd0 (show decide (k=t.kind∧n=t.num∧0≤a∧0≤m)=false from decide_eq_false fun h=>c2 h.2.1);clear c1 c2;go_wp2;go_ret;exact⟨QAO (by rw[HC.out,HH.out];rfl),HB.out.alloc HB.out.size _⟩
  ·
   have b1:(k !=(t.kind:Int))=true:=by rw[bne_iff_ne];exact c1
   have HH:=hd0 (show decide (k=t.kind∧n=t.num∧0≤a∧0≤m)=false from decide_eq_false fun h=>c1 h.1);clear c1;go_wp2;go_ret;exact⟨QAO (by rw[HC.out,HH.out];rfl),HB.out.alloc HB.out.size _⟩
theorem QMP(s:ByteArray)(w:World)(hs:s.size≤1000000)(hE:Env w):
  Calls prog 132 #[.string s] w fun e w'=>e= .returned (.tuple #[.int .i64 (if(QBi s.data.toList).2=true then(QBi s.data.toList).1 else 0),.int .i64 (if(QBi s.data.toList).2=true then 0 else 11)])∧Below w.heap.size w w':=by
 have HP:=hd0 (QGo s w hs hE);clear hE;generalize QBi s.data.toList=v at*;obtain⟨n,b⟩:=v
 cases b
 all_goals
  go_enter func132,ntmps132
  go_wp2_with fail
  refine HP.out.mono ?_;rintro e w1 ⟨rfl,hb⟩;have HB:=hd0 hb;clear hb;go_wp2
  go_ret2
  exact⟨rfl,HB.out⟩
end Go.Proofs.YtjnclkakbopnjaaGreatDoor
