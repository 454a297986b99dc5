/- XRefC -/
import Derived.Test.YtjnclkakbopnjaaGreatDoorLot09
import Derived.Deep.OwnRows
set_option linter.unusedSimpArgs false
set_option linter.unusedVariables false
set_option maxRecDepth 100000
set_option maxHeartbeats 4000000
namespace Go.Proofs.YtjnclkakbopnjaaGreatDoor
open Go.Proofs.Tryz
open Go.RowKit Go.Proofs.YtjnclkakbopnjaaGreatDoorW.PrintLast
theorem QT2:(prog.info? 4).map (fun i=>(i.zero,i.size,i.bytes))=some (some (.bool false),1,1):=by kernel_rfl
theorem QN9(n:Nat)(hn:n≤1000000)(w:World):(Instr.makeSlice 174 (.int .i64 ((n:Int)+1)) (.int .i64 ((n:Int)+1))).run prog w= .ok (.slice (some ⟨w.heap.size,0,none⟩) (n+1) (n+1)) (w.alloc (.cells (madeCells #[.bool false] (n+1)) 4)):=
 run_make_row' 174 4 (.bool false) 1 underlying174 QT2 rfl .i64 .i64 (n+1) (by omega) (by omega) w
theorem QPr(n j:Nat)(hj:j<n):(madeCells #[.bool false] n)[j]?=some (.bool false):=by
 have h:=toList_madeCells_one (.bool false) n;have:(madeCells #[.bool false] n)[j]?=(List.replicate n (Value.bool false))[j]?:=by rw[←h];simp
 rw[this,List.getElem?_replicate,if_pos hj]
theorem QFp(w:World)(n:Nat):Bits (w.alloc (.cells (madeCells #[.bool false] n) 4)) w.heap.size n fun _=>false:=by
 refine⟨fun j hj=>?_,fun o=>by simp[go_sem],by simp⟩;rw[World.cell?_alloc_new,QPr n j hj]
theorem QCl(p:ByteArray)(k:Nat)(h:k<p.size):(p[k].toNat:Int)=byt p.data.toList k:=by
 rw[←QNH p k h];unfold bt;rw[dif_pos (by simpa using h)];simp
theorem QJp {P:Program}{f:FuncId}{args:Array Value}{w:World}{m n:Nat}{v:Value}
  (h:Calls P f args (w.drewN (m+n)) fun e w'=>e= .returned v∧∃k,w'=(w.drewN (m+n)).drewN k):Calls P f args (w.drewN (m+n)) fun e w''=>e= .returned v∧∃k,w''=w.drewN (m+k):=
 h.mono fun _ _ ⟨he,k,hk⟩=>⟨he,n+k,by rw[hk,World.drewN_drewN,Nat.add_assoc]⟩
theorem QGg(l:List UInt8)(star:Bool)(c:Nat)(A:Nat→Bool):QJz l star c A 0=(star&&A 0):=by cases star <;> rfl
theorem QGf(l:List UInt8)(star:Bool)(c:Nat)(A:Nat→Bool)(j:Nat):QJz l star c A (j+1)=if star then A (j+1)||(QJz l star c A j&&QCG c (byt l j)) else A j&&QCG c (byt l j):=by cases star <;> rfl
theorem QH0 {w:World}{tb n i:Nat}{V:Nat→Bool}(h:Bits w tb n fun j=>decide (j<i)&&V j)(hi:i<n)(hv:V i=true):Bits (w.setCell ⟨tb,i,none⟩ (.bool true)) tb n fun j=>decide (j<i+1)&&V j:=
 h.set hi (by simp[hv]) fun j hj=>by
  have:decide (j<i+1)=decide (j<i):=by rw[decide_eq_decide];omega
  rw[this]
theorem QCs {w:World}{tb n i:Nat}{V:Nat→Bool}(h:Bits w tb n fun j=>decide (j<i)&&V j)(hv:V i=false):Bits w tb n fun j=>decide (j<i+1)&&V j:=
 h.congr fun j _=>by
  by_cases hj:j=i
  ·
   subst hj;simp[hv]
  ·
   have:decide (j<i+1)=decide (j<i):=by rw[decide_eq_decide];omega
   rw[this]
theorem Bits.drewN {w:World}{b n:Nat}{A:Nat→Bool}(h:Bits w b n A)(m:Nat):Bits (w.drewN m) b n A:=⟨h.at_,h.free,h.lt⟩
theorem QOz(l p:List UInt8)(k:Nat)(hk:k<p.length)(A:Nat→Bool)(star:Bool)(hs:star=(decide (k+1<p.length)&&(byt p (k+1)==42))):
  QEU l (p.drop k) A=QEU l (p.drop (if star then k+2 else k+1)) (QJz l star (byt p k) A):=by
 have h1:p.drop k=p[k]::p.drop (k+1):=List.drop_eq_getElem_cons hk;have hb:byt p k=p[k].toNat:=by unfold byt;simp only[List.getD_eq_getElem?_getD,List.getElem?_eq_getElem hk,Option.getD_some]
 rw[h1,hb]
 by_cases h2:k+1<p.length
 ·
  have h3:p.drop (k+1)=p[k+1]::p.drop (k+2):=List.drop_eq_getElem_cons h2;have hb2:byt p (k+1)=p[k+1].toNat:=by unfold byt;simp only[List.getD_eq_getElem?_getD,List.getElem?_eq_getElem h2,Option.getD_some]
  by_cases h4:p[k+1]=42
  ·
   have:star=true:=by rw[hs,hb2,h4];simp[h2]
   subst this;rw[h3,QEU,if_pos h4];rfl
  ·
   have h5:¬p[k+1].toNat=42:=fun e=>h4 (UInt8.toNat_inj.1 (by rw[e];rfl))
   have:star=false:=by rw[hs,hb2];simp[h5]
   subst this;rw[h3,QEU,if_neg h4,←h3];rfl
 ·
  have h3:p.drop (k+1)= []:=List.drop_of_length_le (by omega);have:star=false:=by rw[hs];simp[h2]
  subst this;rw[h3,QEU];show _=QEU l (p.drop (k+1)) _;rw[h3,QEU];rfl
theorem QB6(c b:Nat)(hb:b<256)(w:World):Calls prog 227 #[.int .u8 c,.int .u8 b] w fun e w'=>e= .returned (.bool (QCG c b))∧∃n,w'=w.drewN n:=
 QML c b hb w
theorem QFf(p s:ByteArray)(w:World)(hp:0<p.size)(hp2:p.size≤1000)(hs:s.size≤1000000):
  Calls prog 263 #[.string p,.string s] w fun e w'=>e= .returned (.int .i64 (QDW p.data.toList s.data.toList))∧Below w.heap.size w w':=by
 have hmk:=QN9 s.size hs
 by_cases h0:s.size=0
 ·
  have hl:QDW p.data.toList s.data.toList=0:=by
   unfold QDW;rw[if_pos (List.length_eq_zero_iff.1 (by rw[QAE];exact h0))]
  have e0:((s.size:Int)==0)=true:=by rw[beq_iff_eq];omega
  have HL:=hd0 hl;clear hl h0 hmk;go_enter func263,ntmps263
  go_wp2_with fail
  go_quiet (fail)
  go_wp2;go_ret;exact⟨QAO (by rw[HL.out];rfl),QAB (Below.refl _ _) _⟩
 ·
  have e0:((s.size:Int)==0)=false:=by rw[beq_eq_false_iff_ne];omega
  have hs0:0<s.size:=by omega
  have hls:s.data.toList≠ []:=by intro h;have:=QAE s;rw[h]at this;simp at this;omega
  have hb1:=QNH s 0 hs0;have hmem:=QB6 (byt p.data.toList 0) (byt s.data.toList 0) (QJB _ _)
  have hpb:(p[0].toNat:Int)=byt p.data.toList 0:=by
   have:=QNH p 0 hp;rw[←this];unfold bt;rw[dif_pos (by simpa using hp)];simp
  have hsb:(s[0].toNat:Int)=byt s.data.toList 0:=by
   have:=QNH s 0 hs0;rw[←this];unfold bt;rw[dif_pos (by simpa using hs0)];simp
  rw[←hpb,←hsb]at hmem
  cases hm:QCG (byt p.data.toList 0) (byt s.data.toList 0)with
  |false=>
   have hl:QDW p.data.toList s.data.toList=0:=by unfold QDW;rw[if_neg hls,if_pos hm]
   rw[hm]at hmem;have HM:=hd0 hmem;have HL:=hd0 hl;clear hl h0 hmk hm hmem hpb hsb hb1 hls;go_enter func263,ntmps263
   go_wp2_with fail
   go_quiet ((exact Calls.quiet_of (HM.out _)))
   go_wp2;go_ret;exact⟨QAO (by rw[HL.out];rfl),QAB (Below.refl _ _) _⟩
  |true=>
   have hl:QDW p.data.toList s.data.toList=QEh (QEU s.data.toList p.data.toList fun i=>i==0) s.size:=by
    unfold QDW;rw[if_neg hls,if_neg (by rw[hm];simp),QAE]
   rw[hm]at hmem;have HM:=hd0 hmem;have HL:=hd0 hl;clear hl h0 hm hmem hpb hsb hb1 hls;have hmod:(0:Int)≤s.size:=by omega
   have hN1:∀n,((w.drewN n).alloc (.cells (madeCells #[.bool false] (s.size+1)) 4)).cell? ⟨w.heap.size,0,none⟩=some (.bool false):=fun n=>(QFp (w.drewN n) (s.size+1)).at_ 0 (by omega)
   have hN2:∀n,((w.drewN n).alloc (.cells (madeCells #[.bool false] (s.size+1)) 4)).frozen? ⟨w.heap.size,0,none⟩=false:=fun n=>(QFp (w.drewN n) (s.size+1)).free 0
   go_enter func263,ntmps263
   go_wp2_with fail
   go_quiet ((exact Calls.quiet_of (HM.out _)))
   go_wp2_with fail
   have hb0:Bits (((w.drewN nq).alloc (.cells (madeCells #[.bool false] (s.size+1)) 4)).setCell ⟨w.heap.size,0,none⟩ (.bool true)) w.heap.size (s.size+1) fun i=>i==0:=
    (QFp (w.drewN nq) (s.size+1)).set (by omega) rfl fun j hj=>by simp[hj]
   have hbw:Below w.heap.size w (((w.drewN nq).alloc (.cells (madeCells #[.bool false] (s.size+1)) 4)).setCell ⟨w.heap.size,0,none⟩ (.bool true)):=
    ((QAB (Below.refl _ _) nq).alloc (Nat.le_refl _) _).setCell (p:=⟨w.heap.size,0,none⟩) (Nat.le_refl _) _
   clear hN1 hN2;generalize (((w.drewN nq).alloc (.cells (madeCells #[.bool false] (s.size+1)) 4)).setCell ⟨w.heap.size,0,none⟩ (.bool true))=w1 at*;generalize hF:QEU s.data.toList p.data.toList (fun i=>i==0)=F at*;have HB0:=hd0 hb0;have HBW:=hd0 hbw;have HF:=hd0 hF;clear hb0 hbw hF
   go_loopw [5,6] (fun v5 v6 wr=>∃(k ab:Nat) (A:Nat→Bool),k≤p.size∧v6= .int .i64 k∧v5= .slice (some ⟨ab,0,none⟩) (s.size+1) (s.size+1)∧Hid (Bits wr ab (s.size+1) A∧w.heap.size≤ab∧Below w.heap.size w wr∧QEU s.data.toList (p.data.toList.drop k) A=F)) (fun _ v6 _=>p.size - (intOf v6).toNat)
   case atStart=>exact⟨0,w.heap.size,_,Nat.zero_le _,rfl,rfl,hd0 ⟨HB0.out,Nat.le_refl _,HBW.out,HF.out⟩⟩
   case round=>
    clear HB0 HBW HF;obtain⟨k,ab,A,hk,rfl,rfl,HR⟩:=hrel
    by_cases hlt:k<p.size
    ·
     have hd:decide ((k:Int)<p.size)=true:=by simp;omega
     obtain⟨star,hstar⟩:∃star,star=(decide (k+1<p.size)&&(byt p.data.toList (k+1)==42)):=⟨_,rfl⟩;have hrun:=QOz s.data.toList p.data.toList k (by rw[QAE];omega) A star (by rw[QAE];exact hstar);have hk1:IntKind.i64.wrap ((k:Int)+1)=((k+1:Nat):Int):=IntWalk.i64_in _ (by omega);have HRUN:=hd0 hrun;have HSTAR:=hd0 hstar;clear hrun hstar;go_upto_region 8 with fail
     go_cut [7] (fun s7 wx=>Hid (s7= .bool star)∧wx=wr)
     case first=>
      by_cases h1:k+1<p.size
      ·
       have e1:decide (((k+1:Nat):Int)<p.size)=true:=decide_eq_true (by omega);have e2:(0:Int)≤((k+1:Nat):Int):=by omega
       have e3:((k+1:Nat):Int)<p.size:=by omega
       have hq:(p[k+1].toNat:Int)=byt p.data.toList (k+1):=by
        have hb1:=QNH p (k+1) h1;rw[←hb1];unfold bt;rw[dif_pos (by simpa using h1)];simp
       cases h4:(byt p.data.toList (k+1)==42)with
       |true=>
        have hq2:((p[k+1].toNat:Int)==42)=true:=by rw[hq,beq_iff_eq];have:=beq_iff_eq.1 h4;omega
        clear hq;have hst:star=true:=by rw[HSTAR.out,h4];simp[h1]
        have HST:=hd0 hst;clear hst h4;go_wp2;go_meet;exact⟨hd0 (by rw[HST.out]),rfl⟩
       |false=>
        have hq2:((p[k+1].toNat:Int)==42)=false:=by rw[hq,beq_eq_false_iff_ne];have:=beq_eq_false_iff_ne.1 h4;omega
        clear hq;have hst:star=false:=by rw[HSTAR.out,h4];simp
        have HST:=hd0 hst;clear hst h4;go_wp2;go_meet;exact⟨hd0 (by rw[HST.out]),rfl⟩
      ·
       have e1:decide (((k+1:Nat):Int)<p.size)=false:=decide_eq_false (by omega);have hst:star=false:=by rw[HSTAR.out];simp[h1]
       have HST:=hd0 hst;clear hst;go_wp2;go_meet;exact⟨hd0 (by rw[HST.out]),rfl⟩
     case rest=>
      go_upto_region 9 with fail;obtain⟨hs7,rfl⟩:=hcut;have hs7:=hs7.out;subst hs7
      go_wp2_with fail
      obtain⟨tb,htb⟩:∃tb,tb=wc.heap.size:=⟨_,rfl⟩;have hbt:Bits (wc.alloc (.cells (madeCells #[.bool false] (s.size+1)) 4)) wc.heap.size (s.size+1) fun j=>decide (j<0)&&QJz s.data.toList star (byt p.data.toList k) A j:=(QFp wc (s.size+1)).congr fun j _=>by simp
      have hba:Bits (wc.alloc (.cells (madeCells #[.bool false] (s.size+1)) 4)) ab (s.size+1) A:=HR.out.1.below ((Below.refl _ _).alloc (Nat.le_refl _) _);have hbw:Below w.heap.size w (wc.alloc (.cells (madeCells #[.bool false] (s.size+1)) 4)):=HR.out.2.2.1.alloc HR.out.2.2.1.size _;have hne:ab≠tb:=by have:=HR.out.1.lt;omega
      have hle:w.heap.size≤tb:=by have:=HR.out.2.2.1.size;omega
      have hF2:=HRUN.out.symm.trans HR.out.2.2.2;rw[←htb]at hbt;simp only[←htb];have HB:=hd0 (And.intro hba (And.intro hbt hbw));have HF2:=hd0 hF2;have HLE:=hd0 hle;have HNE:=hd0 hne;clear hba hbt hbw hF2 HR HRUN htb hle hne;generalize (wc.alloc (.cells (madeCells #[.bool false] (s.size+1)) 4))=w4 at*
      go_loopw [9] (fun v9 wr2=>∃i:Nat,i≤s.size+1∧v9= .int .i64 i∧Hid (Bits wr2 ab (s.size+1) A∧Bits wr2 tb (s.size+1) (fun j=>decide (j<i)&&QJz s.data.toList star (byt p.data.toList k) A j)∧Below w.heap.size w wr2)) (fun v9 _=>s.size+1 - (intOf v9).toNat)
      case atStart=>exact⟨0,Nat.zero_le _,rfl,HB⟩
      case round=>
       clear HB;obtain⟨i,hi,rfl,HJ⟩:=hrel
       by_cases hlt2:i≤s.size
       ·
        have hd2:decide ((i:Int)≤s.size)=true:=decide_eq_true (by omega);have hi0:(0:Int)≤i:=by omega
        have hi1:(i:Int)<s.size+1:=by omega
        have hnext:IntKind.i64.wrap ((i:Int)+1)=((i+1:Nat):Int):=IntWalk.i64_in _ (by omega);have hct:wr.cell? ⟨tb,i,none⟩=some (.bool false):=by have:=HJ.out.2.1.at_ i (by omega);simpa using this
        have hft:=HJ.out.2.1.free i
        cases star with
        |true=>
         have hca:=HJ.out.1.at_ i (by omega)
         cases hA:A i with
         |true=>
          rw[hA]at hca;have hv:QJz s.data.toList true (byt p.data.toList k) A i=true:=by cases i with|zero=>rw[QGg,hA];rfl|succ i=>rw[QGf,hA];rfl
          clear hA;have HV:=hd0 hv;clear hv
          go_wp2_with fail
          go_quiet (fail)
          go_wp2_with fail
          go_quiet (fail)
          go_wp2;refine⟨⟨i+1,by omega,by go_num,hd0 ⟨((HJ.out.1.drewN _).other _ HNE.out).drewN _,(QH0 (HJ.out.2.1.drewN _) (by omega) HV.out).drewN _,QAB (Below.setCell (p:=⟨tb,i,none⟩) (QAB HJ.out.2.2 _) HLE.out _) _⟩⟩,by simp[intOf];omega⟩
         |false=>
          rw[hA]at hca
          by_cases hi00:i=0
          ·
           have hv:QJz s.data.toList true (byt p.data.toList k) A i=false:=by rw[hi00]at hA ⊢;rw[QGg,hA];rfl
           have hgt:decide ((0:Int)<i)=false:=decide_eq_false (by omega);have hgn:decide (0<i)=false:=decide_eq_false (by omega);clear hi00;clear hA;have HV:=hd0 hv;clear hv
           go_wp2_with fail
           go_quiet (fail)
           go_wp2_with fail
           go_quiet (fail)
           go_wp2;refine⟨⟨i+1,by omega,by go_num,hd0 ⟨HJ.out.1.drewN _,QCs (HJ.out.2.1.drewN _) HV.out,QAB HJ.out.2.2 _⟩⟩,by simp[intOf];omega⟩
          ·
           have hi01:0<i:=by omega
           obtain⟨j,hij⟩:∃j,i=j+1:=⟨i - 1,by omega⟩;clear hi00;have hgt:decide ((0:Int)<i)=true:=decide_eq_true (by omega);have hw:IntKind.i64.wrap ((i:Int) - 1)=(j:Int):=by rw[IntWalk.i64_in _ (by omega)];omega
           have hj0:(0:Int)≤j:=by omega
           have hj1:(j:Int)<s.size:=by omega
           have hj2:(j:Int)<s.size+1:=by omega
           have hk0:(0:Int)≤k:=by omega
           have hk2:(k:Int)<p.size:=by omega
           have hcj:=HJ.out.2.1.at_ j (by omega);have hjl:decide (j<i)=true:=decide_eq_true (by omega);simp only[hjl,Bool.true_and]at hcj;clear hjl;have hv0:=QGf s.data.toList true (byt p.data.toList k) A j;rw[←hij,hA,if_pos rfl,Bool.false_or]at hv0;clear hA
           cases hV:QJz s.data.toList true (byt p.data.toList k) A j with
           |false=>
            rw[hV]at hcj hv0;have hv:QJz s.data.toList true (byt p.data.toList k) A i=false:=hv0;clear hV hv0 hij;have HV:=hd0 hv;clear hv
            go_wp2_with fail
            go_quiet (fail)
            go_wp2_with fail
            go_quiet (fail)
            go_wp2;refine⟨⟨i+1,by omega,by go_num,hd0 ⟨HJ.out.1.drewN _,QCs (HJ.out.2.1.drewN _) HV.out,QAB HJ.out.2.2 _⟩⟩,by simp[intOf];omega⟩
           |true=>
            rw[hV,Bool.true_and]at hv0;rw[hV]at hcj;have hm2:=QB6 (byt p.data.toList k) (byt s.data.toList j) (QJB _ _);have hj3:j<s.size:=by omega
            rw[←QCl p k hlt,←QCl s j hj3]at hm2
            cases hmm:QCG (byt p.data.toList k) (byt s.data.toList j)with
            |true=>
             rw[hmm]at hm2 hv0;have hv:QJz s.data.toList true (byt p.data.toList k) A i=true:=hv0;have HM2:=hd0 hm2;clear hV hv0 hij hmm hm2;have HV:=hd0 hv;clear hv
             go_wp2_with fail
             go_quiet ((exact Calls.quiet_of (HM2.out _)))
             go_wp2_with fail
             go_quiet (fail)
             go_wp2;refine⟨⟨i+1,by omega,by go_num,hd0 ⟨((HJ.out.1.drewN _).other _ HNE.out).drewN _,(QH0 (HJ.out.2.1.drewN _) (by omega) HV.out).drewN _,QAB (Below.setCell (p:=⟨tb,i,none⟩) (QAB HJ.out.2.2 _) HLE.out _) _⟩⟩,by simp[intOf];omega⟩
            |false=>
             rw[hmm]at hm2 hv0;have hv:QJz s.data.toList true (byt p.data.toList k) A i=false:=hv0;have HM2:=hd0 hm2;clear hV hv0 hij hmm hm2;have HV:=hd0 hv;clear hv
             go_wp2_with fail
             go_quiet ((exact Calls.quiet_of (HM2.out _)))
             go_wp2_with fail
             go_quiet (fail)
             go_wp2;refine⟨⟨i+1,by omega,by go_num,hd0 ⟨HJ.out.1.drewN _,QCs (HJ.out.2.1.drewN _) HV.out,QAB HJ.out.2.2 _⟩⟩,by simp[intOf];omega⟩
        |false=>
         by_cases hi00:i=0
         ·
          have hv:QJz s.data.toList false (byt p.data.toList k) A i=false:=by rw[hi00,QGg];rfl
          have hgt:decide ((0:Int)<i)=false:=decide_eq_false (by omega);have hgn:decide (0<i)=false:=decide_eq_false (by omega);clear hi00;have HV:=hd0 hv;clear hv
          go_wp2_with fail
          go_quiet (fail)
          go_wp2_with fail
          go_quiet (fail)
          go_wp2;refine⟨⟨i+1,by omega,by go_num,hd0 ⟨HJ.out.1.drewN _,QCs (HJ.out.2.1.drewN _) HV.out,QAB HJ.out.2.2 _⟩⟩,by simp[intOf];omega⟩
         ·
          have hi01:0<i:=by omega
          obtain⟨j,hij⟩:∃j,i=j+1:=⟨i - 1,by omega⟩;clear hi00;have hgt:decide ((0:Int)<i)=true:=decide_eq_true (by omega);have hw:IntKind.i64.wrap ((i:Int) - 1)=(j:Int):=by rw[IntWalk.i64_in _ (by omega)];omega
          have hj0:(0:Int)≤j:=by omega
          have hj1:(j:Int)<s.size:=by omega
          have hj2:(j:Int)<s.size+1:=by omega
          have hk0:(0:Int)≤k:=by omega
          have hk2:(k:Int)<p.size:=by omega
          have hcj:=HJ.out.1.at_ j (by omega);have hv0:=QGf s.data.toList false (byt p.data.toList k) A j;rw[←hij,if_neg Bool.false_ne_true]at hv0
          cases hV:A j with
          |false=>
           rw[hV]at hcj hv0;have hv:QJz s.data.toList false (byt p.data.toList k) A i=false:=hv0;clear hV hv0 hij;have HV:=hd0 hv;clear hv
           go_wp2_with fail
           go_quiet (fail)
           go_wp2_with fail
           go_quiet (fail)
           go_wp2;refine⟨⟨i+1,by omega,by go_num,hd0 ⟨HJ.out.1.drewN _,QCs (HJ.out.2.1.drewN _) HV.out,QAB HJ.out.2.2 _⟩⟩,by simp[intOf];omega⟩
          |true=>
           rw[hV,Bool.true_and]at hv0;rw[hV]at hcj;have hm2:=QB6 (byt p.data.toList k) (byt s.data.toList j) (QJB _ _);have hj3:j<s.size:=by omega
           rw[←QCl p k hlt,←QCl s j hj3]at hm2
           cases hmm:QCG (byt p.data.toList k) (byt s.data.toList j)with
           |true=>
            rw[hmm]at hm2 hv0;have hv:QJz s.data.toList false (byt p.data.toList k) A i=true:=hv0;have HM2:=hd0 hm2;clear hV hv0 hij hmm hm2;have HV:=hd0 hv;clear hv
            go_wp2_with fail
            go_quiet (fail)
            go_wp2_with fail
            go_quiet ((exact QJp (HM2.out _)))
            go_wp2;refine⟨⟨i+1,by omega,by go_num,hd0 ⟨(HJ.out.1.drewN _).other _ HNE.out,QH0 (HJ.out.2.1.drewN _) (by omega) HV.out,Below.setCell (p:=⟨tb,i,none⟩) (QAB HJ.out.2.2 _) HLE.out _⟩⟩,by simp[intOf];omega⟩
           |false=>
            rw[hmm]at hm2 hv0;have hv:QJz s.data.toList false (byt p.data.toList k) A i=false:=hv0;have HM2:=hd0 hm2;clear hV hv0 hij hmm hm2;have HV:=hd0 hv;clear hv
            go_wp2_with fail
            go_quiet (fail)
            go_wp2_with fail
            go_quiet ((exact QJp (HM2.out _)))
            go_wp2;refine⟨⟨i+1,by omega,by go_num,hd0 ⟨HJ.out.1.drewN _,QCs (HJ.out.2.1.drewN _) HV.out,QAB HJ.out.2.2 _⟩⟩,by simp[intOf];omega⟩
       ·
        have hd2:decide ((i:Int)≤s.size)=false:=decide_eq_false (by omega);have hie:i=s.size+1:=by omega
        have hbt:Bits wr tb (s.size+1) (QJz s.data.toList star (byt p.data.toList k) A):=HJ.out.2.1.congr fun j hj=>by rw[hie];simp[hj]
        have HBt:=hd0 hbt;have HBw:=hd0 HJ.out.2.2;clear hbt hie HJ
        cases star with
        |true=>
         have h2:k+1<p.size:=by
          have:=HSTAR.out.symm;simp at this;exact this.1
         have hk2:IntKind.i64.wrap (((k+1:Nat):Int)+1)=((k+2:Nat):Int):=IntWalk.i64_in _ (by omega);go_wp2;refine⟨⟨k+2,tb,_,by omega,by go_num,rfl,hd0 ⟨HBt.out,HLE.out,HBw.out,HF2.out⟩⟩,by simp[intOf];omega⟩
        |false=>
         go_wp2;refine⟨⟨k+1,tb,_,by omega,by go_num,rfl,hd0 ⟨HBt.out,HLE.out,HBw.out,HF2.out⟩⟩,by simp[intOf];omega⟩
    ·
     have hd:decide ((k:Int)<p.size)=false:=by simp;omega
     have hAF:A=F:=by
      have:=HR.out.2.2.2;rw[List.drop_of_length_le (by rw[QAE];omega)]at this;exact this
     subst hAF;have HBt:=hd0 HR.out.1;have HBw:=hd0 HR.out.2.2.1;clear HR
     go_wp2_with fail
     go_loopw [10] (fun v10 wr2=>∃i:Nat,i≤s.size∧v10= .int .i64 i∧Hid (QEh A s.size=QEh A i)∧∃n,wr2=wr.drewN n) (fun v10 _=>(intOf v10).toNat)
     case atStart=>exact⟨s.size,Nat.le_refl _,rfl,hd0 rfl,0,rfl⟩
     case round=>
      obtain⟨i,hi,rfl,HLa,n,rfl⟩:=hrel
      cases i with
      |zero=>
       go_wp2;go_ret;exact⟨QAO (by rw[HL.out,HLa.out];rfl),QAB HBw.out n⟩
      |succ i=>
       have hi0:decide ((0:Int)<((i+1:Nat):Int))=true:=decide_eq_true (by omega);have hi1:(0:Int)≤((i+1:Nat):Int):=by omega
       have hi2:((i+1:Nat):Int)<(s.size:Int)+1:=by omega
       have hcl:=HBt.out.at_ (i+1) (by omega);have hla:QEh A (i+1)=if A (i+1) then i+1 else QEh A i:=rfl
       cases ha:A (i+1)with
       |true=>
        rw[ha]at hcl hla;have HA:=hd0 hla;clear hla ha;go_wp2;go_ret;exact⟨QAO (by rw[HL.out,HLa.out,HA.out];rfl),QAB HBw.out n⟩
       |false=>
        rw[ha]at hcl hla;have HA:=hd0 hla;clear hla ha;go_wp2;go_roundw
        case rel=>exact⟨i,by omega,by go_num,hd0 (HLa.out.trans HA.out),n,rfl⟩
        case measure=>simp[intOf]
end Go.Proofs.YtjnclkakbopnjaaGreatDoor
