/- XRckD, XRckE, XRckH -/
import Derived.Test.YtjnclkakbopnjaaGreatDoorLot31
set_option linter.unusedSimpArgs false
set_option linter.unusedVariables false
set_option maxRecDepth 100000
set_option maxHeartbeats 8000000
namespace Go.Proofs.YtjnclkakbopnjaaGreatDoor
open Go.Proofs.Tryz
open Go.RowKit
theorem StrR.take {w:World}{n i:Nat}{p:Option Addr}{ks:Nat→ByteArray}(h:StrR w n p ks)(hi:i≤n):StrR w i p ks:=by
 obtain⟨hn,A,hA,hK⟩:=h;exact⟨Nat.le_trans hi hn,A,fun j hj=>hA j (by omega),fun j hj=>hK j (by omega)⟩
theorem QRJ(ks:Nat→ByteArray)(i:Nat):QKK ks i=QMK i ks (ks i):=by
 unfold QKK QMK
 congr 1
 funext j
 unfold QMu;rw[Lib.toList_data,Lib.toList_data]
theorem QIf {W:World}{n:Nat}{p:Option Addr}{ks:Nat→ByteArray}(h:StrR W n p ks)(w:World)(hW:Below W.heap.size W w)(c:Nat)(hc:n≤c):
  Calls prog 68 #[.slice p n c] w fun e w'=>e= .returned (.bool (QAk n ks))∧Below w.heap.size w w':=by
 have HX:=hd0 (fun(i:Nat) (hi:i≤n) (s:ByteArray) (w:World) (hW:Below W.heap.size W w)=>QDu (h.take hi) s w hW c);obtain⟨hn,A,hA,hK⟩:=h;have hn2:n≤1100000:=hn;have HA:=hd0 hA;have HK:=hd0 hK;have HW:=hd0 hW;clear hn hA hK hW;have HD:=hd0 (show QAk n ks=(List.range n).all fun i=>!QKK ks i from rfl);generalize hq:(fun i=>!QKK ks i)=q at HD;have HQ:=hd0 hq;clear hq;go_enter func68,ntmps68;go_wp2
 go_loopw [3] (fun v3 wr=>∃i:Nat,i≤n∧v3= .int .i64 i∧Hid ((List.range i).all q=true∧Below w.heap.size w wr)) (fun v3 _=>n - (intOf v3).toNat)
 case atStart=>exact⟨0,Nat.zero_le _,rfl,hd0 ⟨rfl,Below.refl _ _⟩⟩
 case round=>
  obtain⟨i,hi,rfl,HI⟩:=hrel
  by_cases hlt:i<n
  ·
   have g0:decide ((i:Int)<n)=true:=decide_eq_true (by omega);have g1:(0:Int)≤i:=by omega
   have g2:(i:Int)<n:=by omega
   have g3:(i:Int)≤c:=by omega
   obtain⟨pb,po,rfl,hpc⟩:=(HA.out.below (HW.out.trans (HI.out.2.mono HW.out.size))).at_ (by omega);have a0:=hpc i hlt 0 (by decide);rw[(HK.out i hlt).1]at a0;simp only[Nat.add_zero,Nat.mul_one]at a0;clear hpc;have HQI:=hd0 (show decide (0≤QEF i ks (ks i))=!q i by rw[←HQ.out];show _= !(!QKK ks i);rw[QIH,QRJ,Bool.not_not]);have HC:=hd0 (fun m=>HX.out i hi (ks i) (wr.drewN m) (HW.out.trans ((QAB HI.out.2 m).mono HW.out.size)))
   go_wp2_with fail
   go_quiet ((exact Calls.quiet_of_same (HC.out _)))
   generalize QEF i ks (ks i)=v at*
   cases hv:decide (0≤v)with
   |true=>
    go_wp2;go_ret;exact⟨by rw[HD.out,QCP hlt (by have:=HQI.out;rw[hv]at this;simpa using this.symm)] <;> rfl,QAB HI.out.2 _⟩
   |false=>
    have HAL:=hd0 (show(List.range (i+1)).all q=true by
     have:=HQI.out;rw[hv]at this;rw[QAT,HI.out.1]
     simpa using this.symm)
    go_wp2;go_roundw
    case rel=>exact⟨i+1,by omega,by go_num,hd0 ⟨HAL.out,QAB HI.out.2 _⟩⟩
    case measure=>simp[intOf];omega
  ·
   have g0:decide ((i:Int)<n)=false:=decide_eq_false (by omega);have HE:=hd0 (show QAk n ks=true by rw[HD.out,show n=i by omega,HI.out.1]);go_wp2;go_ret;exact⟨by rw[HE.out] <;> rfl,HI.out.2⟩
def QRd(pn:Nat→ByteArray)(pt:Nat→Ty)(i:Nat):Bool:=QAs (pn i)&&(pt i).ok&&!QKK pn i
theorem QOO(n:Nat)(pn:Nat→ByteArray)(pt:Nat→Ty):QD0 n pn pt=(decide ((n:Int)≤6)&&(List.range n).all (QRd pn pt)):=by
 unfold QD0 QAk QRd;rw[show decide ((n:Int)≤6)=decide (n≤6)from decide_eq_decide.2 (by omega),Bool.and_assoc]
 congr 1
 rw[Bool.eq_iff_iff,Bool.and_eq_true];simp only[List.all_eq_true,Bool.and_eq_true];constructor
 ·
  rintro⟨h1,h2⟩ i hi;exact⟨h2 i hi,h1 i hi⟩
 ·
  intro h;exact⟨fun i hi=>(h i hi).2,fun i hi=>(h i hi).1⟩
theorem QLA {W:World}(h9:9≤W.heap.size){n:Nat}{p:Option Addr}{pn:Nat→ByteArray}{pt:Nat→Ty}(h:ParR W n p pn pt)(w:World)(hW:Below W.heap.size W w)(c:Nat):
  Calls prog 124 #[.slice p n c] w fun e w'=>e= .returned (.bool (QD0 n pn pt))∧Below w.heap.size w w':=by
 obtain⟨hn,A,hA,hP⟩:=h;have hn2:n≤1100000:=hn;have HN:=hd0 (fun i (hi:i<n) (w1:World) (hw1:Below W.heap.size W w1)=>QCJ (pn i) w1 (by have:=hw1.size;omega));have HT:=hd0 (fun i (hi:i<n) (w1:World) (hw1:Below W.heap.size W w1)=>QCK h9 (hP i hi).2.2 w1 hw1);have HP:=hd0 (fun i (hi:i<n)=>(hP i hi).1);have HA:=hd0 hA;have HW:=hd0 hW;clear hn hA hP hW;have hd:=QOO n pn pt;generalize QD0 n pn pt=res at*;generalize hq:QRd pn pt=q at hd;generalize e6:decide ((n:Int)≤6)=M at hd;have HD:=hd0 hd;have HQ:=hd0 (fun i=>show q i=(QAs (pn i)&&(pt i).ok&&!QKK pn i)from by rw[←hq];rfl);clear hq hd
 cases M with
 |false=>
  have e6':decide ((6:Int)<n)=true:=decide_eq_true (by have:=of_decide_eq_false e6;omega);go_enter func124,ntmps124;go_wp2;go_ret;exact⟨by rw[HD.out];rfl,Below.refl _ _⟩
 |true=>
 have e6':decide ((6:Int)<n)=false:=decide_eq_false (by have:=of_decide_eq_true e6;omega);clear e6;go_enter func124,ntmps124
 go_wp2_with fail
 go_loopw [3] (fun v3 wr=>∃i:Nat,i≤n∧v3= .int .i64 i∧Hid ((List.range i).all q=true∧Below w.heap.size w wr)) (fun v3 _=>n - (intOf v3).toNat)
 case atStart=>exact⟨0,Nat.zero_le _,rfl,hd0 ⟨rfl,Below.refl _ _⟩⟩
 case round=>
  obtain⟨i,hi,rfl,HI⟩:=hrel
  by_cases hlt:i<n
  ·
   have g0:decide ((i:Int)<n)=true:=decide_eq_true (by omega);have g1:(0:Int)≤i:=by omega
   have g2:(i:Int)<n:=by omega
   obtain⟨pb,po,rfl,hpc⟩:=(HA.out.below (HW.out.trans (HI.out.2.mono HW.out.size))).at_ (by omega);have a0:=hpc i hlt 0 (by decide);rw[HP.out i hlt]at a0;have HPC:=hd0 hpc;simp only[Nat.add_zero]at a0;clear hpc;have HQI:=hd0 (HQ.out i);have HNI:=hd0 (HN.out i hlt wr (HW.out.trans (HI.out.2.mono HW.out.size)));generalize QAs (pn i)=X at*
   go_wp2_with fail
   refine HNI.out.mono ?_;rintro e w1 ⟨rfl,hb1⟩;have HB1:=hd0 (HI.out.2.trans (hb1.mono HI.out.2.size))
   cases X with
   |false=>
    clear hb1;go_wp2;go_ret;exact⟨by rw[HD.out,QCP hlt (by rw[HQI.out];rfl)];rfl,HB1.out⟩
   |true=>
   have a1:=QAA hb1 (HPC.out i hlt 1 (by decide));have a2:=QAA hb1 (HPC.out i hlt 2 (by decide));have a3:=QAA hb1 (HPC.out i hlt 3 (by decide));have a4:=QAA hb1 (HPC.out i hlt 4 (by decide));have a5:=QAA hb1 (HPC.out i hlt 5 (by decide));have HTI:=hd0 (HT.out i hlt w1 (HW.out.trans (HB1.out.mono HW.out.size)));clear hb1 a0 HNI;generalize (pt i).ok=Y at*
   go_wp2_with fail
   refine HTI.out.mono ?_;rintro e w2 ⟨rfl,hb2⟩;have HB2:=hd0 (HB1.out.trans (hb2.mono HB1.out.size))
   cases Y with
   |false=>
    clear hb2 a1 a2 a3 a4 a5;go_wp2;go_ret;exact⟨by rw[HD.out,QCP hlt (by rw[HQI.out];rfl)];rfl,HB2.out⟩
   |true=>
   clear hb2 a1 a2 a3 a4 a5 HTI HPC;have HQJ:=hd0 (show q i=!QKK pn i by rw[HQI.out];rfl)
   go_wp2_with fail
   go_loopw [4] (fun v4 wr2=>∃k:Nat,k≤i∧v4= .int .i64 k∧Hid ((∀j,j<k→QMu (pn j) (pn i)=false)∧Below w.heap.size w wr2)) (fun v4 _=>i - (intOf v4).toNat)
   case atStart=>exact⟨0,Nat.zero_le _,rfl,hd0 ⟨fun j hj=>absurd hj (Nat.not_lt_zero _),HB2.out⟩⟩
   case round=>
    obtain⟨k,hk,rfl,HK⟩:=hrel
    by_cases hlk:k<i
    ·
     have f0:decide ((k:Int)<i)=true:=decide_eq_true (by omega);have f1:(0:Int)≤k:=by omega
     have f2:(k:Int)<n:=by omega
     obtain⟨pb',po',hpe,hpc⟩:=(HA.out.below (HW.out.trans (HK.out.2.mono HW.out.size))).at_ (by omega);injection hpe with hpe
     injection hpe with hp1 hp2
     subst hp1 hp2;have d0:=hpc i hlt 0 (by decide);have d1:=hpc k (by omega) 0 (by decide);rw[HP.out i hlt]at d0;rw[HP.out k (by omega)]at d1;simp only[Nat.add_zero]at d0 d1;clear hpc;have HS:=hd0 (show QMu (pn k) (pn i)=((pn k).toList==(pn i).toList)by unfold QMu;rw[Lib.toList_data,Lib.toList_data])
     go_wp2_with fail
     go_quiet (fail)
     cases hs:((pn k).toList==(pn i).toList)with
     |true=>
      have HDU:=hd0 (show q i=false by rw[HQJ.out,show QKK pn i=true from QIx hlk (by rw[HS.out,hs])];rfl);go_wp2;go_ret;exact⟨by rw[HD.out,QCP hlt HDU.out];rfl,QAB HK.out.2 _⟩
     |false=>
      have HST:=hd0 (show∀j,j<k+1→QMu (pn j) (pn i)=false from fun j hj=>by
       by_cases e:j=k
       ·
        subst e;rw[HS.out,hs]
       ·
        exact HK.out.1 j (by omega))
      go_wp2;go_roundw
      case rel=>exact⟨k+1,by omega,by go_num,hd0 ⟨HST.out,QAB HK.out.2 _⟩⟩
      case measure=>simp[intOf];omega
    ·
     have f0:decide ((k:Int)<i)=false:=decide_eq_false (by omega)
     have HAL:=hd0 (show(List.range (i+1)).all q=true by
      have hdu:QKK pn i=false:=by
       unfold QKK;rw[List.any_eq_false];intro j hj;rw[HK.out.1 j (by have:=List.mem_range.1 hj;omega)]
       decide
      rw[QAT,HI.out.1,HQJ.out,hdu]
      rfl)
     go_wp2;go_roundw
     case rel=>exact⟨i+1,by omega,by go_num,hd0 ⟨HAL.out,HK.out.2⟩⟩
     case measure=>simp[intOf];omega
  ·
   have g0:decide ((i:Int)<n)=false:=decide_eq_false (by omega);have HE:=hd0 (show res=true by rw[HD.out,show n=i by omega,HI.out.1];rfl);go_wp2;go_ret;exact⟨by rw[HE.out] <;> rfl,HI.out.2⟩
def QKs(nk:Nat)(ks:Nat→ByteArray):Bool:=decide ((nk:Int)≤16)&&QAk nk ks&&(List.range nk).all fun i=>QLb (ks i)
theorem QOm {W:World}(h9:9≤W.heap.size){n:Nat}{p:Option Addr}{ks:Nat→ByteArray}(h:StrR W n p ks)(w:World)(hW:Below W.heap.size W w)(c:Nat)(hc:n≤c):
  Calls prog 165 #[.slice p n c] w fun e w'=>e= .returned (.bool (QKs n ks))∧Below w.heap.size w w':=by
 have HDI:=hd0 (QIf h w hW c hc);obtain⟨hn,A,hA,hK⟩:=h;have hn2:n≤1100000:=hn;have HN:=hd0 (fun i (hi:i<n) (w1:World) (hw1:Below W.heap.size W w1)=>QJw (ks i) w1 (hK i hi).2 (by have:=hw1.size;omega));have HA:=hd0 hA;have HK:=hd0 (fun i hi=>(hK i hi).1);have HW:=hd0 hW;clear hn hA hK hW hc;have hd:QKs n ks=(decide ((n:Int)≤16)&&QAk n ks&&(List.range n).all fun i=>QLb (ks i)):=rfl;generalize QKs n ks=res at*;generalize QAk n ks=D at*;generalize hq:(fun i=>QLb (ks i))=q at hd;generalize e6:decide ((n:Int)≤16)=M at hd;have HD:=hd0 hd;have HQ:=hd0 (fun i=>show q i=QLb (ks i)from by rw[←hq]);clear hq hd
 cases M with
 |false=>
  have e6':decide ((16:Int)<n)=true:=decide_eq_true (by have:=of_decide_eq_false e6;omega);go_enter func165,ntmps165;go_wp2;go_ret;exact⟨by rw[HD.out];rfl,Below.refl _ _⟩
 |true=>
 have e6':decide ((16:Int)<n)=false:=decide_eq_false (by have:=of_decide_eq_true e6;omega);clear e6;go_enter func165,ntmps165
 go_wp2_with fail
 refine HDI.out.mono ?_;rintro e w1 ⟨rfl,hb1⟩;have HB1:=hd0 hb1;clear hb1 HDI
 cases D with
 |false=>
  go_wp2;go_ret;exact⟨by rw[HD.out];rfl,HB1.out⟩
 |true=>
 go_wp2_with fail
 go_loopw [3] (fun v3 wr=>∃i:Nat,i≤n∧v3= .int .i64 i∧Hid ((List.range i).all q=true∧Below w.heap.size w wr)) (fun v3 _=>n - (intOf v3).toNat)
 case atStart=>exact⟨0,Nat.zero_le _,rfl,hd0 ⟨rfl,HB1.out⟩⟩
 case round=>
  obtain⟨i,hi,rfl,HI⟩:=hrel
  by_cases hlt:i<n
  ·
   have g0:decide ((i:Int)<n)=true:=decide_eq_true (by omega);have g1:(0:Int)≤i:=by omega
   have g2:(i:Int)<n:=by omega
   obtain⟨pb,po,rfl,hpc⟩:=(HA.out.below (HW.out.trans (HI.out.2.mono HW.out.size))).at_ (by omega);have a0:=hpc i hlt 0 (by decide);rw[HK.out i hlt]at a0;simp only[Nat.add_zero,Nat.mul_one]at a0;clear hpc;have HQI:=hd0 (HQ.out i);have HNI:=hd0 (HN.out i hlt wr (HW.out.trans (HI.out.2.mono HW.out.size)));generalize QLb (ks i)=X at*
   go_wp2_with fail
   refine HNI.out.mono ?_;rintro e w2 ⟨rfl,hb2⟩;have HB2:=hd0 (HI.out.2.trans (hb2.mono HI.out.2.size));clear hb2 a0 HNI
   cases X with
   |false=>
    go_wp2;go_ret;exact⟨by rw[HD.out,QCP hlt HQI.out];rfl,HB2.out⟩
   |true=>
    have HAL:=hd0 (show(List.range (i+1)).all q=true by rw[QAT,HI.out.1,HQI.out];rfl);go_wp2;go_roundw
    case rel=>exact⟨i+1,by omega,by go_num,hd0 ⟨HAL.out,HB2.out⟩⟩
    case measure=>simp[intOf];omega
  ·
   have g0:decide ((i:Int)<n)=false:=decide_eq_false (by omega);have HE:=hd0 (show res=true by rw[HD.out,show n=i by omega,HI.out.1];rfl);go_wp2;go_ret;exact⟨by rw[HE.out] <;> rfl,HI.out.2⟩
def Ty.eqv:Ty→Ty→Bool
 | .mk k lo hi s n f,.mk k' lo' hi' s' n' f'=>(k==k')&&((s.toList==s'.toList)&&((lo==lo')&&((hi==hi')&&(((n:Int)==(n':Int))&&(List.range n).all fun i=>(f i).eqv (f' i)))))
 |_,_=>false
theorem Ty.eqv_mk(k lo hi:Int)(s:ByteArray)(n:Nat)(f:Nat→Ty)(k' lo' hi':Int)(s':ByteArray)(n':Nat)(f':Nat→Ty):(Ty.mk k lo hi s n f).eqv (Ty.mk k' lo' hi' s' n' f')=
  ((k==k')&&((s.toList==s'.toList)&&((lo==lo')&&((hi==hi')&&(((n:Int)==(n':Int))&&(List.range n).all fun i=>(f i).eqv (f' i)))))):=rfl
theorem QLB {W:World}{v:Value}{t:Ty}(h:TyR W v t):∀{u:Value} {t':Ty},TyR W u t'→∀w,Below W.heap.size W w→Calls prog 107 #[v,u] w fun e w'=>e= .returned (.bool (t.eqv t'))∧Below w.heap.size w w':=by
 induction h with
 |mk k lo hi s n p c A f hs hn hA h ih=>
  intro u t' h' w hW
  cases h' with
  |mk k' lo' hi' s' n' q d B f' hs' hn' hB h'=>
  have hz:=Ty.eqv_mk k lo hi s n f k' lo' hi' s' n' f';generalize (Ty.mk k lo hi s n f).eqv (Ty.mk k' lo' hi' s' n' f')=res at*;have HI:=hd0 (fun i (hi:i<n) (hi':i<n')=>fun w1 hw1=>ih i hi (h' i hi') w1 hw1);have HA:=hd0 hA;have HB:=hd0 hB;have HW:=hd0 hW;have hm:n≤1100000:=hn;clear hA hB h h' ih hW hs hs' hn hn';generalize hq:(fun i=>(f i).eqv (f' i))=r at hz;have HQ:=hd0 (fun i=>show r i=(f i).eqv (f' i)from by rw[←hq]);clear hq;generalize eK:(k==k')=K at hz;have nK:(k !=k')=!K:=by rw[←eK] <;> first|rfl|simp
  generalize eS:(s.toList==s'.toList)=S at hz;have nS:(!(s.toList==s'.toList))=!S:=by rw[←eS] <;> first|rfl|simp
  generalize eL:(lo==lo')=L at hz;have nL:(lo !=lo')=!L:=by rw[←eL] <;> first|rfl|simp
  generalize eH:(hi==hi')=H at hz;have nH:(hi !=hi')=!H:=by rw[←eH] <;> first|rfl|simp
  generalize eM:((n:Int)==(n':Int))=M at hz;have nM:((n:Int) !=(n':Int))=!M:=by rw[←eM] <;> first|rfl|simp
  have HZ:=hd0 hz;clear hz
  cases K with
  |false=>
   simp only[Bool.not_true,Bool.not_false]at nK;go_enter func107,ntmps107;go_wp2;go_ret;exact⟨by rw[HZ.out];rfl,((Below.refl _ _).alloc (Nat.le_refl _) _).alloc (by simp) _⟩
  |true=>
  cases S with
  |false=>
   simp only[Bool.not_true,Bool.not_false]at nK nS;go_enter func107,ntmps107;go_wp2;go_ret;exact⟨by rw[HZ.out];rfl,((Below.refl _ _).alloc (Nat.le_refl _) _).alloc (by simp) _⟩
  |true=>
  cases L with
  |false=>
   simp only[Bool.not_true,Bool.not_false]at nK nS nL;go_enter func107,ntmps107;go_wp2;go_ret;exact⟨by rw[HZ.out];rfl,((Below.refl _ _).alloc (Nat.le_refl _) _).alloc (by simp) _⟩
  |true=>
  cases H with
  |false=>
   simp only[Bool.not_true,Bool.not_false]at nK nS nL nH;go_enter func107,ntmps107;go_wp2;go_ret;exact⟨by rw[HZ.out];rfl,((Below.refl _ _).alloc (Nat.le_refl _) _).alloc (by simp) _⟩
  |true=>
  cases M with
  |false=>
   simp only[Bool.not_true,Bool.not_false]at nK nS nL nH nM;go_enter func107,ntmps107;go_wp2;go_ret;exact⟨by rw[HZ.out];rfl,((Below.refl _ _).alloc (Nat.le_refl _) _).alloc (by simp) _⟩
  |true=>
  simp only[Bool.not_true]at nK nS nL nH nM;have hnn:n=n':=by have:=eq_of_beq eM;omega
  subst hnn;have HR0:=hd0 (show res=(List.range n).all r from by rw[HZ.out];rfl);clear HZ;go_enter func107,ntmps107
  go_wp2_with fail
  clear eK eS eL eH eM nK nS nL nH nM
  go_loopw [5] (fun v5 wr=>∃i:Nat,i≤n∧v5= .int .i64 i∧Hid ((List.range i).all r=true∧Below w.heap.size w wr∧wr.cell? ⟨w.heap.size,4,none⟩=some (.slice p n c)∧wr.cell? ⟨w.heap.size+1,4,none⟩=some (.slice q n d))) (fun v5 _=>n - (intOf v5).toNat)
  case atStart=>exact⟨0,Nat.zero_le _,rfl,hd0 ⟨rfl,((Below.refl _ _).alloc (Nat.le_refl _) _).alloc (by simp) _,by simp[go_sem],by simp[go_sem]⟩⟩
  case round=>
   obtain⟨i,hi,rfl,HR⟩:=hrel;have b4:=HR.out.2.2.1;have d4:=HR.out.2.2.2;have l1:w.heap.size<wr.heap.size:=World.block_lt_of_cell? wr _ b4;have l2:w.heap.size+1<wr.heap.size:=World.block_lt_of_cell? wr _ d4
   by_cases hlt:i<n
   ·
    have hbW:Below W.heap.size W wr:=HW.out.trans (HR.out.2.1.mono HW.out.size);obtain⟨pb,po,hp,hpc⟩:=(HA.out.below hbW).at_ (by omega);obtain⟨qb,qo,hq,hqc⟩:=(HB.out.below hbW).at_ (by omega);subst hp hq;have g0:decide ((i:Int)<n)=true:=decide_eq_true (by omega);have g1:(0:Int)≤i:=by omega
    have g2:(i:Int)<n:=by omega
    have a0:=hpc i hlt 0 (by decide);have a1:=hpc i hlt 1 (by decide);have a2:=hpc i hlt 2 (by decide);have a3:=hpc i hlt 3 (by decide);have a4:=hpc i hlt 4 (by decide);have e0:=hqc i hlt 0 (by decide);have e1:=hqc i hlt 1 (by decide);have e2:=hqc i hlt 2 (by decide);have e3:=hqc i hlt 3 (by decide);have e4:=hqc i hlt 4 (by decide);clear hpc hqc hbW;simp only[Nat.add_zero]at a0 e0
    go_wp2_with fail
    refine QEQ 10 (by kernel_rfl) (by kernel_rfl) ?_;simp only[List.take_succ_cons,List.take_zero,List.drop_succ_cons,List.drop_zero]
    iterate 10 still_step
    refine wpStill_nil ?_
    go_wp2_with fail
    have hbr:Below w.heap.size w wr.drew:=QQZ HR.out.2.1;refine(HI.out i hlt hlt _ (HW.out.trans (hbr.mono HW.out.size))).mono ?_;rintro e w3 ⟨rfl,hb3⟩;have hb4:Below wr.heap.size wr w3:=(QQZ (Below.refl wr.heap.size wr)).trans (hb3.mono (Nat.le_refl _));have HR3:=hd0 (show Below w.heap.size w w3∧w3.cell? ⟨w.heap.size,4,none⟩=some (.slice (some ⟨pb,po,none⟩) n c)∧w3.cell? ⟨w.heap.size+1,4,none⟩=some (.slice (some ⟨qb,qo,none⟩) n d)from⟨HR.out.2.1.trans (hb4.mono HR.out.2.1.size),QAA hb4 b4,QAA hb4 d4⟩);have HQI:=hd0 (HQ.out i);clear hb3 hb4 hbr a0 a1 a2 a3 a4 e0 e1 e2 e3 e4 b4 d4;generalize (f i).eqv (f' i)=x at*
    cases x with
    |false=>
     go_wp2;go_ret;exact⟨by rw[HR0.out,QCP hlt HQI.out] <;> rfl,HR3.out.1⟩
    |true=>
     have HAL:=hd0 (show(List.range (i+1)).all r=true by rw[QAT,HR.out.1,HQI.out];rfl);go_wp2;go_roundw
     case rel=>exact⟨i+1,by omega,by go_num,hd0 ⟨HAL.out,HR3.out⟩⟩
     case measure=>simp[intOf];omega
   ·
    have g0:decide ((i:Int)<n)=false:=decide_eq_false (by omega);have HE:=hd0 (show res=true by rw[HR0.out,show n=i by omega,HR.out.1]);go_wp2;go_ret;exact⟨by rw[HE.out] <;> rfl,HR.out.2.1⟩
theorem QLH(p:Option Addr)(n c:Nat)(w:World):Calls prog 187 #[.slice p n c,.slice none 0 0] w fun e w'=>e= .returned (.bool ((n:Int)==0))∧w'=w:=by
 cases n with
 |zero=>
  go_enter func187,ntmps187;go_wp2
  go_loopw [5] (fun v5 wr=>v5= .int .i64 0∧wr=w) (fun _ _=>0)
  case atStart=>exact⟨rfl,rfl⟩
  case round=>
   obtain⟨rfl,rfl⟩:=hrel;go_wp2;go_ret;exact⟨rfl,rfl⟩
 |succ n=>
  have e1:(((n+1:Nat):Int) !=0)=true:=by rw[bne_iff_ne];omega
  have e2:(((n+1:Nat):Int)==0)=false:=by rw[beq_eq_false_iff_ne];omega
  generalize n+1=m at*;go_enter func187,ntmps187;go_wp2;go_ret;exact⟨by rw[e2] <;> rfl,rfl⟩
theorem QMj(p:Option Addr)(n c:Nat)(w:World):Calls prog 188 #[.slice p n c,.slice none 0 0] w fun e w'=>e= .returned (.bool ((n:Int)==0))∧w'=w:=by
 cases n with
 |zero=>
  go_enter func188,ntmps188;go_wp2
  go_loopw [5] (fun v5 wr=>v5= .int .i64 0∧wr=w) (fun _ _=>0)
  case atStart=>exact⟨rfl,rfl⟩
  case round=>
   obtain⟨rfl,rfl⟩:=hrel;go_wp2;go_ret;exact⟨rfl,rfl⟩
 |succ n=>
  have e1:(((n+1:Nat):Int) !=0)=true:=by rw[bne_iff_ne];omega
  have e2:(((n+1:Nat):Int)==0)=false:=by rw[beq_eq_false_iff_ne];omega
  generalize n+1=m at*;go_enter func188,ntmps188;go_wp2;go_ret;exact⟨by rw[e2] <;> rfl,rfl⟩
theorem QJ8(p:Option Addr)(n c:Nat)(w:World):Calls prog 14 #[.slice p n c,.slice none 0 0] w fun e w'=>e= .returned (.bool ((n:Int)==0))∧w'=w:=by
 generalize eN:((n:Int)==0)=N
 cases N with
 |true=>
  have e0:n=0:=by have:=eq_of_beq eN;omega
  subst e0;go_enter func14,ntmps14;go_wp2
  go_loopw [5,6] (fun v5 v6 wr=>v5= .bool true∧v6= .int .i64 0∧wr=w) (fun _ _ _=>0)
  case atStart=>exact⟨rfl,rfl,rfl⟩
  case round=>
   obtain⟨rfl,rfl,rfl⟩:=hrel;go_wp2;go_ret;exact⟨rfl,rfl⟩
 |false=>
  go_enter func14,ntmps14;go_wp2
  go_loopw [5,6] (fun v5 v6 wr=>v5= .bool false∧v6= .int .i64 0∧wr=w) (fun _ _ _=>0)
  case atStart=>exact⟨rfl,rfl,rfl⟩
  case round=>
   obtain⟨rfl,rfl,rfl⟩:=hrel;go_wp2;go_ret;exact⟨rfl,rfl⟩
theorem Ty.eqv_zero(k lo hi:Int)(s:ByteArray)(n:Nat)(f f':Nat→Ty):(Ty.mk k lo hi s n f).eqv (.mk 0 0 0 ⟨#[]⟩ 0 f')=(k==0&&QAW s&&lo==0&&hi==0&&((n:Int)==0)):=by
 rw[Ty.eqv_mk,show(⟨#[]⟩:ByteArray).toList= [] by rw[Lib.toList_data] <;> rfl]
 cases n with
 |zero=>simp[QAW,Bool.and_assoc]
 |succ n=>
  have:(((n+1:Nat):Int)==0)=false:=by rw[beq_eq_false_iff_ne];omega
  simp only[this,Int.natCast_zero,Bool.false_and,Bool.and_false]
theorem QHf {W:World}(k num tk tl th:Int)(s ts:ByteArray)(tp pp pk pa:Option Addr) (tn tc np cp nk ck n ca:Nat){ty:Ty}(ht:TyR W (.agg #[.int .i64 tk,.string ts,.int .i64 tl,.int .i64 th,.slice tp tn tc]) ty)(w:World)(hW:Below W.heap.size W w):
  Calls prog 121 #[.agg (Z9 k s num tk ts tl th tp tn tc pp np cp pk nk ck pa n ca),.agg #[.int .i64 3,.string ⟨#[37,124]⟩,.int .i64 0,.int .i64 0,.string ⟨#[]⟩,.int .i64 0,.int .i64 0,.slice none 0 0,.slice none 0 0,.slice none 0 0,.slice none 0 0]] w fun e w'=>e= .returned (.bool ((k==3)&&((s.toList== [37,124])&&((num==0)&&((tk==0&&QAW ts&&tl==0&&th==0&&((tn:Int)==0))&&(((np:Int)==0)&&(((nk:Int)==0)&&((n:Int)==0))))))))∧Below w.heap.size w w':=by
 have HT:=hd0 (fun w1 (hw1:Below W.heap.size W w1)=>(by
  have h1:=QLB ht (TyR.mk 0 0 0 ⟨#[]⟩ 0 none 0 (fun _ _=>undef) (fun _=> .mk 0 0 0 ⟨#[]⟩ 0 (fun _=>ty)) (Nat.zero_le _) (Nat.zero_le _) (fun i hi=>absurd hi (Nat.not_lt_zero _)) (fun i hi=>absurd hi (Nat.not_lt_zero _))) w1 hw1;obtain⟨k0,l0,h0,s0,n0,p0,c0,f0,e,rfl, -, -⟩:=ht.cells;injection e with e
  simp only[Array.mk.injEq,List.cons.injEq,Value.int.injEq,Value.string.injEq,Value.slice.injEq,true_and,and_true]at e;obtain⟨rfl,rfl,rfl,rfl,rfl,rfl,rfl⟩:=e;rw[Ty.eqv_zero]at h1
  exact h1:Calls prog 107 #[.agg #[.int .i64 tk,.string ts,.int .i64 tl,.int .i64 th,.slice tp tn tc],.agg #[.int .i64 0,.string ⟨#[]⟩,.int .i64 0,.int .i64 0,.slice none 0 0]] w1 fun e w'=>e= .returned (.bool (tk==0&&QAW ts&&tl==0&&th==0&&((tn:Int)==0)))∧Below w1.heap.size w1 w'))
 have HP:=hd0 (fun w=>QLH pp np cp w);have HK:=hd0 (fun w=>QJ8 pk nk ck w);have HE:=hd0 (fun w=>QMj pa n ca w);have HW:=hd0 hW;clear hW ht;generalize (tk==0&&QAW ts&&tl==0&&th==0&&((tn:Int)==0))=T at*;generalize ((np:Int)==0)=P at*;generalize ((nk:Int)==0)=Q at*;generalize ((n:Int)==0)=R at*;obtain⟨res,hz⟩:∃res,res=((k==3)&&((s.toList== [37,124])&&((num==0)&&(T&&(P&&(Q&&R)))))):=⟨_,rfl⟩;rw[←hz];generalize eA:(k==3)=A at hz;have nA:(k !=3)=!A:=by rw[←eA] <;> first|rfl|simp
 generalize eS:(s.toList== [37,124])=S at hz;have nS:(!(s.toList== [37,124]))=!S:=by rw[←eS] <;> first|rfl|simp
 generalize eU:(num==0)=U at hz;have nU:(num !=0)=!U:=by rw[←eU] <;> first|rfl|simp
 have HZ:=hd0 hz;clear hz
 cases A with
 |false=>
  simp only[Bool.not_true,Bool.not_false]at nA;go_enter func121,ntmps121;go_wp2;go_ret;exact⟨by rw[HZ.out];rfl,((Below.refl _ _).alloc (Nat.le_refl _) _).alloc (by simp) _⟩
 |true=>
 cases S with
 |false=>
  simp only[Bool.not_true,Bool.not_false]at nA nS;go_enter func121,ntmps121;go_wp2;go_ret;exact⟨by rw[HZ.out];rfl,((Below.refl _ _).alloc (Nat.le_refl _) _).alloc (by simp) _⟩
 |true=>
 cases U with
 |false=>
  simp only[Bool.not_true,Bool.not_false]at nA nS nU;go_enter func121,ntmps121;go_wp2;go_ret;exact⟨by rw[HZ.out];rfl,((Below.refl _ _).alloc (Nat.le_refl _) _).alloc (by simp) _⟩
 |true=>
 simp only[Bool.not_true]at nA nS nU;go_enter func121,ntmps121;go_upto_region 1 with fail;refine QA8 (fun wx=>Hid (Below w.heap.size w wx∧BoxAt wx w.heap.size (Z9 k s num tk ts tl th tp tn tc pp np cp pk nk ck pa n ca)∧BoxAt wx (w.heap.size+1) #[.int .i64 3,.string ⟨#[37,124]⟩,.int .i64 0,.int .i64 0,.string ⟨#[]⟩,.int .i64 0,.int .i64 0,.slice none 0 0,.slice none 0 0,.slice none 0 0,.slice none 0 0])) (hd0 ⟨((Below.refl _ _).alloc (Nat.le_refl _) _).alloc (by simp) _,fun j v hj=>QAA ((Below.refl _ _).alloc (Nat.le_refl _) _) (QAS w _ _ j v hj),fun j v hj=>(by have:=QAS (w.alloc (.cells #[.int .i64 k,.string s,.int .i64 num,.int .i64 tk,.string ts,.int .i64 tl,.int .i64 th,.slice tp tn tc,.slice pp np cp,.slice pk nk ck,.slice pa n ca] 29)) #[.int .i64 3,.string ⟨#[37,124]⟩,.int .i64 0,.int .i64 0,.string ⟨#[]⟩,.int .i64 0,.int .i64 0,.slice none 0 0,.slice none 0 0,.slice none 0 0,.slice none 0 0] 29 j v hj;rw[World.size_alloc]at this;exact this)⟩) ?_;intro w1 H1;have x0:=H1.out.2.1 0 _ rfl;have x1:=H1.out.2.1 1 _ rfl;have x2:=H1.out.2.1 2 _ rfl;have x3:=H1.out.2.1 3 _ rfl;have x4:=H1.out.2.1 4 _ rfl;have x5:=H1.out.2.1 5 _ rfl;have x6:=H1.out.2.1 6 _ rfl;have x7:=H1.out.2.1 7 _ rfl;have y0:=H1.out.2.2 0 _ rfl;have y1:=H1.out.2.2 1 _ rfl;have y2:=H1.out.2.2 2 _ rfl;have y3:=H1.out.2.2 3 _ rfl;have y4:=H1.out.2.2 4 _ rfl;have y5:=H1.out.2.2 5 _ rfl;have y6:=H1.out.2.2 6 _ rfl;have y7:=H1.out.2.2 7 _ rfl
 go_wp2_with fail
 refine(HT.out w1 (HW.out.trans (H1.out.1.mono HW.out.size))).mono ?_;rintro e w2 ⟨rfl,hb2⟩;have H2:=hd0 (H1.out.1.trans (hb2.mono H1.out.1.size))
 cases T with
 |false=>
  clear hb2;go_wp2;go_ret;exact⟨by rw[HZ.out];rfl,H2.out⟩
 |true=>
 have z8:=QAA hb2 (H1.out.2.1 8 _ rfl);have z9:=QAA hb2 (H1.out.2.1 9 _ rfl);have z10:=QAA hb2 (H1.out.2.1 10 _ rfl);have u8:=QAA hb2 (H1.out.2.2 8 _ rfl);have u9:=QAA hb2 (H1.out.2.2 9 _ rfl);have u10:=QAA hb2 (H1.out.2.2 10 _ rfl);clear hb2 x0 x1 x2 x3 x4 x5 x6 x7 y0 y1 y2 y3 y4 y5 y6 y7 H1 HT
 go_wp2_with fail
 refine(HP.out _).mono ?_;rintro e wx ⟨rfl,rfl⟩
 cases P with
 |false=>
  go_wp2;go_ret;exact⟨by rw[HZ.out];rfl,H2.out⟩
 |true=>
 go_wp2_with fail
 refine(HK.out _).mono ?_;rintro e wx ⟨rfl,rfl⟩
 cases Q with
 |false=>
  go_wp2;go_ret;exact⟨by rw[HZ.out];rfl,H2.out⟩
 |true=>
 go_wp2_with fail
 refine(HE.out _).mono ?_;rintro e wx ⟨rfl,rfl⟩;go_wp2;go_ret;exact⟨by rw[HZ.out];rfl,H2.out⟩
def M3(w:World)(b c x t:Nat):Prop:=w.heap[b]?=some (.cells #[.int .i64 (c:Int),.int .i64 (x:Int),.int .i64 (t:Int)] 68 (0,0))
theorem M3.c0 {w:World}{b c x t:Nat}(h:M3 w b c x t):w.cell? ⟨b,0,none⟩=some (.int .i64 (c:Int)):=by simp only[World.cell?,show w.heap[b]?=_ from h];rfl
theorem M3.c1 {w:World}{b c x t:Nat}(h:M3 w b c x t):w.cell? ⟨b,1,none⟩=some (.int .i64 (x:Int)):=by simp only[World.cell?,show w.heap[b]?=_ from h];rfl
theorem M3.c2 {w:World}{b c x t:Nat}(h:M3 w b c x t):w.cell? ⟨b,2,none⟩=some (.int .i64 (t:Int)):=by simp only[World.cell?,show w.heap[b]?=_ from h];rfl
theorem M3.fz {w:World}{b c x t:Nat}(h:M3 w b c x t)(o:Nat):w.frozen? ⟨b,o,none⟩=false:=by simp[World.frozen?,show w.heap[b]?=_ from h]
theorem M3.lt {w:World}{b c x t:Nat}(h:M3 w b c x t):b<w.heap.size:=(Array.getElem?_eq_some_iff.1 h).1
def C3(b c x t:Nat)(w w':World):Prop:=w.grownBy w' (some b)∧M3 w' b c x t
theorem C3.trans {b c x t c' x' t':Nat}{w w1 w2:World}(h:C3 b c x t w w1)(k:C3 b c' x' t' w1 w2):C3 b c' x' t' w w2:=
 ⟨⟨k.1.os.trans h.1.os,k.1.tape.trans h.1.tape,k.1.output.trans h.1.output,Nat.le_trans h.1.size k.1.size,fun j hj hn=>(k.1.block j (Nat.lt_of_lt_of_le hj h.1.size) hn).trans (h.1.block j hj hn)⟩,k.2⟩
theorem C3.refl {b c x t:Nat}{w:World}(h:M3 w b c x t):C3 b c x t w w:=⟨⟨rfl,rfl,rfl,Nat.le_refl _,fun _ _ _=>rfl⟩,h⟩
theorem C3.below {b c x t B:Nat}{W w w':World}(h:C3 b c x t w w')(hb:Below B W w)(hB:B≤b)(hBw:B≤w.heap.size):Below B W w':=hb.grown h.1 hBw (fun k hk=>by injection hk with hk;omega)
theorem C3.new {b c x t:Nat}{w w1:World}(hb:Below w.heap.size w w1)(h:M3 w b c x t):C3 b c x t w w1:=
 ⟨⟨hb.os,hb.tape,hb.output,hb.size,fun j hj _=>hb.block j hj⟩,(hb.block b h.lt).trans h⟩
theorem C3.cell {b c x t:Nat}{w w':World}(h:C3 b c x t w w'){g o:Nat}{v:Value}(hg:g≠b)(hc:w.cell? ⟨g,o,none⟩=some v):w'.cell? ⟨g,o,none⟩=some v:=by
 have hlt:=World.block_lt_of_cell? w _ hc;have:=h.1.block g hlt (fun e=>by injection e with e;exact hg e);simp only[World.cell?,this]at hc ⊢;exact hc
theorem QPq {w:World}{b c x t:Nat}(h:M3 w b c x t)(c' t':Nat)(u v:Value)(hu:u= .int .i64 (c':Int))(hv:v= .int .i64 (t':Int)):C3 b c' x t' w ((w.setCell ⟨b,0,none⟩ u).setCell ⟨b,2,none⟩ v):=by
 subst hu hv;rw[setCell_eq_setRow w b 0 _ _ (0,0) _ h,setCell_eq_setRow _ b 2 _ _ (0,0) _ (setRow_heap _ _ _ _ _ _ h),setRow_setRow];exact⟨⟨rfl,rfl,rfl,by rw[setRow_size];exact Nat.le_refl _,fun j _ hj=>setRow_other _ _ _ _ (fun e=>hj (by rw[e]))⟩,setRow_heap _ _ _ _ _ _ h⟩
theorem QPp {w:World}{b c x t:Nat}(h:M3 w b c x t)(c' x':Nat)(u v:Value)(hu:u= .int .i64 (c':Int))(hv:v= .int .i64 (x':Int)):C3 b c' x' t w ((w.setCell ⟨b,0,none⟩ u).setCell ⟨b,1,none⟩ v):=by
 subst hu hv;rw[setCell_eq_setRow w b 0 _ _ (0,0) _ h,setCell_eq_setRow _ b 1 _ _ (0,0) _ (setRow_heap _ _ _ _ _ _ h),setRow_setRow];exact⟨⟨rfl,rfl,rfl,by rw[setRow_size];exact Nat.le_refl _,fun j _ hj=>setRow_other _ _ _ _ (fun e=>hj (by rw[e]))⟩,setRow_heap _ _ _ _ _ _ h⟩
theorem QEe(b c x t:Nat)(w:World)(h:M3 w b c x t):
  Calls prog 64 #[.pointer (some ⟨b,0,none⟩)] w fun e w'=>e= .returned (.bool (decide ((3000:Int)<c)))∧w'=w:=by
 have c0:=h.c0;have lt:=h.lt;clear h;go_enter func64,ntmps64;go_wp2;go_ret;exact⟨rfl,rfl⟩
def R3(c x t:Nat)(st:Nat × Nat):Prop:=(c≤MXN∧c=st.1∧max x t=st.2)∨(MXN<c∧MXN<st.1)
def Ty.go3(ty:Ty)(deep:Nat)(st:Nat × Nat):Nat × Nat:=if st.1≤MXN then ty.meas deep st else st
def E3(b c:Nat)(st:Nat × Nat)(w w':World):Prop:=∃c' x' t',C3 b c' x' t' w w'∧R3 c' x' t' st∧(c≤MXN→c'≤MXN+1)∧c'≤MXN+2∧x'≤MXN+1∧t'≤MXN+1
theorem QIi {W:World}{v:Value}{ty:Ty}(h:TyR W v ty):∀(w:World) (b c x t deep:Nat) (st:Nat × Nat),Below W.heap.size W w→W.heap.size≤b→M3 w b c x t→R3 c x t st→c≤MXN+1→x≤MXN+1→t≤MXN+1→deep≤MXN+1→(c≤MXN→deep≤c+1)→
  Calls prog 42 #[.pointer (some ⟨b,0,none⟩),v,.int .i64 (deep:Int)] w fun e w'=>e= .returned (.tuple #[])∧E3 b c (ty.go3 deep st) w w':=by
 induction h with
 |mk k lo h0 s m p cc A f hs hm hA h ih=>
  intro w b c x t deep st hW hb hB hR hc hx ht hd hdc;have hm2:m≤1100000:=hm;have HI:=hd0 ih;have HA:=hd0 hA;have HW:=hd0 hW;have hlt:b<w.heap.size:=hB.lt;have hW0:=hW.size;have hmeas:(Ty.mk k lo h0 s m f).meas deep st=if st.1+1≤MXN then QAU m (fun i st=>(f i).meas (deep+1) st) (st.1+1,max st.2 deep) else(st.1+1,max st.2 deep):=rfl;have c0:=hB.c0;have c1:=hB.c1;have c2:=hB.c2;have f0:=hB.fz 0;have f2:=hB.fz 2;have hc2:c≤3001:=hc;have wr1:IntKind.i64.wrap ((c:Int)+1)=(c:Int)+1:=IntWalk.i64_in _ (by omega);have HB:=hd0 hB;have hne:w.heap.size≠b:=by omega
  have hne':b≠w.heap.size:=by omega
  clear ih hA hW h hB;have HRX:=hd0 hR;have HST:=hd0 hmeas;have HDC:=hd0 (And.intro hdc hd);clear hR hmeas hdc hd;go_enter func42,ntmps42;go_upto_region 3 with fail;refine QA8 (fun wx=>Hid (C3 b (c+1) x (max t deep) w wx∧wx.cell? ⟨w.heap.size,4,none⟩=some (.slice p m cc))) (hd0 ?_) ?_
  ·
   have hm0:=QPq HB.out (c+1) (max t deep) (.int .i64 ((c:Int)+1)) (.int .i64 (max (t:Int) deep)) (by simp) (by congr 1;omega);have h1:=C3.new ((Below.refl _ _).alloc (Nat.le_refl _) (.cells #[.int .i64 k,.string s,.int .i64 lo,.int .i64 h0,.slice p m cc] 24)) hm0.2;refine⟨hm0.trans h1,?_⟩;have h2:=QAS ((w.setCell ⟨b,0,none⟩ (.int .i64 ((c:Int)+1))).setCell ⟨b,2,none⟩ (.int .i64 (max (t:Int) deep))) #[.int .i64 k,.string s,.int .i64 lo,.int .i64 h0,.slice p m cc] 24 4 _ rfl;rw[QAX,QAX]at h2;exact h2
  intro w1 H1;clear c0 c1 c2 f0 f2 wr1
  by_cases hfull:c+1≤MXN
  ·
   have hst:c=st.1∧max x t=st.2:=by
    rcases HRX.out with ⟨-,h1,h2⟩|⟨h1, -⟩
    ·
     exact⟨h1,h2⟩
    ·
     omega
   obtain⟨s1,s2⟩:=st;simp only at hst;obtain⟨rfl,rfl⟩:=hst
   have HG:=hd0 (show(Ty.mk k lo h0 s m f).go3 deep (c,max x t)=QAU m (fun i st=>(f i).meas (deep+1) st) (c+1,max (max x t) deep)by
    unfold Ty.go3
    rw[if_pos (show c≤MXN by omega),HST.out,if_pos hfull])
   have HLE:=hd0 (fun i=>Ty.loop_le m f deep (c,max x t) hfull (HDC.out.1 (by omega)) (by show max x t≤MXN+1;omega) i);clear HRX HST
   go_wp2_with fail
   go_loopw [6] (fun v6 wr=>∃i:Nat,i≤m∧v6= .int .i64 i∧Hid (wr.cell? ⟨w.heap.size,4,none⟩=some (.slice p m cc)∧∃c' x' t',C3 b c' x' t' w wr∧R3 c' x' t' (QAU i (fun i st=>(f i).meas (deep+1) st) (c+1,max (max x t) deep))∧c'≤MXN+1∧x'≤MXN+1∧t'≤MXN+1)) (fun v6 _=>m - (intOf v6).toNat)
   case atStart=>exact⟨0,Nat.zero_le _,rfl,hd0 ⟨H1.out.2,c+1,x,max t deep,H1.out.1,Or.inl ⟨hfull,rfl,by show max x (max t deep)=max (max x t) deep;omega⟩,by omega,hx,by have:=HDC.out.2;omega⟩⟩
   case round=>
    obtain⟨i,hi,rfl,HR⟩:=hrel;obtain⟨c',x',t',hC,hR,hc',hx',ht'⟩:=HR.out.2;have c4:=HR.out.1;have HF:=hd0 (QEe b c' x' t' wr hC.2);have HC:=hd0 hC;have HRR:=hd0 hR;have HWr:=hd0 (show Below W.heap.size W wr from hC.below HW.out hb hW0);have HLI:=hd0 (HLE.out i);have HL:=hd0 (QAp i (fun i st=>(f i).meas (deep+1) st) (c+1,max (max x t) deep));have HQ:=hd0 (fun(h:¬(QAU i (fun i st=>(f i).meas (deep+1) st) (c+1,max (max x t) deep)).1≤MXN)=>QBZ (m:=m) hi h);clear hC hR H1 HR;generalize hsi:QAU i (fun i st=>(f i).meas (deep+1) st) (c+1,max (max x t) deep)=si at*
    by_cases hlti:i<m
    ·
     have g1:decide ((i:Int)<m)=true:=decide_eq_true (by omega)
     go_wp2_with fail
     refine HF.out.mono ?_;rintro e wf ⟨rfl,rfl⟩
     by_cases hg:c'≤MXN
     ·
      have g2:decide ((3000:Int)<c')=false:=decide_eq_false (by unfold MXN at hg;omega)
      have HSC:=hd0 (show c'=si.1 by
       rcases HRR.out with ⟨-,h1,h2⟩|⟨h1, -⟩
       ·
        exact h1
       ·
        omega)
      have w2e:IntKind.i64.wrap ((deep:Int)+1)=(deep:Int)+1:=IntWalk.i64_in _ (by have:=HDC.out.2;unfold MXN at this;omega);obtain⟨qb,qo,rfl,hpc⟩:=(HA.out.below HWr.out).at_ (by omega);have a0:=hpc i hlti 0 (by decide);have a1:=hpc i hlti 1 (by decide);have a2:=hpc i hlti 2 (by decide);have a3:=hpc i hlti 3 (by decide);have a4:=hpc i hlti 4 (by decide);simp only[Nat.add_zero]at a0;clear hpc;have hcall:=HI.out i hlti wf b c' x' t' (deep+1) si HWr.out hb HC.out.2 HRR.out (by omega) hx' ht' (by have h1:c+1≤si.1:=HLI.out.1;have:=HSC.out;have:=HDC.out.1 (by omega);omega) (fun _=>by have h1:c+1≤si.1:=HLI.out.1;have:=HSC.out;have:=HDC.out.1 (by omega);omega);rw[Int.natCast_succ]at hcall;have HCL:=hd0 hcall;have q0:(0:Int)≤i:=by omega
      have q1:(i:Int)<m:=by omega
      have hl1:w.heap.size<wf.heap.size:=World.block_lt_of_cell? wf _ c4;clear hcall
      go_wp2_with fail
      refine HCL.out.mono ?_;rintro e w3 ⟨rfl,c3,x3,t3,hC3,hR3,hb3, -,hx3,ht3⟩
      have HN:=hd0 (show R3 c3 x3 t3 (QAU (i+1) (fun i st=>(f i).meas (deep+1) st) (c+1,max (max x t) deep))from by
       rw[HL.out,if_pos (show si.1≤MXN by have:=HSC.out;omega)];have:(f i).go3 (deep+1) si=(f i).meas (deep+1) si:=by unfold Ty.go3;rw[if_pos (show si.1≤MXN by have:=HSC.out;omega)]
       rw[←this]
       exact hR3)
      have HN2:=hd0 (And.intro (hC3.cell hne c4) (And.intro (HC.out.trans hC3) (And.intro (hb3 hg) (And.intro hx3 ht3))));clear hC3 hR3 hb3 hx3 ht3 a0 a1 a2 a3 a4 HCL;go_wp2;go_roundw
      case rel=>exact⟨i+1,by omega,by go_num,hd0 ⟨HN2.out.1,c3,x3,t3,HN2.out.2.1,HN.out,HN2.out.2.2.1,HN2.out.2.2.2.1,HN2.out.2.2.2.2⟩⟩
      case measure=>simp[intOf];omega
     ·
      have g2:decide ((3000:Int)<c')=true:=decide_eq_true (by unfold MXN at hg;omega)
      have HE:=hd0 (show R3 c' x' t' ((Ty.mk k lo h0 s m f).go3 deep (c,max x t))by
       rw[HG.out,HQ.out (by
        rcases HRR.out with ⟨h1, -⟩|⟨-,h1⟩
        ·
         omega
        ·
         omega)]
       exact HRR.out)
      go_wp2;refine bodyPost_end (v:= .tuple #[]) (by simp[results,results42,go_sem]) rfl ⟨rfl,c',x',t',HC.out,HE.out,fun _=>hc',by omega,hx',ht'⟩
    ·
     have g1:decide ((i:Int)<m)=false:=decide_eq_false (by omega);have him:i=m:=by omega
     have HE:=hd0 (show R3 c' x' t' ((Ty.mk k lo h0 s m f).go3 deep (c,max x t))by
      rw[HG.out,←him,hsi]
      exact HRR.out)
     go_wp2;refine bodyPost_end (v:= .tuple #[]) (by simp[results,results42,go_sem]) rfl ⟨rfl,c',x',t',HC.out,HE.out,fun _=>hc',by omega,hx',ht'⟩
  ·
   have HE:=hd0 (show R3 (c+1) x (max t deep) ((Ty.mk k lo h0 s m f).go3 deep st)by
    right;refine⟨by omega,?_⟩;unfold Ty.go3;rcases HRX.out with ⟨h1,h2,h3⟩|⟨h1,h2⟩
    ·
     rw[if_pos (by omega),HST.out,if_neg (by omega)];show MXN<st.1+1;omega
    ·
     rw[if_neg (by omega)]
     exact h2)
   have c4:=H1.out.2;have HF:=hd0 (QEe b (c+1) x (max t deep) w1 H1.out.1.2);have g2:decide ((3000:Int)<((c+1:Nat):Int))=true:=decide_eq_true (by unfold MXN at hfull;omega);have g3:decide ((3000:Int)<(c:Int)+1)=true:=decide_eq_true (by unfold MXN at hfull;omega);have hdd:=HDC.out.2;clear HRX HST
   go_wp2_with fail
   go_loopw [6] (fun v6 wr=>v6= .int .i64 0∧wr=w1) (fun _ _=>0)
   case atStart=>exact⟨rfl,rfl⟩
   case round=>
    obtain⟨rfl,rfl⟩:=hrel
    by_cases hlti:0<m
    ·
     have g1:decide (0<m)=true:=decide_eq_true (by omega)
     go_wp2_with fail
     refine HF.out.mono ?_;rintro e wf ⟨rfl,rfl⟩;go_wp2;refine bodyPost_end (v:= .tuple #[]) (by simp[results,results42,go_sem]) rfl ⟨rfl,c+1,x,max t deep,H1.out.1,HE.out,fun _=>by omega,by omega,hx,by omega⟩
    ·
     have g1:decide (0<m)=false:=decide_eq_false (by omega);go_wp2;refine bodyPost_end (v:= .tuple #[]) (by simp[results,results42,go_sem]) rfl ⟨rfl,c+1,x,max t deep,H1.out.1,HE.out,fun _=>by omega,by omega,hx,by omega⟩
end Go.Proofs.YtjnclkakbopnjaaGreatDoor
