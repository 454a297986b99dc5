/- XFreA, XOffA -/
import Derived.Test.YtjnclkakbopnjaaGreatDoorLot44
set_option linter.unusedSimpArgs false
set_option linter.unusedVariables false
namespace Go.Proofs.YtjnclkakbopnjaaGreatDoor
open Go.Proofs.Tryz
open Go.RowKit
def QAy(l:List ByteArray)(x:ByteArray):Bool:=l.any fun y=>y.toList==x.toList
def Ex.fre:Ex→(ByteArray→Bool)→List ByteArray→List ByteArray
 | .mk k num s ty np pn pt nk ks n f,P,out=>
  (List.range n).foldl (fun o i=>(f i).fre (fun x=>P x||QAy ((Ex.mk k num s ty np pn pt nk ks n f).inn i) x) o) (if(k==3)&&(!P s&&!QAy out s) then out++ [s] else out)
 | .no,_,out=>out
def Ex.siz:Ex→Nat
 | .mk _ _ _ _ _ _ _ _ _ n f=>1+((List.range n).map fun i=>(f i).siz).sum
 | .no=>1
def Ex.fitB:Ex→Bool
 | .mk k _ s _ np _ _ _ _ n f=>decide (np≤6)&&(k !=3||n==0)&&(k !=6||(n==2&&((f 0).k !=8||(f 0).nm.toList== []||(f 0).nm.toList==s.toList)))&&(k !=8||n==1)&&(k !=9||(n==1||n==2))&&(List.range n).all fun i=>(f i).fitB
 | .no=>true
theorem Ex.siz_mk(k num:Int)(s:ByteArray)(ty:Ty)(np:Nat)(pn:Nat→ByteArray)(pt:Nat→Ty)(nk:Nat)(ks:Nat→ByteArray)(n:Nat)(f:Nat→Ex):(Ex.mk k num s ty np pn pt nk ks n f).siz=1+((List.range n).map fun i=>(f i).siz).sum:=by rw[Ex.siz]
theorem QEy(n:Nat)(g:Nat→Nat):((List.range (n+1)).map g).sum=((List.range n).map g).sum+g n:=by rw[List.range_succ,List.map_append,List.sum_append];simp
theorem QTS {n m:Nat}(h:m≤n)(g:Nat→Nat):((List.range m).map g).sum≤((List.range n).map g).sum:=by
 induction h with
 |refl=>exact Nat.le_refl _
 |step _ ih=>rw[QEy];omega
theorem QKF {n i:Nat}(h:i<n)(g:Nat→Nat):((List.range i).map g).sum+g i≤((List.range n).map g).sum:=by
 have:=QTS (show i+1≤n from h) g;rw[QEy]at this;exact this
def Ex.freTo(e:Ex)(P:ByteArray→Bool)(out:List ByteArray)(i:Nat):List ByteArray:=
 (List.range i).foldl (fun o j=>(e.arg j).fre (fun x=>P x||QAy (e.inn j) x) o) (if(e.k==3)&&(!P e.nm&&!QAy out e.nm) then out++ [e.nm] else out)
theorem Ex.fre_eq(e:Ex)(P:ByteArray→Bool)(out:List ByteArray):e.fre P out=e.freTo P out e.len:=by
 rcases e with ⟨k,num,s,ty,np,pn,pt,nk,ks,n,f⟩|_
 case no=>rfl
 rw[Ex.fre];rfl
theorem Ex.freTo_succ(e:Ex)(P:ByteArray→Bool)(out:List ByteArray)(i:Nat):e.freTo P out (i+1)=(e.arg i).fre (fun x=>P x||QAy (e.inn i) x) (e.freTo P out i):=by
 unfold Ex.freTo;rw[List.range_succ,List.foldl_append];rfl
theorem Ex.freTo_zero(e:Ex)(P:ByteArray→Bool)(out:List ByteArray):e.freTo P out 0=if(e.k==3)&&(!P e.nm&&!QAy out e.nm) then out++ [e.nm] else out:=rfl
theorem Ex.siz_eq(e:Ex):e.siz=1+((List.range e.len).map fun i=>(e.arg i).siz).sum:=by
 rcases e with ⟨k,num,s,ty,np,pn,pt,nk,ks,n,f⟩|_
 case no=>rfl
 rw[Ex.siz_mk];rfl
theorem Ex.fre_len:∀(e:Ex) (P:ByteArray→Bool) (out:List ByteArray),(e.fre P out).length≤out.length+e.siz:=by
 intro e
 induction e with
 |no=>intro P out;exact Nat.le_add_right _ _
 |mk k num s ty np pn pt nk ks n f ih=>
  intro P out;rw[Ex.fre_eq,Ex.siz_eq]
  have key:∀i,((Ex.mk k num s ty np pn pt nk ks n f).freTo P out i).length≤out.length+(1+((List.range i).map fun j=>((Ex.mk k num s ty np pn pt nk ks n f).arg j).siz).sum):=by
   intro i
   induction i with
   |zero=>
    rw[Ex.freTo_zero]
    split <;> simp
   |succ i ihi=>
    rw[Ex.freTo_succ,QEy];have:=ih i (fun x=>P x||QAy ((Ex.mk k num s ty np pn pt nk ks n f).inn i) x) ((Ex.mk k num s ty np pn pt nk ks n f).freTo P out i);show(Ex.fre (f i) _ _).length≤out.length+(1+(_+(f i).siz));omega
  exact key _
theorem Ex.freTo_len(e:Ex)(P:ByteArray→Bool)(out:List ByteArray)(i:Nat):(e.freTo P out i).length≤out.length+(1+((List.range i).map fun j=>(e.arg j).siz).sum):=by
 induction i with
 |zero=>
  rw[Ex.freTo_zero]
  split <;> simp
 |succ i ihi=>
  rw[Ex.freTo_succ,QEy];have:=(e.arg i).fre_len (fun x=>P x||QAy (e.inn i) x) (e.freTo P out i);omega
theorem Ex.fre_fn(e:Ex)(s:ByteArray)(h:e.k=8)(hs:(e.nm.toList== [])=false)(he:e.nm.toList=s.toList)(P:ByteArray→Bool)(out:List ByteArray):e.fre (fun x=>P x||QAy [s] x) out=e.fre P out:=by
 rw[Ex.fre_eq,Ex.fre_eq]
 have key:∀i,e.freTo (fun x=>P x||QAy [s] x) out i=e.freTo P out i:=by
  intro i
  induction i with
  |zero=>
   rw[Ex.freTo_zero,Ex.freTo_zero];have h3:(e.k==3)=false:=by rw[h];rfl
   rw[h3];rfl
  |succ i ih=>
   rw[Ex.freTo_succ,Ex.freTo_succ,ih]
   congr 1
   funext x
   have hin:QAy [s] x=true→QAy (e.inn i) x=true:=by
    intro hm;rcases e with ⟨k,num,nm,ty,np,pn,pt,nk,ks,n,f⟩|_
    case no=>exact absurd h (by decide)
    have h:k=8:=h;have hs:(nm.toList== [])=false:=hs;have he:nm.toList=s.toList:=he
    have e:Ex.inn (Ex.mk k num nm ty np pn pt nk ks n f) i=(if nm.toList== [] then [] else [nm])++(List.range np).map pn:=by
     show(if k=6 then _ else if k=8 then _ else _)=_;rw[if_neg (by omega),if_pos h]
    rw[e,hs];unfold QAy at hm ⊢;simp only[List.any_cons,List.any_nil,Bool.or_false]at hm;simp[he,eq_of_beq hm]
   cases hm:QAy [s] x with
   |false=>rw[Bool.or_false]
   |true=>rw[hin hm];simp
 exact key _
theorem QIu {k num tk tl th:Int}{s ts:ByteArray}{tn np nk n:Nat}(h:QAI k num tk tl th s ts tn np nk n=true):np=0:=by
 unfold QAI at h;simp only[Bool.and_eq_true,beq_iff_eq]at h;omega
theorem Ex.fits_np(e:Ex)(l:ByteArray)(h:e.fits l=true):e.npr≤6:=by
 rcases e with ⟨k,num,s,⟨tk,tl,th,ts,tn,tf⟩|_,np,pn,pt,nk,ks,n,f⟩|_
 case mk.no=>simp[Ex.fits,Ex.fNum,Ex.fName,Ex.fNone,Ex.fPar,Ex.fType,Ex.fKeys,Ty.ok]at h
 case no=>exact Nat.zero_le _
 show np≤6;unfold Ex.fits at h;dsimp only at h;have hz {k num tk tl th:Int} {s ts:ByteArray} {tn nk n:Nat} (h:QAI k num tk tl th s ts tn np nk n=true):np≤6:=by have:=QIu h;omega
 by_cases k1:k=1
 ·
  rw[if_pos k1]at h;simp only[Bool.and_eq_true]at h;exact hz h.1
 rw[if_neg k1]at h
 by_cases k2:k=2
 ·
  rw[if_pos k2]at h;simp only[Bool.and_eq_true]at h;exact hz h.1.1
 rw[if_neg k2]at h
 by_cases k3:k=3
 ·
  rw[if_pos k3]at h;simp only[Bool.and_eq_true]at h;exact hz h.1.1
 rw[if_neg k3]at h
 by_cases k4:k=4
 ·
  rw[if_pos k4]at h;simp only[Bool.and_eq_true]at h;exact hz h.1.1
 rw[if_neg k4]at h
 by_cases k5:k=5
 ·
  rw[if_pos k5]at h;simp only[Bool.and_eq_true]at h;exact hz h.1
 rw[if_neg k5]at h
 by_cases k6:k=6
 ·
  rw[if_pos k6]at h;simp only[Bool.and_eq_true]at h;exact hz h.1.1
 rw[if_neg k6]at h
 by_cases k7:k=7
 ·
  rw[if_pos k7]at h;simp only[Bool.and_eq_true]at h;exact hz h.1
 rw[if_neg k7]at h
 by_cases k8:k=8
 ·
  rw[if_pos k8]at h;simp only[Bool.and_eq_true]at h;have h4:=h.2;unfold QD0 at h4;simp only[Bool.and_eq_true,decide_eq_true_eq]at h4;omega
 rw[if_neg k8]at h
 by_cases k9:k=9
 ·
  rw[if_pos k9]at h;simp only[Bool.and_eq_true]at h;exact hz h.1.1
 rw[if_neg k9]at h
 by_cases k10:k=10
 ·
  rw[if_pos k10]at h;simp only[Bool.and_eq_true]at h;exact hz h.1.1
 rw[if_neg k10]at h
 by_cases k11:k=11
 ·
  rw[if_pos k11]at h;simp only[Bool.and_eq_true]at h;exact hz h.1
 rw[if_neg k11]at h
 by_cases k12:k=12
 ·
  rw[if_pos k12]at h;simp only[Bool.and_eq_true]at h;exact hz h.1.1.1.1
 rw[if_neg k12]at h
 by_cases k13:k=13
 ·
  rw[if_pos k13]at h;simp only[Bool.and_eq_true]at h;exact hz h.1
 rw[if_neg k13]at h
 by_cases k14:k=14
 ·
  rw[if_pos k14]at h;simp only[Bool.and_eq_true]at h;exact hz h.1.1
 rw[if_neg k14]at h
 by_cases k17:k=17
 ·
  rw[if_pos k17]at h;simp only[Bool.and_eq_true]at h;exact hz h.1.1
 rw[if_neg k17]at h
 cases h
theorem Ex.fits_k(e:Ex)(l:ByteArray)(h:e.fits l=true):(e.k=3→e.len=0)∧(e.k=6→e.len=2)∧(e.k=8→e.len=1∧(e.nm.toList= []∨e.nm.toList=l.toList))∧(e.k=9→e.len=1∨e.len=2):=by
 rcases e with ⟨k,num,s,ty,np,pn,pt,nk,ks,n,f⟩|_
 case no=>exact absurd h (by simp[Ex.fits])
 show(k=3→n=0)∧(k=6→n=2)∧(k=8→n=1∧(s.toList= []∨s.toList=l.toList))∧(k=9→n=1∨n=2);refine⟨fun e=>?_,fun e=>?_,fun e=>?_,fun e=>?_⟩ <;> subst e
 ·
  have h:(Ex.fName _&&((n:Int)==0)&&QAs s)=true:=h;simp only[Bool.and_eq_true,beq_iff_eq]at h;omega
 ·
  have h:(Ex.fName _&&((n:Int)==2)&&QAs s)=true:=h;simp only[Bool.and_eq_true,beq_iff_eq]at h;omega
 ·
  have h:(Ex.fPar _&&((n:Int)==1)&&((s.toList== [])||(s.toList==l.toList))&&QD0 np pn pt)=true:=h;simp only[Bool.and_eq_true,Bool.or_eq_true,beq_iff_eq]at h;exact⟨by omega,h.1.2⟩
 ·
  have h:(Ex.fName _&&(((n:Int)==1)||((n:Int)==2))&&((s.toList== [])||QAs s))=true:=h;simp only[Bool.and_eq_true,Bool.or_eq_true,beq_iff_eq]at h;omega
theorem Ex.fitB_eq(e:Ex):e.fitB=(decide (e.npr≤6)&&(e.k !=3||e.len==0)&&(e.k !=6||(e.len==2&&((e.arg 0).k !=8||(e.arg 0).nm.toList== []||(e.arg 0).nm.toList==e.nm.toList)))&&(e.k !=8||e.len==1)&&(e.k !=9||(e.len==1||e.len==2))&&(List.range e.len).all fun i=>(e.arg i).fitB):=by
 rcases e with ⟨k,num,s,ty,np,pn,pt,nk,ks,n,f⟩|_
 case no=>rfl
 rw[Ex.fitB];rfl
theorem Ex.ok_fn(e:Ex)(l:ByteArray)(h:e.ok l=true)(h8:e.k=8):e.nm.toList= []∨e.nm.toList=l.toList:=by
 rw[Ex.ok_eq]at h
 cases ho:e.orB with
 |true=>
  unfold Ex.orB Ex.orT at ho;simp only[Bool.and_eq_true]at ho;have:=eq_of_beq ho.1.1.1.1.1;omega
 |false=>
  rw[ho]at h;simp only[Bool.false_eq_true,if_false,Bool.and_eq_true]at h;exact((e.fits_k l h.1).2.2.1 h8).2
theorem Ex.bare_fit(e:Ex)(h:e.bare=true):e.fitB=true:=by
 rcases e with ⟨k,num,s,⟨tk,tl,th,ts,tn,tf⟩|_,np,pn,pt,nk,ks,n,f⟩|_
 case mk.no=>exact absurd h (by simp[Ex.bare])
 case no=>rfl
 unfold Ex.bare at h;rw[Bool.and_eq_true]at h;have h3:=eq_of_beq h.2;subst h3;have hz:=QIu h.1
 have hn:n=0:=by
  have:=h.1;unfold QAI at this;simp only[Bool.and_eq_true,beq_iff_eq]at this;omega
 subst hn hz;rw[Ex.fitB];simp
theorem Ex.ok_fit(e:Ex):∀l,e.ok l=true→e.fitB=true:=by
 induction e using Ex.induct2 with
 |h0=>intro _ _;rfl
 |h e ih1 ih2=>
 intro l h;have h0:=h;rw[Ex.ok_eq]at h;rw[Ex.fitB_eq]
 cases ho:e.orB with
 |true=>
  rw[ho]at h;simp only[if_true,Bool.and_eq_true]at h;have hor:=ho;unfold Ex.orB Ex.orT at hor;simp only[Bool.and_eq_true,beq_iff_eq]at hor;obtain⟨⟨⟨⟨⟨k6, -⟩,l2⟩,k5⟩,l3⟩,⟨⟨-,b0⟩,b1⟩⟩:=hor;have l2:e.len=2:=by omega
  have l3:(e.arg 1).len=3:=by omega
  have n0:e.npr=0:=by
   have:=h.1.1.1;rcases e with ⟨k,num,s,⟨tk,tl,th,ts,tn,tf⟩|_,np,pn,pt,nk,ks,n,f⟩|_
   ·
    exact QIu this
   ·
    exact absurd this (by simp[Ex.fName])
   ·
    rfl
  have n1:(e.arg 1).npr=0:=by
   have:=h.1.1.2;generalize e.arg 1=x at*;rcases x with ⟨k,num,s,⟨tk,tl,th,ts,tn,tf⟩|_,np,pn,pt,nk,ks,n,f⟩|_
   ·
    exact QIu this
   ·
    exact absurd this (by simp[Ex.fNone])
   ·
    rfl
  have f1:(e.arg 1).fitB=true:=by
   rw[Ex.fitB_eq,n1,k5,l3]
   have e3:(List.range 3).all (fun i=>((e.arg 1).arg i).fitB)=true:=by
    simp only[List.range_succ,List.range_zero,List.nil_append,List.all_append,List.all_cons,List.all_nil,Bool.and_true,Bool.and_eq_true];exact⟨⟨Ex.bare_fit _ b0,Ex.bare_fit _ b1⟩,ih2 1 2 _ h.2⟩
   rw[e3];rfl
  have e2:(List.range 2).all (fun i=>(e.arg i).fitB)=true:=by
   simp only[List.range_succ,List.range_zero,List.nil_append,List.all_append,List.all_cons,List.all_nil,Bool.and_true,Bool.and_eq_true];exact⟨ih1 0 _ h.1.2,f1⟩
  have efn:((e.arg 0).k !=8||(e.arg 0).nm.toList== []||(e.arg 0).nm.toList==e.nm.toList)=true:=by
   cases h8:(e.arg 0).k==8 with
   |false=>simp[bne,h8]
   |true=>
    have:=(e.arg 0).ok_fn _ h.1.2 (eq_of_beq h8)
    have e0:(e.arg 0).nm.toList= []:=by
     rcases this with h|h
     ·
      exact h
     ·
      rw[h];first|rfl|decide|simp
    simp[e0]
  rw[l2,n0,k6,e2,efn];rfl
 |false=>
  rw[ho]at h;simp only[Bool.false_eq_true,if_false,Bool.and_eq_true,List.all_eq_true]at h;have hk:=e.fits_k l h.1;have hn:=e.fits_np l h.1;have hall:(List.range e.len).all (fun i=>(e.arg i).fitB)=true:=List.all_eq_true.2 fun i hi=>ih1 i _ (h.2 i hi)
  have efn:(e.k !=6||(e.len==2&&((e.arg 0).k !=8||(e.arg 0).nm.toList== []||(e.arg 0).nm.toList==e.nm.toList)))=true:=by
   cases h6:e.k==6 with
   |false=>simp[bne,h6]
   |true=>
    have k6:=eq_of_beq h6;have l2:=hk.2.1 k6;have h00:=h.2 0 (List.mem_range.2 (by omega));have hl:QBM e.k e.nm 0=e.nm:=by unfold QBM;rw[k6];rfl
    rw[hl]at h00
    cases h8:(e.arg 0).k==8 with
    |false=>simp[bne,h6,h8,l2]
    |true=>
     have:=(e.arg 0).ok_fn _ h00 (eq_of_beq h8);rcases this with h|h <;> simp[bne,h6,h8,l2,h]
  rw[hall,efn,Bool.and_true,Bool.and_true];have e1:decide (e.npr≤6)=true:=decide_eq_true hn
  have e3:(e.k !=3||e.len==0)=true:=by
   cases h3:e.k==3 with
   |false=>simp[bne,h3]
   |true=>simp[bne,h3,hk.1 (eq_of_beq h3)]
  have e8:(e.k !=8||e.len==1)=true:=by
   cases h3:e.k==8 with
   |false=>simp[bne,h3]
   |true=>simp[bne,h3,(hk.2.2.1 (eq_of_beq h3)).1]
  have e9:(e.k !=9||(e.len==1||e.len==2))=true:=by
   cases h3:e.k==9 with
   |false=>simp[bne,h3]
   |true=>rcases hk.2.2.2 (eq_of_beq h3)with h|h <;> simp[bne,h3,h]
  rw[e1,e3,e8,e9];rfl
theorem Ex.fit_out(e:Ex)(h:e.fitB=true):e.npr≤6∧(e.k=3→e.len=0)∧(e.k=6→e.len=2)∧(e.k=6→(e.arg 0).k=8→((e.arg 0).nm.toList== [])=false→(e.arg 0).nm.toList=e.nm.toList)∧(e.k=8→e.len=1)∧(e.k=9→e.len=1∨e.len=2)∧∀i,i<e.len→(e.arg i).fitB=true:=by
 rw[Ex.fitB_eq]at h;simp only[Bool.and_eq_true,Bool.or_eq_true,bne_iff_ne,ne_eq,beq_iff_eq,decide_eq_true_eq,List.all_eq_true,List.mem_range,and_assoc]at h;obtain⟨h1,h2,h3,h4,h5,h6⟩:=h;refine⟨h1,fun k=>h2.resolve_left (fun n=>n k),fun k=>(h3.resolve_left (fun n=>n k)).1,fun k k8 kn=>?_,fun k=>h4.resolve_left (fun n=>n k),fun k=>h5.resolve_left (fun n=>n k),h6⟩;rcases (h3.resolve_left (fun n=>n k)).2 with (h|h)|h
 ·
  exact absurd k8 h
 ·
  rw[h]at kn;exact absurd kn (by decide)
 ·
  exact h
theorem QN8 {n:Nat}{g:Nat→Nat × Nat→Nat × Nat}{st:Nat × Nat}{c:Nat→Nat}(hg:∀i s,(g i s).1≤MXN→s.1+c i≤(g i s).1)(h:(QAU n g st).1≤MXN):st.1+((List.range n).map c).sum≤(QAU n g st).1:=by
 induction n with
 |zero=>simp[QAU]
 |succ n ih=>
  rw[QAp]at h ⊢
  split at h
  ·
   rename_i hc;rw[if_pos hc,QEy];have:=ih hc;have:=hg n _ h;omega
  ·
   rename_i hc;exact absurd h hc
theorem Ex.meas_siz:∀(e:Ex) (deep:Nat) (st:Nat × Nat),(e.meas deep st).1≤MXN→st.1+e.siz≤(e.meas deep st).1
 | .mk k num s ty np pn pt nk ks n f,deep,st,h=>by
  rw[Ex.meas_mk]at h ⊢
  split at h
  ·
   rename_i hst;rw[if_pos hst,Ex.siz_mk];have h1:=QN8 (c:=fun i=>(f i).siz) (fun i s hs=>Ex.meas_siz (f i) (deep+1) s hs) h
   have h2:st.1+1≤(Ex.pre np pt ty (st.1+1,max st.2 deep)).1:=by
    unfold Ex.pre;refine Nat.le_trans ?_ (QCN np _ _ (fun i s=>Nat.le_of_succ_le (Ty.meas_grow (pt i) 1 s)));unfold Ty.some_
    split
    ·
     exact Nat.le_refl _
    ·
     exact Nat.le_of_succ_le (Ty.meas_grow ty 1 (st.1+1,max st.2 deep))
   omega
  ·
   rename_i hst;exact absurd h hst
 | .no,deep,st,h=>Nat.le_refl _
theorem Ex.check_fit(e:Ex)(h:e.check=0):e.fitB=true∧e.siz≤3000:=by
 unfold Ex.check QBp at h
 split at h
 ·
  exact absurd h (by decide)
 ·
  rename_i h1
  split at h
  ·
   exact absurd h (by decide)
  ·
   split at h
   ·
    rename_i h3;refine⟨e.ok_fit _ h3,?_⟩;have:=e.meas_siz 1 (0,0) (by omega);unfold MXN at h1;omega
   ·
    exact absurd h (by decide)
def Off(G:Nat→Prop)(w:World)(P:World→Prop):Prop:=
 ∀w',w.heap.size≤w'.heap.size→(∀b,b<w.heap.size→¬G b→w'.heap[b]?=w.heap[b]?)→P w'
theorem Off.out {G:Nat→Prop}{w:World}{P:World→Prop}(h:Off G w P):P w:=h w (Nat.le_refl _) (fun _ _ _=>rfl)
theorem Off.step {G G':Nat→Prop}{w w':World}{P:World→Prop}(h:Off G w P)(hs:w.heap.size≤w'.heap.size)(hk:∀b,b<w.heap.size→¬G b→w'.heap[b]?=w.heap[b]?)(hG:∀b,b<w.heap.size→G' b→G b):Off G' w' P:=
 fun w2 h2 k2=>h w2 (Nat.le_trans hs h2) (fun b hb hg=>(k2 b (Nat.lt_of_lt_of_le hb hs) (fun hg'=>hg (hG b hb hg'))).trans (hk b hb hg))
theorem Off.under {G:Nat→Prop}{w w':World}{P:World→Prop}(h:Off G w P)(hb:Below w.heap.size w w'):Off G w' P:=h.step hb.size (fun b hb' _=>hb.block b hb') (fun _ _ h=>h)
theorem Off.imp {G:Nat→Prop}{w:World}{P R:World→Prop}(h:Off G w P)(k:∀w,P w→R w):Off G w R:=fun w' h1 h2=>k w' (h w' h1 h2)
theorem Off.less {G G':Nat→Prop}{w:World}{P:World→Prop}(h:Off G w P)(hG:∀b,G' b→G b):Off G' w P:=h.step (Nat.le_refl _) (fun _ _ _=>rfl) (fun b _=>hG b)
theorem Off.box {G:Nat→Prop}{w:World}{b:Nat}{X:Array Value}(h:BoxAt w b X)(hg:¬G b):Off G w (fun w=>BoxAt w b X):=by
 intro w' h1 h2 i v hi;have hc:=h i v hi;have:=h2 b (World.block_lt_of_cell? w _ hc) hg;rw[World.cell?_of_block (w:=w) (a:=⟨b,i,none⟩) this];exact hc
theorem Off.new {G:Nat→Prop}{w:World}{P:World→Prop}(h:Off G w P)(o:Obj):Off (fun b=>G b∨b=w.heap.size) (w.alloc o) P:=
 h.step (by simp) (fun b hb _=>((Below.refl w.heap.size w).alloc (Nat.le_refl _) o).block b hb) (fun b hb h=>by rcases h with h|h;exact h;omega)
end Go.Proofs.YtjnclkakbopnjaaGreatDoor
