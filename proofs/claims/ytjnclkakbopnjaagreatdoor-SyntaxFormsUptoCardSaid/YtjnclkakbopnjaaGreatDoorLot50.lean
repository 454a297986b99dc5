/- XFrmR -/
import Derived.Test.YtjnclkakbopnjaaGreatDoorLot49
import Derived.Test.YtjnclkakbopnjaaGreatDoorCards
import Derived.Test.YtjnclkakbopnjaaGreatDoorTie
import Derived.ProofKit
import Derived.Deep.DeepHandedRow
import Derived.Deep.DeepWitnessRowRef
import Derived.Lib.LaidIn
import Derived.Lib.LaidTab
import Derived.Stop.LaidErr
import Derived.Carry
import Derived.Shelf.Vars
set_option linter.unusedSimpArgs false
set_option linter.unusedVariables false
set_option maxRecDepth 1000000
namespace Go.Proofs.YtjnclkakbopnjaaGreatDoor
open Go.Proofs.Tryz
open Go.RowKit Go.ChangeShapes Go.WideShapes Go.ChangeAt Go.Lib
theorem rOwn:ownKnob prog.godebug=none:=by kernel_rfl
theorem QId:laidOutB prog=true:=by kernel_rfl
theorem QTF: "*" ++ "errors.errorString" = "*errors.errorString" :=by decide
theorem QOc(u:TypeId)(h:prog.typeName? 3 u=some "*errors.errorString"):u=358:=
 typeName_ptr_named (nm:= "errors.errorString") (by rw[QTF];kernel_rfl) (by kernel_rfl) (by decide) u (by rw[QTF];exact h)
theorem QTK:prog.globalNamed "strconv.ErrSyntax" =some 3:=by kernel_rfl
theorem QTJ:prog.globalNamed "strconv.ErrRange" =some 4:=by kernel_rfl
theorem QUF:prog.globalNamed "internal/strconv.uint64pow10" =some 5:=by kernel_rfl
theorem QUG:prog.globalNamed "strings.asciiSpace" =some 0:=by kernel_rfl
theorem QUK:(prog.globals[3]?).map (·.type)=some 247:=by kernel_rfl
theorem QUI:(prog.globals[4]?).map (·.type)=some 247:=by kernel_rfl
theorem QUH:(prog.globals[5]?).map (·.type)=some 353:=by kernel_rfl
theorem QUJ:(prog.globals[0]?).map (·.type)=some 141:=by kernel_rfl
theorem rc1:prog.cellsOf 360=1:=by kernel_rfl
theorem rc2:prog.cellsOf 329=1:=by kernel_rfl
theorem rc3:prog.cellsOf 353=20:=by kernel_rfl
theorem rc4:prog.cellsOf 5=1:=by kernel_rfl
theorem rc5:prog.cellsOf 141=256:=by kernel_rfl
theorem QNb {W:World}(hL:laidMet prog Rows.syntaxFormsUptoRow.laid W)(hsh:W.ShapedOpen prog):Env W∧9≤W.heap.size:=by
 have h2:laidMet prog (("internal/strconv.uint64pow10",Lib.tabData .u64 Lib.pow10Tab)::_) W:=hL.tail.tail;have h3:=hL.tail.tail.tail;have h4:=h3.tail;have h6:laidMet prog (("strings.asciiSpace",Lib.tabData .u8 Lib.asciiSpaceTab)::_) W:=h4.tail.tail;obtain⟨a0,s0,hv0, -, -, -⟩:=laid_sentinel h3 QTJ QUI underlying247 QOc underlying358 underlying360 rfl rfl underlying9 rc1 QL4;obtain⟨a1,s1,hv1, -, -, -⟩:=laid_sentinel h4 QTK QUK underlying247 QOc underlying358 underlying360 rfl rfl underlying9 rc1 QL4;obtain⟨mx,hmx⟩:∃m,W.cell? ⟨2,0,none⟩=some (.int .i64 m):=cell_of_shapedOpen_int (zero:=#[.int .i64 0]) hsh (by decide+kernel) (by kernel_rfl) rfl (by kernel_rfl) (by kernel_rfl) underlying3;obtain⟨cs,h8, -⟩:=hsh.1 8 _ _ (by decide+kernel) (show((begin prog (fun _ _=>0) default).world.heap[8]?).bind Obj.row?=some (#[.pointer none],214)by kernel_rfl)
 refine⟨⟨⟨_,by have h0:=World.var?_cell QTK hv1 0;simpa using h0,Or.inr ⟨_,_,rfl⟩⟩,⟨_,by have h0:=World.var?_cell QTJ hv0 0;simpa using h0,Or.inr ⟨_,_,rfl⟩⟩,
  Lib.tabIs_of_head QUF QUH underlying353 underlying329 rc2 rc3 h2,Lib.tabIs_of_head QUG QUJ underlying141 underlying5 rc4 rc5 h6,⟨mx,hmx⟩⟩,?_⟩
 exact(Array.getElem?_eq_some_iff.1 h8).1
theorem QNU {H:Type}(enc:TypeId × Value→H)(W:World)(base:Nat)(args:Array Value)(ds gs:List (DataW H))(before:List MemPlace)
  (hW:DataW.Whole enc prog Tryz.f3.params.toList Rows.syntaxFormsSpec.vars false W args.toList ds gs before) (hk:Rows.uptoSmall H (ds++gs)=true)
  (hL:laidMet prog Rows.syntaxFormsUptoRow.laid W) (hsh:W.ShapedOpen prog) (hstr:∀v,args[2]?=some v→∃s,v= .string s):
  Calls prog 3 args W fun e W'=>∃v,e= .returned v∧Rows.syntaxFormsSpec.post enc prog Tryz.f3 false true false false W args v W':=by
 have hW':=hW;obtain⟨p,q,hA0,hV,rfl, -, -⟩:=hW;have hA:DataW.TrodAll enc prog W 0 (fun _=>true) true Tryz.f3.params.toList args.toList ds p:=hA0;rw[params3]at hA;obtain⟨v0,v1,v2,d0,d1,d2,p0,p1,p2,rfl,rfl,rfl,h0,h1,h2⟩:=trodAll_three hA;obtain⟨rfl,rfl⟩:=trodVars_none hV;clear hA0;simp only[List.append_nil]at hW' hk;have h0k:=h0;obtain⟨fuel0,hf0⟩:=h0;have h1k:=h1;obtain⟨fuel1,hf1⟩:=h1;have h2k:=h2;obtain⟨fuel2,hf2⟩:=h2;have hb:Rows.uptoBulkAll [d0,d1,d2]≤1048576:=of_decide_eq_true hk;simp only[Rows.uptoBulkAll]at hb;obtain⟨X0,e0,hcs0,hX0⟩:=QRx _ _ _ hf0 (by simp only;omega)
 obtain rfl:v0= .agg X0:=by
  have hsz:X0.toList.length=11:=by
   obtain⟨k,s,num,tk,ts,tl,th,tp,tn,tc,pp,np,cp,pk,nk,ck,pa,n,ca,tf,pn,pt,ks,f,A,e, -, -, -⟩:=hX0.cells;injection e with e
   rw[e];rfl
  cases v0 with
  |agg cs=>
   congr 1
   exact Array.toList_inj.1 hcs0
  |_=>
   rw[←hcs0]at hsz;simp[Value.cells]at hsz
 obtain⟨a0,a1,a2,a3,a4,ty1,hcs1,hX1⟩:=QR1 _ _ _ hf1 (by simp only;omega)
 obtain rfl:v1= .agg #[a0,a1,a2,a3,a4]:=by
  cases v1 with
  |agg cs=>
   congr 1
   exact Array.toList_inj.1 hcs1
  |_=>simp[Value.cells]at hcs1
 obtain⟨s2,rfl⟩:=hstr v2 rfl;obtain⟨s2',hcs2,hd2, -⟩:=DataW.trod_string underlying9 hf2
 have hs2:s2.size≤1048576:=by
  have e:s2=s2':=by simpa[Value.cells]using hcs2
  have e2:d2= .lit (.string s2'.data.toList):=congrArg Prod.fst hd2;have e3:=QEX (H:=H) s2';rw[e2,e3]at hb;rw[e];omega
 obtain⟨hE,h9⟩:=QNb hL hsh;have hlt:∀x∈(p0++p1++p2),x.block<W.heap.size:=fun x hx=>by simpa using hW'.lt x hx
 refine(QNm hE h9 hX0 hX1 s2 (by omega)).mono fun e W' ⟨he,bel⟩=>?_
 subst he;refine⟨_,rfl,_,_,_, [],(p0++p1++p2), [],hW',?_,?_,rfl,bel.frame _,fun h=>by cases h⟩
 ·
  exact trodAll_cons_mk (shut_bool underlying4 _) trodAll_mk0
 ·
  rw[List.append_assoc];exact trodAll_mk3 (Below.trod QId (by kernel_rfl) (of_decide_eq_true (by kernel_rfl)) h0k bel (fun x hx=>hlt x (by simp[hx]))) (Below.trod QId (by kernel_rfl) (of_decide_eq_true (by kernel_rfl)) h1k bel (fun x hx=>hlt x (by simp[hx]))) (Below.trod QId (by kernel_rfl) (of_decide_eq_true (by kernel_rfl)) h2k bel (fun x hx=>hlt x (by simp[hx])))
noncomputable def QDq(os:Os):World:=
 let N:=(World.settled prog os).heap.size
 let w0:=World.holding prog os ⟨#[
  .cells ([9,13,1,32,133,101,160,5760,5600,8192,8202,1,8232,8233,1,8239,8287,48,12288,12288,1].map fun z=>Value.int .u16 z).toArray 265,
  .cells #[.slice (some ⟨N,0,none⟩) 7 7,.slice none 0 0,.int .i64 2] 262,
  .cells #[.string ⟨#[105,110,118,97,108,105,100,32,115,121,110,116,97,120]⟩] 360,
  .cells #[.string ⟨#[118,97,108,117,101,32,111,117,116,32,111,102,32,114,97,110,103,101]⟩] 360],#[], []⟩
 let put (h:Array Obj) (g:Nat) (cs:Array Value):Array Obj:=h.modify g fun
  | .cells _ t frozen=> .cells cs t frozen
  |o=>o
 let lits (d:DataW Unit):Array Value:=match d with
  | .agg l=>(l.map fun x=>match x with| .lit (.int k z)=>Value.int k z|_=>Value.bool false).toArray
  |_=>#[]
 let h1:=put w0.heap 0 (lits Rows.laid_strings_asciiSpace)
 let h2:=put h1 1 #[.pointer (some ⟨N+1,0,none⟩)]
 let h3:=put h2 3 #[.iface 358 (.pointer (some ⟨N+2,0,none⟩))]
 let h4:=put h3 4 #[.iface 358 (.pointer (some ⟨N+3,0,none⟩))]
 let h5:=put h4 5 (lits Rows.laid_internal_strconv_uint64pow10)
 let h6:=put h5 6 (lits Rows.laid_math_bits_deBruijn32tab)
 let h7:=put h6 7 (lits Rows.laid_math_bits_deBruijn64tab)
 {w0 with heap:=h7}
noncomputable abbrev argsR:Array Value:=#[.agg (Z9 0 ⟨#[]⟩ 0 0 ⟨#[]⟩ 0 0 none 0 0 none 0 0 none 0 0 none 0 0),.agg #[.int .i64 0,.string ⟨#[]⟩,.int .i64 0,.int .i64 0,.slice none 0 0],.string ⟨#[]⟩]
noncomputable abbrev rN0:Nat:=(World.settled prog default).heap.size
theorem QN2(os:Os)(args:Array Value):laidMet prog Rows.syntaxFormsUptoRow.laid ((QDq os).forCall (fun _ _=>0) ⟨#[],args, []⟩).memory:=
 (LaidIn.of_run (l:=Rows.syntaxFormsUptoRow.laid) [0,1,3,4,5,6,7,rN0,rN0+1,rN0+2,rN0+3] 8 (by kernel_rfl) (by kernel_rfl) (by kernel_rfl) (by kernel_rfl)).met
theorem QQK(os:Os){H:Type}(enc:TypeId × Value→H):
  (Rows.OpenSpec.upto Rows.syntaxFormsSpec).preRow enc prog Tryz.f3 Rows.syntaxFormsUptoRow.domain false Rows.syntaxFormsUptoRow.laid ((QDq os).forCall (fun _ _=>0) ⟨#[],argsR, []⟩).memory argsR:=by
 have hw:(DataW.whole enc prog ((QDq os).forCall (fun _ _=>0) ⟨#[],argsR, []⟩).memory Tryz.f3.params.toList Rows.syntaxFormsSpec.vars false argsR.toList 8).map (fun x=>(x.1,x.2.1))=
   some ([.agg [.lit (.int .i64 0),.lit (.string []),.lit (.int .i64 0),.agg [.lit (.int .i64 0),.lit (.string []),.lit (.int .i64 0),.lit (.int .i64 0),.nil],.nil,.nil,.nil],.agg [.lit (.int .i64 0),.lit (.string []),.lit (.int .i64 0),.lit (.int .i64 0),.nil],.lit (.string [])], []):=by kernel_rfl
 obtain⟨⟨x1,x2,x3⟩,hx,hx1⟩:=Option.map_eq_some_iff.1 hw;simp only[Prod.mk.injEq]at hx1;obtain⟨rfl,rfl⟩:=hx1;exact OpenSpec.preRow_of_cond 8 hx (by kernel_rfl) (fun k hk=>by cases hk;kernel_rfl) (by kernel_rfl) (QN2 os _)
end Go.Proofs.YtjnclkakbopnjaaGreatDoor
