/- The law SyntaxForms of skerrylaw04 returns true, and its arguments read afterwards as before, for every expression, type and string.
   Conditions: the arguments hold at most 1048576 values and letters together (the second form's bound); the listed variables of Go's library hold what their initialisers lay (the given tie holds that against the program's text). -/
import Derived.Test.YtjnclkakbopnjaaGreatDoorLot51
set_option linter.unusedSimpArgs false
set_option linter.unusedVariables false
namespace Go.Proofs.YtjnclkakbopnjaaGreatDoor
open Go.Proofs.Tryz
open Go.RowKit Go.ChangeShapes Go.WideShapes Go.ChangeAt Go.Lib
theorem jf10:(Rows.syntaxFormsUptoRow.inPlace==prog.inPlace 3)=true:=by kernel_rfl
theorem jf11:(Rows.syntaxFormsUptoRow.unfollowed==prog.unfollowed 3)=true:=by kernel_rfl
theorem jf12:(Rows.syntaxFormsUptoRow.recurses==prog.recurses 3)=true:=by kernel_rfl
theorem jf13:(Rows.syntaxFormsUptoRow.named==prog.varsNamed 3)=true:=by kernel_rfl
theorem QRI:joinedFacts prog 3 Tryz.f3 (Rows.OpenSpec.upto Rows.syntaxFormsSpec).bare Rows.syntaxFormsUptoRow=true:=by
 unfold joinedFacts;simp only[Bool.and_eq_true];exact⟨⟨⟨⟨⟨⟨⟨⟨⟨⟨⟨⟨⟨⟨⟨⟨⟨⟨⟨⟨⟨⟨⟨⟨⟨⟨⟨⟨⟨⟨⟨(by kernel_rfl),(by kernel_rfl)⟩,(by kernel_rfl)⟩,(by kernel_rfl)⟩,(by kernel_rfl)⟩,(by kernel_rfl)⟩,(by kernel_rfl)⟩,(by kernel_rfl)⟩,(by kernel_rfl)⟩,jf10⟩,jf11⟩,jf12⟩,jf13⟩,(by kernel_rfl)⟩,(by kernel_rfl)⟩,(by kernel_rfl)⟩,(by kernel_rfl)⟩,(by kernel_rfl)⟩,(by kernel_rfl)⟩,(by kernel_rfl)⟩,(by kernel_rfl)⟩,(by kernel_rfl)⟩,(by kernel_rfl)⟩,(by kernel_rfl)⟩,(by kernel_rfl)⟩,(by kernel_rfl)⟩,(by kernel_rfl)⟩,(by kernel_rfl)⟩,(by kernel_rfl)⟩,(by kernel_rfl)⟩,(by kernel_rfl)⟩,(by kernel_rfl)⟩
theorem QO1:Rows.SyntaxFormsUptoSaid:=
 OpenClaim.holds_of_cond 3 Tryz.f3 rfl rfl rfl rfl rfl rfl rfl ⟨rfl,rfl,rfl,rfl,rfl⟩ rfl rfl rfl rfl rfl (by kernel_rfl) func3 QRI
  (of_decide_eq_true (by kernel_rfl)) (by unfold Func.isWrapper;first|(rw[if_pos (by decide+kernel)];kernel_rfl)|(rw[if_neg (by decide+kernel)];exact⟨rfl,rfl⟩))
  (fun os started H enc _ F=>by rw[OpenClaim.pre_eq_preRow];exact QRW os started H enc F)
theorem QMS(f:FuncId)(fn:Func)(hf:Tryz.pinned.checked.prog.funcNamed "skerry/skerrylaw04.SyntaxForms" =some f)(hfn:Tryz.pinned.checked.prog.funcs[f]?=some fn):
  true=Tryz.pinned.checked.prog.looks []∧∀(j:Nat) t,fn.params[j]?=some t→Tryz.pinned.checked.prog.wantsStandIn t=false:=by
 obtain rfl:f=3:=Option.some.inj ((show prog.funcNamed "skerry/skerrylaw04.SyntaxForms" =some 3 by kernel_rfl).symm.trans hf) |>.symm;obtain rfl:fn=Tryz.f3:=(Option.some.inj (func3.symm.trans hfn)).symm;refine⟨by kernel_rfl,fun j t ht=>?_⟩;rw[params3]at ht;have hm:t=29∨t=24∨t=9:=by simpa using Array.mem_of_getElem? ht
 rcases hm with rfl|rfl|rfl
 ·
  exact(show prog.wantsStandIn 29=false by kernel_rfl)
 ·
  exact(show prog.wantsStandIn 24=false by kernel_rfl)
 ·
  exact(show prog.wantsStandIn 9=false by kernel_rfl)
theorem syntaxForms_upto_card:Rows.SyntaxFormsUptoCardSaid:=
 Claim7.holds_tied_plain_at .later [] _ _ _ _ QO1 (fun _ h=>by cases h) (by kernel_rfl) (fun _ h=>by cases h) syntaxFormsUpto_row_tie rfl ⟨rfl,rfl⟩ (by kernel_rfl) rfl QMS (by kernel_rfl)
#print axioms syntaxForms_upto_card
end Go.Proofs.YtjnclkakbopnjaaGreatDoor
