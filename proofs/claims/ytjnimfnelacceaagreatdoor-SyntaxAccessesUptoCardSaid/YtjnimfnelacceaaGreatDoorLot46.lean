/- The law SyntaxAccesses of skerrylaw04 returns true, and its argument reads afterwards as before, for every definition of a class.
   Conditions: the argument holds at most 1048576 values and letters together (the second form's bound); the listed variables of Go's library hold what their initialisers lay (the given tie holds that against the program's text). -/
import Derived.Test.YtjnimfnelacceaaGreatDoorLot45
import Derived.Test.YtjnimfnelacceaaGreatDoorCards
import Derived.Test.YtjnimfnelacceaaGreatDoorTie
import Derived.WalkKit
import Derived.ProofKit
import Derived.OpenShut
import Derived.Deep.DeepHandedRow
import Derived.Deep.DeepWitnessRowRef
import Derived.Lib.LaidIn
import Derived.Lib.LaidTab
import Derived.Stop.LaidErr
import Derived.Carry
import Derived.Shelf.Vars
set_option linter.unusedSimpArgs false
set_option linter.unusedVariables false
namespace Go.Proofs.YtjnimfnelacceaaGreatDoor
open Go.RowKit Go.ChangeShapes Go.WideShapes Go.ChangeAt Go.Lib

theorem rOwn : ownKnob Tryz.prog.godebug = none := by kernel_rfl
theorem rLaidOut : laidOutB Tryz.prog = true := by kernel_rfl
theorem rStar : "*" ++ "errors.errorString" = "*errors.errorString" := by decide
theorem rErrRow (u : TypeId) (h : Tryz.prog.typeName? 3 u = some "*errors.errorString") : u = 303 :=
  typeName_ptr_named (nm := "errors.errorString") (by rw [rStar]; kernel_rfl) (by kernel_rfl) (by decide) u (by rw [rStar]; exact h)
theorem rgSyn : Tryz.prog.globalNamed "strconv.ErrSyntax" = some 3 := by kernel_rfl
theorem rgRng : Tryz.prog.globalNamed "strconv.ErrRange" = some 4 := by kernel_rfl
theorem rgPow : Tryz.prog.globalNamed "internal/strconv.uint64pow10" = some 5 := by kernel_rfl
theorem rgSpc : Tryz.prog.globalNamed "strings.asciiSpace" = some 0 := by kernel_rfl
theorem rtSyn : (Tryz.prog.globals[3]?).map (·.type) = some 181 := by kernel_rfl
theorem rtRng : (Tryz.prog.globals[4]?).map (·.type) = some 181 := by kernel_rfl
theorem rtPow : (Tryz.prog.globals[5]?).map (·.type) = some 297 := by kernel_rfl
theorem rtSpc : (Tryz.prog.globals[0]?).map (·.type) = some 152 := by kernel_rfl
theorem rc1 : Tryz.prog.cellsOf 305 = 1 := by kernel_rfl
theorem rc2 : Tryz.prog.cellsOf 262 = 1 := by kernel_rfl
theorem rc3 : Tryz.prog.cellsOf 297 = 20 := by kernel_rfl
theorem rc4 : Tryz.prog.cellsOf 5 = 1 := by kernel_rfl
theorem rc5 : Tryz.prog.cellsOf 152 = 256 := by kernel_rfl

set_option maxRecDepth 100000 in
theorem env_ofRow {W : World} (hL : laidMet Tryz.prog Rows.syntaxAccessesUptoRow.laid W) (hsh : W.ShapedOpen Tryz.prog) : Env W ∧ 9 ≤ W.heap.size := by
  have h2 : laidMet Tryz.prog (("internal/strconv.uint64pow10", Lib.tabData .u64 Lib.pow10Tab) :: _) W := hL.tail.tail
  have h3 := hL.tail.tail.tail
  have h4 := h3.tail
  have h6 : laidMet Tryz.prog (("strings.asciiSpace", Lib.tabData .u8 Lib.asciiSpaceTab) :: _) W := h4.tail.tail
  obtain ⟨a0, s0, hv0, -, -, -⟩ := laid_sentinel h3 rgRng rtRng Tryz.underlying181 rErrRow Tryz.underlying303 Tryz.underlying305 rfl rfl Tryz.underlying9 rc1 cStr
  obtain ⟨a1, s1, hv1, -, -, -⟩ := laid_sentinel h4 rgSyn rtSyn Tryz.underlying181 rErrRow Tryz.underlying303 Tryz.underlying305 rfl rfl Tryz.underlying9 rc1 cStr
  obtain ⟨mx, hmx⟩ : ∃ m, W.cell? ⟨2, 0, none⟩ = some (.int .i64 m) := cell_of_shapedOpen_int (zero := #[.int .i64 0]) hsh (by decide +kernel) (by kernel_rfl) rfl (by kernel_rfl) (by kernel_rfl) Tryz.underlying3
  obtain ⟨cs, h8, -⟩ := hsh.1 8 _ _ (by decide +kernel) (show ((begin Tryz.prog (fun _ _ => 0) default).world.heap[8]?).bind Obj.row? = some (#[.pointer none], 199) by kernel_rfl)
  refine ⟨⟨⟨_, by have h0 := World.var?_cell rgSyn hv1 0; simpa using h0, Or.inr ⟨_, _, rfl⟩⟩, ⟨_, by have h0 := World.var?_cell rgRng hv0 0; simpa using h0, Or.inr ⟨_, _, rfl⟩⟩,
    Lib.tabIs_of_head rgPow rtPow Tryz.underlying297 Tryz.underlying262 rc2 rc3 h2, Lib.tabIs_of_head rgSpc rtSpc Tryz.underlying152 Tryz.underlying5 rc4 rc5 h6, ⟨mx, hmx⟩⟩, ?_⟩
  exact (Array.getElem?_eq_some_iff.1 h8).1
theorem contractR {H : Type} (enc : TypeId × Value → H) (W : World) (base : Nat) (args : Array Value) (ds gs : List (DataW H)) (before : List MemPlace)
    (hW : DataW.Whole enc Tryz.prog Tryz.f3.params.toList Rows.syntaxAccessesSpec.vars false W args.toList ds gs before) (hk : Rows.uptoSmall H (ds ++ gs) = true)
    (hL : laidMet Tryz.prog Rows.syntaxAccessesUptoRow.laid W) (hsh : W.ShapedOpen Tryz.prog) :
    Calls Tryz.prog 3 args W fun e W' => ∃ v, e = .returned v ∧ Rows.syntaxAccessesSpec.post enc Tryz.prog Tryz.f3 false true false false W args v W' := by
  have hW' := hW
  obtain ⟨p, q, hA0, hV, rfl, -, -⟩ := hW
  have hA : DataW.TrodAll enc Tryz.prog W 0 (fun _ => true) true Tryz.f3.params.toList args.toList ds p := hA0
  rw [Tryz.params3] at hA
  obtain ⟨v0, d0, rfl, rfl, h0⟩ := trodAll_one hA
  obtain ⟨rfl, rfl⟩ := trodVars_none hV
  clear hA0
  simp only [List.append_nil] at hW' hk
  have h0k := h0
  obtain ⟨fuel, hf⟩ := h0
  have hb : Rows.uptoBulkAll [d0] ≤ 1048576 := of_decide_eq_true hk
  simp only [Rows.uptoBulkAll] at hb
  obtain ⟨cn, q', m, c', p', n, d', ab, se, hcs, A, nm, al, hS⟩ := rd_class hf (by simpa using hb)
  obtain rfl : v0 = .agg #[.string cn, .slice q' m c', .slice p' n d', .bool ab, .bool se] := by
    cases v0 with
    | agg cs =>
      congr 1
      exact Array.toList_inj.1 hcs
    | _ => simp [Value.cells] at hcs
  obtain ⟨hE, h9⟩ := env_ofRow hL hsh
  have hlt : ∀ x ∈ p, x.block < W.heap.size := fun x hx => by simpa using hW'.lt x hx
  refine (law_any hS d' cn q' m c' ab se hE h9).mono fun e W' ⟨he, bel⟩ => ?_
  subst he
  refine ⟨_, rfl, _, _, _, [], p, [], hW', ?_, ?_, rfl, bel.frame _, fun h => by cases h⟩
  · exact trodAll_cons_mk (shut_bool Tryz.underlying4 _) trodAll_mk0
  · exact trodAll_mk1 (Below.trod rLaidOut (by kernel_rfl) (of_decide_eq_true (by kernel_rfl)) h0k bel hlt)
/-- A world for the witness. -/
noncomputable def laidWorldR (os : Os) : World :=
  let N := (World.settled Tryz.prog os).heap.size
  let w0 := World.holding Tryz.prog os ⟨#[
    .cells ([9, 13, 1, 32, 133, 101, 160, 5760, 5600, 8192, 8202, 1, 8232, 8233, 1, 8239, 8287, 48, 12288, 12288, 1].map fun z => Value.int .u16 z).toArray 230,
    .cells #[.slice (some ⟨N, 0, none⟩) 7 7, .slice none 0 0, .int .i64 2] 227,
    .cells #[.string ⟨#[105, 110, 118, 97, 108, 105, 100, 32, 115, 121, 110, 116, 97, 120]⟩] 305,
    .cells #[.string ⟨#[118, 97, 108, 117, 101, 32, 111, 117, 116, 32, 111, 102, 32, 114, 97, 110, 103, 101]⟩] 305], #[], []⟩
  let put (h : Array Obj) (g : Nat) (cs : Array Value) : Array Obj := h.modify g fun
    | .cells _ t frozen => .cells cs t frozen
    | o => o
  let lits (d : DataW Unit) : Array Value := match d with
    | .agg l => (l.map fun x => match x with | .lit (.int k z) => Value.int k z | _ => Value.bool false).toArray
    | _ => #[]
  let h1 := put w0.heap 0 (lits Rows.laid_strings_asciiSpace)
  let h2 := put h1 1 #[.pointer (some ⟨N + 1, 0, none⟩)]
  let h3 := put h2 3 #[.iface 303 (.pointer (some ⟨N + 2, 0, none⟩))]
  let h4 := put h3 4 #[.iface 303 (.pointer (some ⟨N + 3, 0, none⟩))]
  let h5 := put h4 5 (lits Rows.laid_internal_strconv_uint64pow10)
  let h6 := put h5 6 (lits Rows.laid_math_bits_deBruijn32tab)
  let h7 := put h6 7 (lits Rows.laid_math_bits_deBruijn64tab)
  { w0 with heap := h7 }
noncomputable abbrev argsR : Array Value := #[.agg #[.string ⟨#[]⟩, .slice none 0 0, .slice none 0 0, .bool false, .bool false]]
noncomputable abbrev rN0 : Nat := (World.settled Tryz.prog default).heap.size
set_option maxRecDepth 1000000 in
theorem laid_metR (os : Os) (args : Array Value) : laidMet Tryz.prog Rows.syntaxAccessesUptoRow.laid ((laidWorldR os).forCall (fun _ _ => 0) ⟨#[], args, []⟩).memory :=
  (LaidIn.of_run (l := Rows.syntaxAccessesUptoRow.laid) [0, 1, 3, 4, 5, 6, 7, rN0, rN0 + 1, rN0 + 2, rN0 + 3] 8 (by kernel_rfl) (by kernel_rfl) (by kernel_rfl) (by kernel_rfl)).met
theorem witnessR (os : Os) {H : Type} (enc : TypeId × Value → H) :
    (Rows.OpenSpec.upto Rows.syntaxAccessesSpec).preRow enc Tryz.prog Tryz.f3 Rows.syntaxAccessesUptoRow.domain false Rows.syntaxAccessesUptoRow.laid ((laidWorldR os).forCall (fun _ _ => 0) ⟨#[], argsR, []⟩).memory argsR := by
  have hw : (DataW.whole enc Tryz.prog ((laidWorldR os).forCall (fun _ _ => 0) ⟨#[], argsR, []⟩).memory Tryz.f3.params.toList Rows.syntaxAccessesSpec.vars false argsR.toList 8).map (fun x => (x.1, x.2.1)) =
      some ([.agg [.lit (.string []), .nil, .nil, .lit (.bool false), .lit (.bool false)]], []) := by kernel_rfl
  obtain ⟨⟨x1, x2, x3⟩, hx, hx1⟩ := Option.map_eq_some_iff.1 hw
  simp only [Prod.mk.injEq] at hx1
  obtain ⟨rfl, rfl⟩ := hx1
  exact OpenSpec.preRow_of_cond 8 hx (by kernel_rfl) (fun k hk => by cases hk; kernel_rfl) (by kernel_rfl) (laid_metR os _)
set_option maxRecDepth 100000 in
theorem liftedR (os : Os) (started : os.Started) (H : Type) (enc : TypeId × Value → H) (F : Stop.Interp) :
    ReturnsInHanded {} Tryz.checked os 3 .any ((Rows.OpenSpec.upto Rows.syntaxAccessesSpec).preRow enc Tryz.prog Tryz.f3 Rows.syntaxAccessesUptoRow.domain false Rows.syntaxAccessesUptoRow.laid) (((Rows.OpenSpec.upto Rows.syntaxAccessesSpec).at F).post enc Tryz.prog Tryz.f3 false true false false) := by
  refine returnsInHanded_of_row (C := Tryz.checked) (s := Rows.OpenSpec.upto Rows.syntaxAccessesSpec) rOwn started (by kernel_rfl) Tryz.func3
    (witness_row_atRef (enc := enc) (C := Tryz.checked) false (laidWorldR os) argsR rfl (by kernel_rfl) (by kernel_rfl) (by kernel_rfl) (witnessR os enc)) ?_
  intro W base args ds gs before hval hW _ hcond _ hL hsh _
  exact contractR enc W base args ds gs before hW (hcond _ rfl) hL hsh
theorem saidUptoR : Rows.SyntaxAccessesUptoSaid :=
  OpenClaim.holds_of_cond 3 Tryz.f3 rfl rfl rfl rfl rfl rfl rfl ⟨rfl, rfl, rfl, rfl, rfl⟩ rfl rfl rfl rfl rfl (by kernel_rfl) Tryz.func3 (by kernel_rfl)
    (of_decide_eq_true (by kernel_rfl)) (by unfold Func.isWrapper; first | (rw [if_pos (by decide +kernel)]; kernel_rfl) | (rw [if_neg (by decide +kernel)]; exact ⟨rfl, rfl⟩))
    (fun os started H enc _ F => by rw [OpenClaim.pre_eq_preRow]; exact liftedR os started H enc F)
theorem plainOfRow (f : FuncId) (fn : Func) (hf : Tryz.pinned.checked.prog.funcNamed "skerry/skerrylaw04.SyntaxAccesses" = some f) (hfn : Tryz.pinned.checked.prog.funcs[f]? = some fn) :
    true = Tryz.pinned.checked.prog.looks [] ∧ ∀ (j : Nat) t, fn.params[j]? = some t → Tryz.pinned.checked.prog.wantsStandIn t = false := by
  obtain rfl : f = 3 := Option.some.inj ((show Tryz.prog.funcNamed "skerry/skerrylaw04.SyntaxAccesses" = some 3 by kernel_rfl).symm.trans hf) |>.symm
  obtain rfl : fn = Tryz.f3 := (Option.some.inj (Tryz.func3.symm.trans hfn)).symm
  refine ⟨by kernel_rfl, fun j t ht => ?_⟩
  rw [Tryz.params3] at ht
  obtain rfl : t = 25 := by simpa using Array.mem_of_getElem? ht
  exact (show Tryz.prog.wantsStandIn 25 = false by kernel_rfl)
theorem syntaxAccesses_upto_card : Rows.SyntaxAccessesUptoCardSaid :=
  Claim7.holds_tied_plain_at .later [] _ _ _ _ saidUptoR (fun _ h => by cases h) (by kernel_rfl) (fun _ h => by cases h) syntaxAccessesUpto_row_tie rfl ⟨rfl, rfl⟩ (by kernel_rfl) rfl plainOfRow (by kernel_rfl)
#print axioms syntaxAccesses_upto_card
end Go.Proofs.YtjnimfnelacceaaGreatDoor
