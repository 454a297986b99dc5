/- XFrmRb -/
import Derived.Test.YtjnclkakbopnjaaGreatDoorLot50
set_option linter.unusedSimpArgs false
set_option linter.unusedVariables false
set_option maxRecDepth 100000
namespace Go.Proofs.YtjnclkakbopnjaaGreatDoor
open Go.Proofs.Tryz
open Go.RowKit Go.ChangeShapes Go.WideShapes Go.ChangeAt Go.Lib
theorem QRW(os:Os)(started:os.Started)(H:Type)(enc:TypeId × Value→H)(F:Stop.Interp):
  ReturnsInHanded {} Tryz.checked os 3 .any ((Rows.OpenSpec.upto Rows.syntaxFormsSpec).preRow enc prog Tryz.f3 Rows.syntaxFormsUptoRow.domain false Rows.syntaxFormsUptoRow.laid) (((Rows.OpenSpec.upto Rows.syntaxFormsSpec).at F).post enc prog Tryz.f3 false true false false):=by
 refine returnsInHanded_of_row (C:=Tryz.checked) (s:=Rows.OpenSpec.upto Rows.syntaxFormsSpec) rOwn started (by kernel_rfl) func3
  (witness_row_atRef (enc:=enc) (C:=Tryz.checked) false (QDq os) argsR rfl (by kernel_rfl) (by kernel_rfl) (by kernel_rfl) (QQK os enc)) ?_
 intro W base args ds gs before hval hW _ hcond _ hL hsh _;exact QNU enc W base args ds gs before hW (hcond _ rfl) hL hsh (fun v hv=>okWide_string underlying9 (hval 2 9 v rfl hv))
end Go.Proofs.YtjnclkakbopnjaaGreatDoor
