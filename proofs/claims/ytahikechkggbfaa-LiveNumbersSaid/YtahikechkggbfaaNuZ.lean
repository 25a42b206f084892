/- A closed call, from its pieces. -/
import Derived.Test.YtahikechkggbfaaNuP1
import Derived.Test.YtahikechkggbfaaNuP2
import Derived.Test.YtahikechkggbfaaNuP3
import Derived.Test.YtahikechkggbfaaNuP4
import Derived.Test.YtahikechkggbfaaNuP5
import Derived.Test.YtahikechkggbfaaNuP6
namespace Go.Proofs.Ytahikechkggbfaa
open Go Go.Ev
set_option linter.unusedVariables false
set_option maxRecDepth 100000
open Nu in
theorem Nu_calls (w : World) : Calls Try.prog 3 #[] w fun e w' => e = .returned (.bool true) ∧ Quiet w w' := by
  refine calls_of_sw progOk1 ef eb (fun w0 => ?_) w
  rw [e0]
  refine sw_piece progOk1 ok0 (fpC_ok pa) ?_
  refine sw_seq (sw_piece progOk1 ok1 (fpC_ok pb) (sw_block (sw_loop 13 ?_)))
  refine swr_piece (i := 8) (j := 5) progOk1 ok2 (fpR_ok p5) ?_
  refine swr_piece (i := 6) (j := 2) progOk1 ok2 (fpR_ok p7) ?_
  refine swr_piece (i := 4) (j := 2) progOk1 ok2 (fpR_ok p9) ?_
  refine swr_piece (i := 3) (j := 1) progOk1 ok2 (fpR_ok p10) ?_
  refine swr_piece (i := 2) (j := 1) progOk1 ok2 (fpR_ok p11) ?_
  refine swr_piece (i := 1) (j := 1) progOk1 ok2 (fpR_ok p12) ?_
  refine swr_last (i := 0) progOk1 ok2 (fpE_ok pz) ?_
  exact sw_end progOk1 ok3 (fpEnd_ok pe)
end Go.Proofs.Ytahikechkggbfaa
