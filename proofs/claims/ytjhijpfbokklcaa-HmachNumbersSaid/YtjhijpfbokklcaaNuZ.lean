/- A closed call, from its pieces. -/
import Derived.Test.YtjhijpfbokklcaaNuP0
import Derived.Test.YtjhijpfbokklcaaNuP1
import Derived.Test.YtjhijpfbokklcaaNuP2
import Derived.Test.YtjhijpfbokklcaaNuP3
import Derived.Test.YtjhijpfbokklcaaNuP4
import Derived.Test.YtjhijpfbokklcaaNuP5
import Derived.Test.YtjhijpfbokklcaaNuP6
import Derived.Test.YtjhijpfbokklcaaNuP7
import Derived.Test.YtjhijpfbokklcaaNuP8
import Derived.Test.YtjhijpfbokklcaaNuP9
import Derived.Test.YtjhijpfbokklcaaNuP10
import Derived.Test.YtjhijpfbokklcaaNuP11
import Derived.Test.YtjhijpfbokklcaaNuP12
import Derived.Test.YtjhijpfbokklcaaNuP13
import Derived.Test.YtjhijpfbokklcaaNuP14
import Derived.Test.YtjhijpfbokklcaaNuP15
import Derived.Test.YtjhijpfbokklcaaNuP16
import Derived.Test.YtjhijpfbokklcaaNuP17
import Derived.Test.YtjhijpfbokklcaaNuP18
import Derived.Test.YtjhijpfbokklcaaNuP19
namespace Go.Proofs.Ytjhijpfbokklcaa
open Go Go.Ev
set_option linter.unusedVariables false
set_option maxRecDepth 100000
namespace Nu
theorem pz : fpE Try.prog T0 fu 215 body2 sS20 2 lZ2 hZ2 82374 = tt := by kernel_rfl
theorem pe : fpEnd Try.prog T0 fu 215 rest sZ2 Try.f6.results = tt := by kernel_rfl
theorem calls (w : World) : Calls Try.prog 6 #[] w fun e w' => e = .returned (.bool true) ∧ Quiet w w' := by
  refine calls_of_sw progOk0 ef eb (fun w0 => ?_) w
  rw [e0, en]
  refine goes_then (goes_piece progOk0 ok_r0 pa) (goes_then (goes_piece progOk0 ok_rb pb) (goes_then (goes_piece progOk0 ok_r9 pc) (goes_then (goes_seq (goes_piece progOk0 ok_r10 pd) (goes_loop ?_)) (sw_end progOk0 ok_rest (fpEnd_ok pe)))))
  refine loop_round (round0 w0) ?_
  refine loop_round (round1 w0) ?_
  refine loop_round (round2 w0) ?_
  refine loop_round (round3 w0) ?_
  refine loop_round (round4 w0) ?_
  refine loop_round (round5 w0) ?_
  refine loop_round (round6 w0) ?_
  refine loop_round (round7 w0) ?_
  refine loop_round (round8 w0) ?_
  refine loop_round (round9 w0) ?_
  refine loop_round (round10 w0) ?_
  refine loop_round (round11 w0) ?_
  refine loop_round (round12 w0) ?_
  refine loop_round (round13 w0) ?_
  refine loop_round (round14 w0) ?_
  refine loop_round (round15 w0) ?_
  refine loop_round (round16 w0) ?_
  refine loop_round (round17 w0) ?_
  refine loop_round (round18 w0) ?_
  refine loop_round (round19 w0) ?_
  exact loop_last progOk0 ok_body2 pz
end Nu
end Go.Proofs.Ytjhijpfbokklcaa
