-- Written by this session's own program (wip/own_print.py) over the kit's print, with this session's hand-proved contracts in their places; Lean checks it.
import Derived.Test.YtihmkdjambdfjaaXLeafx0
namespace Go.Proofs.Ytihmkdjambdfjaa.XLeaf
open Go.RowKit Go.Proofs.YtihmkdjambdfjaaW.PrintWords Go.Proofs.YtihmkdjambdfjaaW.PrintLast Go.Proofs.YtihmkdjambdfjaaW.PrintMore
attribute [local go_sem] max2_int min2_int max_two min_two max_three min_three max_four min_four   -- for this text's walks alone
set_option linter.unusedVariables false
set_option linter.unusedSimpArgs false

theorem eqA25 (d : Nat) (w : World) (x0 y0 : Int) (x1 y1 : Int) :
  (Op.equalIn (d + 2) 25 (.agg #[.int .u32 x0, .int .u16 x1]) (.agg #[.int .u32 y0, .int .u16 y1])).run Try.prog w = .ok (x0 == y0 && (x1 == y1)) w := by
 refine eqA_of Try.underlying25 (by kernel_rfl) ?_
 refine eqf_cons (by rfl) (by go_simp; rfl) (by go_simp; rfl) (by go_simp) ?_
 exact eqf_last (by rfl) (by go_simp; rfl) (by go_simp; rfl) (by go_simp)
theorem eqA27 (d : Nat) (w : World) (x0 y0 : ByteArray) (x1 y1 : Int) (x2 y2 : Int) :
  (Op.equalIn (d + 3) 27 (.agg #[.string x0, .int .u32 x1, .int .u16 x2]) (.agg #[.string y0, .int .u32 y1, .int .u16 y2])).run Try.prog w = .ok (x0.toList == y0.toList && ((x1 == y1 && (x2 == y2)))) w := by
 refine eqA_of Try.underlying27 (by kernel_rfl) ?_
 refine eqf_cons (by rfl) (by go_simp; rfl) (by go_simp; rfl) (by go_simp) ?_
 exact eqf_last (by rfl) (by go_simp) (by go_simp) (eqA25 (d + 0) w _ _ _ _)
end Go.Proofs.Ytihmkdjambdfjaa.XLeaf
