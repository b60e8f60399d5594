/- Functions of the program, each with a proof that its call comes to just its answers; no condition but each theorem's own. -/
import Derived.Test.YthmnkfldpapilaaXFramesx0
import Derived.Test.YthmnkfldpapilaaXFramesx2
namespace Go.Proofs.Ythmnkfldpapilaa.XFrames
open Go.Proofs.YthmnkfldpapilaaX Go.RowKit Go.Proofs.YthmnkfldpapilaaW.PrintWords Go.Proofs.YthmnkfldpapilaaW.PrintLast Go.Proofs.YthmnkfldpapilaaW.PrintMore
attribute [local go_sem] max2_int min2_int max_two min_two max_three min_three max_four min_four
set_option linter.unusedVariables false
set_option linter.unusedSimpArgs false
theorem eqA51 (d : Nat) (w : World) (x0 y0 : Int) (x1 y1 : Int) (x2 y2 : Int) (x3 y3 : Bool) (x4 y4 : Int) (x5 y5 : Int) (x6 y6 : Int) :
  (Op.equalIn (d + 3) 51 (.agg #[.int .i64 x0, .int .i64 x1, .int .i64 x2, .bool x3, .int .i64 x4, .int .i64 x5, .int .i32 x6]) (.agg #[.int .i64 y0, .int .i64 y1, .int .i64 y2, .bool y3, .int .i64 y4, .int .i64 y5, .int .i32 y6])).run Try.prog w = .ok ((x0 == y0 && (x1 == y1)) && (x2 == y2 && (x3 == y3 && ((x4 == y4 && (x5 == y5)) && (x6 == y6))))) w := by
 refine eqA_of Try.underlying51 (by kernel_rfl) ?_
 refine eqf_cons (by rfl) (by go_simp) (by go_simp) (eqA49 (d + 0) w _ _ _ _) ?_
 refine eqf_cons (by rfl) (by go_simp; rfl) (by go_simp; rfl) (by go_simp) ?_
 refine eqf_cons (by rfl) (by go_simp; rfl) (by go_simp; rfl) (by go_simp) ?_
 refine eqf_cons (by rfl) (by go_simp) (by go_simp) (eqA49 (d + 0) w _ _ _ _) ?_
 exact eqf_last (by rfl) (by go_simp; rfl) (by go_simp; rfl) (by go_simp)
end Go.Proofs.Ythmnkfldpapilaa.XFrames
