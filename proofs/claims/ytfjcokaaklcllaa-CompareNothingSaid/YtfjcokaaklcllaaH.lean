import Derived.Test.YtfjcokaaklcllaaA25
import Derived.Test.YtfjcokaaklcllaaProg
set_option linter.unusedVariables false
namespace Go.Proofs.Ytfjcokaaklcllaa.A
open Go Go.RowKit Go.Shelf
theorem mixed : Try.prog.follows .mixedOrders = true := by kernel_rfl

/- couplet/coupletlaw16.CompareNothing -/
def h3 : Hint := .s (.r [(0, { zero := [(.bool false)] })]) (.s (.s (.o) (.s (.s (.r [(1, { n := 1 })]) (.o)) (.o))) (.s (.r [(1, { zero := [(.slice none 0 0), (.int .i64 0), (.int .i64 0), (.slice none 0 0)], places := [(0, 1), (1, 3)] }), (3, { zero := [(.slice none 0 0), (.int .i64 0), (.int .i64 0), (.slice none 0 0)], places := [(0, 1), (1, 3)] }), (4, { zero := [(.slice none 0 0), (.int .i64 0), (.int .i64 0), (.slice none 0 0), (.slice none 0 0), (.int .i64 0), (.int .i64 0), (.slice none 0 0), (.int .i64 0), (.int .i64 0), (.int .i64 0), (.bool false), (.int .i64 0), (.int .i64 0), (.int .i64 0), (.bool false), (.int .i64 0), (.int .i64 0), (.int .i64 0), (.bool false), (.int .i64 0), (.int .i64 0), (.int .i64 0), (.bool false)], places := [(0, 4), (4, 4), (8, 16)] }), (5, { zero := [(.slice none 0 0), (.int .i64 0), (.int .i64 0), (.slice none 0 0), (.slice none 0 0), (.int .i64 0), (.int .i64 0), (.slice none 0 0), (.int .i64 0), (.int .i64 0), (.int .i64 0), (.bool false), (.int .i64 0), (.int .i64 0), (.int .i64 0), (.bool false), (.int .i64 0), (.int .i64 0), (.int .i64 0), (.bool false), (.int .i64 0), (.int .i64 0), (.int .i64 0), (.bool false)], acc := [(0, 1007), (3, 4007), (4, 5007), (7, 8007)] }), (6, { n := 24 })]) (.s (.r [(0, { n := 24, agg := true })]) (.s (.s (.r [(1, { n := 4 })]) (.s (.s (.r [(0, { n := 1 })]) (.o)) (.o))) (.s (.s (.o) (.b (.f [] (.o) (.b (.s (.r [(0, { n := 1 })]) (.o)))))) (.s (.r [(0, { n := 24, agg := true }), (4, { n := 24, agg := true }), (9, { n := 24, agg := true }), (14, { n := 24, agg := true }), (21, { zero := [(.int .i64 0), (.int .i64 0), (.int .i64 0), (.bool false)], places := [(0, 1), (1, 1), (2, 1), (3, 1)] }), (27, { n := 1 })]) (.o)))))))
theorem k3 : okF Try.prog Try.f3 h3 [(false, 1)] = true := by kernel_rfl

/- couplet/coupletlaw16.awake -/
def h4 : Hint := .s (.o) (.s (.r [(0, { zero := [(.int .i64 0), (.int .i64 0), (.int .i64 0), (.bool false)], places := [(0, 1), (1, 1), (2, 1), (3, 1)] }), (1, { zero := [(.int .i64 0), (.int .i64 0), (.int .i64 0), (.bool false)], places := [(0, 1), (1, 1), (2, 1), (3, 1)] }), (2, { zero := [(.int .i64 0), (.int .i64 0), (.int .i64 0), (.bool false)] }), (3, { zero := [(.int .i64 0), (.int .i64 0), (.int .i64 0), (.bool false)] }), (4, { n := 4 }), (5, { n := 4 })]) (.s (.r [(0, { n := 4, agg := true }), (1, { n := 4, agg := true }), (5, { n := 4, agg := true }), (6, { n := 4, agg := true }), (11, { n := 4, agg := true }), (12, { n := 4, agg := true })]) (.o)))
theorem k4 : okF Try.prog Try.f4 h4 [(false, 0)] = true := by kernel_rfl

/- couplet/compare.Rows -/
def h5 : Hint := .s (.r [(0, { n := 24 })]) (.s (.g [.freeze 1] (.o)) (.o))
theorem k5 : okF Try.prog Try.f5 h5 [(false, 0)] = true := by kernel_rfl

/- couplet/compare.Widest -/
def h6 : Hint := .s (.r [(0, { n := 24 })]) (.s (.r [(0, { n := 24, agg := true })]) (.o))
theorem k6 : okF Try.prog Try.f6 h6 [(false, 0)] = true := by kernel_rfl

/- couplet/compare.Trips -/
def h7 : Hint := .s (.r [(0, { n := 24 })]) (.s (.r [(0, { n := 24, agg := true })]) (.o))
theorem k7 : okF Try.prog Try.f7 h7 [(false, 0)] = true := by kernel_rfl

/- couplet/compare.Far -/
def h8 : Hint := .s (.r [(0, { n := 24 })]) (.s (.r [(0, { n := 24, agg := true })]) (.o))
theorem k8 : okF Try.prog Try.f8 h8 [(false, 0)] = true := by kernel_rfl

/- couplet/compare.Odds -/
def h9 : Hint := .s (.r [(0, { n := 24 })]) (.s (.s (.r [(0, { n := 24, agg := true })]) (.s (.s (.o) (.o)) (.o))) (.no))
theorem k9 : okF Try.prog Try.f9 h9 [(false, 0)] = true := by kernel_rfl

/- couplet/coupletref03.Fine -/
def h10 : Hint := .s (.r [(0, { n := 4 })]) (.s (.r [(0, { off := 3 }), (1, { n := 1, agg := false }), (4, { off := 1 }), (5, { n := 1, agg := false }), (9, { off := 2 }), (10, { n := 1, agg := false }), (14, { off := 1 }), (15, { n := 1, agg := false }), (16, { off := 0 }), (17, { n := 1, agg := false }), (21, { off := 0 }), (22, { n := 1, agg := false }), (23, { off := 2 }), (24, { n := 1, agg := false })]) (.o))
theorem k10 : okF Try.prog Try.f10 h10 [(false, 0)] = true := by kernel_rfl

/- couplet/compare.Gap -/
def h11 : Hint := .s (.r [(0, { n := 4 }), (1, { n := 4 })]) (.s (.s (.r [(0, { n := 4, agg := true }), (4, { n := 4, agg := true })]) (.s (.s (.o) (.o)) (.o))) (.s (.r [(0, { off := 1 }), (1, { n := 1, agg := false }), (2, { off := 2 }), (3, { n := 1, agg := false }), (5, { off := 1 }), (6, { n := 1, agg := false }), (7, { off := 2 }), (8, { n := 1, agg := false })]) (.o)))
theorem k11 : okF Try.prog Try.f11 h11 [(false, 0)] = true := by kernel_rfl

/- couplet/compare.Rows$1 -/
def h12 : Hint := .s (.s (.r [(0, { n := 24, agg := true })]) (.s (.o) (.o))) (.s (.r [(0, { acc := [(0, 3)] }), (1, { acc := [(0, 4)] })]) (.no))
theorem k12 : okF Try.prog Try.f12 h12 [] = true := by kernel_rfl

/- (couplet/lanes.Pair).Right -/
def h13 : Hint := .s (.r [(0, { n := 24 })]) (.s (.r [(0, { off := 0 }), (1, { n := 4, agg := true }), (4, { off := 4 }), (5, { n := 4, agg := true }), (9, { off := 0 }), (10, { off := 0 }), (11, { n := 1, agg := false }), (13, { off := 4 }), (14, { off := 0 }), (15, { n := 1, agg := false })]) (.o))
theorem k13 : okF Try.prog Try.f13 h13 [(false, 0)] = true := by kernel_rfl

/- couplet/compare.greatest -/
def h16 : Hint := .s (.r [(0, { n := 24 }), (1, { n := 1 })]) (.s (.r [(0, { zero := [(.int .i64 0)] }), (1, { n := 1 })]) (.s (.s (.r [(0, { n := 24, agg := true })]) (.b (.f [.drop [6, 7]] (.s (.r [(0, { zero := [(.int .i64 0), (.int .i64 0), (.int .i64 0), (.bool false)] }), (1, { n := 4 })]) (.r [(0, { zero := [(.int .i64 0), (.int .i64 0), (.int .i64 0), (.bool false)] }), (1, { n := 4 })])) (.b (.r [(0, { n := 1, agg := false }), (1, { n := 1, agg := false }), (2, { n := 4, agg := true }), (3, { n := 4, agg := true }), (6, { n := 1 })]))))) (.s (.r [(0, { n := 1, agg := false })]) (.o))))
theorem k16 : okF Try.prog Try.f16 h16 [(false, 0)] = true := by kernel_rfl

/- (couplet/env.Num).Fine -/
def h18 : Hint := .s (.r [(0, { n := 4 })]) (.s (.r [(0, { off := 3 }), (1, { n := 1, agg := false }), (4, { off := 1 }), (5, { n := 1, agg := false }), (9, { off := 2 }), (10, { n := 1, agg := false }), (14, { off := 1 }), (15, { n := 1, agg := false }), (16, { off := 0 }), (17, { n := 1, agg := false }), (21, { off := 0 }), (22, { n := 1, agg := false }), (23, { off := 2 }), (24, { n := 1, agg := false })]) (.o))
theorem k18 : okF Try.prog Try.f18 h18 [(false, 0)] = true := by kernel_rfl

/- couplet/coupletref02.Right -/
def h22 : Hint := .s (.o) (.s (.o) (.o))
theorem k22 : okF Try.prog Try.f22 h22 [(false, 0)] = true := by kernel_rfl

/- (couplet/joseph.State(couplet/env.Num)).Right -/
def h23 : Hint := .s (.r [(0, { n := 4 })]) (.s (.r [(0, { off := 0 }), (1, { n := 1, agg := false })]) (.s (.r [(7, { off := 1 }), (8, { n := 3, agg := true }), (12, { off := 1 }), (13, { off := 0 }), (14, { n := 1, agg := false }), (19, { off := 1 }), (20, { off := 1 }), (21, { n := 1, agg := false })]) (.o)))
theorem k23 : okF Try.prog Try.f23 h23 [(false, 0)] = true := by kernel_rfl

/- couplet/fx.Right -/
def h27 : Hint := .s (.o) (.s (.o) (.o))
theorem k27 : okF Try.prog Try.f27 h27 [(false, 0)] = true := by kernel_rfl

/- (couplet/mat.Mat(couplet/env.Num)).Right -/
def h35 : Hint := .s (.r [(0, { n := 3 })]) (.s (.o) (.s (.r [(1, { off := 0 }), (2, { n := 1, agg := false }), (6, { off := 1 }), (7, { n := 1, agg := false }), (11, { off := 2 }), (12, { n := 1, agg := false }), (14, { off := 0 }), (15, { n := 1, agg := false }), (16, { off := 1 }), (17, { n := 1, agg := false })]) (.o)))
theorem k35 : okF Try.prog Try.f35 h35 [(false, 0)] = true := by kernel_rfl

/- (couplet/mat.Mat(couplet/env.Num)).Right$1 -/
def h39 : Hint := .s (.o) (.s (.o) (.o))
theorem k39 : okF Try.prog Try.f39 h39 [(false, 0)] = true := by kernel_rfl

end Go.Proofs.Ytfjcokaaklcllaa.A
