import Derived.Test.YtambpjbpdackfaaM3
import Derived.Test.YtambpjbpdackfaaProg
import Derived.Lib.Mul64
import Derived.Shelf.Small.Bits
set_option linter.unusedVariables false
namespace Go.Proofs.Ytambpjbpdackfaa.A
open Go Go.RowKit Go.Shelf
theorem mixed : Try.prog.follows .mixedOrders = true := by kernel_rfl

/- couplet/coupletlaw16.CompareOdds -/
def h3 : Hint := .s (.r [(0, { n := 4 }), (1, { n := 4 })]) (.s (.r [(1, { zero := [(.int .i64 0), (.int .i64 0), (.int .i64 0), (.bool false)] }), (2, { n := 4 })]) (.s (.r [(0, { zero := [(.slice none 0 0), (.int .i64 0), (.int .i64 0), (.slice none 0 0), (.slice none 0 0), (.int .i64 0), (.int .i64 0), (.slice none 0 0), (.int .i64 0), (.int .i64 0), (.int .i64 0), (.bool false), (.int .i64 0), (.int .i64 0), (.int .i64 0), (.bool false), (.int .i64 0), (.int .i64 0), (.int .i64 0), (.bool false), (.int .i64 0), (.int .i64 0), (.int .i64 0), (.bool false)], acc := [(0, 1010), (3, 4010), (4, 5010), (7, 8010)] })]) (.s (.r [(0, { n := 1 }), (1, { zero := [(.int .i64 0), (.int .i64 0), (.int .i64 0), (.slice none 0 0)], places := [(0, 1), (1, 1), (2, 1), (3, 1)] }), (6, { zero := [(.slice none 0 0), (.int .i64 0), (.int .i64 0), (.slice none 0 0), (.slice none 0 0), (.int .i64 0), (.int .i64 0), (.slice none 0 0), (.int .i64 0), (.int .i64 0), (.int .i64 0), (.bool false), (.int .i64 0), (.int .i64 0), (.int .i64 0), (.bool false), (.int .i64 0), (.int .i64 0), (.int .i64 0), (.bool false), (.int .i64 0), (.int .i64 0), (.int .i64 0), (.bool false)], acc := [(0, 1011), (3, 4011), (4, 5011), (7, 8011)] }), (7, { n := 24 })]) (.s (.s (.o) (.s (.s (.o) (.o)) (.o))) (.s (.r [(0, { n := 24, agg := true }), (1, { n := 24 })]) (.s (.r [(0, { n := 4, agg := true }), (1, { n := 4, agg := true }), (2, { zero := [(.int .i64 0), (.int .i64 0), (.int .i64 0), (.bool false), (.int .i64 0), (.int .i64 0), (.int .i64 0), (.bool false)], places := [(0, 4), (4, 4)] }), (3, { zero := [(.int .i64 0), (.int .i64 0), (.int .i64 0), (.bool false), (.int .i64 0), (.int .i64 0), (.int .i64 0), (.bool false)] }), (4, { n := 8 })]) (.s (.r [(0, { n := 8, agg := true }), (1, { n := 4, agg := true }), (2, { n := 4, agg := true }), (3, { zero := [(.int .i64 0), (.int .i64 0), (.int .i64 0), (.bool false), (.int .i64 0), (.int .i64 0), (.int .i64 0), (.bool false)], places := [(0, 4), (4, 4)] }), (4, { zero := [(.int .i64 0), (.int .i64 0), (.int .i64 0), (.bool false), (.int .i64 0), (.int .i64 0), (.int .i64 0), (.bool false), (.int .i64 0), (.int .i64 0), (.int .i64 0), (.bool false), (.int .i64 0), (.int .i64 0), (.int .i64 0), (.bool false)], places := [(0, 8), (8, 8)] }), (5, { off := 8 }), (6, { n := 16 })]) (.s (.s (.o) (.s (.r [(0, { n := 4, agg := true }), (1, { n := 4, agg := true }), (2, { zero := [(.int .i64 0), (.int .i64 0), (.int .i64 0), (.bool false), (.int .i64 0), (.int .i64 0), (.int .i64 0), (.bool false)], places := [(0, 4), (4, 4)] }), (3, { n := 8, agg := true }), (4, { zero := [(.int .i64 0), (.int .i64 0), (.int .i64 0), (.bool false), (.int .i64 0), (.int .i64 0), (.int .i64 0), (.bool false), (.int .i64 0), (.int .i64 0), (.int .i64 0), (.bool false), (.int .i64 0), (.int .i64 0), (.int .i64 0), (.bool false)], places := [(0, 8), (8, 8)] }), (5, { off := 8 }), (6, { n := 16 })]) (.o))) (.s (.r [(0, { n := 24, agg := true })]) (.s (.s (.o) (.s (.s (.o) (.o)) (.o))) (.s (.r [(1, { n := 4, agg := true }), (3, { n := 4, agg := true }), (7, { n := 1 }), (9, { n := 24, agg := true })]) (.o))))))))))))
theorem k3 : okF Try.prog Try.f3 h3 [(false, 0)] = true := by kernel_rfl

/- couplet/env.Point -/
def h4 : Hint := .s (.r [(0, { zero := [(.int .i64 0), (.int .i64 0), (.int .i64 0), (.bool false)] })]) (.s (.s (.o) (.s (.s (.r [(1, { n := 4 })]) (.o)) (.o))) (.s (.r [(3, { zero := [(.int .i64 0), (.int .i64 0), (.int .i64 0), (.bool false)], places := [(0, 1), (1, 1), (2, 1), (3, 1)] }), (4, { n := 4 })]) (.o)))
theorem k4 : okF Try.prog Try.f4 h4 [(true, 4)] = true := by kernel_rfl

/- couplet/lanes.Begin -/
def h5 : Hint := .s (.r [(0, { n := 4 }), (1, { zero := [(.slice none 0 0), (.int .i64 0), (.int .i64 0), (.slice none 0 0), (.slice none 0 0), (.int .i64 0), (.int .i64 0), (.slice none 0 0), (.int .i64 0), (.int .i64 0), (.int .i64 0), (.bool false), (.int .i64 0), (.int .i64 0), (.int .i64 0), (.bool false), (.int .i64 0), (.int .i64 0), (.int .i64 0), (.bool false), (.int .i64 0), (.int .i64 0), (.int .i64 0), (.bool false)], acc := [(0, 1002), (3, 4002), (4, 5002), (7, 8002)] })]) (.s (.s (.r [(0, { n := 4, agg := true }), (4, { off := 0 }), (5, { n := 1, agg := false })]) (.s (.s (.r [(0, { zero := [(.slice none 0 0), (.int .i64 0), (.int .i64 0), (.slice none 0 0), (.slice none 0 0), (.int .i64 0), (.int .i64 0), (.slice none 0 0), (.int .i64 0), (.int .i64 0), (.int .i64 0), (.bool false), (.int .i64 0), (.int .i64 0), (.int .i64 0), (.bool false), (.int .i64 0), (.int .i64 0), (.int .i64 0), (.bool false), (.int .i64 0), (.int .i64 0), (.int .i64 0), (.bool false)], places := [(0, 4), (4, 4), (8, 16)] }), (1, { n := 24 })]) (.o)) (.o))) (.s (.r [(0, { n := 4, agg := true })]) (.s (.d [] [(0, { off := 2 }), (1, { n := 1, agg := false }), (3, { n := 1 }), (4, { n := 1, agg := false }), (6, { zero := [(.int .i64 0), (.int .i64 0), (.slice none 0 0)], acc := [(2, 3005)] }), (7, { n := 3 })]) (.s (.d [] [(1, { n := 1 }), (2, { n := 1, agg := false }), (4, { n := 3, agg := true }), (9, { zero := [(.slice none 0 0), (.int .i64 0), (.int .i64 0), (.slice none 0 0)], acc := [(0, 1006), (3, 4006)] }), (10, { n := 4 })]) (.s (.d [] [(1, { n := 1 }), (2, { n := 1, agg := false }), (4, { off := 1 }), (5, { n := 3, agg := true }), (10, { zero := [(.slice none 0 0), (.int .i64 0), (.int .i64 0), (.slice none 0 0)], acc := [(0, 1008), (3, 4008)] }), (11, { n := 4 })]) (.s (.r [(0, { n := 4, agg := true }), (1, { n := 4, agg := true }), (2, { zero := [(.slice none 0 0), (.int .i64 0), (.int .i64 0), (.slice none 0 0), (.slice none 0 0), (.int .i64 0), (.int .i64 0), (.slice none 0 0), (.int .i64 0), (.int .i64 0), (.int .i64 0), (.bool false), (.int .i64 0), (.int .i64 0), (.int .i64 0), (.bool false), (.int .i64 0), (.int .i64 0), (.int .i64 0), (.bool false), (.int .i64 0), (.int .i64 0), (.int .i64 0), (.bool false)], places := [(0, 4), (4, 4), (8, 16)] }), (3, { n := 24 })]) (.o)))))))
theorem k5 : okF Try.prog Try.f5 h5 [(true, 24), (false, 0)] = true := by kernel_rfl

/- couplet/compare.Odds -/
def h6 : Hint := .s (.r [(0, { n := 24 })]) (.s (.s (.r [(0, { n := 24, agg := true })]) (.s (.s (.o) (.o)) (.o))) (.s (.r [(1, { off := 8 }), (2, { n := 8, t := 2 }), (3, { n := 8, agg := true }), (4, { zero := [(.int .i64 0), (.int .i64 0), (.int .i64 0), (.bool false), (.int .i64 0), (.int .i64 0), (.int .i64 0), (.bool false)] }), (5, { n := 8 })]) (.s (.s (.r [(0, { off := 0 }), (1, { n := 4, agg := true }), (5, { off := 4 }), (6, { n := 4, agg := true }), (11, { off := 4 }), (12, { off := 1 }), (13, { n := 1, agg := false })]) (.s (.s (.o) (.o)) (.o))) (.s (.r [(0, { off := 0 }), (1, { n := 4, agg := true })]) (.s (.r [(0, { off := 4 }), (1, { off := 2 }), (2, { n := 1, agg := false })]) (.s (.s (.o) (.s (.s (.o) (.o)) (.o))) (.s (.o) (.o))))))))
theorem k6 : okF Try.prog Try.f6 h6 [(false, 0)] = true := by kernel_rfl

/- couplet/coupletlaw16.awake -/
def h7 : Hint := .s (.o) (.s (.r [(0, { zero := [(.int .i64 0), (.int .i64 0), (.int .i64 0), (.bool false)], places := [(0, 1), (1, 1), (2, 1), (3, 1)] }), (1, { zero := [(.int .i64 0), (.int .i64 0), (.int .i64 0), (.bool false)], places := [(0, 1), (1, 1), (2, 1), (3, 1)] }), (2, { zero := [(.int .i64 0), (.int .i64 0), (.int .i64 0), (.bool false)] }), (3, { zero := [(.int .i64 0), (.int .i64 0), (.int .i64 0), (.bool false)] }), (4, { n := 4 }), (5, { n := 4 })]) (.s (.r [(0, { n := 4, agg := true }), (1, { n := 4, agg := true }), (5, { n := 4, agg := true }), (6, { n := 4, agg := true }), (11, { n := 4, agg := true }), (12, { n := 4, agg := true })]) (.o)))
theorem k7 : okF Try.prog Try.f7 h7 [(false, 0)] = true := by kernel_rfl

/- couplet/coupletref16.Odds -/
def h8 : Hint := .s (.r [(0, { n := 4 }), (1, { n := 4 })]) (.s (.s (.r [(0, { n := 4, agg := true }), (4, { n := 4, agg := true }), (9, { off := 1 }), (10, { n := 1, agg := false })]) (.s (.s (.o) (.o)) (.o))) (.s (.o) (.s (.s (.r [(0, { off := 1 }), (1, { n := 1, agg := false })]) (.s (.r [(0, { off := 1 }), (1, { n := 1, agg := false })]) (.o))) (.s (.s (.r [(0, { off := 2 }), (1, { n := 1, agg := false })]) (.s (.r [(0, { off := 2 }), (1, { n := 1, agg := false })]) (.o))) (.s (.r [(0, { off := 2 }), (1, { n := 1, agg := false })]) (.s (.o) (.o)))))))
theorem k8 : okF Try.prog Try.f8 h8 [(false, 0)] = true := by kernel_rfl

/- couplet/coupletlaw03.Given -/
def h9 : Hint := .s (.r [(0, { n := 4 }), (1, { zero := [(.int .i64 0), (.int .i64 0), (.int .i64 0), (.bool false)] })]) (.s (.r [(0, { off := 0 }), (1, { n := 1, agg := false }), (2, { off := 1 }), (3, { n := 1, agg := false }), (4, { off := 2 }), (5, { n := 1, agg := false }), (6, { off := 3 }), (7, { n := 1, agg := false }), (8, { zero := [(.int .i64 0), (.int .i64 0), (.int .i64 0), (.bool false)], places := [(0, 1), (1, 1), (2, 1), (3, 1)] }), (9, { n := 4 })]) (.o))
theorem k9 : okF Try.prog Try.f9 h9 [(true, 4)] = true := by kernel_rfl

/- couplet/fx.Right -/
def h10 : Hint := .s (.o) (.s (.o) (.o))
theorem k10 : okF Try.prog Try.f10 h10 [(false, 0)] = true := by kernel_rfl

/- couplet/env.Wrong -/
def h11 : Hint := .s (.r [(0, { zero := [(.int .i64 0), (.int .i64 0), (.int .i64 0), (.bool false)] })]) (.s (.r [(0, { zero := [(.int .i64 0), (.int .i64 0), (.int .i64 0), (.bool false)], places := [(0, 1), (1, 1), (2, 1), (3, 1)] }), (1, { n := 4 })]) (.o))
theorem k11 : okF Try.prog Try.f11 h11 [(true, 4)] = true := by kernel_rfl

/- couplet/check.Sound -/
def h12 : Hint := .s (.r [(0, { n := 4 })]) (.s (.o) (.s (.r [(0, { n := 4, agg := true })]) (.s (.b (.s (.r [(1, { n := 3, t := 1 })]) (.s (.s (.o) (.o)) (.s (.r [(0, { off := 3 }), (1, { n := 1, agg := false })]) (.s (.s (.o) (.o)) (.s (.r [(0, { off := 0 }), (1, { n := 1, agg := false }), (5, { n := 1 }), (6, { n := 1, agg := false }), (7, { n := 1 }), (8, { n := 1, agg := false })]) (.s (.s (.o) (.o)) (.s (.r [(0, { off := 0 }), (1, { n := 1, agg := false })]) (.s (.s (.o) (.o)) (.o)))))))))) (.s (.s (.r [(0, { off := 2 }), (1, { n := 1, agg := false })]) (.b (.l [.junk [0, 2, 3, 5, 6, 7, 8, 9, 10, 11, 12, 13, 14, 15, 16, 17, 18, 19, 20, 21, 22, 23, 24, 25, 26, 27, 28, 29, 30, 31, 32, 35, 36, 37, 38, 39, 40, 41, 42, 43, 44, 45, 46, 47, 48, 49]] (.s (.o) (.s (.s (.o) (.o)) (.s (.b (.s (.o) (.s (.r [(1, { n := 1 }), (2, { n := 1, agg := false }), (4, { off := 2 }), (5, { n := 1, agg := false }), (9, { n := 1 }), (10, { n := 1, agg := false })]) (.s (.s (.o) (.o)) (.o))))) (.o))))))) (.s (.o) (.o))))))
theorem k12 : okF Try.prog Try.f12 h12 [(false, 0)] = true := by kernel_rfl

/- couplet/lanes.square -/
def h14 : Hint := .s (.r [(0, { zero := [(.int .i64 0), (.int .i64 0), (.slice none 0 0)], acc := [(2, 3004)] })]) (.s (.r [(8, { zero := [(.int .i64 0), (.int .i64 0), (.slice none 0 0)], acc := [(2, 3005)] }), (9, { n := 3 })]) (.s (.r [(0, { n := 3, agg := true }), (1, { n := 3 })]) (.o)))
theorem k14 : okF Try.prog Try.f14 h14 [(true, 3)] = true := by kernel_rfl

/- couplet/root.New(couplet/env.Num) -/
def h15 : Hint := .s (.r [(0, { n := 3 }), (1, { zero := [(.slice none 0 0), (.int .i64 0), (.int .i64 0), (.slice none 0 0)], acc := [(0, 1004), (3, 4004)] })]) (.s (.r [(0, { n := 3, agg := true }), (5, { zero := [(.int .i64 0), (.int .i64 0), (.slice none 0 0)], acc := [(2, 3006)] }), (6, { n := 3 })]) (.s (.d [] [(2, { n := 3, agg := true }), (3, { zero := [(.slice none 0 0), (.int .i64 0), (.int .i64 0), (.slice none 0 0)], places := [(0, 1), (1, 3)] }), (4, { zero := [(.slice none 0 0), (.int .i64 0), (.int .i64 0), (.slice none 0 0)], acc := [(0, 1008), (3, 4008)] }), (5, { n := 4 })]) (.s (.s (.r [(3, { n := 4, agg := true })]) (.s (.s (.r [(0, { zero := [(.slice none 0 0), (.int .i64 0), (.int .i64 0), (.slice none 0 0)], places := [(0, 1), (1, 3)] }), (1, { n := 4 })]) (.o)) (.o))) (.s (.r [(0, { n := 4, agg := true }), (1, { n := 4 })]) (.o)))))
theorem k15 : okF Try.prog Try.f15 h15 [(true, 4), (false, 0)] = true := by kernel_rfl

/- couplet/lanes.points -/
def h16 : Hint := .s (.r [(0, { acc := [(0, 2)] })]) (.s (.r [(0, { acc := [(0, 3)] })]) (.s (.s (.o) (.b (.l [.junk [0, 1, 2, 4, 5, 9, 10, 11, 12, 13, 14, 15, 16, 17, 18]] (.s (.o) (.s (.s (.o) (.o)) (.s (.b (.s (.r [(0, { n := 1 }), (1, { n := 1, agg := false })]) (.r [(3, { n := 4 }), (4, { n := 4, t := 32 })]))) (.o))))))) (.s (.o) (.o))))
theorem k16 : okF Try.prog Try.f16 h16 [(false, 0)] = true := by kernel_rfl

/- couplet/joseph.New(couplet/env.Num) -/
def h17 : Hint := .s (.r [(0, { n := 3 }), (1, { zero := [(.slice none 0 0), (.int .i64 0), (.int .i64 0), (.slice none 0 0)], acc := [(0, 1004), (3, 4004)] })]) (.s (.r [(0, { n := 3, agg := true }), (5, { zero := [(.int .i64 0), (.int .i64 0), (.slice none 0 0)], acc := [(2, 3006)] }), (6, { n := 3 })]) (.s (.d [] [(2, { n := 3, agg := true }), (3, { zero := [(.slice none 0 0), (.int .i64 0), (.int .i64 0), (.slice none 0 0)], places := [(0, 1), (1, 3)] }), (4, { zero := [(.slice none 0 0), (.int .i64 0), (.int .i64 0), (.slice none 0 0)], acc := [(0, 1008), (3, 4008)] }), (5, { n := 4 })]) (.s (.s (.r [(3, { n := 4, agg := true })]) (.s (.s (.r [(0, { zero := [(.slice none 0 0), (.int .i64 0), (.int .i64 0), (.slice none 0 0)], places := [(0, 1), (1, 3)] }), (1, { n := 4 })]) (.o)) (.o))) (.s (.r [(0, { n := 4, agg := true }), (1, { n := 4 })]) (.o)))))
theorem k17 : okF Try.prog Try.f17 h17 [(true, 4), (false, 0)] = true := by kernel_rfl

/- (couplet/lanes.Pair).Right -/
def h18 : Hint := .s (.r [(0, { n := 24 })]) (.s (.r [(0, { off := 0 }), (1, { n := 4, agg := true }), (4, { off := 4 }), (5, { n := 4, agg := true }), (9, { off := 0 }), (10, { off := 0 }), (11, { n := 1, agg := false }), (13, { off := 4 }), (14, { off := 0 }), (15, { n := 1, agg := false })]) (.o))
theorem k18 : okF Try.prog Try.f18 h18 [(false, 0)] = true := by kernel_rfl

/- (couplet/env.Num).Fine -/
def h19 : Hint := .s (.r [(0, { n := 4 })]) (.s (.r [(0, { off := 3 }), (1, { n := 1, agg := false }), (4, { off := 1 }), (5, { n := 1, agg := false }), (9, { off := 2 }), (10, { n := 1, agg := false }), (14, { off := 1 }), (15, { n := 1, agg := false }), (16, { off := 0 }), (17, { n := 1, agg := false }), (21, { off := 0 }), (22, { n := 1, agg := false }), (23, { off := 2 }), (24, { n := 1, agg := false })]) (.o))
theorem k19 : okF Try.prog Try.f19 h19 [(false, 0)] = true := by kernel_rfl

/- couplet/compare.least -/
def h20 : Hint := .s (.r [(0, { n := 4 })]) (.s (.b (.s (.r [(0, { off := 1 }), (1, { n := 1, agg := false })]) (.s (.s (.r [(0, { off := 1 }), (1, { n := 1, agg := false })]) (.o)) (.s (.r [(0, { off := 2 }), (1, { n := 1, agg := false })]) (.s (.s (.r [(0, { off := 2 }), (1, { n := 1, agg := false })]) (.o)) (.o)))))) (.s (.o) (.o)))
theorem k20 : okF Try.prog Try.f20 h20 [(false, 0)] = true := by kernel_rfl

/- couplet/wide.MulDiv -/
def h21 : Hint := .s (.o) (.s (.s (.o) (.s (.s (.o) (.o)) (.o))) (.s (.r [(7, { zero := [(.int .u64 0), (.int .u64 0)] }), (8, { n := 2 })]) (.s (.s (.r [(0, { n := 1, t := 2 }), (1, { n := 1, agg := false })]) (.s (.s (.o) (.o)) (.o))) (.s (.r [(0, { n := 1, t := 2 }), (1, { n := 1, agg := false }), (2, { n := 1, t := 2 }), (3, { n := 1, agg := false })]) (.s (.r [(4, { n := 1 }), (7, { n := 1 })]) (.s (.o) (.s (.b (.s (.o) (.s (.o) (.s (.o) (.s (.o) (.r [(3, { n := 1 })])))))) (.s (.s (.o) (.s (.s (.o) (.o)) (.o))) (.s (.s (.o) (.s (.o) (.o))) (.s (.s (.o) (.s (.s (.r [(1, { ks := [some .i64] })]) (.o)) (.o))) (.s (.r [(1, { ks := [some .i64] })]) (.o))))))))))))
theorem k21 : okF Try.prog Try.f21 h21 [(false, 0), (false, 0)] = true := by kernel_rfl

/- couplet/wide.Compare -/
def h22 : Hint := .s (.o) (.s (.s (.r [(4, { zero := [(.int .i64 0), (.int .i64 0), (.int .i64 0), (.int .i64 0)], places := [(0, 1), (1, 1), (2, 1), (3, 1)] })]) (.b (.l [.junk [4, 5, 6, 7, 8, 9, 10, 11, 12, 13, 14, 15, 16, 17, 18, 19, 22, 23, 24, 25, 26, 27, 28, 29, 30, 31, 32, 33, 34, 35, 36, 37, 38, 39, 40, 41, 42, 43, 44, 45, 46, 47, 48, 49, 50, 51, 52, 53, 54, 55, 56, 57, 58, 59, 60, 61, 62, 63, 64, 65, 66, 67, 68, 69, 70, 71, 72, 73, 74, 75, 76, 77, 78, 79, 80, 81, 82, 83, 84]] (.s (.o) (.s (.s (.o) (.o)) (.s (.b (.s (.r [(0, { n := 1, agg := false, t := 4 })]) (.s (.o) (.s (.s (.o) (.o)) (.o))))) (.o))))))) (.s (.o) (.s (.o) (.s (.r [(10, { zero := [(.int .u64 0), (.int .u64 0)] }), (11, { zero := [(.int .u64 0), (.int .u64 0)] }), (12, { n := 2 }), (13, { n := 2 })]) (.s (.b (.s (.s (.o) (.s (.o) (.s (.r [(8, { n := 2, agg := true }), (9, { n := 2, agg := true })]) (.s (.o) (.r [(8, { n := 2, agg := true }), (9, { n := 2, agg := true })]))))) (.s (.s (.o) (.o)) (.s (.s (.o) (.s (.o) (.r [(0, { n := 2, agg := true }), (1, { n := 2, agg := true }), (2, { n := 5, ks := [some .u64, some .u64] })]))) (.s (.s (.o) (.o)) (.o)))))) (.s (.o) (.o)))))))
theorem k22 : okF Try.prog Try.f22 h22 [(false, 0)] = true := by kernel_rfl

/- couplet/compare.Gap -/
def h23 : Hint := .s (.r [(0, { n := 4 }), (1, { n := 4 })]) (.s (.s (.r [(0, { n := 4, agg := true }), (4, { n := 4, agg := true })]) (.s (.s (.o) (.o)) (.o))) (.s (.r [(0, { off := 1 }), (1, { n := 1, agg := false }), (2, { off := 2 }), (3, { n := 1, agg := false }), (5, { off := 1 }), (6, { n := 1, agg := false }), (7, { off := 2 }), (8, { n := 1, agg := false })]) (.o)))
theorem k23 : okF Try.prog Try.f23 h23 [(false, 0)] = true := by kernel_rfl

/- couplet/coupletref03.Fine -/
def h24 : Hint := .s (.r [(0, { n := 4 })]) (.s (.r [(0, { off := 3 }), (1, { n := 1, agg := false }), (4, { off := 1 }), (5, { n := 1, agg := false }), (9, { off := 2 }), (10, { n := 1, agg := false }), (14, { off := 1 }), (15, { n := 1, agg := false }), (16, { off := 0 }), (17, { n := 1, agg := false }), (21, { off := 0 }), (22, { n := 1, agg := false }), (23, { off := 2 }), (24, { n := 1, agg := false })]) (.o))
theorem k24 : okF Try.prog Try.f24 h24 [(false, 0)] = true := by kernel_rfl

/- couplet/coupletref01.MulDiv -/
def h25 : Hint := .s (.o) (.s (.s (.o) (.s (.s (.o) (.o)) (.o))) (.s (.o) (.s (.o) (.s (.o) (.s (.o) (.s (.s (.o) (.b (.l [.junk [4, 5, 6, 7, 8, 9, 15, 16, 17, 18, 19, 20, 21, 22, 23, 24, 25, 26, 27, 28, 29, 30, 31, 32, 33, 34, 35, 36, 37, 38, 39, 40, 41, 42, 43, 44, 45, 46, 47, 48, 49, 50, 51, 52, 53, 54, 55, 56, 57, 58, 59, 60, 61, 62, 63, 64, 65, 66, 67, 68, 69, 70, 71, 72, 73, 74, 75, 76, 77, 78, 79, 80, 81, 82, 83, 84, 85, 86, 87, 88, 89, 90, 91, 92, 93, 94, 95, 96, 97, 98, 99, 100, 101, 102, 103, 104, 105, 106, 107, 108, 109, 110, 111, 112, 113, 114, 115, 116, 117, 118, 119, 120, 121, 122, 123, 124, 125, 126, 127, 128, 129, 130, 131, 132, 133, 134, 135, 136, 137, 138, 139, 140, 141, 142, 143, 144, 145, 146]] (.s (.s (.o) (.s (.o) (.o))) (.s (.b (.s (.r [(3, { n := 1 }), (4, { n := 1, agg := false })]) (.s (.o) (.s (.s (.o) (.s (.s (.o) (.o)) (.o))) (.o))))) (.o)))))) (.s (.o) (.s (.s (.o) (.s (.o) (.o))) (.s (.s (.o) (.s (.o) (.o))) (.s (.s (.o) (.s (.o) (.o))) (.s (.o) (.s (.o) (.s (.o) (.s (.s (.o) (.s (.r [(13, { n := 1 }), (14, { n := 1, agg := false })]) (.o))) (.s (.s (.o) (.s (.o) (.o))) (.s (.s (.o) (.s (.o) (.o))) (.s (.s (.o) (.s (.o) (.o))) (.s (.o) (.s (.s (.o) (.s (.s (.o) (.o)) (.o))) (.s (.s (.o) (.s (.s (.o) (.o)) (.o))) (.s (.o) (.o))))))))))))))))))))))
theorem k25 : okF Try.prog Try.f25 h25 [(false, 0), (false, 0)] = true := by kernel_rfl

/- couplet/coupletref01.Compare -/
def h26 : Hint := .s (.o) (.s (.o) (.s (.o) (.s (.o) (.s (.s (.o) (.s (.o) (.s (.o) (.s (.o) (.o))))) (.s (.o) (.s (.s (.o) (.s (.o) (.s (.o) (.s (.o) (.o))))) (.s (.s (.o) (.s (.s (.s (.o) (.s (.s (.o) (.o)) (.o))) (.s (.o) (.o))) (.o))) (.s (.s (.o) (.s (.s (.o) (.o)) (.o))) (.s (.s (.o) (.s (.s (.o) (.o)) (.o))) (.s (.o) (.o)))))))))))
theorem k26 : okF Try.prog Try.f26 h26 [(false, 0)] = true := by kernel_rfl

/- couplet/check.Sound$1 -/
def h27 : Hint := .s (.o) (.s (.o) (.o))
theorem k27 : okF Try.prog Try.f27 h27 [(false, 0)] = true := by kernel_rfl

/- slices.ContainsFunc(()int,int) -/
def h28 : Hint := .s (.o) (.s (.o) (.o))
theorem k28 : okF Try.prog Try.f28 h28 [(false, 0)] = true := by kernel_rfl

/- couplet/frame.Right -/
def h29 : Hint := .s (.r [(0, { n := 4 })]) (.s (.o) (.s (.r [(0, { off := 0 }), (1, { n := 1, agg := false }), (2, { off := 2 }), (3, { n := 1, agg := false })]) (.s (.r [(3, { off := 3 }), (4, { n := 1, agg := false }), (10, { off := 1 }), (11, { n := 1, agg := false }), (15, { off := 1 }), (16, { n := 1, agg := false }), (20, { off := 3 }), (21, { n := 1, agg := false })]) (.o))))
theorem k29 : okF Try.prog Try.f29 h29 [(false, 0)] = true := by kernel_rfl

/- slices.Clone(()int,int) -/
def h30 : Hint := .s (.r [(0, { acc := [(0, 2)] })]) (.s (.s (.r [(1, { n := 3, t := 1 })]) (.s (.s (.r [(0, { acc := [(0, 2)] })]) (.o)) (.o))) (.s (.r [(0, { n := 1 }), (2, { n := 1, t := 8 })]) (.o)))
theorem k30 : okF Try.prog Try.f30 h30 [(false, 0)] = true := by kernel_rfl
/- slices.Clone(()int,int) -/
/- couplet/mat.New(couplet/env.Num) -/
def h31 : Hint := .s (.r [(0, { zero := [(.int .i64 0), (.int .i64 0), (.slice none 0 0)], acc := [(2, 3006)] })]) (.s (.r [(4, { zero := [(.int .i64 0), (.int .i64 0), (.slice none 0 0)], places := [(0, 1), (1, 1), (2, 1)] }), (5, { zero := [(.int .i64 0), (.int .i64 0), (.slice none 0 0)], acc := [(2, 3008)] }), (6, { n := 3 })]) (.s (.s (.r [(0, { n := 3, agg := true })]) (.s (.s (.r [(0, { zero := [(.int .i64 0), (.int .i64 0), (.slice none 0 0)], places := [(0, 1), (1, 1), (2, 1)] }), (1, { n := 3 })]) (.o)) (.o))) (.s (.r [(0, { n := 3, agg := true }), (1, { n := 3 })]) (.o))))
theorem k31 : okF Try.prog Try.f31 h31 [(true, 3), (false, 0)] = true := by kernel_rfl
/- couplet/mat.New(couplet/env.Num) -/
def hN31 : Hint := .s (.r [(0, { zero := [(.int .i64 0), (.int .i64 0), (.slice none 0 0)], acc := [(2, 3006)] })]) (.s (.r [(3, { mc := 6 }), (4, { zero := [(.int .i64 0), (.int .i64 0), (.slice none 0 0)], places := [(0, 1), (1, 1), (2, 1)] }), (5, { zero := [(.int .i64 0), (.int .i64 0), (.slice none 0 0)], acc := [(2, 3008)] }), (6, { n := 3 })]) (.s (.s (.r [(0, { n := 3, agg := true }), (1, { mc := 1 })]) (.s (.s (.r [(0, { zero := [(.int .i64 0), (.int .i64 0), (.slice none 0 0)], places := [(0, 1), (1, 1), (2, 1)] }), (1, { n := 3 })]) (.o)) (.o))) (.s (.r [(0, { n := 3, agg := true }), (1, { n := 3 })]) (.o))))
theorem kN31 : okF Try.prog Try.f31 hN31 [(true, 3), (false, 0)] = true := by kernel_rfl

/- couplet/tri.Clear(couplet/env.Num) -/
def h32 : Hint := .s (.r [(0, { n := 3 }), (1, { zero := [(.int .i64 0), (.int .i64 0), (.slice none 0 0)], acc := [(2, 3002)] })]) (.s (.s (.r [(0, { n := 3, agg := true })]) (.s (.s (.r [(0, { zero := [(.int .i64 0), (.int .i64 0), (.slice none 0 0)], places := [(0, 1), (1, 1), (2, 1)] }), (1, { n := 3 })]) (.o)) (.o))) (.s (.r [(0, { zero := [(.int .i64 0), (.int .i64 0), (.int .i64 0), (.bool false)] })]) (.s (.g [.freeze 4, .freeze 1] (.r [(0, { off := 0 }), (1, { n := 1, agg := false }), (6, { n := 3 })])) (.o))))
theorem k32 : okF Try.prog Try.f32 h32 [(true, 3), (false, 0)] = true := by kernel_rfl

/- slices.Clone(()couplet/env.Num,couplet/env.Num) -/
def h33 : Hint := .s (.r [(0, { acc := [(0, 2)] })]) (.s (.s (.r [(1, { n := 3, t := 1 })]) (.s (.s (.r [(0, { acc := [(0, 2)] })]) (.o)) (.o))) (.s (.r [(0, { n := 4 }), (2, { n := 4, t := 32 })]) (.o)))
theorem k33 : okF Try.prog Try.f33 h33 [(false, 0)] = true := by kernel_rfl
/- slices.Clone(()couplet/env.Num,couplet/env.Num) -/
def hN33 : Hint := .s (.r [(0, { acc := [(0, 2)] })]) (.s (.s (.r [(1, { n := 3, t := 1 })]) (.s (.s (.r [(0, { acc := [(0, 2)] })]) (.o)) (.o))) (.s (.r [(0, { n := 4 }), (2, { n := 4, t := 32, acc := [(0, 1)] })]) (.o)))
theorem kN33 : okF Try.prog Try.f33 hN33 [(false, 0)] = true := by kernel_rfl

/- (couplet/root.State(couplet/env.Num)).Right -/
def h34 : Hint := .s (.r [(0, { n := 4 })]) (.s (.r [(0, { off := 0 }), (1, { n := 1, agg := false })]) (.s (.r [(7, { off := 1 }), (8, { n := 3, agg := true }), (12, { off := 1 }), (13, { off := 0 }), (14, { n := 1, agg := false }), (19, { off := 1 }), (20, { off := 1 }), (21, { n := 1, agg := false })]) (.o)))
theorem k34 : okF Try.prog Try.f34 h34 [(false, 0)] = true := by kernel_rfl

/- couplet/tri.Square(couplet/env.Num) -/
def h35 : Hint := .s (.r [(0, { n := 3 }), (1, { zero := [(.int .i64 0), (.int .i64 0), (.slice none 0 0)], acc := [(2, 3002)] })]) (.s (.s (.r [(0, { n := 3, agg := true })]) (.s (.s (.r [(0, { zero := [(.int .i64 0), (.int .i64 0), (.slice none 0 0)], places := [(0, 1), (1, 1), (2, 1)] }), (1, { n := 3 })]) (.o)) (.o))) (.s (.d [] [(0, { n := 3, agg := true }), (1, { n := 3, agg := true }), (7, { zero := [(.int .i64 0), (.int .i64 0), (.slice none 0 0)], acc := [(2, 3004)] }), (8, { n := 3 })]) (.s (.s (.o) (.s (.s (.r [(0, { zero := [(.int .i64 0), (.int .i64 0), (.slice none 0 0)], places := [(0, 1), (1, 1), (2, 1)] }), (1, { n := 3 })]) (.o)) (.o))) (.s (.r [(0, { n := 3, agg := true }), (4, { n := 3 })]) (.o)))))
theorem k35 : okF Try.prog Try.f35 h35 [(true, 3), (false, 0)] = true := by kernel_rfl

/- (couplet/joseph.State(couplet/env.Num)).Right -/
def h36 : Hint := .s (.r [(0, { n := 4 })]) (.s (.r [(0, { off := 0 }), (1, { n := 1, agg := false })]) (.s (.r [(7, { off := 1 }), (8, { n := 3, agg := true }), (12, { off := 1 }), (13, { off := 0 }), (14, { n := 1, agg := false }), (19, { off := 1 }), (20, { off := 1 }), (21, { n := 1, agg := false })]) (.o)))
theorem k36 : okF Try.prog Try.f36 h36 [(false, 0)] = true := by kernel_rfl

/- couplet/wide.Right -/
def h37 : Hint := .s (.o) (.s (.o) (.o))
theorem k37 : okF Try.prog Try.f37 h37 [(false, 0)] = true := by kernel_rfl

/- couplet/wide.right -/
def h38 : Hint := .s (.o) (.s (.o) (.o))
theorem k38 : okF Try.prog Try.f38 h38 [(false, 0)] = true := by kernel_rfl

/- couplet/wide.times -/
def h39 : Hint := .s (.r [(0, { zero := [(.int .u64 0), (.int .u64 0)] })]) (.s (.o) (.s (.r [(2, { zero := [(.int .u64 0), (.int .u64 0)], places := [(0, 1), (1, 1)] }), (3, { n := 2 })]) (.o)))
theorem k39 : okF Try.prog Try.f39 h39 [(true, 2)] = true := by kernel_rfl

/- couplet/wide.size -/
def h40 : Hint := .s (.o) (.s (.r [(4, { ks := [some .u64] })]) (.o))
theorem k40 : okF Try.prog Try.f40 h40 [(false, 0)] = true := by kernel_rfl

/- math/bits.Div64 -/
def h41 : Hint := .s (.o) (.s (.s (.o) (.s (.no) (.o))) (.s (.s (.o) (.s (.no) (.o))) (.s (.s (.o) (.s (.s (.o) (.o)) (.o))) (.s (.r [(2, { ks := [some .u64] })]) (.s (.o) (.s (.o) (.s (.o) (.s (.o) (.s (.o) (.s (.o) (.s (.o) (.s (.o) (.s (.o) (.s (.b (.l [.junk [0, 1, 3, 4, 5, 6, 7, 12, 17, 18, 19, 20, 21, 22, 23, 24, 25, 26, 27, 28, 29, 30, 31, 32, 33, 34, 35, 36, 37, 38, 39, 40, 41, 42, 43, 44, 45, 46, 47, 48, 49, 50, 51, 52, 53, 54, 55, 56, 57, 58, 59, 60, 61, 62, 63, 64, 65, 66, 67, 68, 69, 70, 71, 72, 73, 74, 75, 76, 77, 78, 79, 80, 81, 82, 83, 84, 85, 86, 87, 88, 89, 90, 91, 92, 93, 94, 95, 96, 97, 98, 99, 100, 101, 102, 103, 104, 105, 106, 107, 108, 109, 110, 111, 112, 113, 114, 115, 116, 117, 118, 119, 120, 121, 122, 123, 124, 125, 126, 127, 128, 129, 130, 131, 132, 133, 134]] (.s (.s (.o) (.s (.o) (.o))) (.b (.s (.o) (.s (.o) (.s (.o) (.s (.o) (.o))))))))) (.s (.o) (.s (.o) (.s (.o) (.s (.b (.l [.junk [0, 1, 3, 4, 5, 6, 7, 11, 12, 13, 19, 20, 21, 22, 23, 24, 25, 26, 27, 28, 29, 30, 31, 32, 33, 34, 35, 36, 37, 38, 39, 40, 41, 42, 43, 44, 45, 46, 47, 48, 49, 50, 51, 52, 53, 54, 55, 56, 57, 58, 59, 60, 61, 62, 63, 64, 65, 66, 67, 68, 69, 70, 71, 72, 73, 74, 75, 76, 77, 78, 79, 80, 81, 82, 83, 84, 85, 86, 87, 88, 89, 90, 91, 92, 93, 94, 95, 96, 97, 98, 99, 100, 101, 102, 103, 104, 105, 106, 107, 108, 109, 110, 111, 112, 113, 114, 115, 116, 117, 118, 119, 120, 121, 122, 123, 124, 125, 126, 127, 128, 129, 130, 131, 132, 133, 134]] (.s (.s (.o) (.s (.o) (.o))) (.b (.s (.o) (.s (.o) (.s (.o) (.s (.o) (.o))))))))) (.s (.o) (.o))))))))))))))))))))
theorem k41 : okF Try.prog Try.f41 h41 [(false, 0), (false, 0)] = true := by kernel_rfl

/- couplet/wide.Compare$1 -/
def h42 : Hint := .s (.o) (.s (.b (.s (.o) (.s (.s (.o) (.o)) (.s (.r [(4, { n := 1 })]) (.s (.s (.o) (.o)) (.o)))))) (.s (.o) (.o)))
theorem k42 : okF Try.prog Try.f42 h42 [(false, 0)] = true := by kernel_rfl

/- couplet/wide.below -/
def h43 : Hint := .s (.r [(0, { n := 2 }), (1, { n := 2 })]) (.s (.r [(0, { n := 1, t := 2 }), (1, { n := 1, agg := false }), (2, { n := 1, t := 2 }), (3, { n := 1, agg := false }), (6, { n := 1, t := 2 }), (7, { n := 1, agg := false }), (8, { n := 1, t := 2 }), (9, { n := 1, agg := false }), (12, { n := 1, t := 2 }), (13, { n := 1, agg := false }), (14, { n := 1, t := 2 }), (15, { n := 1, agg := false })]) (.o))
theorem k43 : okF Try.prog Try.f43 h43 [(false, 0)] = true := by kernel_rfl

/- couplet/coupletref02.Right -/
def h44 : Hint := .s (.o) (.s (.o) (.o))
theorem k44 : okF Try.prog Try.f44 h44 [(false, 0)] = true := by kernel_rfl

/- couplet/coupletref01.Right -/
def h45 : Hint := .s (.o) (.s (.o) (.o))
theorem k45 : okF Try.prog Try.f45 h45 [(false, 0)] = true := by kernel_rfl

/- couplet/coupletref01.Times -/
def h46 : Hint := .s (.r [(0, { acc := [(0, 4)] })]) (.s (.o) (.s (.o) (.s (.o) (.s (.s (.o) (.b (.l [.junk [0, 1, 2, 3, 4, 9, 10, 11, 12, 13, 14, 15, 16, 17, 18, 19, 20, 21, 22, 23, 24, 25, 26, 27, 28]] (.s (.s (.o) (.s (.o) (.o))) (.s (.b (.s (.s (.r [(2, { n := 1 }), (3, { n := 1, agg := false })]) (.s (.o) (.o))) (.o))) (.o)))))) (.s (.o) (.o))))))
theorem k46 : okF Try.prog Try.f46 h46 [(false, 0)] = true := by kernel_rfl

/- couplet/coupletref01.size -/
def h47 : Hint := .s (.o) (.s (.s (.o) (.s (.s (.o) (.o)) (.o))) (.s (.o) (.o)))
theorem k47 : okF Try.prog Try.f47 h47 [(false, 0)] = true := by kernel_rfl

/- couplet/coupletref01.Bits -/
def h48 : Hint := .s (.r [(0, { acc := [(0, 2)] })]) (.s (.r [(0, { acc := [(0, 3)] })]) (.s (.s (.o) (.b (.l [.junk [1, 2, 5, 6, 7, 8, 9, 10, 11, 12, 13, 14, 15, 16]] (.s (.s (.o) (.s (.o) (.o))) (.s (.b (.s (.r [(3, { n := 1 }), (4, { n := 1, t := 8 })]) (.o))) (.o)))))) (.s (.o) (.o))))
theorem k48 : okF Try.prog Try.f48 h48 [(false, 0)] = true := by kernel_rfl

/- couplet/coupletref01.Up -/
def h49 : Hint := .s (.r [(0, { acc := [(0, 4)] })]) (.s (.r [(1, { n := 1 }), (3, { n := 1 }), (4, { n := 1, t := 8 })]) (.o))
theorem k49 : okF Try.prog Try.f49 h49 [(false, 0)] = true := by kernel_rfl

/- couplet/coupletref01.Less -/
def h50 : Hint := .s (.o) (.s (.s (.o) (.b (.l [.junk [2, 3, 4, 6, 7, 8, 9, 10, 11, 12, 13, 14, 15, 16, 17, 18, 19, 20, 21, 22, 23, 24, 25, 26, 27]] (.s (.s (.o) (.s (.o) (.o))) (.s (.b (.s (.r [(2, { n := 1 }), (3, { n := 1, agg := false }), (6, { n := 1 }), (7, { n := 1, agg := false })]) (.s (.s (.r [(2, { n := 1 }), (3, { n := 1, agg := false }), (6, { n := 1 }), (7, { n := 1, agg := false })]) (.o)) (.o)))) (.o)))))) (.s (.o) (.o)))
theorem k50 : okF Try.prog Try.f50 h50 [(false, 0)] = true := by kernel_rfl

/- couplet/coupletref01.Sub -/
def h51 : Hint := .s (.r [(0, { acc := [(0, 4)] })]) (.s (.r [(0, { acc := [(0, 5)] })]) (.s (.o) (.s (.s (.o) (.b (.l [.junk [2, 3, 4, 8, 9, 10, 11, 12, 13, 14, 15, 16, 17, 18, 19, 20, 21, 22, 23, 24, 25, 26, 27, 28, 29, 30, 31, 32, 33]] (.s (.s (.o) (.s (.o) (.o))) (.s (.b (.s (.r [(2, { n := 1 }), (3, { n := 1, agg := false }), (6, { n := 1 }), (7, { n := 1, agg := false })]) (.s (.r [(3, { n := 1 }), (4, { n := 1, t := 8 })]) (.o)))) (.o)))))) (.s (.o) (.o)))))
theorem k51 : okF Try.prog Try.f51 h51 [(false, 0)] = true := by kernel_rfl

/- couplet/coupletref01.Add -/
def h52 : Hint := .s (.r [(0, { acc := [(0, 4)] })]) (.s (.r [(0, { acc := [(0, 5)] })]) (.s (.o) (.s (.s (.o) (.b (.l [.junk [2, 3, 4, 8, 9, 10, 11, 12, 13, 14, 15, 16, 17, 18, 19, 20, 21, 22, 23, 24, 25, 26, 27, 28, 29, 30, 31]] (.s (.s (.o) (.s (.o) (.o))) (.s (.b (.s (.r [(2, { n := 1 }), (3, { n := 1, agg := false }), (6, { n := 1 }), (7, { n := 1, agg := false })]) (.s (.r [(3, { n := 1 }), (4, { n := 1, t := 8 })]) (.o)))) (.o)))))) (.s (.o) (.o)))))
theorem k52 : okF Try.prog Try.f52 h52 [(false, 0)] = true := by kernel_rfl

/- couplet/coupletref01.Number -/
def h53 : Hint := .s (.o) (.s (.o) (.s (.s (.o) (.b (.l [.junk [1, 2, 3, 6, 7, 8, 9, 10, 11, 12, 13, 14, 15, 16, 17, 18, 19, 20, 21, 22, 23, 24, 25, 26, 27, 28]] (.s (.s (.o) (.s (.o) (.o))) (.s (.b (.s (.s (.r [(2, { n := 1 }), (3, { n := 1, agg := false })]) (.s (.s (.o) (.o)) (.o))) (.s (.o) (.s (.r [(4, { n := 1 }), (5, { n := 1, agg := false })]) (.o))))) (.o)))))) (.s (.o) (.o))))
theorem k53 : okF Try.prog Try.f53 h53 [(false, 0), (false, 0)] = true := by kernel_rfl

/- slices.IndexFunc(()int,int) -/
def h54 : Hint := .s (.o) (.s (.s (.o) (.b (.l [.junk [2, 3, 4, 5, 6, 9, 10, 11, 12, 13, 14, 15, 16, 17, 18]] (.s (.o) (.s (.s (.o) (.o)) (.s (.b (.s (.o) (.s (.r [(3, { n := 1 }), (4, { n := 1, agg := false })]) (.s (.s (.o) (.o)) (.o))))) (.o))))))) (.s (.o) (.o)))
theorem k54 : okF Try.prog Try.f54 h54 [(false, 0)] = true := by kernel_rfl

/- couplet/frame.Right$1 -/
def h55 : Hint := .s (.o) (.s (.o) (.o))
theorem k55 : okF Try.prog Try.f55 h55 [(false, 0)] = true := by kernel_rfl

/- couplet/frame.Many -/
def h56 : Hint := .s (.o) (.s (.s (.o) (.s (.s (.o) (.o)) (.o))) (.s (.s (.o) (.b (.s (.o) (.s (.s (.o) (.o)) (.s (.o) (.s (.s (.o) (.o)) (.s (.o) (.s (.s (.o) (.o)) (.o))))))))) (.s (.o) (.o))))
theorem k56 : okF Try.prog Try.f56 h56 [(false, 0)] = true := by kernel_rfl

/- (couplet/mat.Mat(couplet/env.Num)).Right -/
def h57 : Hint := .s (.r [(0, { n := 3 })]) (.s (.o) (.s (.r [(1, { off := 0 }), (2, { n := 1, agg := false }), (6, { off := 1 }), (7, { n := 1, agg := false }), (11, { off := 2 }), (12, { n := 1, agg := false }), (14, { off := 0 }), (15, { n := 1, agg := false }), (16, { off := 1 }), (17, { n := 1, agg := false })]) (.o)))
theorem k57 : okF Try.prog Try.f57 h57 [(false, 0)] = true := by kernel_rfl

/- couplet/tri.square(couplet/env.Num) -/
def h58 : Hint := .s (.r [(0, { n := 3 })]) (.s (.r [(0, { n := 3, agg := true }), (3, { off := 0 }), (4, { n := 1, agg := false }), (5, { off := 1 }), (6, { n := 1, agg := false })]) (.o))
theorem k58 : okF Try.prog Try.f58 h58 [(false, 0)] = true := by kernel_rfl

/- couplet/tri.made(couplet/env.Num) -/
def h59 : Hint := .s (.r [(0, { zero := [(.int .i64 0), (.int .i64 0), (.slice none 0 0)], acc := [(2, 3004)] })]) (.s (.r [(0, { acc := [(0, 6)] })]) (.s (.s (.o) (.b (.l [.junk [2, 3, 5, 7, 8, 11, 12, 13, 14, 15, 16, 17, 18, 19, 20, 21, 22, 23, 24, 25, 26, 27, 28, 29, 30, 31], .row 4 2 15004] (.s (.o) (.s (.s (.o) (.o)) (.s (.b (.s (.o) (.s (.o) (.b (.l [.junk [2, 3, 5, 8, 11, 12, 15, 16, 17, 18, 19, 20, 21, 22, 23, 24, 25, 26, 27, 28, 29, 30, 31], .row 4 2 15004] (.s (.o) (.s (.s (.o) (.o)) (.s (.b (.s (.o) (.r [(5, { n := 4 }), (6, { n := 4, t := 32 })]))) (.o))))))))) (.o))))))) (.s (.r [(3, { mc := 6 }), (6, { n := 3 })]) (.o))))
theorem k59 : okF Try.prog Try.f59 h59 [(true, 3), (false, 0)] = true := by kernel_rfl

/- couplet/tri.Clear(couplet/env.Num)$1 -/
def h60 : Hint := .s (.r [(0, { zero := [(.int .i64 0), (.int .i64 0), (.int .i64 0), (.bool false)] })]) (.s (.s (.o) (.s (.s (.r [(0, { n := 4, agg := true }), (3, { n := 4 })]) (.o)) (.o))) (.s (.r [(0, { n := 3, agg := true }), (4, { n := 4 })]) (.o)))
theorem k60 : okF Try.prog Try.f60 h60 [(true, 4)] = true := by kernel_rfl

/- (couplet/mat.Mat(couplet/env.Num)).At -/
def h61 : Hint := .s (.r [(0, { n := 3 }), (1, { zero := [(.int .i64 0), (.int .i64 0), (.int .i64 0), (.bool false)] })]) (.s (.s (.r [(0, { n := 3, agg := true }), (9, { off := 0 }), (10, { n := 1, agg := false }), (19, { off := 1 }), (20, { n := 1, agg := false })]) (.s (.s (.r [(0, { zero := [(.int .i64 0), (.int .i64 0), (.int .i64 0), (.bool false)] })]) (.s (.r [(0, { n := 4, agg := true }), (1, { n := 4 })]) (.o))) (.o))) (.s (.r [(0, { off := 2 }), (1, { n := 1, agg := false }), (3, { off := 1 }), (4, { n := 1, agg := false }), (8, { n := 4 }), (9, { n := 4, agg := true }), (10, { n := 4 })]) (.o)))
theorem k61 : okF Try.prog Try.f61 h61 [(true, 4)] = true := by kernel_rfl

/- (couplet/mat.Mat(couplet/env.Num)).Mul -/
def h62 : Hint := .s (.r [(0, { n := 3 }), (1, { n := 3 }), (2, { zero := [(.int .i64 0), (.int .i64 0), (.slice none 0 0)], acc := [(2, 3004)] })]) (.s (.s (.r [(0, { n := 3, agg := true }), (4, { n := 3, agg := true }), (9, { off := 1 }), (10, { n := 1, agg := false }), (11, { off := 0 }), (12, { n := 1, agg := false })]) (.s (.s (.r [(0, { zero := [(.int .i64 0), (.int .i64 0), (.slice none 0 0)], places := [(0, 1), (1, 1), (2, 1)] }), (1, { n := 3 })]) (.o)) (.o))) (.s (.r [(0, { off := 0 }), (1, { n := 1, agg := false }), (2, { off := 1 }), (3, { n := 1, agg := false }), (4, { zero := [(.int .i64 0), (.int .i64 0), (.slice none 0 0)], places := [(0, 1), (1, 1), (2, 1)] }), (5, { zero := [(.int .i64 0), (.int .i64 0), (.slice none 0 0)], acc := [(2, 3006)] }), (6, { n := 3 })]) (.s (.r [(0, { n := 3, agg := true }), (2, { zero := [(.int .i64 0), (.int .i64 0), (.slice none 0 0)], acc := [(2, 3007)] }), (3, { n := 3 })]) (.s (.s (.r [(0, { n := 3, agg := true })]) (.b (.f [.drop [9], .forget 1009, .row 4 2 15004, .row 6 2 15006, .row 7 2 15007] (.r [(0, { zero := [(.slice none 0 0)], acc := [(0, 1009)] }), (1, { n := 1 })]) (.b (.s (.r [(0, { n := 3, agg := true })]) (.b (.f [.row 4 2 15004, .row 6 2 15006, .row 7 2 15007, .row 9 0 5009] (.o) (.b (.r [(0, { off := 2 }), (1, { n := 1, agg := false }), (2, { n := 1, agg := false }), (5, { n := 4 }), (6, { n := 4, t := 32 }), (7, { off := 2 }), (8, { n := 1 })]))))))))) (.s (.r [(0, { n := 3, agg := true }), (1, { n := 3 })]) (.o))))))
theorem k62 : okF Try.prog Try.f62 h62 [(true, 3), (false, 0)] = true := by kernel_rfl

/- (couplet/mat.Mat(couplet/env.Num)).Turn -/
def h63 : Hint := .s (.r [(0, { n := 3 }), (1, { zero := [(.int .i64 0), (.int .i64 0), (.slice none 0 0)], acc := [(2, 3002)] })]) (.s (.s (.r [(0, { n := 3, agg := true })]) (.s (.s (.r [(0, { zero := [(.int .i64 0), (.int .i64 0), (.slice none 0 0)], places := [(0, 1), (1, 1), (2, 1)] }), (1, { n := 3 })]) (.o)) (.o))) (.s (.r [(0, { off := 1 }), (1, { n := 1, agg := false }), (2, { off := 0 }), (3, { n := 1, agg := false }), (4, { zero := [(.int .i64 0), (.int .i64 0), (.slice none 0 0)], places := [(0, 1), (1, 1), (2, 1)] }), (5, { zero := [(.int .i64 0), (.int .i64 0), (.slice none 0 0)], acc := [(2, 3003)] }), (6, { n := 3 })]) (.s (.s (.r [(0, { off := 1 }), (1, { n := 1, agg := false })]) (.b (.l [.junk [0, 4, 5, 6, 7, 8, 9, 10, 11, 12, 13, 14, 15, 18, 19, 20, 21, 22, 23, 24, 25, 26, 27, 28, 29, 30, 31, 32, 33, 34, 35, 36], .row 2 2 15002, .row 3 2 15003] (.s (.o) (.s (.s (.o) (.o)) (.s (.b (.s (.o) (.s (.r [(0, { off := 0 }), (1, { n := 1, agg := false })]) (.b (.l [.junk [0, 5, 6, 7, 8, 9, 10, 11, 12, 13, 14, 15, 18, 19, 20, 23, 24, 25, 26, 27, 28, 29, 30, 31, 32, 33, 34, 35, 36], .row 2 2 15002, .row 3 2 15003] (.s (.o) (.s (.s (.o) (.o)) (.s (.b (.s (.o) (.r [(0, { off := 2 }), (1, { n := 1, agg := false }), (2, { n := 3, agg := true }), (6, { n := 4 }), (7, { n := 4, t := 32 }), (8, { off := 2 }), (9, { n := 1 })]))) (.o))))))))) (.o))))))) (.s (.r [(0, { n := 3, agg := true }), (1, { n := 3 })]) (.o)))))
theorem k63 : okF Try.prog Try.f63 h63 [(true, 3)] = true := by kernel_rfl

/- (couplet/mat.Mat(couplet/env.Num)).Mirror -/
def h64 : Hint := .s (.r [(0, { n := 3 }), (1, { zero := [(.int .i64 0), (.int .i64 0), (.slice none 0 0)], acc := [(2, 3002)] })]) (.s (.s (.r [(0, { n := 3, agg := true }), (4, { off := 0 }), (5, { n := 1, agg := false }), (6, { off := 1 }), (7, { n := 1, agg := false })]) (.s (.s (.r [(0, { zero := [(.int .i64 0), (.int .i64 0), (.slice none 0 0)], places := [(0, 1), (1, 1), (2, 1)] }), (1, { n := 3 })]) (.o)) (.o))) (.s (.r [(0, { off := 0 }), (1, { n := 1, agg := false }), (2, { off := 1 }), (3, { n := 1, agg := false }), (4, { zero := [(.int .i64 0), (.int .i64 0), (.slice none 0 0)], places := [(0, 1), (1, 1), (2, 1)] }), (5, { zero := [(.int .i64 0), (.int .i64 0), (.slice none 0 0)], acc := [(2, 3004)] }), (6, { n := 3 })]) (.s (.s (.r [(0, { off := 0 }), (1, { n := 1, agg := false })]) (.b (.l [.junk [0, 3, 5, 6, 7, 8, 9, 10, 11, 12, 13, 14, 15, 16, 17, 18, 19, 20, 21, 22, 23, 26, 27, 28, 29, 30, 31, 32, 33, 34, 35, 36, 37, 38, 39, 40, 41, 42, 43, 44, 45, 46, 47, 48], .row 2 2 15002, .row 4 2 15004] (.s (.o) (.s (.s (.o) (.o)) (.s (.b (.s (.o) (.s (.r [(0, { off := 1 }), (1, { n := 1, agg := false })]) (.b (.l [.junk [0, 3, 6, 7, 8, 9, 10, 11, 12, 13, 14, 15, 16, 17, 18, 19, 20, 21, 22, 23, 26, 27, 28, 31, 32, 33, 34, 35, 36, 37, 38, 39, 40, 41, 42, 43, 44, 45, 46, 47, 48], .row 2 2 15002, .row 4 2 15004] (.s (.o) (.s (.s (.o) (.o)) (.s (.b (.s (.o) (.r [(0, { off := 2 }), (1, { n := 1, agg := false }), (2, { n := 3, agg := true }), (10, { n := 4 }), (11, { n := 4, t := 32 }), (12, { off := 2 }), (13, { n := 1 })]))) (.o))))))))) (.o))))))) (.s (.r [(0, { n := 3, agg := true }), (1, { n := 3 })]) (.o)))))
theorem k64 : okF Try.prog Try.f64 h64 [(true, 3), (false, 0)] = true := by kernel_rfl

/- math/bits.Mul64 -/
def h65 : Hint := .s (.o) (.s (.o) (.s (.o) (.s (.o) (.s (.o) (.s (.o) (.s (.o) (.s (.o) (.s (.o) (.s (.o) (.s (.o) (.s (.o) (.o))))))))))))
theorem k65 : okF Try.prog Try.f65 h65 [(false, 0), (false, 0)] = true := by kernel_rfl

/- math/bits.LeadingZeros64 -/
/- (couplet/mat.Mat(couplet/env.Num)).Right$1 -/
def h67 : Hint := .s (.o) (.s (.o) (.o))
theorem k67 : okF Try.prog Try.f67 h67 [(false, 0)] = true := by kernel_rfl

/- (couplet/mat.Mat(couplet/env.Num)).All -/
def h68 : Hint := .s (.r [(0, { n := 3 })]) (.s (.g [.freeze 1] (.o)) (.o))
theorem k68 : okF Try.prog Try.f68 h68 [(false, 0)] = true := by kernel_rfl

/- couplet/vec.Dot(couplet/env.Num) -/
def h69 : Hint := .s (.r [(0, { zero := [(.int .i64 0), (.int .i64 0), (.int .i64 0), (.bool false)] })]) (.s (.r [(4, { n := 4 })]) (.o))
theorem k69 : okF Try.prog Try.f69 h69 [(true, 4)] = true := by kernel_rfl

/- math/bits.Len64 -/
/- (couplet/mat.Mat(couplet/env.Num)).All$1 -/
def h71 : Hint := .s (.o) (.b (.l [.junk [2, 4, 5, 6, 7, 8, 9, 10, 11, 12, 13, 14, 15, 16, 17, 18, 19, 20]] (.s (.s (.r [(0, { n := 3, agg := true }), (4, { off := 0 }), (5, { n := 1, agg := false })]) (.s (.o) (.o))) (.s (.b (.s (.r [(2, { n := 3, agg := true })]) (.s (.o) (.o)))) (.o)))))
theorem k71 : okF Try.prog Try.f71 h71 [] = true := by kernel_rfl
/- (couplet/mat.Mat(couplet/env.Num)).All$1 -/
/- (couplet/mat.Mat(couplet/env.Num)).Row -/
def h72 : Hint := .s (.r [(0, { n := 3 }), (1, { acc := [(0, 4)] })]) (.s (.s (.r [(0, { n := 3, agg := true }), (9, { off := 0 }), (10, { n := 1, agg := false })]) (.s (.s (.r [(0, { acc := [(0, 4)] })]) (.o)) (.o))) (.s (.r [(0, { off := 2 }), (1, { n := 1, agg := false }), (3, { off := 1 }), (4, { n := 1, agg := false }), (8, { off := 1 }), (9, { n := 1, agg := false }), (11, { n := 4 })]) (.o)))
theorem k72 : okF Try.prog Try.f72 h72 [(false, 0)] = true := by kernel_rfl
/- (couplet/mat.Mat(couplet/env.Num)).Row -/
/- couplet/vec.Sum(couplet/env.Num) -/
def h73 : Hint := .s (.r [(0, { zero := [(.int .i64 0), (.int .i64 0), (.int .i64 0), (.bool false)] })]) (.s (.r [(0, { zero := [(.int .i64 0), (.int .i64 0), (.int .i64 0), (.bool false)] })]) (.s (.r [(0, { n := 4, agg := true }), (3, { zero := [(.int .i64 0), (.int .i64 0), (.int .i64 0), (.bool false)] }), (4, { n := 4 })]) (.s (.s (.o) (.b (.l [.junk [0, 1, 3, 5, 6, 7, 8, 9, 13, 14, 15, 16, 17, 18, 19, 20, 21], .drop [6]] (.s (.o) (.s (.s (.o) (.o)) (.s (.b (.s (.r [(0, { n := 4 }), (1, { n := 4, agg := true }), (2, { zero := [(.int .i64 0), (.int .i64 0), (.int .i64 0), (.bool false)] }), (3, { n := 4 })]) (.r [(0, { n := 4, agg := true }), (2, { n := 4, agg := true }), (4, { n := 4 })]))) (.o))))))) (.s (.r [(0, { n := 4, agg := true }), (1, { n := 4 })]) (.o)))))
theorem k73 : okF Try.prog Try.f73 h73 [(true, 4)] = true := by kernel_rfl

/- couplet/vec.of(couplet/env.Num) -/
def h74 : Hint := .s (.r [(0, { n := 1 }), (1, { acc := [(0, 6)] })]) (.s (.r [(0, { zero := [(.slice none 0 0)], acc := [(0, 1007)] })]) (.s (.s (.o) (.b (.f [.drop [8, 9], .row 7 0 5007] (.s (.r [(0, { zero := [(.int .i64 0), (.int .i64 0), (.int .i64 0), (.bool false)] }), (1, { n := 4 })]) (.r [(0, { zero := [(.int .i64 0), (.int .i64 0), (.int .i64 0), (.bool false)] }), (1, { n := 4 })])) (.b (.r [(0, { n := 1, agg := false }), (1, { n := 1, agg := false }), (2, { n := 4, agg := true }), (3, { n := 4, agg := true }), (5, { n := 4 }), (6, { n := 4, t := 32 }), (7, { n := 1 })]))))) (.s (.r [(0, { n := 1, agg := false })]) (.o))))
theorem k74 : okF Try.prog Try.f74 h74 [(false, 0)] = true := by kernel_rfl
/- couplet/vec.of(couplet/env.Num) -/
/- couplet/vec.Dot(couplet/env.Num)$1 -/
def h75 : Hint := .s (.r [(0, { n := 4 }), (1, { n := 4 }), (2, { zero := [(.int .i64 0), (.int .i64 0), (.int .i64 0), (.bool false)] })]) (.s (.r [(0, { n := 4, agg := true }), (2, { n := 4, agg := true }), (4, { n := 4 })]) (.o))
theorem k75 : okF Try.prog Try.f75 h75 [(true, 4)] = true := by kernel_rfl

/- couplet/vec.Pairs(couplet/env.Num) -/
def h76 : Hint := .s (.r [(0, { n := 1 }), (1, { n := 1 })]) (.s (.g [.freeze 2, .freeze 3] (.o)) (.o))
theorem k76 : okF Try.prog Try.f76 h76 [(false, 0)] = true := by kernel_rfl

/- couplet/vec.Pairs(couplet/env.Num)$1 -/
def h77 : Hint := .s (.r [(0, { n := 1, agg := false }), (2, { n := 1, agg := false })]) (.b (.l [.junk [3, 4, 5, 6, 7, 8, 11, 12, 13, 14, 15, 16, 17, 18, 19, 20, 21, 22, 23, 24]] (.s (.o) (.s (.s (.o) (.o)) (.s (.b (.s (.o) (.s (.y [(1, { n := 1, agg := false }), (3, { n := 4 }), (4, { n := 4, agg := true }), (5, { n := 1, agg := false }), (7, { n := 4 }), (8, { n := 4, agg := true })]) (.s (.o) (.o))))) (.o))))))
theorem k77 : okF Try.prog Try.f77 h77 [] = true := by kernel_rfl

/- (couplet/env.Num).Add -/
def h93 : Hint := .s (.r [(0, { n := 4 }), (1, { n := 4 }), (2, { zero := [(.int .i64 0), (.int .i64 0), (.int .i64 0), (.bool false)] })]) (.s (.o) (.s (.r [(0, { n := 4, agg := true }), (1, { n := 4, agg := true }), (3, { off := 1 }), (4, { n := 1, agg := false }), (5, { off := 1 }), (6, { n := 1, agg := false }), (7, { zero := [(.int .i64 0), (.int .i64 0)], places := [(0, 1), (1, 1)] }), (8, { off := 2 }), (9, { n := 1, agg := false }), (10, { off := 2 }), (11, { n := 1, agg := false }), (12, { zero := [(.int .i64 0), (.int .i64 0)], places := [(0, 1), (1, 1)] }), (13, { n := 2 }), (15, { n := 4 })]) (.o)))
theorem k93 : okF Try.prog Try.f93 h93 [(true, 4)] = true := by kernel_rfl

/- (couplet/env.Num).Mul -/
def h94 : Hint := .s (.r [(0, { n := 4 }), (1, { n := 4 }), (2, { zero := [(.int .i64 0), (.int .i64 0), (.int .i64 0), (.bool false)] })]) (.s (.r [(0, { n := 4, agg := true }), (1, { n := 4, agg := true }), (2, { n := 4, agg := true }), (3, { n := 4, agg := true }), (6, { n := 4 })]) (.o))
theorem k94 : okF Try.prog Try.f94 h94 [(true, 4)] = true := by kernel_rfl

/- (couplet/env.Num).Of -/
def h95 : Hint := .s (.r [(0, { n := 4 }), (1, { zero := [(.int .i64 0), (.int .i64 0), (.int .i64 0), (.bool false)] })]) (.s (.o) (.s (.s (.o) (.s (.s (.r [(1, { n := 4 })]) (.o)) (.o))) (.s (.r [(2, { n := 4 })]) (.o))))
theorem k95 : okF Try.prog Try.f95 h95 [(true, 4)] = true := by kernel_rfl

/- (couplet/env.Num).Add$1 -/
def h96 : Hint := .s (.o) (.s (.o) (.o))
theorem k96 : okF Try.prog Try.f96 h96 [(false, 0), (false, 0)] = true := by kernel_rfl

/- couplet/fx.Add -/
def h97 : Hint := .s (.o) (.s (.s (.o) (.s (.s (.o) (.o)) (.o))) (.s (.o) (.o)))
theorem k97 : okF Try.prog Try.f97 h97 [(false, 0), (false, 0)] = true := by kernel_rfl

/- couplet/env.made -/
def h98 : Hint := .s (.r [(0, { n := 4 }), (1, { n := 4 }), (2, { zero := [(.int .i64 0), (.int .i64 0), (.int .i64 0), (.bool false)] })]) (.s (.r [(1, { off := 0 }), (2, { n := 1, agg := false }), (3, { off := 0 }), (4, { n := 1, agg := false })]) (.s (.r [(0, { acc := [(0, 11)] }), (1, { acc := [(0, 12)] })]) (.s (.s (.o) (.b (.l [.junk [0, 1, 3, 6, 7, 13, 14, 15, 16, 17, 18, 19, 20, 21, 22, 23, 24, 25, 26, 27, 31, 32, 33, 34, 35, 36, 37, 38, 39, 40, 41, 42, 43, 44, 45, 46, 47, 48, 49, 50, 51, 52, 53, 54, 55, 56, 57, 58, 59, 60, 61, 62, 63, 64, 65, 66, 67, 68, 69, 70, 71, 72, 73, 74, 75, 76, 77, 78, 79, 80, 81, 82, 83, 84, 85, 86], .drop [14]] (.s (.o) (.s (.s (.o) (.o)) (.s (.b (.s (.r [(0, { n := 2 }), (1, { n := 2, agg := true }), (2, { zero := [(.int .i64 0), (.int .i64 0)] }), (3, { n := 2 })]) (.s (.r [(1, { n := 1, t := 2 }), (2, { n := 1, agg := false }), (3, { n := 1, t := 2 }), (4, { n := 1, agg := false })]) (.s (.r [(1, { n := 1, t := 2 }), (2, { n := 1, agg := false }), (3, { n := 1, t := 2 }), (4, { n := 1, agg := false })]) (.s (.o) (.r [(2, { n := 1 }), (3, { n := 1, t := 8 }), (6, { n := 1 }), (7, { n := 1, t := 8 })])))))) (.o))))))) (.s (.s (.r [(3, { n := 4, agg := true }), (8, { n := 4, agg := true })]) (.s (.s (.r [(1, { n := 4 })]) (.o)) (.o))) (.s (.r [(5, { zero := [(.int .i64 0), (.int .i64 0), (.int .i64 0), (.bool false)], places := [(0, 1), (1, 1), (2, 1), (3, 1)] }), (6, { n := 4 })]) (.o))))))
theorem k98 : okF Try.prog Try.f98 h98 [(true, 4)] = true := by kernel_rfl

/- couplet/fx.Mul -/
def h99 : Hint := .s (.o) (.s (.o) (.s (.r [(4, { n := 1 })]) (.o)))
theorem k99 : okF Try.prog Try.f99 h99 [(false, 0), (false, 0)] = true := by kernel_rfl

/- couplet/env.all -/
def h100 : Hint := .s (.r [(0, { n := 4 }), (1, { n := 4 }), (2, { acc := [(0, 4)] })]) (.s (.r [(0, { off := 1 }), (1, { n := 1, agg := false }), (2, { off := 1 }), (3, { n := 1, agg := false }), (4, { zero := [(.int .i64 0), (.int .i64 0)], places := [(0, 1), (1, 1)] }), (5, { off := 1 }), (6, { n := 1, agg := false }), (7, { off := 2 }), (8, { n := 1, agg := false }), (9, { zero := [(.int .i64 0), (.int .i64 0)], places := [(0, 1), (1, 1)] }), (10, { off := 2 }), (11, { n := 1, agg := false }), (12, { off := 1 }), (13, { n := 1, agg := false }), (14, { zero := [(.int .i64 0), (.int .i64 0)], places := [(0, 1), (1, 1)] }), (15, { off := 2 }), (16, { n := 1, agg := false }), (17, { off := 2 }), (18, { n := 1, agg := false }), (19, { zero := [(.int .i64 0), (.int .i64 0)], places := [(0, 1), (1, 1)] }), (20, { n := 2 })]) (.o))
theorem k100 : okF Try.prog Try.f100 h100 [(false, 0)] = true := by kernel_rfl

/- couplet/fx.Of -/
def h101 : Hint := .s (.o) (.s (.o) (.s (.o) (.o)))
theorem k101 : okF Try.prog Try.f101 h101 [(false, 0), (false, 0)] = true := by kernel_rfl

/- couplet/fx.told -/
def h102 : Hint := .s (.o) (.s (.s (.r [(2, { n := 1 }), (3, { n := 1, t := 8 })]) (.b (.l [.junk [2, 3, 4, 5, 6, 7, 8, 9, 10, 11, 12, 16, 17, 18, 19, 20, 21, 22, 23, 24, 25, 26, 27]] (.s (.o) (.s (.s (.o) (.o)) (.s (.b (.s (.r [(0, { n := 1 }), (1, { n := 1, agg := false })]) (.s (.o) (.s (.s (.o) (.o)) (.o))))) (.o))))))) (.s (.o) (.o)))
theorem k102 : okF Try.prog Try.f102 h102 [(false, 0), (false, 0)] = true := by kernel_rfl

/- slices.Min(()int,int) -/
def h103 : Hint := .s (.o) (.s (.s (.o) (.s (.no) (.o))) (.s (.r [(1, { n := 1 }), (2, { n := 1, agg := false })]) (.s (.s (.o) (.b (.l [.junk [1, 2, 5, 6, 7, 8, 9, 10, 11, 12, 13, 14, 15, 16, 17, 18, 19, 20, 21, 22, 23, 24]] (.s (.s (.o) (.s (.o) (.o))) (.s (.b (.r [(3, { n := 1 }), (4, { n := 1, agg := false })])) (.o)))))) (.s (.o) (.o)))))
theorem k103 : okF Try.prog Try.f103 h103 [(false, 0)] = true := by kernel_rfl

/- slices.Max(()int,int) -/
def h104 : Hint := .s (.o) (.s (.s (.o) (.s (.no) (.o))) (.s (.r [(1, { n := 1 }), (2, { n := 1, agg := false })]) (.s (.s (.o) (.b (.l [.junk [1, 2, 5, 6, 7, 8, 9, 10, 11, 12, 13, 14, 15, 16, 17, 18, 19, 20, 21, 22, 23, 24]] (.s (.s (.o) (.s (.o) (.o))) (.s (.b (.r [(3, { n := 1 }), (4, { n := 1, agg := false })])) (.o)))))) (.s (.o) (.o)))))
theorem k104 : okF Try.prog Try.f104 h104 [(false, 0)] = true := by kernel_rfl

/- (couplet/mat.Mat(couplet/env.Num)).Add -/
/- (couplet/mat.Mat(couplet/env.Num)).each -/
/- couplet/vec.Add(couplet/env.Num) -/
/- couplet/vec.Add(couplet/env.Num) -/
/- couplet/vec.Add(couplet/env.Num)$1 -/
end Go.Proofs.Ytambpjbpdackfaa.A


set_option linter.unusedVariables false
set_option linter.unusedSimpArgs false
set_option maxRecDepth 100000
namespace Go.Proofs.Ytambpjbpdackfaa.A
open Go Go.RowKit Go.Shelf

abbrev num (n : Int) : PV := .s (.int .i64 n)
abbrev tru (b : Bool) : PV := .s (.bool b)
abbrev nt (n : Int) : TV := .v (.s (.int .i64 n))
abbrev jk : TV := .v .junk

theorem wrapped {x : Int} (h1 : -9223372036854775808 ≤ x) (h2 : x ≤ 9223372036854775807) : IntKind.wrap .i64 x = x := by
  simp [IntKind.wrap, IntKind.bits, IntKind.signed]
  omega

/-! ### Fractions -/
structure Fr where
  n : Int
  d : Int
  bad : Bool
  deriving DecidableEq

abbrev frV (x : Fr) : PV := .agg [num x.n, num x.d, tru x.bad]
abbrev Fr.wrong : Fr := ⟨0, 0, true⟩
def newF (n d : Int) : Fr :=
  if n > 1152921504606846976 ∨ n < -1152921504606846976 ∨ d > 1152921504606846976 ∨ d < -1152921504606846976 ∨ d = 0 then .wrong else
    let m : Int := if d < 0 then -n else n
    let e : Int := if d < 0 then -d else d
    let k : Int := Int.gcd m e
    if m.tdiv k > 1073741824 ∨ m.tdiv k < -1073741824 ∨ e.tdiv k > 1073741824 then .wrong else ⟨m.tdiv k, e.tdiv k, false⟩

end Go.Proofs.Ytambpjbpdackfaa.A


/- The arithmetic under Go's math/bits.Div64 (the school method, two digits of 32 bits). No program in this text. -/
set_option linter.unusedVariables false
namespace Go.Proofs.Ytambpjbpdackfaa.A

/-- A digit's guess is not below the digit. -/
theorem dig_ge {u v1 v0 x : Nat} (hv1 : 0 < v1) (hx : x < 4294967296) : (u * 4294967296 + x) / (v1 * 4294967296 + v0) ≤ u / v1 := by
  rw [Nat.le_div_iff_mul_le hv1]
  have h := Nat.div_mul_le_self (u * 4294967296 + x) (v1 * 4294967296 + v0)
  generalize (u * 4294967296 + x) / (v1 * 4294967296 + v0) = Q at *
  rw [Nat.mul_add, ← Nat.mul_assoc] at h
  generalize Q * v1 = a at *
  generalize Q * v0 = b at *
  omega
/-- A guess is too great just if it is so by two digits. -/
theorem dig_gt {u v1 v0 x q r : Nat} (h : q * v1 + r = u) : q * v0 > 4294967296 * r + x ↔ q * (v1 * 4294967296 + v0) > u * 4294967296 + x := by
  subst h
  rw [Nat.mul_add, ← Nat.mul_assoc, Nat.add_mul]
  generalize q * v1 = a
  generalize q * v0 = b
  omega
theorem dig_le {W v q : Nat} (hv : 0 < v) (h : ¬ q * v > W) : q ≤ W / v := by
  rw [Nat.le_div_iff_mul_le hv]
  omega
/-- What is left is as great as a digit: the guess is not too great. -/
theorem dig_big {u v1 v0 x q r : Nat} (h : q * v1 + r = u) (hu : u < v1 * 4294967296 + v0) (h0 : v0 < 4294967296) (hr : 4294967296 ≤ r) : ¬ q * (v1 * 4294967296 + v0) > u * 4294967296 + x := by
  rw [← dig_gt h]
  have hq : q * v1 < 4294967296 * v1 := by
    rw [Nat.mul_comm 4294967296]
    generalize q * v1 = a at *
    generalize v1 * 4294967296 = b at *
    omega
  have hq' : q < 4294967296 := Nat.lt_of_mul_lt_mul_right hq
  have h2 : q * v0 ≤ 4294967295 * 4294967295 := Nat.mul_le_mul (by omega) (by omega)
  generalize q * v0 = a at *
  omega
/-- The first guess is not much too great. -/
theorem dig_first {u v1 v0 : Nat} (hv : 2147483648 ≤ v1) (h0 : v0 < 4294967296) (hu : u < v1 * 4294967296 + v0) : u / v1 ≤ 4294967297 := by
  have : u / v1 < 4294967298 := by
    rw [Nat.div_lt_iff_lt_mul (by omega)]
    omega
  omega
theorem dig_small {u v x : Nat} (hu : u < v) (hx : x < 4294967296) : (u * 4294967296 + x) / v < 4294967296 := by
  have h1 : u * 4294967296 + x < (u + 1) * 4294967296 := by omega
  have h2 : (u + 1) * 4294967296 ≤ v * 4294967296 := Nat.mul_le_mul_right _ hu
  have h3 := Nat.lt_of_lt_of_le h1 h2
  generalize u * 4294967296 + x = a at *
  generalize hK : 4294967296 = K at *
  refine Nat.div_lt_of_lt_mul ?_
  first | exact h3 | (rw [Nat.mul_comm]; exact h3)
/-- Both digits. -/
theorem two_digits {W v b K : Nat} (hv : 0 < v) : W / v * K + (W % v * K + b) / v = (W * K + b) / v ∧ (W % v * K + b) % v = (W * K + b) % v := by
  have e : W * K + b = ((W % v) * K + b) + v * (W / v * K) := by
    conv => lhs; rw [← Nat.div_add_mod W v]
    rw [Nat.add_mul, Nat.mul_assoc]
    omega
  rw [e]
  constructor
  · rw [Nat.add_mul_div_left _ _ hv, Nat.add_comm]
  · rw [Nat.add_mul_mod_self_left]
theorem shifted {N y s : Nat} (hy : 0 < y) : N * 2 ^ s / (y * 2 ^ s) = N / y ∧ N * 2 ^ s % (y * 2 ^ s) / 2 ^ s = N % y := by
  have hp : 0 < 2 ^ s := Nat.two_pow_pos s
  constructor
  · rw [Nat.mul_div_mul_right _ _ hp]
  · rw [Nat.mul_mod_mul_right, Nat.mul_div_cancel _ hp]
end Go.Proofs.Ytambpjbpdackfaa.A


set_option linter.unusedVariables false
namespace Go.Proofs.Ytambpjbpdackfaa.A

/-! ### Numbers as rows of bits -/
def bitN (x k : Nat) : Nat := x / 2 ^ k % 2
theorem bitN_lt (x k : Nat) : bitN x k < 2 := Nat.mod_lt _ (by omega)
theorem bitN_cases (x k : Nat) : bitN x k = 0 ∨ bitN x k = 1 := by have := bitN_lt x k; omega
/-- The first n bits of x. -/
def bitsTo (x n : Nat) : List Int := (List.range n).map fun k => (bitN x k : Int)
def rowB (x : Nat) : List Int := bitsTo x 130
theorem bitsTo_length (x n : Nat) : (bitsTo x n).length = n := by simp [bitsTo]
theorem rowB_length (x : Nat) : (rowB x).length = 130 := bitsTo_length x 130
theorem bitsTo_succ (x n : Nat) : bitsTo x (n + 1) = bitsTo x n ++ [(bitN x n : Int)] := by simp [bitsTo, List.range_succ]
theorem bitsTo_get {x n k : Nat} (h : k < n) : (bitsTo x n)[k]? = some (bitN x k : Int) := by simp [bitsTo, h]
theorem rowB_get {x k : Nat} (h : k < 130) : (rowB x)[k]? = some (bitN x k : Int) := bitsTo_get h
theorem half_bit (x k : Nat) : x / 2 ^ k = 2 * (x / 2 ^ (k + 1)) + bitN x k := by
  unfold bitN
  rw [Nat.pow_succ, ← Nat.div_div_eq_div_mul]
  omega
theorem mod_bit (x k : Nat) : x % 2 ^ (k + 1) = x % 2 ^ k + 2 ^ k * bitN x k := Nat.mod_pow_succ

/-! A sum: bit by bit, with what is carried. -/
def carry (a b k : Nat) : Nat := (a % 2 ^ k + b % 2 ^ k) / 2 ^ k
theorem carry_zero (a b : Nat) : carry a b 0 = 0 := by simp [carry, Nat.mod_one]
theorem carry_lt (a b k : Nat) : carry a b k < 2 := by
  have hp := Nat.two_pow_pos k
  have h1 := Nat.mod_lt a hp
  have h2 := Nat.mod_lt b hp
  unfold carry
  rw [Nat.div_lt_iff_lt_mul hp]
  omega
theorem sum_div (a b k : Nat) : (a + b) / 2 ^ k = a / 2 ^ k + b / 2 ^ k + carry a b k := by
  have hp := Nat.two_pow_pos k
  unfold carry
  conv => lhs; rw [← Nat.div_add_mod a (2 ^ k), ← Nat.div_add_mod b (2 ^ k)]
  have : 2 ^ k * (a / 2 ^ k) + a % 2 ^ k + (2 ^ k * (b / 2 ^ k) + b % 2 ^ k) = (a % 2 ^ k + b % 2 ^ k) + 2 ^ k * (a / 2 ^ k + b / 2 ^ k) := by rw [Nat.mul_add]; omega
  rw [this, Nat.add_mul_div_left _ _ hp]
  omega
theorem sum_bit (a b k : Nat) : bitN (a + b) k = (bitN a k + bitN b k + carry a b k) % 2 := by
  unfold bitN
  rw [sum_div]
  omega
theorem carry_succ (a b k : Nat) : carry a b (k + 1) = (bitN a k + bitN b k + carry a b k) / 2 := by
  have h := sum_div a b k
  have h1 := sum_div a b (k + 1)
  have e1 := half_bit a k
  have e2 := half_bit b k
  have e3 := half_bit (a + b) k
  have e4 := sum_bit a b k
  omega

/-! A difference. -/
def borrow (a b k : Nat) : Nat := if a % 2 ^ k < b % 2 ^ k then 1 else 0
theorem borrow_zero (a b : Nat) : borrow a b 0 = 0 := by simp [borrow, Nat.mod_one]
theorem sub_div {a b : Nat} (h : b ≤ a) (k : Nat) : (a - b) / 2 ^ k + b / 2 ^ k + borrow a b k = a / 2 ^ k := by
  have hp := Nat.two_pow_pos k
  have h1 := Nat.mod_lt a hp
  have h2 := Nat.mod_lt b hp
  obtain ⟨d, rfl⟩ : ∃ d, a = b + d := ⟨a - b, by omega⟩
  have hd : b + d - b = d := by omega
  rw [hd]
  have hs := sum_div b d k
  have hm : (b + d) % 2 ^ k = b % 2 ^ k + d % 2 ^ k - 2 ^ k * carry b d k := by
    have e1 := Nat.div_add_mod (b + d) (2 ^ k)
    have e2 := Nat.div_add_mod b (2 ^ k)
    have e3 := Nat.div_add_mod d (2 ^ k)
    rw [hs, Nat.mul_add, Nat.mul_add] at e1
    omega
  have h3 := Nat.mod_lt d hp
  have hc : carry b d k = borrow (b + d) b k := by
    have hle : 2 ^ k * carry b d k ≤ b % 2 ^ k + d % 2 ^ k := by unfold carry; exact Nat.mul_div_le _ _
    have hc2 := carry_lt b d k
    have hc3 : carry b d k = 0 → b % 2 ^ k + d % 2 ^ k < 2 ^ k := fun e => by
      unfold carry at e
      exact (Nat.div_eq_zero_iff_lt hp).1 e
    unfold borrow
    rw [hm]
    generalize carry b d k = c at *
    have : c = 0 ∨ c = 1 := by omega
    rcases this with rfl | rfl
    · have := hc3 rfl
      rw [if_neg (by omega)]
    · rw [if_pos (by omega)]
  omega
theorem sub_bit {a b : Nat} (h : b ≤ a) (k : Nat) : ((bitN a k : Int) - bitN b k - borrow a b k + 2).tmod 2 = bitN (a - b) k ∧ borrow a b (k + 1) = 1 - ((bitN a k : Int) - bitN b k - borrow a b k + 2).tdiv 2 := by
  have h1 := sub_div h k
  have h2 := sub_div h (k + 1)
  have e1 := half_bit a k
  have e2 := half_bit b k
  have e3 := half_bit (a - b) k
  have c1 := bitN_cases a k
  have c2 := bitN_cases b k
  have c3 := bitN_cases (a - b) k
  have b1 : borrow a b k = 0 ∨ borrow a b k = 1 := by unfold borrow; split <;> simp
  have b2 : borrow a b (k + 1) = 0 ∨ borrow a b (k + 1) = 1 := by unfold borrow; split <;> simp
  rw [Int.tmod_eq_emod_of_nonneg (by omega), Int.tdiv_eq_ediv_of_nonneg (by omega)]
  omega

/-! Which one is less. -/
theorem less_here {a b k : Nat} (h : a / 2 ^ (k + 1) = b / 2 ^ (k + 1)) (hne : bitN a k ≠ bitN b k) : (bitN a k < bitN b k) = (a < b) := by
  have e1 := half_bit a k
  have e2 := half_bit b k
  have hp := Nat.two_pow_pos k
  have h1 := Nat.div_add_mod a (2 ^ k)
  have h2 := Nat.div_add_mod b (2 ^ k)
  have h3 := Nat.mod_lt a hp
  have h4 := Nat.mod_lt b hp
  have c1 := bitN_cases a k
  have c2 := bitN_cases b k
  generalize bitN a k = x at *
  generalize bitN b k = y at *
  rw [h] at e1
  rcases c1 with rfl | rfl <;> rcases c2 with rfl | rfl
  · omega
  · have : b / 2 ^ k = a / 2 ^ k + 1 := by omega
    rw [this, Nat.mul_add] at h2
    simp
    omega
  · have : a / 2 ^ k = b / 2 ^ k + 1 := by omega
    rw [this, Nat.mul_add] at h1
    simp
    omega
  · omega
theorem less_next {a b k : Nat} (h : a / 2 ^ (k + 1) = b / 2 ^ (k + 1)) (he : bitN a k = bitN b k) : a / 2 ^ k = b / 2 ^ k := by
  have e1 := half_bit a k
  have e2 := half_bit b k
  omega

/-! One place higher. -/
theorem up_bits (x b n : Nat) (hb : b < 2) : (b : Int) :: bitsTo x n = bitsTo (2 * x + b) (n + 1) := by
  unfold bitsTo
  rw [List.range_succ_eq_map, List.map_cons, List.map_map]
  congr 1
  · unfold bitN; simp; omega
  · apply List.map_congr_left
    intro k _
    simp only [Function.comp]
    congr 1
    unfold bitN
    rw [show k.succ = k + 1 from rfl, Nat.pow_succ, Nat.mul_comm (2 ^ k), ← Nat.div_div_eq_div_mul]
    congr 2
    omega
theorem bits_big {x n : Nat} (h : x < 2 ^ n) {k : Nat} (hk : n ≤ k) : bitN x k = 0 := by
  unfold bitN
  rw [Nat.div_eq_of_lt (Nat.lt_of_lt_of_le h (Nat.pow_le_pow_right (by omega) hk))]
end Go.Proofs.Ytambpjbpdackfaa.A


set_option linter.unusedVariables false
set_option linter.unusedSimpArgs false
set_option maxRecDepth 100000
namespace Go.Proofs.Ytambpjbpdackfaa.A
open Go Go.RowKit Go.Shelf

/-! ### Words -/
abbrev uw (n : Nat) : PV := .s (.int .u64 (n : Int))
abbrev ut (n : Nat) : TV := .v (.s (.int .u64 (n : Int)))
theorem wrapU (x : Int) : IntKind.wrap .u64 x = x % 18446744073709551616 := by simp [IntKind.wrap, IntKind.bits, IntKind.signed]
theorem wrapN {n : Nat} (h : n < 18446744073709551616) : IntKind.wrap .u64 (n : Int) = (n : Int) := by rw [wrapU]; omega
theorem wrapM (n : Nat) : IntKind.wrap .u64 (n : Int) = ((n % 18446744073709551616 : Nat) : Int) := by rw [wrapU]; omega
theorem bitsU : IntKind.bits .u64 = 64 := rfl
theorem ofIntN (n : Nat) (w : Nat) : BitVec.ofInt w (n : Int) = BitVec.ofNat w n := BitVec.ofInt_natCast w n
theorem shrN (a : Nat) {k : Nat} (hk : k ≤ 64) : ((a : Int)).fdiv (2 ^ min k (IntKind.bits .u64)) = ((a / 2 ^ k : Nat) : Int) := by
  rw [bitsU, Nat.min_eq_left hk, Int.fdiv_eq_ediv_of_nonneg _ (Int.le_of_lt (Int.pow_pos (by omega)))]
  have : ((2 : Int) ^ k) = ((2 ^ k : Nat) : Int) := by simp
  rw [this, ← Int.natCast_ediv]
theorem shr32 (a : Nat) : ((a : Int)).fdiv (2 ^ min 32 (IntKind.bits .u64)) = ((a / 4294967296 : Nat) : Int) := shrN a (by omega)
theorem and32 {a : Nat} (ha : a < 18446744073709551616) : IntKind.wrap .u64 ((BitVec.ofInt (IntKind.bits .u64) (a : Int) &&& BitVec.ofInt (IntKind.bits .u64) 4294967295).toNat : Int) = ((a % 4294967296 : Nat) : Int) := by
  have e : (BitVec.ofInt 64 (a : Int) &&& BitVec.ofInt 64 4294967295).toNat = a % 4294967296 := by
    have : (4294967295 : Int) = ((4294967295 : Nat) : Int) := rfl
    rw [this, ofIntN, ofIntN, BitVec.toNat_and, BitVec.toNat_ofNat, BitVec.toNat_ofNat]
    have h1 : a % 2 ^ 64 = a := Nat.mod_eq_of_lt (by omega)
    have h2 : 4294967295 % 2 ^ 64 = 2 ^ 32 - 1 := by decide
    rw [h1, h2, Nat.and_two_pow_sub_one_eq_mod]
  rw [bitsU, e, wrapN (by omega)]
theorem mulN (a b : Nat) : (a : Int) * (b : Int) = ((a * b : Nat) : Int) := (Int.natCast_mul a b).symm
theorem addN (a b : Nat) : (a : Int) + (b : Int) = ((a + b : Nat) : Int) := (Int.natCast_add a b).symm

theorem ok65 (x y : Nat) (hx : x < 18446744073709551616) (hy : y < 18446744073709551616) : Ok Try.prog 65 [uw x, uw y] (.tup [uw (x * y / 18446744073709551616), uw (x * y % 18446744073709551616)]) := by
  obtain ⟨bd, bt, bw, hhi⟩ := Lib.mul64_hi x y hx hy
  have ba := Lib.half_mul_le (a := x / 4294967296) (b := y / 4294967296) (by omega) (by omega)
  have bb := Lib.half_mul_le (a := x / 4294967296) (b := y % 4294967296) (by omega) (by omega)
  have bc := Lib.half_mul_le (a := x % 4294967296) (b := y / 4294967296) (by omega) (by omega)
  have ba' : x / 4294967296 * (y / 4294967296) < 18446744073709551616 := by omega
  have bb' : x / 4294967296 * (y % 4294967296) < 18446744073709551616 := by omega
  have bc' : x % 4294967296 * (y / 4294967296) < 18446744073709551616 := by omega
  have bh1 : x / 4294967296 * (y / 4294967296) + (x / 4294967296 * (y % 4294967296) + x % 4294967296 * (y % 4294967296) / 4294967296) / 4294967296 < 18446744073709551616 := by omega
  have bh : x / 4294967296 * (y / 4294967296) + (x / 4294967296 * (y % 4294967296) + x % 4294967296 * (y % 4294967296) / 4294967296) / 4294967296 + ((x / 4294967296 * (y % 4294967296) + x % 4294967296 * (y % 4294967296) / 4294967296) % 4294967296 + x % 4294967296 * (y / 4294967296)) / 4294967296 < 18446744073709551616 := by
    rw [hhi]
    have : x * y / 18446744073709551616 ≤ x := Nat.div_le_of_le_mul (by rw [Nat.mul_comm]; exact Nat.mul_le_mul_right _ (by omega))
    omega
  refine ok_fn mixed Try.func65 (code := ?_) (h := h65) ?_ k65 ?_
  rotate_left
  · exact rfl
  unfold h65 initS
  simp -implicitDefEqProofs only [rkA, rkB, stepA, valA, simprocAttr, Try.ntmps65, Try.results65]
  simp only [and32 hx, and32 hy, shr32, mulN, addN, wrapN bd, wrapN bb', wrapN bt, and32 bt, wrapN bc', wrapN bw, wrapN ba', wrapN bh1, wrapN bh, wrapM (x * y)]
  rw [hhi]

theorem ok37 (n : Int) : Ok Try.prog 37 [num n] (tru (decide (-4611686018427387903 ≤ n ∧ n ≤ 4611686018427387903))) := by
  refine ok_fn mixed Try.func37 (code := ?_) (h := h37) ?_ k37 ?_
  rotate_left
  · exact rfl
  unfold h37 initS
  simp -implicitDefEqProofs only [rkA, rkB, stepA, valA, simprocAttr, Try.ntmps37, Try.results37]
  by_cases h1 : n ≥ -4611686018427387903
  · simp -implicitDefEqProofs only [h1, rkA, rkB, stepA, valA, simprocAttr]
  · simp -implicitDefEqProofs only [h1, rkA, rkB, stepA, valA, simprocAttr]
end Go.Proofs.Ytambpjbpdackfaa.A


/- math/bits.LeadingZeros64, off the library's shelf. -/
set_option linter.unusedVariables false
set_option maxRecDepth 100000
namespace Go.Proofs.Ytambpjbpdackfaa.A
open Go Go.RowKit Go.Shelf
def ren : Ren := { f := fun | 129 => 70 | 134 => 66 | x => x, t := fun | 3 => 3 | 4 => 4 | 5 => 5 | 9 => 9 | 46 => 100 | 53 => 74 | x => x, g := fun x => x }
theorem isAgg_no {P : Program} {t : TypeId} (h : tAgg P t = some false) (w : World) : (isAgg t).run P w = .ok false w := run_isAgg_of h w
theorem sizeOf_one {P : Program} {t : TypeId} {n : Nat} (h : tSize P t = some n) (w : World) : (Go.sizeOf t).run P w = .ok n w := run_sizeOf_of h w
theorem zero_is {P : Program} {t : TypeId} {v : Value} (h : tZero P t = some v) (w : World) : (zeroValue t).run P w = .ok v w := run_zero_of h w
theorem lays134 : Lays.n134 Try.prog ren where
  mixed := by kernel_rfl
  f129 := Try.func70
  f134 := Try.func66
  t3 := by kernel_rfl
  a3 := isAgg_no (by kernel_rfl)
  z3 := sizeOf_one (by kernel_rfl)
  v3 := zero_is (by kernel_rfl)
  t4 := by kernel_rfl
  a4 := isAgg_no (by kernel_rfl)
  z4 := sizeOf_one (by kernel_rfl)
  v4 := zero_is (by kernel_rfl)
  t5 := by kernel_rfl
  a5 := isAgg_no (by kernel_rfl)
  z5 := sizeOf_one (by kernel_rfl)
  v5 := zero_is (by kernel_rfl)
  t9 := by kernel_rfl
  a9 := isAgg_no (by kernel_rfl)
  z9 := sizeOf_one (by kernel_rfl)
  v9 := zero_is (by kernel_rfl)
  t46 := by kernel_rfl
  a46 := isAgg_no (by kernel_rfl)
  z46 := sizeOf_one (by kernel_rfl)
  v46 := zero_is (by kernel_rfl)
  t53 := by kernel_rfl
  a53 := isAgg_no (by kernel_rfl)
  z53 := sizeOf_one (by kernel_rfl)
  v53 := zero_is (by kernel_rfl)
theorem ok66 {x : Nat} (h1 : x ≤ 18446744073709551615) : Ok Try.prog 66 [.s (.int .u64 (x : Int))] (.s (.int .i64 (64 - (Lib.bitLen x : Int)))) := by
  refine ⟨enters_of Try.func66 (by kernel_rfl) rfl, fun I w vs hg hc => ?_⟩
  cases hc with
  | cons h1' h2 =>
    cases h2
    cases h1'
    refine (Any.bits_LeadingZeros64 lays134 (x : Int) w (by omega) (by omega)).mono ?_
    rintro e w' ⟨rfl, rfl⟩
    exact ⟨_, I, rfl, Below.refl _ _, Imm.le_refl _, hg, fun _ _ => rfl, .s _⟩
end Go.Proofs.Ytambpjbpdackfaa.A


set_option linter.unusedVariables false
set_option linter.unusedSimpArgs false
set_option maxRecDepth 100000
namespace Go.Proofs.Ytambpjbpdackfaa.A
open Go Go.RowKit Go.Shelf

theorem bitLenAux_spec : ∀ (f x : Nat), x < 2 ^ f → 0 < x → 1 ≤ Lib.bitLenAux f x ∧ Lib.bitLenAux f x ≤ f ∧ 2 ^ (Lib.bitLenAux f x - 1) ≤ x ∧ x < 2 ^ Lib.bitLenAux f x
  | 0, x, h, h0 => by simp at h; omega
  | f + 1, x, h, h0 => by
    unfold Lib.bitLenAux
    rw [if_neg (by omega)]
    by_cases h1 : x / 2 = 0
    · have : Lib.bitLenAux f (x / 2) = 0 := by rw [h1]; cases f <;> simp [Lib.bitLenAux]
      rw [this]
      simp
      omega
    · obtain ⟨k1, k2, k3, k4⟩ := bitLenAux_spec f (x / 2) (by rw [Nat.pow_succ] at h; omega) (by omega)
      generalize Lib.bitLenAux f (x / 2) = n at *
      refine ⟨by omega, by omega, ?_, ?_⟩
      · have e : 1 + n - 1 = (n - 1) + 1 := by omega
        rw [e, Nat.pow_succ]
        omega
      · rw [Nat.add_comm, Nat.pow_succ]
        omega
/-- How far a word is shifted till its highest bit is the highest one. -/
theorem norm_spec {y : Nat} (h0 : 0 < y) (h1 : y < 18446744073709551616) : ∃ s : Nat, s ≤ 63 ∧ (64 - (Lib.bitLen y : Int)) = (s : Int) ∧ 9223372036854775808 ≤ y * 2 ^ s ∧ y * 2 ^ s < 18446744073709551616 := by
  obtain ⟨k1, k2, k3, k4⟩ := bitLenAux_spec 64 y (by simpa using h1) h0
  have e : Lib.bitLen y = Lib.bitLenAux 64 y := rfl
  rw [e]
  generalize Lib.bitLenAux 64 y = n at *
  refine ⟨64 - n, by omega, by omega, ?_, ?_⟩
  · have h2 : 2 ^ (n - 1) * 2 ^ (64 - n) ≤ y * 2 ^ (64 - n) := Nat.mul_le_mul_right _ k3
    rw [← Nat.pow_add, show n - 1 + (64 - n) = 63 by omega] at h2
    simpa using h2
  · have h2 : y * 2 ^ (64 - n) < 2 ^ n * 2 ^ (64 - n) := Nat.mul_lt_mul_of_pos_right k4 (Nat.two_pow_pos _)
    rw [← Nat.pow_add, show n + (64 - n) = 64 by omega] at h2
    simpa using h2
theorem shlN (a : Nat) {k : Nat} (hk : k ≤ 64) : IntKind.wrap .u64 ((a : Int) * 2 ^ min k (IntKind.bits .u64)) = ((a * 2 ^ k % 18446744073709551616 : Nat) : Int) := by
  rw [bitsU, Nat.min_eq_left hk]
  have : ((2 : Int) ^ k) = ((2 ^ k : Nat) : Int) := by simp
  rw [this, mulN, wrapM]
theorem orN {a b k : Nat} (hb : b < 2 ^ k) (h : a * 2 ^ k + b < 18446744073709551616) : IntKind.wrap .u64 ((BitVec.ofInt (IntKind.bits .u64) ((a * 2 ^ k : Nat) : Int) ||| BitVec.ofInt (IntKind.bits .u64) (b : Int)).toNat : Int) = ((a * 2 ^ k + b : Nat) : Int) := by
  have e : (BitVec.ofInt 64 ((a * 2 ^ k : Nat) : Int) ||| BitVec.ofInt 64 (b : Int)).toNat = a * 2 ^ k + b := by
    rw [ofIntN, ofIntN, BitVec.toNat_or, BitVec.toNat_ofNat, BitVec.toNat_ofNat, Nat.mod_eq_of_lt (by omega), Nat.mod_eq_of_lt (by omega), Nat.mul_comm, Nat.two_pow_add_eq_or_of_lt hb]
  rw [bitsU, e, wrapN (by omega)]
theorem subN {a b : Nat} (h : b ≤ a) : (a : Int) - (b : Int) = ((a - b : Nat) : Int) := by omega
theorem tdivN (a b : Nat) : ((a : Int)).tdiv (b : Int) = ((a / b : Nat) : Int) := by rw [Int.tdiv_eq_ediv_of_nonneg (by omega), ← Int.natCast_ediv]
theorem tmodN (a b : Nat) : ((a : Int)).tmod (b : Int) = ((a % b : Nat) : Int) := by rw [Int.tmod_eq_emod_of_nonneg (by omega), ← Int.natCast_emod]
set_option maxHeartbeats 4000000 in
/-- Div64: quotient, and rest, of two words by one. -/
theorem ok41 (hi lo y : Nat) (hh : hi < y) (hy : y < 18446744073709551616) (hl : lo < 18446744073709551616) :
    Ok Try.prog 41 [uw hi, uw lo, uw y] (.tup [uw ((hi * 18446744073709551616 + lo) / y), uw ((hi * 18446744073709551616 + lo) % y)]) := by
  obtain ⟨s, hs, es, v1, v2⟩ := norm_spec (y := y) (by omega) hy
  have h132 := ok66 (x := y) (by omega)
  rw [es] at h132
  refine ok_fn mixed Try.func41 (code := ?_) (h := h41) ?_ k41 ?_
  rotate_left
  · exact rfl
  unfold h41 initS
  simp -implicitDefEqProofs only [rkA, rkB, stepA, valA, simprocAttr, Try.ntmps41, Try.results41]
  have c1 : ((y : Int) == 0) = false := by simp; omega
  have c2 : ¬ ((y : Int) ≤ (hi : Int)) := by omega
  simp -implicitDefEqProofs only [c1, c2, rkA, rkB, stepA, valA, simprocAttr]
  by_cases h0 : hi = 0
  · subst h0
    have c3 : ((y : Int) ≠ 0) := by omega
    have w1 := Nat.div_le_self lo y
    simp -implicitDefEqProofs only [Int.natCast_zero, c3, beq_self_eq_true, tdivN, tmodN, wrapN (show lo / y < 18446744073709551616 by omega), Nat.zero_mul, Nat.zero_add, rkA, rkB, stepA, valA, simprocAttr]
  · have c3 : ((hi : Int) == 0) = false := by simp; omega
    simp -implicitDefEqProofs only [c3, rkA, rkB, stepA, valA, simprocAttr]
    refine call_fn rfl rfl rfl (h132) ?_
    have s0 : (0 : Int) ≤ (s : Int) := by omega
    have e64 : IntKind.wrap .u64 (64 - (s : Int)) = ((64 - s : Nat) : Int) := by rw [wrapU]; omega
    have e640 : (0 : Int) ≤ ((64 - s : Nat) : Int) := by omega
    simp -implicitDefEqProofs only [wrapN (show s < 18446744073709551616 by omega), s0, e64, e640, Int.toNat_natCast, shlN _ (show s ≤ 64 by omega), shrN _ (show 64 - s ≤ 64 by omega), shr32, rkA, rkB, stepA, valA, simprocAttr]
    have hpow : 2 ^ s * 2 ^ (64 - s) = 18446744073709551616 := by rw [← Nat.pow_add, show s + (64 - s) = 64 by omega]
    have hp := Nat.two_pow_pos s
    have hb : lo / 2 ^ (64 - s) < 2 ^ s := by
      refine Nat.div_lt_of_lt_mul ?_
      rw [Nat.mul_comm, hpow]
      exact hl
    have hhs : (hi + 1) * 2 ^ s ≤ y * 2 ^ s := Nat.mul_le_mul_right _ hh
    rw [Nat.add_mul, Nat.one_mul] at hhs
    have hu : hi * 2 ^ s + lo / 2 ^ (64 - s) < y * 2 ^ s := by omega
    have m1 : y * 2 ^ s % 18446744073709551616 = y * 2 ^ s := Nat.mod_eq_of_lt v2
    have m2 : hi * 2 ^ s % 18446744073709551616 = hi * 2 ^ s := Nat.mod_eq_of_lt (by omega)
    have hlo : lo * 2 ^ s = lo / 2 ^ (64 - s) * 18446744073709551616 + lo * 2 ^ s % 18446744073709551616 := by
      have e1 : lo * 2 ^ s / 18446744073709551616 = lo / 2 ^ (64 - s) := by
        rw [← hpow, Nat.mul_comm (2 ^ s) (2 ^ (64 - s)), Nat.mul_div_mul_right _ _ hp]
      have := Nat.div_add_mod (lo * 2 ^ s) 18446744073709551616
      rw [e1] at this
      omega
    have a3 : lo * 2 ^ s % 18446744073709551616 < 18446744073709551616 := Nat.mod_lt _ (by omega)
    have fin := shifted (N := hi * 18446744073709551616 + lo) (y := y) (s := s) (by omega)
    have eN : (hi * 18446744073709551616 + lo) * 2 ^ s = (hi * 2 ^ s + lo / 2 ^ (64 - s)) * 18446744073709551616 + lo * 2 ^ s % 18446744073709551616 := by
      rw [Nat.add_mul, Nat.add_mul, hlo, Nat.mul_right_comm]
      omega
    rw [eN] at fin
    simp only [m1, m2, orN hb (show hi * 2 ^ s + lo / 2 ^ (64 - s) < 18446744073709551616 by omega), and32 v2, and32 a3]
    generalize hi * 2 ^ s + lo / 2 ^ (64 - s) = u at *
    generalize lo * 2 ^ s % 18446744073709551616 = z at *
    generalize y * 2 ^ s = v at *
    have ez := Nat.div_add_mod z 4294967296
    have evv := Nat.div_add_mod v 4294967296
    have z0 : z % 4294967296 < 4294967296 := Nat.mod_lt _ (by omega)
    have w0 : v % 4294967296 < 4294967296 := Nat.mod_lt _ (by omega)
    have z1 : z / 4294967296 < 4294967296 := by omega
    have w1 : 2147483648 ≤ v / 4294967296 ∧ v / 4294967296 < 4294967296 := by omega
    generalize z / 4294967296 = x1 at *
    generalize z % 4294967296 = x0 at *
    generalize v / 4294967296 = d1 at *
    generalize v % 4294967296 = d0 at *
    have d1n : ¬ ((d1 : Int) = 0) := by omega
    have hdv : v = d1 * 4294967296 + d0 := by omega
    have q1 := Nat.div_le_self u d1
    have q2 := Nat.div_add_mod u d1
    have q3 := Nat.mod_lt u (show 0 < d1 by omega)
    have q4 : u / d1 * d1 ≤ u := Nat.div_mul_le_self u d1
    have q5 : u - u / d1 * d1 = u % d1 := by rw [Nat.mul_comm]; omega
    simp -implicitDefEqProofs only [d1n, tdivN, mulN, wrapN (show u / d1 < 18446744073709551616 by omega), wrapN (show u / d1 * d1 < 18446744073709551616 by omega), subN q4, q5, wrapN (show u % d1 < 18446744073709551616 by omega), rkA, rkB, stepA, valA, simprocAttr]
    have d0v : 0 < v := by omega
    obtain ⟨W, hW⟩ : ∃ W, W = u * 4294967296 + x1 := ⟨_, rfl⟩
    have f1 : W / v < 4294967296 := by rw [hW]; exact dig_small hu z1
    have f2 : W / v ≤ u / d1 := by rw [hW, hdv]; exact dig_ge (by omega) z1
    have f3 : u / d1 ≤ 4294967297 := dig_first w1.1 w0 (by omega)
    have f4 : ∀ q r : Nat, q * d1 + r = u → (q * d0 > 4294967296 * r + x1 ↔ q * v > W) := fun q r h => by rw [hW, hdv]; exact dig_gt h
    have f5 : ∀ q r : Nat, q * d1 + r = u → 4294967296 ≤ r → q ≤ W / v := fun q r h hr => dig_le d0v (by rw [hW, hdv]; exact dig_big h (by omega) w0 hr)
    have f6 := two_digits (W := W) (v := v) (b := x0) (K := 4294967296) d0v
    have f7 : W * 4294967296 + x0 = u * 18446744073709551616 + z := by omega
    rw [f7, fin.1] at f6
    have f8 := Nat.mod_lt W d0v
    have f9 := Nat.div_add_mod W v
    have f10 : ∀ q, W / v < q ↔ q * v > W := fun q => by rw [Nat.div_lt_iff_lt_mul d0v]
    obtain ⟨Q, hQd⟩ : ∃ Q, Q = W / v := ⟨_, rfl⟩
    obtain ⟨R, hRd⟩ : ∃ R, R = W % v := ⟨_, rfl⟩
    rw [← hQd] at f1 f2 f6 f9
    simp only [← hQd] at f5 f10
    rw [← hRd] at f6 f8 f9
    obtain ⟨W2, hW2⟩ : ∃ W2, W2 = R * 4294967296 + x0 := ⟨_, rfl⟩
    have g1 : W2 / v < 4294967296 := by rw [hW2]; exact dig_small f8 z0
    have g2 : W2 / v ≤ R / d1 := by rw [hW2, hdv]; exact dig_ge (by omega) z0
    have g3 : R / d1 ≤ 4294967297 := dig_first w1.1 w0 (by omega)
    have g4 : ∀ q r : Nat, q * d1 + r = R → (q * d0 > 4294967296 * r + x0 ↔ q * v > W2) := fun q r h => by rw [hW2, hdv]; exact dig_gt h
    have g5 : ∀ q r : Nat, q * d1 + r = R → 4294967296 ≤ r → q ≤ W2 / v := fun q r h hr => dig_le d0v (by rw [hW2, hdv]; exact dig_big h (by omega) w0 hr)
    have g8 := Nat.mod_lt W2 d0v
    have g9 := Nat.div_add_mod W2 v
    have g10 : ∀ q, W2 / v < q ↔ q * v > W2 := fun q => by rw [Nat.div_lt_iff_lt_mul d0v]
    rw [← hW2] at f6
    obtain ⟨Q2, hQd2⟩ : ∃ Q2, Q2 = W2 / v := ⟨_, rfl⟩
    obtain ⟨R2, hRd2⟩ : ∃ R2, R2 = W2 % v := ⟨_, rfl⟩
    rw [← hQd2] at g1 g2 f6 g9
    simp only [← hQd2] at g5 g10
    rw [← hRd2] at g8 g9 f6
    have hmul : ∀ q : Nat, q ≤ 4294967297 → q * d0 < 18446744073709551616 := fun q h => by
      have : q * d0 ≤ 4294967297 * 4294967295 := Nat.mul_le_mul h (by omega)
      omega
    have hrest : IntKind.wrap .u64 (IntKind.wrap .u64 (IntKind.wrap .u64 ((u : Int) * 4294967296) + (x1 : Int)) - IntKind.wrap .u64 ((Q : Int) * (v : Int))) = (R : Int) := by
      rw [Nat.mul_comm] at f9
      rw [mulN]
      generalize Q * v = B at *
      simp only [wrapU]
      omega
    have hrest2 : IntKind.wrap .u64 (IntKind.wrap .u64 (IntKind.wrap .u64 ((R : Int) * 4294967296) + (x0 : Int)) - IntKind.wrap .u64 ((Q2 : Int) * (v : Int))) = (R2 : Int) := by
      rw [Nat.mul_comm] at g9
      rw [mulN]
      generalize Q2 * v = B at *
      simp only [wrapU]
      omega
    have hdn : ∀ q m : Nat, q < m → m * d1 = (m - 1) * d1 + d1 := fun q m h => by
      obtain ⟨k, rfl⟩ : ∃ k, m = k + 1 := ⟨m - 1, by omega⟩
      rw [Nat.add_mul, Nat.one_mul]; rfl
    refine wp_loop (fun m s' => ∃ q r : Nat, m = q ∧ q * d1 + r = u ∧ Q ≤ q ∧ q ≤ 4294967297 ∧ r < 4294967296 ∧ s' = ⟨[jk, jk, ut v, jk, jk, jk, jk, jk, ut s, ut d1, ut d0, ut u, jk, ut x1, ut x0, ut q, ut r, jk, jk, jk, jk, jk, jk, jk, jk, jk, jk, jk, jk, jk, jk, jk, jk, jk, jk, jk, jk, jk, jk, jk, jk, jk, jk, jk, jk, jk, jk, jk, jk, jk, jk, jk, jk, jk, jk, jk, jk, jk, jk, jk, jk, jk, jk, jk, jk, jk, jk, jk, jk, jk, jk, jk, jk, jk, jk, jk, jk, jk, jk, jk, jk, jk, jk, jk, jk, jk, jk, jk, jk, jk, jk, jk, jk, jk, jk, jk, jk, jk, jk, jk, jk, jk, jk, jk, jk, jk, jk, jk, jk, jk, jk, jk, jk, jk, jk, jk, jk, jk, jk, jk, jk, jk, jk, jk, jk, jk, jk, jk, jk, jk, jk, jk, jk, jk, jk], [], [], [], [], 0, nomem⟩) (u / d1) ?_ ?_
    · simp -implicitDefEqProofs only [rkA, rkB, stepA, valA, simprocAttr]
      exact ⟨u / d1, u % d1, rfl, by rw [Nat.mul_comm]; exact q2, f2, f3, by omega, rfl⟩
    rintro m s' ⟨q, r, rfl, k1, k2, k3, k4, rfl⟩
    have b1 := hmul m k3
    have e4 : IntKind.wrap .u64 (IntKind.wrap .u64 (4294967296 * (r : Int)) + (x1 : Int)) = ((4294967296 * r + x1 : Nat) : Int) := by rw [wrapU, wrapU]; omega
    have e5 : IntKind.wrap .u64 ((r : Int) + (d1 : Int)) = ((r + d1 : Nat) : Int) := by rw [wrapU]; omega
    simp -implicitDefEqProofs only [rkA, rkB, stepA, valA, simprocAttr]
    refine gB_dec ?_ ?_ <;> intro hc <;> simp -implicitDefEqProofs only [hc, rkA, rkB, stepA, valA, simprocAttr]
    · have hlt : Q < m := by omega
      have hm := hdn Q m hlt
      have e6 : IntKind.wrap .u64 ((m : Int) - 1) = ((m - 1 : Nat) : Int) := by rw [wrapU]; omega
      simp -implicitDefEqProofs only [e6, e5, rkA, rkB, stepA, valA, simprocAttr]
      refine gB_dec ?_ ?_ <;> intro hc2 <;> simp -implicitDefEqProofs only [hc2, rkA, rkB, stepA, valA, simprocAttr]
      · have hq : m - 1 = Q := by have := f5 (m - 1) (r + d1) (by omega) (by omega); omega
        rw [hq]
        simp -implicitDefEqProofs only [hrest, rkA, rkB, stepA, valA, simprocAttr]
        have p1 := Nat.div_le_self R d1
        have p2 := Nat.div_add_mod R d1
        have p3 := Nat.mod_lt R (show 0 < d1 by omega)
        have p4 : R / d1 * d1 ≤ R := Nat.div_mul_le_self R d1
        have p5 : R - R / d1 * d1 = R % d1 := by rw [Nat.mul_comm]; omega
        simp -implicitDefEqProofs only [d1n, tdivN, mulN, wrapN (show R / d1 < 18446744073709551616 by omega), wrapN (show R / d1 * d1 < 18446744073709551616 by omega), subN p4, p5, wrapN (show R % d1 < 18446744073709551616 by omega), rkA, rkB, stepA, valA, simprocAttr]
        refine wp_loop (fun m s' => ∃ q r : Nat, m = q ∧ q * d1 + r = R ∧ Q2 ≤ q ∧ q ≤ 4294967297 ∧ r < 4294967296 ∧ s' = ⟨[jk, jk, ut v, jk, jk, jk, jk, jk, ut s, ut d1, ut d0, jk, jk, jk, ut x0, ut Q, ut r, ut R, ut q, jk, jk, jk, jk, jk, jk, jk, jk, jk, jk, jk, jk, jk, jk, jk, jk, jk, jk, jk, jk, jk, jk, jk, jk, jk, jk, jk, jk, jk, jk, jk, jk, jk, jk, jk, jk, jk, jk, jk, jk, jk, jk, jk, jk, jk, jk, jk, jk, jk, jk, jk, jk, jk, jk, jk, jk, jk, jk, jk, jk, jk, jk, jk, jk, jk, jk, jk, jk, jk, jk, jk, jk, jk, jk, jk, jk, jk, jk, jk, jk, jk, jk, jk, jk, jk, jk, jk, jk, jk, jk, jk, jk, jk, jk, jk, jk, jk, jk, jk, jk, jk, jk, jk, jk, jk, jk, jk, jk, jk, jk, jk, jk, jk, jk, jk, jk], [], [], [], [], 0, nomem⟩) (R / d1) ?_ ?_
        · simp -implicitDefEqProofs only [rkA, rkB, stepA, valA, simprocAttr]
          exact ⟨R / d1, R % d1, rfl, by rw [Nat.mul_comm]; exact p2, g2, g3, by omega, rfl⟩
        rintro m' s' ⟨q, r', rfl, l1, l2, l3, l4, rfl⟩
        have b1' := hmul m' l3
        have e4' : IntKind.wrap .u64 (IntKind.wrap .u64 (4294967296 * (r' : Int)) + (x0 : Int)) = ((4294967296 * r' + x0 : Nat) : Int) := by rw [wrapU, wrapU]; omega
        have e5' : IntKind.wrap .u64 ((r' : Int) + (d1 : Int)) = ((r' + d1 : Nat) : Int) := by rw [wrapU]; omega
        have efin : IntKind.wrap .u64 (IntKind.wrap .u64 ((Q : Int) * 4294967296) + (Q2 : Int)) = (((hi * 18446744073709551616 + lo) / y : Nat) : Int) := by rw [← f6.1, wrapU, wrapU]; omega
        have efin2 : ((R2 : Int)).fdiv (2 ^ min s (IntKind.bits .u64)) = (((hi * 18446744073709551616 + lo) % y : Nat) : Int) := by rw [shrN _ (show s ≤ 64 by omega), f6.2, fin.2]
        simp -implicitDefEqProofs only [rkA, rkB, stepA, valA, simprocAttr]
        refine gB_dec ?_ ?_ <;> intro hc5 <;> simp -implicitDefEqProofs only [hc5, rkA, rkB, stepA, valA, simprocAttr]
        · have hlt : Q2 < m' := by omega
          have hm := hdn Q2 m' hlt
          have e6 : IntKind.wrap .u64 ((m' : Int) - 1) = ((m' - 1 : Nat) : Int) := by rw [wrapU]; omega
          simp -implicitDefEqProofs only [e6, e5', rkA, rkB, stepA, valA, simprocAttr]
          refine gB_dec ?_ ?_ <;> intro hc6 <;> simp -implicitDefEqProofs only [hc6, rkA, rkB, stepA, valA, simprocAttr]
          · have hq : m' - 1 = Q2 := by have := g5 (m' - 1) (r' + d1) (by omega) (by omega); omega
            rw [hq]
            simp -implicitDefEqProofs only [hrest2, s0, Int.toNat_natCast, efin, efin2, rkA, rkB, stepA, valA, simprocAttr]
          · refine loopK_of (m' := m' - 1) (by omega) ?_
            simp -implicitDefEqProofs only [rkA, rkB, stepA, valA, simprocAttr]
            exact ⟨m' - 1, r' + d1, rfl, by omega, by omega, by omega, by omega, rfl⟩
        · simp -implicitDefEqProofs only [mulN, wrapN b1', e4', rkA, rkB, stepA, valA, simprocAttr]
          refine gB_dec ?_ ?_ <;> intro hc6 <;> simp -implicitDefEqProofs only [hc6, rkA, rkB, stepA, valA, simprocAttr]
          · have hlt : Q2 < m' := (g10 m').2 ((g4 _ _ l1).1 (by omega))
            have hm := hdn Q2 m' hlt
            have e6 : IntKind.wrap .u64 ((m' : Int) - 1) = ((m' - 1 : Nat) : Int) := by rw [wrapU]; omega
            simp -implicitDefEqProofs only [e6, e5', rkA, rkB, stepA, valA, simprocAttr]
            refine gB_dec ?_ ?_ <;> intro hc7 <;> simp -implicitDefEqProofs only [hc7, rkA, rkB, stepA, valA, simprocAttr]
            · have hq : m' - 1 = Q2 := by have := g5 (m' - 1) (r' + d1) (by omega) (by omega); omega
              rw [hq]
              simp -implicitDefEqProofs only [hrest2, s0, Int.toNat_natCast, efin, efin2, rkA, rkB, stepA, valA, simprocAttr]
            · refine loopK_of (m' := m' - 1) (by omega) ?_
              simp -implicitDefEqProofs only [rkA, rkB, stepA, valA, simprocAttr]
              exact ⟨m' - 1, r' + d1, rfl, by omega, by omega, by omega, by omega, rfl⟩
          · have hq : m' = Q2 := by
              have h1 : ¬ Q2 < m' := fun h => by have := (g4 _ _ l1).2 ((g10 m').1 h); omega
              omega
            rw [hq]
            simp -implicitDefEqProofs only [hrest2, s0, Int.toNat_natCast, efin, efin2, rkA, rkB, stepA, valA, simprocAttr]
      · refine loopK_of (m' := m - 1) (by omega) ?_
        simp -implicitDefEqProofs only [rkA, rkB, stepA, valA, simprocAttr]
        exact ⟨m - 1, r + d1, rfl, by omega, by omega, by omega, by omega, rfl⟩
    · simp -implicitDefEqProofs only [mulN, wrapN b1, e4, rkA, rkB, stepA, valA, simprocAttr]
      refine gB_dec ?_ ?_ <;> intro hc2 <;> simp -implicitDefEqProofs only [hc2, rkA, rkB, stepA, valA, simprocAttr]
      · have hlt : Q < m := (f10 m).2 ((f4 _ _ k1).1 (by omega))
        have hm := hdn Q m hlt
        have e6 : IntKind.wrap .u64 ((m : Int) - 1) = ((m - 1 : Nat) : Int) := by rw [wrapU]; omega
        simp -implicitDefEqProofs only [e6, e5, rkA, rkB, stepA, valA, simprocAttr]
        refine gB_dec ?_ ?_ <;> intro hc3 <;> simp -implicitDefEqProofs only [hc3, rkA, rkB, stepA, valA, simprocAttr]
        · have hq : m - 1 = Q := by have := f5 (m - 1) (r + d1) (by omega) (by omega); omega
          rw [hq]
          simp -implicitDefEqProofs only [hrest, rkA, rkB, stepA, valA, simprocAttr]
          have p1 := Nat.div_le_self R d1
          have p2 := Nat.div_add_mod R d1
          have p3 := Nat.mod_lt R (show 0 < d1 by omega)
          have p4 : R / d1 * d1 ≤ R := Nat.div_mul_le_self R d1
          have p5 : R - R / d1 * d1 = R % d1 := by rw [Nat.mul_comm]; omega
          simp -implicitDefEqProofs only [d1n, tdivN, mulN, wrapN (show R / d1 < 18446744073709551616 by omega), wrapN (show R / d1 * d1 < 18446744073709551616 by omega), subN p4, p5, wrapN (show R % d1 < 18446744073709551616 by omega), rkA, rkB, stepA, valA, simprocAttr]
          refine wp_loop (fun m s' => ∃ q r : Nat, m = q ∧ q * d1 + r = R ∧ Q2 ≤ q ∧ q ≤ 4294967297 ∧ r < 4294967296 ∧ s' = ⟨[jk, jk, ut v, jk, jk, jk, jk, jk, ut s, ut d1, ut d0, jk, jk, jk, ut x0, ut Q, ut r, ut R, ut q, jk, jk, jk, jk, jk, jk, jk, jk, jk, jk, jk, jk, jk, jk, jk, jk, jk, jk, jk, jk, jk, jk, jk, jk, jk, jk, jk, jk, jk, jk, jk, jk, jk, jk, jk, jk, jk, jk, jk, jk, jk, jk, jk, jk, jk, jk, jk, jk, jk, jk, jk, jk, jk, jk, jk, jk, jk, jk, jk, jk, jk, jk, jk, jk, jk, jk, jk, jk, jk, jk, jk, jk, jk, jk, jk, jk, jk, jk, jk, jk, jk, jk, jk, jk, jk, jk, jk, jk, jk, jk, jk, jk, jk, jk, jk, jk, jk, jk, jk, jk, jk, jk, jk, jk, jk, jk, jk, jk, jk, jk, jk, jk, jk, jk, jk, jk], [], [], [], [], 0, nomem⟩) (R / d1) ?_ ?_
          · simp -implicitDefEqProofs only [rkA, rkB, stepA, valA, simprocAttr]
            exact ⟨R / d1, R % d1, rfl, by rw [Nat.mul_comm]; exact p2, g2, g3, by omega, rfl⟩
          rintro m' s' ⟨q, r', rfl, l1, l2, l3, l4, rfl⟩
          have b1' := hmul m' l3
          have e4' : IntKind.wrap .u64 (IntKind.wrap .u64 (4294967296 * (r' : Int)) + (x0 : Int)) = ((4294967296 * r' + x0 : Nat) : Int) := by rw [wrapU, wrapU]; omega
          have e5' : IntKind.wrap .u64 ((r' : Int) + (d1 : Int)) = ((r' + d1 : Nat) : Int) := by rw [wrapU]; omega
          have efin : IntKind.wrap .u64 (IntKind.wrap .u64 ((Q : Int) * 4294967296) + (Q2 : Int)) = (((hi * 18446744073709551616 + lo) / y : Nat) : Int) := by rw [← f6.1, wrapU, wrapU]; omega
          have efin2 : ((R2 : Int)).fdiv (2 ^ min s (IntKind.bits .u64)) = (((hi * 18446744073709551616 + lo) % y : Nat) : Int) := by rw [shrN _ (show s ≤ 64 by omega), f6.2, fin.2]
          simp -implicitDefEqProofs only [rkA, rkB, stepA, valA, simprocAttr]
          refine gB_dec ?_ ?_ <;> intro hc5 <;> simp -implicitDefEqProofs only [hc5, rkA, rkB, stepA, valA, simprocAttr]
          · have hlt : Q2 < m' := by omega
            have hm := hdn Q2 m' hlt
            have e6 : IntKind.wrap .u64 ((m' : Int) - 1) = ((m' - 1 : Nat) : Int) := by rw [wrapU]; omega
            simp -implicitDefEqProofs only [e6, e5', rkA, rkB, stepA, valA, simprocAttr]
            refine gB_dec ?_ ?_ <;> intro hc6 <;> simp -implicitDefEqProofs only [hc6, rkA, rkB, stepA, valA, simprocAttr]
            · have hq : m' - 1 = Q2 := by have := g5 (m' - 1) (r' + d1) (by omega) (by omega); omega
              rw [hq]
              simp -implicitDefEqProofs only [hrest2, s0, Int.toNat_natCast, efin, efin2, rkA, rkB, stepA, valA, simprocAttr]
            · refine loopK_of (m' := m' - 1) (by omega) ?_
              simp -implicitDefEqProofs only [rkA, rkB, stepA, valA, simprocAttr]
              exact ⟨m' - 1, r' + d1, rfl, by omega, by omega, by omega, by omega, rfl⟩
          · simp -implicitDefEqProofs only [mulN, wrapN b1', e4', rkA, rkB, stepA, valA, simprocAttr]
            refine gB_dec ?_ ?_ <;> intro hc6 <;> simp -implicitDefEqProofs only [hc6, rkA, rkB, stepA, valA, simprocAttr]
            · have hlt : Q2 < m' := (g10 m').2 ((g4 _ _ l1).1 (by omega))
              have hm := hdn Q2 m' hlt
              have e6 : IntKind.wrap .u64 ((m' : Int) - 1) = ((m' - 1 : Nat) : Int) := by rw [wrapU]; omega
              simp -implicitDefEqProofs only [e6, e5', rkA, rkB, stepA, valA, simprocAttr]
              refine gB_dec ?_ ?_ <;> intro hc7 <;> simp -implicitDefEqProofs only [hc7, rkA, rkB, stepA, valA, simprocAttr]
              · have hq : m' - 1 = Q2 := by have := g5 (m' - 1) (r' + d1) (by omega) (by omega); omega
                rw [hq]
                simp -implicitDefEqProofs only [hrest2, s0, Int.toNat_natCast, efin, efin2, rkA, rkB, stepA, valA, simprocAttr]
              · refine loopK_of (m' := m' - 1) (by omega) ?_
                simp -implicitDefEqProofs only [rkA, rkB, stepA, valA, simprocAttr]
                exact ⟨m' - 1, r' + d1, rfl, by omega, by omega, by omega, by omega, rfl⟩
            · have hq : m' = Q2 := by
                have h1 : ¬ Q2 < m' := fun h => by have := (g4 _ _ l1).2 ((g10 m').1 h); omega
                omega
              rw [hq]
              simp -implicitDefEqProofs only [hrest2, s0, Int.toNat_natCast, efin, efin2, rkA, rkB, stepA, valA, simprocAttr]
        · refine loopK_of (m' := m - 1) (by omega) ?_
          simp -implicitDefEqProofs only [rkA, rkB, stepA, valA, simprocAttr]
          exact ⟨m - 1, r + d1, rfl, by omega, by omega, by omega, by omega, rfl⟩
      · have hq : m = Q := by
          have h1 : ¬ Q < m := fun h => by have := (f4 _ _ k1).2 ((f10 m).1 h); omega
          omega
        rw [hq]
        simp -implicitDefEqProofs only [hrest, rkA, rkB, stepA, valA, simprocAttr]
        have p1 := Nat.div_le_self R d1
        have p2 := Nat.div_add_mod R d1
        have p3 := Nat.mod_lt R (show 0 < d1 by omega)
        have p4 : R / d1 * d1 ≤ R := Nat.div_mul_le_self R d1
        have p5 : R - R / d1 * d1 = R % d1 := by rw [Nat.mul_comm]; omega
        simp -implicitDefEqProofs only [d1n, tdivN, mulN, wrapN (show R / d1 < 18446744073709551616 by omega), wrapN (show R / d1 * d1 < 18446744073709551616 by omega), subN p4, p5, wrapN (show R % d1 < 18446744073709551616 by omega), rkA, rkB, stepA, valA, simprocAttr]
        refine wp_loop (fun m s' => ∃ q r : Nat, m = q ∧ q * d1 + r = R ∧ Q2 ≤ q ∧ q ≤ 4294967297 ∧ r < 4294967296 ∧ s' = ⟨[jk, jk, ut v, jk, jk, jk, jk, jk, ut s, ut d1, ut d0, jk, jk, jk, ut x0, ut Q, ut r, ut R, ut q, jk, jk, jk, jk, jk, jk, jk, jk, jk, jk, jk, jk, jk, jk, jk, jk, jk, jk, jk, jk, jk, jk, jk, jk, jk, jk, jk, jk, jk, jk, jk, jk, jk, jk, jk, jk, jk, jk, jk, jk, jk, jk, jk, jk, jk, jk, jk, jk, jk, jk, jk, jk, jk, jk, jk, jk, jk, jk, jk, jk, jk, jk, jk, jk, jk, jk, jk, jk, jk, jk, jk, jk, jk, jk, jk, jk, jk, jk, jk, jk, jk, jk, jk, jk, jk, jk, jk, jk, jk, jk, jk, jk, jk, jk, jk, jk, jk, jk, jk, jk, jk, jk, jk, jk, jk, jk, jk, jk, jk, jk, jk, jk, jk, jk, jk, jk], [], [], [], [], 0, nomem⟩) (R / d1) ?_ ?_
        · simp -implicitDefEqProofs only [rkA, rkB, stepA, valA, simprocAttr]
          exact ⟨R / d1, R % d1, rfl, by rw [Nat.mul_comm]; exact p2, g2, g3, by omega, rfl⟩
        rintro m' s' ⟨q, r', rfl, l1, l2, l3, l4, rfl⟩
        have b1' := hmul m' l3
        have e4' : IntKind.wrap .u64 (IntKind.wrap .u64 (4294967296 * (r' : Int)) + (x0 : Int)) = ((4294967296 * r' + x0 : Nat) : Int) := by rw [wrapU, wrapU]; omega
        have e5' : IntKind.wrap .u64 ((r' : Int) + (d1 : Int)) = ((r' + d1 : Nat) : Int) := by rw [wrapU]; omega
        have efin : IntKind.wrap .u64 (IntKind.wrap .u64 ((Q : Int) * 4294967296) + (Q2 : Int)) = (((hi * 18446744073709551616 + lo) / y : Nat) : Int) := by rw [← f6.1, wrapU, wrapU]; omega
        have efin2 : ((R2 : Int)).fdiv (2 ^ min s (IntKind.bits .u64)) = (((hi * 18446744073709551616 + lo) % y : Nat) : Int) := by rw [shrN _ (show s ≤ 64 by omega), f6.2, fin.2]
        simp -implicitDefEqProofs only [rkA, rkB, stepA, valA, simprocAttr]
        refine gB_dec ?_ ?_ <;> intro hc5 <;> simp -implicitDefEqProofs only [hc5, rkA, rkB, stepA, valA, simprocAttr]
        · have hlt : Q2 < m' := by omega
          have hm := hdn Q2 m' hlt
          have e6 : IntKind.wrap .u64 ((m' : Int) - 1) = ((m' - 1 : Nat) : Int) := by rw [wrapU]; omega
          simp -implicitDefEqProofs only [e6, e5', rkA, rkB, stepA, valA, simprocAttr]
          refine gB_dec ?_ ?_ <;> intro hc6 <;> simp -implicitDefEqProofs only [hc6, rkA, rkB, stepA, valA, simprocAttr]
          · have hq : m' - 1 = Q2 := by have := g5 (m' - 1) (r' + d1) (by omega) (by omega); omega
            rw [hq]
            simp -implicitDefEqProofs only [hrest2, s0, Int.toNat_natCast, efin, efin2, rkA, rkB, stepA, valA, simprocAttr]
          · refine loopK_of (m' := m' - 1) (by omega) ?_
            simp -implicitDefEqProofs only [rkA, rkB, stepA, valA, simprocAttr]
            exact ⟨m' - 1, r' + d1, rfl, by omega, by omega, by omega, by omega, rfl⟩
        · simp -implicitDefEqProofs only [mulN, wrapN b1', e4', rkA, rkB, stepA, valA, simprocAttr]
          refine gB_dec ?_ ?_ <;> intro hc6 <;> simp -implicitDefEqProofs only [hc6, rkA, rkB, stepA, valA, simprocAttr]
          · have hlt : Q2 < m' := (g10 m').2 ((g4 _ _ l1).1 (by omega))
            have hm := hdn Q2 m' hlt
            have e6 : IntKind.wrap .u64 ((m' : Int) - 1) = ((m' - 1 : Nat) : Int) := by rw [wrapU]; omega
            simp -implicitDefEqProofs only [e6, e5', rkA, rkB, stepA, valA, simprocAttr]
            refine gB_dec ?_ ?_ <;> intro hc7 <;> simp -implicitDefEqProofs only [hc7, rkA, rkB, stepA, valA, simprocAttr]
            · have hq : m' - 1 = Q2 := by have := g5 (m' - 1) (r' + d1) (by omega) (by omega); omega
              rw [hq]
              simp -implicitDefEqProofs only [hrest2, s0, Int.toNat_natCast, efin, efin2, rkA, rkB, stepA, valA, simprocAttr]
            · refine loopK_of (m' := m' - 1) (by omega) ?_
              simp -implicitDefEqProofs only [rkA, rkB, stepA, valA, simprocAttr]
              exact ⟨m' - 1, r' + d1, rfl, by omega, by omega, by omega, by omega, rfl⟩
          · have hq : m' = Q2 := by
              have h1 : ¬ Q2 < m' := fun h => by have := (g4 _ _ l1).2 ((g10 m').1 h); omega
              omega
            rw [hq]
            simp -implicitDefEqProofs only [hrest2, s0, Int.toNat_natCast, efin, efin2, rkA, rkB, stepA, valA, simprocAttr]
end Go.Proofs.Ytambpjbpdackfaa.A



set_option linter.unusedVariables false
set_option linter.unusedSimpArgs false
set_option maxRecDepth 100000
namespace Go.Proofs.Ytambpjbpdackfaa.A
open Go Go.RowKit Go.Shelf

/-! ### Products, divided -/
def rightW (n : Int) : Bool := decide (-4611686018427387903 ≤ n ∧ n ≤ 4611686018427387903)
theorem ok37' (n : Int) : Ok Try.prog 37 [num n] (tru (rightW n)) := ok37 n
theorem ok40 (n : Int) (h : rightW n = true) : Ok Try.prog 40 [num n] (uw n.natAbs) := by
  simp only [rightW, decide_eq_true_eq] at h
  have w1 := wrapped (x := 0 - n) (by omega) (by omega)
  refine ok_fn mixed Try.func40 (code := ?_) (h := h40) ?_ k40 ?_
  rotate_left
  · exact rfl
  unfold h40 initS
  simp -implicitDefEqProofs (maxSteps := 10000000) only [rkA, rkB, stepA, valA, simprocAttr, Try.ntmps40, Try.results40]
  simp -implicitDefEqProofs (maxSteps := 10000000) only [w1, rkA, rkB, stepA, valA, simprocAttr]
  have e : IntKind.wrap .u64 (if n < 0 - n then 0 - n else n) = (n.natAbs : Int) := by rw [wrapU]; split <;> omega
  first | rw [e] | (simp -implicitDefEqProofs (maxSteps := 10000000) only [e, rkA, rkB, stepA, valA, simprocAttr])
theorem ok39 (a b : Nat) (ha : a < 18446744073709551616) (hb : b < 18446744073709551616) : Ok Try.prog 39 [uw a, uw b] (.agg [uw (a * b / 18446744073709551616), uw (a * b % 18446744073709551616)]) := by
  refine ok_fn mixed Try.func39 (code := ?_) (h := h39) ?_ k39 ?_
  rotate_left
  · exact rfl
  unfold h39 initS
  simp -implicitDefEqProofs (maxSteps := 10000000) only [rkA, rkB, stepA, valA, simprocAttr, Try.ntmps39, Try.results39]
  refine call_fn rfl rfl rfl (ok65 a b ha hb) ?_
  simp -implicitDefEqProofs (maxSteps := 10000000) only [rkA, rkB, stepA, valA, simprocAttr]
theorem ok38 (m : Int) : Ok Try.prog 38 [num m] (tru (decide (0 ≤ m ∧ m ≤ 2))) := by
  refine ok_fn mixed Try.func38 (code := ?_) (h := h38) ?_ k38 ?_
  rotate_left
  · exact rfl
  unfold h38 initS
  simp -implicitDefEqProofs (maxSteps := 10000000) only [rkA, rkB, stepA, valA, simprocAttr, Try.ntmps38, Try.results38]
  by_cases h : m ≥ 0
  · simp -implicitDefEqProofs (maxSteps := 10000000) only [h, rkA, rkB, stepA, valA, simprocAttr]
  · simp -implicitDefEqProofs (maxSteps := 10000000) only [h, rkA, rkB, stepA, valA, simprocAttr]

theorem and1 {a : Nat} (ha : a < 18446744073709551616) : IntKind.wrap .u64 ((BitVec.ofInt (IntKind.bits .u64) (a : Int) &&& BitVec.ofInt (IntKind.bits .u64) 1).toNat : Int) = ((a % 2 : Nat) : Int) := by
  have e : (BitVec.ofInt 64 (a : Int) &&& BitVec.ofInt 64 1).toNat = a % 2 := by
    have : (1 : Int) = ((1 : Nat) : Int) := rfl
    rw [this, ofIntN, ofIntN, BitVec.toNat_and, BitVec.toNat_ofNat, BitVec.toNat_ofNat]
    have h1 : a % 2 ^ 64 = a := Nat.mod_eq_of_lt (by omega)
    have h2 : 1 % 2 ^ 64 = 2 ^ 1 - 1 := by decide
    rw [h1, h2, Nat.and_two_pow_sub_one_eq_mod]
  rw [bitsU, e, wrapN (by omega)]
theorem toI {q : Nat} (h : q ≤ 4611686018427387903) : IntKind.wrap .i64 (q : Int) = (q : Int) ∧ IntKind.wrap .i64 (0 - (q : Int)) = -(q : Int) := by
  refine ⟨wrapped (by omega) (by omega), ?_⟩
  rw [wrapped (by omega) (by omega)]
  omega
def moreF (mode : Int) (q r d : Nat) (minus : Bool) : Bool :=
  if r = 0 then false else if mode = 0 then (decide (r > d - r) || (decide (r = d - r) && decide (q % 2 = 1))) else (decide (mode = 2) != minus)
def minus3 (a b c : Int) : Bool := (decide (a < 0) != decide (b < 0)) != decide (c < 0)
def mdN (a b c mode : Int) : Nat := a.natAbs * b.natAbs / c.natAbs + (if moreF mode (a.natAbs * b.natAbs / c.natAbs) (a.natAbs * b.natAbs % c.natAbs) c.natAbs (minus3 a b c) = true then 1 else 0)
def mdOk (a b c mode : Int) : Bool := rightW a && (rightW b && (rightW c && (decide (c ≠ 0) && (decide (0 ≤ mode ∧ mode ≤ 2) && decide (mdN a b c mode ≤ 4611686018427387903)))))
/-- A product, divided, and rounded; false: it may not be. -/
def mdF (a b c mode : Int) : Int × Bool := if mdOk a b c mode = true then (if minus3 a b c = true then -(mdN a b c mode : Int) else (mdN a b c mode : Int), true) else (0, false)

theorem nb1 : (!(true == false)) = true := rfl
theorem nb2 : (!(true == true)) = false := rfl
theorem nb3 : (!(false == true)) = true := rfl
theorem nb4 : (!(false == false)) = false := rfl
set_option maxHeartbeats 4000000 in
theorem ok21 (a b c mode : Int) : Ok Try.prog 21 [num a, num b, num c, num mode] (.tup [num (mdF a b c mode).1, tru (mdF a b c mode).2]) := by
  have bad : mdOk a b c mode = false → mdF a b c mode = (0, false) := fun h => by unfold mdF; rw [h]; rfl
  refine ok_fn mixed Try.func21 (code := ?_) (h := h21) ?_ k21 ?_
  rotate_left
  · exact rfl
  unfold h21 initS
  simp -implicitDefEqProofs (maxSteps := 10000000) only [rkA, rkB, stepA, valA, simprocAttr, Try.ntmps21, Try.results21]
  refine call_fn rfl rfl rfl (ok37' a) ?_
  cases ha : rightW a with
  | false => 
    rw [bad (by simp [mdOk, ha])]
    simp -implicitDefEqProofs (maxSteps := 10000000) only [rkA, rkB, stepA, valA, simprocAttr]
  | true =>
    simp -implicitDefEqProofs (maxSteps := 10000000) only [rkA, rkB, stepA, valA, simprocAttr]
    refine call_fn rfl rfl rfl (ok37' b) ?_
    cases hb : rightW b with
    | false => 
      rw [bad (by simp [mdOk, hb])]
      simp -implicitDefEqProofs (maxSteps := 10000000) only [rkA, rkB, stepA, valA, simprocAttr]
    | true =>
      simp -implicitDefEqProofs (maxSteps := 10000000) only [rkA, rkB, stepA, valA, simprocAttr]
      refine call_fn rfl rfl rfl (ok37' c) ?_
      cases hc : rightW c with
      | false => 
        rw [bad (by simp [mdOk, hc])]
        simp -implicitDefEqProofs (maxSteps := 10000000) only [rkA, rkB, stepA, valA, simprocAttr]
      | true =>
        simp -implicitDefEqProofs (maxSteps := 10000000) only [rkA, rkB, stepA, valA, simprocAttr]
        by_cases c0 : c = 0
        · rw [bad (by simp [mdOk, c0])]
          simp -implicitDefEqProofs (maxSteps := 10000000) only [c0, beq_self_eq_true, rkA, rkB, stepA, valA, simprocAttr]
        · have c0' : (c == 0) = false := by simp [c0]
          simp -implicitDefEqProofs (maxSteps := 10000000) only [c0', rkA, rkB, stepA, valA, simprocAttr]
          refine call_fn rfl rfl rfl (ok38 mode) ?_
          by_cases hm : 0 ≤ mode ∧ mode ≤ 2
          · simp -implicitDefEqProofs (maxSteps := 10000000) only [hm, rkA, rkB, stepA, valA, simprocAttr]
            refine call_fn rfl rfl rfl (ok40 a ha) ?_
            simp -implicitDefEqProofs (maxSteps := 10000000) only [rkA, rkB, stepA, valA, simprocAttr]
            refine call_fn rfl rfl rfl (ok40 b hb) ?_
            simp only [rightW, decide_eq_true_eq] at ha hb
            simp -implicitDefEqProofs (maxSteps := 10000000) only [rkA, rkB, stepA, valA, simprocAttr]
            refine call_fn rfl rfl rfl (ok39 a.natAbs b.natAbs (by omega) (by omega)) ?_
            simp -implicitDefEqProofs (maxSteps := 10000000) only [rkA, rkB, stepA, valA, simprocAttr]
            refine call_fn rfl rfl rfl (ok40 c hc) ?_
            have hc' := hc
            simp only [rightW, decide_eq_true_eq] at hc'
            simp -implicitDefEqProofs (maxSteps := 10000000) only [rkA, rkB, stepA, valA, simprocAttr]
            have hd : 0 < c.natAbs := by omega
            have e2 : ((2 : Nat) : Int) = 2 := rfl
            have p1 := Nat.div_add_mod (a.natAbs * b.natAbs) 18446744073709551616
            have p2 := Nat.mod_lt (a.natAbs * b.natAbs) (show 0 < 18446744073709551616 by omega)
            refine gB_dec ?_ ?_ <;> intro hg <;> simp -implicitDefEqProofs (maxSteps := 10000000) only [hg, e2, rkA, rkB, stepA, valA, simprocAttr]
            · have hq : 18446744073709551616 ≤ a.natAbs * b.natAbs / c.natAbs := by
                rw [Nat.le_div_iff_mul_le hd]
                have : c.natAbs * 18446744073709551616 ≤ a.natAbs * b.natAbs / 18446744073709551616 * 18446744073709551616 := Nat.mul_le_mul_right _ (by omega)
                rw [Nat.mul_comm 18446744073709551616]
                omega
              have hn : ¬ mdN a b c mode ≤ 4611686018427387903 := by
                unfold mdN
                generalize a.natAbs * b.natAbs / c.natAbs = q at *
                split <;> omega
              rw [bad (by simp only [mdOk, hn, decide_false, Bool.and_false])]
            · have h131 := ok41 (a.natAbs * b.natAbs / 18446744073709551616) (a.natAbs * b.natAbs % 18446744073709551616) c.natAbs (by omega) (by omega) p2
              rw [Nat.mul_comm _ 18446744073709551616, p1] at h131
              refine call_fn rfl rfl rfl (h131) ?_
              have q1 := Nat.mod_lt (a.natAbs * b.natAbs) hd
              simp -implicitDefEqProofs (maxSteps := 10000000) only [rkA, rkB, stepA, valA, simprocAttr]
              have q2 : a.natAbs * b.natAbs / c.natAbs < 18446744073709551616 := by
                refine Nat.div_lt_of_lt_mul ?_
                have : (a.natAbs * b.natAbs / 18446744073709551616 + 1) * 18446744073709551616 ≤ c.natAbs * 18446744073709551616 := Nat.mul_le_mul_right _ (by omega)
                omega
              have hmin : (!((!(decide (a < 0) == decide (b < 0))) == decide (c < 0))) = minus3 a b c := rfl
              have spec : ∀ mo, moreF mode (a.natAbs * b.natAbs / c.natAbs) (a.natAbs * b.natAbs % c.natAbs) c.natAbs (minus3 a b c) = mo → mdF a b c mode = if a.natAbs * b.natAbs / c.natAbs + (if mo = true then 1 else 0) ≤ 4611686018427387903 then
                  (if minus3 a b c = true then -((a.natAbs * b.natAbs / c.natAbs + (if mo = true then 1 else 0) : Nat) : Int) else ((a.natAbs * b.natAbs / c.natAbs + (if mo = true then 1 else 0) : Nat) : Int), true) else (0, false) := by
                have r1 : rightW a = true := by simp only [rightW, decide_eq_true_eq]; exact ha
                have r2 : rightW b = true := by simp only [rightW, decide_eq_true_eq]; exact hb
                have r3 : decide (0 ≤ mode ∧ mode ≤ 2) = true := decide_eq_true hm
                intro mo h
                unfold mdF mdOk
                rw [r1, r2, hc, r3, decide_eq_true (show c ≠ 0 from c0)]
                simp only [Bool.true_and, decide_eq_true_eq]
                unfold mdN
                rw [h]
              simp only [hmin]
              clear bad
              have dN : c.natAbs < 18446744073709551616 := by omega
              generalize a.natAbs * b.natAbs / c.natAbs = q at *
              generalize a.natAbs * b.natAbs % c.natAbs = r at *
              generalize minus3 a b c = mi at *
              generalize c.natAbs = d at *
              by_cases r0 : r = 0
              · subst r0
                have hmo : moreF mode q 0 d mi = false := rfl
                simp -implicitDefEqProofs (maxSteps := 10000000) only [Int.natCast_zero, beq_self_eq_true, rkA, rkB, stepA, valA, simprocAttr]
                by_cases big : q > 4611686018427387903
                · have big' : (q : Int) > 4611686018427387903 := by omega
                  rw [(spec false hmo).trans (if_neg (by simp; omega))]
                  simp -implicitDefEqProofs (maxSteps := 10000000) only [big', rkA, rkB, stepA, valA, simprocAttr]
                · have big' : ¬ (q : Int) > 4611686018427387903 := by omega
                  rw [(spec false hmo).trans (if_pos (by simp; omega))]
                  obtain ⟨t1, t2⟩ := toI (q := q) (by omega)
                  simp -implicitDefEqProofs (maxSteps := 10000000) only [big', Nat.add_zero, rkA, rkB, stepA, valA, simprocAttr]
                  first
                    | (cases mi with
                       | true => simp -implicitDefEqProofs (maxSteps := 10000000) only [t1, t2, rkA, rkB, stepA, valA, simprocAttr]
                       | false => simp -implicitDefEqProofs (maxSteps := 10000000) only [t1, t2, rkA, rkB, stepA, valA, simprocAttr])
                    | simp -implicitDefEqProofs (maxSteps := 10000000) only [t1, t2, rkA, rkB, stepA, valA, simprocAttr]
              · have r0' : ((r : Int) == 0) = false := by simp; omega
                simp -implicitDefEqProofs (maxSteps := 10000000) only [r0', rkA, rkB, stepA, valA, simprocAttr]
                by_cases m0 : mode = 0
                · have m0' : (mode == 0) = true := by simp [m0]
                  have hsub : IntKind.wrap .u64 ((d : Int) - (r : Int)) = ((d - r : Nat) : Int) := by rw [wrapU]; omega
                  simp -implicitDefEqProofs (maxSteps := 10000000) only [m0', hsub, rkA, rkB, stepA, valA, simprocAttr]
                  by_cases h1 : r > d - r
                  · have hmo : moreF mode q r d mi = true := by simp [moreF, r0, m0, h1]
                    have h1' : (r : Int) > ((d - r : Nat) : Int) := by omega
                    simp -implicitDefEqProofs (maxSteps := 10000000) only [h1', hsub, rkA, rkB, stepA, valA, simprocAttr]
                    by_cases big : q > 4611686018427387903
                    · have big' : (q : Int) > 4611686018427387903 := by omega
                      rw [(spec true hmo).trans (if_neg (by simp; omega))]
                      simp -implicitDefEqProofs (maxSteps := 10000000) only [big', rkA, rkB, stepA, valA, simprocAttr]
                    · have big' : ¬ (q : Int) > 4611686018427387903 := by omega
                      by_cases edge : q = 4611686018427387903
                      · have edge' : ((q : Int) == 4611686018427387903) = true := by simp; omega
                        rw [(spec true hmo).trans (if_neg (by simp; omega))]
                        simp -implicitDefEqProofs (maxSteps := 10000000) only [big', edge', rkA, rkB, stepA, valA, simprocAttr]
                      · have edge' : ((q : Int) == 4611686018427387903) = false := by simp; omega
                        have hw : IntKind.wrap .u64 ((q : Int) + 1) = ((q + 1 : Nat) : Int) := by rw [wrapU]; omega
                        rw [(spec true hmo).trans (if_pos (by simp; omega))]
                        obtain ⟨t1, t2⟩ := toI (q := q + 1) (by omega)
                        simp -implicitDefEqProofs (maxSteps := 10000000) only [big', edge', hw, rkA, rkB, stepA, valA, simprocAttr]
                        first
                          | (cases mi with
                             | true => simp -implicitDefEqProofs (maxSteps := 10000000) only [t1, t2, rkA, rkB, stepA, valA, simprocAttr]
                             | false => simp -implicitDefEqProofs (maxSteps := 10000000) only [t1, t2, rkA, rkB, stepA, valA, simprocAttr])
                          | simp -implicitDefEqProofs (maxSteps := 10000000) only [t1, t2, rkA, rkB, stepA, valA, simprocAttr]
                  · have h1' : ¬ (r : Int) > ((d - r : Nat) : Int) := by omega
                    simp -implicitDefEqProofs (maxSteps := 10000000) only [h1', hsub, rkA, rkB, stepA, valA, simprocAttr]
                    by_cases h2 : r = d - r
                    · have h2' : ((r : Int) == ((d - r : Nat) : Int)) = true := by simp; omega
                      simp -implicitDefEqProofs (maxSteps := 10000000) only [h2', and1 q2, rkA, rkB, stepA, valA, simprocAttr]
                      by_cases h3 : q % 2 = 1
                      · have hmo : moreF mode q r d mi = true := by simp [moreF, r0, m0, h3]; omega
                        have h3' : (((q % 2 : Nat) : Int) == 1) = true := by simp; omega
                        simp -implicitDefEqProofs (maxSteps := 10000000) only [h3', rkA, rkB, stepA, valA, simprocAttr]
                        by_cases big : q > 4611686018427387903
                        · have big' : (q : Int) > 4611686018427387903 := by omega
                          rw [(spec true hmo).trans (if_neg (by simp; omega))]
                          simp -implicitDefEqProofs (maxSteps := 10000000) only [big', rkA, rkB, stepA, valA, simprocAttr]
                        · have big' : ¬ (q : Int) > 4611686018427387903 := by omega
                          by_cases edge : q = 4611686018427387903
                          · have edge' : ((q : Int) == 4611686018427387903) = true := by simp; omega
                            rw [(spec true hmo).trans (if_neg (by simp; omega))]
                            simp -implicitDefEqProofs (maxSteps := 10000000) only [big', edge', rkA, rkB, stepA, valA, simprocAttr]
                          · have edge' : ((q : Int) == 4611686018427387903) = false := by simp; omega
                            have hw : IntKind.wrap .u64 ((q : Int) + 1) = ((q + 1 : Nat) : Int) := by rw [wrapU]; omega
                            rw [(spec true hmo).trans (if_pos (by simp; omega))]
                            obtain ⟨t1, t2⟩ := toI (q := q + 1) (by omega)
                            simp -implicitDefEqProofs (maxSteps := 10000000) only [big', edge', hw, rkA, rkB, stepA, valA, simprocAttr]
                            first
                              | (cases mi with
                                 | true => simp -implicitDefEqProofs (maxSteps := 10000000) only [t1, t2, rkA, rkB, stepA, valA, simprocAttr]
                                 | false => simp -implicitDefEqProofs (maxSteps := 10000000) only [t1, t2, rkA, rkB, stepA, valA, simprocAttr])
                              | simp -implicitDefEqProofs (maxSteps := 10000000) only [t1, t2, rkA, rkB, stepA, valA, simprocAttr]
                      · have hmo : moreF mode q r d mi = false := by simp only [moreF, r0, m0, h1, h3]; simp
                        have h3' : (((q % 2 : Nat) : Int) == 1) = false := by simp; omega
                        simp -implicitDefEqProofs (maxSteps := 10000000) only [h3', rkA, rkB, stepA, valA, simprocAttr]
                        by_cases big : q > 4611686018427387903
                        · have big' : (q : Int) > 4611686018427387903 := by omega
                          rw [(spec false hmo).trans (if_neg (by simp; omega))]
                          simp -implicitDefEqProofs (maxSteps := 10000000) only [big', rkA, rkB, stepA, valA, simprocAttr]
                        · have big' : ¬ (q : Int) > 4611686018427387903 := by omega
                          rw [(spec false hmo).trans (if_pos (by simp; omega))]
                          obtain ⟨t1, t2⟩ := toI (q := q) (by omega)
                          simp -implicitDefEqProofs (maxSteps := 10000000) only [big', Nat.add_zero, rkA, rkB, stepA, valA, simprocAttr]
                          first
                            | (cases mi with
                               | true => simp -implicitDefEqProofs (maxSteps := 10000000) only [t1, t2, rkA, rkB, stepA, valA, simprocAttr]
                               | false => simp -implicitDefEqProofs (maxSteps := 10000000) only [t1, t2, rkA, rkB, stepA, valA, simprocAttr])
                            | simp -implicitDefEqProofs (maxSteps := 10000000) only [t1, t2, rkA, rkB, stepA, valA, simprocAttr]
                    · have h2' : ((r : Int) == ((d - r : Nat) : Int)) = false := by simp; omega
                      have hmo : moreF mode q r d mi = false := by simp only [moreF, r0, m0, h1, h2]; simp
                      simp -implicitDefEqProofs (maxSteps := 10000000) only [h2', rkA, rkB, stepA, valA, simprocAttr]
                      by_cases big : q > 4611686018427387903
                      · have big' : (q : Int) > 4611686018427387903 := by omega
                        rw [(spec false hmo).trans (if_neg (by simp; omega))]
                        simp -implicitDefEqProofs (maxSteps := 10000000) only [big', rkA, rkB, stepA, valA, simprocAttr]
                      · have big' : ¬ (q : Int) > 4611686018427387903 := by omega
                        rw [(spec false hmo).trans (if_pos (by simp; omega))]
                        obtain ⟨t1, t2⟩ := toI (q := q) (by omega)
                        simp -implicitDefEqProofs (maxSteps := 10000000) only [big', Nat.add_zero, rkA, rkB, stepA, valA, simprocAttr]
                        first
                          | (cases mi with
                             | true => simp -implicitDefEqProofs (maxSteps := 10000000) only [t1, t2, rkA, rkB, stepA, valA, simprocAttr]
                             | false => simp -implicitDefEqProofs (maxSteps := 10000000) only [t1, t2, rkA, rkB, stepA, valA, simprocAttr])
                          | simp -implicitDefEqProofs (maxSteps := 10000000) only [t1, t2, rkA, rkB, stepA, valA, simprocAttr]
                · have m0' : (mode == 0) = false := by simp [m0]
                  simp -implicitDefEqProofs (maxSteps := 10000000) only [m0', rkA, rkB, stepA, valA, simprocAttr]
                  by_cases m2 : mode = 2
                  · have m2' : (mode == 2) = true := by simp [m2]
                    cases mi with
                    | true =>
                      have hmo : moreF mode q r d true = false := by simp [moreF, r0, m2]
                      simp -implicitDefEqProofs (maxSteps := 10000000) only [m2', nb1, nb2, nb3, nb4, rkA, rkB, stepA, valA, simprocAttr]
                      by_cases big : q > 4611686018427387903
                      · have big' : (q : Int) > 4611686018427387903 := by omega
                        rw [(spec false hmo).trans (if_neg (by simp; omega))]
                        simp -implicitDefEqProofs (maxSteps := 10000000) only [big', rkA, rkB, stepA, valA, simprocAttr]
                      · have big' : ¬ (q : Int) > 4611686018427387903 := by omega
                        rw [(spec false hmo).trans (if_pos (by simp; omega))]
                        obtain ⟨t1, t2⟩ := toI (q := q) (by omega)
                        simp -implicitDefEqProofs (maxSteps := 10000000) only [big', Nat.add_zero, rkA, rkB, stepA, valA, simprocAttr]
                        first
                          | (cases mi with
                             | true => simp -implicitDefEqProofs (maxSteps := 10000000) only [t1, t2, rkA, rkB, stepA, valA, simprocAttr]
                             | false => simp -implicitDefEqProofs (maxSteps := 10000000) only [t1, t2, rkA, rkB, stepA, valA, simprocAttr])
                          | simp -implicitDefEqProofs (maxSteps := 10000000) only [t1, t2, rkA, rkB, stepA, valA, simprocAttr]
                    | false =>
                      have hmo : moreF mode q r d false = true := by simp [moreF, r0, m2]
                      simp -implicitDefEqProofs (maxSteps := 10000000) only [m2', nb1, nb2, nb3, nb4, rkA, rkB, stepA, valA, simprocAttr]
                      by_cases big : q > 4611686018427387903
                      · have big' : (q : Int) > 4611686018427387903 := by omega
                        rw [(spec true hmo).trans (if_neg (by simp; omega))]
                        simp -implicitDefEqProofs (maxSteps := 10000000) only [big', rkA, rkB, stepA, valA, simprocAttr]
                      · have big' : ¬ (q : Int) > 4611686018427387903 := by omega
                        by_cases edge : q = 4611686018427387903
                        · have edge' : ((q : Int) == 4611686018427387903) = true := by simp; omega
                          rw [(spec true hmo).trans (if_neg (by simp; omega))]
                          simp -implicitDefEqProofs (maxSteps := 10000000) only [big', edge', rkA, rkB, stepA, valA, simprocAttr]
                        · have edge' : ((q : Int) == 4611686018427387903) = false := by simp; omega
                          have hw : IntKind.wrap .u64 ((q : Int) + 1) = ((q + 1 : Nat) : Int) := by rw [wrapU]; omega
                          rw [(spec true hmo).trans (if_pos (by simp; omega))]
                          obtain ⟨t1, t2⟩ := toI (q := q + 1) (by omega)
                          simp -implicitDefEqProofs (maxSteps := 10000000) only [big', edge', hw, rkA, rkB, stepA, valA, simprocAttr]
                          first
                            | (cases mi with
                               | true => simp -implicitDefEqProofs (maxSteps := 10000000) only [t1, t2, rkA, rkB, stepA, valA, simprocAttr]
                               | false => simp -implicitDefEqProofs (maxSteps := 10000000) only [t1, t2, rkA, rkB, stepA, valA, simprocAttr])
                            | simp -implicitDefEqProofs (maxSteps := 10000000) only [t1, t2, rkA, rkB, stepA, valA, simprocAttr]
                  · have m2' : (mode == 2) = false := by simp [m2]
                    cases mi with
                    | true =>
                      have hmo : moreF mode q r d true = true := by simp [moreF, r0, m0, m2]
                      simp -implicitDefEqProofs (maxSteps := 10000000) only [m2', nb1, nb2, nb3, nb4, rkA, rkB, stepA, valA, simprocAttr]
                      by_cases big : q > 4611686018427387903
                      · have big' : (q : Int) > 4611686018427387903 := by omega
                        rw [(spec true hmo).trans (if_neg (by simp; omega))]
                        simp -implicitDefEqProofs (maxSteps := 10000000) only [big', rkA, rkB, stepA, valA, simprocAttr]
                      · have big' : ¬ (q : Int) > 4611686018427387903 := by omega
                        by_cases edge : q = 4611686018427387903
                        · have edge' : ((q : Int) == 4611686018427387903) = true := by simp; omega
                          rw [(spec true hmo).trans (if_neg (by simp; omega))]
                          simp -implicitDefEqProofs (maxSteps := 10000000) only [big', edge', rkA, rkB, stepA, valA, simprocAttr]
                        · have edge' : ((q : Int) == 4611686018427387903) = false := by simp; omega
                          have hw : IntKind.wrap .u64 ((q : Int) + 1) = ((q + 1 : Nat) : Int) := by rw [wrapU]; omega
                          rw [(spec true hmo).trans (if_pos (by simp; omega))]
                          obtain ⟨t1, t2⟩ := toI (q := q + 1) (by omega)
                          simp -implicitDefEqProofs (maxSteps := 10000000) only [big', edge', hw, rkA, rkB, stepA, valA, simprocAttr]
                          first
                            | (cases mi with
                               | true => simp -implicitDefEqProofs (maxSteps := 10000000) only [t1, t2, rkA, rkB, stepA, valA, simprocAttr]
                               | false => simp -implicitDefEqProofs (maxSteps := 10000000) only [t1, t2, rkA, rkB, stepA, valA, simprocAttr])
                            | simp -implicitDefEqProofs (maxSteps := 10000000) only [t1, t2, rkA, rkB, stepA, valA, simprocAttr]
                    | false =>
                      have hmo : moreF mode q r d false = false := by simp [moreF, r0, m0, m2]
                      simp -implicitDefEqProofs (maxSteps := 10000000) only [m2', nb1, nb2, nb3, nb4, rkA, rkB, stepA, valA, simprocAttr]
                      by_cases big : q > 4611686018427387903
                      · have big' : (q : Int) > 4611686018427387903 := by omega
                        rw [(spec false hmo).trans (if_neg (by simp; omega))]
                        simp -implicitDefEqProofs (maxSteps := 10000000) only [big', rkA, rkB, stepA, valA, simprocAttr]
                      · have big' : ¬ (q : Int) > 4611686018427387903 := by omega
                        rw [(spec false hmo).trans (if_pos (by simp; omega))]
                        obtain ⟨t1, t2⟩ := toI (q := q) (by omega)
                        simp -implicitDefEqProofs (maxSteps := 10000000) only [big', Nat.add_zero, rkA, rkB, stepA, valA, simprocAttr]
                        first
                          | (cases mi with
                             | true => simp -implicitDefEqProofs (maxSteps := 10000000) only [t1, t2, rkA, rkB, stepA, valA, simprocAttr]
                             | false => simp -implicitDefEqProofs (maxSteps := 10000000) only [t1, t2, rkA, rkB, stepA, valA, simprocAttr])
                          | simp -implicitDefEqProofs (maxSteps := 10000000) only [t1, t2, rkA, rkB, stepA, valA, simprocAttr]
          · rw [bad (by simp only [mdOk, hm, decide_false, Bool.and_false, Bool.false_and])]
            simp -implicitDefEqProofs (maxSteps := 10000000) only [hm, rkA, rkB, stepA, valA, simprocAttr]
end Go.Proofs.Ytambpjbpdackfaa.A


set_option linter.unusedVariables false
set_option linter.unusedSimpArgs false
set_option maxRecDepth 100000
namespace Go.Proofs.Ytambpjbpdackfaa.A
open Go Go.RowKit Go.Shelf

def Fr.fine (x : Fr) : Bool := !x.bad && decide (x.d ≥ 1) && decide (x.d ≤ 1073741824) && decide (x.n ≤ 1073741824) && decide (x.n ≥ -1073741824) && (((newF x.n x.d).n == x.n) && (((newF x.n x.d).d == x.d) && (((newF x.n x.d).bad == x.bad) && true)))

theorem Fr.fine_spec {x : Fr} (h : x.fine = true) : x.bad = false ∧ 1 ≤ x.d ∧ x.d ≤ 1073741824 ∧ x.n ≤ 1073741824 ∧ -1073741824 ≤ x.n := by
  simp only [Fr.fine, Bool.and_eq_true, Bool.not_eq_true', decide_eq_true_eq] at h
  exact ⟨h.1.1.1.1.1, by omega, by omega, by omega, by omega⟩

def addF (a b : Fr) : Fr :=
  if a.fine = false ∨ b.fine = false then .wrong else
    newF ((a.n * b.d + b.n * a.d).tdiv (Int.gcd (a.n * b.d + b.n * a.d) (a.d * b.d))) ((a.d * b.d).tdiv (Int.gcd (a.n * b.d + b.n * a.d) (a.d * b.d)))

def mulF (a b : Fr) : Fr := if a.fine = false ∨ b.fine = false then .wrong else newF (a.n * b.n) (a.d * b.d)
/-! ### Whole numbers -/
abbrev whole (n : Int) : Fr := ⟨n, 1, false⟩
end Go.Proofs.Ytambpjbpdackfaa.A


set_option linter.unusedVariables false
set_option linter.unusedSimpArgs false
set_option maxRecDepth 100000
namespace Go.Proofs.Ytambpjbpdackfaa.A
open Go Go.RowKit Go.Shelf

/-! ### Rows of fractions -/
abbrev frs (l : List Fr) : List PV := l.map frV

theorem fits_frs {k l : List Fr} (h : k.length + l.length ≤ 5864062014805) : fits 3 24 (frs k) (frs l) = true := by
  simp [fits, PV.cells, PV.ok, PV.cell, Value.oneCell']
  omega

def right (r c : Int) (n : Nat) : Bool := decide (1 ≤ r ∧ r ≤ 16) && (decide (1 ≤ c ∧ c ≤ 16) && ((n : Int) == r * c))
abbrev matNil : PV := .agg [num 0, num 0, .s (.slice none 0 0)]
abbrev matV (ex : Bool) (r c : Int) (l : List PV) : PV := .agg [num r, num c, .sl ex l]

/-- What stands in a row, or 0 fraction. -/
def atF (r c : Int) (l : List Fr) (i k : Int) : Fr := if right r c l.length = true ∧ 0 ≤ i ∧ i < r ∧ 0 ≤ k ∧ k < c then l.getD (i * c + k).toNat ⟨0, 0, false⟩ else ⟨0, 0, false⟩

theorem right_spec {r c : Int} {n : Nat} (h : right r c n = true) : 1 ≤ r ∧ r ≤ 16 ∧ 1 ≤ c ∧ c ≤ 16 ∧ (n : Int) = r * c := by
  simp only [right, Bool.and_eq_true, decide_eq_true_eq, beq_iff_eq] at h
  omega

theorem at_bound {r c i k : Int} (hr : r ≤ 16) (hc : 1 ≤ c ∧ c ≤ 16) (hi : 0 ≤ i ∧ i < r) (hk : 0 ≤ k ∧ k < c) : 0 ≤ i * c ∧ 0 ≤ i * c + k ∧ i * c + k < r * c ∧ i * c ≤ 256 ∧ r * c ≤ 256 := by
  have h1 : 0 ≤ i * c := Int.mul_nonneg hi.1 (by omega)
  have h2 : (i + 1) * c ≤ r * c := Int.mul_le_mul_of_nonneg_right (by omega) (by omega)
  have h3 : (i + 1) * c = i * c + c := by rw [Int.add_mul, Int.one_mul]
  have h4 : r * c ≤ 16 * c := Int.mul_le_mul_of_nonneg_right hr (by omega)
  omega

end Go.Proofs.Ytambpjbpdackfaa.A


set_option linter.unusedVariables false
set_option linter.unusedSimpArgs false
set_option maxRecDepth 100000
namespace Go.Proofs.Ytambpjbpdackfaa.A
open Go Go.RowKit Go.Shelf

def sumF (l : List Fr) : Fr := l.foldl addF (newF 0 1)

theorem sl_frs {ex : Bool} {l : List Fr} {a b : Nat} (h1 : a ≤ b) (h2 : b ≤ l.length) : sliceA 3 (frs l) ex (some a) (some b) none = some (.sl (exA none ex b (frs l).length) (frs ((l.take b).drop a))) := by
  unfold sliceA
  simp only [Option.getD_some]
  rw [if_pos ⟨h1, by simpa using h2, by simp, by simp [PV.cells]⟩]
  simp

/-- A row. -/
def rowF (r c : Int) (l : List Fr) (i : Int) : List Fr := if right r c l.length = true ∧ 0 ≤ i ∧ i < r then (l.take ((i + 1) * c).toNat).drop (i * c).toNat else []

end Go.Proofs.Ytambpjbpdackfaa.A


set_option linter.unusedVariables false
set_option linter.unusedSimpArgs false
set_option maxRecDepth 100000
namespace Go.Proofs.Ytambpjbpdackfaa.A
open Go Go.RowKit Go.Shelf

def rowsF (r c : Int) (l : List Fr) : List (List PV) := if right r c l.length = true then (List.range r.toNat).map fun (i : Nat) => [num (i : Int), .sl false (frs (rowF r c l (i : Int)))] else []

/-! ### Pairs -/
def pairsF (a b : List Fr) : List (List PV) := (List.zip a b).map fun p => [frV p.1, frV p.2]

end Go.Proofs.Ytambpjbpdackfaa.A


set_option linter.unusedVariables false
set_option linter.unusedSimpArgs false
set_option maxRecDepth 100000
namespace Go.Proofs.Ytambpjbpdackfaa.A
open Go Go.RowKit Go.Shelf

def dotF (a b : List Fr) : Fr := sumF (List.zipWith mulF a b)

/-- A matrix, turned. -/
def turnF (r c : Int) (l : List Fr) : List Fr := if right r c l.length = true then (List.range c.toNat).flatMap fun (k : Nat) => (List.range r.toNat).map fun (i : Nat) => atF r c l i k else []

/-- Of a turned matrix, what is told so far. -/
def turnP (r c : Int) (l : List Fr) (k i : Nat) : List Fr := (List.range k).flatMap (fun (k : Nat) => (List.range r.toNat).map fun (i : Nat) => atF r c l i k) ++ (List.range i).map fun (i : Nat) => atF r c l i k
theorem turnP_succ (r c : Int) (l : List Fr) (k i : Nat) : turnP r c l k (i + 1) = turnP r c l k i ++ [atF r c l i k] := by
  simp [turnP, List.range_succ]
theorem turnP_next (r c : Int) (l : List Fr) (k : Nat) : turnP r c l k r.toNat = turnP r c l (k + 1) 0 := by
  simp [turnP, List.range_succ]
theorem turnP_length (r c : Int) (l : List Fr) (k i : Nat) : (turnP r c l k i).length = k * r.toNat + i := by
  simp [turnP, List.length_flatMap, List.map_const', List.sum_replicate_nat]

end Go.Proofs.Ytambpjbpdackfaa.A


set_option linter.unusedVariables false
set_option linter.unusedSimpArgs false
set_option maxRecDepth 100000
namespace Go.Proofs.Ytambpjbpdackfaa.A
open Go Go.RowKit Go.Shelf

theorem turnF_length {r c : Int} {l : List Fr} (h : right r c l.length = true) : (turnF r c l).length = c.toNat * r.toNat := by
  have : turnF r c l = turnP r c l c.toNat 0 := by simp [turnF, h, turnP]
  rw [this, turnP_length, Nat.add_zero]

theorem right_turn {r c : Int} {l : List Fr} (h : right r c l.length = true) : right c r (turnF r c l).length = true := by
  obtain ⟨r1, r2, c1, c2, hn⟩ := right_spec h
  rw [turnF_length h]
  simp only [right, Bool.and_eq_true, decide_eq_true_eq, beq_iff_eq]
  refine ⟨by omega, by omega, ?_⟩
  rw [Int.natCast_mul, Int.toNat_of_nonneg (by omega), Int.toNat_of_nonneg (by omega)]

section
variable {α β : Type} (f : α → α → β)
/-- A product, the rows given: what stands so far. -/
def prodP (xs ys : List α) (i k : Nat) : List β := (xs.take i).flatMap (fun x => ys.map (f x)) ++ (match xs[i]? with | some x => (ys.take k).map (f x) | none => [])
theorem prodP_succ {xs ys : List α} {i k : Nat} {x y : α} (hx : xs[i]? = some x) (hy : ys[k]? = some y) : prodP f xs ys i (k + 1) = prodP f xs ys i k ++ [f x y] := by
  obtain ⟨hk, rfl⟩ := List.getElem?_eq_some_iff.1 hy
  simp only [prodP, hx, List.take_succ_eq_append_getElem hk, List.map_append, List.map_cons, List.map_nil, List.append_assoc]
theorem prodP_zero (xs ys : List α) (i : Nat) : prodP f xs ys i 0 = (xs.take i).flatMap (fun x => ys.map (f x)) := by
  unfold prodP
  cases xs[i]? <;> simp
theorem prodP_next {xs ys : List α} {i : Nat} (hi : i < xs.length) : prodP f xs ys i ys.length = prodP f xs ys (i + 1) 0 := by
  rw [prodP_zero, List.take_succ_eq_append_getElem hi, prodP, List.getElem?_eq_getElem hi]
  simp only [List.take_length, List.flatMap_append, List.flatMap_cons, List.flatMap_nil, List.append_nil]
theorem prodP_length {xs ys : List α} {i k : Nat} (hi : i < xs.length) (hk : k ≤ ys.length) : (prodP f xs ys i k).length = i * ys.length + k := by
  rw [prodP, List.getElem?_eq_getElem hi]
  simp [List.length_flatMap, List.map_const', List.sum_replicate_nat, Nat.min_eq_left (Nat.le_of_lt hi), Nat.min_eq_left hk]
end

/-- All rows. -/
def allF (r c : Int) (l : List Fr) : List (List Fr) := (List.range r.toNat).map fun (i : Nat) => rowF r c l (i : Int)
def prodF (r m c : Int) (a b : List Fr) : List Fr := (allF r m a).flatMap fun x => (allF c m (turnF m c b)).map (dotF x)

theorem allF_length (r c : Int) (l : List Fr) : (allF r c l).length = r.toNat := by simp [allF]
theorem rowsF_all {r c : Int} {l : List Fr} (h : right r c l.length = true) {i : Nat} {x : List PV} (hx : (rowsF r c l)[i]? = some x) : i < r.toNat ∧ x = [num i, .sl false (frs (rowF r c l i))] ∧ (allF r c l)[i]? = some (rowF r c l i) := by
  obtain ⟨hi, rfl⟩ := List.getElem?_eq_some_iff.1 hx
  have hi' : i < r.toNat := by simpa [rowsF, h] using hi
  refine ⟨hi', by simp [rowsF, h], by simp [allF, hi']⟩
theorem rowsF_length {r c : Int} {l : List Fr} (h : right r c l.length = true) : (rowsF r c l).length = r.toNat := by simp [rowsF, h]
theorem rowF_length {r c : Int} {l : List Fr} (i : Int) : (rowF r c l i).length ≤ l.length := by
  unfold rowF
  split <;> simp <;> omega

end Go.Proofs.Ytambpjbpdackfaa.A


set_option linter.unusedVariables false
set_option linter.unusedSimpArgs false
set_option maxRecDepth 100000
namespace Go.Proofs.Ytambpjbpdackfaa.A
open Go Go.RowKit Go.Shelf

/-- A contract for what is known better. -/
theorem Ok.args {P : Program} {f : FuncId} {xs ys : List PV} {r : PV} (k : Ok P f xs r) (h : ∀ I vs, Cs I ys vs → Cs I xs vs) : Ok P f ys r :=
  ⟨k.1, fun I w vs hg hc => k.2 I w vs hg (h I vs hc)⟩
theorem Cs.nil_of {I : Imm} {xs ys : List PV} {vs : List Value} {ex : Bool} (h : Cs I (.s (.slice none 0 0) :: xs) vs) (k : ∀ us, Cs I xs us → Cs I ys us) : Cs I (.sl ex [] :: ys) vs := by
  cases h with | cons h1 h2 => cases h1; exact .cons .sl0 (k _ h2)

end Go.Proofs.Ytambpjbpdackfaa.A


set_option linter.unusedVariables false
set_option linter.unusedSimpArgs false
set_option maxRecDepth 100000
namespace Go.Proofs.Ytambpjbpdackfaa.A
open Go Go.RowKit Go.Shelf

section
variable {α : Type} (g : Nat → Nat → α) (n : Nat)
/-- A table gone through row by row: what stands so far. -/
def gridP (i k : Nat) : List α := (List.range i).flatMap (fun i => (List.range n).map (g i)) ++ (List.range k).map (g i)
theorem gridP_succ (i k : Nat) : gridP g n i (k + 1) = gridP g n i k ++ [g i k] := by simp [gridP, List.range_succ]
theorem gridP_next (i : Nat) : gridP g n i n = gridP g n (i + 1) 0 := by simp [gridP, List.range_succ]
theorem gridP_length (i k : Nat) : (gridP g n i k).length = i * n + k := by simp [gridP, List.length_flatMap, List.map_const', List.sum_replicate_nat]
theorem gridP_zero (i : Nat) : gridP g n i 0 = (List.range i).flatMap (fun i => (List.range n).map (g i)) := by simp [gridP]
end

/-- The document's sum of products. -/
def dotI (a b : List Int) (many cols i k : Nat) : Nat → Int
  | 0 => 0
  | j + 1 => dotI a b many cols i k j + a.getD (i * many + j) 0 * b.getD (j * cols + k) 0
def small (a : List Int) : Prop := ∀ x ∈ a, -100 ≤ x ∧ x ≤ 100
/-- The document's product. -/
def mulI (a b : List Int) (rows many cols : Nat) : List Int := gridP (fun i k => dotI a b many cols i k many) cols rows 0

theorem fits_num {k l : List Int} (h : k.length + l.length ≤ 5864062014805) : fits 1 8 (k.map num) (l.map num) = true := by
  simp [fits, PV.cells, PV.ok, PV.cell, Value.oneCell']
  omega
theorem at_num {a : List Int} {i : Nat} (h : i < a.length) : (a.map num)[i]? = some (num (a.getD i 0)) := by
  simp [h]
theorem at_table {i j n m : Nat} (hi : i < n) (hj : j < m) : i * m + j < n * m ∧ i * m ≤ n * m := by
  have : (i + 1) * m ≤ n * m := Nat.mul_le_mul_right _ (by omega)
  rw [Nat.add_mul] at this
  omega
end Go.Proofs.Ytambpjbpdackfaa.A


set_option linter.unusedVariables false
set_option linter.unusedSimpArgs false
namespace Go.Proofs.Ytambpjbpdackfaa.A
open Go Go.RowKit Go.Shelf

theorem gridP_get {α : Type} (g : Nat → Nat → α) (n : Nat) : ∀ (N i j : Nat), i < N → j < n → (gridP g n N 0)[i * n + j]? = some (g i j)
  | 0, i, j, h, _ => by omega
  | N + 1, i, j, hi, hj => by
    have e : gridP g n (N + 1) 0 = gridP g n N 0 ++ (List.range n).map (g N) := by
      rw [← gridP_next]
      simp [gridP]
    have hl := gridP_length g n N 0
    rw [e]
    by_cases h : i < N
    · have : (i + 1) * n ≤ N * n := Nat.mul_le_mul_right _ h
      rw [Nat.add_mul] at this
      rw [List.getElem?_append_left (by omega)]
      exact gridP_get g n N i j h hj
    · have : i = N := by omega
      subst this
      rw [List.getElem?_append_right (by omega), hl]
      simp [hj]

theorem flatMap_same {α β : Type} {l : List α} {f g : α → List β} (h : ∀ x ∈ l, f x = g x) : l.flatMap f = l.flatMap g := by
  rw [List.flatMap_def, List.flatMap_def, List.map_congr_left h]

end Go.Proofs.Ytambpjbpdackfaa.A


set_option linter.unusedVariables false
set_option linter.unusedSimpArgs false
set_option maxRecDepth 100000
namespace Go.Proofs.Ytambpjbpdackfaa.A
open Go Go.RowKit Go.Shelf

theorem Cs.keep {I : Imm} {x : PV} {xs ys : List PV} {vs : List Value} (h : Cs I (x :: xs) vs) (k : ∀ us, Cs I xs us → Cs I ys us) : Cs I (x :: ys) vs := by
  cases h with | cons h1 h2 => exact .cons h1 (k _ h2)
end Go.Proofs.Ytambpjbpdackfaa.A



set_option linter.unusedVariables false
set_option linter.unusedSimpArgs false
set_option maxRecDepth 100000
namespace Go.Proofs.Ytambpjbpdackfaa.A
open Go Go.RowKit Go.Shelf

/-! ### Numbers in units -/
def rightX (n : Int) : Bool := decide (-1125899906842624 ≤ n ∧ n ≤ 1125899906842624)
theorem ok10 (n : Int) : Ok Try.prog 10 [num n] (tru (rightX n)) := by
  refine ok_fn mixed Try.func10 (code := ?_) (h := h10) ?_ k10 ?_
  rotate_left
  · exact rfl
  unfold h10 initS
  simp -implicitDefEqProofs (maxSteps := 10000000) only [rkA, rkB, stepA, valA, simprocAttr, Try.ntmps10, Try.results10]
  by_cases h : n ≥ -1125899906842624
  · simp -implicitDefEqProofs (maxSteps := 10000000) only [h, rightX, rkA, rkB, stepA, valA, simprocAttr]
  · simp -implicitDefEqProofs (maxSteps := 10000000) only [h, rightX, rkA, rkB, stepA, valA, simprocAttr]
def toldF (n : Int) (is : Bool) (l : List Int) : Int × Bool := if is = true ∧ (l ++ [n]).all rightX = true then (n, true) else (0, false)
theorem ok102 (n : Int) (is : Bool) (l : List Int) (hl : l.length ≤ 2) : Ok Try.prog 102 [num n, tru is, .sl true (l.map num)] (.tup [num (toldF n is l).1, tru (toldF n is l).2]) := by
  have hfit : fits 1 8 (l.map num) [num n] = true := fits_num (l := [n]) (by simp; omega)
  refine ok_fn mixed Try.func102 (code := ?_) (h := h102) ?_ k102 ?_
  rotate_left
  · exact rfl
  unfold h102 initS
  simp -implicitDefEqProofs (maxSteps := 10000000) only [rkA, rkB, stepA, valA, simprocAttr, Try.ntmps102, Try.results102]
  simp -implicitDefEqProofs (maxSteps := 10000000) only [hfit, rkA, rkB, stepA, valA, simprocAttr]
  have e : l.map num ++ [num n] = (l ++ [n]).map num := by simp
  simp only [e]
  have hres : toldF n is l = if is = true ∧ (l ++ [n]).all rightX = true then (n, true) else (0, false) := rfl
  have hlen : (l ++ [n]).length ≤ 3 := by simp; omega
  have hne : 0 < (l ++ [n]).length := by simp
  generalize toldF n is l = R at *
  generalize l ++ [n] = L at *
  have hL : (L.map num).length = L.length := by simp
  refine wp_loop (fun m s => ∃ i : Nat, i + m = L.length ∧ (0 < i → is = true) ∧ (L.take i).all rightX = true ∧ s = ⟨[nt n, .v (tru is), jk, jk, jk, jk, jk, jk, jk, jk, jk, jk, jk, .v (.sl false (L.map num)), nt L.length, nt i, jk, jk, jk, jk, jk, jk, jk, jk, jk, jk, jk, jk], [], [], [], [], 0, nomem⟩) L.length ?_ ?_
  · simp -implicitDefEqProofs (maxSteps := 10000000) only [hL, rkA, rkB, stepA, valA, simprocAttr]
    exact ⟨0, by simp, by simp, by simp, rfl⟩
  rintro m s ⟨i, hi, h1, h2, rfl⟩
  simp -implicitDefEqProofs (maxSteps := 10000000) only [rkA, rkB, stepA, valA, simprocAttr]
  refine gB_dec ?_ ?_ <;> intro hc <;> simp -implicitDefEqProofs (maxSteps := 10000000) only [hc, rkA, rkB, stepA, valA, simprocAttr]
  · have hlt : i < L.length := by omega
    have h0 : (0 : Int) ≤ (i : Int) := by omega
    have hg : (L.map num)[i]? = some (num L[i]) := by simp [hlt]
    have hno : rightX L[i] = false → L.all rightX = false := fun h => by
      rw [List.all_eq_false]
      exact ⟨L[i], List.getElem_mem hlt, by simp [h]⟩
    simp -implicitDefEqProofs (maxSteps := 10000000) only [h0, Int.toNat_natCast, hg, rkA, rkB, stepA, valA, simprocAttr]
    cases is with
    | false =>
      rw [hres, if_neg (by simp)]
      simp -implicitDefEqProofs (maxSteps := 10000000) only [rkA, rkB, stepA, valA, simprocAttr]
    | true =>
      simp -implicitDefEqProofs (maxSteps := 10000000) only [rkA, rkB, stepA, valA, simprocAttr]
      refine call_fn rfl rfl rfl (ok10 L[i]) ?_
      cases hr : rightX L[i] with
      | false =>
        rw [hres, if_neg (by rw [hno hr]; simp)]
        simp -implicitDefEqProofs (maxSteps := 10000000) only [rkA, rkB, stepA, valA, simprocAttr]
      | true =>
        have hw := wrapped (x := (i : Int) + 1) (by omega) (by omega)
        simp -implicitDefEqProofs (maxSteps := 10000000) only [rkA, rkB, stepA, valA, simprocAttr]
        simp -implicitDefEqProofs (maxSteps := 10000000) only [hw, rkA, rkB, stepA, valA, simprocAttr]
        refine loopK_of (m' := m - 1) (by omega) ?_
        simp -implicitDefEqProofs (maxSteps := 10000000) only [rkA, rkB, stepA, valA, simprocAttr]
        refine ⟨i + 1, by omega, by simp, ?_, by simp only [Int.natCast_add, Int.natCast_one]⟩
        rw [List.take_succ_eq_append_getElem hlt, List.all_append, h2]
        simp [hr]
  · have hin : i = L.length := by omega
    subst hin
    rw [List.take_length] at h2
    rw [hres, if_pos ⟨h1 hne, h2⟩]
theorem ok102_nil (n : Int) (is : Bool) : Ok Try.prog 102 [num n, tru is, .s (.slice none 0 0)] (.tup [num (toldF n is []).1, tru (toldF n is []).2]) :=
  (ok102 n is [] (by simp)).args fun I vs h => Cs.keep h fun us h => Cs.keep h fun us h => Cs.nil_of h fun us h => h

def ofX (n : Int) : Int × Bool := toldF (mdF n 16777216 1 0).1 (mdF n 16777216 1 0).2 []
theorem ok101 (n : Int) : Ok Try.prog 101 [num n] (.tup [num (ofX n).1, tru (ofX n).2]) := by
  refine ok_fn mixed Try.func101 (code := ?_) (h := h101) ?_ k101 ?_
  rotate_left
  · exact rfl
  unfold h101 initS
  simp -implicitDefEqProofs (maxSteps := 10000000) only [rkA, rkB, stepA, valA, simprocAttr, Try.ntmps101, Try.results101]
  refine call_fn rfl rfl rfl (ok21 n 16777216 1 0) ?_
  simp -implicitDefEqProofs (maxSteps := 10000000) only [rkA, rkB, stepA, valA, simprocAttr]
  refine call_fn rfl rfl rfl (ok102_nil _ _) ?_
  simp -implicitDefEqProofs (maxSteps := 10000000) only [rkA, rkB, stepA, valA, simprocAttr, ofX]
def addX (a b : Int) : Int × Bool := if rightX a = true ∧ rightX b = true then toldF (a + b) true [] else (0, false)
theorem ok97 (a b : Int) : Ok Try.prog 97 [num a, num b] (.tup [num (addX a b).1, tru (addX a b).2]) := by
  refine ok_fn mixed Try.func97 (code := ?_) (h := h97) ?_ k97 ?_
  rotate_left
  · exact rfl
  unfold h97 initS
  simp -implicitDefEqProofs (maxSteps := 10000000) only [rkA, rkB, stepA, valA, simprocAttr, Try.ntmps97, Try.results97]
  refine call_fn rfl rfl rfl (ok10 a) ?_
  cases ha : rightX a with
  | false =>
    rw [show addX a b = (0, false) from if_neg (by simp [ha])]
    simp -implicitDefEqProofs (maxSteps := 10000000) only [rkA, rkB, stepA, valA, simprocAttr]
  | true =>
    simp -implicitDefEqProofs (maxSteps := 10000000) only [rkA, rkB, stepA, valA, simprocAttr]
    refine call_fn rfl rfl rfl (ok10 b) ?_
    cases hb : rightX b with
    | false =>
      rw [show addX a b = (0, false) from if_neg (by simp [hb])]
      simp -implicitDefEqProofs (maxSteps := 10000000) only [rkA, rkB, stepA, valA, simprocAttr]
    | true =>
      rw [show addX a b = toldF (a + b) true [] from if_pos ⟨ha, hb⟩]
      simp only [rightX, decide_eq_true_eq] at ha hb
      have hw := wrapped (x := a + b) (by omega) (by omega)
      simp -implicitDefEqProofs (maxSteps := 10000000) only [rkA, rkB, stepA, valA, simprocAttr]
      simp -implicitDefEqProofs (maxSteps := 10000000) only [hw, rkA, rkB, stepA, valA, simprocAttr]
      refine call_fn rfl rfl rfl (ok102_nil (a + b) true) ?_
      simp -implicitDefEqProofs (maxSteps := 10000000) only [rkA, rkB, stepA, valA, simprocAttr]
def mulX (a b mode : Int) : Int × Bool := toldF (mdF a b 16777216 mode).1 (mdF a b 16777216 mode).2 [a, b]
theorem ok99 (a b mode : Int) : Ok Try.prog 99 [num a, num b, num mode] (.tup [num (mulX a b mode).1, tru (mulX a b mode).2]) := by
  refine ok_fn mixed Try.func99 (code := ?_) (h := h99) ?_ k99 ?_
  rotate_left
  · exact rfl
  unfold h99 initS
  simp -implicitDefEqProofs (maxSteps := 10000000) only [rkA, rkB, stepA, valA, simprocAttr, Try.ntmps99, Try.results99]
  refine call_fn rfl rfl rfl (ok21 a b 16777216 mode) ?_
  simp -implicitDefEqProofs (maxSteps := 10000000) only [rkA, rkB, stepA, valA, simprocAttr]
  refine call_fn rfl rfl rfl (ok102 _ _ [a, b] (by simp)) ?_
  simp -implicitDefEqProofs (maxSteps := 10000000) only [rkA, rkB, stepA, valA, simprocAttr, mulX]
end Go.Proofs.Ytambpjbpdackfaa.A



set_option linter.unusedVariables false
set_option linter.unusedSimpArgs false
set_option maxRecDepth 100000
namespace Go.Proofs.Ytambpjbpdackfaa.A.E
open Go Go.RowKit Go.Shelf

/-! ### Enclosed numbers -/
structure Fr where
  v : Int
  lo : Int
  hi : Int
  bad : Bool
  deriving DecidableEq
abbrev frV (x : Fr) : PV := .agg [num x.v, num x.lo, num x.hi, tru x.bad]
abbrev Fr.wrong : Fr := ⟨0, 0, 0, true⟩
def Fr.fine (x : Fr) : Bool := !x.bad && (rightX x.lo && (rightX x.hi && (decide (x.lo ≤ x.v) && decide (x.v ≤ x.hi))))
theorem ok19 (x : Fr) : Ok Try.prog 19 [frV x] (tru x.fine) := by
  refine ok_fn mixed Try.func19 (code := ?_) (h := h19) ?_ k19 ?_
  rotate_left
  · exact rfl
  unfold h19 initS
  simp -implicitDefEqProofs (maxSteps := 10000000) only [rkA, rkB, stepA, valA, simprocAttr, Try.ntmps19, Try.results19]
  cases hb : x.bad with
  | true => simp -implicitDefEqProofs (maxSteps := 10000000) only [Fr.fine, hb, rkA, rkB, stepA, valA, simprocAttr]
  | false =>
    simp -implicitDefEqProofs (maxSteps := 10000000) only [rkA, rkB, stepA, valA, simprocAttr]
    refine call_fn rfl rfl rfl (ok10 x.lo) ?_
    cases h1 : rightX x.lo with
    | false => simp -implicitDefEqProofs (maxSteps := 10000000) only [Fr.fine, hb, h1, rkA, rkB, stepA, valA, simprocAttr]
    | true =>
      simp -implicitDefEqProofs (maxSteps := 10000000) only [rkA, rkB, stepA, valA, simprocAttr]
      refine call_fn rfl rfl rfl (ok10 x.hi) ?_
      cases h2 : rightX x.hi with
      | false => simp -implicitDefEqProofs (maxSteps := 10000000) only [Fr.fine, hb, h1, h2, rkA, rkB, stepA, valA, simprocAttr]
      | true =>
        simp -implicitDefEqProofs (maxSteps := 10000000) only [rkA, rkB, stepA, valA, simprocAttr]
        by_cases h3 : x.lo ≤ x.v
        · simp -implicitDefEqProofs (maxSteps := 10000000) only [Fr.fine, hb, h1, h2, h3, rkA, rkB, stepA, valA, simprocAttr]
        · simp -implicitDefEqProofs (maxSteps := 10000000) only [Fr.fine, hb, h1, h2, h3, rkA, rkB, stepA, valA, simprocAttr]
theorem ok11 : Ok Try.prog 11 [] (frV .wrong) := by
  refine ok_fn mixed Try.func11 (code := ?_) (h := h11) ?_ k11 ?_
  rotate_left
  · exact rfl
  unfold h11 initS
  simp -implicitDefEqProofs (maxSteps := 10000000) only [rkA, rkB, stepA, valA, simprocAttr, Try.ntmps11, Try.results11]
def point (n : Int) : Fr := if rightX n = true then ⟨n, n, n, false⟩ else .wrong
theorem ok4 (n : Int) : Ok Try.prog 4 [num n] (frV (point n)) := by
  refine ok_fn mixed Try.func4 (code := ?_) (h := h4) ?_ k4 ?_
  rotate_left
  · exact rfl
  unfold h4 initS
  simp -implicitDefEqProofs (maxSteps := 10000000) only [rkA, rkB, stepA, valA, simprocAttr, Try.ntmps4, Try.results4]
  refine call_fn rfl rfl rfl (ok10 n) ?_
  cases h : rightX n with
  | false =>
    simp -implicitDefEqProofs (maxSteps := 10000000) only [rkA, rkB, stepA, valA, simprocAttr]
    refine call_fn rfl rfl rfl (ok11) ?_
    simp -implicitDefEqProofs (maxSteps := 10000000) only [point, h, rkA, rkB, stepA, valA, simprocAttr]
  | true => simp -implicitDefEqProofs (maxSteps := 10000000) only [point, h, rkA, rkB, stepA, valA, simprocAttr]
/-- A whole number. -/
def newF (n _d : Int) : Fr := if (ofX n).2 = true then point (ofX n).1 else .wrong
theorem ok95 (a : Fr) (n : Int) : Ok Try.prog 95 [frV a, num n] (frV (newF n 1)) := by
  refine ok_fn mixed Try.func95 (code := ?_) (h := h95) ?_ k95 ?_
  rotate_left
  · exact rfl
  unfold h95 initS
  simp -implicitDefEqProofs (maxSteps := 10000000) only [rkA, rkB, stepA, valA, simprocAttr, Try.ntmps95, Try.results95]
  refine call_fn rfl rfl rfl (ok101 n) ?_
  simp -implicitDefEqProofs (maxSteps := 10000000) only [rkA, rkB, stepA, valA, simprocAttr]
  cases h : (ofX n).2 with
  | false =>
    simp -implicitDefEqProofs (maxSteps := 10000000) only [rkA, rkB, stepA, valA, simprocAttr]
    refine call_fn rfl rfl rfl (ok11) ?_
    simp -implicitDefEqProofs (maxSteps := 10000000) only [newF, h, rkA, rkB, stepA, valA, simprocAttr]
  | true =>
    simp -implicitDefEqProofs (maxSteps := 10000000) only [rkA, rkB, stepA, valA, simprocAttr]
    refine call_fn rfl rfl rfl (ok4 (ofX n).1) ?_
    simp -implicitDefEqProofs (maxSteps := 10000000) only [newF, h, rkA, rkB, stepA, valA, simprocAttr]

def minL : List Int → Int
  | [] => 0
  | x :: l => l.foldl (fun m y => if y < m then y else m) x
def maxL : List Int → Int
  | [] => 0
  | x :: l => l.foldl (fun m y => if m < y then y else m) x
theorem ok103 (ex : Bool) (l : List Int) (h : l ≠ []) (hl : l.length ≤ 1000) : Ok Try.prog 103 [.sl ex (l.map num)] (num (minL l)) := by
  obtain ⟨x, l, rfl⟩ : ∃ x t, l = x :: t := by cases l with | nil => exact absurd rfl h | cons x t => exact ⟨x, t, rfl⟩
  simp only [List.length_cons] at hl
  have c : ¬ (((l.length + 1 : Nat) : Int) < 1) := by omega
  have hlen : ((x :: l).map num).length = l.length + 1 := by simp
  have g0 : ((x :: l).map num)[0]? = some (num x) := rfl
  have hres : minL (x :: l) = l.foldl (fun m y => if y < m then y else m) x := rfl
  generalize hL : (x :: l).map num = L at *
  refine ok_fn mixed Try.func103 (code := ?_) (h := h103) ?_ k103 ?_
  rotate_left
  · exact rfl
  unfold h103 initS
  simp -implicitDefEqProofs (maxSteps := 10000000) only [rkA, rkB, stepA, valA, simprocAttr, Try.ntmps103, Try.results103]
  simp -implicitDefEqProofs (maxSteps := 10000000) only [hlen, c, g0, rkA, rkB, stepA, valA, simprocAttr]
  refine wp_loop (fun m s => ∃ i : Nat, i + m = l.length ∧ s = ⟨[.v (.sl ex L), jk, jk, nt ((l.take i).foldl (fun m y => if y < m then y else m) x), nt ((i + 1 : Nat) : Int), jk, jk, jk, jk, jk, jk, jk, jk, jk, jk, jk, jk, jk, jk, jk, jk, jk, jk, jk, jk], [], [], [], [], 0, nomem⟩) l.length ?_ ?_
  · simp -implicitDefEqProofs (maxSteps := 10000000) only [rkA, rkB, stepA, valA, simprocAttr]
    exact ⟨0, by simp, rfl⟩
  rintro m s ⟨i, hi, rfl⟩
  simp -implicitDefEqProofs (maxSteps := 10000000) only [hlen, rkA, rkB, stepA, valA, simprocAttr]
  refine gB_dec ?_ ?_ <;> intro hc <;> simp -implicitDefEqProofs (maxSteps := 10000000) only [hc, rkA, rkB, stepA, valA, simprocAttr]
  · have hlt : i < l.length := by omega
    have h0 : (0 : Int) ≤ ((i + 1 : Nat) : Int) := by omega
    have hg : L[i + 1]? = some (num l[i]) := by rw [← hL]; simp [hlt]
    have hw := wrapped (x := ((i + 1 : Nat) : Int) + 1) (by omega) (by omega)
    simp -implicitDefEqProofs (maxSteps := 10000000) only [h0, Int.toNat_natCast, hg, rkA, rkB, stepA, valA, simprocAttr]
    simp -implicitDefEqProofs (maxSteps := 10000000) only [hw, rkA, rkB, stepA, valA, simprocAttr]
    refine loopK_of (m' := m - 1) (by omega) ?_
    simp -implicitDefEqProofs (maxSteps := 10000000) only [rkA, rkB, stepA, valA, simprocAttr]
    refine ⟨i + 1, by omega, ?_⟩
    rw [List.take_succ_eq_append_getElem hlt, List.foldl_append]
    simp only [List.foldl_cons, List.foldl_nil, Int.natCast_add, Int.natCast_one]
  · have hin : l.length ≤ i := by omega
    rw [List.take_of_length_le hin, hres]
theorem ok104 (ex : Bool) (l : List Int) (h : l ≠ []) (hl : l.length ≤ 1000) : Ok Try.prog 104 [.sl ex (l.map num)] (num (maxL l)) := by
  obtain ⟨x, l, rfl⟩ : ∃ x t, l = x :: t := by cases l with | nil => exact absurd rfl h | cons x t => exact ⟨x, t, rfl⟩
  simp only [List.length_cons] at hl
  have c : ¬ (((l.length + 1 : Nat) : Int) < 1) := by omega
  have hlen : ((x :: l).map num).length = l.length + 1 := by simp
  have g0 : ((x :: l).map num)[0]? = some (num x) := rfl
  have hres : maxL (x :: l) = l.foldl (fun m y => if m < y then y else m) x := rfl
  generalize hL : (x :: l).map num = L at *
  refine ok_fn mixed Try.func104 (code := ?_) (h := h104) ?_ k104 ?_
  rotate_left
  · exact rfl
  unfold h104 initS
  simp -implicitDefEqProofs (maxSteps := 10000000) only [rkA, rkB, stepA, valA, simprocAttr, Try.ntmps104, Try.results104]
  simp -implicitDefEqProofs (maxSteps := 10000000) only [hlen, c, g0, rkA, rkB, stepA, valA, simprocAttr]
  refine wp_loop (fun m s => ∃ i : Nat, i + m = l.length ∧ s = ⟨[.v (.sl ex L), jk, jk, nt ((l.take i).foldl (fun m y => if m < y then y else m) x), nt ((i + 1 : Nat) : Int), jk, jk, jk, jk, jk, jk, jk, jk, jk, jk, jk, jk, jk, jk, jk, jk, jk, jk, jk, jk], [], [], [], [], 0, nomem⟩) l.length ?_ ?_
  · simp -implicitDefEqProofs (maxSteps := 10000000) only [rkA, rkB, stepA, valA, simprocAttr]
    exact ⟨0, by simp, rfl⟩
  rintro m s ⟨i, hi, rfl⟩
  simp -implicitDefEqProofs (maxSteps := 10000000) only [hlen, rkA, rkB, stepA, valA, simprocAttr]
  refine gB_dec ?_ ?_ <;> intro hc <;> simp -implicitDefEqProofs (maxSteps := 10000000) only [hc, rkA, rkB, stepA, valA, simprocAttr]
  · have hlt : i < l.length := by omega
    have h0 : (0 : Int) ≤ ((i + 1 : Nat) : Int) := by omega
    have hg : L[i + 1]? = some (num l[i]) := by rw [← hL]; simp [hlt]
    have hw := wrapped (x := ((i + 1 : Nat) : Int) + 1) (by omega) (by omega)
    simp -implicitDefEqProofs (maxSteps := 10000000) only [h0, Int.toNat_natCast, hg, rkA, rkB, stepA, valA, simprocAttr]
    simp -implicitDefEqProofs (maxSteps := 10000000) only [hw, rkA, rkB, stepA, valA, simprocAttr]
    refine loopK_of (m' := m - 1) (by omega) ?_
    simp -implicitDefEqProofs (maxSteps := 10000000) only [rkA, rkB, stepA, valA, simprocAttr]
    refine ⟨i + 1, by omega, ?_⟩
    rw [List.take_succ_eq_append_getElem hlt, List.foldl_append]
    simp only [List.foldl_cons, List.foldl_nil, Int.natCast_add, Int.natCast_one]
  · have hin : l.length ≤ i := by omega
    rw [List.take_of_length_le hin, hres]

/-! ### What is told of values, and of pairs of bounds -/
abbrev prV (p : Int × Int) : PV := .agg [num p.1, num p.2]
def okP (F : Int → Int → Int → Int × Bool) (p : Int × Int) : Bool := (F p.1 p.2 1).2 && (F p.1 p.2 2).2
def madeE (F : Int → Int → Int → Int × Bool) (a b : Fr) (ps : List (Int × Int)) : Fr :=
  if ((F a.v b.v 0).2 && ps.all (okP F)) = true ∧ a.fine = true ∧ b.fine = true then ⟨(F a.v b.v 0).1, minL (ps.map fun p => (F p.1 p.2 1).1), maxL (ps.map fun p => (F p.1 p.2 2).1), false⟩ else .wrong
theorem ok98 (k : Nat) (F : Int → Int → Int → Int × Bool) (hF : ∀ x y m, Ok Try.prog k [num x, num y, num m] (.tup [num (F x y m).1, tru (F x y m).2])) (a b : Fr) (ex : Bool) (ps : List (Int × Int)) (h1 : ps ≠ []) (h2 : ps.length ≤ 4) :
    Ok Try.prog 98 [frV a, frV b, .fn (.func k) [], .sl ex (ps.map prV)] (frV (madeE F a b ps)) := by
  have hl : (ps.map prV).length = ps.length := by simp
  refine ok_fn mixed Try.func98 (code := ?_) (h := h98) ?_ k98 ?_
  rotate_left
  · exact rfl
  unfold h98 initS
  simp -implicitDefEqProofs (maxSteps := 10000000) only [rkA, rkB, stepA, valA, simprocAttr, Try.ntmps98, Try.results98]
  refine call_fn rfl rfl rfl (hF a.v b.v 0) ?_
  simp -implicitDefEqProofs (maxSteps := 10000000) only [rkA, rkB, stepA, valA, simprocAttr]
  refine wp_loop (fun m s => ∃ i : Nat, i + m = ps.length ∧ s = ⟨[jk, jk, .v (.fn (.func k) []), jk, .ptr 4 0, .ptr 5 0, jk, jk, .ptr 8 0, nt (F a.v b.v 0).1, .v (tru ((F a.v b.v 0).2 && (ps.take i).all (okP F))), .acc 11 ((ps.take i).map fun p => num (F p.1 p.2 1).1), .acc 12 ((ps.take i).map fun p => num (F p.1 p.2 2).1), jk, jk, jk, jk, jk, jk, jk, jk, jk, jk, jk, jk, jk, jk, jk, .v (.sl ex (ps.map prV)), nt ps.length, nt i, jk, jk, jk, jk, jk, jk, jk, jk, jk, jk, jk, jk, jk, jk, jk, jk, jk, jk, jk, jk, jk, jk, jk, jk, jk, jk, jk, jk, jk, jk, jk, jk, jk, jk, jk, jk, jk, jk, jk, jk, jk, jk, jk, jk, jk, jk, jk, jk, jk, jk, jk, jk, jk, jk, jk, jk],
    [(4, [nt a.v, nt a.lo, nt a.hi, .v (tru a.bad)]), (5, [nt b.v, nt b.lo, nt b.hi, .v (tru b.bad)]), (8, [nt 0, nt 0, nt 0, .v (tru false)])], [], [(11, i), (12, i)], [], 0, nomem⟩) ps.length ?_ ?_
  · simp -implicitDefEqProofs (maxSteps := 10000000) only [hl, rkA, rkB, stepA, valA, simprocAttr]
    refine ⟨0, by simp, ?_⟩
    simp
  rintro m s ⟨i, hi, rfl⟩
  simp -implicitDefEqProofs (maxSteps := 10000000) only [rkA, rkB, stepA, valA, simprocAttr]
  refine gB_dec ?_ ?_ <;> intro hc <;> simp -implicitDefEqProofs (maxSteps := 10000000) only [hc, rkA, rkB, stepA, valA, simprocAttr]
  · have hlt : i < ps.length := by omega
    have h0 : (0 : Int) ≤ (i : Int) := by omega
    have hg : (ps.map prV)[i]? = some (prV ps[i]) := by simp [hlt]
    simp -implicitDefEqProofs (maxSteps := 10000000) only [h0, Int.toNat_natCast, hg, rkA, rkB, stepA, valA, simprocAttr]
    refine call_fn rfl rfl rfl (hF ps[i].1 ps[i].2 1) ?_
    simp -implicitDefEqProofs (maxSteps := 10000000) only [rkA, rkB, stepA, valA, simprocAttr]
    refine call_fn rfl rfl rfl (hF ps[i].1 ps[i].2 2) ?_
    simp -implicitDefEqProofs (maxSteps := 10000000) only [rkA, rkB, stepA, valA, simprocAttr]
    have f1 : fits 1 8 ((ps.take i).map fun p => num (F p.1 p.2 1).1) [num (F ps[i].1 ps[i].2 1).1] = true := by
      have := fits_num (k := (ps.take i).map fun p => (F p.1 p.2 1).1) (l := [(F ps[i].1 ps[i].2 1).1]) (by simp; omega)
      simpa [Function.comp_def] using this
    have f2 : fits 1 8 ((ps.take i).map fun p => num (F p.1 p.2 2).1) [num (F ps[i].1 ps[i].2 2).1] = true := by
      have := fits_num (k := (ps.take i).map fun p => (F p.1 p.2 2).1) (l := [(F ps[i].1 ps[i].2 2).1]) (by simp; omega)
      simpa [Function.comp_def] using this
    have l1 : ((ps.take i).map fun p => num (F p.1 p.2 1).1).length = i := by simp; omega
    have l2 : ((ps.take i).map fun p => num (F p.1 p.2 2).1).length = i := by simp; omega
    have hw := wrapped (x := (i : Int) + 1) (by omega) (by omega)
    have hall : (ps.take (i + 1)).all (okP F) = ((ps.take i).all (okP F) && ((F ps[i].1 ps[i].2 1).2 && (F ps[i].1 ps[i].2 2).2)) := by
      rw [List.take_succ_eq_append_getElem hlt, List.all_append]
      simp [okP]
    have hnew : ((F a.v b.v 0).2 && (ps.take (i + 1)).all (okP F)) = (((F a.v b.v 0).2 && (ps.take i).all (okP F)) && ((F ps[i].1 ps[i].2 1).2 && (F ps[i].1 ps[i].2 2).2)) := by rw [hall, Bool.and_assoc]
    clear hall
    generalize ((F a.v b.v 0).2 && (ps.take i).all (okP F)) = b0 at *
    have htk := List.take_succ_eq_append_getElem hlt
    generalize (F ps[i].1 ps[i].2 1).2 = b1 at *
    generalize (F ps[i].1 ps[i].2 2).2 = b2 at *
    cases b0 with
    | false =>
      simp -implicitDefEqProofs (maxSteps := 10000000) only [f1, f2, l1, l2, rkA, rkB, stepA, valA, simprocAttr]
      simp -implicitDefEqProofs (maxSteps := 10000000) only [hw, rkA, rkB, stepA, valA, simprocAttr]
      refine loopK_of (m' := m - 1) (by omega) ?_
      simp -implicitDefEqProofs (maxSteps := 10000000) only [rkA, rkB, stepA, valA, simprocAttr]
      refine ⟨i + 1, by omega, ?_⟩
      rw [hnew, htk]
      simp only [Bool.false_and, Bool.true_and, List.map_append, List.map_cons, List.map_nil, Int.natCast_add, Int.natCast_one]
    | true =>
      cases b1 with
      | false =>
        simp -implicitDefEqProofs (maxSteps := 10000000) only [f1, f2, l1, l2, rkA, rkB, stepA, valA, simprocAttr]
        simp -implicitDefEqProofs (maxSteps := 10000000) only [hw, rkA, rkB, stepA, valA, simprocAttr]
        refine loopK_of (m' := m - 1) (by omega) ?_
        simp -implicitDefEqProofs (maxSteps := 10000000) only [rkA, rkB, stepA, valA, simprocAttr]
        refine ⟨i + 1, by omega, ?_⟩
        rw [hnew, htk]
        simp only [Bool.false_and, Bool.true_and, List.map_append, List.map_cons, List.map_nil, Int.natCast_add, Int.natCast_one]
      | true =>
        simp -implicitDefEqProofs (maxSteps := 10000000) only [f1, f2, l1, l2, rkA, rkB, stepA, valA, simprocAttr]
        simp -implicitDefEqProofs (maxSteps := 10000000) only [hw, rkA, rkB, stepA, valA, simprocAttr]
        refine loopK_of (m' := m - 1) (by omega) ?_
        simp -implicitDefEqProofs (maxSteps := 10000000) only [rkA, rkB, stepA, valA, simprocAttr]
        refine ⟨i + 1, by omega, ?_⟩
        rw [hnew, htk]
        simp only [Bool.false_and, Bool.true_and, List.map_append, List.map_cons, List.map_nil, Int.natCast_add, Int.natCast_one]
  · have hin : i = ps.length := by omega
    subst hin
    simp only [List.take_length]
    have m1 : (ps.map fun p => num (F p.1 p.2 1).1) = (ps.map fun p => (F p.1 p.2 1).1).map num := by simp
    have m2 : (ps.map fun p => num (F p.1 p.2 2).1) = (ps.map fun p => (F p.1 p.2 2).1).map num := by simp
    have n1 : (ps.map fun p => (F p.1 p.2 1).1) ≠ [] := by simpa using h1
    have n2 : (ps.map fun p => (F p.1 p.2 2).1) ≠ [] := by simpa using h1
    have k1 : (ps.map fun p => (F p.1 p.2 1).1).length ≤ 1000 := by simp; omega
    have k2 : (ps.map fun p => (F p.1 p.2 2).1).length ≤ 1000 := by simp; omega
    rw [m1, m2]
    have hres : madeE F a b ps = if ((F a.v b.v 0).2 && ps.all (okP F)) = true ∧ a.fine = true ∧ b.fine = true then ⟨(F a.v b.v 0).1, minL (ps.map fun p => (F p.1 p.2 1).1), maxL (ps.map fun p => (F p.1 p.2 2).1), false⟩ else .wrong := rfl
    generalize ((F a.v b.v 0).2 && ps.all (okP F)) = b0 at *
    cases b0 with
    | false =>
      rw [hres, if_neg (by simp)]
      simp -implicitDefEqProofs (maxSteps := 10000000) only [rkA, rkB, stepA, valA, simprocAttr]
      refine call_fn rfl rfl rfl (ok11) ?_
      simp -implicitDefEqProofs (maxSteps := 10000000) only [rkA, rkB, stepA, valA, simprocAttr]
    | true =>
      simp -implicitDefEqProofs (maxSteps := 10000000) only [rkA, rkB, stepA, valA, simprocAttr]
      refine call_fn rfl rfl rfl (ok19 a) ?_
      cases ha : a.fine with
      | false =>
        rw [hres, if_neg (by simp [ha])]
        simp -implicitDefEqProofs (maxSteps := 10000000) only [rkA, rkB, stepA, valA, simprocAttr]
        refine call_fn rfl rfl rfl (ok11) ?_
        simp -implicitDefEqProofs (maxSteps := 10000000) only [rkA, rkB, stepA, valA, simprocAttr]
      | true =>
        simp -implicitDefEqProofs (maxSteps := 10000000) only [rkA, rkB, stepA, valA, simprocAttr]
        refine call_fn rfl rfl rfl (ok19 b) ?_
        cases hb : b.fine with
        | false =>
          rw [hres, if_neg (by simp [hb])]
          simp -implicitDefEqProofs (maxSteps := 10000000) only [rkA, rkB, stepA, valA, simprocAttr]
          refine call_fn rfl rfl rfl (ok11) ?_
          simp -implicitDefEqProofs (maxSteps := 10000000) only [rkA, rkB, stepA, valA, simprocAttr]
        | true =>
          rw [hres, if_pos ⟨rfl, ha, hb⟩]
          simp -implicitDefEqProofs (maxSteps := 10000000) only [rkA, rkB, stepA, valA, simprocAttr]
          refine call_fn rfl rfl rfl (ok103 _ _ n1 k1) ?_
          simp -implicitDefEqProofs (maxSteps := 10000000) only [rkA, rkB, stepA, valA, simprocAttr]
          refine call_fn rfl rfl rfl (ok104 _ _ n2 k2) ?_
          simp -implicitDefEqProofs (maxSteps := 10000000) only [rkA, rkB, stepA, valA, simprocAttr]

/-! ### Sums, products .. -/
def allP (a b : Fr) : List (Int × Int) := [(a.lo, b.lo), (a.lo, b.hi), (a.hi, b.lo), (a.hi, b.hi)]
def addF (a b : Fr) : Fr := madeE (fun x y _ => addX x y) a b [(a.lo, b.lo), (a.hi, b.hi)]
def mulF (a b : Fr) : Fr := madeE mulX a b (allP a b)
theorem ok100 (a b : Fr) : Ok Try.prog 100 [frV a, frV b] (.sl true ((allP a b).map prV)) := by
  refine ok_fn mixed Try.func100 (code := ?_) (h := h100) ?_ k100 ?_
  rotate_left
  · exact rfl
  unfold h100 initS
  simp -implicitDefEqProofs (maxSteps := 10000000) only [rkA, rkB, stepA, valA, simprocAttr, Try.ntmps100, Try.results100]
  rfl
theorem ok96 (x y m : Int) : Ok Try.prog 96 [num x, num y, num m] (.tup [num (addX x y).1, tru (addX x y).2]) := by
  refine ok_fn mixed Try.func96 (code := ?_) (h := h96) ?_ k96 ?_
  rotate_left
  · exact rfl
  unfold h96 initS
  simp -implicitDefEqProofs (maxSteps := 10000000) only [rkA, rkB, stepA, valA, simprocAttr, Try.ntmps96, Try.results96]
  refine call_fn rfl rfl rfl (ok97 x y) ?_
  simp -implicitDefEqProofs (maxSteps := 10000000) only [rkA, rkB, stepA, valA, simprocAttr]
theorem ok93 (a b : Fr) : Ok Try.prog 93 [frV a, frV b] (frV (addF a b)) := by
  have h := ok98 _ _ (fun x y m => ok96 x y m) a b true [(a.lo, b.lo), (a.hi, b.hi)] (by simp) (by simp)
  refine ok_fn mixed Try.func93 (code := ?_) (h := h93) ?_ k93 ?_
  rotate_left
  · exact rfl
  unfold h93 initS
  simp -implicitDefEqProofs (maxSteps := 10000000) only [rkA, rkB, stepA, valA, simprocAttr, Try.ntmps93, Try.results93]
  refine call_fn rfl rfl rfl (h) ?_
  simp -implicitDefEqProofs (maxSteps := 10000000) only [rkA, rkB, stepA, valA, simprocAttr, addF]
theorem ok94 (a b : Fr) : Ok Try.prog 94 [frV a, frV b] (frV (mulF a b)) := by
  have h := ok98 _ _ ok99 a b true (allP a b) (by simp [allP]) (by simp [allP])
  refine ok_fn mixed Try.func94 (code := ?_) (h := h94) ?_ k94 ?_
  rotate_left
  · exact rfl
  unfold h94 initS
  simp -implicitDefEqProofs (maxSteps := 10000000) only [rkA, rkB, stepA, valA, simprocAttr, Try.ntmps94, Try.results94]
  refine call_fn rfl rfl rfl (ok100 a b) ?_
  simp -implicitDefEqProofs (maxSteps := 10000000) only [rkA, rkB, stepA, valA, simprocAttr]
  refine call_fn rfl rfl rfl (h) ?_
  simp -implicitDefEqProofs (maxSteps := 10000000) only [rkA, rkB, stepA, valA, simprocAttr, mulF]
end Go.Proofs.Ytambpjbpdackfaa.A.E


set_option linter.unusedVariables false
set_option linter.unusedSimpArgs false
set_option maxRecDepth 100000
namespace Go.Proofs.Ytambpjbpdackfaa.A.E
open Go Go.RowKit Go.Shelf

theorem ok67 (n : Int) : Ok Try.prog 67 [num n] (tru (decide (1 ≤ n ∧ n ≤ 16))) := by
  refine ok_fn mixed Try.func67 (code := ?_) (h := h67) ?_ k67 ?_
  rotate_left
  · exact rfl
  unfold h67 initS
  simp -implicitDefEqProofs only [rkA, rkB, stepA, valA, simprocAttr, Try.ntmps67, Try.results67]
  repeat' (refine gB_dec ?_ ?_ <;> intro hc <;> first | (exfalso; omega) | simp -implicitDefEqProofs only [hc, rkA, rkB, stepA, valA, simprocAttr])

end Go.Proofs.Ytambpjbpdackfaa.A.E


set_option linter.unusedVariables false
set_option linter.unusedSimpArgs false
set_option maxRecDepth 100000
namespace Go.Proofs.Ytambpjbpdackfaa.A.E
open Go Go.RowKit Go.Shelf

abbrev frs (l : List Fr) : List PV := l.map frV

theorem fits_frs {k l : List Fr} (h : k.length + l.length ≤ 4398046511104) : fits 4 32 (frs k) (frs l) = true := by
  simp [fits, PV.cells, PV.ok, PV.cell, Value.oneCell']
  omega

theorem ok33 (ex : Bool) (l : List Fr) (h : l.length ≤ 4398046511104) : Ok Try.prog 33 [.sl ex (frs l)] (.sl false (frs l)) := by
  have hfit : fits 4 32 [] (frs l) = true := fits_frs (k := []) (l := l) (by simpa using h)
  refine ok_fn mixed Try.func33 (code := ?_) (h := h33) ?_ k33 ?_
  rotate_left
  · exact rfl
  unfold h33 initS
  simp -implicitDefEqProofs only [rkA, rkB, stepA, valA, simprocAttr, Try.ntmps33, Try.results33]
  refine nilA_sl (some 4) (.tmp 3) rfl ?_
  intro b hb
  cases b with
  | true =>
    simp -implicitDefEqProofs only [rkA, rkB, stepA, valA, simprocAttr]
    have : l = [] := by
      cases l with
      | nil => rfl
      | cons x l => simp at hb
    subst this
    simp
  | false =>
    simp -implicitDefEqProofs only [hfit, rkA, rkB, stepA, valA, simprocAttr]

theorem ok57 (ex : Bool) (r c : Int) (l : List PV) : Ok Try.prog 57 [matV ex r c l] (tru (right r c l.length)) := by
  refine ok_fn mixed Try.func57 (code := ?_) (h := h57) ?_ k57 ?_
  rotate_left
  · exact rfl
  unfold h57 initS
  simp -implicitDefEqProofs only [rkA, rkB, stepA, valA, simprocAttr, Try.ntmps57, Try.results57]
  refine call_fn rfl rfl rfl (ok67 r) ?_
  by_cases hr : 1 ≤ r ∧ r ≤ 16
  · simp -implicitDefEqProofs only [hr, rkA, rkB, stepA, valA, simprocAttr]
    refine call_fn rfl rfl rfl (ok67 c) ?_
    by_cases hc : 1 ≤ c ∧ c ≤ 16
    · have hm : 0 ≤ r * c ∧ r * c ≤ 256 := by
        have h1 : (r * c).natAbs = r.natAbs * c.natAbs := Int.natAbs_mul r c
        have h2 : r.natAbs * c.natAbs ≤ 16 * 16 := Nat.mul_le_mul (by omega) (by omega)
        have h3 : 0 ≤ r * c := Int.mul_nonneg (by omega) (by omega)
        omega
      have w := wrapped (x := r * c) (by omega) (by omega)
      simp -implicitDefEqProofs only [hc, w, rkA, rkB, stepA, valA, simprocAttr]
      simp [right, hr, hc]
    · simp -implicitDefEqProofs only [hc, rkA, rkB, stepA, valA, simprocAttr]
      simp [right, hr, hc]
  · simp -implicitDefEqProofs only [hr, rkA, rkB, stepA, valA, simprocAttr]
    simp [right, hr]

theorem ok31 (r c : Int) (ex : Bool) (l : List Fr) (h : l.length ≤ 4398046511104) :
    Ok Try.prog 31 [num r, num c, .sl ex (frs l)] (if right r c l.length = true then .tup [matV false r c (frs l), tru true] else .tup [matNil, tru false]) := by
  refine ok_fn mixed Try.func31 (code := ?_) (h := h31) ?_ k31 ?_
  rotate_left
  · exact rfl
  unfold h31 initS
  simp -implicitDefEqProofs only [rkA, rkB, stepA, valA, simprocAttr, Try.ntmps31, Try.results31]
  refine call_fn rfl rfl rfl (ok33 ex l h) ?_
  simp -implicitDefEqProofs only [rkA, rkB, stepA, valA, simprocAttr]
  refine call_fn rfl rfl rfl (ok57 false r c (frs l)) ?_
  have e : (frs l).length = l.length := by simp
  rw [e]
  cases hr : right r c l.length with
  | true => simp -implicitDefEqProofs only [rkA, rkB, stepA, valA, simprocAttr]
  | false => simp -implicitDefEqProofs only [rkA, rkB, stepA, valA, simprocAttr]

theorem methOf : Meth Try.prog 23 "Of" 95 := by
  intro v xs w
  rfl

/-- What stands in a row, or 0 fraction. -/
def atF (r c : Int) (l : List Fr) (i k : Int) : Fr := if right r c l.length = true ∧ 0 ≤ i ∧ i < r ∧ 0 ≤ k ∧ k < c then l.getD (i * c + k).toNat ⟨0, 0, 0, false⟩ else ⟨0, 0, 0, false⟩

theorem ok61 (ex : Bool) (r c i k : Int) (l : List Fr) : Ok Try.prog 61 [matV ex r c (frs l), num i, num k] (frV (atF r c l i k)) := by
  refine ok_fn mixed Try.func61 (code := ?_) (h := h61) ?_ k61 ?_
  rotate_left
  · exact rfl
  unfold h61 initS
  simp -implicitDefEqProofs only [rkA, rkB, stepA, valA, simprocAttr, Try.ntmps61, Try.results61]
  refine call_fn rfl rfl rfl (ok57 ex r c (frs l)) ?_
  have e : (frs l).length = l.length := by simp
  rw [e]
  cases hr : right r c l.length with
  | false =>
    simp -implicitDefEqProofs only [rkA, rkB, stepA, valA, simprocAttr]
    simp [atF, hr]
  | true =>
    obtain ⟨r1, r2, c1, c2, hn⟩ := right_spec hr
    simp -implicitDefEqProofs only [rkA, rkB, stepA, valA, simprocAttr]
    repeat' (refine gB_dec ?_ ?_ <;> intro hc <;> first | (exfalso; omega) | simp -implicitDefEqProofs only [hc, rkA, rkB, stepA, valA, simprocAttr])
    · rw [show atF r c l i k = ⟨0, 0, 0, false⟩ from if_neg (fun ⟨_, _, _, _, _⟩ => by omega)]
    · rw [show atF r c l i k = ⟨0, 0, 0, false⟩ from if_neg (fun ⟨_, _, _, _, _⟩ => by omega)]
    · rw [show atF r c l i k = ⟨0, 0, 0, false⟩ from if_neg (fun ⟨_, _, _, _, _⟩ => by omega)]
    · rw [show atF r c l i k = ⟨0, 0, 0, false⟩ from if_neg (fun ⟨_, _, _, _, _⟩ => by omega)]
    · obtain ⟨b1, b2, b3, b4, b5⟩ := at_bound (i := i) (k := k) r2 ⟨c1, c2⟩ (by omega) (by omega)
      have w1 := wrapped (x := i * c) (by omega) (by omega)
      have w2 := wrapped (x := i * c + k) (by omega) (by omega)
      have hlt : (i * c + k).toNat < l.length := by omega
      have hg : (frs l)[(i * c + k).toNat]? = some (frV l[(i * c + k).toNat]) := by simp [hlt]
      have ha : atF r c l i k = l[(i * c + k).toNat] := by
        unfold atF
        rw [if_pos ⟨hr, by omega, by omega, by omega, by omega⟩, List.getD_eq_getElem?_getD, List.getElem?_eq_getElem hlt]
        rfl
      simp -implicitDefEqProofs only [w1, w2, b2, hg, ha, rkA, rkB, stepA, valA, simprocAttr]
end Go.Proofs.Ytambpjbpdackfaa.A.E


set_option linter.unusedVariables false
set_option linter.unusedSimpArgs false
set_option maxRecDepth 100000
namespace Go.Proofs.Ytambpjbpdackfaa.A
open Go Go.RowKit Go.Shelf

end Go.Proofs.Ytambpjbpdackfaa.A


set_option linter.unusedVariables false
set_option linter.unusedSimpArgs false
set_option maxRecDepth 100000
namespace Go.Proofs.Ytambpjbpdackfaa.A
open Go Go.RowKit Go.Shelf

theorem right_le {r c : Int} {n : Nat} (h : right r c n = true) : n ≤ 256 := by
  obtain ⟨r1, r2, c1, c2, hn⟩ := right_spec h
  have : r * c ≤ 16 * 16 := Int.mul_le_mul r2 c2 (by omega) (by omega)
  omega

/-! ### Beside -/
/-! ### Mirrored -/
def mirF (r : Int) (l : List Fr) : List Fr := gridP (fun i k => atF r r l (max i k : Nat) (min i k : Nat)) r.toNat r.toNat 0
/-! ### Alike -/
end Go.Proofs.Ytambpjbpdackfaa.A


set_option linter.unusedVariables false
set_option linter.unusedSimpArgs false
set_option maxRecDepth 100000
namespace Go.Proofs.Ytambpjbpdackfaa.A
open Go Go.RowKit Go.Shelf

theorem gridP_congr {α : Type} {g f : Nat → Nat → α} {n N : Nat} (h : ∀ i k, i < N → k < n → g i k = f i k) : gridP g n N 0 = gridP f n N 0 := by
  rw [gridP_zero, gridP_zero]
  apply flatMap_same
  intro i hi
  apply List.map_congr_left
  intro k hk
  exact h i k (List.mem_range.1 hi) (List.mem_range.1 hk)

theorem sl_num {ex : Bool} {l : List Int} {a b : Nat} (h1 : a ≤ b) (h2 : b ≤ l.length) : sliceA 1 (l.map num) ex (some a) (some b) none = some (.sl (exA none ex b (l.map num).length) (((l.take b).drop a).map num)) := by
  unfold sliceA
  simp only [Option.getD_some]
  rw [if_pos ⟨h1, by simpa using h2, by simp, by simp [PV.cells]⟩]
  simp

section
variable (a b : List Int) (R K : Nat)
end

section
variable {a b : List Int} {R K : Nat}
theorem right_nat (hR : 1 ≤ R ∧ R ≤ 16) (hK : 1 ≤ K ∧ K ≤ 16) {n : Nat} (hl : n = R * K) : right (R : Int) (K : Int) n = true := by
  simp only [right, Bool.and_eq_true, decide_eq_true_eq, beq_iff_eq]
  refine ⟨by omega, by omega, ?_⟩
  rw [hl]
  simp
end
end Go.Proofs.Ytambpjbpdackfaa.A



set_option linter.unusedVariables false
set_option linter.unusedSimpArgs false
set_option maxRecDepth 100000
namespace Go.Proofs.Ytambpjbpdackfaa.A.E
open Go Go.RowKit Go.Shelf

/-! ### Frames -/
abbrev frmV (e : Bool) (k q n : Int) (l : List Int) : PV := .agg [num k, num q, num n, .sl e (l.map num)]
def manyZ (k n : Int) : Int := if n < 1 ∨ n > 4 then 0 else if k = 1 then n + n * n else if k = 2 then 2 * n * n else if k = 3 then n + 2 else 0
theorem side4 {n : Int} (h : ¬ (n < 1 ∨ n > 4)) : n = 1 ∨ n = 2 ∨ n = 3 ∨ n = 4 := by omega
theorem ok56 (k n : Int) : Ok Try.prog 56 [num k, num n] (num (manyZ k n)) := by
  refine ok_fn mixed Try.func56 (code := ?_) (h := h56) ?_ k56 ?_
  rotate_left
  · exact rfl
  unfold h56 initS
  simp -implicitDefEqProofs (maxSteps := 10000000) only [rkA, rkB, stepA, valA, simprocAttr, Try.ntmps56, Try.results56]
  by_cases h1 : n < 1
  · have e : manyZ k n = 0 := by unfold manyZ; rw [if_pos (.inl h1)]
    simp -implicitDefEqProofs (maxSteps := 10000000) only [h1, e, rkA, rkB, stepA, valA, simprocAttr]
  by_cases h2 : n > 4
  · have e : manyZ k n = 0 := by unfold manyZ; rw [if_pos (.inr h2)]
    simp -implicitDefEqProofs (maxSteps := 10000000) only [h1, h2, e, rkA, rkB, stepA, valA, simprocAttr]
  have h3 : ¬ (n < 1 ∨ n > 4) := by omega
  simp -implicitDefEqProofs (maxSteps := 10000000) only [h1, h2, rkA, rkB, stepA, valA, simprocAttr]
  rcases side4 h3 with rfl | rfl | rfl | rfl
  all_goals
    by_cases k1 : k = 1
    · subst k1
      simp -implicitDefEqProofs (maxSteps := 10000000) only [beq_self_eq_true, manyZ, rkA, rkB, stepA, valA, simprocAttr]
      rfl
    have k1' : (k == 1) = false := by simpa using k1
    by_cases k2 : k = 2
    · subst k2
      simp -implicitDefEqProofs (maxSteps := 10000000) only [k1', beq_self_eq_true, manyZ, rkA, rkB, stepA, valA, simprocAttr]
      rfl
    have k2' : (k == 2) = false := by simpa using k2
    by_cases k3 : k = 3
    · subst k3
      simp -implicitDefEqProofs (maxSteps := 10000000) only [k1', k2', beq_self_eq_true, manyZ, rkA, rkB, stepA, valA, simprocAttr]
      rfl
    have k3' : (k == 3) = false := by simpa using k3
    simp -implicitDefEqProofs (maxSteps := 10000000) only [k1', k2', k3', manyZ, k1, k2, k3, rkA, rkB, stepA, valA, simprocAttr]
    rfl
theorem ok55 (n : Int) : Ok Try.prog 55 [num n] (tru (!rightX n)) := by
  refine ok_fn mixed Try.func55 (code := ?_) (h := h55) ?_ k55 ?_
  rotate_left
  · exact rfl
  unfold h55 initS
  simp -implicitDefEqProofs (maxSteps := 10000000) only [rkA, rkB, stepA, valA, simprocAttr, Try.ntmps55, Try.results55]
  refine call_fn rfl rfl rfl (ok10 n) ?_
  simp -implicitDefEqProofs (maxSteps := 10000000) only [rkA, rkB, stepA, valA, simprocAttr]
/-- Where the first one of a row is, of which this is so. -/
def ixOf {α : Type} (p : α → Bool) : List α → Int
  | [] => -1
  | x :: l => if p x = true then 0 else if ixOf p l < 0 then -1 else ixOf p l + 1
theorem ixOf_bnd {α : Type} (p : α → Bool) (l : List α) : -1 ≤ ixOf p l ∧ ixOf p l < l.length := by
  induction l with
  | nil => simp [ixOf]
  | cons x l ih =>
    unfold ixOf
    simp only [List.length_cons]
    split
    · omega
    · split <;> omega
theorem ixOf_any {α : Type} (p : α → Bool) (l : List α) : decide (0 ≤ ixOf p l) = l.any p := by
  induction l with
  | nil => simp [ixOf]
  | cons x l ih =>
    have hb := ixOf_bnd p l
    unfold ixOf
    cases hx : p x with
    | true => simp [hx]
    | false =>
      simp only [List.any_cons, hx, Bool.false_or, ← ih]
      by_cases h : ixOf p l < 0
      · simp [h]
      · simp [h]
        omega
theorem ixOf_at {α : Type} (p : α → Bool) : ∀ (l : List α) (i : Nat) (hi : i < l.length), (∀ j (hj : j < i), p (l[j]'(by omega)) = false) → p l[i] = true → ixOf p l = i
  | x :: l, 0, hi, h1, h2 => by
    have : p x = true := h2
    simp [ixOf, this]
  | x :: l, i + 1, hi, h1, h2 => by
    have h0 := h1 0 (by omega)
    have hx : p x = false := h0
    have := ixOf_at p l i (by simpa using hi) (fun j hj => h1 (j + 1) (by omega)) h2
    simp only [ixOf, hx, this]
    have hn : ¬ ((i : Int) < 0) := by omega
    simp [hn]
theorem ixOf_none {α : Type} (p : α → Bool) (l : List α) (h : ∀ j (hj : j < l.length), p l[j] = false) : ixOf p l = -1 := by
  induction l with
  | nil => rfl
  | cons x l ih =>
    have hx : p x = false := h 0 (by simp)
    have := ih fun j hj => h (j + 1) (by simpa using hj)
    simp [ixOf, hx, this]
theorem ok54 (e : Bool) (f : Nat) (caps : List PV) (p : Int → Bool) (l : List Int) (hl : l.length ≤ 4398046511104) (hp : ∀ x ∈ l, Ok Try.prog f ([num x] ++ caps) (tru (p x))) : Ok Try.prog 54 [.sl e (l.map num), .fn (.func f) caps] (num (ixOf p l)) := by
  refine ok_fn mixed Try.func54 (code := ?_) (h := h54) ?_ k54 ?_
  rotate_left
  · exact rfl
  unfold h54 initS
  simp -implicitDefEqProofs (maxSteps := 10000000) only [rkA, rkB, stepA, valA, simprocAttr, Try.ntmps54, Try.results54]
  refine wp_loop (fun m s => ∃ i : Nat, i + m = l.length ∧ (∀ j (hj : j < i) (hjl : j < l.length), p l[j] = false) ∧ s = ⟨[.v (.sl e (l.map num)), .v (.fn (.func f) caps), jk, jk, jk, jk, jk, nt l.length, nt i, jk, jk, jk, jk, jk, jk, jk, jk, jk, jk], [], [], [], [], 0, nomem⟩) l.length ?_ ?_
  · simp -implicitDefEqProofs (maxSteps := 10000000) only [List.length_map, rkA, rkB, stepA, valA, simprocAttr]
    exact ⟨0, by omega, fun j hj => by omega, rfl⟩
  rintro m s ⟨i, hi, hb, rfl⟩
  simp -implicitDefEqProofs (maxSteps := 10000000) only [rkA, rkB, stepA, valA, simprocAttr]
  refine gB_dec ?_ ?_ <;> intro hc <;> simp -implicitDefEqProofs (maxSteps := 10000000) only [hc, rkA, rkB, stepA, valA, simprocAttr]
  · have hlt : i < l.length := by omega
    have h0 : (0 : Int) ≤ (i : Int) := by omega
    have hg : (l.map num)[i]? = some (num l[i]) := by simp [hlt]
    have hw := wrapped (x := (i : Int) + 1) (by omega) (by omega)
    have hpi := hp l[i] (List.getElem_mem hlt)
    simp -implicitDefEqProofs (maxSteps := 10000000) only [h0, Int.toNat_natCast, hg, rkA, rkB, stepA, valA, simprocAttr]
    refine call_fn rfl rfl rfl (hpi) ?_
    cases hpx : p l[i] with
    | true =>
      have := ixOf_at p l i hlt (fun j hj => hb j hj (by omega)) hpx
      simp -implicitDefEqProofs (maxSteps := 10000000) only [this, rkA, rkB, stepA, valA, simprocAttr]
    | false =>
      simp -implicitDefEqProofs (maxSteps := 10000000) only [hw, rkA, rkB, stepA, valA, simprocAttr]
      refine loopK_of (m' := m - 1) (by omega) ?_
      simp -implicitDefEqProofs (maxSteps := 10000000) only [rkA, rkB, stepA, valA, simprocAttr]
      refine ⟨i + 1, by omega, fun j hj hjl => ?_, by simp only [Int.natCast_add, Int.natCast_one]⟩
      by_cases ej : j = i
      · subst ej; exact hpx
      · exact hb j (by omega) hjl
  · have := ixOf_none p l fun j hj => hb j (by omega) hj
    simp -implicitDefEqProofs (maxSteps := 10000000) only [this, rkA, rkB, stepA, valA, simprocAttr]
theorem ok28 (e : Bool) (f : Nat) (caps : List PV) (p : Int → Bool) (l : List Int) (hl : l.length ≤ 4398046511104) (hp : ∀ x ∈ l, Ok Try.prog f ([num x] ++ caps) (tru (p x))) : Ok Try.prog 28 [.sl e (l.map num), .fn (.func f) caps] (tru (l.any p)) := by
  have ha := ixOf_any p l
  refine ok_fn mixed Try.func28 (code := ?_) (h := h28) ?_ k28 ?_
  rotate_left
  · exact rfl
  unfold h28 initS
  simp -implicitDefEqProofs (maxSteps := 10000000) only [rkA, rkB, stepA, valA, simprocAttr, Try.ntmps28, Try.results28]
  refine call_fn rfl rfl rfl (ok54 e f caps p l hl hp) ?_
  simp -implicitDefEqProofs (maxSteps := 10000000) only [ge_iff_le, ha, rkA, rkB, stepA, valA, simprocAttr]
theorem ok30 (e : Bool) (l : List Int) (h : l.length ≤ 4398046511104) : Ok Try.prog 30 [.sl e (l.map num)] (.sl false (l.map num)) := by
  have hf : fits 1 8 [] (l.map num) = true := fits_num (k := []) (l := l) (by simp only [List.length_nil]; omega)
  refine ok_fn mixed Try.func30 (code := ?_) (h := h30) ?_ k30 ?_
  rotate_left
  · exact rfl
  unfold h30 initS
  simp -implicitDefEqProofs (maxSteps := 10000000) only [rkA, rkB, stepA, valA, simprocAttr, Try.ntmps30, Try.results30]
  intro b hb
  cases b with
  | true =>
    have h0 : l = [] := by
      cases l with
      | nil => rfl
      | cons x l => simp at hb
    subst h0
    simp -implicitDefEqProofs (maxSteps := 10000000) only [rkA, rkB, stepA, valA, simprocAttr]
  | false => simp -implicitDefEqProofs (maxSteps := 10000000) only [hf, rkA, rkB, stepA, valA, simprocAttr]
def rightFr (k q n : Int) (l : List Int) : Bool := decide (manyZ k n > 0) && (decide ((l.length : Int) = manyZ k n) && (decide (0 ≤ q) && (decide (q ≤ 4294967295) && !(l.any fun x => !rightX x))))
theorem ok29 (e : Bool) (k q n : Int) (l : List Int) (hl : l.length ≤ 4398046511104) : Ok Try.prog 29 [frmV e k q n l] (tru (rightFr k q n l)) := by
  refine ok_fn mixed Try.func29 (code := ?_) (h := h29) ?_ k29 ?_
  rotate_left
  · exact rfl
  unfold h29 initS
  simp -implicitDefEqProofs (maxSteps := 10000000) only [rkA, rkB, stepA, valA, simprocAttr, Try.ntmps29, Try.results29]
  refine call_fn rfl rfl rfl (ok56 k n) ?_
  unfold rightFr
  generalize manyZ k n = z
  by_cases h1 : z > 0
  · by_cases h2 : (l.length : Int) = z
    · by_cases h3 : 0 ≤ q
      · by_cases h4 : q ≤ 4294967295
        · simp -implicitDefEqProofs (maxSteps := 10000000) only [List.length_map, h1, h2, beq_self_eq_true, ge_iff_le, h3, h4, rkA, rkB, stepA, valA, simprocAttr]
          refine call_fn rfl rfl rfl (ok28 e _ [] (fun x => !rightX x) l hl (fun x _ => ok55 x)) ?_
          simp -implicitDefEqProofs (maxSteps := 10000000) only [rkA, rkB, stepA, valA, simprocAttr]
        · simp -implicitDefEqProofs (maxSteps := 10000000) only [List.length_map, h1, h2, beq_self_eq_true, ge_iff_le, h3, h4, rkA, rkB, stepA, valA, simprocAttr]
      · simp -implicitDefEqProofs (maxSteps := 10000000) only [List.length_map, h1, h2, beq_self_eq_true, ge_iff_le, h3, rkA, rkB, stepA, valA, simprocAttr]
    · have h2' : ((l.length : Int) == z) = false := by simpa using h2
      simp -implicitDefEqProofs (maxSteps := 10000000) only [List.length_map, h1, h2, h2', rkA, rkB, stepA, valA, simprocAttr]
  · simp -implicitDefEqProofs (maxSteps := 10000000) only [h1, rkA, rkB, stepA, valA, simprocAttr]
theorem rightFr_spec {k q n : Int} {l : List Int} (h : rightFr k q n l = true) : ∃ m : Nat, n = m ∧ 1 ≤ m ∧ m ≤ 4 ∧ ((k = 1 ∧ l.length = m + m * m) ∨ (k = 2 ∧ l.length = m * m + m * m) ∨ (k = 3 ∧ l.length = m + 2)) ∧ 0 ≤ q ∧ q ≤ 4294967295 ∧ ∀ x ∈ l, rightX x = true := by
  unfold rightFr at h
  simp only [Bool.and_eq_true, decide_eq_true_eq, Bool.not_eq_true', List.any_eq_false, Bool.not_eq_false, Bool.not_eq_eq_eq_not, Bool.not_true] at h
  obtain ⟨h1, h2, h3, h4, h5⟩ := h
  have h5' : ∀ x ∈ l, rightX x = true := fun x hx => by
    have := h5 x hx
    simpa using this
  unfold manyZ at h1 h2
  by_cases hn : n < 1 ∨ n > 4
  · rw [if_pos hn] at h1; omega
  rw [if_neg hn] at h1 h2
  refine ⟨n.toNat, by omega, by omega, by omega, ?_, h3, h4, h5'⟩
  have hc := side4 hn
  by_cases k1 : k = 1
  · rw [if_pos k1] at h2
    refine .inl ⟨k1, ?_⟩
    rcases hc with rfl | rfl | rfl | rfl <;> simp at h2 ⊢ <;> omega
  rw [if_neg k1] at h1 h2
  by_cases k2 : k = 2
  · rw [if_pos k2] at h2
    refine .inr (.inl ⟨k2, ?_⟩)
    rcases hc with rfl | rfl | rfl | rfl <;> simp at h2 ⊢ <;> omega
  rw [if_neg k2] at h1 h2
  by_cases k3 : k = 3
  · rw [if_pos k3] at h2
    refine .inr (.inr ⟨k3, ?_⟩)
    omega
  rw [if_neg k3] at h1
  omega
end Go.Proofs.Ytambpjbpdackfaa.A.E


set_option linter.unusedVariables false
namespace Go.Proofs.Ytambpjbpdackfaa.A
open Go Go.RowKit Go.Shelf
def hm0 : Hint := .r [(0, { n := 4 })]
def hm1 : Hint := .s (.r [(0, { n := 4, agg := true })]) (.s (.s (.o) (.o)) (.o))
def hmL : List (Nat × Inf) := [(1, { off := 2 }), (2, { n := 1, agg := false }), (3, { n := 1 }), (5, { off := 2 }), (6, { n := 1, agg := false }), (7, { off := 2 }), (8, { n := 1, agg := false }), (10, { n := 1 }), (12, { off := 2 }), (13, { n := 1, agg := false }), (14, { off := 2 }), (15, { n := 1, agg := false }), (17, { n := 1 }), (20, { off := 0 }), (21, { n := 1, agg := false }), (22, { zero := [(.slice none 0 0)] })]
def hm2 : Hint := .s (.r [(0, { acc := [(0, 4)] })]) (.s (.o) (.s (.s (.r [(1, { off := 3 }), (2, { n := 1, agg := false }), (4, { n := 1 }), (5, { n := 1, t := 8 })]) (.b (.l [.junk [0, 2, 3, 6, 7, 8, 9, 10, 11, 12, 13, 14, 15, 16, 17, 18, 19, 20, 21, 22, 23, 24, 25, 26, 27, 28, 29, 30, 31, 32, 33, 34, 35, 39, 40, 41, 42, 43, 44, 45, 46, 47, 48, 49, 50, 51, 52, 53]] (.s (.o) (.s (.s (.o) (.o)) (.s (.b (.s (.r [(0, { n := 1 }), (1, { n := 1, agg := false })]) (.s (.r [(1, { off := 3 }), (2, { n := 1, agg := false }), (5, { n := 1 }), (7, { n := 1 }), (8, { n := 1, t := 24 })]) (.o)))) (.o))))))) (.s (.o) (.o))))
theorem kmap : okMap Try.prog Try.f13 hm0 hm1 hm2 hmL [(false, 0)] = true := by kernel_rfl
end Go.Proofs.Ytambpjbpdackfaa.A



set_option linter.unusedVariables false
set_option linter.unusedSimpArgs false
set_option maxRecDepth 100000
namespace Go.Proofs.Ytambpjbpdackfaa.A.E
open Go Go.RowKit Go.Shelf

/-! ### Parts of frames -/
/-- Where the parts of a frame end. -/
def endsZ (k : Int) (n len : Nat) : List Nat := if k = 1 then [n, len] else if k = 2 then [n * n, len] else [n, n + 1, len]
def stZ (es : List Nat) : Nat → Nat
  | 0 => 0
  | i + 1 => es.getD i 0
def pcZ (es : List Nat) (l : List Int) (i : Nat) : List Int := (l.take (es.getD i 0)).drop (stZ es i)
def partsZ (k : Int) (n : Nat) (l : List Int) : List (List Int) := (List.range (endsZ k n l.length).length).map (pcZ (endsZ k n l.length) l)
abbrev rowV (l : List Int) : PV := .sl false (l.map num)
theorem ok13_bad (e : Bool) (k q n : Int) (l : List Int) (hl : l.length ≤ 4398046511104) (h : rightFr k q n l = false) : Ok Try.prog 13 [frmV e k q n l] (.s (.slice none 0 0)) := by
  refine okm3_fn mixed Try.func13 (c0 := ?_) (c1 := ?_) (c2 := ?_) (id := ?_) (ops := ?_) (h0 := hm0) (h1 := hm1) (h2 := hm2) (l := hmL) ?_ kmap ?_
  rotate_left 5
  · exact rfl
  unfold hm0 hm1 hm2 hmL initS
  simp -implicitDefEqProofs (maxSteps := 10000000) only [thenT_normal, thenT_ret, thenT_exit, opsMK_at, regM_cons, opsM_nil, insC_some, opsMI_at, opsM_ins, lkC_some, opsML_at, opsM_lk, mapOp_move, mapOp_assign, mapOp_load, mapOp_fieldAddr, mapOp_binOp, mapOp_buildSlice, opsM_op, lkz, Int.reduceEq, rkA, rkB, stepA, valA, simprocAttr, Try.ntmps13, Try.results13]
  have h1 := ok29 e k q n l hl
  rw [h] at h1
  refine call_fn rfl rfl rfl (h1) ?_
  simp -implicitDefEqProofs (maxSteps := 10000000) only [thenT_normal, thenT_ret, thenT_exit, opsMK_at, regM_cons, opsM_nil, insC_some, opsMI_at, opsM_ins, lkC_some, opsML_at, opsM_lk, mapOp_move, mapOp_assign, mapOp_load, mapOp_fieldAddr, mapOp_binOp, mapOp_buildSlice, opsM_op, lkz, Int.reduceEq, rkA, rkB, stepA, valA, simprocAttr]
theorem fits_rows {k : List (List Int)} {r : List Int} (h : k.length ≤ 1000) : fits 1 24 (k.map rowV) [rowV r] = true := by
  unfold fits
  simp only [List.all_map, List.length_map, List.length_cons, List.length_nil, Bool.and_eq_true, List.all_eq_true, decide_eq_true_eq, Function.comp, List.all_cons, List.all_nil, Bool.and_true]
  refine ⟨⟨fun x _ => ⟨rfl, rfl⟩, rfl, rfl⟩, by omega⟩
theorem ok13 (e : Bool) (k q n : Int) (l : List Int) (hl : l.length ≤ 4398046511104) (h : rightFr k q n l = true) : Ok Try.prog 13 [frmV e k q n l] (.sl false ((partsZ k n.toNat l).map rowV)) := by
  obtain ⟨m, rfl, h1, h4, hlen, hq0, hq1, hx⟩ := rightFr_spec h
  have hr := ok29 e k q m l hl
  rw [h] at hr
  rw [Int.toNat_natCast]
  have hmm : m * m ≤ 16 := Nat.mul_le_mul h4 h4
  have hmp : 1 * 1 ≤ m * m := Nat.mul_le_mul h1 h1
  have c1 : (m : Int) * (m : Int) = ((m * m : Nat) : Int) := by simp
  have c2 : (m : Int) + 1 = ((m + 1 : Nat) : Int) := by simp
  have w1 := wrapped (x := ((m * m : Nat) : Int)) (by omega) (by omega)
  have w2 := wrapped (x := ((m + 1 : Nat) : Int)) (by omega) (by omega)
  rcases hlen with ⟨rfl, hlen⟩ | ⟨rfl, hlen⟩ | ⟨rfl, hlen⟩
  · refine okm3_fn mixed Try.func13 (c0 := ?_) (c1 := ?_) (c2 := ?_) (id := ?_) (ops := ?_) (h0 := hm0) (h1 := hm1) (h2 := hm2) (l := hmL) ?_ kmap ?_
    rotate_left 5
    · exact rfl
    unfold hm0 hm1 hm2 hmL initS
    simp -implicitDefEqProofs (maxSteps := 10000000) only [thenT_normal, thenT_ret, thenT_exit, opsMK_at, regM_cons, opsM_nil, insC_some, opsMI_at, opsM_ins, lkC_some, opsML_at, opsM_lk, mapOp_move, mapOp_assign, mapOp_load, mapOp_fieldAddr, mapOp_binOp, mapOp_buildSlice, opsM_op, lkz, Int.reduceEq, rkA, rkB, stepA, valA, simprocAttr, Try.ntmps13, Try.results13]
    refine call_fn rfl rfl rfl (hr) ?_
    simp -implicitDefEqProofs (maxSteps := 10000000) only [c1, c2, w1, w2, List.length_map, thenT_normal, thenT_ret, thenT_exit, opsMK_at, regM_cons, opsM_nil, insC_some, opsMI_at, opsM_ins, lkC_some, opsML_at, opsM_lk, mapOp_move, mapOp_assign, mapOp_load, mapOp_fieldAddr, mapOp_binOp, mapOp_buildSlice, opsM_op, lkz, Int.reduceEq, rkA, rkB, stepA, valA, simprocAttr]
    intro r
    obtain ⟨es, hesd⟩ : ∃ es : List Nat, es = [m, l.length] := ⟨_, rfl⟩
    have hfit : fits 1 8 [num (m : Int)] [num (l.length : Int)] = true := fits_num (k := [(m : Int)]) (l := [(l.length : Int)]) (by simp)
    have e1 : [num (m : Int), num (l.length : Int)] = es.map fun (x : Nat) => num (x : Int) := by rw [hesd]; rfl
    have hmax : ∀ i, i < es.length → es.getD i 0 ≤ l.length := by
      rw [hesd]
      intro i hi
      match i, hi with
      | 0, _ => simp; omega
      | 1, _ => simp
    have hinc : ∀ i, i < es.length → stZ es i ≤ es.getD i 0 := by
      rw [hesd]
      intro i hi
      match i, hi with
      | 0, _ => simp [stZ]
      | 1, _ => simp [stZ]; omega
    have hlen3 : es.length ≤ 3 := by rw [hesd]; simp
    have hpz : partsZ 1 m l = (List.range es.length).map (pcZ es l) := by rw [hesd]; rfl
    have lz : (es.map fun (x : Nat) => num (x : Int)).length = es.length := by rw [List.length_map]
    have hl16 : l.length ≤ 32 := by omega
    have hel : es.length ≤ 3 := hlen3
    simp -implicitDefEqProofs (maxSteps := 10000000) only [hfit, e1, lz, rkA, rkB, stepA, valA, simprocAttr]
    refine wp_loop (fun m' s => ∃ i : Nat, i + m' = es.length ∧ s = ⟨[jk, .ptr 1 0, jk, jk, .acc 4 (((List.range i).map (pcZ es l)).map rowV), nt (stZ es i : Nat), jk, jk, jk, jk, jk, jk, jk, jk, jk, jk, jk, jk, jk, jk, jk, jk, jk, jk, jk, jk, jk, jk, jk, jk, jk, jk, jk, jk, jk, jk, .v (.sl false (es.map fun (x : Nat) => num (x : Int))), nt es.length, nt i, jk, jk, jk, jk, jk, jk, jk, jk, jk, jk, jk, jk, jk, jk, jk], [(1, [.v (num 1), .v (num q), .v (num m), .v (.sl e (l.map num))])], [], [(4, i)], [], 0, nomem⟩) es.length ?_ ?_
    · simp -implicitDefEqProofs (maxSteps := 10000000) only [rkA, rkB, stepA, valA, simprocAttr]
      exact ⟨0, by omega, rfl⟩
    rintro m' s ⟨i, hi, rfl⟩
    simp -implicitDefEqProofs (maxSteps := 10000000) only [rkA, rkB, stepA, valA, simprocAttr]
    refine gB_dec ?_ ?_ <;> intro hc <;> simp -implicitDefEqProofs (maxSteps := 10000000) only [hc, rkA, rkB, stepA, valA, simprocAttr]
    · have hlt : i < es.length := by omega
      have h0 : (0 : Int) ≤ (i : Int) := by omega
      have hg : (es.map fun (x : Nat) => num (x : Int))[i]? = some (num ((es.getD i 0 : Nat) : Int)) := by
        rw [List.getElem?_map, List.getD_eq_getElem?_getD, List.getElem?_eq_getElem hlt]
        rfl
      have hw := wrapped (x := (i : Int) + 1) (by omega) (by omega)
      have hs := sl_num (ex := e) (l := l) (hinc i hlt) (hmax i hlt)
      have s0 : (0 : Int) ≤ (stZ es i : Nat) := by omega
      have s1 : (0 : Int) ≤ (es.getD i 0 : Nat) := by omega
      simp -implicitDefEqProofs (maxSteps := 10000000) only [h0, s0, s1, Int.toNat_natCast, hg, hs, rkA, rkB, stepA, valA, simprocAttr]
      refine call_fn rfl rfl rfl (ok30 _ ((l.take (es.getD i 0)).drop (stZ es i)) (by rw [List.length_drop, List.length_take]; omega)) ?_
      have hfr : fits 1 24 (((List.range i).map (pcZ es l)).map rowV) [rowV ((l.take (es.getD i 0)).drop (stZ es i))] = true := fits_rows (by rw [List.length_map, List.length_range]; omega)
      have hlr : (((List.range i).map (pcZ es l)).map rowV).length = i := by rw [List.length_map, List.length_map, List.length_range]
      simp -implicitDefEqProofs (maxSteps := 10000000) only [hfr, hlr, hw, rkA, rkB, stepA, valA, simprocAttr]
      refine loopK_of (m' := m' - 1) (by omega) ?_
      simp -implicitDefEqProofs (maxSteps := 10000000) only [rkA, rkB, stepA, valA, simprocAttr]
      refine ⟨i + 1, by omega, ?_⟩
      rw [List.range_succ, List.map_append, List.map_append]
      have hst : stZ es (i + 1) = es.getD i 0 := rfl
      simp only [hst, List.map_cons, List.map_nil, pcZ, Int.natCast_add, Int.natCast_one]
    · have hie : i = es.length := by omega
      have hfin : (List.range i).map (pcZ es l) = partsZ 1 m l := by rw [hie, hpz]
      rw [hfin]
  · refine okm3_fn mixed Try.func13 (c0 := ?_) (c1 := ?_) (c2 := ?_) (id := ?_) (ops := ?_) (h0 := hm0) (h1 := hm1) (h2 := hm2) (l := hmL) ?_ kmap ?_
    rotate_left 5
    · exact rfl
    unfold hm0 hm1 hm2 hmL initS
    simp -implicitDefEqProofs (maxSteps := 10000000) only [thenT_normal, thenT_ret, thenT_exit, opsMK_at, regM_cons, opsM_nil, insC_some, opsMI_at, opsM_ins, lkC_some, opsML_at, opsM_lk, mapOp_move, mapOp_assign, mapOp_load, mapOp_fieldAddr, mapOp_binOp, mapOp_buildSlice, opsM_op, lkz, Int.reduceEq, rkA, rkB, stepA, valA, simprocAttr, Try.ntmps13, Try.results13]
    refine call_fn rfl rfl rfl (hr) ?_
    simp -implicitDefEqProofs (maxSteps := 10000000) only [c1, c2, w1, w2, List.length_map, thenT_normal, thenT_ret, thenT_exit, opsMK_at, regM_cons, opsM_nil, insC_some, opsMI_at, opsM_ins, lkC_some, opsML_at, opsM_lk, mapOp_move, mapOp_assign, mapOp_load, mapOp_fieldAddr, mapOp_binOp, mapOp_buildSlice, opsM_op, lkz, Int.reduceEq, rkA, rkB, stepA, valA, simprocAttr]
    intro r
    obtain ⟨es, hesd⟩ : ∃ es : List Nat, es = [m * m, l.length] := ⟨_, rfl⟩
    have hfit : fits 1 8 [num ((m * m : Nat) : Int)] [num (l.length : Int)] = true := fits_num (k := [((m * m : Nat) : Int)]) (l := [(l.length : Int)]) (by simp)
    have e1 : [num ((m * m : Nat) : Int), num (l.length : Int)] = es.map fun (x : Nat) => num (x : Int) := by rw [hesd]; rfl
    have hmax : ∀ i, i < es.length → es.getD i 0 ≤ l.length := by
      rw [hesd]
      intro i hi
      match i, hi with
      | 0, _ => simp; omega
      | 1, _ => simp
    have hinc : ∀ i, i < es.length → stZ es i ≤ es.getD i 0 := by
      rw [hesd]
      intro i hi
      match i, hi with
      | 0, _ => simp [stZ]
      | 1, _ => simp [stZ]; omega
    have hlen3 : es.length ≤ 3 := by rw [hesd]; simp
    have hpz : partsZ 2 m l = (List.range es.length).map (pcZ es l) := by rw [hesd]; rfl
    have lz : (es.map fun (x : Nat) => num (x : Int)).length = es.length := by rw [List.length_map]
    have hl16 : l.length ≤ 32 := by omega
    have hel : es.length ≤ 3 := hlen3
    simp -implicitDefEqProofs (maxSteps := 10000000) only [hfit, e1, lz, rkA, rkB, stepA, valA, simprocAttr]
    refine wp_loop (fun m' s => ∃ i : Nat, i + m' = es.length ∧ s = ⟨[jk, .ptr 1 0, jk, jk, .acc 4 (((List.range i).map (pcZ es l)).map rowV), nt (stZ es i : Nat), jk, jk, jk, jk, jk, jk, jk, jk, jk, jk, jk, jk, jk, jk, jk, jk, jk, jk, jk, jk, jk, jk, jk, jk, jk, jk, jk, jk, jk, jk, .v (.sl false (es.map fun (x : Nat) => num (x : Int))), nt es.length, nt i, jk, jk, jk, jk, jk, jk, jk, jk, jk, jk, jk, jk, jk, jk, jk], [(1, [.v (num 2), .v (num q), .v (num m), .v (.sl e (l.map num))])], [], [(4, i)], [], 0, nomem⟩) es.length ?_ ?_
    · simp -implicitDefEqProofs (maxSteps := 10000000) only [rkA, rkB, stepA, valA, simprocAttr]
      exact ⟨0, by omega, rfl⟩
    rintro m' s ⟨i, hi, rfl⟩
    simp -implicitDefEqProofs (maxSteps := 10000000) only [rkA, rkB, stepA, valA, simprocAttr]
    refine gB_dec ?_ ?_ <;> intro hc <;> simp -implicitDefEqProofs (maxSteps := 10000000) only [hc, rkA, rkB, stepA, valA, simprocAttr]
    · have hlt : i < es.length := by omega
      have h0 : (0 : Int) ≤ (i : Int) := by omega
      have hg : (es.map fun (x : Nat) => num (x : Int))[i]? = some (num ((es.getD i 0 : Nat) : Int)) := by
        rw [List.getElem?_map, List.getD_eq_getElem?_getD, List.getElem?_eq_getElem hlt]
        rfl
      have hw := wrapped (x := (i : Int) + 1) (by omega) (by omega)
      have hs := sl_num (ex := e) (l := l) (hinc i hlt) (hmax i hlt)
      have s0 : (0 : Int) ≤ (stZ es i : Nat) := by omega
      have s1 : (0 : Int) ≤ (es.getD i 0 : Nat) := by omega
      simp -implicitDefEqProofs (maxSteps := 10000000) only [h0, s0, s1, Int.toNat_natCast, hg, hs, rkA, rkB, stepA, valA, simprocAttr]
      refine call_fn rfl rfl rfl (ok30 _ ((l.take (es.getD i 0)).drop (stZ es i)) (by rw [List.length_drop, List.length_take]; omega)) ?_
      have hfr : fits 1 24 (((List.range i).map (pcZ es l)).map rowV) [rowV ((l.take (es.getD i 0)).drop (stZ es i))] = true := fits_rows (by rw [List.length_map, List.length_range]; omega)
      have hlr : (((List.range i).map (pcZ es l)).map rowV).length = i := by rw [List.length_map, List.length_map, List.length_range]
      simp -implicitDefEqProofs (maxSteps := 10000000) only [hfr, hlr, hw, rkA, rkB, stepA, valA, simprocAttr]
      refine loopK_of (m' := m' - 1) (by omega) ?_
      simp -implicitDefEqProofs (maxSteps := 10000000) only [rkA, rkB, stepA, valA, simprocAttr]
      refine ⟨i + 1, by omega, ?_⟩
      rw [List.range_succ, List.map_append, List.map_append]
      have hst : stZ es (i + 1) = es.getD i 0 := rfl
      simp only [hst, List.map_cons, List.map_nil, pcZ, Int.natCast_add, Int.natCast_one]
    · have hie : i = es.length := by omega
      have hfin : (List.range i).map (pcZ es l) = partsZ 2 m l := by rw [hie, hpz]
      rw [hfin]
  · refine okm3_fn mixed Try.func13 (c0 := ?_) (c1 := ?_) (c2 := ?_) (id := ?_) (ops := ?_) (h0 := hm0) (h1 := hm1) (h2 := hm2) (l := hmL) ?_ kmap ?_
    rotate_left 5
    · exact rfl
    unfold hm0 hm1 hm2 hmL initS
    simp -implicitDefEqProofs (maxSteps := 10000000) only [thenT_normal, thenT_ret, thenT_exit, opsMK_at, regM_cons, opsM_nil, insC_some, opsMI_at, opsM_ins, lkC_some, opsML_at, opsM_lk, mapOp_move, mapOp_assign, mapOp_load, mapOp_fieldAddr, mapOp_binOp, mapOp_buildSlice, opsM_op, lkz, Int.reduceEq, rkA, rkB, stepA, valA, simprocAttr, Try.ntmps13, Try.results13]
    refine call_fn rfl rfl rfl (hr) ?_
    simp -implicitDefEqProofs (maxSteps := 10000000) only [c1, c2, w1, w2, List.length_map, thenT_normal, thenT_ret, thenT_exit, opsMK_at, regM_cons, opsM_nil, insC_some, opsMI_at, opsM_ins, lkC_some, opsML_at, opsM_lk, mapOp_move, mapOp_assign, mapOp_load, mapOp_fieldAddr, mapOp_binOp, mapOp_buildSlice, opsM_op, lkz, Int.reduceEq, rkA, rkB, stepA, valA, simprocAttr]
    intro r
    obtain ⟨es, hesd⟩ : ∃ es : List Nat, es = [m, m + 1, l.length] := ⟨_, rfl⟩
    have hfit : fits 1 8 [num (m : Int), num ((m + 1 : Nat) : Int)] [num (l.length : Int)] = true := fits_num (k := [(m : Int), ((m + 1 : Nat) : Int)]) (l := [(l.length : Int)]) (by simp)
    have e1 : [num (m : Int), num ((m + 1 : Nat) : Int), num (l.length : Int)] = es.map fun (x : Nat) => num (x : Int) := by rw [hesd]; rfl
    have hmax : ∀ i, i < es.length → es.getD i 0 ≤ l.length := by
      rw [hesd]
      intro i hi
      match i, hi with
      | 0, _ => simp; omega
      | 1, _ => simp; omega
      | 2, _ => simp
    have hinc : ∀ i, i < es.length → stZ es i ≤ es.getD i 0 := by
      rw [hesd]
      intro i hi
      match i, hi with
      | 0, _ => simp [stZ]
      | 1, _ => simp [stZ]
      | 2, _ => simp [stZ]; omega
    have hlen3 : es.length ≤ 3 := by rw [hesd]; simp
    have hpz : partsZ 3 m l = (List.range es.length).map (pcZ es l) := by rw [hesd]; rfl
    have lz : (es.map fun (x : Nat) => num (x : Int)).length = es.length := by rw [List.length_map]
    have hl16 : l.length ≤ 32 := by omega
    have hel : es.length ≤ 3 := hlen3
    simp -implicitDefEqProofs (maxSteps := 10000000) only [hfit, e1, lz, rkA, rkB, stepA, valA, simprocAttr]
    refine wp_loop (fun m' s => ∃ i : Nat, i + m' = es.length ∧ s = ⟨[jk, .ptr 1 0, jk, jk, .acc 4 (((List.range i).map (pcZ es l)).map rowV), nt (stZ es i : Nat), jk, jk, jk, jk, jk, jk, jk, jk, jk, jk, jk, jk, jk, jk, jk, jk, jk, jk, jk, jk, jk, jk, jk, jk, jk, jk, jk, jk, jk, jk, .v (.sl false (es.map fun (x : Nat) => num (x : Int))), nt es.length, nt i, jk, jk, jk, jk, jk, jk, jk, jk, jk, jk, jk, jk, jk, jk, jk], [(1, [.v (num 3), .v (num q), .v (num m), .v (.sl e (l.map num))])], [], [(4, i)], [], 0, nomem⟩) es.length ?_ ?_
    · simp -implicitDefEqProofs (maxSteps := 10000000) only [rkA, rkB, stepA, valA, simprocAttr]
      exact ⟨0, by omega, rfl⟩
    rintro m' s ⟨i, hi, rfl⟩
    simp -implicitDefEqProofs (maxSteps := 10000000) only [rkA, rkB, stepA, valA, simprocAttr]
    refine gB_dec ?_ ?_ <;> intro hc <;> simp -implicitDefEqProofs (maxSteps := 10000000) only [hc, rkA, rkB, stepA, valA, simprocAttr]
    · have hlt : i < es.length := by omega
      have h0 : (0 : Int) ≤ (i : Int) := by omega
      have hg : (es.map fun (x : Nat) => num (x : Int))[i]? = some (num ((es.getD i 0 : Nat) : Int)) := by
        rw [List.getElem?_map, List.getD_eq_getElem?_getD, List.getElem?_eq_getElem hlt]
        rfl
      have hw := wrapped (x := (i : Int) + 1) (by omega) (by omega)
      have hs := sl_num (ex := e) (l := l) (hinc i hlt) (hmax i hlt)
      have s0 : (0 : Int) ≤ (stZ es i : Nat) := by omega
      have s1 : (0 : Int) ≤ (es.getD i 0 : Nat) := by omega
      simp -implicitDefEqProofs (maxSteps := 10000000) only [h0, s0, s1, Int.toNat_natCast, hg, hs, rkA, rkB, stepA, valA, simprocAttr]
      refine call_fn rfl rfl rfl (ok30 _ ((l.take (es.getD i 0)).drop (stZ es i)) (by rw [List.length_drop, List.length_take]; omega)) ?_
      have hfr : fits 1 24 (((List.range i).map (pcZ es l)).map rowV) [rowV ((l.take (es.getD i 0)).drop (stZ es i))] = true := fits_rows (by rw [List.length_map, List.length_range]; omega)
      have hlr : (((List.range i).map (pcZ es l)).map rowV).length = i := by rw [List.length_map, List.length_map, List.length_range]
      simp -implicitDefEqProofs (maxSteps := 10000000) only [hfr, hlr, hw, rkA, rkB, stepA, valA, simprocAttr]
      refine loopK_of (m' := m' - 1) (by omega) ?_
      simp -implicitDefEqProofs (maxSteps := 10000000) only [rkA, rkB, stepA, valA, simprocAttr]
      refine ⟨i + 1, by omega, ?_⟩
      rw [List.range_succ, List.map_append, List.map_append]
      have hst : stZ es (i + 1) = es.getD i 0 := rfl
      simp only [hst, List.map_cons, List.map_nil, pcZ, Int.natCast_add, Int.natCast_one]
    · have hie : i = es.length := by omega
      have hfin : (List.range i).map (pcZ es l) = partsZ 3 m l := by rw [hie, hpz]
      rw [hfin]
end Go.Proofs.Ytambpjbpdackfaa.A.E



set_option linter.unusedVariables false
set_option linter.unusedSimpArgs false
set_option maxRecDepth 100000
namespace Go.Proofs.Ytambpjbpdackfaa.A.E
open Go Go.RowKit Go.Shelf

/-! ### check.Sound -/
def greatZ (x : Int) : Bool := decide (x > 17179869184) || decide (x < -17179869184)
theorem ok27 (n : Int) : Ok Try.prog 27 [num n] (tru (greatZ n)) := by
  refine ok_fn mixed Try.func27 (code := ?_) (h := h27) ?_ k27 ?_
  rotate_left
  · exact rfl
  unfold h27 initS
  simp -implicitDefEqProofs (maxSteps := 10000000) only [rkA, rkB, stepA, valA, simprocAttr, Try.ntmps27, Try.results27]
  unfold greatZ
  by_cases h1 : n > 17179869184
  · simp -implicitDefEqProofs (maxSteps := 10000000) only [h1, rkA, rkB, stepA, valA, simprocAttr]
  · simp -implicitDefEqProofs (maxSteps := 10000000) only [h1, rkA, rkB, stepA, valA, simprocAttr]
def partZ (k : Int) (n : Nat) (l : List Int) (i : Nat) : List Int := pcZ (endsZ k n l.length) l i
def lowZ (p : List Int) (n : Nat) : Bool := (List.range n).any fun i => decide (p.getD (i * n + i) 0 < 65536)
def soundZ (k q n : Int) (l : List Int) : Int :=
  if rightFr k q n l = false then 1 else if l.any greatZ = true then 3 else if k = 3 then (if (partZ k n.toNat l 1).getD 0 0 < 65536 then 9 else 0) else if lowZ (partZ k n.toNat l 1) n.toNat = true then 9 else 0
theorem endsZ_two {k : Int} {n len : Nat} : 2 ≤ (endsZ k n len).length := by
  unfold endsZ
  split
  · simp
  · split <;> simp
theorem parts_at {k : Int} {n : Nat} {l : List Int} {i : Nat} (h : i < (endsZ k n l.length).length) : (partsZ k n l)[i]? = some (partZ k n l i) := by
  unfold partsZ partZ
  rw [List.getElem?_map, List.getElem?_range h]
  rfl
theorem part_len {k : Int} {m : Nat} {l : List Int} (h1 : 1 ≤ m) (hlen : (k = 1 ∧ l.length = m + m * m) ∨ (k = 2 ∧ l.length = m * m + m * m) ∨ (k = 3 ∧ l.length = m + 2)) : (partZ k m l 1).length = if k = 3 then 1 else m * m := by
  unfold partZ pcZ endsZ
  rcases hlen with ⟨rfl, h⟩ | ⟨rfl, h⟩ | ⟨rfl, h⟩
  · simp [stZ, h]
  · simp [stZ, h]
  · simp [stZ, h]
theorem ok12 (e : Bool) (k q n : Int) (l : List Int) (hl : l.length ≤ 4398046511104) : Ok Try.prog 12 [frmV e k q n l] (num (soundZ k q n l)) := by
  cases hr : rightFr k q n l with
  | false =>
    have hz : soundZ k q n l = 1 := by unfold soundZ; rw [if_pos hr]
    refine ok_fn mixed Try.func12 (code := ?_) (h := h12) ?_ k12 ?_
    rotate_left
    · exact rfl
    unfold h12 initS
    simp -implicitDefEqProofs (maxSteps := 10000000) only [rkA, rkB, stepA, valA, simprocAttr, Try.ntmps12, Try.results12]
    refine call_fn rfl rfl rfl (ok13_bad e k q n l hl hr) ?_
    simp -implicitDefEqProofs (maxSteps := 10000000) only [hz, rkA, rkB, stepA, valA, simprocAttr]
  | true =>
    obtain ⟨m, rfl, h1, h4, hlen, hq0, hq1, hx⟩ := rightFr_spec hr
    have hz : soundZ k q m l = if l.any greatZ = true then 3 else if k = 3 then (if (partZ k m l 1).getD 0 0 < 65536 then 9 else 0) else if lowZ (partZ k m l 1) m = true then 9 else 0 := by
      unfold soundZ
      rw [if_neg (by rw [hr]; decide), Int.toNat_natCast]
    have hp7 := ok13 e k q m l hl hr
    rw [Int.toNat_natCast] at hp7
    have hpl := part_len h1 hlen
    have hg1 : ((partsZ k m l).map rowV)[1]? = some (rowV (partZ k m l 1)) := by
      rw [List.getElem?_map, parts_at (by have := endsZ_two (k := k) (n := m) (len := l.length); omega)]
      rfl
    have hne : ((partsZ k m l).map rowV).isEmpty = false := by
      cases hh : (partsZ k m l).map rowV with
      | nil => rw [hh] at hg1; cases hg1
      | cons => rfl
    refine ok_fn mixed Try.func12 (code := ?_) (h := h12) ?_ k12 ?_
    rotate_left
    · exact rfl
    unfold h12 initS
    simp -implicitDefEqProofs (maxSteps := 10000000) only [rkA, rkB, stepA, valA, simprocAttr, Try.ntmps12, Try.results12]
    refine call_fn rfl rfl rfl (hp7) ?_
    simp -implicitDefEqProofs (maxSteps := 10000000) only [rkA, rkB, stepA, valA, simprocAttr]
    intro b hb
    obtain rfl := hb hne
    simp -implicitDefEqProofs (maxSteps := 10000000) only [rkA, rkB, stepA, valA, simprocAttr]
    refine call_fn rfl rfl rfl (ok28 e _ [] greatZ l hl (fun x _ => ok27 x)) ?_
    cases hgr : l.any greatZ with
    | true =>
      rw [if_pos hgr] at hz
      simp -implicitDefEqProofs (maxSteps := 10000000) only [hz, rkA, rkB, stepA, valA, simprocAttr]
    | false =>
      rw [if_neg (by rw [hgr]; decide)] at hz
      simp -implicitDefEqProofs (maxSteps := 10000000) only [rkA, rkB, stepA, valA, simprocAttr]
      by_cases h3 : k = 3
      · subst h3
        rw [if_pos rfl] at hz hpl
        obtain ⟨x, hxx⟩ : ∃ x, partZ 3 m l 1 = [x] := by
          cases hh : partZ 3 m l 1 with
          | nil => rw [hh] at hpl; cases hpl
          | cons x r =>
            rw [hh] at hpl
            have : r = [] := List.eq_nil_of_length_eq_zero (by simpa using hpl)
            subst this
            exact ⟨x, rfl⟩
        have hb0 : ∀ z : Int, ((z : Int) == z) = true := fun z => by simp
        rw [hxx] at hg1 hz
        have hz : soundZ 3 q m l = if x < 65536 then 9 else 0 := hz
        simp -implicitDefEqProofs (maxSteps := 10000000) only [hb0, hg1, rkA, rkB, stepA, valA, simprocAttr]
        by_cases hlow : x < 65536
        · have hz' : soundZ 3 q m l = 9 := by rw [hz, if_pos hlow]
          simp -implicitDefEqProofs (maxSteps := 10000000) only [hlow, hz', rkA, rkB, stepA, valA, simprocAttr]
        · have hz' : soundZ 3 q m l = 0 := by rw [hz, if_neg hlow]
          simp -implicitDefEqProofs (maxSteps := 10000000) only [hlow, hb0, hz', rkA, rkB, stepA, valA, simprocAttr]
      · rw [if_neg h3] at hz hpl
        have h3' : (k == 3) = false := by simpa using h3
        have hmm : m * m ≤ 16 := Nat.mul_le_mul h4 h4
        simp -implicitDefEqProofs (maxSteps := 10000000) only [h3', rkA, rkB, stepA, valA, simprocAttr]
        refine wp_loop (fun m' s => ∃ i : Nat, i + m' = m ∧ (∀ j, j < i → ¬ (partZ k m l 1).getD (j * m + j) 0 < 65536) ∧ s = ⟨[jk, .ptr 1 0, jk, jk, .v (.sl false ((partsZ k m l).map rowV)), jk, jk, jk, jk, jk, jk, jk, jk, jk, jk, jk, jk, jk, jk, jk, jk, jk, jk, jk, jk, jk, jk, jk, jk, jk, jk, jk, jk, nt m, nt i, jk, jk, jk, jk, jk, jk, jk, jk, jk, jk, jk, jk, jk, jk, jk], [(1, [.v (num k), .v (num q), .v (num m), .v (.sl e (l.map num))])], [], [], [], 0, nomem⟩) m ?_ ?_
        · simp -implicitDefEqProofs (maxSteps := 10000000) only [rkA, rkB, stepA, valA, simprocAttr]
          exact ⟨0, by omega, fun j hj => by omega, rfl⟩
        rintro m' s ⟨i, hi, hb, rfl⟩
        simp -implicitDefEqProofs (maxSteps := 10000000) only [rkA, rkB, stepA, valA, simprocAttr]
        refine gB_dec ?_ ?_ <;> intro hc <;> simp -implicitDefEqProofs (maxSteps := 10000000) only [hc, rkA, rkB, stepA, valA, simprocAttr]
        · have him : i < m := by omega
          have t0 := at_table (i := i) (j := i) (n := m) (m := m) him him
          have d1 : (i : Int) * (m : Int) = ((i * m : Nat) : Int) := by simp
          have d2 : ((i * m : Nat) : Int) + (i : Int) = ((i * m + i : Nat) : Int) := by simp
          have e1 := wrapped (x := ((i * m : Nat) : Int)) (by omega) (by omega)
          have e2 := wrapped (x := ((i * m + i : Nat) : Int)) (by omega) (by omega)
          have n2 : (0 : Int) ≤ ((i * m + i : Nat) : Int) := by omega
          have g2 := at_num (a := partZ k m l 1) (i := i * m + i) (by omega)
          have hw := wrapped (x := (i : Int) + 1) (by omega) (by omega)
          simp -implicitDefEqProofs (maxSteps := 10000000) only [hg1, d1, e1, d2, e2, n2, Int.toNat_natCast, g2, rkA, rkB, stepA, valA, simprocAttr]
          by_cases hlow : (partZ k m l 1).getD (i * m + i) 0 < 65536
          · have hz' : soundZ k q m l = 9 := by
              rw [hz, if_pos]
              unfold lowZ
              rw [List.any_eq_true]
              exact ⟨i, by simpa using him, by simpa using hlow⟩
            simp -implicitDefEqProofs (maxSteps := 10000000) only [hlow, hz', rkA, rkB, stepA, valA, simprocAttr]
          · simp -implicitDefEqProofs (maxSteps := 10000000) only [hlow, hw, rkA, rkB, stepA, valA, simprocAttr]
            refine loopK_of (m' := m' - 1) (by omega) ?_
            simp -implicitDefEqProofs (maxSteps := 10000000) only [rkA, rkB, stepA, valA, simprocAttr]
            refine ⟨i + 1, by omega, fun j hj => ?_, by simp only [Int.natCast_add, Int.natCast_one]⟩
            by_cases ej : j = i
            · subst ej; exact hlow
            · exact hb j (by omega)
        · have hz' : soundZ k q m l = 0 := by
            rw [hz, if_neg]
            unfold lowZ
            rw [List.any_eq_true]
            rintro ⟨j, hj, hlow⟩
            have hjm : j < m := by simpa using hj
            exact hb j (by omega) (by simpa using hlow)
          simp -implicitDefEqProofs (maxSteps := 10000000) only [hz', rkA, rkB, stepA, valA, simprocAttr]
end Go.Proofs.Ytambpjbpdackfaa.A.E


set_option linter.unusedVariables false
set_option linter.unusedSimpArgs false
set_option maxRecDepth 100000
namespace Go.Proofs.Ytambpjbpdackfaa.A.E
open Go Go.RowKit Go.Shelf

theorem methAdd : Meth Try.prog 23 "Add" 93 := by
  intro v xs w
  rfl
theorem methMul : Meth Try.prog 23 "Mul" 94 := by
  intro v xs w
  rfl

def sumF (l : List Fr) : Fr := l.foldl addF (newF 0 1)

theorem ok73 (ex : Bool) (l : List Fr) (h : l.length ≤ 4398046511104) : Ok Try.prog 73 [.sl ex (frs l)] (frV (sumF l)) := by
  refine ok_fn mixed Try.func73 (code := ?_) (h := h73) ?_ k73 ?_
  rotate_left
  · exact rfl
  unfold h73 initS
  simp -implicitDefEqProofs only [rkA, rkB, stepA, valA, simprocAttr, Try.ntmps73, Try.results73]
  refine call_meth rfl rfl methOf (ok95 ⟨0, 0, 0, false⟩ 0) ?_
  simp -implicitDefEqProofs only [rkA, rkB, stepA, valA, simprocAttr]
  refine wp_loop (fun m s => ∃ i, i + m = l.length ∧ s = ⟨[jk, jk, .ptr 2 0, jk, .ptr 4 0, jk, jk, jk, jk, jk, .v (.sl ex (frs l)), nt l.length, nt i, jk, jk, jk, jk, jk, jk, jk, jk, jk],
    [(2, [nt 0, nt 0, nt 0, .v (tru false)]), (3, [nt 0, nt 0, nt 0, .v (tru false)]), (4, [nt (sumF (l.take i)).v, nt (sumF (l.take i)).lo, nt (sumF (l.take i)).hi, .v (tru (sumF (l.take i)).bad)])], [], [], [], 0, nomem⟩) l.length ?_ ?_
  · simp -implicitDefEqProofs only [rkA, rkB, stepA, valA, simprocAttr]
    refine ⟨0, by simp, ?_⟩
    simp [sumF]
  rintro m s ⟨i, hi, rfl⟩
  simp -implicitDefEqProofs only [rkA, rkB, stepA, valA, simprocAttr]
  refine gB_dec ?_ ?_ <;> intro hc <;> simp -implicitDefEqProofs only [hc, rkA, rkB, stepA, valA, simprocAttr]
  · have hlt : i < l.length := by omega
    have h0 : (0 : Int) ≤ (i : Int) := by omega
    have hg : (frs l)[i]? = some (frV l[i]) := by simp [hlt]
    simp -implicitDefEqProofs only [h0, Int.toNat_natCast, hg, rkA, rkB, stepA, valA, simprocAttr]
    refine call_meth rfl rfl methAdd (ok93 (sumF (l.take i)) l[i]) ?_
    have hw := wrapped (x := (i : Int) + 1) (by omega) (by omega)
    simp -implicitDefEqProofs only [hw, rkA, rkB, stepA, valA, simprocAttr]
    refine loopK_of (m' := m - 1) (by omega) ?_
    simp -implicitDefEqProofs only [rkA, rkB, stepA, valA, simprocAttr]
    refine ⟨i + 1, by omega, ?_⟩
    have e : sumF (l.take (i + 1)) = addF (sumF (l.take i)) l[i] := by
      unfold sumF
      rw [List.take_succ_eq_append_getElem hlt, List.foldl_append]
      rfl
    rw [e]
    simp only [Int.natCast_add, Int.natCast_one]
  · have : l.length ≤ i := by omega
    rw [List.take_of_length_le this]

theorem ok75 (a b : Fr) : Ok Try.prog 75 [frV a, frV b] (frV (mulF a b)) := by
  refine ok_fn mixed Try.func75 (code := ?_) (h := h75) ?_ k75 ?_
  rotate_left
  · exact rfl
  unfold h75 initS
  simp -implicitDefEqProofs only [rkA, rkB, stepA, valA, simprocAttr, Try.ntmps75, Try.results75]
  refine call_meth rfl rfl methMul (ok94 a b) ?_
  simp -implicitDefEqProofs only [rkA, rkB, stepA, valA, simprocAttr]

theorem sl_frs {ex : Bool} {l : List Fr} {a b : Nat} (h1 : a ≤ b) (h2 : b ≤ l.length) : sliceA 4 (frs l) ex (some a) (some b) none = some (.sl (exA none ex b (frs l).length) (frs ((l.take b).drop a))) := by
  unfold sliceA
  simp only [Option.getD_some]
  rw [if_pos ⟨h1, by simpa using h2, by simp, by simp [PV.cells]⟩]
  simp

/-- A row. -/
def rowF (r c : Int) (l : List Fr) (i : Int) : List Fr := if right r c l.length = true ∧ 0 ≤ i ∧ i < r then (l.take ((i + 1) * c).toNat).drop (i * c).toNat else []

theorem ok72 (ex : Bool) (r c i : Int) (l : List Fr) : Ok Try.prog 72 [matV ex r c (frs l), num i] (.sl false (frs (rowF r c l i))) := by
  refine ok_fn mixed Try.func72 (code := ?_) (h := h72) ?_ k72 ?_
  rotate_left
  · exact rfl
  unfold h72 initS
  simp -implicitDefEqProofs only [rkA, rkB, stepA, valA, simprocAttr, Try.ntmps72, Try.results72]
  refine call_fn rfl rfl rfl (ok57 ex r c (frs l)) ?_
  have e : (frs l).length = l.length := by simp
  rw [e]
  cases hr : right r c l.length with
  | false =>
    simp -implicitDefEqProofs only [rkA, rkB, stepA, valA, simprocAttr]
    simp [rowF, hr]
  | true =>
    obtain ⟨r1, r2, c1, c2, hn⟩ := right_spec hr
    simp -implicitDefEqProofs only [rkA, rkB, stepA, valA, simprocAttr]
    repeat' (refine gB_dec ?_ ?_ <;> intro hc <;> first | (exfalso; omega) | simp -implicitDefEqProofs only [hc, rkA, rkB, stepA, valA, simprocAttr])
    · rw [show rowF r c l i = [] from if_neg (fun ⟨_, _, _⟩ => by omega)]; rfl
    · rw [show rowF r c l i = [] from if_neg (fun ⟨_, _, _⟩ => by omega)]; rfl
    · obtain ⟨b1, b2, b3, b4, b5⟩ := at_bound (i := i) (k := 0) r2 ⟨c1, c2⟩ (by omega) (by omega)
      have b6 : (i + 1) * c = i * c + c := by rw [Int.add_mul, Int.one_mul]
      have b7 : (i + 1) * c ≤ r * c := Int.mul_le_mul_of_nonneg_right (by omega) (by omega)
      have w1 := wrapped (x := i * c) (by omega) (by omega)
      have w2 := wrapped (x := i + 1) (by omega) (by omega)
      have w3 := wrapped (x := (i + 1) * c) (by omega) (by omega)
      have h3 : 0 ≤ (i + 1) * c := by omega
      have hs := sl_frs (ex := ex) (l := l) (a := (i * c).toNat) (b := ((i + 1) * c).toNat) (by omega) (by omega)
      have hrow : rowF r c l i = (l.take ((i + 1) * c).toNat).drop (i * c).toNat := if_pos ⟨hr, by omega, by omega⟩
      rw [hrow]
      simp -implicitDefEqProofs only [w1, w2, w3, b1, h3, hs, rkA, rkB, stepA, valA, simprocAttr]
      refine call_fn rfl rfl rfl (ok33 _ _ (by simp; omega)) ?_
      simp -implicitDefEqProofs only [rkA, rkB, stepA, valA, simprocAttr]
end Go.Proofs.Ytambpjbpdackfaa.A.E


set_option linter.unusedVariables false
set_option linter.unusedSimpArgs false
set_option maxRecDepth 100000
namespace Go.Proofs.Ytambpjbpdackfaa.A.E
open Go Go.RowKit Go.Shelf

def rowsF (r c : Int) (l : List Fr) : List (List PV) := if right r c l.length = true then (List.range r.toNat).map fun (i : Nat) => [num (i : Int), .sl false (frs (rowF r c l (i : Int)))] else []

theorem it71 (ex : Bool) (r c : Int) (l : List Fr) : IterOk Try.prog (.fn (.func 71) [.vp [num r, num c, .sl ex (frs l)]]) (rowsF r c l) := by
  refine iter_fn mixed Try.func71 (code := ?_) (h := h71) ?_ k71 ?_ ?_
  rotate_left
  · exact rfl
  · exact rfl
  intro yl
  unfold h71 initS
  simp -implicitDefEqProofs only [rkA, rkB, stepA, valA, simprocAttr, Try.ntmps71]
  refine wp_loop (fun m s => ∃ i : Nat, i + m = (rowsF r c l).length ∧ s = ⟨[.v (.fn (.yield yl) []), .v (.vp [num r, num c, .sl ex (frs l)]), jk, nt i, jk, jk, jk, jk, jk, jk, jk, jk, jk, jk, jk, jk, jk, jk, jk, jk, jk], [], [], [], [], i, nomem⟩) (rowsF r c l).length ?_ ?_
  · simp -implicitDefEqProofs only [rkA, rkB, stepA, valA, simprocAttr]
    exact ⟨0, by simp, rfl⟩
  rintro m s ⟨i, hi, rfl⟩
  simp -implicitDefEqProofs only [rkA, rkB, stepA, valA, simprocAttr]
  refine call_fn rfl rfl rfl (ok57 ex r c (frs l)) ?_
  have e : (frs l).length = l.length := by simp
  rw [e]
  cases hr : right r c l.length with
  | false =>
    simp -implicitDefEqProofs only [rkA, rkB, stepA, valA, simprocAttr]
    have hl : (rowsF r c l).length = 0 := by simp [rowsF, hr]
    omega
  | true =>
    obtain ⟨r1, r2, c1, c2, hn⟩ := right_spec hr
    have hl : (rowsF r c l).length = r.toNat := by simp [rowsF, hr]
    simp -implicitDefEqProofs only [rkA, rkB, stepA, valA, simprocAttr]
    refine gB_dec ?_ ?_ <;> intro hc <;> simp -implicitDefEqProofs only [hc, rkA, rkB, stepA, valA, simprocAttr]
    · refine call_fn rfl rfl rfl (ok72 ex r c i l) ?_
      simp -implicitDefEqProofs only [rkA, rkB, stepA, valA, simprocAttr]
      have hx : (rowsF r c l)[i]? = some [num (i : Int), .sl false (frs (rowF r c l i))] := by
        have : i < r.toNat := by omega
        simp [rowsF, hr, this]
      have hw := wrapped (x := (i : Int) + 1) (by omega) (by omega)
      refine call_yield rfl rfl rfl rfl rfl hx ?_ ?_
      · simp -implicitDefEqProofs only [hw, rkA, rkB, stepA, valA, simprocAttr]
        refine loopK_of (m' := m - 1) (by omega) ?_
        simp -implicitDefEqProofs only [rkA, rkB, stepA, valA, simprocAttr]
        exact ⟨i + 1, by omega, by simp only [Int.natCast_add, Int.natCast_one]⟩
      · simp -implicitDefEqProofs only [rkA, rkB, stepA, valA, simprocAttr]
        exact .inr trivial
    · omega

theorem ok68 (ex : Bool) (r c : Int) (l : List Fr) : Ok Try.prog 68 [matV ex r c (frs l)] (.fn (.func 71) [.vp [num r, num c, .sl ex (frs l)]]) := by
  refine ok_fn mixed Try.func68 (code := ?_) (h := h68) ?_ k68 ?_
  rotate_left
  · exact rfl
  unfold h68 initS
  simp -implicitDefEqProofs only [rkA, rkB, stepA, valA, simprocAttr, Try.ntmps68, Try.results68]

def pairsF (a b : List Fr) : List (List PV) := (List.zip a b).map fun p => [frV p.1, frV p.2]

theorem it77 (ea eb : Bool) (a b : List Fr) (ha : a.length ≤ 4398046511104) (hb : b.length ≤ 4398046511104) : IterOk Try.prog (.fn (.func 77) [.vp [.sl ea (frs a)], .vp [.sl eb (frs b)]]) (pairsF a b) := by
  refine iter_fn mixed Try.func77 (code := ?_) (h := h77) ?_ k77 ?_ ?_
  rotate_left
  · exact rfl
  · exact rfl
  intro yl
  unfold h77 initS
  simp -implicitDefEqProofs only [rkA, rkB, stepA, valA, simprocAttr, Try.ntmps77]
  have hl : (pairsF a b).length = min a.length b.length := by simp [pairsF]
  have hx0 : ∀ (i : Nat) (ha : i < a.length) (hb : i < b.length), (pairsF a b)[i]? = some [frV a[i], frV b[i]] := fun i h1 h2 => by
    rw [pairsF, List.getElem?_map, List.getElem?_eq_getElem (by simp; omega), Option.map_some, List.getElem_zip]
  have hmin : (if ((frs b).length : Int) < ((frs a).length : Int) then ((frs b).length : Int) else ((frs a).length : Int)) = ((min a.length b.length : Nat) : Int) := by
    simp only [List.length_map]
    split <;> omega
  simp only [hmin]
  refine wp_loop (fun m s => ∃ i : Nat, i + m = (pairsF a b).length ∧ s = ⟨[.v (.fn (.yield yl) []), .v (.vp [.sl ea (frs a)]), .v (.vp [.sl eb (frs b)]), jk, jk, jk, jk, jk, jk, nt ((min a.length b.length : Nat) : Int), nt i, jk, jk, jk, jk, jk, jk, jk, jk, jk, jk, jk, jk, jk, jk], [], [], [], [], i, nomem⟩) (pairsF a b).length ?_ ?_
  · simp -implicitDefEqProofs only [rkA, rkB, stepA, valA, simprocAttr]
    exact ⟨0, by simp, rfl⟩
  rintro m s ⟨i, hi, rfl⟩
  simp -implicitDefEqProofs only [rkA, rkB, stepA, valA, simprocAttr]
  refine gB_dec ?_ ?_ <;> intro hc <;> simp -implicitDefEqProofs only [hc, rkA, rkB, stepA, valA, simprocAttr]
  · have h1 : i < a.length := by omega
    have h2 : i < b.length := by omega
    have h0 : (0 : Int) ≤ (i : Int) := by omega
    have g1 : (frs a)[i]? = some (frV a[i]) := by simp [h1]
    have g2 : (frs b)[i]? = some (frV b[i]) := by simp [h2]
    simp -implicitDefEqProofs only [h0, Int.toNat_natCast, g1, g2, rkA, rkB, stepA, valA, simprocAttr]
    have hw := wrapped (x := (i : Int) + 1) (by omega) (by omega)
    refine call_yield rfl rfl rfl rfl rfl (hx0 i h1 h2) ?_ ?_
    · simp -implicitDefEqProofs only [hw, rkA, rkB, stepA, valA, simprocAttr]
      refine loopK_of (m' := m - 1) (by omega) ?_
      simp -implicitDefEqProofs only [rkA, rkB, stepA, valA, simprocAttr]
      exact ⟨i + 1, by omega, by simp only [Int.natCast_add, Int.natCast_one]⟩
    · simp -implicitDefEqProofs only [rkA, rkB, stepA, valA, simprocAttr]
      exact .inr trivial
  · omega

theorem ok76 (ea eb : Bool) (a b : List Fr) : Ok Try.prog 76 [.sl ea (frs a), .sl eb (frs b)] (.fn (.func 77) [.vp [.sl ea (frs a)], .vp [.sl eb (frs b)]]) := by
  refine ok_fn mixed Try.func76 (code := ?_) (h := h76) ?_ k76 ?_
  rotate_left
  · exact rfl
  unfold h76 initS
  simp -implicitDefEqProofs only [rkA, rkB, stepA, valA, simprocAttr, Try.ntmps76, Try.results76]
end Go.Proofs.Ytambpjbpdackfaa.A.E


