import Derived.Test.YtambpjbpdackfaaGreatM3
import Derived.Test.YtambpjbpdackfaaGreatProg
import Derived.Lib.Mul64
import Derived.Shelf.Small.Bits
set_option linter.unusedVariables false
namespace Go.Proofs.YtambpjbpdackfaaGreat.A
open Go Go.RowKit Go.Shelf
theorem mixed : Tryz.prog.follows .mixedOrders = true := by kernel_rfl

/- couplet/coupletlaw08.HouseFolds -/
/- couplet/coupletlaw10.RootEncloses -/
/- couplet/coupletlaw16.CompareBounds -/
/- couplet/coupletlaw15.LanesBegin -/
/- couplet/coupletlaw15.LanesStep -/
/- couplet/coupletlaw15.LanesNews -/
/- couplet/coupletlaw15.LanesOwn -/
/- couplet/coupletlaw15.LanesWords -/
/- couplet/coupletlaw16.CompareCalm -/
/- couplet/coupletlaw15.LanesMeet -/
/- couplet/coupletlaw15.LanesFault -/
/- couplet/coupletlaw16.CompareRows -/
/- couplet/coupletlaw16.CompareTrips -/
/- couplet/coupletlaw15.LanesSeed -/
/- couplet/mat.New(couplet/env.Num) -/
def h17 : Hint := .s (.r [(0, { zero := [(.int .i64 0), (.int .i64 0), (.slice none 0 0)], acc := [(2, 3006)] })]) (.s (.r [(4, { zero := [(.int .i64 0), (.int .i64 0), (.slice none 0 0)], places := [(0, 1), (1, 1), (2, 1)] }), (5, { zero := [(.int .i64 0), (.int .i64 0), (.slice none 0 0)], acc := [(2, 3008)] }), (6, { n := 3 })]) (.s (.s (.r [(0, { n := 3, agg := true })]) (.s (.s (.r [(0, { zero := [(.int .i64 0), (.int .i64 0), (.slice none 0 0)], places := [(0, 1), (1, 1), (2, 1)] }), (1, { n := 3 })]) (.o)) (.o))) (.s (.r [(0, { n := 3, agg := true }), (1, { n := 3 })]) (.o))))
theorem k17 : okF Tryz.prog Tryz.f17 h17 [(true, 3), (false, 0)] = true := by kernel_rfl
/- couplet/mat.New(couplet/env.Num) -/
def hN17 : Hint := .s (.r [(0, { zero := [(.int .i64 0), (.int .i64 0), (.slice none 0 0)], acc := [(2, 3006)] })]) (.s (.r [(3, { mc := 6 }), (4, { zero := [(.int .i64 0), (.int .i64 0), (.slice none 0 0)], places := [(0, 1), (1, 1), (2, 1)] }), (5, { zero := [(.int .i64 0), (.int .i64 0), (.slice none 0 0)], acc := [(2, 3008)] }), (6, { n := 3 })]) (.s (.s (.r [(0, { n := 3, agg := true }), (1, { mc := 1 })]) (.s (.s (.r [(0, { zero := [(.int .i64 0), (.int .i64 0), (.slice none 0 0)], places := [(0, 1), (1, 1), (2, 1)] }), (1, { n := 3 })]) (.o)) (.o))) (.s (.r [(0, { n := 3, agg := true }), (1, { n := 3 })]) (.o))))
theorem kN17 : okF Tryz.prog Tryz.f17 hN17 [(true, 3), (false, 0)] = true := by kernel_rfl

/- couplet/coupletlaw08.awake -/
/- couplet/house.Fold(couplet/env.Num) -/
def h19 : Hint := .s (.r [(0, { n := 3 }), (1, { zero := [(.int .i64 0), (.int .i64 0), (.slice none 0 0)], acc := [(2, 3002)] })]) (.s (.s (.r [(0, { n := 3, agg := true }), (4, { off := 0 }), (5, { n := 1, agg := false }), (6, { off := 1 }), (7, { n := 1, agg := false })]) (.s (.s (.r [(0, { zero := [(.int .i64 0), (.int .i64 0), (.slice none 0 0)], places := [(0, 1), (1, 1), (2, 1)] }), (1, { n := 3 })]) (.o)) (.o))) (.s (.r [(0, { zero := [(.slice none 0 0)], acc := [(0, 1004)] })]) (.s (.s (.r [(0, { n := 3, agg := true })]) (.b (.f [.row 2 2 15002, .row 4 0 5004, .row 11 2 15011] (.o) (.b (.r [(0, { n := 1, agg := false }), (2, { n := 1 }), (3, { n := 1, t := 24 }), (4, { n := 1 })]))))) (.s (.s (.r [(0, { off := 0 }), (1, { n := 1, agg := false })]) (.b (.l [.junk [0, 3, 5, 6, 7, 8, 9, 10, 11, 12, 13, 14, 15, 16, 17, 18, 19, 20, 21, 22, 23, 24, 25, 26, 27, 28, 29, 30, 31, 32, 35, 36, 37, 38, 39, 40, 41, 42, 43, 44, 45, 46, 47, 48, 49, 50, 51, 52, 53, 54, 55, 56, 57, 58, 59, 60, 61, 62, 63, 64, 65, 66, 67, 68, 69, 70, 71]] (.s (.o) (.s (.s (.o) (.o)) (.s (.b (.s (.o) (.r [(0, { n := 1, agg := false }), (2, { mc := 2 })]))) (.o))))))) (.s (.r [(0, { acc := [(0, 8)] })]) (.s (.s (.r [(0, { n := 1, agg := false })]) (.b (.l [.junk [0, 3, 4, 5, 6, 7, 9, 10, 11, 12, 13, 14, 15, 16, 17, 18, 19, 20, 21, 22, 23, 24, 25, 26, 27, 28, 29, 30, 31, 32, 33, 34, 35, 36, 37, 38, 39, 40, 44, 45, 46, 47, 48, 49, 50, 51, 52, 53, 54, 55, 56, 57, 58, 59, 60, 61, 62, 63, 64, 65, 66, 67, 68, 69, 70, 71], .row 2 2 15002, .row 4 0 5004, .row 11 2 15011] (.s (.o) (.s (.s (.o) (.o)) (.s (.b (.s (.r [(0, { n := 1 }), (1, { n := 1, agg := false })]) (.r [(2, { off := 0 }), (3, { n := 1, agg := false }), (4, { n := 4 }), (5, { n := 4, t := 32, mc := 4 })]))) (.o))))))) (.s (.r [(0, { off := 0 }), (1, { n := 1, agg := false }), (2, { off := 0 }), (3, { n := 1, agg := false }), (9, { zero := [(.int .i64 0), (.int .i64 0), (.slice none 0 0)], acc := [(2, 3011)] }), (10, { n := 3 })]) (.s (.r [(0, { n := 3, agg := true }), (5, { n := 3 })]) (.s (.r [(0, { n := 3, agg := true }), (4, { n := 3 })]) (.o))))))))))
theorem k19 : okF Tryz.prog Tryz.f19 h19 [(true, 3), (false, 0)] = true := by kernel_rfl

/- couplet/coupletlaw08.Same -/
/- couplet/coupletref08.Fold -/
/- couplet/coupletref08.Fold -/
/- couplet/coupletlaw08.Numbers -/
/- couplet/coupletlaw09.Few -/
/- couplet/coupletlaw10.awake -/
/- couplet/coupletref07.Clear -/
/- couplet/mat.Whole(couplet/frac.Frac) -/
/- couplet/mat.Whole(couplet/frac.Frac) -/
/- couplet/joseph.Predict(couplet/frac.Frac) -/
/- couplet/coupletlaw09.Start -/
/- couplet/joseph.Update(couplet/frac.Frac) -/
/- couplet/vec.Whole(couplet/frac.Frac) -/
/- couplet/frac.New -/
/- couplet/coupletlaw10.lanes -/
/- couplet/coupletlaw09.Within -/
/- (couplet/root.State(couplet/env.Num)).Cover -/
def h34 : Hint := .s (.r [(0, { n := 4 }), (1, { zero := [(.int .i64 0), (.int .i64 0), (.slice none 0 0)], acc := [(2, 3002)] })]) (.s (.s (.r [(0, { n := 4, agg := true })]) (.s (.s (.r [(0, { zero := [(.int .i64 0), (.int .i64 0), (.slice none 0 0)], places := [(0, 1), (1, 1), (2, 1)] }), (1, { n := 3 })]) (.o)) (.o))) (.s (.r [(0, { off := 1 }), (1, { n := 3, agg := true }), (6, { zero := [(.int .i64 0), (.int .i64 0), (.slice none 0 0)], acc := [(2, 3003)] }), (7, { n := 3 })]) (.s (.r [(0, { n := 3, agg := true }), (1, { n := 3 })]) (.o))))
theorem k34 : okF Tryz.prog Tryz.f34 h34 [(true, 3)] = true := by kernel_rfl

/- couplet/coupletlaw15.Few -/
def h35 : Hint := .s (.o) (.s (.s (.o) (.b (.l [.junk [1, 2, 4, 5, 6, 7, 8, 9, 10, 11, 12, 13, 14, 15, 16, 17, 18, 19, 20, 21, 22, 23]] (.s (.s (.o) (.s (.o) (.o))) (.s (.b (.s (.r [(2, { n := 4 }), (3, { off := 3 }), (4, { n := 1, agg := false })]) (.s (.s (.o) (.o)) (.o)))) (.o)))))) (.s (.o) (.o)))
theorem k35 : okF Tryz.prog Tryz.f35 h35 [(false, 0)] = true := by kernel_rfl

/- couplet/coupletlaw16.awake -/
/- couplet/coupletlaw15.Play -/
/- couplet/compare.Odds -/
/- couplet/coupletlaw15.awake -/
def h39 : Hint := .s (.o) (.s (.o) (.s (.r [(1, { n := 1 }), (2, { zero := [(.int .i64 0), (.int .i64 0), (.int .i64 0), (.slice none 0 0)], places := [(0, 1), (1, 1), (2, 1), (3, 1)] }), (7, { zero := [(.slice none 0 0), (.int .i64 0), (.int .i64 0), (.slice none 0 0), (.slice none 0 0), (.int .i64 0), (.int .i64 0), (.slice none 0 0), (.int .i64 0), (.int .i64 0), (.int .i64 0), (.bool false), (.int .i64 0), (.int .i64 0), (.int .i64 0), (.bool false), (.int .i64 0), (.int .i64 0), (.int .i64 0), (.bool false), (.int .i64 0), (.int .i64 0), (.int .i64 0), (.bool false)], acc := [(0, 1002), (3, 4002), (4, 5002), (7, 8002)] }), (8, { n := 24 })]) (.s (.r [(0, { n := 24, agg := true }), (5, { n := 1 }), (6, { zero := [(.int .i64 0), (.int .i64 0), (.int .i64 0), (.slice none 0 0)], places := [(0, 1), (1, 1), (2, 1), (3, 1)] }), (11, { zero := [(.slice none 0 0), (.int .i64 0), (.int .i64 0), (.slice none 0 0), (.slice none 0 0), (.int .i64 0), (.int .i64 0), (.slice none 0 0), (.int .i64 0), (.int .i64 0), (.int .i64 0), (.bool false), (.int .i64 0), (.int .i64 0), (.int .i64 0), (.bool false), (.int .i64 0), (.int .i64 0), (.int .i64 0), (.bool false), (.int .i64 0), (.int .i64 0), (.int .i64 0), (.bool false)], acc := [(0, 1004), (3, 4004), (4, 5004), (7, 8004)] }), (12, { n := 24 })]) (.s (.s (.r [(7, { n := 24, agg := true }), (13, { n := 24, agg := true })]) (.s (.s (.o) (.o)) (.o))) (.s (.r [(0, { n := 24, agg := true }), (2, { n := 4 }), (3, { n := 4, agg := true }), (6, { n := 24, agg := true }), (8, { n := 4 }), (9, { n := 4, agg := true }), (13, { n := 24, agg := true }), (18, { n := 24, agg := true }), (24, { n := 24, agg := true })]) (.o))))))
theorem k39 : okF Tryz.prog Tryz.f39 h39 [(false, 0)] = true := by kernel_rfl

/- couplet/lanes.Begin -/
def h40 : Hint := .s (.r [(0, { n := 4 }), (1, { zero := [(.slice none 0 0), (.int .i64 0), (.int .i64 0), (.slice none 0 0), (.slice none 0 0), (.int .i64 0), (.int .i64 0), (.slice none 0 0), (.int .i64 0), (.int .i64 0), (.int .i64 0), (.bool false), (.int .i64 0), (.int .i64 0), (.int .i64 0), (.bool false), (.int .i64 0), (.int .i64 0), (.int .i64 0), (.bool false), (.int .i64 0), (.int .i64 0), (.int .i64 0), (.bool false)], acc := [(0, 1002), (3, 4002), (4, 5002), (7, 8002)] })]) (.s (.s (.r [(0, { n := 4, agg := true }), (4, { off := 0 }), (5, { n := 1, agg := false })]) (.s (.s (.r [(0, { zero := [(.slice none 0 0), (.int .i64 0), (.int .i64 0), (.slice none 0 0), (.slice none 0 0), (.int .i64 0), (.int .i64 0), (.slice none 0 0), (.int .i64 0), (.int .i64 0), (.int .i64 0), (.bool false), (.int .i64 0), (.int .i64 0), (.int .i64 0), (.bool false), (.int .i64 0), (.int .i64 0), (.int .i64 0), (.bool false), (.int .i64 0), (.int .i64 0), (.int .i64 0), (.bool false)], places := [(0, 4), (4, 4), (8, 16)] }), (1, { n := 24 })]) (.o)) (.o))) (.s (.r [(0, { n := 4, agg := true })]) (.s (.d [] [(0, { off := 2 }), (1, { n := 1, agg := false }), (3, { n := 1 }), (4, { n := 1, agg := false }), (6, { zero := [(.int .i64 0), (.int .i64 0), (.slice none 0 0)], acc := [(2, 3005)] }), (7, { n := 3 })]) (.s (.d [] [(1, { n := 1 }), (2, { n := 1, agg := false }), (4, { n := 3, agg := true }), (9, { zero := [(.slice none 0 0), (.int .i64 0), (.int .i64 0), (.slice none 0 0)], acc := [(0, 1006), (3, 4006)] }), (10, { n := 4 })]) (.s (.d [] [(1, { n := 1 }), (2, { n := 1, agg := false }), (4, { off := 1 }), (5, { n := 3, agg := true }), (10, { zero := [(.slice none 0 0), (.int .i64 0), (.int .i64 0), (.slice none 0 0)], acc := [(0, 1008), (3, 4008)] }), (11, { n := 4 })]) (.s (.r [(0, { n := 4, agg := true }), (1, { n := 4, agg := true }), (2, { zero := [(.slice none 0 0), (.int .i64 0), (.int .i64 0), (.slice none 0 0), (.slice none 0 0), (.int .i64 0), (.int .i64 0), (.slice none 0 0), (.int .i64 0), (.int .i64 0), (.int .i64 0), (.bool false), (.int .i64 0), (.int .i64 0), (.int .i64 0), (.bool false), (.int .i64 0), (.int .i64 0), (.int .i64 0), (.bool false), (.int .i64 0), (.int .i64 0), (.int .i64 0), (.bool false)], places := [(0, 4), (4, 4), (8, 16)] }), (3, { n := 24 })]) (.o)))))))
theorem k40 : okF Tryz.prog Tryz.f40 h40 [(true, 24), (false, 0)] = true := by kernel_rfl

/- couplet/check.Sound -/
def h41 : Hint := .s (.r [(0, { n := 4 })]) (.s (.o) (.s (.r [(0, { n := 4, agg := true })]) (.s (.b (.s (.r [(1, { n := 3, t := 1 })]) (.s (.s (.o) (.o)) (.s (.r [(0, { off := 3 }), (1, { n := 1, agg := false })]) (.s (.s (.o) (.o)) (.s (.r [(0, { off := 0 }), (1, { n := 1, agg := false }), (5, { n := 1 }), (6, { n := 1, agg := false }), (7, { n := 1 }), (8, { n := 1, agg := false })]) (.s (.s (.o) (.o)) (.s (.r [(0, { off := 0 }), (1, { n := 1, agg := false })]) (.s (.s (.o) (.o)) (.o)))))))))) (.s (.s (.r [(0, { off := 2 }), (1, { n := 1, agg := false })]) (.b (.l [.junk [0, 2, 3, 5, 6, 7, 8, 9, 10, 11, 12, 13, 14, 15, 16, 17, 18, 19, 20, 21, 22, 23, 24, 25, 26, 27, 28, 29, 30, 31, 32, 35, 36, 37, 38, 39, 40, 41, 42, 43, 44, 45, 46, 47, 48, 49]] (.s (.o) (.s (.s (.o) (.o)) (.s (.b (.s (.o) (.s (.r [(1, { n := 1 }), (2, { n := 1, agg := false }), (4, { off := 2 }), (5, { n := 1, agg := false }), (9, { n := 1 }), (10, { n := 1, agg := false })]) (.s (.s (.o) (.o)) (.o))))) (.o))))))) (.s (.o) (.o))))))
theorem k41 : okF Tryz.prog Tryz.f41 h41 [(false, 0)] = true := by kernel_rfl

/- (couplet/lanes.Pair).Right -/
def h42 : Hint := .s (.r [(0, { n := 24 })]) (.s (.r [(0, { off := 0 }), (1, { n := 4, agg := true }), (4, { off := 4 }), (5, { n := 4, agg := true }), (9, { off := 0 }), (10, { off := 0 }), (11, { n := 1, agg := false }), (13, { off := 4 }), (14, { off := 0 }), (15, { n := 1, agg := false })]) (.o))
theorem k42 : okF Tryz.prog Tryz.f42 h42 [(false, 0)] = true := by kernel_rfl

/- (couplet/lanes.Pair).Ruined -/
def h43 : Hint := .s (.r [(0, { n := 24 })]) (.s (.o) (.s (.s (.r [(0, { off := 8 }), (1, { n := 16, agg := true })]) (.b (.l [.junk [0, 2, 4, 5, 6, 9, 10, 11, 12, 13, 14, 15, 16, 17, 18, 19, 20, 21, 22, 23, 24, 25, 26, 27, 28, 29, 30, 31, 32, 33, 34, 35, 36, 37, 38, 39, 40], .drop [5]] (.s (.o) (.s (.s (.o) (.o)) (.s (.b (.s (.r [(0, { n := 8, agg := true, t := 2 }), (1, { zero := [(.int .i64 0), (.int .i64 0), (.int .i64 0), (.bool false), (.int .i64 0), (.int .i64 0), (.int .i64 0), (.bool false)] }), (2, { n := 8 })]) (.s (.r [(0, { off := 0 }), (1, { off := 3 }), (2, { n := 1, agg := false }), (4, { off := 4 }), (5, { off := 3 }), (6, { n := 1, agg := false })]) (.s (.s (.o) (.o)) (.o))))) (.o))))))) (.s (.r [(0, { n := 24, agg := true }), (4, { n := 24, agg := true }), (6, { n := 24, agg := true }), (8, { off := 0 }), (9, { off := 1 }), (10, { off := 2 }), (11, { n := 1, agg := false }), (12, { off := 4 }), (13, { off := 1 }), (14, { off := 2 }), (15, { n := 1, agg := false }), (16, { n := 1 })]) (.o))))
theorem k43 : okF Tryz.prog Tryz.f43 h43 [(false, 0)] = true := by kernel_rfl

/- couplet/check.Parts -/
/- couplet/coupletlaw15.points -/
/- couplet/coupletlaw09.Rows -/
/- couplet/coupletref09.Square -/
/- (couplet/lanes.Pair).After -/
def h48 : Hint := .s (.r [(0, { n := 24 }), (1, { n := 4 }), (2, { zero := [(.slice none 0 0), (.int .i64 0), (.int .i64 0), (.slice none 0 0), (.slice none 0 0), (.int .i64 0), (.int .i64 0), (.slice none 0 0), (.int .i64 0), (.int .i64 0), (.int .i64 0), (.bool false), (.int .i64 0), (.int .i64 0), (.int .i64 0), (.bool false), (.int .i64 0), (.int .i64 0), (.int .i64 0), (.bool false), (.int .i64 0), (.int .i64 0), (.int .i64 0), (.bool false)], acc := [(0, 1004), (3, 4004), (4, 5004), (7, 8004)] })]) (.s (.s (.r [(0, { n := 4, agg := true }), (4, { n := 24, agg := true }), (9, { off := 0 }), (10, { off := 0 }), (11, { n := 1, agg := false }), (13, { off := 2 }), (14, { n := 1, agg := false }), (18, { off := 0 }), (19, { n := 1, agg := false })]) (.s (.s (.r [(0, { zero := [(.slice none 0 0), (.int .i64 0), (.int .i64 0), (.slice none 0 0), (.slice none 0 0), (.int .i64 0), (.int .i64 0), (.slice none 0 0), (.int .i64 0), (.int .i64 0), (.int .i64 0), (.bool false), (.int .i64 0), (.int .i64 0), (.int .i64 0), (.bool false), (.int .i64 0), (.int .i64 0), (.int .i64 0), (.bool false), (.int .i64 0), (.int .i64 0), (.int .i64 0), (.bool false)], places := [(0, 4), (4, 4), (8, 16)] }), (1, { n := 24 })]) (.o)) (.o))) (.s (.r [(0, { n := 4, agg := true })]) (.s (.r [(0, { zero := [(.slice none 0 0), (.int .i64 0), (.int .i64 0), (.slice none 0 0), (.slice none 0 0), (.int .i64 0), (.int .i64 0), (.slice none 0 0), (.int .i64 0), (.int .i64 0), (.int .i64 0), (.bool false), (.int .i64 0), (.int .i64 0), (.int .i64 0), (.bool false), (.int .i64 0), (.int .i64 0), (.int .i64 0), (.bool false), (.int .i64 0), (.int .i64 0), (.int .i64 0), (.bool false)], acc := [(0, 1007), (3, 4007), (4, 5007), (7, 8007)] })]) (.s (.s (.r [(0, { off := 0 }), (1, { n := 1, agg := false })]) (.s (.s (.d [] [(0, { off := 2 }), (1, { n := 1, agg := false }), (3, { n := 1 }), (4, { n := 1, agg := false }), (6, { off := 2 }), (7, { n := 1, agg := false }), (9, { n := 1 }), (10, { n := 1, agg := false }), (12, { zero := [(.int .i64 0), (.int .i64 0), (.slice none 0 0)], acc := [(2, 3008)] }), (13, { zero := [(.int .i64 0), (.int .i64 0), (.slice none 0 0)], acc := [(2, 3009)] }), (14, { n := 3 }), (15, { n := 3 })]) (.s (.r [(0, { off := 0 }), (1, { n := 4, agg := true }), (2, { n := 3, agg := true }), (3, { n := 3, agg := true }), (8, { off := 0 }), (9, { n := 4 })]) (.s (.r [(0, { off := 4 }), (1, { n := 4, agg := true }), (2, { n := 3, agg := true }), (3, { n := 3, agg := true }), (8, { off := 4 }), (9, { n := 4 })]) (.s (.r [(0, { n := 24, agg := true }), (1, { n := 24 })]) (.o))))) (.o))) (.s (.d [] [(1, { n := 1 }), (2, { n := 1, agg := false }), (5, { n := 1 }), (6, { n := 1, agg := false }), (7, { n := 1 }), (8, { n := 1, agg := false }), (11, { n := 1 }), (12, { n := 1, agg := false }), (13, { n := 1 }), (14, { n := 1, agg := false }), (16, { zero := [(.int .i64 0), (.int .i64 0), (.int .i64 0), (.bool false)] }), (17, { zero := [(.int .i64 0), (.int .i64 0), (.int .i64 0), (.bool false)] }), (19, { n := 4 }), (20, { n := 4 })]) (.s (.r [(0, { off := 0 }), (1, { n := 4, agg := true }), (3, { n := 4, agg := true }), (4, { n := 4, agg := true }), (10, { off := 0 }), (11, { n := 4 }), (12, { off := 8 }), (13, { n := 8, t := 2 }), (14, { n := 8 })]) (.s (.r [(0, { off := 4 }), (1, { n := 4, agg := true }), (3, { n := 4, agg := true }), (4, { n := 4, agg := true }), (10, { off := 4 }), (11, { n := 4 }), (12, { off := 8 }), (13, { n := 8, t := 2 }), (14, { n := 8 })]) (.s (.r [(0, { n := 24, agg := true }), (1, { n := 24 })]) (.o)))))))))
theorem k48 : okF Tryz.prog Tryz.f48 h48 [(true, 24), (false, 0)] = true := by kernel_rfl

/- couplet/coupletlaw09.Row -/
/- couplet/coupletref09.Predict -/
/- couplet/coupletref10.Predict -/
/- couplet/coupletref09.Update -/
/- couplet/coupletref10.Update -/
/- couplet/env.Meet -/
/- (couplet/lanes.Pair).Own -/
/- (couplet/lanes.Pair).Words -/
/- couplet/env.Wrong -/
def h57 : Hint := .s (.r [(0, { zero := [(.int .i64 0), (.int .i64 0), (.int .i64 0), (.bool false)] })]) (.s (.r [(0, { zero := [(.int .i64 0), (.int .i64 0), (.int .i64 0), (.bool false)], places := [(0, 1), (1, 1), (2, 1), (3, 1)] }), (1, { n := 4 })]) (.o))
theorem k57 : okF Tryz.prog Tryz.f57 h57 [(true, 4)] = true := by kernel_rfl

/- (couplet/lanes.Pair).State -/
/- (couplet/lanes.Pair).State -/
def hN58 : Hint := .s (.r [(0, { n := 24 }), (1, { acc := [(0, 4)] })]) (.s (.b (.s (.r [(0, { n := 24, agg := true })]) (.s (.s (.r [(0, { acc := [(0, 4)] })]) (.o)) (.s (.o) (.s (.s (.r [(0, { off := 0 }), (1, { off := 0 }), (2, { n := 1, agg := false }), (3, { mc := 6 })]) (.o)) (.o)))))) (.s (.r [(0, { off := 4 }), (1, { off := 0 }), (2, { n := 1, agg := false }), (3, { mc := 6 })]) (.o)))
theorem kN58 : okF Tryz.prog Tryz.f58 hN58 [(false, 0)] = true := by kernel_rfl

/- (couplet/lanes.Pair).Cover -/
def h59 : Hint := .s (.r [(0, { n := 24 }), (1, { acc := [(0, 4)] })]) (.s (.b (.s (.r [(0, { n := 24, agg := true })]) (.s (.s (.r [(0, { acc := [(0, 4)] })]) (.o)) (.s (.o) (.s (.s (.r [(0, { off := 0 }), (1, { off := 1 }), (2, { off := 2 }), (3, { n := 1, agg := false })]) (.o)) (.o)))))) (.s (.r [(0, { off := 4 }), (1, { n := 4, agg := true }), (3, { off := 2, n := 1, agg := false })]) (.o)))
theorem k59 : okF Tryz.prog Tryz.f59 h59 [(false, 0)] = true := by kernel_rfl

/- couplet/compare.Trips -/
/- couplet/compare.Widest -/
/- (couplet/lanes.Pair).Fault -/
/- (couplet/env.Num).Add -/
def h63 : Hint := .s (.r [(0, { n := 4 }), (1, { n := 4 }), (2, { zero := [(.int .i64 0), (.int .i64 0), (.int .i64 0), (.bool false)] })]) (.s (.o) (.s (.r [(0, { n := 4, agg := true }), (1, { n := 4, agg := true }), (3, { off := 1 }), (4, { n := 1, agg := false }), (5, { off := 1 }), (6, { n := 1, agg := false }), (7, { zero := [(.int .i64 0), (.int .i64 0)], places := [(0, 1), (1, 1)] }), (8, { off := 2 }), (9, { n := 1, agg := false }), (10, { off := 2 }), (11, { n := 1, agg := false }), (12, { zero := [(.int .i64 0), (.int .i64 0)], places := [(0, 1), (1, 1)] }), (13, { n := 2 }), (15, { n := 4 })]) (.o)))
theorem k63 : okF Tryz.prog Tryz.f63 h63 [(true, 4)] = true := by kernel_rfl

/- couplet/env.Point -/
def h64 : Hint := .s (.r [(0, { zero := [(.int .i64 0), (.int .i64 0), (.int .i64 0), (.bool false)] })]) (.s (.s (.o) (.s (.s (.r [(1, { n := 4 })]) (.o)) (.o))) (.s (.r [(3, { zero := [(.int .i64 0), (.int .i64 0), (.int .i64 0), (.bool false)], places := [(0, 1), (1, 1), (2, 1), (3, 1)] }), (4, { n := 4 })]) (.o)))
theorem k64 : okF Tryz.prog Tryz.f64 h64 [(true, 4)] = true := by kernel_rfl

/- (couplet/mat.Mat(couplet/env.Num)).Mirror -/
def h65 : Hint := .s (.r [(0, { n := 3 }), (1, { zero := [(.int .i64 0), (.int .i64 0), (.slice none 0 0)], acc := [(2, 3002)] })]) (.s (.s (.r [(0, { n := 3, agg := true }), (4, { off := 0 }), (5, { n := 1, agg := false }), (6, { off := 1 }), (7, { n := 1, agg := false })]) (.s (.s (.r [(0, { zero := [(.int .i64 0), (.int .i64 0), (.slice none 0 0)], places := [(0, 1), (1, 1), (2, 1)] }), (1, { n := 3 })]) (.o)) (.o))) (.s (.r [(0, { off := 0 }), (1, { n := 1, agg := false }), (2, { off := 1 }), (3, { n := 1, agg := false }), (4, { zero := [(.int .i64 0), (.int .i64 0), (.slice none 0 0)], places := [(0, 1), (1, 1), (2, 1)] }), (5, { zero := [(.int .i64 0), (.int .i64 0), (.slice none 0 0)], acc := [(2, 3004)] }), (6, { n := 3 })]) (.s (.s (.r [(0, { off := 0 }), (1, { n := 1, agg := false })]) (.b (.l [.junk [0, 3, 5, 6, 7, 8, 9, 10, 11, 12, 13, 14, 15, 16, 17, 18, 19, 20, 21, 22, 23, 26, 27, 28, 29, 30, 31, 32, 33, 34, 35, 36, 37, 38, 39, 40, 41, 42, 43, 44, 45, 46, 47, 48], .row 2 2 15002, .row 4 2 15004] (.s (.o) (.s (.s (.o) (.o)) (.s (.b (.s (.o) (.s (.r [(0, { off := 1 }), (1, { n := 1, agg := false })]) (.b (.l [.junk [0, 3, 6, 7, 8, 9, 10, 11, 12, 13, 14, 15, 16, 17, 18, 19, 20, 21, 22, 23, 26, 27, 28, 31, 32, 33, 34, 35, 36, 37, 38, 39, 40, 41, 42, 43, 44, 45, 46, 47, 48], .row 2 2 15002, .row 4 2 15004] (.s (.o) (.s (.s (.o) (.o)) (.s (.b (.s (.o) (.r [(0, { off := 2 }), (1, { n := 1, agg := false }), (2, { n := 3, agg := true }), (10, { n := 4 }), (11, { n := 4, t := 32 }), (12, { off := 2 }), (13, { n := 1 })]))) (.o))))))))) (.o))))))) (.s (.r [(0, { n := 3, agg := true }), (1, { n := 3 })]) (.o)))))
theorem k65 : okF Tryz.prog Tryz.f65 h65 [(true, 3), (false, 0)] = true := by kernel_rfl

/- couplet/compare.Rows -/
/- couplet/coupletref16.Gap -/
/- couplet/coupletlaw03.Given -/
/- couplet/compare.Far -/
/- (couplet/lanes.Pair).Seed -/
/- slices.Clone(()couplet/env.Num,couplet/env.Num) -/
def h71 : Hint := .s (.r [(0, { acc := [(0, 2)] })]) (.s (.s (.r [(1, { n := 3, t := 1 })]) (.s (.s (.r [(0, { acc := [(0, 2)] })]) (.o)) (.o))) (.s (.r [(0, { n := 4 }), (2, { n := 4, t := 32 })]) (.o)))
theorem k71 : okF Tryz.prog Tryz.f71 h71 [(false, 0)] = true := by kernel_rfl
/- slices.Clone(()couplet/env.Num,couplet/env.Num) -/
def hN71 : Hint := .s (.r [(0, { acc := [(0, 2)] })]) (.s (.s (.r [(1, { n := 3, t := 1 })]) (.s (.s (.r [(0, { acc := [(0, 2)] })]) (.o)) (.o))) (.s (.r [(0, { n := 4 }), (2, { n := 4, t := 32, acc := [(0, 1)] })]) (.o)))
theorem kN71 : okF Tryz.prog Tryz.f71 hN71 [(false, 0)] = true := by kernel_rfl

/- (couplet/mat.Mat(couplet/env.Num)).Right -/
def h72 : Hint := .s (.r [(0, { n := 3 })]) (.s (.o) (.s (.r [(1, { off := 0 }), (2, { n := 1, agg := false }), (6, { off := 1 }), (7, { n := 1, agg := false }), (11, { off := 2 }), (12, { n := 1, agg := false }), (14, { off := 0 }), (15, { n := 1, agg := false }), (16, { off := 1 }), (17, { n := 1, agg := false })]) (.o)))
theorem k72 : okF Tryz.prog Tryz.f72 h72 [(false, 0)] = true := by kernel_rfl

/- couplet/house.Fold(couplet/frac.Frac) -/
/- (couplet/mat.Mat(couplet/frac.Frac)).At -/
/- (couplet/mat.Mat(couplet/env.Num)).All -/
def h75 : Hint := .s (.r [(0, { n := 3 })]) (.s (.g [.freeze 1] (.o)) (.o))
theorem k75 : okF Tryz.prog Tryz.f75 h75 [(false, 0)] = true := by kernel_rfl

/- couplet/house.fold(couplet/env.Num) -/
def h76 : Hint := .s (.r [(2, { n := 1 }), (3, { n := 1, agg := false }), (5, { n := 4 })]) (.s (.r [(2, { mc := 1 }), (5, { zero := [(.int .i64 0), (.int .i64 0), (.int .i64 0), (.bool false)] }), (6, { n := 4 })]) (.s (.s (.r [(1, { n := 4 }), (2, { n := 4, agg := true })]) (.s (.r [(0, { n := 4, agg := true }), (3, { n := 4 })]) (.o))) (.s (.r [(2, { n := 4, zero := [(.int .i64 0), (.int .i64 0), (.int .i64 0), (.bool false)], t := 32, mc := 3 })]) (.s (.r [(2, { n := 4, mc := 5 })]) (.s (.n [0, 1, 2, 3, 4, 5, 6, 7, 8] [(2, { n := 4 }), (3, { n := 4, agg := true }), (5, { n := 4, agg := true }), (7, { n := 4 }), (8, { n := 4 })]) (.s (.r [(2, { mc := 1 }), (3, { zero := [(.int .i64 0), (.int .i64 0), (.int .i64 0), (.bool false)] }), (4, { n := 4 })]) (.s (.s (.o) (.b (.l [.junk [2, 3, 9, 10, 11, 12, 13, 14, 15, 16, 17, 18, 19, 20, 21, 22, 23, 24, 25, 26, 27, 28, 29, 30, 31, 32, 33, 34, 35, 36, 37, 38, 39, 40, 41, 42, 43, 44, 45, 46, 47, 48, 49, 50, 51, 52, 53, 54, 55, 56, 57, 58, 59, 60, 61, 62, 63, 64, 65, 66, 67, 68, 69, 70, 71, 72, 73, 74, 75, 76, 77, 78, 79, 80, 81, 82, 83, 84, 85, 86, 87, 88, 89, 90, 91, 92, 93, 94], .drop [10]] (.s (.s (.o) (.s (.o) (.o))) (.s (.b (.s (.r [(2, { n := 1 }), (3, { n := 1, agg := false }), (5, { n := 4 })]) (.s (.r [(2, { mc := 1 }), (3, { zero := [(.int .i64 0), (.int .i64 0), (.int .i64 0), (.bool false)] }), (4, { n := 4 })]) (.s (.r [(0, { n := 4, agg := true }), (2, { n := 4, agg := true }), (5, { n := 4, agg := true }), (7, { n := 4 })]) (.r [(3, { n := 4, agg := true }), (4, { mc := 6 }), (5, { mc := 6 }), (6, { n := 4, mc := 5 })]))))) (.o)))))) (.s (.s (.o) (.b (.l [.junk [0, 1, 2, 3, 6, 7, 8, 9, 10, 11, 12, 13, 14, 15, 16, 17, 18, 19, 20, 21, 22, 23, 24, 25, 26, 27, 28, 29, 30, 31, 32, 33, 34, 35, 36, 37, 38, 39, 40, 41, 42, 43, 44, 45, 46, 47, 48, 49, 50, 51, 52, 53, 54, 55, 56, 57, 58, 59, 60, 61, 62, 63, 64, 65, 66, 67, 68, 69, 70, 71, 72, 73, 74, 75, 76, 77, 78, 79, 80, 83, 84, 85, 86, 87, 88, 89, 90, 91, 92, 93, 94]] (.s (.o) (.s (.s (.o) (.o)) (.s (.b (.s (.o) (.r [(2, { n := 4, agg := true }), (5, { n := 4 }), (6, { n := 4 })]))) (.o))))))) (.r [(1, { n := 4, agg := true }), (2, { n := 4 }), (3, { n := 4 })])))))))))
theorem k76 : okF Tryz.prog Tryz.f76 h76 [] = true := by kernel_rfl

/- couplet/house.Signs(couplet/env.Num) -/
def h77 : Hint := .s (.r [(0, { n := 3 }), (1, { zero := [(.int .i64 0), (.int .i64 0), (.slice none 0 0)], acc := [(2, 3002)] })]) (.s (.s (.r [(0, { n := 3, agg := true }), (4, { off := 0 }), (5, { n := 1, agg := false }), (6, { off := 1 }), (7, { n := 1, agg := false })]) (.s (.s (.r [(0, { zero := [(.int .i64 0), (.int .i64 0), (.slice none 0 0)], places := [(0, 1), (1, 1), (2, 1)] }), (1, { n := 3 })]) (.o)) (.o))) (.s (.r [(0, { zero := [(.slice none 0 0)], acc := [(0, 1004)] })]) (.s (.s (.r [(0, { n := 3, agg := true })]) (.b (.f [.drop [8], .row 2 2 15002, .row 4 0 5004] (.s (.o) (.o)) (.b (.s (.o) (.b (.l [.junk [0, 2, 3, 6, 7, 8, 9, 10, 11, 12, 13, 14, 15, 16, 17, 18, 19, 20, 21, 22, 23, 27, 28, 29, 30, 31, 32, 33, 34, 35, 36, 37, 38, 39, 40, 41, 42, 43, 44, 45, 46, 47, 48, 49, 50, 51, 52, 53, 54, 55, 56, 57, 58], .drop [8], .row 2 2 15002, .row 4 0 5004] (.s (.o) (.s (.s (.o) (.o)) (.s (.b (.s (.r [(1, { n := 4 }), (2, { n := 4, agg := true }), (3, { zero := [(.int .i64 0), (.int .i64 0), (.int .i64 0), (.bool false)] }), (5, { n := 4 })]) (.s (.s (.r [(4, { n := 3, agg := true })]) (.s (.r [(0, { n := 4, agg := true }), (3, { n := 4 })]) (.o))) (.r [(0, { n := 1, agg := false }), (1, { n := 4, agg := true }), (2, { n := 4 }), (3, { n := 4, t := 32 }), (4, { n := 1 })])))) (.o))))))))))) (.s (.r [(0, { off := 0 }), (1, { n := 1, agg := false }), (2, { off := 1 }), (3, { n := 1, agg := false }), (4, { n := 1, agg := false }), (8, { n := 3 })]) (.o)))))
theorem k77 : okF Tryz.prog Tryz.f77 h77 [(true, 3), (false, 0)] = true := by kernel_rfl

/- couplet/tri.Clear(couplet/env.Num) -/
def h78 : Hint := .s (.r [(0, { n := 3 }), (1, { zero := [(.int .i64 0), (.int .i64 0), (.slice none 0 0)], acc := [(2, 3002)] })]) (.s (.s (.r [(0, { n := 3, agg := true })]) (.s (.s (.r [(0, { zero := [(.int .i64 0), (.int .i64 0), (.slice none 0 0)], places := [(0, 1), (1, 1), (2, 1)] }), (1, { n := 3 })]) (.o)) (.o))) (.s (.r [(0, { zero := [(.int .i64 0), (.int .i64 0), (.int .i64 0), (.bool false)] })]) (.s (.g [.freeze 4, .freeze 1] (.r [(0, { off := 0 }), (1, { n := 1, agg := false }), (6, { n := 3 })])) (.o))))
theorem k78 : okF Tryz.prog Tryz.f78 h78 [(true, 3), (false, 0)] = true := by kernel_rfl

/- couplet/coupletref03.Do -/
/- couplet/coupletref08.Dot -/
/- couplet/coupletref08.neg -/
/- couplet/root.New(couplet/frac.Frac) -/
/- couplet/root.Update(couplet/frac.Frac) -/
/- couplet/mat.Whole(couplet/env.Num) -/
def h84 : Hint := .s (.r [(0, { zero := [(.int .i64 0), (.int .i64 0), (.slice none 0 0)], acc := [(2, 3006)] })]) (.s (.r [(7, { n := 3 })]) (.o))
theorem k84 : okF Tryz.prog Tryz.f84 h84 [(true, 3), (false, 0)] = true := by kernel_rfl
/- couplet/mat.Whole(couplet/env.Num) -/
/- couplet/root.New(couplet/env.Num) -/
def h85 : Hint := .s (.r [(0, { n := 3 }), (1, { zero := [(.slice none 0 0), (.int .i64 0), (.int .i64 0), (.slice none 0 0)], acc := [(0, 1004), (3, 4004)] })]) (.s (.r [(0, { n := 3, agg := true }), (5, { zero := [(.int .i64 0), (.int .i64 0), (.slice none 0 0)], acc := [(2, 3006)] }), (6, { n := 3 })]) (.s (.d [] [(2, { n := 3, agg := true }), (3, { zero := [(.slice none 0 0), (.int .i64 0), (.int .i64 0), (.slice none 0 0)], places := [(0, 1), (1, 3)] }), (4, { zero := [(.slice none 0 0), (.int .i64 0), (.int .i64 0), (.slice none 0 0)], acc := [(0, 1008), (3, 4008)] }), (5, { n := 4 })]) (.s (.s (.r [(3, { n := 4, agg := true })]) (.s (.s (.r [(0, { zero := [(.slice none 0 0), (.int .i64 0), (.int .i64 0), (.slice none 0 0)], places := [(0, 1), (1, 3)] }), (1, { n := 4 })]) (.o)) (.o))) (.s (.r [(0, { n := 4, agg := true }), (1, { n := 4 })]) (.o)))))
theorem k85 : okF Tryz.prog Tryz.f85 h85 [(true, 4), (false, 0)] = true := by kernel_rfl

/- couplet/vec.Whole(couplet/env.Num) -/
def h86 : Hint := .s (.r [(0, { acc := [(0, 2)] })]) (.s (.r [(0, { acc := [(0, 3)] })]) (.s (.r [(0, { zero := [(.int .i64 0), (.int .i64 0), (.int .i64 0), (.bool false)] })]) (.s (.s (.o) (.b (.l [.junk [0, 1, 2, 5, 6, 10, 11, 12, 13, 14, 15, 16, 17, 18, 19, 20, 21]] (.s (.o) (.s (.s (.o) (.o)) (.s (.b (.s (.r [(0, { n := 1 }), (1, { n := 1, agg := false })]) (.r [(1, { n := 4, agg := true }), (5, { n := 4 }), (6, { n := 4, t := 32 })]))) (.o))))))) (.s (.o) (.o)))))
theorem k86 : okF Tryz.prog Tryz.f86 h86 [(false, 0)] = true := by kernel_rfl

/- couplet/root.Update(couplet/env.Num) -/
def h87 : Hint := .s (.r [(0, { n := 4 }), (1, { n := 1 }), (2, { n := 4 }), (3, { n := 4 }), (4, { zero := [(.slice none 0 0), (.int .i64 0), (.int .i64 0), (.slice none 0 0)], acc := [(0, 1008), (3, 4008)] }), (5, { zero := [(.int .i64 0), (.int .i64 0), (.int .i64 0), (.bool false), (.int .i64 0), (.int .i64 0), (.int .i64 0), (.bool false)] })]) (.s (.r [(0, { off := 0 }), (1, { n := 1, agg := false })]) (.s (.s (.r [(0, { n := 4, agg := true }), (4, { n := 1, agg := false })]) (.s (.s (.r [(0, { zero := [(.slice none 0 0), (.int .i64 0), (.int .i64 0), (.slice none 0 0)], places := [(0, 1), (1, 3)] }), (1, { zero := [(.int .i64 0), (.int .i64 0), (.int .i64 0), (.bool false), (.int .i64 0), (.int .i64 0), (.int .i64 0), (.bool false)], places := [(0, 4), (4, 4)] }), (2, { n := 4 }), (3, { n := 8 })]) (.o)) (.o))) (.s (.r [(0, { zero := [(.slice none 0 0)], acc := [(0, 1012)] })]) (.s (.r [(0, { zero := [(.slice none 0 0)], acc := [(0, 1013)] })]) (.s (.s (.r [(0, { off := 1 }), (1, { n := 3, agg := true })]) (.b (.f [.row 8 0 5008, .row 8 3 20008, .row 12 0 5012, .row 13 0 5013, .row 26 2 15026] (.o) (.b (.r [(0, { n := 1, agg := false }), (2, { n := 1 }), (3, { n := 1, t := 24 }), (4, { n := 1 })]))))) (.s (.s (.r [(0, { off := 1 }), (1, { n := 3, agg := true })]) (.b (.f [.row 8 0 5008, .row 8 3 20008, .row 12 0 5012, .row 13 0 5013, .row 26 2 15026] (.o) (.b (.r [(0, { n := 1, agg := false }), (2, { n := 1, agg := false }), (4, { n := 4 }), (5, { n := 4, t := 32 }), (6, { n := 1 })]))))) (.s (.r [(1, { n := 4, zero := [(.int .i64 0), (.int .i64 0), (.int .i64 0), (.bool false)], t := 32, mc := 3 })]) (.s (.r [(2, { zero := [(.int .i64 0)], t := 8, agg := true }), (4, { n := 4, mc := 5 })]) (.s (.r [(0, { n := 4, agg := true }), (1, { zero := [(.int .i64 0), (.int .i64 0), (.int .i64 0), (.bool false)] }), (2, { n := 4 })]) (.s (.s (.o) (.b (.l [.junk [0, 1, 2, 3, 6, 10, 14, 15, 16, 17, 21, 22, 23, 24, 25, 26, 27, 28, 29, 30, 31, 32, 33, 34, 35, 36, 37, 38, 39, 40, 41, 42, 43, 44, 45, 46, 47, 48, 49, 50, 51, 52, 53, 54, 55, 56, 57, 58, 59, 60, 61, 62, 63, 64, 65, 66, 67, 68, 69, 70, 71, 72, 73, 74, 75, 76, 77, 78, 79, 80, 81, 82, 83, 84, 85, 86, 87, 88, 89, 90, 91, 92, 93, 94, 95, 96, 97, 98, 99, 100, 101, 102, 103, 104, 105, 106, 107, 108, 109, 110, 111, 112, 113, 114, 115, 116, 117, 118, 119, 120, 121, 122, 123, 124, 125, 126, 127, 128, 129, 130, 131, 132, 133, 134, 135, 136, 137, 138, 139, 140, 141], .drop [21]] (.s (.s (.o) (.s (.o) (.o))) (.s (.b (.s (.d [] [(0, { n := 4, agg := true }), (2, { n := 1, agg := false }), (4, { n := 4 }), (5, { n := 4, agg := true }), (7, { n := 1, agg := false }), (9, { n := 4 }), (10, { n := 4, agg := true }), (13, { zero := [(.int .i64 0), (.int .i64 0), (.int .i64 0), (.bool false)] }), (14, { n := 4 })]) (.s (.r [(0, { n := 1, agg := false }), (2, { n := 1, agg := false }), (4, { n := 4 }), (5, { n := 4, agg := true }), (6, { n := 4, agg := true }), (7, { n := 4, agg := true }), (9, { mc := 2 })]) (.r [(0, { n := 4, agg := true }), (1, { n := 4 })])))) (.o)))))) (.s (.d [] [(0, { n := 4, agg := true }), (2, { n := 1, agg := false }), (3, { off := 0 }), (4, { n := 1, agg := false }), (7, { n := 4, agg := true }), (8, { zero := [(.int .i64 0), (.int .i64 0), (.int .i64 0), (.bool false), (.int .i64 0), (.int .i64 0), (.int .i64 0), (.bool false)], places := [(0, 4), (4, 4)] }), (9, { zero := [(.int .i64 0), (.int .i64 0), (.int .i64 0), (.bool false), (.int .i64 0), (.int .i64 0), (.int .i64 0), (.bool false)] }), (10, { n := 8 })]) (.s (.r [(0, { acc := [(0, 23)] })]) (.s (.s (.o) (.b (.l [.junk [0, 1, 2, 3, 5, 6, 7, 10, 13, 14, 15, 16, 17, 18, 20, 21, 24, 25, 26, 27, 28, 29, 30, 31, 32, 33, 34, 35, 36, 37, 38, 39, 40, 41, 42, 43, 44, 45, 46, 47, 48, 49, 50, 51, 52, 53, 54, 55, 56, 57, 58, 59, 60, 61, 62, 63, 64, 65, 66, 67, 68, 69, 70, 71, 72, 73, 74, 75, 76, 77, 78, 79, 80, 81, 82, 83, 84, 85, 86, 87, 88, 89, 90, 91, 92, 93, 94, 95, 96, 97, 98, 99, 100, 101, 102, 103, 104, 105, 106, 107, 108, 109, 113, 114, 115, 116, 117, 118, 119, 120, 121, 122, 123, 124, 125, 126, 127, 128, 129, 130, 131, 132, 133, 134, 135, 136, 137, 138, 139, 140, 141], .drop [25], .row 8 0 5008, .row 8 3 20008, .row 12 0 5012, .row 13 0 5013, .row 26 2 15026] (.s (.o) (.s (.s (.o) (.o)) (.s (.b (.s (.r [(0, { n := 4 }), (1, { n := 4, agg := true }), (2, { zero := [(.int .i64 0), (.int .i64 0), (.int .i64 0), (.bool false)] }), (3, { n := 4 })]) (.r [(1, { n := 4, agg := true }), (3, { n := 4, agg := true }), (5, { n := 4 }), (6, { n := 4, t := 32 })]))) (.o))))))) (.s (.r [(2, { n := 1, agg := false }), (3, { mc := 6 }), (4, { mc := 6 }), (8, { zero := [(.int .i64 0), (.int .i64 0), (.slice none 0 0)], acc := [(2, 3026)] }), (9, { n := 3 })]) (.s (.d [(22, 8)] [(0, { off := 0 }), (1, { n := 1, agg := false }), (3, { off := 0 }), (4, { n := 4, agg := true }), (7, { n := 3, agg := true }), (8, { zero := [(.slice none 0 0), (.int .i64 0), (.int .i64 0), (.slice none 0 0)], places := [(0, 1), (1, 3)] }), (9, { n := 8, agg := true }), (10, { n := 4 }), (11, { n := 8 })]) (.o))))))))))))))))
theorem k87 : okF Tryz.prog Tryz.f87 h87 [(true, 4), (true, 8), (false, 0)] = true := by kernel_rfl

/- couplet/env.Encloses -/
def h88 : Hint := .s (.r [(0, { n := 4 })]) (.s (.s (.r [(0, { n := 4, agg := true })]) (.s (.s (.o) (.o)) (.o))) (.s (.r [(0, { off := 1 }), (1, { n := 1, agg := false }), (8, { off := 2 }), (9, { n := 1, agg := false })]) (.o)))
theorem k88 : okF Tryz.prog Tryz.f88 h88 [(false, 0)] = true := by kernel_rfl

/- (couplet/mat.Mat(couplet/env.Num)).At -/
def h89 : Hint := .s (.r [(0, { n := 3 }), (1, { zero := [(.int .i64 0), (.int .i64 0), (.int .i64 0), (.bool false)] })]) (.s (.s (.r [(0, { n := 3, agg := true }), (9, { off := 0 }), (10, { n := 1, agg := false }), (19, { off := 1 }), (20, { n := 1, agg := false })]) (.s (.s (.r [(0, { zero := [(.int .i64 0), (.int .i64 0), (.int .i64 0), (.bool false)] })]) (.s (.r [(0, { n := 4, agg := true }), (1, { n := 4 })]) (.o))) (.o))) (.s (.r [(0, { off := 2 }), (1, { n := 1, agg := false }), (3, { off := 1 }), (4, { n := 1, agg := false }), (8, { n := 4 }), (9, { n := 4, agg := true }), (10, { n := 4 })]) (.o)))
theorem k89 : okF Tryz.prog Tryz.f89 h89 [(true, 4)] = true := by kernel_rfl

/- (couplet/root.State(couplet/frac.Frac)).Right -/
/- couplet/mat.New(couplet/frac.Frac) -/
/- couplet/mat.New(couplet/frac.Frac) -/
/- couplet/tri.Square(couplet/frac.Frac) -/
/- (couplet/mat.Mat(couplet/frac.Frac)).Apply -/
/- (couplet/joseph.State(couplet/frac.Frac)).Right -/
/- couplet/joseph.turned(couplet/frac.Frac) -/
/- couplet/joseph.New(couplet/frac.Frac) -/
/- couplet/vec.Dot(couplet/frac.Frac) -/
/- couplet/mat.Unit(couplet/frac.Frac) -/
/- (couplet/mat.Mat(couplet/frac.Frac)).Mul -/
/- (couplet/mat.Mat(couplet/frac.Frac)).Sub -/
/- couplet/vec.Scale(couplet/frac.Frac) -/
/- couplet/vec.Scale(couplet/frac.Frac) -/
/- (couplet/mat.Mat(couplet/frac.Frac)).Turn -/
/- couplet/vec.Add(couplet/frac.Frac) -/
/- couplet/vec.Add(couplet/frac.Frac) -/
/- couplet/frac.Wrong -/
/- couplet/frac.common -/
/- couplet/root.Predict(couplet/env.Num) -/
def h106 : Hint := .s (.r [(0, { n := 4 }), (1, { n := 3 }), (2, { n := 3 }), (3, { zero := [(.slice none 0 0), (.int .i64 0), (.int .i64 0), (.slice none 0 0)], acc := [(0, 1006), (3, 4006)] })]) (.s (.r [(0, { off := 0 }), (1, { n := 1, agg := false })]) (.s (.r [(0, { n := 3, agg := true }), (1, { off := 0 }), (2, { n := 1, agg := false })]) (.s (.r [(0, { n := 3, agg := true }), (1, { off := 1 }), (2, { n := 3, agg := true }), (7, { zero := [(.int .i64 0), (.int .i64 0), (.slice none 0 0)], acc := [(2, 3011)] }), (8, { n := 3 })]) (.s (.s (.r [(0, { n := 4, agg := true }), (12, { off := 0 }), (13, { n := 1, agg := false }), (18, { n := 3, agg := true }), (23, { off := 0 }), (24, { n := 1, agg := false }), (29, { off := 1 }), (30, { n := 1, agg := false })]) (.s (.s (.r [(0, { zero := [(.slice none 0 0), (.int .i64 0), (.int .i64 0), (.slice none 0 0)], places := [(0, 1), (1, 3)] }), (1, { n := 4 })]) (.o)) (.o))) (.s (.r [(0, { n := 3, agg := true }), (1, { n := 3, agg := true }), (6, { zero := [(.int .i64 0), (.int .i64 0), (.slice none 0 0)], acc := [(2, 3013)] }), (7, { n := 3 })]) (.s (.r [(0, { n := 3, agg := true }), (5, { zero := [(.int .i64 0), (.int .i64 0), (.slice none 0 0)], acc := [(2, 3015)] }), (6, { n := 3 })]) (.s (.r [(1, { n := 3, agg := true }), (2, { zero := [(.slice none 0 0), (.int .i64 0), (.int .i64 0), (.slice none 0 0)], places := [(0, 1), (1, 3)] }), (3, { n := 4 })]) (.o))))))))
theorem k106 : okF Tryz.prog Tryz.f106 h106 [(true, 4), (false, 0)] = true := by kernel_rfl

/- (couplet/env.Num).Of -/
def h107 : Hint := .s (.r [(0, { n := 4 }), (1, { zero := [(.int .i64 0), (.int .i64 0), (.int .i64 0), (.bool false)] })]) (.s (.o) (.s (.s (.o) (.s (.s (.r [(1, { n := 4 })]) (.o)) (.o))) (.s (.r [(2, { n := 4 })]) (.o))))
theorem k107 : okF Tryz.prog Tryz.f107 h107 [(true, 4)] = true := by kernel_rfl

/- (couplet/root.State(couplet/env.Num)).Right -/
def h108 : Hint := .s (.r [(0, { n := 4 })]) (.s (.r [(0, { off := 0 }), (1, { n := 1, agg := false })]) (.s (.r [(7, { off := 1 }), (8, { n := 3, agg := true }), (12, { off := 1 }), (13, { off := 0 }), (14, { n := 1, agg := false }), (19, { off := 1 }), (20, { off := 1 }), (21, { n := 1, agg := false })]) (.o)))
theorem k108 : okF Tryz.prog Tryz.f108 h108 [(false, 0)] = true := by kernel_rfl

/- couplet/tri.Square(couplet/env.Num) -/
def h109 : Hint := .s (.r [(0, { n := 3 }), (1, { zero := [(.int .i64 0), (.int .i64 0), (.slice none 0 0)], acc := [(2, 3002)] })]) (.s (.s (.r [(0, { n := 3, agg := true })]) (.s (.s (.r [(0, { zero := [(.int .i64 0), (.int .i64 0), (.slice none 0 0)], places := [(0, 1), (1, 1), (2, 1)] }), (1, { n := 3 })]) (.o)) (.o))) (.s (.d [] [(0, { n := 3, agg := true }), (1, { n := 3, agg := true }), (7, { zero := [(.int .i64 0), (.int .i64 0), (.slice none 0 0)], acc := [(2, 3004)] }), (8, { n := 3 })]) (.s (.s (.o) (.s (.s (.r [(0, { zero := [(.int .i64 0), (.int .i64 0), (.slice none 0 0)], places := [(0, 1), (1, 1), (2, 1)] }), (1, { n := 3 })]) (.o)) (.o))) (.s (.r [(0, { n := 3, agg := true }), (4, { n := 3 })]) (.o)))))
theorem k109 : okF Tryz.prog Tryz.f109 h109 [(true, 3), (false, 0)] = true := by kernel_rfl

/- couplet/compare.Gap -/
/- (couplet/env.Num).Fine -/
def h111 : Hint := .s (.r [(0, { n := 4 })]) (.s (.r [(0, { off := 3 }), (1, { n := 1, agg := false }), (4, { off := 1 }), (5, { n := 1, agg := false }), (9, { off := 2 }), (10, { n := 1, agg := false }), (14, { off := 1 }), (15, { n := 1, agg := false }), (16, { off := 0 }), (17, { n := 1, agg := false }), (21, { off := 0 }), (22, { n := 1, agg := false }), (23, { off := 2 }), (24, { n := 1, agg := false })]) (.o))
theorem k111 : okF Tryz.prog Tryz.f111 h111 [(false, 0)] = true := by kernel_rfl

/- couplet/compare.least -/
/- couplet/wide.MulDiv -/
def h113 : Hint := .s (.o) (.s (.s (.o) (.s (.s (.o) (.o)) (.o))) (.s (.r [(7, { zero := [(.int .u64 0), (.int .u64 0)] }), (8, { n := 2 })]) (.s (.s (.r [(0, { n := 1, t := 2 }), (1, { n := 1, agg := false })]) (.s (.s (.o) (.o)) (.o))) (.s (.r [(0, { n := 1, t := 2 }), (1, { n := 1, agg := false }), (2, { n := 1, t := 2 }), (3, { n := 1, agg := false })]) (.s (.r [(4, { n := 1 }), (7, { n := 1 })]) (.s (.o) (.s (.b (.s (.o) (.s (.o) (.s (.o) (.s (.o) (.r [(3, { n := 1 })])))))) (.s (.s (.o) (.s (.s (.o) (.o)) (.o))) (.s (.s (.o) (.s (.o) (.o))) (.s (.s (.o) (.s (.s (.r [(1, { ks := [some .i64] })]) (.o)) (.o))) (.s (.r [(1, { ks := [some .i64] })]) (.o))))))))))))
theorem k113 : okF Tryz.prog Tryz.f113 h113 [(false, 0), (false, 0)] = true := by kernel_rfl

/- couplet/wide.Compare -/
def h114 : Hint := .s (.o) (.s (.s (.r [(4, { zero := [(.int .i64 0), (.int .i64 0), (.int .i64 0), (.int .i64 0)], places := [(0, 1), (1, 1), (2, 1), (3, 1)] })]) (.b (.l [.junk [4, 5, 6, 7, 8, 9, 10, 11, 12, 13, 14, 15, 16, 17, 18, 19, 22, 23, 24, 25, 26, 27, 28, 29, 30, 31, 32, 33, 34, 35, 36, 37, 38, 39, 40, 41, 42, 43, 44, 45, 46, 47, 48, 49, 50, 51, 52, 53, 54, 55, 56, 57, 58, 59, 60, 61, 62, 63, 64, 65, 66, 67, 68, 69, 70, 71, 72, 73, 74, 75, 76, 77, 78, 79, 80, 81, 82, 83, 84]] (.s (.o) (.s (.s (.o) (.o)) (.s (.b (.s (.r [(0, { n := 1, agg := false, t := 4 })]) (.s (.o) (.s (.s (.o) (.o)) (.o))))) (.o))))))) (.s (.o) (.s (.o) (.s (.r [(10, { zero := [(.int .u64 0), (.int .u64 0)] }), (11, { zero := [(.int .u64 0), (.int .u64 0)] }), (12, { n := 2 }), (13, { n := 2 })]) (.s (.b (.s (.s (.o) (.s (.o) (.s (.r [(8, { n := 2, agg := true }), (9, { n := 2, agg := true })]) (.s (.o) (.r [(8, { n := 2, agg := true }), (9, { n := 2, agg := true })]))))) (.s (.s (.o) (.o)) (.s (.s (.o) (.s (.o) (.r [(0, { n := 2, agg := true }), (1, { n := 2, agg := true }), (2, { n := 5, ks := [some .u64, some .u64] })]))) (.s (.s (.o) (.o)) (.o)))))) (.s (.o) (.o)))))))
theorem k114 : okF Tryz.prog Tryz.f114 h114 [(false, 0)] = true := by kernel_rfl

/- couplet/lanes.square -/
def h115 : Hint := .s (.r [(0, { zero := [(.int .i64 0), (.int .i64 0), (.slice none 0 0)], acc := [(2, 3004)] })]) (.s (.r [(8, { zero := [(.int .i64 0), (.int .i64 0), (.slice none 0 0)], acc := [(2, 3005)] }), (9, { n := 3 })]) (.s (.r [(0, { n := 3, agg := true }), (1, { n := 3 })]) (.o)))
theorem k115 : okF Tryz.prog Tryz.f115 h115 [(true, 3)] = true := by kernel_rfl

/- couplet/lanes.points -/
def h116 : Hint := .s (.r [(0, { acc := [(0, 2)] })]) (.s (.r [(0, { acc := [(0, 3)] })]) (.s (.s (.o) (.b (.l [.junk [0, 1, 2, 4, 5, 9, 10, 11, 12, 13, 14, 15, 16, 17, 18]] (.s (.o) (.s (.s (.o) (.o)) (.s (.b (.s (.r [(0, { n := 1 }), (1, { n := 1, agg := false })]) (.r [(3, { n := 4 }), (4, { n := 4, t := 32 })]))) (.o))))))) (.s (.o) (.o))))
theorem k116 : okF Tryz.prog Tryz.f116 h116 [(false, 0)] = true := by kernel_rfl

/- couplet/joseph.New(couplet/env.Num) -/
def h117 : Hint := .s (.r [(0, { n := 3 }), (1, { zero := [(.slice none 0 0), (.int .i64 0), (.int .i64 0), (.slice none 0 0)], acc := [(0, 1004), (3, 4004)] })]) (.s (.r [(0, { n := 3, agg := true }), (5, { zero := [(.int .i64 0), (.int .i64 0), (.slice none 0 0)], acc := [(2, 3006)] }), (6, { n := 3 })]) (.s (.d [] [(2, { n := 3, agg := true }), (3, { zero := [(.slice none 0 0), (.int .i64 0), (.int .i64 0), (.slice none 0 0)], places := [(0, 1), (1, 3)] }), (4, { zero := [(.slice none 0 0), (.int .i64 0), (.int .i64 0), (.slice none 0 0)], acc := [(0, 1008), (3, 4008)] }), (5, { n := 4 })]) (.s (.s (.r [(3, { n := 4, agg := true })]) (.s (.s (.r [(0, { zero := [(.slice none 0 0), (.int .i64 0), (.int .i64 0), (.slice none 0 0)], places := [(0, 1), (1, 3)] }), (1, { n := 4 })]) (.o)) (.o))) (.s (.r [(0, { n := 4, agg := true }), (1, { n := 4 })]) (.o)))))
theorem k117 : okF Tryz.prog Tryz.f117 h117 [(true, 4), (false, 0)] = true := by kernel_rfl

/- couplet/check.Sound$1 -/
def h118 : Hint := .s (.o) (.s (.o) (.o))
theorem k118 : okF Tryz.prog Tryz.f118 h118 [(false, 0)] = true := by kernel_rfl

/- slices.ContainsFunc(()int,int) -/
def h119 : Hint := .s (.o) (.s (.o) (.o))
theorem k119 : okF Tryz.prog Tryz.f119 h119 [(false, 0)] = true := by kernel_rfl

/- (couplet/joseph.State(couplet/env.Num)).Right -/
def h120 : Hint := .s (.r [(0, { n := 4 })]) (.s (.r [(0, { off := 0 }), (1, { n := 1, agg := false })]) (.s (.r [(7, { off := 1 }), (8, { n := 3, agg := true }), (12, { off := 1 }), (13, { off := 0 }), (14, { n := 1, agg := false }), (19, { off := 1 }), (20, { off := 1 }), (21, { n := 1, agg := false })]) (.o)))
theorem k120 : okF Tryz.prog Tryz.f120 h120 [(false, 0)] = true := by kernel_rfl

/- (couplet/lanes.Pair).Ruined$1 -/
def h121 : Hint := .s (.r [(0, { n := 4 })]) (.s (.r [(0, { off := 3 }), (1, { n := 1, agg := false })]) (.o))
theorem k121 : okF Tryz.prog Tryz.f121 h121 [(false, 0)] = true := by kernel_rfl

/- slices.ContainsFunc(()couplet/env.Num,couplet/env.Num) -/
def h122 : Hint := .s (.o) (.s (.o) (.o))
theorem k122 : okF Tryz.prog Tryz.f122 h122 [(false, 0)] = true := by kernel_rfl

/- slices.Concat(()couplet/env.Num,couplet/env.Num) -/
/- slices.Concat(()couplet/env.Num,couplet/env.Num) -/
def hN123 : Hint := .s (.r [(0, { acc := [(0, 2)] })]) (.s (.o) (.s (.s (.o) (.b (.l [.junk [1, 2, 4, 5, 6, 7, 8, 12, 13, 14, 15, 16, 17, 18, 19, 20, 21, 22, 23, 24, 25, 26, 27, 28, 29, 30, 31, 32, 33, 34, 35]] (.s (.o) (.s (.s (.o) (.o)) (.s (.b (.s (.r [(0, { n := 1 }), (1, { n := 1, agg := false })]) (.s (.o) (.s (.o) (.s (.no) (.o)))))) (.o))))))) (.s (.r [(1, { mc := 6 })]) (.s (.s (.o) (.b (.l [.junk [0, 1, 2, 3, 4, 5, 7, 8, 9, 10, 11, 12, 13, 14, 15, 16, 17, 18, 19, 20, 21, 22, 23, 24, 28, 29, 30, 31, 32, 33, 34, 35]] (.s (.o) (.s (.s (.o) (.o)) (.s (.b (.s (.r [(0, { n := 1 }), (1, { n := 1, agg := false })]) (.r [(2, { n := 4, t := 32, mc := 7 })]))) (.o))))))) (.s (.o) (.o))))))
theorem kN123 : okF Tryz.prog Tryz.f123 hN123 [(false, 0)] = true := by kernel_rfl

/- couplet/frame.Right -/
def h124 : Hint := .s (.r [(0, { n := 4 })]) (.s (.o) (.s (.r [(0, { off := 0 }), (1, { n := 1, agg := false }), (2, { off := 2 }), (3, { n := 1, agg := false })]) (.s (.r [(3, { off := 3 }), (4, { n := 1, agg := false }), (10, { off := 1 }), (11, { n := 1, agg := false }), (15, { off := 1 }), (16, { n := 1, agg := false }), (20, { off := 3 }), (21, { n := 1, agg := false })]) (.o))))
theorem k124 : okF Tryz.prog Tryz.f124 h124 [(false, 0)] = true := by kernel_rfl

/- slices.Clone(()int,int) -/
def h125 : Hint := .s (.r [(0, { acc := [(0, 2)] })]) (.s (.s (.r [(1, { n := 3, t := 1 })]) (.s (.s (.r [(0, { acc := [(0, 2)] })]) (.o)) (.o))) (.s (.r [(0, { n := 1 }), (2, { n := 1, t := 8 })]) (.o)))
theorem k125 : okF Tryz.prog Tryz.f125 h125 [(false, 0)] = true := by kernel_rfl
/- slices.Clone(()int,int) -/
/- couplet/coupletref09.mirror -/
/- couplet/coupletref09.Mul -/
/- couplet/coupletref09.Turn -/
/- couplet/joseph.Predict(couplet/env.Num) -/
def h129 : Hint := .s (.r [(0, { n := 4 }), (1, { n := 3 }), (2, { n := 3 }), (3, { zero := [(.slice none 0 0), (.int .i64 0), (.int .i64 0), (.slice none 0 0)], acc := [(0, 1006), (3, 4006)] })]) (.s (.r [(0, { n := 3, agg := true }), (5, { zero := [(.int .i64 0), (.int .i64 0), (.slice none 0 0)], acc := [(2, 3008)] }), (6, { n := 3 })]) (.s (.r [(0, { n := 3, agg := true }), (1, { off := 0 }), (2, { n := 1, agg := false })]) (.s (.s (.r [(0, { n := 4, agg := true })]) (.s (.s (.r [(0, { zero := [(.slice none 0 0), (.int .i64 0), (.int .i64 0), (.slice none 0 0)], places := [(0, 1), (1, 3)] }), (1, { n := 4 })]) (.o)) (.o))) (.s (.r [(0, { n := 3, agg := true }), (1, { off := 1 }), (2, { n := 3, agg := true }), (3, { n := 3, agg := true }), (8, { zero := [(.int .i64 0), (.int .i64 0), (.slice none 0 0)], acc := [(2, 3012)] }), (9, { n := 3 })]) (.s (.r [(1, { n := 3, agg := true }), (2, { zero := [(.slice none 0 0), (.int .i64 0), (.int .i64 0), (.slice none 0 0)], places := [(0, 1), (1, 3)] }), (3, { zero := [(.slice none 0 0), (.int .i64 0), (.int .i64 0), (.slice none 0 0)], acc := [(0, 1014), (3, 4014)] }), (4, { n := 4 })]) (.s (.s (.r [(3, { n := 4, agg := true })]) (.s (.s (.r [(0, { zero := [(.slice none 0 0), (.int .i64 0), (.int .i64 0), (.slice none 0 0)], places := [(0, 1), (1, 3)] }), (1, { n := 4 })]) (.o)) (.o))) (.s (.r [(0, { n := 4, agg := true }), (1, { n := 4 })]) (.o))))))))
theorem k129 : okF Tryz.prog Tryz.f129 h129 [(true, 4), (false, 0)] = true := by kernel_rfl

/- couplet/joseph.Update(couplet/env.Num) -/
def h130 : Hint := .s (.r [(0, { n := 4 }), (1, { n := 4 }), (2, { n := 4 }), (3, { zero := [(.slice none 0 0), (.int .i64 0), (.int .i64 0), (.slice none 0 0)], acc := [(0, 1008), (3, 4008)] }), (4, { zero := [(.int .i64 0), (.int .i64 0), (.int .i64 0), (.bool false), (.int .i64 0), (.int .i64 0), (.int .i64 0), (.bool false)] })]) (.s (.r [(0, { off := 0 }), (1, { n := 1, agg := false })]) (.s (.s (.r [(0, { n := 4, agg := true })]) (.s (.s (.r [(0, { zero := [(.slice none 0 0), (.int .i64 0), (.int .i64 0), (.slice none 0 0)], places := [(0, 1), (1, 3)] }), (1, { zero := [(.int .i64 0), (.int .i64 0), (.int .i64 0), (.bool false), (.int .i64 0), (.int .i64 0), (.int .i64 0), (.bool false)], places := [(0, 4), (4, 4)] }), (2, { n := 4 }), (3, { n := 8 })]) (.o)) (.o))) (.s (.r [(0, { off := 1 }), (1, { n := 3, agg := true })]) (.s (.d [] [(4, { n := 4, agg := true }), (6, { zero := [(.int .i64 0), (.int .i64 0), (.int .i64 0), (.bool false)] }), (7, { n := 4 })]) (.s (.d [] [(0, { n := 4, agg := true }), (3, { off := 0 }), (4, { n := 1, agg := false }), (7, { zero := [(.int .i64 0), (.int .i64 0), (.int .i64 0), (.bool false)] }), (8, { n := 4 })]) (.s (.r [(0, { acc := [(0, 16)] })]) (.s (.s (.o) (.b (.l [.junk [0, 2, 3, 5, 7, 10, 12, 13, 17, 18, 19, 20, 21, 22, 23, 24, 25, 26, 27, 28, 29, 30, 31, 32, 33, 34, 35, 36, 37, 38, 39, 40, 41, 42, 43, 44, 45, 46, 47, 48, 49, 50, 51, 52, 53, 54, 55, 56, 57, 58, 59, 60, 61, 62, 63, 64, 65, 66, 67, 68, 72, 73, 74, 75, 76, 77, 78, 79, 80, 81, 82, 83, 84, 85, 86, 87, 88, 89, 90, 91, 92, 93, 94, 95, 96, 97, 98, 99, 100, 101, 102, 103, 104, 105, 106, 107, 108, 109, 110, 111, 112, 113, 114, 115, 116, 117, 118, 119, 120, 121, 122, 123, 124, 125, 126, 127, 128, 129, 130, 131, 132, 133, 134, 135, 136, 137, 138, 139, 140, 141, 142, 143, 144, 145, 146, 147, 148, 149], .drop [18], .row 8 0 5008, .row 8 3 20008, .row 19 2 15019, .row 21 2 15021, .row 23 2 15023, .row 25 2 15025, .row 27 2 15027, .row 29 2 15029, .row 31 2 15031, .row 33 2 15033] (.s (.o) (.s (.s (.o) (.o)) (.s (.b (.s (.r [(0, { n := 4 }), (1, { n := 4, agg := true }), (2, { zero := [(.int .i64 0), (.int .i64 0), (.int .i64 0), (.bool false)] }), (3, { n := 4 })]) (.r [(1, { n := 4, agg := true }), (3, { n := 4, agg := true }), (5, { n := 4 }), (6, { n := 4, t := 32 })]))) (.o))))))) (.s (.r [(6, { zero := [(.int .i64 0), (.int .i64 0), (.slice none 0 0)], acc := [(2, 3019)] }), (7, { n := 3 })]) (.s (.r [(6, { zero := [(.int .i64 0), (.int .i64 0), (.slice none 0 0)], acc := [(2, 3021)] }), (7, { n := 3 })]) (.s (.r [(5, { zero := [(.int .i64 0), (.int .i64 0), (.slice none 0 0)], acc := [(2, 3023)] }), (6, { n := 3 })]) (.s (.r [(0, { n := 3, agg := true }), (1, { n := 3, agg := true }), (6, { zero := [(.int .i64 0), (.int .i64 0), (.slice none 0 0)], acc := [(2, 3025)] }), (7, { n := 3 })]) (.s (.r [(0, { n := 3, agg := true }), (1, { n := 3, agg := true }), (6, { zero := [(.int .i64 0), (.int .i64 0), (.slice none 0 0)], acc := [(2, 3027)] }), (7, { n := 3 })]) (.s (.r [(2, { n := 4, agg := true }), (8, { zero := [(.int .i64 0), (.int .i64 0), (.slice none 0 0)], acc := [(2, 3029)] }), (9, { n := 3 })]) (.s (.d [] [(0, { n := 3, agg := true }), (1, { n := 3, agg := true }), (7, { zero := [(.int .i64 0), (.int .i64 0), (.slice none 0 0)], acc := [(2, 3031)] }), (8, { n := 3 })]) (.s (.r [(0, { n := 3, agg := true }), (1, { off := 1 }), (2, { n := 3, agg := true }), (3, { n := 3, agg := true }), (8, { zero := [(.int .i64 0), (.int .i64 0), (.slice none 0 0)], acc := [(2, 3033)] }), (9, { n := 3 })]) (.s (.s (.o) (.s (.s (.r [(0, { zero := [(.slice none 0 0), (.int .i64 0), (.int .i64 0), (.slice none 0 0)], places := [(0, 1), (1, 3)] }), (1, { zero := [(.int .i64 0), (.int .i64 0), (.int .i64 0), (.bool false), (.int .i64 0), (.int .i64 0), (.int .i64 0), (.bool false)], places := [(0, 4), (4, 4)] }), (2, { n := 4 }), (3, { n := 8 })]) (.o)) (.o))) (.s (.d [(15, 8), (14, 8)] [(0, { off := 0 }), (1, { n := 1, agg := false }), (3, { n := 4, agg := true }), (6, { n := 3, agg := true }), (7, { zero := [(.slice none 0 0), (.int .i64 0), (.int .i64 0), (.slice none 0 0)], places := [(0, 1), (1, 3)] }), (8, { n := 4, agg := true }), (9, { n := 4, agg := true }), (10, { zero := [(.int .i64 0), (.int .i64 0), (.int .i64 0), (.bool false), (.int .i64 0), (.int .i64 0), (.int .i64 0), (.bool false)], places := [(0, 4), (4, 4)] }), (11, { n := 4 }), (12, { n := 8 })]) (.o))))))))))))))))))
theorem k130 : okF Tryz.prog Tryz.f130 h130 [(true, 4), (true, 8), (false, 0)] = true := by kernel_rfl

/- couplet/coupletref09.each -/
/- couplet/coupletref09.whole -/
/- (couplet/lanes.Pair).matrix -/
def h133 : Hint := .s (.r [(0, { n := 24 }), (1, { zero := [(.int .i64 0), (.int .i64 0), (.slice none 0 0)], acc := [(2, 3004)] })]) (.s (.s (.o) (.s (.s (.r [(0, { off := 0 }), (1, { off := 1 }), (2, { n := 3, agg := true }), (3, { n := 3 })]) (.o)) (.o))) (.s (.r [(0, { off := 4 }), (1, { off := 1 }), (2, { n := 3, agg := true }), (3, { n := 3 })]) (.o)))
theorem k133 : okF Tryz.prog Tryz.f133 h133 [(true, 3)] = true := by kernel_rfl

/- couplet/compare.greatest -/
/- (couplet/env.Num).Add$1 -/
def h135 : Hint := .s (.o) (.s (.o) (.o))
theorem k135 : okF Tryz.prog Tryz.f135 h135 [(false, 0), (false, 0)] = true := by kernel_rfl

/- couplet/fx.Add -/
def h136 : Hint := .s (.o) (.s (.s (.o) (.s (.s (.o) (.o)) (.o))) (.s (.o) (.o)))
theorem k136 : okF Tryz.prog Tryz.f136 h136 [(false, 0), (false, 0)] = true := by kernel_rfl

/- couplet/env.made -/
def h137 : Hint := .s (.r [(0, { n := 4 }), (1, { n := 4 }), (2, { zero := [(.int .i64 0), (.int .i64 0), (.int .i64 0), (.bool false)] })]) (.s (.r [(1, { off := 0 }), (2, { n := 1, agg := false }), (3, { off := 0 }), (4, { n := 1, agg := false })]) (.s (.r [(0, { acc := [(0, 11)] }), (1, { acc := [(0, 12)] })]) (.s (.s (.o) (.b (.l [.junk [0, 1, 3, 6, 7, 13, 14, 15, 16, 17, 18, 19, 20, 21, 22, 23, 24, 25, 26, 27, 31, 32, 33, 34, 35, 36, 37, 38, 39, 40, 41, 42, 43, 44, 45, 46, 47, 48, 49, 50, 51, 52, 53, 54, 55, 56, 57, 58, 59, 60, 61, 62, 63, 64, 65, 66, 67, 68, 69, 70, 71, 72, 73, 74, 75, 76, 77, 78, 79, 80, 81, 82, 83, 84, 85, 86], .drop [14]] (.s (.o) (.s (.s (.o) (.o)) (.s (.b (.s (.r [(0, { n := 2 }), (1, { n := 2, agg := true }), (2, { zero := [(.int .i64 0), (.int .i64 0)] }), (3, { n := 2 })]) (.s (.r [(1, { n := 1, t := 2 }), (2, { n := 1, agg := false }), (3, { n := 1, t := 2 }), (4, { n := 1, agg := false })]) (.s (.r [(1, { n := 1, t := 2 }), (2, { n := 1, agg := false }), (3, { n := 1, t := 2 }), (4, { n := 1, agg := false })]) (.s (.o) (.r [(2, { n := 1 }), (3, { n := 1, t := 8 }), (6, { n := 1 }), (7, { n := 1, t := 8 })])))))) (.o))))))) (.s (.s (.r [(3, { n := 4, agg := true }), (8, { n := 4, agg := true })]) (.s (.s (.r [(1, { n := 4 })]) (.o)) (.o))) (.s (.r [(5, { zero := [(.int .i64 0), (.int .i64 0), (.int .i64 0), (.bool false)], places := [(0, 1), (1, 1), (2, 1), (3, 1)] }), (6, { n := 4 })]) (.o))))))
theorem k137 : okF Tryz.prog Tryz.f137 h137 [(true, 4)] = true := by kernel_rfl

/- couplet/fx.Right -/
def h138 : Hint := .s (.o) (.s (.o) (.o))
theorem k138 : okF Tryz.prog Tryz.f138 h138 [(false, 0)] = true := by kernel_rfl

/- couplet/compare.Rows$1 -/
/- couplet/coupletref03.Fine -/
/- couplet/compare.Far$1 -/
/- couplet/tri.Root(couplet/env.Num) -/
/- (couplet/mat.Mat(couplet/env.Num)).Right$1 -/
def h143 : Hint := .s (.o) (.s (.o) (.o))
theorem k143 : okF Tryz.prog Tryz.f143 h143 [(false, 0)] = true := by kernel_rfl

/- (couplet/mat.Mat(couplet/frac.Frac)).Right -/
/- (couplet/mat.Mat(couplet/frac.Frac)).All -/
/- couplet/house.fold(couplet/frac.Frac) -/
/- couplet/house.Signs(couplet/frac.Frac) -/
/- couplet/tri.Clear(couplet/frac.Frac) -/
/- (couplet/mat.Mat(couplet/env.Num)).All$1 -/
def h149 : Hint := .s (.o) (.b (.l [.junk [2, 4, 5, 6, 7, 8, 9, 10, 11, 12, 13, 14, 15, 16, 17, 18, 19, 20]] (.s (.s (.r [(0, { n := 3, agg := true }), (4, { off := 0 }), (5, { n := 1, agg := false })]) (.s (.o) (.o))) (.s (.b (.s (.r [(2, { n := 3, agg := true })]) (.s (.o) (.o)))) (.o)))))
theorem k149 : okF Tryz.prog Tryz.f149 h149 [] = true := by kernel_rfl
/- (couplet/mat.Mat(couplet/env.Num)).All$1 -/
def hN149 : Hint := .s (.o) (.b (.l [.junk [2, 4, 5, 6, 7, 8, 9, 10, 11, 12, 13, 14, 15, 16, 17, 18, 19, 20]] (.s (.s (.r [(0, { n := 3, agg := true }), (4, { off := 0 }), (5, { n := 1, agg := false })]) (.s (.o) (.o))) (.s (.b (.s (.r [(2, { n := 3, agg := true }), (4, { mc := 6 })]) (.s (.o) (.o)))) (.o)))))
theorem kN149 : okF Tryz.prog Tryz.f149 hN149 [] = true := by kernel_rfl

/- (couplet/mat.Mat(couplet/env.Num)).Row -/
def h150 : Hint := .s (.r [(0, { n := 3 }), (1, { acc := [(0, 4)] })]) (.s (.s (.r [(0, { n := 3, agg := true }), (9, { off := 0 }), (10, { n := 1, agg := false })]) (.s (.s (.r [(0, { acc := [(0, 4)] })]) (.o)) (.o))) (.s (.r [(0, { off := 2 }), (1, { n := 1, agg := false }), (3, { off := 1 }), (4, { n := 1, agg := false }), (8, { off := 1 }), (9, { n := 1, agg := false }), (11, { n := 4 })]) (.o)))
theorem k150 : okF Tryz.prog Tryz.f150 h150 [(false, 0)] = true := by kernel_rfl
/- (couplet/mat.Mat(couplet/env.Num)).Row -/
def hN150 : Hint := .s (.r [(0, { n := 3 }), (1, { acc := [(0, 4)] })]) (.s (.s (.r [(0, { n := 3, agg := true }), (9, { off := 0 }), (10, { n := 1, agg := false })]) (.s (.s (.r [(0, { acc := [(0, 4)] })]) (.o)) (.o))) (.s (.r [(0, { off := 2 }), (1, { n := 1, agg := false }), (3, { off := 1 }), (4, { n := 1, agg := false }), (8, { off := 1 }), (9, { n := 1, agg := false }), (11, { n := 4 }), (12, { mc := 6 })]) (.o)))
theorem kN150 : okF Tryz.prog Tryz.f150 hN150 [(false, 0)] = true := by kernel_rfl

/- couplet/vec.Dot(couplet/env.Num) -/
def h151 : Hint := .s (.r [(0, { zero := [(.int .i64 0), (.int .i64 0), (.int .i64 0), (.bool false)] })]) (.s (.r [(4, { n := 4 })]) (.o))
theorem k151 : okF Tryz.prog Tryz.f151 h151 [(true, 4)] = true := by kernel_rfl

/- couplet/vec.Sub(couplet/env.Num) -/
def h152 : Hint := .s (.r [(0, { acc := [(0, 4)] })]) (.s (.o) (.o))
theorem k152 : okF Tryz.prog Tryz.f152 h152 [(false, 0)] = true := by kernel_rfl
/- couplet/vec.Sub(couplet/env.Num) -/
def hN152 : Hint := .s (.r [(0, { acc := [(0, 4)] })]) (.s (.r [(2, { mc := 6 })]) (.o))
theorem kN152 : okF Tryz.prog Tryz.f152 hN152 [(false, 0)] = true := by kernel_rfl

/- couplet/vec.Scale(couplet/env.Num) -/
def h153 : Hint := .s (.r [(0, { n := 4 }), (1, { acc := [(0, 4)] })]) (.s (.r [(0, { acc := [(0, 5)] })]) (.s (.s (.o) (.b (.l [.junk [0, 1, 2, 4, 6, 7, 11, 12, 13, 14, 15, 16, 17, 18, 19, 20, 21, 22], .drop [7]] (.s (.o) (.s (.s (.o) (.o)) (.s (.b (.s (.r [(0, { n := 4 }), (1, { n := 4, agg := true }), (2, { zero := [(.int .i64 0), (.int .i64 0), (.int .i64 0), (.bool false)] }), (3, { n := 4 })]) (.r [(1, { n := 4, agg := true }), (3, { n := 4, agg := true }), (5, { n := 4 }), (6, { n := 4, t := 32 })]))) (.o))))))) (.s (.o) (.o))))
theorem k153 : okF Tryz.prog Tryz.f153 h153 [(false, 0)] = true := by kernel_rfl
/- couplet/vec.Scale(couplet/env.Num) -/
def hN153 : Hint := .s (.r [(0, { n := 4 }), (1, { acc := [(0, 4)] })]) (.s (.r [(0, { acc := [(0, 5)] })]) (.s (.s (.o) (.b (.l [.junk [0, 1, 2, 4, 6, 7, 11, 12, 13, 14, 15, 16, 17, 18, 19, 20, 21, 22], .drop [7]] (.s (.o) (.s (.s (.o) (.o)) (.s (.b (.s (.r [(0, { n := 4 }), (1, { n := 4, agg := true }), (2, { zero := [(.int .i64 0), (.int .i64 0), (.int .i64 0), (.bool false)] }), (3, { n := 4 })]) (.r [(1, { n := 4, agg := true }), (3, { n := 4, agg := true }), (5, { n := 4 }), (6, { n := 4, t := 32 })]))) (.o))))))) (.s (.o) (.o))))
theorem kN153 : okF Tryz.prog Tryz.f153 hN153 [(false, 0)] = true := by kernel_rfl

/- couplet/tri.square(couplet/env.Num) -/
def h154 : Hint := .s (.r [(0, { n := 3 })]) (.s (.r [(0, { n := 3, agg := true }), (3, { off := 0 }), (4, { n := 1, agg := false }), (5, { off := 1 }), (6, { n := 1, agg := false })]) (.o))
theorem k154 : okF Tryz.prog Tryz.f154 h154 [(false, 0)] = true := by kernel_rfl

/- couplet/tri.made(couplet/env.Num) -/
def h155 : Hint := .s (.r [(0, { zero := [(.int .i64 0), (.int .i64 0), (.slice none 0 0)], acc := [(2, 3004)] })]) (.s (.r [(0, { acc := [(0, 6)] })]) (.s (.s (.o) (.b (.l [.junk [2, 3, 5, 7, 8, 11, 12, 13, 14, 15, 16, 17, 18, 19, 20, 21, 22, 23, 24, 25, 26, 27, 28, 29, 30, 31], .row 4 2 15004] (.s (.o) (.s (.s (.o) (.o)) (.s (.b (.s (.o) (.s (.o) (.b (.l [.junk [2, 3, 5, 8, 11, 12, 15, 16, 17, 18, 19, 20, 21, 22, 23, 24, 25, 26, 27, 28, 29, 30, 31], .row 4 2 15004] (.s (.o) (.s (.s (.o) (.o)) (.s (.b (.s (.o) (.r [(5, { n := 4 }), (6, { n := 4, t := 32 })]))) (.o))))))))) (.o))))))) (.s (.r [(3, { mc := 6 }), (6, { n := 3 })]) (.o))))
theorem k155 : okF Tryz.prog Tryz.f155 h155 [(true, 3), (false, 0)] = true := by kernel_rfl

/- couplet/tri.Clear(couplet/env.Num)$1 -/
def h156 : Hint := .s (.r [(0, { zero := [(.int .i64 0), (.int .i64 0), (.int .i64 0), (.bool false)] })]) (.s (.s (.o) (.s (.s (.r [(0, { n := 4, agg := true }), (3, { n := 4 })]) (.o)) (.o))) (.s (.r [(0, { n := 3, agg := true }), (4, { n := 4 })]) (.o)))
theorem k156 : okF Tryz.prog Tryz.f156 h156 [(true, 4)] = true := by kernel_rfl

/- couplet/coupletref03.one -/
/- slices.Clone(()couplet/frac.Frac,couplet/frac.Frac) -/
/- slices.Clone(()couplet/frac.Frac,couplet/frac.Frac) -/
/- couplet/root.column(couplet/frac.Frac) -/
/- slices.Concat(()couplet/frac.Frac,couplet/frac.Frac) -/
/- slices.Concat(()couplet/frac.Frac,couplet/frac.Frac) -/
/- (couplet/mat.Mat(couplet/env.Num)).Turn -/
def h161 : Hint := .s (.r [(0, { n := 3 }), (1, { zero := [(.int .i64 0), (.int .i64 0), (.slice none 0 0)], acc := [(2, 3002)] })]) (.s (.s (.r [(0, { n := 3, agg := true })]) (.s (.s (.r [(0, { zero := [(.int .i64 0), (.int .i64 0), (.slice none 0 0)], places := [(0, 1), (1, 1), (2, 1)] }), (1, { n := 3 })]) (.o)) (.o))) (.s (.r [(0, { off := 1 }), (1, { n := 1, agg := false }), (2, { off := 0 }), (3, { n := 1, agg := false }), (4, { zero := [(.int .i64 0), (.int .i64 0), (.slice none 0 0)], places := [(0, 1), (1, 1), (2, 1)] }), (5, { zero := [(.int .i64 0), (.int .i64 0), (.slice none 0 0)], acc := [(2, 3003)] }), (6, { n := 3 })]) (.s (.s (.r [(0, { off := 1 }), (1, { n := 1, agg := false })]) (.b (.l [.junk [0, 4, 5, 6, 7, 8, 9, 10, 11, 12, 13, 14, 15, 18, 19, 20, 21, 22, 23, 24, 25, 26, 27, 28, 29, 30, 31, 32, 33, 34, 35, 36], .row 2 2 15002, .row 3 2 15003] (.s (.o) (.s (.s (.o) (.o)) (.s (.b (.s (.o) (.s (.r [(0, { off := 0 }), (1, { n := 1, agg := false })]) (.b (.l [.junk [0, 5, 6, 7, 8, 9, 10, 11, 12, 13, 14, 15, 18, 19, 20, 23, 24, 25, 26, 27, 28, 29, 30, 31, 32, 33, 34, 35, 36], .row 2 2 15002, .row 3 2 15003] (.s (.o) (.s (.s (.o) (.o)) (.s (.b (.s (.o) (.r [(0, { off := 2 }), (1, { n := 1, agg := false }), (2, { n := 3, agg := true }), (6, { n := 4 }), (7, { n := 4, t := 32 }), (8, { off := 2 }), (9, { n := 1 })]))) (.o))))))))) (.o))))))) (.s (.r [(0, { n := 3, agg := true }), (1, { n := 3 })]) (.o)))))
theorem k161 : okF Tryz.prog Tryz.f161 h161 [(true, 3)] = true := by kernel_rfl

/- couplet/root.column(couplet/env.Num) -/
def h162 : Hint := .s (.r [(0, { n := 4 }), (1, { n := 4 }), (2, { n := 4 })]) (.s (.d [] [(0, { n := 4, agg := true }), (2, { n := 4, agg := true }), (6, { n := 4, agg := true }), (8, { n := 4, agg := true }), (10, { n := 4, agg := true }), (15, { zero := [(.int .i64 0), (.int .i64 0), (.int .i64 0), (.bool false)] }), (16, { zero := [(.int .i64 0), (.int .i64 0), (.int .i64 0), (.bool false)] }), (17, { n := 4 }), (18, { n := 4 })]) (.s (.o) (.b (.l [.junk [2, 3, 4, 6, 7, 9, 10, 11, 15, 16, 17, 18, 19, 20, 21, 22, 23, 24, 25, 26, 27, 28, 29, 30, 31, 32, 33, 34, 35, 36, 37, 38, 39, 40, 41, 42, 43, 44, 45, 46, 47, 48, 49, 50, 51, 52, 53, 54, 55, 56, 57, 58, 59, 60, 61, 62, 63, 64, 65, 66, 67, 68, 69, 70, 71, 72, 73, 74, 75, 76], .drop [15]] (.s (.s (.o) (.s (.o) (.o))) (.s (.b (.s (.r [(2, { n := 1 }), (3, { n := 1, agg := false }), (5, { n := 4 }), (6, { n := 4, agg := true }), (7, { zero := [(.int .i64 0), (.int .i64 0), (.int .i64 0), (.bool false)] }), (8, { n := 4 })]) (.s (.r [(2, { n := 1 }), (3, { n := 1, agg := false }), (5, { n := 4, agg := true }), (7, { n := 4, agg := true }), (12, { n := 4 }), (13, { n := 4, agg := true }), (15, { n := 4, agg := true }), (18, { n := 4 }), (19, { n := 4 })]) (.r [(4, { n := 4 }), (5, { n := 4, agg := true }), (7, { n := 4, agg := true }), (9, { n := 4, agg := true }), (12, { n := 4 }), (13, { n := 4 })])))) (.o)))))))
theorem k162 : okF Tryz.prog Tryz.f162 h162 [] = true := by kernel_rfl

/- couplet/vec.Add(couplet/env.Num) -/
def h163 : Hint := .s (.r [(0, { acc := [(0, 4)] })]) (.s (.o) (.o))
theorem k163 : okF Tryz.prog Tryz.f163 h163 [(false, 0)] = true := by kernel_rfl
/- couplet/vec.Add(couplet/env.Num) -/
/- couplet/wide.Right -/
def h164 : Hint := .s (.o) (.s (.o) (.o))
theorem k164 : okF Tryz.prog Tryz.f164 h164 [(false, 0)] = true := by kernel_rfl

/- couplet/tri.square(couplet/frac.Frac) -/
/- (couplet/mat.Mat(couplet/frac.Frac)).Mirror -/
/- (couplet/mat.Mat(couplet/frac.Frac)).Add -/
/- couplet/vec.Sum(couplet/frac.Frac) -/
/- couplet/vec.of(couplet/frac.Frac) -/
/- couplet/vec.of(couplet/frac.Frac) -/
/- couplet/vec.Dot(couplet/frac.Frac)$1 -/
/- (couplet/mat.Mat(couplet/frac.Frac)).each -/
/- couplet/vec.Sub(couplet/frac.Frac) -/
/- couplet/vec.Sub(couplet/frac.Frac) -/
/- couplet/vec.Add(couplet/frac.Frac)$1 -/
/- (couplet/mat.Mat(couplet/env.Num)).Apply -/
def h174 : Hint := .s (.r [(0, { n := 3 }), (1, { n := 1 }), (2, { acc := [(0, 4)] })]) (.s (.s (.r [(0, { n := 3, agg := true }), (4, { n := 1, agg := false }), (6, { off := 1 }), (7, { n := 1, agg := false })]) (.s (.s (.r [(0, { acc := [(0, 4)] })]) (.o)) (.o))) (.s (.r [(0, { zero := [(.slice none 0 0)], acc := [(0, 1006)] })]) (.s (.s (.r [(0, { n := 3, agg := true })]) (.b (.f [.row 6 0 5006] (.o) (.b (.r [(0, { n := 1, agg := false }), (2, { n := 1, agg := false }), (4, { n := 4 }), (5, { n := 4, t := 32 }), (6, { n := 1 })]))))) (.s (.r [(0, { n := 1, agg := false })]) (.o)))))
theorem k174 : okF Tryz.prog Tryz.f174 h174 [(false, 0), (false, 0)] = true := by kernel_rfl

/- (couplet/mat.Mat(couplet/env.Num)).Mul -/
def h175 : Hint := .s (.r [(0, { n := 3 }), (1, { n := 3 }), (2, { zero := [(.int .i64 0), (.int .i64 0), (.slice none 0 0)], acc := [(2, 3004)] })]) (.s (.s (.r [(0, { n := 3, agg := true }), (4, { n := 3, agg := true }), (9, { off := 1 }), (10, { n := 1, agg := false }), (11, { off := 0 }), (12, { n := 1, agg := false })]) (.s (.s (.r [(0, { zero := [(.int .i64 0), (.int .i64 0), (.slice none 0 0)], places := [(0, 1), (1, 1), (2, 1)] }), (1, { n := 3 })]) (.o)) (.o))) (.s (.r [(0, { off := 0 }), (1, { n := 1, agg := false }), (2, { off := 1 }), (3, { n := 1, agg := false }), (4, { zero := [(.int .i64 0), (.int .i64 0), (.slice none 0 0)], places := [(0, 1), (1, 1), (2, 1)] }), (5, { zero := [(.int .i64 0), (.int .i64 0), (.slice none 0 0)], acc := [(2, 3006)] }), (6, { n := 3 })]) (.s (.r [(0, { n := 3, agg := true }), (2, { zero := [(.int .i64 0), (.int .i64 0), (.slice none 0 0)], acc := [(2, 3007)] }), (3, { n := 3 })]) (.s (.s (.r [(0, { n := 3, agg := true })]) (.b (.f [.drop [9], .forget 1009, .row 4 2 15004, .row 6 2 15006, .row 7 2 15007] (.r [(0, { zero := [(.slice none 0 0)], acc := [(0, 1009)] }), (1, { n := 1 })]) (.b (.s (.r [(0, { n := 3, agg := true })]) (.b (.f [.row 4 2 15004, .row 6 2 15006, .row 7 2 15007, .row 9 0 5009] (.o) (.b (.r [(0, { off := 2 }), (1, { n := 1, agg := false }), (2, { n := 1, agg := false }), (5, { n := 4 }), (6, { n := 4, t := 32 }), (7, { off := 2 }), (8, { n := 1 })]))))))))) (.s (.r [(0, { n := 3, agg := true }), (1, { n := 3 })]) (.o))))))
theorem k175 : okF Tryz.prog Tryz.f175 h175 [(true, 3), (false, 0)] = true := by kernel_rfl

/- (couplet/mat.Mat(couplet/env.Num)).Beside -/
def h176 : Hint := .s (.r [(0, { n := 3 }), (1, { n := 3 }), (2, { zero := [(.int .i64 0), (.int .i64 0), (.slice none 0 0)], acc := [(2, 3004)] })]) (.s (.s (.r [(0, { n := 3, agg := true }), (4, { n := 3, agg := true }), (9, { off := 0 }), (10, { n := 1, agg := false }), (11, { off := 0 }), (12, { n := 1, agg := false })]) (.s (.s (.r [(0, { zero := [(.int .i64 0), (.int .i64 0), (.slice none 0 0)], places := [(0, 1), (1, 1), (2, 1)] }), (1, { n := 3 })]) (.o)) (.o))) (.s (.r [(0, { zero := [(.slice none 0 0)], acc := [(0, 1006)] })]) (.s (.s (.r [(0, { n := 3, agg := true })]) (.b (.f [.row 4 2 15004, .row 6 0 5006] (.s (.o) (.o)) (.b (.r [(0, { n := 1, agg := false }), (2, { n := 4, t := 32 }), (3, { n := 3, agg := true }), (6, { n := 4, t := 32 }), (7, { n := 1 })]))))) (.s (.r [(0, { off := 0 }), (1, { n := 1, agg := false }), (2, { off := 1 }), (3, { n := 1, agg := false }), (4, { off := 1 }), (5, { n := 1, agg := false }), (7, { n := 1, agg := false }), (11, { n := 3 })]) (.o)))))
theorem k176 : okF Tryz.prog Tryz.f176 h176 [(true, 3), (false, 0)] = true := by kernel_rfl

/- couplet/fx.Of -/
def h177 : Hint := .s (.o) (.s (.o) (.s (.o) (.o)))
theorem k177 : okF Tryz.prog Tryz.f177 h177 [(false, 0), (false, 0)] = true := by kernel_rfl

/- couplet/wide.right -/
def h178 : Hint := .s (.o) (.s (.o) (.o))
theorem k178 : okF Tryz.prog Tryz.f178 h178 [(false, 0)] = true := by kernel_rfl

/- couplet/wide.times -/
def h179 : Hint := .s (.r [(0, { zero := [(.int .u64 0), (.int .u64 0)] })]) (.s (.o) (.s (.r [(2, { zero := [(.int .u64 0), (.int .u64 0)], places := [(0, 1), (1, 1)] }), (3, { n := 2 })]) (.o)))
theorem k179 : okF Tryz.prog Tryz.f179 h179 [(true, 2)] = true := by kernel_rfl

/- couplet/wide.size -/
def h180 : Hint := .s (.o) (.s (.r [(4, { ks := [some .u64] })]) (.o))
theorem k180 : okF Tryz.prog Tryz.f180 h180 [(false, 0)] = true := by kernel_rfl

/- math/bits.Div64 -/
def h181 : Hint := .s (.o) (.s (.s (.o) (.s (.no) (.o))) (.s (.s (.o) (.s (.no) (.o))) (.s (.s (.o) (.s (.s (.o) (.o)) (.o))) (.s (.r [(2, { ks := [some .u64] })]) (.s (.o) (.s (.o) (.s (.o) (.s (.o) (.s (.o) (.s (.o) (.s (.o) (.s (.o) (.s (.o) (.s (.b (.l [.junk [0, 1, 3, 4, 5, 6, 7, 12, 17, 18, 19, 20, 21, 22, 23, 24, 25, 26, 27, 28, 29, 30, 31, 32, 33, 34, 35, 36, 37, 38, 39, 40, 41, 42, 43, 44, 45, 46, 47, 48, 49, 50, 51, 52, 53, 54, 55, 56, 57, 58, 59, 60, 61, 62, 63, 64, 65, 66, 67, 68, 69, 70, 71, 72, 73, 74, 75, 76, 77, 78, 79, 80, 81, 82, 83, 84, 85, 86, 87, 88, 89, 90, 91, 92, 93, 94, 95, 96, 97, 98, 99, 100, 101, 102, 103, 104, 105, 106, 107, 108, 109, 110, 111, 112, 113, 114, 115, 116, 117, 118, 119, 120, 121, 122, 123, 124, 125, 126, 127, 128, 129, 130, 131, 132, 133, 134]] (.s (.s (.o) (.s (.o) (.o))) (.b (.s (.o) (.s (.o) (.s (.o) (.s (.o) (.o))))))))) (.s (.o) (.s (.o) (.s (.o) (.s (.b (.l [.junk [0, 1, 3, 4, 5, 6, 7, 11, 12, 13, 19, 20, 21, 22, 23, 24, 25, 26, 27, 28, 29, 30, 31, 32, 33, 34, 35, 36, 37, 38, 39, 40, 41, 42, 43, 44, 45, 46, 47, 48, 49, 50, 51, 52, 53, 54, 55, 56, 57, 58, 59, 60, 61, 62, 63, 64, 65, 66, 67, 68, 69, 70, 71, 72, 73, 74, 75, 76, 77, 78, 79, 80, 81, 82, 83, 84, 85, 86, 87, 88, 89, 90, 91, 92, 93, 94, 95, 96, 97, 98, 99, 100, 101, 102, 103, 104, 105, 106, 107, 108, 109, 110, 111, 112, 113, 114, 115, 116, 117, 118, 119, 120, 121, 122, 123, 124, 125, 126, 127, 128, 129, 130, 131, 132, 133, 134]] (.s (.s (.o) (.s (.o) (.o))) (.b (.s (.o) (.s (.o) (.s (.o) (.s (.o) (.o))))))))) (.s (.o) (.o))))))))))))))))))))
theorem k181 : okF Tryz.prog Tryz.f181 h181 [(false, 0), (false, 0)] = true := by kernel_rfl

/- couplet/wide.Compare$1 -/
def h182 : Hint := .s (.o) (.s (.b (.s (.o) (.s (.s (.o) (.o)) (.s (.r [(4, { n := 1 })]) (.s (.s (.o) (.o)) (.o)))))) (.s (.o) (.o)))
theorem k182 : okF Tryz.prog Tryz.f182 h182 [(false, 0)] = true := by kernel_rfl

/- couplet/wide.below -/
def h183 : Hint := .s (.r [(0, { n := 2 }), (1, { n := 2 })]) (.s (.r [(0, { n := 1, t := 2 }), (1, { n := 1, agg := false }), (2, { n := 1, t := 2 }), (3, { n := 1, agg := false }), (6, { n := 1, t := 2 }), (7, { n := 1, agg := false }), (8, { n := 1, t := 2 }), (9, { n := 1, agg := false }), (12, { n := 1, t := 2 }), (13, { n := 1, agg := false }), (14, { n := 1, t := 2 }), (15, { n := 1, agg := false })]) (.o))
theorem k183 : okF Tryz.prog Tryz.f183 h183 [(false, 0)] = true := by kernel_rfl

/- slices.IndexFunc(()int,int) -/
def h184 : Hint := .s (.o) (.s (.s (.o) (.b (.l [.junk [2, 3, 4, 5, 6, 9, 10, 11, 12, 13, 14, 15, 16, 17, 18]] (.s (.o) (.s (.s (.o) (.o)) (.s (.b (.s (.o) (.s (.r [(3, { n := 1 }), (4, { n := 1, agg := false })]) (.s (.s (.o) (.o)) (.o))))) (.o))))))) (.s (.o) (.o)))
theorem k184 : okF Tryz.prog Tryz.f184 h184 [(false, 0)] = true := by kernel_rfl

/- slices.IndexFunc(()couplet/env.Num,couplet/env.Num) -/
def h185 : Hint := .s (.o) (.s (.s (.o) (.b (.l [.junk [2, 3, 4, 5, 6, 9, 10, 11, 12, 13, 14, 15, 16, 17, 18]] (.s (.o) (.s (.s (.o) (.o)) (.s (.b (.s (.o) (.s (.r [(3, { n := 4 }), (4, { n := 4, agg := true })]) (.s (.s (.o) (.o)) (.o))))) (.o))))))) (.s (.o) (.o)))
theorem k185 : okF Tryz.prog Tryz.f185 h185 [(false, 0)] = true := by kernel_rfl

/- slices.Grow(()couplet/env.Num,couplet/env.Num) -/
/- couplet/frame.Right$1 -/
def h187 : Hint := .s (.o) (.s (.o) (.o))
theorem k187 : okF Tryz.prog Tryz.f187 h187 [(false, 0)] = true := by kernel_rfl

/- couplet/frame.Many -/
def h188 : Hint := .s (.o) (.s (.s (.o) (.s (.s (.o) (.o)) (.o))) (.s (.s (.o) (.b (.s (.o) (.s (.s (.o) (.o)) (.s (.o) (.s (.s (.o) (.o)) (.s (.o) (.s (.s (.o) (.o)) (.o))))))))) (.s (.o) (.o))))
theorem k188 : okF Tryz.prog Tryz.f188 h188 [(false, 0)] = true := by kernel_rfl

/- couplet/joseph.turned(couplet/env.Num) -/
def h189 : Hint := .s (.r [(0, { n := 3 }), (1, { n := 3 }), (2, { n := 3 }), (3, { zero := [(.int .i64 0), (.int .i64 0), (.slice none 0 0)], acc := [(2, 3006)] })]) (.s (.r [(0, { n := 3, agg := true }), (1, { n := 3, agg := true }), (6, { zero := [(.int .i64 0), (.int .i64 0), (.slice none 0 0)], acc := [(2, 3008)] }), (7, { n := 3 })]) (.s (.d [] [(0, { n := 3, agg := true }), (1, { n := 3, agg := true }), (7, { zero := [(.int .i64 0), (.int .i64 0), (.slice none 0 0)], acc := [(2, 3010)] }), (8, { n := 3 })]) (.s (.r [(0, { n := 3, agg := true }), (1, { n := 3, agg := true }), (6, { zero := [(.int .i64 0), (.int .i64 0), (.slice none 0 0)], acc := [(2, 3012)] }), (7, { n := 3 })]) (.s (.s (.o) (.s (.s (.r [(0, { zero := [(.int .i64 0), (.int .i64 0), (.slice none 0 0)], places := [(0, 1), (1, 1), (2, 1)] }), (1, { n := 3 })]) (.o)) (.o))) (.s (.r [(0, { n := 3, agg := true }), (4, { n := 3 })]) (.o))))))
theorem k189 : okF Tryz.prog Tryz.f189 h189 [(true, 3), (false, 0)] = true := by kernel_rfl

/- couplet/mat.Unit(couplet/env.Num) -/
def h190 : Hint := .s (.r [(0, { zero := [(.int .i64 0), (.int .i64 0), (.slice none 0 0)], acc := [(2, 3002)] })]) (.s (.s (.o) (.s (.s (.r [(0, { zero := [(.int .i64 0), (.int .i64 0), (.slice none 0 0)], places := [(0, 1), (1, 1), (2, 1)] }), (1, { n := 3 })]) (.o)) (.o))) (.s (.r [(3, { zero := [(.int .i64 0)], t := 8 })]) (.s (.s (.o) (.b (.l [.junk [1, 3, 5, 6, 7, 8, 9, 10, 11, 12, 13, 14, 15, 16, 19, 20, 21, 22, 23, 24, 25, 26, 27, 28, 29, 30, 31, 32, 33, 34]] (.s (.o) (.s (.s (.o) (.o)) (.s (.b (.s (.o) (.r [(6, { n := 1 }), (7, { n := 1 })]))) (.o))))))) (.s (.g [.shut 16] (.r [(6, { n := 3 })])) (.o)))))
theorem k190 : okF Tryz.prog Tryz.f190 h190 [(true, 3), (false, 0)] = true := by kernel_rfl

/- (couplet/mat.Mat(couplet/env.Num)).Sub -/
def h191 : Hint := .s (.r [(0, { n := 3 }), (1, { n := 3 }), (2, { zero := [(.int .i64 0), (.int .i64 0), (.slice none 0 0)], acc := [(2, 3004)] })]) (.s (.r [(0, { n := 3, agg := true }), (1, { n := 3, agg := true }), (5, { n := 3 })]) (.o))
theorem k191 : okF Tryz.prog Tryz.f191 h191 [(true, 3), (false, 0)] = true := by kernel_rfl

/- couplet/fx.told -/
def h192 : Hint := .s (.o) (.s (.s (.r [(2, { n := 1 }), (3, { n := 1, t := 8 })]) (.b (.l [.junk [2, 3, 4, 5, 6, 7, 8, 9, 10, 11, 12, 16, 17, 18, 19, 20, 21, 22, 23, 24, 25, 26, 27]] (.s (.o) (.s (.s (.o) (.o)) (.s (.b (.s (.r [(0, { n := 1 }), (1, { n := 1, agg := false })]) (.s (.o) (.s (.s (.o) (.o)) (.o))))) (.o))))))) (.s (.o) (.o)))
theorem k192 : okF Tryz.prog Tryz.f192 h192 [(false, 0), (false, 0)] = true := by kernel_rfl

/- slices.Min(()int,int) -/
def h193 : Hint := .s (.o) (.s (.s (.o) (.s (.no) (.o))) (.s (.r [(1, { n := 1 }), (2, { n := 1, agg := false })]) (.s (.s (.o) (.b (.l [.junk [1, 2, 5, 6, 7, 8, 9, 10, 11, 12, 13, 14, 15, 16, 17, 18, 19, 20, 21, 22, 23, 24]] (.s (.s (.o) (.s (.o) (.o))) (.s (.b (.r [(3, { n := 1 }), (4, { n := 1, agg := false })])) (.o)))))) (.s (.o) (.o)))))
theorem k193 : okF Tryz.prog Tryz.f193 h193 [(false, 0)] = true := by kernel_rfl

/- slices.Max(()int,int) -/
def h194 : Hint := .s (.o) (.s (.s (.o) (.s (.no) (.o))) (.s (.r [(1, { n := 1 }), (2, { n := 1, agg := false })]) (.s (.s (.o) (.b (.l [.junk [1, 2, 5, 6, 7, 8, 9, 10, 11, 12, 13, 14, 15, 16, 17, 18, 19, 20, 21, 22, 23, 24]] (.s (.s (.o) (.s (.o) (.o))) (.s (.b (.r [(3, { n := 1 }), (4, { n := 1, agg := false })])) (.o)))))) (.s (.o) (.o)))))
theorem k194 : okF Tryz.prog Tryz.f194 h194 [(false, 0)] = true := by kernel_rfl

/- couplet/coupletref02.Right -/
/- couplet/tri.Root(couplet/env.Num)$1 -/
/- couplet/tri.Root(couplet/env.Num)$2 -/
/- (couplet/mat.Mat(couplet/frac.Frac)).Right$1 -/
/- (couplet/mat.Mat(couplet/frac.Frac)).All$1 -/
/- (couplet/mat.Mat(couplet/frac.Frac)).All$1 -/
/- (couplet/mat.Mat(couplet/frac.Frac)).Row -/
/- (couplet/mat.Mat(couplet/frac.Frac)).Row -/
/- couplet/tri.made(couplet/frac.Frac) -/
/- couplet/tri.Clear(couplet/frac.Frac)$1 -/
/- couplet/vec.Sum(couplet/env.Num) -/
def h203 : Hint := .s (.r [(0, { zero := [(.int .i64 0), (.int .i64 0), (.int .i64 0), (.bool false)] })]) (.s (.r [(0, { zero := [(.int .i64 0), (.int .i64 0), (.int .i64 0), (.bool false)] })]) (.s (.r [(0, { n := 4, agg := true }), (3, { zero := [(.int .i64 0), (.int .i64 0), (.int .i64 0), (.bool false)] }), (4, { n := 4 })]) (.s (.s (.o) (.b (.l [.junk [0, 1, 3, 5, 6, 7, 8, 9, 13, 14, 15, 16, 17, 18, 19, 20, 21], .drop [6]] (.s (.o) (.s (.s (.o) (.o)) (.s (.b (.s (.r [(0, { n := 4 }), (1, { n := 4, agg := true }), (2, { zero := [(.int .i64 0), (.int .i64 0), (.int .i64 0), (.bool false)] }), (3, { n := 4 })]) (.r [(0, { n := 4, agg := true }), (2, { n := 4, agg := true }), (4, { n := 4 })]))) (.o))))))) (.s (.r [(0, { n := 4, agg := true }), (1, { n := 4 })]) (.o)))))
theorem k203 : okF Tryz.prog Tryz.f203 h203 [(true, 4)] = true := by kernel_rfl

/- couplet/vec.of(couplet/env.Num) -/
def h204 : Hint := .s (.r [(0, { n := 1 }), (1, { acc := [(0, 6)] })]) (.s (.r [(0, { zero := [(.slice none 0 0)], acc := [(0, 1007)] })]) (.s (.s (.o) (.b (.f [.drop [8, 9], .row 7 0 5007] (.s (.r [(0, { zero := [(.int .i64 0), (.int .i64 0), (.int .i64 0), (.bool false)] }), (1, { n := 4 })]) (.r [(0, { zero := [(.int .i64 0), (.int .i64 0), (.int .i64 0), (.bool false)] }), (1, { n := 4 })])) (.b (.r [(0, { n := 1, agg := false }), (1, { n := 1, agg := false }), (2, { n := 4, agg := true }), (3, { n := 4, agg := true }), (5, { n := 4 }), (6, { n := 4, t := 32 }), (7, { n := 1 })]))))) (.s (.r [(0, { n := 1, agg := false })]) (.o))))
theorem k204 : okF Tryz.prog Tryz.f204 h204 [(false, 0)] = true := by kernel_rfl
/- couplet/vec.of(couplet/env.Num) -/
def hN204 : Hint := .s (.r [(0, { n := 1 }), (1, { acc := [(0, 6)] })]) (.s (.r [(0, { zero := [(.slice none 0 0)], acc := [(0, 1007)] })]) (.s (.s (.o) (.b (.f [.drop [8, 9], .row 7 0 5007] (.s (.r [(0, { zero := [(.int .i64 0), (.int .i64 0), (.int .i64 0), (.bool false)] }), (1, { n := 4 })]) (.r [(0, { zero := [(.int .i64 0), (.int .i64 0), (.int .i64 0), (.bool false)] }), (1, { n := 4 })])) (.b (.r [(0, { n := 1, agg := false }), (1, { n := 1, agg := false }), (2, { n := 4, agg := true }), (3, { n := 4, agg := true }), (5, { n := 4 }), (6, { n := 4, t := 32 }), (7, { n := 1 })]))))) (.s (.r [(0, { n := 1, agg := false })]) (.o))))
theorem kN204 : okF Tryz.prog Tryz.f204 hN204 [(false, 0)] = true := by kernel_rfl

/- couplet/vec.Dot(couplet/env.Num)$1 -/
def h205 : Hint := .s (.r [(0, { n := 4 }), (1, { n := 4 }), (2, { zero := [(.int .i64 0), (.int .i64 0), (.int .i64 0), (.bool false)] })]) (.s (.r [(0, { n := 4, agg := true }), (2, { n := 4, agg := true }), (4, { n := 4 })]) (.o))
theorem k205 : okF Tryz.prog Tryz.f205 h205 [(true, 4)] = true := by kernel_rfl

/- couplet/vec.Sub(couplet/env.Num)$1 -/
def h206 : Hint := .s (.r [(0, { n := 4 }), (1, { n := 4 }), (2, { zero := [(.int .i64 0), (.int .i64 0), (.int .i64 0), (.bool false)] })]) (.s (.r [(0, { n := 4, agg := true }), (2, { n := 4, agg := true }), (4, { n := 4 })]) (.o))
theorem k206 : okF Tryz.prog Tryz.f206 h206 [(true, 4)] = true := by kernel_rfl

/- couplet/coupletref02.Told -/
/- couplet/coupletref02.Mul -/
/- couplet/coupletref02.Div -/
/- couplet/coupletref02.Root -/
/- couplet/coupletref01.Less -/
/- couplet/coupletref01.Times -/
/- slices.Grow(()couplet/frac.Frac,couplet/frac.Frac) -/
/- couplet/vec.Add(couplet/env.Num)$1 -/
def h214 : Hint := .s (.r [(0, { n := 4 }), (1, { n := 4 }), (2, { zero := [(.int .i64 0), (.int .i64 0), (.int .i64 0), (.bool false)] })]) (.s (.r [(0, { n := 4, agg := true }), (2, { n := 4, agg := true }), (4, { n := 4 })]) (.o))
theorem k214 : okF Tryz.prog Tryz.f214 h214 [(true, 4)] = true := by kernel_rfl

/- couplet/vec.Pairs(couplet/frac.Frac) -/
/- couplet/vec.Sub(couplet/frac.Frac)$1 -/
/- math/bits.Mul64 -/
def h217 : Hint := .s (.o) (.s (.o) (.s (.o) (.s (.o) (.s (.o) (.s (.o) (.s (.o) (.s (.o) (.s (.o) (.s (.o) (.s (.o) (.s (.o) (.o))))))))))))
theorem k217 : okF Tryz.prog Tryz.f217 h217 [(false, 0), (false, 0)] = true := by kernel_rfl

/- math/bits.LeadingZeros64 -/
/- (couplet/mat.Mat(couplet/env.Num)).Add -/
def h219 : Hint := .s (.r [(0, { n := 3 }), (1, { n := 3 }), (2, { zero := [(.int .i64 0), (.int .i64 0), (.slice none 0 0)], acc := [(2, 3004)] })]) (.s (.r [(0, { n := 3, agg := true }), (1, { n := 3, agg := true }), (5, { n := 3 })]) (.o))
theorem k219 : okF Tryz.prog Tryz.f219 h219 [(true, 3), (false, 0)] = true := by kernel_rfl

/- (couplet/mat.Mat(couplet/env.Num)).each -/
def h220 : Hint := .s (.r [(0, { n := 3 }), (1, { n := 3 }), (2, { zero := [(.int .i64 0), (.int .i64 0), (.slice none 0 0)], acc := [(2, 3006)] })]) (.s (.s (.r [(0, { n := 3, agg := true }), (4, { n := 3, agg := true }), (9, { off := 0 }), (10, { n := 1, agg := false }), (11, { off := 0 }), (12, { n := 1, agg := false }), (16, { off := 1 }), (17, { n := 1, agg := false }), (18, { off := 1 }), (19, { n := 1, agg := false })]) (.s (.s (.r [(0, { zero := [(.int .i64 0), (.int .i64 0), (.slice none 0 0)], places := [(0, 1), (1, 1), (2, 1)] }), (1, { n := 3 })]) (.o)) (.o))) (.s (.r [(0, { off := 0 }), (1, { n := 1, agg := false }), (2, { off := 1 }), (3, { n := 1, agg := false }), (5, { off := 2 }), (6, { n := 1, agg := false }), (7, { off := 2 }), (8, { n := 1, agg := false }), (10, { zero := [(.int .i64 0), (.int .i64 0), (.slice none 0 0)], places := [(0, 1), (1, 1), (2, 1)] }), (11, { n := 3 })]) (.o)))
theorem k220 : okF Tryz.prog Tryz.f220 h220 [(true, 3), (false, 0)] = true := by kernel_rfl

/- couplet/vec.Pairs(couplet/env.Num) -/
def h221 : Hint := .s (.r [(0, { n := 1 }), (1, { n := 1 })]) (.s (.g [.freeze 2, .freeze 3] (.o)) (.o))
theorem k221 : okF Tryz.prog Tryz.f221 h221 [(false, 0)] = true := by kernel_rfl

/- couplet/coupletref01.MulDiv -/
/- couplet/coupletref01.Root -/
/- couplet/coupletref01.Bits -/
/- couplet/coupletref01.Add -/
/- couplet/coupletref01.Up -/
/- couplet/vec.Pairs(couplet/frac.Frac)$1 -/
/- math/bits.Len64 -/
/- couplet/vec.Pairs(couplet/env.Num)$1 -/
def h229 : Hint := .s (.r [(0, { n := 1, agg := false }), (2, { n := 1, agg := false })]) (.b (.l [.junk [3, 4, 5, 6, 7, 8, 11, 12, 13, 14, 15, 16, 17, 18, 19, 20, 21, 22, 23, 24]] (.s (.o) (.s (.s (.o) (.o)) (.s (.b (.s (.o) (.s (.y [(1, { n := 1, agg := false }), (3, { n := 4 }), (4, { n := 4, agg := true }), (5, { n := 1, agg := false }), (7, { n := 4 }), (8, { n := 4, agg := true })]) (.s (.o) (.o))))) (.o))))))
theorem k229 : okF Tryz.prog Tryz.f229 h229 [] = true := by kernel_rfl

/- couplet/coupletref01.Right -/
/- couplet/coupletref01.size -/
/- couplet/coupletref01.Sub -/
/- couplet/coupletref01.Number -/
/- (couplet/env.Num).Div -/
def h249 : Hint := .s (.r [(0, { n := 4 }), (1, { n := 4 }), (2, { zero := [(.int .i64 0), (.int .i64 0), (.int .i64 0), (.bool false)] })]) (.s (.s (.r [(0, { off := 1 }), (1, { n := 1, agg := false }), (4, { off := 2 }), (5, { n := 1, agg := false })]) (.s (.s (.r [(1, { n := 4 })]) (.o)) (.o))) (.s (.r [(0, { n := 4, agg := true }), (1, { n := 4, agg := true }), (2, { n := 4, agg := true }), (3, { n := 4, agg := true }), (6, { n := 4 })]) (.o)))
theorem k249 : okF Tryz.prog Tryz.f249 h249 [(true, 4)] = true := by kernel_rfl

/- (couplet/env.Num).Mul -/
def h250 : Hint := .s (.r [(0, { n := 4 }), (1, { n := 4 }), (2, { zero := [(.int .i64 0), (.int .i64 0), (.int .i64 0), (.bool false)] })]) (.s (.r [(0, { n := 4, agg := true }), (1, { n := 4, agg := true }), (2, { n := 4, agg := true }), (3, { n := 4, agg := true }), (6, { n := 4 })]) (.o))
theorem k250 : okF Tryz.prog Tryz.f250 h250 [(true, 4)] = true := by kernel_rfl

/- (couplet/env.Num).Neg -/
def h251 : Hint := .s (.r [(0, { n := 4 }), (1, { zero := [(.int .i64 0), (.int .i64 0), (.int .i64 0), (.bool false)] })]) (.s (.r [(1, { n := 4, agg := true }), (3, { n := 4 })]) (.o))
theorem k251 : okF Tryz.prog Tryz.f251 h251 [(true, 4)] = true := by kernel_rfl

/- (couplet/env.Num).Root -/
def h252 : Hint := .s (.r [(0, { n := 4 }), (1, { zero := [(.int .i64 0), (.int .i64 0), (.int .i64 0), (.bool false)] })]) (.s (.o) (.s (.r [(0, { n := 4, agg := true }), (1, { n := 4, agg := true }), (3, { off := 1 }), (4, { n := 1, agg := false }), (5, { off := 1 }), (6, { n := 1, agg := false }), (7, { zero := [(.int .i64 0), (.int .i64 0)], places := [(0, 1), (1, 1)] }), (8, { off := 2 }), (9, { n := 1, agg := false }), (10, { off := 2 }), (11, { n := 1, agg := false }), (12, { zero := [(.int .i64 0), (.int .i64 0)], places := [(0, 1), (1, 1)] }), (13, { n := 2 }), (15, { n := 4 })]) (.o)))
theorem k252 : okF Tryz.prog Tryz.f252 h252 [(true, 4)] = true := by kernel_rfl

/- (couplet/env.Num).Sign -/
def h253 : Hint := .s (.r [(0, { n := 4 })]) (.s (.b (.s (.r [(0, { off := 3 }), (1, { n := 1, agg := false }), (3, { off := 0 }), (4, { n := 1, agg := false })]) (.s (.s (.o) (.o)) (.s (.r [(0, { off := 0 }), (1, { n := 1, agg := false })]) (.s (.s (.o) (.o)) (.o)))))) (.s (.o) (.o)))
theorem k253 : okF Tryz.prog Tryz.f253 h253 [(false, 0)] = true := by kernel_rfl

/- (couplet/env.Num).Sub -/
def h254 : Hint := .s (.r [(0, { n := 4 }), (1, { n := 4 }), (2, { zero := [(.int .i64 0), (.int .i64 0), (.int .i64 0), (.bool false)] })]) (.s (.o) (.s (.r [(0, { n := 4, agg := true }), (1, { n := 4, agg := true }), (3, { off := 1 }), (4, { n := 1, agg := false }), (5, { off := 2 }), (6, { n := 1, agg := false }), (7, { zero := [(.int .i64 0), (.int .i64 0)], places := [(0, 1), (1, 1)] }), (8, { off := 2 }), (9, { n := 1, agg := false }), (10, { off := 1 }), (11, { n := 1, agg := false }), (12, { zero := [(.int .i64 0), (.int .i64 0)], places := [(0, 1), (1, 1)] }), (13, { n := 2 }), (15, { n := 4 })]) (.o)))
theorem k254 : okF Tryz.prog Tryz.f254 h254 [(true, 4)] = true := by kernel_rfl

/- couplet/fx.Div -/
def h255 : Hint := .s (.o) (.s (.o) (.s (.r [(4, { n := 1 })]) (.o)))
theorem k255 : okF Tryz.prog Tryz.f255 h255 [(false, 0), (false, 0)] = true := by kernel_rfl

/- couplet/env.all -/
def h256 : Hint := .s (.r [(0, { n := 4 }), (1, { n := 4 }), (2, { acc := [(0, 4)] })]) (.s (.r [(0, { off := 1 }), (1, { n := 1, agg := false }), (2, { off := 1 }), (3, { n := 1, agg := false }), (4, { zero := [(.int .i64 0), (.int .i64 0)], places := [(0, 1), (1, 1)] }), (5, { off := 1 }), (6, { n := 1, agg := false }), (7, { off := 2 }), (8, { n := 1, agg := false }), (9, { zero := [(.int .i64 0), (.int .i64 0)], places := [(0, 1), (1, 1)] }), (10, { off := 2 }), (11, { n := 1, agg := false }), (12, { off := 1 }), (13, { n := 1, agg := false }), (14, { zero := [(.int .i64 0), (.int .i64 0)], places := [(0, 1), (1, 1)] }), (15, { off := 2 }), (16, { n := 1, agg := false }), (17, { off := 2 }), (18, { n := 1, agg := false }), (19, { zero := [(.int .i64 0), (.int .i64 0)], places := [(0, 1), (1, 1)] }), (20, { n := 2 })]) (.o))
theorem k256 : okF Tryz.prog Tryz.f256 h256 [(false, 0)] = true := by kernel_rfl

/- couplet/fx.Mul -/
def h257 : Hint := .s (.o) (.s (.o) (.s (.r [(4, { n := 1 })]) (.o)))
theorem k257 : okF Tryz.prog Tryz.f257 h257 [(false, 0), (false, 0)] = true := by kernel_rfl

/- (couplet/env.Num).Root$1 -/
def h258 : Hint := .s (.o) (.s (.o) (.o))
theorem k258 : okF Tryz.prog Tryz.f258 h258 [(false, 0), (false, 0)] = true := by kernel_rfl

/- couplet/fx.Root -/
def h259 : Hint := .s (.o) (.s (.o) (.s (.r [(3, { n := 1 })]) (.o)))
theorem k259 : okF Tryz.prog Tryz.f259 h259 [(false, 0), (false, 0)] = true := by kernel_rfl

/- (couplet/env.Num).Sub$1 -/
def h260 : Hint := .s (.o) (.s (.o) (.o))
theorem k260 : okF Tryz.prog Tryz.f260 h260 [(false, 0), (false, 0)] = true := by kernel_rfl

/- couplet/fx.Sub -/
def h261 : Hint := .s (.o) (.s (.s (.o) (.s (.s (.o) (.o)) (.o))) (.s (.o) (.o)))
theorem k261 : okF Tryz.prog Tryz.f261 h261 [(false, 0), (false, 0)] = true := by kernel_rfl

/- couplet/wide.Root -/
def h262 : Hint := .s (.o) (.s (.s (.r [(25, { n := 1 })]) (.s (.s (.o) (.o)) (.o))) (.s (.r [(5, { zero := [(.int .u64 0), (.int .u64 0)] }), (6, { n := 2 })]) (.s (.o) (.s (.s (.o) (.b (.l [.junk [0, 1, 3, 4, 5, 6, 7, 10, 11, 12, 13, 14, 15, 16, 17, 18, 19, 20, 21, 22, 23, 24, 25, 26, 27, 28, 29, 30, 31, 32, 33, 34, 35, 36, 37, 38, 39, 40, 41, 42, 43, 44, 45, 46, 48, 49, 50, 51, 52, 53, 54, 55, 56, 57, 58, 59, 60, 61, 62, 63, 64, 65, 66, 67, 68, 69, 70, 71, 72, 73, 74, 75, 76, 77, 78, 79, 80, 81, 82, 83, 84, 85, 86, 87, 88, 89, 90]] (.s (.o) (.s (.s (.o) (.o)) (.s (.b (.s (.o) (.s (.o) (.s (.r [(0, { n := 2, agg := true })]) (.s (.o) (.o)))))) (.o))))))) (.s (.r [(3, { n := 2, agg := true }), (4, { n := 5, ks := [some .u64, some .u64] })]) (.s (.r [(4, { n := 2, agg := true })]) (.s (.s (.o) (.s (.o) (.o))) (.s (.r [(1, { ks := [some .i64] })]) (.o)))))))))
theorem k262 : okF Tryz.prog Tryz.f262 h262 [(false, 0), (false, 0)] = true := by kernel_rfl

/- (couplet/frac.Frac).Add -/
/- (couplet/frac.Frac).Div -/
/- (couplet/frac.Frac).Fine -/
/- (couplet/frac.Frac).Mul -/
/- (couplet/frac.Frac).Neg -/
/- (couplet/frac.Frac).Of -/
/- (couplet/frac.Frac).Root -/
/- (couplet/frac.Frac).Sign -/
/- (couplet/frac.Frac).Sub -/
/- couplet/frac.of -/
/- (couplet/frac.Frac).Div$1 -/
/- (couplet/frac.Frac).Mul$1 -/
/- (couplet/frac.Frac).Neg$1 -/
/- couplet/frac.root -/
end Go.Proofs.YtambpjbpdackfaaGreat.A


set_option linter.unusedVariables false
set_option linter.unusedSimpArgs false
set_option maxRecDepth 100000
namespace Go.Proofs.YtambpjbpdackfaaGreat.A
open Go Go.RowKit Go.Shelf

abbrev num (n : Int) : PV := .s (.int .i64 n)
abbrev tru (b : Bool) : PV := .s (.bool b)
abbrev nt (n : Int) : TV := .v (.s (.int .i64 n))
abbrev jk : TV := .v .junk

theorem wrapped {x : Int} (h1 : -9223372036854775808 ≤ x) (h2 : x ≤ 9223372036854775807) : IntKind.wrap .i64 x = x := by
  simp [IntKind.wrap, IntKind.bits, IntKind.signed]
  omega

/-! ### Fractions -/
structure Fr where
  n : Int
  d : Int
  bad : Bool
  deriving DecidableEq

abbrev frV (x : Fr) : PV := .agg [num x.n, num x.d, tru x.bad]
abbrev Fr.wrong : Fr := ⟨0, 0, true⟩
def newF (n d : Int) : Fr :=
  if n > 1152921504606846976 ∨ n < -1152921504606846976 ∨ d > 1152921504606846976 ∨ d < -1152921504606846976 ∨ d = 0 then .wrong else
    let m : Int := if d < 0 then -n else n
    let e : Int := if d < 0 then -d else d
    let k : Int := Int.gcd m e
    if m.tdiv k > 1073741824 ∨ m.tdiv k < -1073741824 ∨ e.tdiv k > 1073741824 then .wrong else ⟨m.tdiv k, e.tdiv k, false⟩

end Go.Proofs.YtambpjbpdackfaaGreat.A


/- The arithmetic under Go's math/bits.Div64 (the school method, two digits of 32 bits). No program in this text. -/
set_option linter.unusedVariables false
namespace Go.Proofs.YtambpjbpdackfaaGreat.A

/-- A digit's guess is not below the digit. -/
theorem dig_ge {u v1 v0 x : Nat} (hv1 : 0 < v1) (hx : x < 4294967296) : (u * 4294967296 + x) / (v1 * 4294967296 + v0) ≤ u / v1 := by
  rw [Nat.le_div_iff_mul_le hv1]
  have h := Nat.div_mul_le_self (u * 4294967296 + x) (v1 * 4294967296 + v0)
  generalize (u * 4294967296 + x) / (v1 * 4294967296 + v0) = Q at *
  rw [Nat.mul_add, ← Nat.mul_assoc] at h
  generalize Q * v1 = a at *
  generalize Q * v0 = b at *
  omega
/-- A guess is too great just if it is so by two digits. -/
theorem dig_gt {u v1 v0 x q r : Nat} (h : q * v1 + r = u) : q * v0 > 4294967296 * r + x ↔ q * (v1 * 4294967296 + v0) > u * 4294967296 + x := by
  subst h
  rw [Nat.mul_add, ← Nat.mul_assoc, Nat.add_mul]
  generalize q * v1 = a
  generalize q * v0 = b
  omega
theorem dig_le {W v q : Nat} (hv : 0 < v) (h : ¬ q * v > W) : q ≤ W / v := by
  rw [Nat.le_div_iff_mul_le hv]
  omega
/-- What is left is as great as a digit: the guess is not too great. -/
theorem dig_big {u v1 v0 x q r : Nat} (h : q * v1 + r = u) (hu : u < v1 * 4294967296 + v0) (h0 : v0 < 4294967296) (hr : 4294967296 ≤ r) : ¬ q * (v1 * 4294967296 + v0) > u * 4294967296 + x := by
  rw [← dig_gt h]
  have hq : q * v1 < 4294967296 * v1 := by
    rw [Nat.mul_comm 4294967296]
    generalize q * v1 = a at *
    generalize v1 * 4294967296 = b at *
    omega
  have hq' : q < 4294967296 := Nat.lt_of_mul_lt_mul_right hq
  have h2 : q * v0 ≤ 4294967295 * 4294967295 := Nat.mul_le_mul (by omega) (by omega)
  generalize q * v0 = a at *
  omega
/-- The first guess is not much too great. -/
theorem dig_first {u v1 v0 : Nat} (hv : 2147483648 ≤ v1) (h0 : v0 < 4294967296) (hu : u < v1 * 4294967296 + v0) : u / v1 ≤ 4294967297 := by
  have : u / v1 < 4294967298 := by
    rw [Nat.div_lt_iff_lt_mul (by omega)]
    omega
  omega
theorem dig_small {u v x : Nat} (hu : u < v) (hx : x < 4294967296) : (u * 4294967296 + x) / v < 4294967296 := by
  have h1 : u * 4294967296 + x < (u + 1) * 4294967296 := by omega
  have h2 : (u + 1) * 4294967296 ≤ v * 4294967296 := Nat.mul_le_mul_right _ hu
  have h3 := Nat.lt_of_lt_of_le h1 h2
  generalize u * 4294967296 + x = a at *
  generalize hK : 4294967296 = K at *
  refine Nat.div_lt_of_lt_mul ?_
  first | exact h3 | (rw [Nat.mul_comm]; exact h3)
/-- Both digits. -/
theorem two_digits {W v b K : Nat} (hv : 0 < v) : W / v * K + (W % v * K + b) / v = (W * K + b) / v ∧ (W % v * K + b) % v = (W * K + b) % v := by
  have e : W * K + b = ((W % v) * K + b) + v * (W / v * K) := by
    conv => lhs; rw [← Nat.div_add_mod W v]
    rw [Nat.add_mul, Nat.mul_assoc]
    omega
  rw [e]
  constructor
  · rw [Nat.add_mul_div_left _ _ hv, Nat.add_comm]
  · rw [Nat.add_mul_mod_self_left]
theorem shifted {N y s : Nat} (hy : 0 < y) : N * 2 ^ s / (y * 2 ^ s) = N / y ∧ N * 2 ^ s % (y * 2 ^ s) / 2 ^ s = N % y := by
  have hp : 0 < 2 ^ s := Nat.two_pow_pos s
  constructor
  · rw [Nat.mul_div_mul_right _ _ hp]
  · rw [Nat.mul_mod_mul_right, Nat.mul_div_cancel _ hp]
end Go.Proofs.YtambpjbpdackfaaGreat.A


set_option linter.unusedVariables false
namespace Go.Proofs.YtambpjbpdackfaaGreat.A

/-! ### Numbers as rows of bits -/
/-! A sum: bit by bit, with what is carried. -/
/-! A difference. -/
/-! Which one is less. -/
/-! One place higher. -/
end Go.Proofs.YtambpjbpdackfaaGreat.A


set_option linter.unusedVariables false
set_option linter.unusedSimpArgs false
set_option maxRecDepth 100000
namespace Go.Proofs.YtambpjbpdackfaaGreat.A
open Go Go.RowKit Go.Shelf

/-! ### Words -/
abbrev uw (n : Nat) : PV := .s (.int .u64 (n : Int))
abbrev ut (n : Nat) : TV := .v (.s (.int .u64 (n : Int)))
theorem wrapU (x : Int) : IntKind.wrap .u64 x = x % 18446744073709551616 := by simp [IntKind.wrap, IntKind.bits, IntKind.signed]
theorem wrapN {n : Nat} (h : n < 18446744073709551616) : IntKind.wrap .u64 (n : Int) = (n : Int) := by rw [wrapU]; omega
theorem wrapM (n : Nat) : IntKind.wrap .u64 (n : Int) = ((n % 18446744073709551616 : Nat) : Int) := by rw [wrapU]; omega
theorem bitsU : IntKind.bits .u64 = 64 := rfl
theorem ofIntN (n : Nat) (w : Nat) : BitVec.ofInt w (n : Int) = BitVec.ofNat w n := BitVec.ofInt_natCast w n
theorem shrN (a : Nat) {k : Nat} (hk : k ≤ 64) : ((a : Int)).fdiv (2 ^ min k (IntKind.bits .u64)) = ((a / 2 ^ k : Nat) : Int) := by
  rw [bitsU, Nat.min_eq_left hk, Int.fdiv_eq_ediv_of_nonneg _ (Int.le_of_lt (Int.pow_pos (by omega)))]
  have : ((2 : Int) ^ k) = ((2 ^ k : Nat) : Int) := by simp
  rw [this, ← Int.natCast_ediv]
theorem shr32 (a : Nat) : ((a : Int)).fdiv (2 ^ min 32 (IntKind.bits .u64)) = ((a / 4294967296 : Nat) : Int) := shrN a (by omega)
theorem and32 {a : Nat} (ha : a < 18446744073709551616) : IntKind.wrap .u64 ((BitVec.ofInt (IntKind.bits .u64) (a : Int) &&& BitVec.ofInt (IntKind.bits .u64) 4294967295).toNat : Int) = ((a % 4294967296 : Nat) : Int) := by
  have e : (BitVec.ofInt 64 (a : Int) &&& BitVec.ofInt 64 4294967295).toNat = a % 4294967296 := by
    have : (4294967295 : Int) = ((4294967295 : Nat) : Int) := rfl
    rw [this, ofIntN, ofIntN, BitVec.toNat_and, BitVec.toNat_ofNat, BitVec.toNat_ofNat]
    have h1 : a % 2 ^ 64 = a := Nat.mod_eq_of_lt (by omega)
    have h2 : 4294967295 % 2 ^ 64 = 2 ^ 32 - 1 := by decide
    rw [h1, h2, Nat.and_two_pow_sub_one_eq_mod]
  rw [bitsU, e, wrapN (by omega)]
theorem mulN (a b : Nat) : (a : Int) * (b : Int) = ((a * b : Nat) : Int) := (Int.natCast_mul a b).symm
theorem addN (a b : Nat) : (a : Int) + (b : Int) = ((a + b : Nat) : Int) := (Int.natCast_add a b).symm

theorem ok217 (x y : Nat) (hx : x < 18446744073709551616) (hy : y < 18446744073709551616) : Ok Tryz.prog 217 [uw x, uw y] (.tup [uw (x * y / 18446744073709551616), uw (x * y % 18446744073709551616)]) := by
  obtain ⟨bd, bt, bw, hhi⟩ := Lib.mul64_hi x y hx hy
  have ba := Lib.half_mul_le (a := x / 4294967296) (b := y / 4294967296) (by omega) (by omega)
  have bb := Lib.half_mul_le (a := x / 4294967296) (b := y % 4294967296) (by omega) (by omega)
  have bc := Lib.half_mul_le (a := x % 4294967296) (b := y / 4294967296) (by omega) (by omega)
  have ba' : x / 4294967296 * (y / 4294967296) < 18446744073709551616 := by omega
  have bb' : x / 4294967296 * (y % 4294967296) < 18446744073709551616 := by omega
  have bc' : x % 4294967296 * (y / 4294967296) < 18446744073709551616 := by omega
  have bh1 : x / 4294967296 * (y / 4294967296) + (x / 4294967296 * (y % 4294967296) + x % 4294967296 * (y % 4294967296) / 4294967296) / 4294967296 < 18446744073709551616 := by omega
  have bh : x / 4294967296 * (y / 4294967296) + (x / 4294967296 * (y % 4294967296) + x % 4294967296 * (y % 4294967296) / 4294967296) / 4294967296 + ((x / 4294967296 * (y % 4294967296) + x % 4294967296 * (y % 4294967296) / 4294967296) % 4294967296 + x % 4294967296 * (y / 4294967296)) / 4294967296 < 18446744073709551616 := by
    rw [hhi]
    have : x * y / 18446744073709551616 ≤ x := Nat.div_le_of_le_mul (by rw [Nat.mul_comm]; exact Nat.mul_le_mul_right _ (by omega))
    omega
  refine ok_fn mixed Tryz.func217 (code := ?_) (h := h217) ?_ k217 ?_
  rotate_left
  · exact rfl
  unfold h217 initS
  simp -implicitDefEqProofs only [rkA, rkB, stepA, valA, simprocAttr, Tryz.ntmps217, Tryz.results217]
  simp only [and32 hx, and32 hy, shr32, mulN, addN, wrapN bd, wrapN bb', wrapN bt, and32 bt, wrapN bc', wrapN bw, wrapN ba', wrapN bh1, wrapN bh, wrapM (x * y)]
  rw [hhi]

theorem ok164 (n : Int) : Ok Tryz.prog 164 [num n] (tru (decide (-4611686018427387903 ≤ n ∧ n ≤ 4611686018427387903))) := by
  refine ok_fn mixed Tryz.func164 (code := ?_) (h := h164) ?_ k164 ?_
  rotate_left
  · exact rfl
  unfold h164 initS
  simp -implicitDefEqProofs only [rkA, rkB, stepA, valA, simprocAttr, Tryz.ntmps164, Tryz.results164]
  by_cases h1 : n ≥ -4611686018427387903
  · simp -implicitDefEqProofs only [h1, rkA, rkB, stepA, valA, simprocAttr]
  · simp -implicitDefEqProofs only [h1, rkA, rkB, stepA, valA, simprocAttr]
end Go.Proofs.YtambpjbpdackfaaGreat.A


/- math/bits.LeadingZeros64, off the library's shelf. -/
set_option linter.unusedVariables false
set_option maxRecDepth 100000
namespace Go.Proofs.YtambpjbpdackfaaGreat.A
open Go Go.RowKit Go.Shelf
def ren : Ren := { f := fun | 129 => 228 | 134 => 218 | x => x, t := fun | 3 => 3 | 4 => 4 | 5 => 5 | 9 => 9 | 46 => 239 | 53 => 206 | x => x, g := fun x => x }
theorem isAgg_no {P : Program} {t : TypeId} (h : tAgg P t = some false) (w : World) : (isAgg t).run P w = .ok false w := run_isAgg_of h w
theorem sizeOf_one {P : Program} {t : TypeId} {n : Nat} (h : tSize P t = some n) (w : World) : (Go.sizeOf t).run P w = .ok n w := run_sizeOf_of h w
theorem zero_is {P : Program} {t : TypeId} {v : Value} (h : tZero P t = some v) (w : World) : (zeroValue t).run P w = .ok v w := run_zero_of h w
theorem lays134 : Lays.n134 Tryz.prog ren where
  mixed := by kernel_rfl
  f129 := Tryz.func228
  f134 := Tryz.func218
  t3 := by kernel_rfl
  a3 := isAgg_no (by kernel_rfl)
  z3 := sizeOf_one (by kernel_rfl)
  v3 := zero_is (by kernel_rfl)
  t4 := by kernel_rfl
  a4 := isAgg_no (by kernel_rfl)
  z4 := sizeOf_one (by kernel_rfl)
  v4 := zero_is (by kernel_rfl)
  t5 := by kernel_rfl
  a5 := isAgg_no (by kernel_rfl)
  z5 := sizeOf_one (by kernel_rfl)
  v5 := zero_is (by kernel_rfl)
  t9 := by kernel_rfl
  a9 := isAgg_no (by kernel_rfl)
  z9 := sizeOf_one (by kernel_rfl)
  v9 := zero_is (by kernel_rfl)
  t46 := by kernel_rfl
  a46 := isAgg_no (by kernel_rfl)
  z46 := sizeOf_one (by kernel_rfl)
  v46 := zero_is (by kernel_rfl)
  t53 := by kernel_rfl
  a53 := isAgg_no (by kernel_rfl)
  z53 := sizeOf_one (by kernel_rfl)
  v53 := zero_is (by kernel_rfl)
theorem ok218 {x : Nat} (h1 : x ≤ 18446744073709551615) : Ok Tryz.prog 218 [.s (.int .u64 (x : Int))] (.s (.int .i64 (64 - (Lib.bitLen x : Int)))) := by
  refine ⟨enters_of Tryz.func218 (by kernel_rfl) rfl, fun I w vs hg hc => ?_⟩
  cases hc with
  | cons h1' h2 =>
    cases h2
    cases h1'
    refine (Any.bits_LeadingZeros64 lays134 (x : Int) w (by omega) (by omega)).mono ?_
    rintro e w' ⟨rfl, rfl⟩
    exact ⟨_, I, rfl, Below.refl _ _, Imm.le_refl _, hg, fun _ _ => rfl, .s _⟩
end Go.Proofs.YtambpjbpdackfaaGreat.A


set_option linter.unusedVariables false
set_option linter.unusedSimpArgs false
set_option maxRecDepth 100000
namespace Go.Proofs.YtambpjbpdackfaaGreat.A
open Go Go.RowKit Go.Shelf

theorem bitLenAux_spec : ∀ (f x : Nat), x < 2 ^ f → 0 < x → 1 ≤ Lib.bitLenAux f x ∧ Lib.bitLenAux f x ≤ f ∧ 2 ^ (Lib.bitLenAux f x - 1) ≤ x ∧ x < 2 ^ Lib.bitLenAux f x
  | 0, x, h, h0 => by simp at h; omega
  | f + 1, x, h, h0 => by
    unfold Lib.bitLenAux
    rw [if_neg (by omega)]
    by_cases h1 : x / 2 = 0
    · have : Lib.bitLenAux f (x / 2) = 0 := by rw [h1]; cases f <;> simp [Lib.bitLenAux]
      rw [this]
      simp
      omega
    · obtain ⟨k1, k2, k3, k4⟩ := bitLenAux_spec f (x / 2) (by rw [Nat.pow_succ] at h; omega) (by omega)
      generalize Lib.bitLenAux f (x / 2) = n at *
      refine ⟨by omega, by omega, ?_, ?_⟩
      · have e : 1 + n - 1 = (n - 1) + 1 := by omega
        rw [e, Nat.pow_succ]
        omega
      · rw [Nat.add_comm, Nat.pow_succ]
        omega
/-- How far a word is shifted till its highest bit is the highest one. -/
theorem norm_spec {y : Nat} (h0 : 0 < y) (h1 : y < 18446744073709551616) : ∃ s : Nat, s ≤ 63 ∧ (64 - (Lib.bitLen y : Int)) = (s : Int) ∧ 9223372036854775808 ≤ y * 2 ^ s ∧ y * 2 ^ s < 18446744073709551616 := by
  obtain ⟨k1, k2, k3, k4⟩ := bitLenAux_spec 64 y (by simpa using h1) h0
  have e : Lib.bitLen y = Lib.bitLenAux 64 y := rfl
  rw [e]
  generalize Lib.bitLenAux 64 y = n at *
  refine ⟨64 - n, by omega, by omega, ?_, ?_⟩
  · have h2 : 2 ^ (n - 1) * 2 ^ (64 - n) ≤ y * 2 ^ (64 - n) := Nat.mul_le_mul_right _ k3
    rw [← Nat.pow_add, show n - 1 + (64 - n) = 63 by omega] at h2
    simpa using h2
  · have h2 : y * 2 ^ (64 - n) < 2 ^ n * 2 ^ (64 - n) := Nat.mul_lt_mul_of_pos_right k4 (Nat.two_pow_pos _)
    rw [← Nat.pow_add, show n + (64 - n) = 64 by omega] at h2
    simpa using h2
theorem shlN (a : Nat) {k : Nat} (hk : k ≤ 64) : IntKind.wrap .u64 ((a : Int) * 2 ^ min k (IntKind.bits .u64)) = ((a * 2 ^ k % 18446744073709551616 : Nat) : Int) := by
  rw [bitsU, Nat.min_eq_left hk]
  have : ((2 : Int) ^ k) = ((2 ^ k : Nat) : Int) := by simp
  rw [this, mulN, wrapM]
theorem orN {a b k : Nat} (hb : b < 2 ^ k) (h : a * 2 ^ k + b < 18446744073709551616) : IntKind.wrap .u64 ((BitVec.ofInt (IntKind.bits .u64) ((a * 2 ^ k : Nat) : Int) ||| BitVec.ofInt (IntKind.bits .u64) (b : Int)).toNat : Int) = ((a * 2 ^ k + b : Nat) : Int) := by
  have e : (BitVec.ofInt 64 ((a * 2 ^ k : Nat) : Int) ||| BitVec.ofInt 64 (b : Int)).toNat = a * 2 ^ k + b := by
    rw [ofIntN, ofIntN, BitVec.toNat_or, BitVec.toNat_ofNat, BitVec.toNat_ofNat, Nat.mod_eq_of_lt (by omega), Nat.mod_eq_of_lt (by omega), Nat.mul_comm, Nat.two_pow_add_eq_or_of_lt hb]
  rw [bitsU, e, wrapN (by omega)]
theorem subN {a b : Nat} (h : b ≤ a) : (a : Int) - (b : Int) = ((a - b : Nat) : Int) := by omega
theorem tdivN (a b : Nat) : ((a : Int)).tdiv (b : Int) = ((a / b : Nat) : Int) := by rw [Int.tdiv_eq_ediv_of_nonneg (by omega), ← Int.natCast_ediv]
theorem tmodN (a b : Nat) : ((a : Int)).tmod (b : Int) = ((a % b : Nat) : Int) := by rw [Int.tmod_eq_emod_of_nonneg (by omega), ← Int.natCast_emod]
set_option maxHeartbeats 4000000 in
/-- Div64: quotient, and rest, of two words by one. -/
theorem ok181 (hi lo y : Nat) (hh : hi < y) (hy : y < 18446744073709551616) (hl : lo < 18446744073709551616) :
    Ok Tryz.prog 181 [uw hi, uw lo, uw y] (.tup [uw ((hi * 18446744073709551616 + lo) / y), uw ((hi * 18446744073709551616 + lo) % y)]) := by
  obtain ⟨s, hs, es, v1, v2⟩ := norm_spec (y := y) (by omega) hy
  have h132 := ok218 (x := y) (by omega)
  rw [es] at h132
  refine ok_fn mixed Tryz.func181 (code := ?_) (h := h181) ?_ k181 ?_
  rotate_left
  · exact rfl
  unfold h181 initS
  simp -implicitDefEqProofs only [rkA, rkB, stepA, valA, simprocAttr, Tryz.ntmps181, Tryz.results181]
  have c1 : ((y : Int) == 0) = false := by simp; omega
  have c2 : ¬ ((y : Int) ≤ (hi : Int)) := by omega
  simp -implicitDefEqProofs only [c1, c2, rkA, rkB, stepA, valA, simprocAttr]
  by_cases h0 : hi = 0
  · subst h0
    have c3 : ((y : Int) ≠ 0) := by omega
    have w1 := Nat.div_le_self lo y
    simp -implicitDefEqProofs only [Int.natCast_zero, c3, beq_self_eq_true, tdivN, tmodN, wrapN (show lo / y < 18446744073709551616 by omega), Nat.zero_mul, Nat.zero_add, rkA, rkB, stepA, valA, simprocAttr]
  · have c3 : ((hi : Int) == 0) = false := by simp; omega
    simp -implicitDefEqProofs only [c3, rkA, rkB, stepA, valA, simprocAttr]
    refine call_fn rfl rfl rfl (h132) ?_
    have s0 : (0 : Int) ≤ (s : Int) := by omega
    have e64 : IntKind.wrap .u64 (64 - (s : Int)) = ((64 - s : Nat) : Int) := by rw [wrapU]; omega
    have e640 : (0 : Int) ≤ ((64 - s : Nat) : Int) := by omega
    simp -implicitDefEqProofs only [wrapN (show s < 18446744073709551616 by omega), s0, e64, e640, Int.toNat_natCast, shlN _ (show s ≤ 64 by omega), shrN _ (show 64 - s ≤ 64 by omega), shr32, rkA, rkB, stepA, valA, simprocAttr]
    have hpow : 2 ^ s * 2 ^ (64 - s) = 18446744073709551616 := by rw [← Nat.pow_add, show s + (64 - s) = 64 by omega]
    have hp := Nat.two_pow_pos s
    have hb : lo / 2 ^ (64 - s) < 2 ^ s := by
      refine Nat.div_lt_of_lt_mul ?_
      rw [Nat.mul_comm, hpow]
      exact hl
    have hhs : (hi + 1) * 2 ^ s ≤ y * 2 ^ s := Nat.mul_le_mul_right _ hh
    rw [Nat.add_mul, Nat.one_mul] at hhs
    have hu : hi * 2 ^ s + lo / 2 ^ (64 - s) < y * 2 ^ s := by omega
    have m1 : y * 2 ^ s % 18446744073709551616 = y * 2 ^ s := Nat.mod_eq_of_lt v2
    have m2 : hi * 2 ^ s % 18446744073709551616 = hi * 2 ^ s := Nat.mod_eq_of_lt (by omega)
    have hlo : lo * 2 ^ s = lo / 2 ^ (64 - s) * 18446744073709551616 + lo * 2 ^ s % 18446744073709551616 := by
      have e1 : lo * 2 ^ s / 18446744073709551616 = lo / 2 ^ (64 - s) := by
        rw [← hpow, Nat.mul_comm (2 ^ s) (2 ^ (64 - s)), Nat.mul_div_mul_right _ _ hp]
      have := Nat.div_add_mod (lo * 2 ^ s) 18446744073709551616
      rw [e1] at this
      omega
    have a3 : lo * 2 ^ s % 18446744073709551616 < 18446744073709551616 := Nat.mod_lt _ (by omega)
    have fin := shifted (N := hi * 18446744073709551616 + lo) (y := y) (s := s) (by omega)
    have eN : (hi * 18446744073709551616 + lo) * 2 ^ s = (hi * 2 ^ s + lo / 2 ^ (64 - s)) * 18446744073709551616 + lo * 2 ^ s % 18446744073709551616 := by
      rw [Nat.add_mul, Nat.add_mul, hlo, Nat.mul_right_comm]
      omega
    rw [eN] at fin
    simp only [m1, m2, orN hb (show hi * 2 ^ s + lo / 2 ^ (64 - s) < 18446744073709551616 by omega), and32 v2, and32 a3]
    generalize hi * 2 ^ s + lo / 2 ^ (64 - s) = u at *
    generalize lo * 2 ^ s % 18446744073709551616 = z at *
    generalize y * 2 ^ s = v at *
    have ez := Nat.div_add_mod z 4294967296
    have evv := Nat.div_add_mod v 4294967296
    have z0 : z % 4294967296 < 4294967296 := Nat.mod_lt _ (by omega)
    have w0 : v % 4294967296 < 4294967296 := Nat.mod_lt _ (by omega)
    have z1 : z / 4294967296 < 4294967296 := by omega
    have w1 : 2147483648 ≤ v / 4294967296 ∧ v / 4294967296 < 4294967296 := by omega
    generalize z / 4294967296 = x1 at *
    generalize z % 4294967296 = x0 at *
    generalize v / 4294967296 = d1 at *
    generalize v % 4294967296 = d0 at *
    have d1n : ¬ ((d1 : Int) = 0) := by omega
    have hdv : v = d1 * 4294967296 + d0 := by omega
    have q1 := Nat.div_le_self u d1
    have q2 := Nat.div_add_mod u d1
    have q3 := Nat.mod_lt u (show 0 < d1 by omega)
    have q4 : u / d1 * d1 ≤ u := Nat.div_mul_le_self u d1
    have q5 : u - u / d1 * d1 = u % d1 := by rw [Nat.mul_comm]; omega
    simp -implicitDefEqProofs only [d1n, tdivN, mulN, wrapN (show u / d1 < 18446744073709551616 by omega), wrapN (show u / d1 * d1 < 18446744073709551616 by omega), subN q4, q5, wrapN (show u % d1 < 18446744073709551616 by omega), rkA, rkB, stepA, valA, simprocAttr]
    have d0v : 0 < v := by omega
    obtain ⟨W, hW⟩ : ∃ W, W = u * 4294967296 + x1 := ⟨_, rfl⟩
    have f1 : W / v < 4294967296 := by rw [hW]; exact dig_small hu z1
    have f2 : W / v ≤ u / d1 := by rw [hW, hdv]; exact dig_ge (by omega) z1
    have f3 : u / d1 ≤ 4294967297 := dig_first w1.1 w0 (by omega)
    have f4 : ∀ q r : Nat, q * d1 + r = u → (q * d0 > 4294967296 * r + x1 ↔ q * v > W) := fun q r h => by rw [hW, hdv]; exact dig_gt h
    have f5 : ∀ q r : Nat, q * d1 + r = u → 4294967296 ≤ r → q ≤ W / v := fun q r h hr => dig_le d0v (by rw [hW, hdv]; exact dig_big h (by omega) w0 hr)
    have f6 := two_digits (W := W) (v := v) (b := x0) (K := 4294967296) d0v
    have f7 : W * 4294967296 + x0 = u * 18446744073709551616 + z := by omega
    rw [f7, fin.1] at f6
    have f8 := Nat.mod_lt W d0v
    have f9 := Nat.div_add_mod W v
    have f10 : ∀ q, W / v < q ↔ q * v > W := fun q => by rw [Nat.div_lt_iff_lt_mul d0v]
    obtain ⟨Q, hQd⟩ : ∃ Q, Q = W / v := ⟨_, rfl⟩
    obtain ⟨R, hRd⟩ : ∃ R, R = W % v := ⟨_, rfl⟩
    rw [← hQd] at f1 f2 f6 f9
    simp only [← hQd] at f5 f10
    rw [← hRd] at f6 f8 f9
    obtain ⟨W2, hW2⟩ : ∃ W2, W2 = R * 4294967296 + x0 := ⟨_, rfl⟩
    have g1 : W2 / v < 4294967296 := by rw [hW2]; exact dig_small f8 z0
    have g2 : W2 / v ≤ R / d1 := by rw [hW2, hdv]; exact dig_ge (by omega) z0
    have g3 : R / d1 ≤ 4294967297 := dig_first w1.1 w0 (by omega)
    have g4 : ∀ q r : Nat, q * d1 + r = R → (q * d0 > 4294967296 * r + x0 ↔ q * v > W2) := fun q r h => by rw [hW2, hdv]; exact dig_gt h
    have g5 : ∀ q r : Nat, q * d1 + r = R → 4294967296 ≤ r → q ≤ W2 / v := fun q r h hr => dig_le d0v (by rw [hW2, hdv]; exact dig_big h (by omega) w0 hr)
    have g8 := Nat.mod_lt W2 d0v
    have g9 := Nat.div_add_mod W2 v
    have g10 : ∀ q, W2 / v < q ↔ q * v > W2 := fun q => by rw [Nat.div_lt_iff_lt_mul d0v]
    rw [← hW2] at f6
    obtain ⟨Q2, hQd2⟩ : ∃ Q2, Q2 = W2 / v := ⟨_, rfl⟩
    obtain ⟨R2, hRd2⟩ : ∃ R2, R2 = W2 % v := ⟨_, rfl⟩
    rw [← hQd2] at g1 g2 f6 g9
    simp only [← hQd2] at g5 g10
    rw [← hRd2] at g8 g9 f6
    have hmul : ∀ q : Nat, q ≤ 4294967297 → q * d0 < 18446744073709551616 := fun q h => by
      have : q * d0 ≤ 4294967297 * 4294967295 := Nat.mul_le_mul h (by omega)
      omega
    have hrest : IntKind.wrap .u64 (IntKind.wrap .u64 (IntKind.wrap .u64 ((u : Int) * 4294967296) + (x1 : Int)) - IntKind.wrap .u64 ((Q : Int) * (v : Int))) = (R : Int) := by
      rw [Nat.mul_comm] at f9
      rw [mulN]
      generalize Q * v = B at *
      simp only [wrapU]
      omega
    have hrest2 : IntKind.wrap .u64 (IntKind.wrap .u64 (IntKind.wrap .u64 ((R : Int) * 4294967296) + (x0 : Int)) - IntKind.wrap .u64 ((Q2 : Int) * (v : Int))) = (R2 : Int) := by
      rw [Nat.mul_comm] at g9
      rw [mulN]
      generalize Q2 * v = B at *
      simp only [wrapU]
      omega
    have hdn : ∀ q m : Nat, q < m → m * d1 = (m - 1) * d1 + d1 := fun q m h => by
      obtain ⟨k, rfl⟩ : ∃ k, m = k + 1 := ⟨m - 1, by omega⟩
      rw [Nat.add_mul, Nat.one_mul]; rfl
    refine wp_loop (fun m s' => ∃ q r : Nat, m = q ∧ q * d1 + r = u ∧ Q ≤ q ∧ q ≤ 4294967297 ∧ r < 4294967296 ∧ s' = ⟨[jk, jk, ut v, jk, jk, jk, jk, jk, ut s, ut d1, ut d0, ut u, jk, ut x1, ut x0, ut q, ut r, jk, jk, jk, jk, jk, jk, jk, jk, jk, jk, jk, jk, jk, jk, jk, jk, jk, jk, jk, jk, jk, jk, jk, jk, jk, jk, jk, jk, jk, jk, jk, jk, jk, jk, jk, jk, jk, jk, jk, jk, jk, jk, jk, jk, jk, jk, jk, jk, jk, jk, jk, jk, jk, jk, jk, jk, jk, jk, jk, jk, jk, jk, jk, jk, jk, jk, jk, jk, jk, jk, jk, jk, jk, jk, jk, jk, jk, jk, jk, jk, jk, jk, jk, jk, jk, jk, jk, jk, jk, jk, jk, jk, jk, jk, jk, jk, jk, jk, jk, jk, jk, jk, jk, jk, jk, jk, jk, jk, jk, jk, jk, jk, jk, jk, jk, jk, jk, jk], [], [], [], [], 0, nomem⟩) (u / d1) ?_ ?_
    · simp -implicitDefEqProofs only [rkA, rkB, stepA, valA, simprocAttr]
      exact ⟨u / d1, u % d1, rfl, by rw [Nat.mul_comm]; exact q2, f2, f3, by omega, rfl⟩
    rintro m s' ⟨q, r, rfl, k1, k2, k3, k4, rfl⟩
    have b1 := hmul m k3
    have e4 : IntKind.wrap .u64 (IntKind.wrap .u64 (4294967296 * (r : Int)) + (x1 : Int)) = ((4294967296 * r + x1 : Nat) : Int) := by rw [wrapU, wrapU]; omega
    have e5 : IntKind.wrap .u64 ((r : Int) + (d1 : Int)) = ((r + d1 : Nat) : Int) := by rw [wrapU]; omega
    simp -implicitDefEqProofs only [rkA, rkB, stepA, valA, simprocAttr]
    refine gB_dec ?_ ?_ <;> intro hc <;> simp -implicitDefEqProofs only [hc, rkA, rkB, stepA, valA, simprocAttr]
    · have hlt : Q < m := by omega
      have hm := hdn Q m hlt
      have e6 : IntKind.wrap .u64 ((m : Int) - 1) = ((m - 1 : Nat) : Int) := by rw [wrapU]; omega
      simp -implicitDefEqProofs only [e6, e5, rkA, rkB, stepA, valA, simprocAttr]
      refine gB_dec ?_ ?_ <;> intro hc2 <;> simp -implicitDefEqProofs only [hc2, rkA, rkB, stepA, valA, simprocAttr]
      · have hq : m - 1 = Q := by have := f5 (m - 1) (r + d1) (by omega) (by omega); omega
        rw [hq]
        simp -implicitDefEqProofs only [hrest, rkA, rkB, stepA, valA, simprocAttr]
        have p1 := Nat.div_le_self R d1
        have p2 := Nat.div_add_mod R d1
        have p3 := Nat.mod_lt R (show 0 < d1 by omega)
        have p4 : R / d1 * d1 ≤ R := Nat.div_mul_le_self R d1
        have p5 : R - R / d1 * d1 = R % d1 := by rw [Nat.mul_comm]; omega
        simp -implicitDefEqProofs only [d1n, tdivN, mulN, wrapN (show R / d1 < 18446744073709551616 by omega), wrapN (show R / d1 * d1 < 18446744073709551616 by omega), subN p4, p5, wrapN (show R % d1 < 18446744073709551616 by omega), rkA, rkB, stepA, valA, simprocAttr]
        refine wp_loop (fun m s' => ∃ q r : Nat, m = q ∧ q * d1 + r = R ∧ Q2 ≤ q ∧ q ≤ 4294967297 ∧ r < 4294967296 ∧ s' = ⟨[jk, jk, ut v, jk, jk, jk, jk, jk, ut s, ut d1, ut d0, jk, jk, jk, ut x0, ut Q, ut r, ut R, ut q, jk, jk, jk, jk, jk, jk, jk, jk, jk, jk, jk, jk, jk, jk, jk, jk, jk, jk, jk, jk, jk, jk, jk, jk, jk, jk, jk, jk, jk, jk, jk, jk, jk, jk, jk, jk, jk, jk, jk, jk, jk, jk, jk, jk, jk, jk, jk, jk, jk, jk, jk, jk, jk, jk, jk, jk, jk, jk, jk, jk, jk, jk, jk, jk, jk, jk, jk, jk, jk, jk, jk, jk, jk, jk, jk, jk, jk, jk, jk, jk, jk, jk, jk, jk, jk, jk, jk, jk, jk, jk, jk, jk, jk, jk, jk, jk, jk, jk, jk, jk, jk, jk, jk, jk, jk, jk, jk, jk, jk, jk, jk, jk, jk, jk, jk, jk], [], [], [], [], 0, nomem⟩) (R / d1) ?_ ?_
        · simp -implicitDefEqProofs only [rkA, rkB, stepA, valA, simprocAttr]
          exact ⟨R / d1, R % d1, rfl, by rw [Nat.mul_comm]; exact p2, g2, g3, by omega, rfl⟩
        rintro m' s' ⟨q, r', rfl, l1, l2, l3, l4, rfl⟩
        have b1' := hmul m' l3
        have e4' : IntKind.wrap .u64 (IntKind.wrap .u64 (4294967296 * (r' : Int)) + (x0 : Int)) = ((4294967296 * r' + x0 : Nat) : Int) := by rw [wrapU, wrapU]; omega
        have e5' : IntKind.wrap .u64 ((r' : Int) + (d1 : Int)) = ((r' + d1 : Nat) : Int) := by rw [wrapU]; omega
        have efin : IntKind.wrap .u64 (IntKind.wrap .u64 ((Q : Int) * 4294967296) + (Q2 : Int)) = (((hi * 18446744073709551616 + lo) / y : Nat) : Int) := by rw [← f6.1, wrapU, wrapU]; omega
        have efin2 : ((R2 : Int)).fdiv (2 ^ min s (IntKind.bits .u64)) = (((hi * 18446744073709551616 + lo) % y : Nat) : Int) := by rw [shrN _ (show s ≤ 64 by omega), f6.2, fin.2]
        simp -implicitDefEqProofs only [rkA, rkB, stepA, valA, simprocAttr]
        refine gB_dec ?_ ?_ <;> intro hc5 <;> simp -implicitDefEqProofs only [hc5, rkA, rkB, stepA, valA, simprocAttr]
        · have hlt : Q2 < m' := by omega
          have hm := hdn Q2 m' hlt
          have e6 : IntKind.wrap .u64 ((m' : Int) - 1) = ((m' - 1 : Nat) : Int) := by rw [wrapU]; omega
          simp -implicitDefEqProofs only [e6, e5', rkA, rkB, stepA, valA, simprocAttr]
          refine gB_dec ?_ ?_ <;> intro hc6 <;> simp -implicitDefEqProofs only [hc6, rkA, rkB, stepA, valA, simprocAttr]
          · have hq : m' - 1 = Q2 := by have := g5 (m' - 1) (r' + d1) (by omega) (by omega); omega
            rw [hq]
            simp -implicitDefEqProofs only [hrest2, s0, Int.toNat_natCast, efin, efin2, rkA, rkB, stepA, valA, simprocAttr]
          · refine loopK_of (m' := m' - 1) (by omega) ?_
            simp -implicitDefEqProofs only [rkA, rkB, stepA, valA, simprocAttr]
            exact ⟨m' - 1, r' + d1, rfl, by omega, by omega, by omega, by omega, rfl⟩
        · simp -implicitDefEqProofs only [mulN, wrapN b1', e4', rkA, rkB, stepA, valA, simprocAttr]
          refine gB_dec ?_ ?_ <;> intro hc6 <;> simp -implicitDefEqProofs only [hc6, rkA, rkB, stepA, valA, simprocAttr]
          · have hlt : Q2 < m' := (g10 m').2 ((g4 _ _ l1).1 (by omega))
            have hm := hdn Q2 m' hlt
            have e6 : IntKind.wrap .u64 ((m' : Int) - 1) = ((m' - 1 : Nat) : Int) := by rw [wrapU]; omega
            simp -implicitDefEqProofs only [e6, e5', rkA, rkB, stepA, valA, simprocAttr]
            refine gB_dec ?_ ?_ <;> intro hc7 <;> simp -implicitDefEqProofs only [hc7, rkA, rkB, stepA, valA, simprocAttr]
            · have hq : m' - 1 = Q2 := by have := g5 (m' - 1) (r' + d1) (by omega) (by omega); omega
              rw [hq]
              simp -implicitDefEqProofs only [hrest2, s0, Int.toNat_natCast, efin, efin2, rkA, rkB, stepA, valA, simprocAttr]
            · refine loopK_of (m' := m' - 1) (by omega) ?_
              simp -implicitDefEqProofs only [rkA, rkB, stepA, valA, simprocAttr]
              exact ⟨m' - 1, r' + d1, rfl, by omega, by omega, by omega, by omega, rfl⟩
          · have hq : m' = Q2 := by
              have h1 : ¬ Q2 < m' := fun h => by have := (g4 _ _ l1).2 ((g10 m').1 h); omega
              omega
            rw [hq]
            simp -implicitDefEqProofs only [hrest2, s0, Int.toNat_natCast, efin, efin2, rkA, rkB, stepA, valA, simprocAttr]
      · refine loopK_of (m' := m - 1) (by omega) ?_
        simp -implicitDefEqProofs only [rkA, rkB, stepA, valA, simprocAttr]
        exact ⟨m - 1, r + d1, rfl, by omega, by omega, by omega, by omega, rfl⟩
    · simp -implicitDefEqProofs only [mulN, wrapN b1, e4, rkA, rkB, stepA, valA, simprocAttr]
      refine gB_dec ?_ ?_ <;> intro hc2 <;> simp -implicitDefEqProofs only [hc2, rkA, rkB, stepA, valA, simprocAttr]
      · have hlt : Q < m := (f10 m).2 ((f4 _ _ k1).1 (by omega))
        have hm := hdn Q m hlt
        have e6 : IntKind.wrap .u64 ((m : Int) - 1) = ((m - 1 : Nat) : Int) := by rw [wrapU]; omega
        simp -implicitDefEqProofs only [e6, e5, rkA, rkB, stepA, valA, simprocAttr]
        refine gB_dec ?_ ?_ <;> intro hc3 <;> simp -implicitDefEqProofs only [hc3, rkA, rkB, stepA, valA, simprocAttr]
        · have hq : m - 1 = Q := by have := f5 (m - 1) (r + d1) (by omega) (by omega); omega
          rw [hq]
          simp -implicitDefEqProofs only [hrest, rkA, rkB, stepA, valA, simprocAttr]
          have p1 := Nat.div_le_self R d1
          have p2 := Nat.div_add_mod R d1
          have p3 := Nat.mod_lt R (show 0 < d1 by omega)
          have p4 : R / d1 * d1 ≤ R := Nat.div_mul_le_self R d1
          have p5 : R - R / d1 * d1 = R % d1 := by rw [Nat.mul_comm]; omega
          simp -implicitDefEqProofs only [d1n, tdivN, mulN, wrapN (show R / d1 < 18446744073709551616 by omega), wrapN (show R / d1 * d1 < 18446744073709551616 by omega), subN p4, p5, wrapN (show R % d1 < 18446744073709551616 by omega), rkA, rkB, stepA, valA, simprocAttr]
          refine wp_loop (fun m s' => ∃ q r : Nat, m = q ∧ q * d1 + r = R ∧ Q2 ≤ q ∧ q ≤ 4294967297 ∧ r < 4294967296 ∧ s' = ⟨[jk, jk, ut v, jk, jk, jk, jk, jk, ut s, ut d1, ut d0, jk, jk, jk, ut x0, ut Q, ut r, ut R, ut q, jk, jk, jk, jk, jk, jk, jk, jk, jk, jk, jk, jk, jk, jk, jk, jk, jk, jk, jk, jk, jk, jk, jk, jk, jk, jk, jk, jk, jk, jk, jk, jk, jk, jk, jk, jk, jk, jk, jk, jk, jk, jk, jk, jk, jk, jk, jk, jk, jk, jk, jk, jk, jk, jk, jk, jk, jk, jk, jk, jk, jk, jk, jk, jk, jk, jk, jk, jk, jk, jk, jk, jk, jk, jk, jk, jk, jk, jk, jk, jk, jk, jk, jk, jk, jk, jk, jk, jk, jk, jk, jk, jk, jk, jk, jk, jk, jk, jk, jk, jk, jk, jk, jk, jk, jk, jk, jk, jk, jk, jk, jk, jk, jk, jk, jk, jk], [], [], [], [], 0, nomem⟩) (R / d1) ?_ ?_
          · simp -implicitDefEqProofs only [rkA, rkB, stepA, valA, simprocAttr]
            exact ⟨R / d1, R % d1, rfl, by rw [Nat.mul_comm]; exact p2, g2, g3, by omega, rfl⟩
          rintro m' s' ⟨q, r', rfl, l1, l2, l3, l4, rfl⟩
          have b1' := hmul m' l3
          have e4' : IntKind.wrap .u64 (IntKind.wrap .u64 (4294967296 * (r' : Int)) + (x0 : Int)) = ((4294967296 * r' + x0 : Nat) : Int) := by rw [wrapU, wrapU]; omega
          have e5' : IntKind.wrap .u64 ((r' : Int) + (d1 : Int)) = ((r' + d1 : Nat) : Int) := by rw [wrapU]; omega
          have efin : IntKind.wrap .u64 (IntKind.wrap .u64 ((Q : Int) * 4294967296) + (Q2 : Int)) = (((hi * 18446744073709551616 + lo) / y : Nat) : Int) := by rw [← f6.1, wrapU, wrapU]; omega
          have efin2 : ((R2 : Int)).fdiv (2 ^ min s (IntKind.bits .u64)) = (((hi * 18446744073709551616 + lo) % y : Nat) : Int) := by rw [shrN _ (show s ≤ 64 by omega), f6.2, fin.2]
          simp -implicitDefEqProofs only [rkA, rkB, stepA, valA, simprocAttr]
          refine gB_dec ?_ ?_ <;> intro hc5 <;> simp -implicitDefEqProofs only [hc5, rkA, rkB, stepA, valA, simprocAttr]
          · have hlt : Q2 < m' := by omega
            have hm := hdn Q2 m' hlt
            have e6 : IntKind.wrap .u64 ((m' : Int) - 1) = ((m' - 1 : Nat) : Int) := by rw [wrapU]; omega
            simp -implicitDefEqProofs only [e6, e5', rkA, rkB, stepA, valA, simprocAttr]
            refine gB_dec ?_ ?_ <;> intro hc6 <;> simp -implicitDefEqProofs only [hc6, rkA, rkB, stepA, valA, simprocAttr]
            · have hq : m' - 1 = Q2 := by have := g5 (m' - 1) (r' + d1) (by omega) (by omega); omega
              rw [hq]
              simp -implicitDefEqProofs only [hrest2, s0, Int.toNat_natCast, efin, efin2, rkA, rkB, stepA, valA, simprocAttr]
            · refine loopK_of (m' := m' - 1) (by omega) ?_
              simp -implicitDefEqProofs only [rkA, rkB, stepA, valA, simprocAttr]
              exact ⟨m' - 1, r' + d1, rfl, by omega, by omega, by omega, by omega, rfl⟩
          · simp -implicitDefEqProofs only [mulN, wrapN b1', e4', rkA, rkB, stepA, valA, simprocAttr]
            refine gB_dec ?_ ?_ <;> intro hc6 <;> simp -implicitDefEqProofs only [hc6, rkA, rkB, stepA, valA, simprocAttr]
            · have hlt : Q2 < m' := (g10 m').2 ((g4 _ _ l1).1 (by omega))
              have hm := hdn Q2 m' hlt
              have e6 : IntKind.wrap .u64 ((m' : Int) - 1) = ((m' - 1 : Nat) : Int) := by rw [wrapU]; omega
              simp -implicitDefEqProofs only [e6, e5', rkA, rkB, stepA, valA, simprocAttr]
              refine gB_dec ?_ ?_ <;> intro hc7 <;> simp -implicitDefEqProofs only [hc7, rkA, rkB, stepA, valA, simprocAttr]
              · have hq : m' - 1 = Q2 := by have := g5 (m' - 1) (r' + d1) (by omega) (by omega); omega
                rw [hq]
                simp -implicitDefEqProofs only [hrest2, s0, Int.toNat_natCast, efin, efin2, rkA, rkB, stepA, valA, simprocAttr]
              · refine loopK_of (m' := m' - 1) (by omega) ?_
                simp -implicitDefEqProofs only [rkA, rkB, stepA, valA, simprocAttr]
                exact ⟨m' - 1, r' + d1, rfl, by omega, by omega, by omega, by omega, rfl⟩
            · have hq : m' = Q2 := by
                have h1 : ¬ Q2 < m' := fun h => by have := (g4 _ _ l1).2 ((g10 m').1 h); omega
                omega
              rw [hq]
              simp -implicitDefEqProofs only [hrest2, s0, Int.toNat_natCast, efin, efin2, rkA, rkB, stepA, valA, simprocAttr]
        · refine loopK_of (m' := m - 1) (by omega) ?_
          simp -implicitDefEqProofs only [rkA, rkB, stepA, valA, simprocAttr]
          exact ⟨m - 1, r + d1, rfl, by omega, by omega, by omega, by omega, rfl⟩
      · have hq : m = Q := by
          have h1 : ¬ Q < m := fun h => by have := (f4 _ _ k1).2 ((f10 m).1 h); omega
          omega
        rw [hq]
        simp -implicitDefEqProofs only [hrest, rkA, rkB, stepA, valA, simprocAttr]
        have p1 := Nat.div_le_self R d1
        have p2 := Nat.div_add_mod R d1
        have p3 := Nat.mod_lt R (show 0 < d1 by omega)
        have p4 : R / d1 * d1 ≤ R := Nat.div_mul_le_self R d1
        have p5 : R - R / d1 * d1 = R % d1 := by rw [Nat.mul_comm]; omega
        simp -implicitDefEqProofs only [d1n, tdivN, mulN, wrapN (show R / d1 < 18446744073709551616 by omega), wrapN (show R / d1 * d1 < 18446744073709551616 by omega), subN p4, p5, wrapN (show R % d1 < 18446744073709551616 by omega), rkA, rkB, stepA, valA, simprocAttr]
        refine wp_loop (fun m s' => ∃ q r : Nat, m = q ∧ q * d1 + r = R ∧ Q2 ≤ q ∧ q ≤ 4294967297 ∧ r < 4294967296 ∧ s' = ⟨[jk, jk, ut v, jk, jk, jk, jk, jk, ut s, ut d1, ut d0, jk, jk, jk, ut x0, ut Q, ut r, ut R, ut q, jk, jk, jk, jk, jk, jk, jk, jk, jk, jk, jk, jk, jk, jk, jk, jk, jk, jk, jk, jk, jk, jk, jk, jk, jk, jk, jk, jk, jk, jk, jk, jk, jk, jk, jk, jk, jk, jk, jk, jk, jk, jk, jk, jk, jk, jk, jk, jk, jk, jk, jk, jk, jk, jk, jk, jk, jk, jk, jk, jk, jk, jk, jk, jk, jk, jk, jk, jk, jk, jk, jk, jk, jk, jk, jk, jk, jk, jk, jk, jk, jk, jk, jk, jk, jk, jk, jk, jk, jk, jk, jk, jk, jk, jk, jk, jk, jk, jk, jk, jk, jk, jk, jk, jk, jk, jk, jk, jk, jk, jk, jk, jk, jk, jk, jk, jk], [], [], [], [], 0, nomem⟩) (R / d1) ?_ ?_
        · simp -implicitDefEqProofs only [rkA, rkB, stepA, valA, simprocAttr]
          exact ⟨R / d1, R % d1, rfl, by rw [Nat.mul_comm]; exact p2, g2, g3, by omega, rfl⟩
        rintro m' s' ⟨q, r', rfl, l1, l2, l3, l4, rfl⟩
        have b1' := hmul m' l3
        have e4' : IntKind.wrap .u64 (IntKind.wrap .u64 (4294967296 * (r' : Int)) + (x0 : Int)) = ((4294967296 * r' + x0 : Nat) : Int) := by rw [wrapU, wrapU]; omega
        have e5' : IntKind.wrap .u64 ((r' : Int) + (d1 : Int)) = ((r' + d1 : Nat) : Int) := by rw [wrapU]; omega
        have efin : IntKind.wrap .u64 (IntKind.wrap .u64 ((Q : Int) * 4294967296) + (Q2 : Int)) = (((hi * 18446744073709551616 + lo) / y : Nat) : Int) := by rw [← f6.1, wrapU, wrapU]; omega
        have efin2 : ((R2 : Int)).fdiv (2 ^ min s (IntKind.bits .u64)) = (((hi * 18446744073709551616 + lo) % y : Nat) : Int) := by rw [shrN _ (show s ≤ 64 by omega), f6.2, fin.2]
        simp -implicitDefEqProofs only [rkA, rkB, stepA, valA, simprocAttr]
        refine gB_dec ?_ ?_ <;> intro hc5 <;> simp -implicitDefEqProofs only [hc5, rkA, rkB, stepA, valA, simprocAttr]
        · have hlt : Q2 < m' := by omega
          have hm := hdn Q2 m' hlt
          have e6 : IntKind.wrap .u64 ((m' : Int) - 1) = ((m' - 1 : Nat) : Int) := by rw [wrapU]; omega
          simp -implicitDefEqProofs only [e6, e5', rkA, rkB, stepA, valA, simprocAttr]
          refine gB_dec ?_ ?_ <;> intro hc6 <;> simp -implicitDefEqProofs only [hc6, rkA, rkB, stepA, valA, simprocAttr]
          · have hq : m' - 1 = Q2 := by have := g5 (m' - 1) (r' + d1) (by omega) (by omega); omega
            rw [hq]
            simp -implicitDefEqProofs only [hrest2, s0, Int.toNat_natCast, efin, efin2, rkA, rkB, stepA, valA, simprocAttr]
          · refine loopK_of (m' := m' - 1) (by omega) ?_
            simp -implicitDefEqProofs only [rkA, rkB, stepA, valA, simprocAttr]
            exact ⟨m' - 1, r' + d1, rfl, by omega, by omega, by omega, by omega, rfl⟩
        · simp -implicitDefEqProofs only [mulN, wrapN b1', e4', rkA, rkB, stepA, valA, simprocAttr]
          refine gB_dec ?_ ?_ <;> intro hc6 <;> simp -implicitDefEqProofs only [hc6, rkA, rkB, stepA, valA, simprocAttr]
          · have hlt : Q2 < m' := (g10 m').2 ((g4 _ _ l1).1 (by omega))
            have hm := hdn Q2 m' hlt
            have e6 : IntKind.wrap .u64 ((m' : Int) - 1) = ((m' - 1 : Nat) : Int) := by rw [wrapU]; omega
            simp -implicitDefEqProofs only [e6, e5', rkA, rkB, stepA, valA, simprocAttr]
            refine gB_dec ?_ ?_ <;> intro hc7 <;> simp -implicitDefEqProofs only [hc7, rkA, rkB, stepA, valA, simprocAttr]
            · have hq : m' - 1 = Q2 := by have := g5 (m' - 1) (r' + d1) (by omega) (by omega); omega
              rw [hq]
              simp -implicitDefEqProofs only [hrest2, s0, Int.toNat_natCast, efin, efin2, rkA, rkB, stepA, valA, simprocAttr]
            · refine loopK_of (m' := m' - 1) (by omega) ?_
              simp -implicitDefEqProofs only [rkA, rkB, stepA, valA, simprocAttr]
              exact ⟨m' - 1, r' + d1, rfl, by omega, by omega, by omega, by omega, rfl⟩
          · have hq : m' = Q2 := by
              have h1 : ¬ Q2 < m' := fun h => by have := (g4 _ _ l1).2 ((g10 m').1 h); omega
              omega
            rw [hq]
            simp -implicitDefEqProofs only [hrest2, s0, Int.toNat_natCast, efin, efin2, rkA, rkB, stepA, valA, simprocAttr]
end Go.Proofs.YtambpjbpdackfaaGreat.A



set_option linter.unusedVariables false
set_option linter.unusedSimpArgs false
set_option maxRecDepth 100000
namespace Go.Proofs.YtambpjbpdackfaaGreat.A
open Go Go.RowKit Go.Shelf

/-! ### Products, divided -/
def rightW (n : Int) : Bool := decide (-4611686018427387903 ≤ n ∧ n ≤ 4611686018427387903)
theorem ok164' (n : Int) : Ok Tryz.prog 164 [num n] (tru (rightW n)) := ok164 n
theorem ok180 (n : Int) (h : rightW n = true) : Ok Tryz.prog 180 [num n] (uw n.natAbs) := by
  simp only [rightW, decide_eq_true_eq] at h
  have w1 := wrapped (x := 0 - n) (by omega) (by omega)
  refine ok_fn mixed Tryz.func180 (code := ?_) (h := h180) ?_ k180 ?_
  rotate_left
  · exact rfl
  unfold h180 initS
  simp -implicitDefEqProofs (maxSteps := 10000000) only [rkA, rkB, stepA, valA, simprocAttr, Tryz.ntmps180, Tryz.results180]
  simp -implicitDefEqProofs (maxSteps := 10000000) only [w1, rkA, rkB, stepA, valA, simprocAttr]
  have e : IntKind.wrap .u64 (if n < 0 - n then 0 - n else n) = (n.natAbs : Int) := by rw [wrapU]; split <;> omega
  first | rw [e] | (simp -implicitDefEqProofs (maxSteps := 10000000) only [e, rkA, rkB, stepA, valA, simprocAttr])
theorem ok179 (a b : Nat) (ha : a < 18446744073709551616) (hb : b < 18446744073709551616) : Ok Tryz.prog 179 [uw a, uw b] (.agg [uw (a * b / 18446744073709551616), uw (a * b % 18446744073709551616)]) := by
  refine ok_fn mixed Tryz.func179 (code := ?_) (h := h179) ?_ k179 ?_
  rotate_left
  · exact rfl
  unfold h179 initS
  simp -implicitDefEqProofs (maxSteps := 10000000) only [rkA, rkB, stepA, valA, simprocAttr, Tryz.ntmps179, Tryz.results179]
  refine call_fn rfl rfl rfl (ok217 a b ha hb) ?_
  simp -implicitDefEqProofs (maxSteps := 10000000) only [rkA, rkB, stepA, valA, simprocAttr]
theorem ok178 (m : Int) : Ok Tryz.prog 178 [num m] (tru (decide (0 ≤ m ∧ m ≤ 2))) := by
  refine ok_fn mixed Tryz.func178 (code := ?_) (h := h178) ?_ k178 ?_
  rotate_left
  · exact rfl
  unfold h178 initS
  simp -implicitDefEqProofs (maxSteps := 10000000) only [rkA, rkB, stepA, valA, simprocAttr, Tryz.ntmps178, Tryz.results178]
  by_cases h : m ≥ 0
  · simp -implicitDefEqProofs (maxSteps := 10000000) only [h, rkA, rkB, stepA, valA, simprocAttr]
  · simp -implicitDefEqProofs (maxSteps := 10000000) only [h, rkA, rkB, stepA, valA, simprocAttr]

theorem and1 {a : Nat} (ha : a < 18446744073709551616) : IntKind.wrap .u64 ((BitVec.ofInt (IntKind.bits .u64) (a : Int) &&& BitVec.ofInt (IntKind.bits .u64) 1).toNat : Int) = ((a % 2 : Nat) : Int) := by
  have e : (BitVec.ofInt 64 (a : Int) &&& BitVec.ofInt 64 1).toNat = a % 2 := by
    have : (1 : Int) = ((1 : Nat) : Int) := rfl
    rw [this, ofIntN, ofIntN, BitVec.toNat_and, BitVec.toNat_ofNat, BitVec.toNat_ofNat]
    have h1 : a % 2 ^ 64 = a := Nat.mod_eq_of_lt (by omega)
    have h2 : 1 % 2 ^ 64 = 2 ^ 1 - 1 := by decide
    rw [h1, h2, Nat.and_two_pow_sub_one_eq_mod]
  rw [bitsU, e, wrapN (by omega)]
theorem toI {q : Nat} (h : q ≤ 4611686018427387903) : IntKind.wrap .i64 (q : Int) = (q : Int) ∧ IntKind.wrap .i64 (0 - (q : Int)) = -(q : Int) := by
  refine ⟨wrapped (by omega) (by omega), ?_⟩
  rw [wrapped (by omega) (by omega)]
  omega
def moreF (mode : Int) (q r d : Nat) (minus : Bool) : Bool :=
  if r = 0 then false else if mode = 0 then (decide (r > d - r) || (decide (r = d - r) && decide (q % 2 = 1))) else (decide (mode = 2) != minus)
def minus3 (a b c : Int) : Bool := (decide (a < 0) != decide (b < 0)) != decide (c < 0)
def mdN (a b c mode : Int) : Nat := a.natAbs * b.natAbs / c.natAbs + (if moreF mode (a.natAbs * b.natAbs / c.natAbs) (a.natAbs * b.natAbs % c.natAbs) c.natAbs (minus3 a b c) = true then 1 else 0)
def mdOk (a b c mode : Int) : Bool := rightW a && (rightW b && (rightW c && (decide (c ≠ 0) && (decide (0 ≤ mode ∧ mode ≤ 2) && decide (mdN a b c mode ≤ 4611686018427387903)))))
/-- A product, divided, and rounded; false: it may not be. -/
def mdF (a b c mode : Int) : Int × Bool := if mdOk a b c mode = true then (if minus3 a b c = true then -(mdN a b c mode : Int) else (mdN a b c mode : Int), true) else (0, false)

theorem nb1 : (!(true == false)) = true := rfl
theorem nb2 : (!(true == true)) = false := rfl
theorem nb3 : (!(false == true)) = true := rfl
theorem nb4 : (!(false == false)) = false := rfl
set_option maxHeartbeats 4000000 in
theorem ok113 (a b c mode : Int) : Ok Tryz.prog 113 [num a, num b, num c, num mode] (.tup [num (mdF a b c mode).1, tru (mdF a b c mode).2]) := by
  have bad : mdOk a b c mode = false → mdF a b c mode = (0, false) := fun h => by unfold mdF; rw [h]; rfl
  refine ok_fn mixed Tryz.func113 (code := ?_) (h := h113) ?_ k113 ?_
  rotate_left
  · exact rfl
  unfold h113 initS
  simp -implicitDefEqProofs (maxSteps := 10000000) only [rkA, rkB, stepA, valA, simprocAttr, Tryz.ntmps113, Tryz.results113]
  refine call_fn rfl rfl rfl (ok164' a) ?_
  cases ha : rightW a with
  | false => 
    rw [bad (by simp [mdOk, ha])]
    simp -implicitDefEqProofs (maxSteps := 10000000) only [rkA, rkB, stepA, valA, simprocAttr]
  | true =>
    simp -implicitDefEqProofs (maxSteps := 10000000) only [rkA, rkB, stepA, valA, simprocAttr]
    refine call_fn rfl rfl rfl (ok164' b) ?_
    cases hb : rightW b with
    | false => 
      rw [bad (by simp [mdOk, hb])]
      simp -implicitDefEqProofs (maxSteps := 10000000) only [rkA, rkB, stepA, valA, simprocAttr]
    | true =>
      simp -implicitDefEqProofs (maxSteps := 10000000) only [rkA, rkB, stepA, valA, simprocAttr]
      refine call_fn rfl rfl rfl (ok164' c) ?_
      cases hc : rightW c with
      | false => 
        rw [bad (by simp [mdOk, hc])]
        simp -implicitDefEqProofs (maxSteps := 10000000) only [rkA, rkB, stepA, valA, simprocAttr]
      | true =>
        simp -implicitDefEqProofs (maxSteps := 10000000) only [rkA, rkB, stepA, valA, simprocAttr]
        by_cases c0 : c = 0
        · rw [bad (by simp [mdOk, c0])]
          simp -implicitDefEqProofs (maxSteps := 10000000) only [c0, beq_self_eq_true, rkA, rkB, stepA, valA, simprocAttr]
        · have c0' : (c == 0) = false := by simp [c0]
          simp -implicitDefEqProofs (maxSteps := 10000000) only [c0', rkA, rkB, stepA, valA, simprocAttr]
          refine call_fn rfl rfl rfl (ok178 mode) ?_
          by_cases hm : 0 ≤ mode ∧ mode ≤ 2
          · simp -implicitDefEqProofs (maxSteps := 10000000) only [hm, rkA, rkB, stepA, valA, simprocAttr]
            refine call_fn rfl rfl rfl (ok180 a ha) ?_
            simp -implicitDefEqProofs (maxSteps := 10000000) only [rkA, rkB, stepA, valA, simprocAttr]
            refine call_fn rfl rfl rfl (ok180 b hb) ?_
            simp only [rightW, decide_eq_true_eq] at ha hb
            simp -implicitDefEqProofs (maxSteps := 10000000) only [rkA, rkB, stepA, valA, simprocAttr]
            refine call_fn rfl rfl rfl (ok179 a.natAbs b.natAbs (by omega) (by omega)) ?_
            simp -implicitDefEqProofs (maxSteps := 10000000) only [rkA, rkB, stepA, valA, simprocAttr]
            refine call_fn rfl rfl rfl (ok180 c hc) ?_
            have hc' := hc
            simp only [rightW, decide_eq_true_eq] at hc'
            simp -implicitDefEqProofs (maxSteps := 10000000) only [rkA, rkB, stepA, valA, simprocAttr]
            have hd : 0 < c.natAbs := by omega
            have e2 : ((2 : Nat) : Int) = 2 := rfl
            have p1 := Nat.div_add_mod (a.natAbs * b.natAbs) 18446744073709551616
            have p2 := Nat.mod_lt (a.natAbs * b.natAbs) (show 0 < 18446744073709551616 by omega)
            refine gB_dec ?_ ?_ <;> intro hg <;> simp -implicitDefEqProofs (maxSteps := 10000000) only [hg, e2, rkA, rkB, stepA, valA, simprocAttr]
            · have hq : 18446744073709551616 ≤ a.natAbs * b.natAbs / c.natAbs := by
                rw [Nat.le_div_iff_mul_le hd]
                have : c.natAbs * 18446744073709551616 ≤ a.natAbs * b.natAbs / 18446744073709551616 * 18446744073709551616 := Nat.mul_le_mul_right _ (by omega)
                rw [Nat.mul_comm 18446744073709551616]
                omega
              have hn : ¬ mdN a b c mode ≤ 4611686018427387903 := by
                unfold mdN
                generalize a.natAbs * b.natAbs / c.natAbs = q at *
                split <;> omega
              rw [bad (by simp only [mdOk, hn, decide_false, Bool.and_false])]
            · have h131 := ok181 (a.natAbs * b.natAbs / 18446744073709551616) (a.natAbs * b.natAbs % 18446744073709551616) c.natAbs (by omega) (by omega) p2
              rw [Nat.mul_comm _ 18446744073709551616, p1] at h131
              refine call_fn rfl rfl rfl (h131) ?_
              have q1 := Nat.mod_lt (a.natAbs * b.natAbs) hd
              simp -implicitDefEqProofs (maxSteps := 10000000) only [rkA, rkB, stepA, valA, simprocAttr]
              have q2 : a.natAbs * b.natAbs / c.natAbs < 18446744073709551616 := by
                refine Nat.div_lt_of_lt_mul ?_
                have : (a.natAbs * b.natAbs / 18446744073709551616 + 1) * 18446744073709551616 ≤ c.natAbs * 18446744073709551616 := Nat.mul_le_mul_right _ (by omega)
                omega
              have hmin : (!((!(decide (a < 0) == decide (b < 0))) == decide (c < 0))) = minus3 a b c := rfl
              have spec : ∀ mo, moreF mode (a.natAbs * b.natAbs / c.natAbs) (a.natAbs * b.natAbs % c.natAbs) c.natAbs (minus3 a b c) = mo → mdF a b c mode = if a.natAbs * b.natAbs / c.natAbs + (if mo = true then 1 else 0) ≤ 4611686018427387903 then
                  (if minus3 a b c = true then -((a.natAbs * b.natAbs / c.natAbs + (if mo = true then 1 else 0) : Nat) : Int) else ((a.natAbs * b.natAbs / c.natAbs + (if mo = true then 1 else 0) : Nat) : Int), true) else (0, false) := by
                have r1 : rightW a = true := by simp only [rightW, decide_eq_true_eq]; exact ha
                have r2 : rightW b = true := by simp only [rightW, decide_eq_true_eq]; exact hb
                have r3 : decide (0 ≤ mode ∧ mode ≤ 2) = true := decide_eq_true hm
                intro mo h
                unfold mdF mdOk
                rw [r1, r2, hc, r3, decide_eq_true (show c ≠ 0 from c0)]
                simp only [Bool.true_and, decide_eq_true_eq]
                unfold mdN
                rw [h]
              simp only [hmin]
              clear bad
              have dN : c.natAbs < 18446744073709551616 := by omega
              generalize a.natAbs * b.natAbs / c.natAbs = q at *
              generalize a.natAbs * b.natAbs % c.natAbs = r at *
              generalize minus3 a b c = mi at *
              generalize c.natAbs = d at *
              by_cases r0 : r = 0
              · subst r0
                have hmo : moreF mode q 0 d mi = false := rfl
                simp -implicitDefEqProofs (maxSteps := 10000000) only [Int.natCast_zero, beq_self_eq_true, rkA, rkB, stepA, valA, simprocAttr]
                by_cases big : q > 4611686018427387903
                · have big' : (q : Int) > 4611686018427387903 := by omega
                  rw [(spec false hmo).trans (if_neg (by simp; omega))]
                  simp -implicitDefEqProofs (maxSteps := 10000000) only [big', rkA, rkB, stepA, valA, simprocAttr]
                · have big' : ¬ (q : Int) > 4611686018427387903 := by omega
                  rw [(spec false hmo).trans (if_pos (by simp; omega))]
                  obtain ⟨t1, t2⟩ := toI (q := q) (by omega)
                  simp -implicitDefEqProofs (maxSteps := 10000000) only [big', Nat.add_zero, rkA, rkB, stepA, valA, simprocAttr]
                  first
                    | (cases mi with
                       | true => simp -implicitDefEqProofs (maxSteps := 10000000) only [t1, t2, rkA, rkB, stepA, valA, simprocAttr]
                       | false => simp -implicitDefEqProofs (maxSteps := 10000000) only [t1, t2, rkA, rkB, stepA, valA, simprocAttr])
                    | simp -implicitDefEqProofs (maxSteps := 10000000) only [t1, t2, rkA, rkB, stepA, valA, simprocAttr]
              · have r0' : ((r : Int) == 0) = false := by simp; omega
                simp -implicitDefEqProofs (maxSteps := 10000000) only [r0', rkA, rkB, stepA, valA, simprocAttr]
                by_cases m0 : mode = 0
                · have m0' : (mode == 0) = true := by simp [m0]
                  have hsub : IntKind.wrap .u64 ((d : Int) - (r : Int)) = ((d - r : Nat) : Int) := by rw [wrapU]; omega
                  simp -implicitDefEqProofs (maxSteps := 10000000) only [m0', hsub, rkA, rkB, stepA, valA, simprocAttr]
                  by_cases h1 : r > d - r
                  · have hmo : moreF mode q r d mi = true := by simp [moreF, r0, m0, h1]
                    have h1' : (r : Int) > ((d - r : Nat) : Int) := by omega
                    simp -implicitDefEqProofs (maxSteps := 10000000) only [h1', hsub, rkA, rkB, stepA, valA, simprocAttr]
                    by_cases big : q > 4611686018427387903
                    · have big' : (q : Int) > 4611686018427387903 := by omega
                      rw [(spec true hmo).trans (if_neg (by simp; omega))]
                      simp -implicitDefEqProofs (maxSteps := 10000000) only [big', rkA, rkB, stepA, valA, simprocAttr]
                    · have big' : ¬ (q : Int) > 4611686018427387903 := by omega
                      by_cases edge : q = 4611686018427387903
                      · have edge' : ((q : Int) == 4611686018427387903) = true := by simp; omega
                        rw [(spec true hmo).trans (if_neg (by simp; omega))]
                        simp -implicitDefEqProofs (maxSteps := 10000000) only [big', edge', rkA, rkB, stepA, valA, simprocAttr]
                      · have edge' : ((q : Int) == 4611686018427387903) = false := by simp; omega
                        have hw : IntKind.wrap .u64 ((q : Int) + 1) = ((q + 1 : Nat) : Int) := by rw [wrapU]; omega
                        rw [(spec true hmo).trans (if_pos (by simp; omega))]
                        obtain ⟨t1, t2⟩ := toI (q := q + 1) (by omega)
                        simp -implicitDefEqProofs (maxSteps := 10000000) only [big', edge', hw, rkA, rkB, stepA, valA, simprocAttr]
                        first
                          | (cases mi with
                             | true => simp -implicitDefEqProofs (maxSteps := 10000000) only [t1, t2, rkA, rkB, stepA, valA, simprocAttr]
                             | false => simp -implicitDefEqProofs (maxSteps := 10000000) only [t1, t2, rkA, rkB, stepA, valA, simprocAttr])
                          | simp -implicitDefEqProofs (maxSteps := 10000000) only [t1, t2, rkA, rkB, stepA, valA, simprocAttr]
                  · have h1' : ¬ (r : Int) > ((d - r : Nat) : Int) := by omega
                    simp -implicitDefEqProofs (maxSteps := 10000000) only [h1', hsub, rkA, rkB, stepA, valA, simprocAttr]
                    by_cases h2 : r = d - r
                    · have h2' : ((r : Int) == ((d - r : Nat) : Int)) = true := by simp; omega
                      simp -implicitDefEqProofs (maxSteps := 10000000) only [h2', and1 q2, rkA, rkB, stepA, valA, simprocAttr]
                      by_cases h3 : q % 2 = 1
                      · have hmo : moreF mode q r d mi = true := by simp [moreF, r0, m0, h3]; omega
                        have h3' : (((q % 2 : Nat) : Int) == 1) = true := by simp; omega
                        simp -implicitDefEqProofs (maxSteps := 10000000) only [h3', rkA, rkB, stepA, valA, simprocAttr]
                        by_cases big : q > 4611686018427387903
                        · have big' : (q : Int) > 4611686018427387903 := by omega
                          rw [(spec true hmo).trans (if_neg (by simp; omega))]
                          simp -implicitDefEqProofs (maxSteps := 10000000) only [big', rkA, rkB, stepA, valA, simprocAttr]
                        · have big' : ¬ (q : Int) > 4611686018427387903 := by omega
                          by_cases edge : q = 4611686018427387903
                          · have edge' : ((q : Int) == 4611686018427387903) = true := by simp; omega
                            rw [(spec true hmo).trans (if_neg (by simp; omega))]
                            simp -implicitDefEqProofs (maxSteps := 10000000) only [big', edge', rkA, rkB, stepA, valA, simprocAttr]
                          · have edge' : ((q : Int) == 4611686018427387903) = false := by simp; omega
                            have hw : IntKind.wrap .u64 ((q : Int) + 1) = ((q + 1 : Nat) : Int) := by rw [wrapU]; omega
                            rw [(spec true hmo).trans (if_pos (by simp; omega))]
                            obtain ⟨t1, t2⟩ := toI (q := q + 1) (by omega)
                            simp -implicitDefEqProofs (maxSteps := 10000000) only [big', edge', hw, rkA, rkB, stepA, valA, simprocAttr]
                            first
                              | (cases mi with
                                 | true => simp -implicitDefEqProofs (maxSteps := 10000000) only [t1, t2, rkA, rkB, stepA, valA, simprocAttr]
                                 | false => simp -implicitDefEqProofs (maxSteps := 10000000) only [t1, t2, rkA, rkB, stepA, valA, simprocAttr])
                              | simp -implicitDefEqProofs (maxSteps := 10000000) only [t1, t2, rkA, rkB, stepA, valA, simprocAttr]
                      · have hmo : moreF mode q r d mi = false := by simp only [moreF, r0, m0, h1, h3]; simp
                        have h3' : (((q % 2 : Nat) : Int) == 1) = false := by simp; omega
                        simp -implicitDefEqProofs (maxSteps := 10000000) only [h3', rkA, rkB, stepA, valA, simprocAttr]
                        by_cases big : q > 4611686018427387903
                        · have big' : (q : Int) > 4611686018427387903 := by omega
                          rw [(spec false hmo).trans (if_neg (by simp; omega))]
                          simp -implicitDefEqProofs (maxSteps := 10000000) only [big', rkA, rkB, stepA, valA, simprocAttr]
                        · have big' : ¬ (q : Int) > 4611686018427387903 := by omega
                          rw [(spec false hmo).trans (if_pos (by simp; omega))]
                          obtain ⟨t1, t2⟩ := toI (q := q) (by omega)
                          simp -implicitDefEqProofs (maxSteps := 10000000) only [big', Nat.add_zero, rkA, rkB, stepA, valA, simprocAttr]
                          first
                            | (cases mi with
                               | true => simp -implicitDefEqProofs (maxSteps := 10000000) only [t1, t2, rkA, rkB, stepA, valA, simprocAttr]
                               | false => simp -implicitDefEqProofs (maxSteps := 10000000) only [t1, t2, rkA, rkB, stepA, valA, simprocAttr])
                            | simp -implicitDefEqProofs (maxSteps := 10000000) only [t1, t2, rkA, rkB, stepA, valA, simprocAttr]
                    · have h2' : ((r : Int) == ((d - r : Nat) : Int)) = false := by simp; omega
                      have hmo : moreF mode q r d mi = false := by simp only [moreF, r0, m0, h1, h2]; simp
                      simp -implicitDefEqProofs (maxSteps := 10000000) only [h2', rkA, rkB, stepA, valA, simprocAttr]
                      by_cases big : q > 4611686018427387903
                      · have big' : (q : Int) > 4611686018427387903 := by omega
                        rw [(spec false hmo).trans (if_neg (by simp; omega))]
                        simp -implicitDefEqProofs (maxSteps := 10000000) only [big', rkA, rkB, stepA, valA, simprocAttr]
                      · have big' : ¬ (q : Int) > 4611686018427387903 := by omega
                        rw [(spec false hmo).trans (if_pos (by simp; omega))]
                        obtain ⟨t1, t2⟩ := toI (q := q) (by omega)
                        simp -implicitDefEqProofs (maxSteps := 10000000) only [big', Nat.add_zero, rkA, rkB, stepA, valA, simprocAttr]
                        first
                          | (cases mi with
                             | true => simp -implicitDefEqProofs (maxSteps := 10000000) only [t1, t2, rkA, rkB, stepA, valA, simprocAttr]
                             | false => simp -implicitDefEqProofs (maxSteps := 10000000) only [t1, t2, rkA, rkB, stepA, valA, simprocAttr])
                          | simp -implicitDefEqProofs (maxSteps := 10000000) only [t1, t2, rkA, rkB, stepA, valA, simprocAttr]
                · have m0' : (mode == 0) = false := by simp [m0]
                  simp -implicitDefEqProofs (maxSteps := 10000000) only [m0', rkA, rkB, stepA, valA, simprocAttr]
                  by_cases m2 : mode = 2
                  · have m2' : (mode == 2) = true := by simp [m2]
                    cases mi with
                    | true =>
                      have hmo : moreF mode q r d true = false := by simp [moreF, r0, m2]
                      simp -implicitDefEqProofs (maxSteps := 10000000) only [m2', nb1, nb2, nb3, nb4, rkA, rkB, stepA, valA, simprocAttr]
                      by_cases big : q > 4611686018427387903
                      · have big' : (q : Int) > 4611686018427387903 := by omega
                        rw [(spec false hmo).trans (if_neg (by simp; omega))]
                        simp -implicitDefEqProofs (maxSteps := 10000000) only [big', rkA, rkB, stepA, valA, simprocAttr]
                      · have big' : ¬ (q : Int) > 4611686018427387903 := by omega
                        rw [(spec false hmo).trans (if_pos (by simp; omega))]
                        obtain ⟨t1, t2⟩ := toI (q := q) (by omega)
                        simp -implicitDefEqProofs (maxSteps := 10000000) only [big', Nat.add_zero, rkA, rkB, stepA, valA, simprocAttr]
                        first
                          | (cases mi with
                             | true => simp -implicitDefEqProofs (maxSteps := 10000000) only [t1, t2, rkA, rkB, stepA, valA, simprocAttr]
                             | false => simp -implicitDefEqProofs (maxSteps := 10000000) only [t1, t2, rkA, rkB, stepA, valA, simprocAttr])
                          | simp -implicitDefEqProofs (maxSteps := 10000000) only [t1, t2, rkA, rkB, stepA, valA, simprocAttr]
                    | false =>
                      have hmo : moreF mode q r d false = true := by simp [moreF, r0, m2]
                      simp -implicitDefEqProofs (maxSteps := 10000000) only [m2', nb1, nb2, nb3, nb4, rkA, rkB, stepA, valA, simprocAttr]
                      by_cases big : q > 4611686018427387903
                      · have big' : (q : Int) > 4611686018427387903 := by omega
                        rw [(spec true hmo).trans (if_neg (by simp; omega))]
                        simp -implicitDefEqProofs (maxSteps := 10000000) only [big', rkA, rkB, stepA, valA, simprocAttr]
                      · have big' : ¬ (q : Int) > 4611686018427387903 := by omega
                        by_cases edge : q = 4611686018427387903
                        · have edge' : ((q : Int) == 4611686018427387903) = true := by simp; omega
                          rw [(spec true hmo).trans (if_neg (by simp; omega))]
                          simp -implicitDefEqProofs (maxSteps := 10000000) only [big', edge', rkA, rkB, stepA, valA, simprocAttr]
                        · have edge' : ((q : Int) == 4611686018427387903) = false := by simp; omega
                          have hw : IntKind.wrap .u64 ((q : Int) + 1) = ((q + 1 : Nat) : Int) := by rw [wrapU]; omega
                          rw [(spec true hmo).trans (if_pos (by simp; omega))]
                          obtain ⟨t1, t2⟩ := toI (q := q + 1) (by omega)
                          simp -implicitDefEqProofs (maxSteps := 10000000) only [big', edge', hw, rkA, rkB, stepA, valA, simprocAttr]
                          first
                            | (cases mi with
                               | true => simp -implicitDefEqProofs (maxSteps := 10000000) only [t1, t2, rkA, rkB, stepA, valA, simprocAttr]
                               | false => simp -implicitDefEqProofs (maxSteps := 10000000) only [t1, t2, rkA, rkB, stepA, valA, simprocAttr])
                            | simp -implicitDefEqProofs (maxSteps := 10000000) only [t1, t2, rkA, rkB, stepA, valA, simprocAttr]
                  · have m2' : (mode == 2) = false := by simp [m2]
                    cases mi with
                    | true =>
                      have hmo : moreF mode q r d true = true := by simp [moreF, r0, m0, m2]
                      simp -implicitDefEqProofs (maxSteps := 10000000) only [m2', nb1, nb2, nb3, nb4, rkA, rkB, stepA, valA, simprocAttr]
                      by_cases big : q > 4611686018427387903
                      · have big' : (q : Int) > 4611686018427387903 := by omega
                        rw [(spec true hmo).trans (if_neg (by simp; omega))]
                        simp -implicitDefEqProofs (maxSteps := 10000000) only [big', rkA, rkB, stepA, valA, simprocAttr]
                      · have big' : ¬ (q : Int) > 4611686018427387903 := by omega
                        by_cases edge : q = 4611686018427387903
                        · have edge' : ((q : Int) == 4611686018427387903) = true := by simp; omega
                          rw [(spec true hmo).trans (if_neg (by simp; omega))]
                          simp -implicitDefEqProofs (maxSteps := 10000000) only [big', edge', rkA, rkB, stepA, valA, simprocAttr]
                        · have edge' : ((q : Int) == 4611686018427387903) = false := by simp; omega
                          have hw : IntKind.wrap .u64 ((q : Int) + 1) = ((q + 1 : Nat) : Int) := by rw [wrapU]; omega
                          rw [(spec true hmo).trans (if_pos (by simp; omega))]
                          obtain ⟨t1, t2⟩ := toI (q := q + 1) (by omega)
                          simp -implicitDefEqProofs (maxSteps := 10000000) only [big', edge', hw, rkA, rkB, stepA, valA, simprocAttr]
                          first
                            | (cases mi with
                               | true => simp -implicitDefEqProofs (maxSteps := 10000000) only [t1, t2, rkA, rkB, stepA, valA, simprocAttr]
                               | false => simp -implicitDefEqProofs (maxSteps := 10000000) only [t1, t2, rkA, rkB, stepA, valA, simprocAttr])
                            | simp -implicitDefEqProofs (maxSteps := 10000000) only [t1, t2, rkA, rkB, stepA, valA, simprocAttr]
                    | false =>
                      have hmo : moreF mode q r d false = false := by simp [moreF, r0, m0, m2]
                      simp -implicitDefEqProofs (maxSteps := 10000000) only [m2', nb1, nb2, nb3, nb4, rkA, rkB, stepA, valA, simprocAttr]
                      by_cases big : q > 4611686018427387903
                      · have big' : (q : Int) > 4611686018427387903 := by omega
                        rw [(spec false hmo).trans (if_neg (by simp; omega))]
                        simp -implicitDefEqProofs (maxSteps := 10000000) only [big', rkA, rkB, stepA, valA, simprocAttr]
                      · have big' : ¬ (q : Int) > 4611686018427387903 := by omega
                        rw [(spec false hmo).trans (if_pos (by simp; omega))]
                        obtain ⟨t1, t2⟩ := toI (q := q) (by omega)
                        simp -implicitDefEqProofs (maxSteps := 10000000) only [big', Nat.add_zero, rkA, rkB, stepA, valA, simprocAttr]
                        first
                          | (cases mi with
                             | true => simp -implicitDefEqProofs (maxSteps := 10000000) only [t1, t2, rkA, rkB, stepA, valA, simprocAttr]
                             | false => simp -implicitDefEqProofs (maxSteps := 10000000) only [t1, t2, rkA, rkB, stepA, valA, simprocAttr])
                          | simp -implicitDefEqProofs (maxSteps := 10000000) only [t1, t2, rkA, rkB, stepA, valA, simprocAttr]
          · rw [bad (by simp only [mdOk, hm, decide_false, Bool.and_false, Bool.false_and])]
            simp -implicitDefEqProofs (maxSteps := 10000000) only [hm, rkA, rkB, stepA, valA, simprocAttr]
end Go.Proofs.YtambpjbpdackfaaGreat.A


set_option linter.unusedVariables false
set_option linter.unusedSimpArgs false
set_option maxRecDepth 100000
namespace Go.Proofs.YtambpjbpdackfaaGreat.A
open Go Go.RowKit Go.Shelf

def Fr.fine (x : Fr) : Bool := !x.bad && decide (x.d ≥ 1) && decide (x.d ≤ 1073741824) && decide (x.n ≤ 1073741824) && decide (x.n ≥ -1073741824) && (((newF x.n x.d).n == x.n) && (((newF x.n x.d).d == x.d) && (((newF x.n x.d).bad == x.bad) && true)))

theorem Fr.fine_spec {x : Fr} (h : x.fine = true) : x.bad = false ∧ 1 ≤ x.d ∧ x.d ≤ 1073741824 ∧ x.n ≤ 1073741824 ∧ -1073741824 ≤ x.n := by
  simp only [Fr.fine, Bool.and_eq_true, Bool.not_eq_true', decide_eq_true_eq] at h
  exact ⟨h.1.1.1.1.1, by omega, by omega, by omega, by omega⟩

def addF (a b : Fr) : Fr :=
  if a.fine = false ∨ b.fine = false then .wrong else
    newF ((a.n * b.d + b.n * a.d).tdiv (Int.gcd (a.n * b.d + b.n * a.d) (a.d * b.d))) ((a.d * b.d).tdiv (Int.gcd (a.n * b.d + b.n * a.d) (a.d * b.d)))

def mulF (a b : Fr) : Fr := if a.fine = false ∨ b.fine = false then .wrong else newF (a.n * b.n) (a.d * b.d)
def negF (a : Fr) : Fr := if a.fine = false then .wrong else newF (-a.n) a.d
def subF (a b : Fr) : Fr := addF a (negF b)

/-! ### Whole numbers -/
abbrev whole (n : Int) : Fr := ⟨n, 1, false⟩
end Go.Proofs.YtambpjbpdackfaaGreat.A


set_option linter.unusedVariables false
set_option linter.unusedSimpArgs false
set_option maxRecDepth 100000
namespace Go.Proofs.YtambpjbpdackfaaGreat.A
open Go Go.RowKit Go.Shelf

/-! ### Rows of fractions -/
abbrev frs (l : List Fr) : List PV := l.map frV

theorem fits_frs {k l : List Fr} (h : k.length + l.length ≤ 5864062014805) : fits 3 24 (frs k) (frs l) = true := by
  simp [fits, PV.cells, PV.ok, PV.cell, Value.oneCell']
  omega

def right (r c : Int) (n : Nat) : Bool := decide (1 ≤ r ∧ r ≤ 16) && (decide (1 ≤ c ∧ c ≤ 16) && ((n : Int) == r * c))
abbrev matNil : PV := .agg [num 0, num 0, .s (.slice none 0 0)]
abbrev matV (ex : Bool) (r c : Int) (l : List PV) : PV := .agg [num r, num c, .sl ex l]

theorem methOf : Meth Tryz.prog 47 "Of" 269 := by
  intro v xs w
  rfl

/-- What stands in a row, or 0 fraction. -/
def atF (r c : Int) (l : List Fr) (i k : Int) : Fr := if right r c l.length = true ∧ 0 ≤ i ∧ i < r ∧ 0 ≤ k ∧ k < c then l.getD (i * c + k).toNat ⟨0, 0, false⟩ else ⟨0, 0, false⟩

theorem right_spec {r c : Int} {n : Nat} (h : right r c n = true) : 1 ≤ r ∧ r ≤ 16 ∧ 1 ≤ c ∧ c ≤ 16 ∧ (n : Int) = r * c := by
  simp only [right, Bool.and_eq_true, decide_eq_true_eq, beq_iff_eq] at h
  omega

theorem at_bound {r c i k : Int} (hr : r ≤ 16) (hc : 1 ≤ c ∧ c ≤ 16) (hi : 0 ≤ i ∧ i < r) (hk : 0 ≤ k ∧ k < c) : 0 ≤ i * c ∧ 0 ≤ i * c + k ∧ i * c + k < r * c ∧ i * c ≤ 256 ∧ r * c ≤ 256 := by
  have h1 : 0 ≤ i * c := Int.mul_nonneg hi.1 (by omega)
  have h2 : (i + 1) * c ≤ r * c := Int.mul_le_mul_of_nonneg_right (by omega) (by omega)
  have h3 : (i + 1) * c = i * c + c := by rw [Int.add_mul, Int.one_mul]
  have h4 : r * c ≤ 16 * c := Int.mul_le_mul_of_nonneg_right hr (by omega)
  omega

end Go.Proofs.YtambpjbpdackfaaGreat.A


set_option linter.unusedVariables false
set_option linter.unusedSimpArgs false
set_option maxRecDepth 100000
namespace Go.Proofs.YtambpjbpdackfaaGreat.A
open Go Go.RowKit Go.Shelf

theorem methAdd : Meth Tryz.prog 47 "Add" 264 := by
  intro v xs w
  rfl
theorem methMul : Meth Tryz.prog 47 "Mul" 267 := by
  intro v xs w
  rfl

def sumF (l : List Fr) : Fr := l.foldl addF (newF 0 1)

theorem sl_frs {ex : Bool} {l : List Fr} {a b : Nat} (h1 : a ≤ b) (h2 : b ≤ l.length) : sliceA 3 (frs l) ex (some a) (some b) none = some (.sl (exA none ex b (frs l).length) (frs ((l.take b).drop a))) := by
  unfold sliceA
  simp only [Option.getD_some]
  rw [if_pos ⟨h1, by simpa using h2, by simp, by simp [PV.cells]⟩]
  simp

/-- A row. -/
def rowF (r c : Int) (l : List Fr) (i : Int) : List Fr := if right r c l.length = true ∧ 0 ≤ i ∧ i < r then (l.take ((i + 1) * c).toNat).drop (i * c).toNat else []

end Go.Proofs.YtambpjbpdackfaaGreat.A


set_option linter.unusedVariables false
set_option linter.unusedSimpArgs false
set_option maxRecDepth 100000
namespace Go.Proofs.YtambpjbpdackfaaGreat.A
open Go Go.RowKit Go.Shelf

def rowsF (r c : Int) (l : List Fr) : List (List PV) := if right r c l.length = true then (List.range r.toNat).map fun (i : Nat) => [num (i : Int), .sl false (frs (rowF r c l (i : Int)))] else []

/-! ### Pairs -/
def pairsF (a b : List Fr) : List (List PV) := (List.zip a b).map fun p => [frV p.1, frV p.2]

end Go.Proofs.YtambpjbpdackfaaGreat.A


set_option linter.unusedVariables false
set_option linter.unusedSimpArgs false
set_option maxRecDepth 100000
namespace Go.Proofs.YtambpjbpdackfaaGreat.A
open Go Go.RowKit Go.Shelf

def dotF (a b : List Fr) : Fr := sumF (List.zipWith mulF a b)

/-- A matrix, turned. -/
def turnF (r c : Int) (l : List Fr) : List Fr := if right r c l.length = true then (List.range c.toNat).flatMap fun (k : Nat) => (List.range r.toNat).map fun (i : Nat) => atF r c l i k else []

/-- Of a turned matrix, what is told so far. -/
def turnP (r c : Int) (l : List Fr) (k i : Nat) : List Fr := (List.range k).flatMap (fun (k : Nat) => (List.range r.toNat).map fun (i : Nat) => atF r c l i k) ++ (List.range i).map fun (i : Nat) => atF r c l i k
theorem turnP_succ (r c : Int) (l : List Fr) (k i : Nat) : turnP r c l k (i + 1) = turnP r c l k i ++ [atF r c l i k] := by
  simp [turnP, List.range_succ]
theorem turnP_next (r c : Int) (l : List Fr) (k : Nat) : turnP r c l k r.toNat = turnP r c l (k + 1) 0 := by
  simp [turnP, List.range_succ]
theorem turnP_length (r c : Int) (l : List Fr) (k i : Nat) : (turnP r c l k i).length = k * r.toNat + i := by
  simp [turnP, List.length_flatMap, List.map_const', List.sum_replicate_nat]

end Go.Proofs.YtambpjbpdackfaaGreat.A


set_option linter.unusedVariables false
set_option linter.unusedSimpArgs false
set_option maxRecDepth 100000
namespace Go.Proofs.YtambpjbpdackfaaGreat.A
open Go Go.RowKit Go.Shelf

theorem turnF_length {r c : Int} {l : List Fr} (h : right r c l.length = true) : (turnF r c l).length = c.toNat * r.toNat := by
  have : turnF r c l = turnP r c l c.toNat 0 := by simp [turnF, h, turnP]
  rw [this, turnP_length, Nat.add_zero]

theorem right_turn {r c : Int} {l : List Fr} (h : right r c l.length = true) : right c r (turnF r c l).length = true := by
  obtain ⟨r1, r2, c1, c2, hn⟩ := right_spec h
  rw [turnF_length h]
  simp only [right, Bool.and_eq_true, decide_eq_true_eq, beq_iff_eq]
  refine ⟨by omega, by omega, ?_⟩
  rw [Int.natCast_mul, Int.toNat_of_nonneg (by omega), Int.toNat_of_nonneg (by omega)]

section
variable {α β : Type} (f : α → α → β)
/-- A product, the rows given: what stands so far. -/
def prodP (xs ys : List α) (i k : Nat) : List β := (xs.take i).flatMap (fun x => ys.map (f x)) ++ (match xs[i]? with | some x => (ys.take k).map (f x) | none => [])
theorem prodP_succ {xs ys : List α} {i k : Nat} {x y : α} (hx : xs[i]? = some x) (hy : ys[k]? = some y) : prodP f xs ys i (k + 1) = prodP f xs ys i k ++ [f x y] := by
  obtain ⟨hk, rfl⟩ := List.getElem?_eq_some_iff.1 hy
  simp only [prodP, hx, List.take_succ_eq_append_getElem hk, List.map_append, List.map_cons, List.map_nil, List.append_assoc]
theorem prodP_zero (xs ys : List α) (i : Nat) : prodP f xs ys i 0 = (xs.take i).flatMap (fun x => ys.map (f x)) := by
  unfold prodP
  cases xs[i]? <;> simp
theorem prodP_next {xs ys : List α} {i : Nat} (hi : i < xs.length) : prodP f xs ys i ys.length = prodP f xs ys (i + 1) 0 := by
  rw [prodP_zero, List.take_succ_eq_append_getElem hi, prodP, List.getElem?_eq_getElem hi]
  simp only [List.take_length, List.flatMap_append, List.flatMap_cons, List.flatMap_nil, List.append_nil]
theorem prodP_length {xs ys : List α} {i k : Nat} (hi : i < xs.length) (hk : k ≤ ys.length) : (prodP f xs ys i k).length = i * ys.length + k := by
  rw [prodP, List.getElem?_eq_getElem hi]
  simp [List.length_flatMap, List.map_const', List.sum_replicate_nat, Nat.min_eq_left (Nat.le_of_lt hi), Nat.min_eq_left hk]
end

/-- All rows. -/
def allF (r c : Int) (l : List Fr) : List (List Fr) := (List.range r.toNat).map fun (i : Nat) => rowF r c l (i : Int)
def prodF (r m c : Int) (a b : List Fr) : List Fr := (allF r m a).flatMap fun x => (allF c m (turnF m c b)).map (dotF x)

theorem allF_length (r c : Int) (l : List Fr) : (allF r c l).length = r.toNat := by simp [allF]
theorem rowsF_all {r c : Int} {l : List Fr} (h : right r c l.length = true) {i : Nat} {x : List PV} (hx : (rowsF r c l)[i]? = some x) : i < r.toNat ∧ x = [num i, .sl false (frs (rowF r c l i))] ∧ (allF r c l)[i]? = some (rowF r c l i) := by
  obtain ⟨hi, rfl⟩ := List.getElem?_eq_some_iff.1 hx
  have hi' : i < r.toNat := by simpa [rowsF, h] using hi
  refine ⟨hi', by simp [rowsF, h], by simp [allF, hi']⟩
theorem rowsF_length {r c : Int} {l : List Fr} (h : right r c l.length = true) : (rowsF r c l).length = r.toNat := by simp [rowsF, h]
theorem rowF_length {r c : Int} {l : List Fr} (i : Int) : (rowF r c l i).length ≤ l.length := by
  unfold rowF
  split <;> simp <;> omega

end Go.Proofs.YtambpjbpdackfaaGreat.A


set_option linter.unusedVariables false
set_option linter.unusedSimpArgs false
set_option maxRecDepth 100000
namespace Go.Proofs.YtambpjbpdackfaaGreat.A
open Go Go.RowKit Go.Shelf

/-- A contract for what is known better. -/
theorem Ok.args {P : Program} {f : FuncId} {xs ys : List PV} {r : PV} (k : Ok P f xs r) (h : ∀ I vs, Cs I ys vs → Cs I xs vs) : Ok P f ys r :=
  ⟨k.1, fun I w vs hg hc => k.2 I w vs hg (h I vs hc)⟩
theorem Cs.nil_of {I : Imm} {xs ys : List PV} {vs : List Value} {ex : Bool} (h : Cs I (.s (.slice none 0 0) :: xs) vs) (k : ∀ us, Cs I xs us → Cs I ys us) : Cs I (.sl ex [] :: ys) vs := by
  cases h with | cons h1 h2 => cases h1; exact .cons .sl0 (k _ h2)

end Go.Proofs.YtambpjbpdackfaaGreat.A


set_option linter.unusedVariables false
set_option linter.unusedSimpArgs false
set_option maxRecDepth 100000
namespace Go.Proofs.YtambpjbpdackfaaGreat.A
open Go Go.RowKit Go.Shelf

section
variable {α : Type} (g : Nat → Nat → α) (n : Nat)
/-- A table gone through row by row: what stands so far. -/
def gridP (i k : Nat) : List α := (List.range i).flatMap (fun i => (List.range n).map (g i)) ++ (List.range k).map (g i)
theorem gridP_succ (i k : Nat) : gridP g n i (k + 1) = gridP g n i k ++ [g i k] := by simp [gridP, List.range_succ]
theorem gridP_next (i : Nat) : gridP g n i n = gridP g n (i + 1) 0 := by simp [gridP, List.range_succ]
theorem gridP_length (i k : Nat) : (gridP g n i k).length = i * n + k := by simp [gridP, List.length_flatMap, List.map_const', List.sum_replicate_nat]
theorem gridP_zero (i : Nat) : gridP g n i 0 = (List.range i).flatMap (fun i => (List.range n).map (g i)) := by simp [gridP]
end

/-- The document's sum of products. -/
def dotI (a b : List Int) (many cols i k : Nat) : Nat → Int
  | 0 => 0
  | j + 1 => dotI a b many cols i k j + a.getD (i * many + j) 0 * b.getD (j * cols + k) 0
def small (a : List Int) : Prop := ∀ x ∈ a, -100 ≤ x ∧ x ≤ 100
/-- The document's product. -/
def mulI (a b : List Int) (rows many cols : Nat) : List Int := gridP (fun i k => dotI a b many cols i k many) cols rows 0

theorem fits_num {k l : List Int} (h : k.length + l.length ≤ 5864062014805) : fits 1 8 (k.map num) (l.map num) = true := by
  simp [fits, PV.cells, PV.ok, PV.cell, Value.oneCell']
  omega
theorem at_num {a : List Int} {i : Nat} (h : i < a.length) : (a.map num)[i]? = some (num (a.getD i 0)) := by
  simp [h]
theorem at_table {i j n m : Nat} (hi : i < n) (hj : j < m) : i * m + j < n * m ∧ i * m ≤ n * m := by
  have : (i + 1) * m ≤ n * m := Nat.mul_le_mul_right _ (by omega)
  rw [Nat.add_mul] at this
  omega
theorem side16 {n m : Nat} (hn : n ≤ 16) (hm : m ≤ 16) : n * m ≤ 256 := Nat.mul_le_mul hn hm

end Go.Proofs.YtambpjbpdackfaaGreat.A


set_option linter.unusedVariables false
set_option linter.unusedSimpArgs false
namespace Go.Proofs.YtambpjbpdackfaaGreat.A
open Go Go.RowKit Go.Shelf

theorem gridP_get {α : Type} (g : Nat → Nat → α) (n : Nat) : ∀ (N i j : Nat), i < N → j < n → (gridP g n N 0)[i * n + j]? = some (g i j)
  | 0, i, j, h, _ => by omega
  | N + 1, i, j, hi, hj => by
    have e : gridP g n (N + 1) 0 = gridP g n N 0 ++ (List.range n).map (g N) := by
      rw [← gridP_next]
      simp [gridP]
    have hl := gridP_length g n N 0
    rw [e]
    by_cases h : i < N
    · have : (i + 1) * n ≤ N * n := Nat.mul_le_mul_right _ h
      rw [Nat.add_mul] at this
      rw [List.getElem?_append_left (by omega)]
      exact gridP_get g n N i j h hj
    · have : i = N := by omega
      subst this
      rw [List.getElem?_append_right (by omega), hl]
      simp [hj]

theorem flatMap_same {α β : Type} {l : List α} {f g : α → List β} (h : ∀ x ∈ l, f x = g x) : l.flatMap f = l.flatMap g := by
  rw [List.flatMap_def, List.flatMap_def, List.map_congr_left h]

/-- A stretch of a row. -/
theorem stretch {α : Type} (l : List α) (d : α) (i n : Nat) (h : (i + 1) * n ≤ l.length) : (l.take ((i + 1) * n)).drop (i * n) = (List.range n).map fun j => l.getD (i * n + j) d := by
  have hm : (i + 1) * n = i * n + n := by rw [Nat.add_mul, Nat.one_mul]
  apply List.ext_getElem
  · simp; omega
  · intro j h1 h2
    simp at h2
    simp [List.getElem?_eq_getElem (show i * n + j < l.length by omega)]

theorem rowF_eq {r c : Int} {l : List Fr} (d : Fr) (h : right r c l.length = true) {i : Nat} (hi : i < r.toNat) : rowF r c l i = (List.range c.toNat).map fun j => l.getD (i * c.toNat + j) d := by
  obtain ⟨r1, r2, c1, c2, hn⟩ := right_spec h
  obtain ⟨R, rfl⟩ := Int.eq_ofNat_of_zero_le (show 0 ≤ r by omega)
  obtain ⟨K, rfl⟩ := Int.eq_ofNat_of_zero_le (show 0 ≤ c by omega)
  simp only [Int.toNat_natCast] at hi ⊢
  unfold rowF
  rw [if_pos ⟨h, by omega, by omega⟩]
  have e1 : (((i : Int) + 1) * (K : Int)).toNat = (i + 1) * K := by
    have : ((i : Int) + 1) * (K : Int) = (((i + 1) * K : Nat) : Int) := by simp
    rw [this, Int.toNat_natCast]
  have e2 : ((i : Int) * (K : Int)).toNat = i * K := by
    have : (i : Int) * (K : Int) = ((i * K : Nat) : Int) := by simp
    rw [this, Int.toNat_natCast]
  rw [e1, e2]
  refine stretch l d i K ?_
  have h1 : (i + 1) * K ≤ R * K := Nat.mul_le_mul_right _ hi
  have h2 : ((R * K : Nat) : Int) = (l.length : Int) := by rw [hn]; simp
  omega

theorem atF_eq {r c : Int} {l : List Fr} (h : right r c l.length = true) {i k : Nat} (hi : i < r.toNat) (hk : k < c.toNat) : atF r c l i k = l.getD (i * c.toNat + k) ⟨0, 0, false⟩ := by
  obtain ⟨r1, r2, c1, c2, hn⟩ := right_spec h
  unfold atF
  rw [if_pos ⟨h, by omega, by omega, by omega, by omega⟩]
  congr 1
  obtain ⟨K, rfl⟩ := Int.eq_ofNat_of_zero_le (show 0 ≤ c by omega)
  have : (i : Int) * (K : Int) + (k : Int) = ((i * K + k : Nat) : Int) := by simp
  rw [this, Int.toNat_natCast, Int.toNat_natCast]

end Go.Proofs.YtambpjbpdackfaaGreat.A


set_option linter.unusedVariables false
set_option linter.unusedSimpArgs false
set_option maxRecDepth 100000
namespace Go.Proofs.YtambpjbpdackfaaGreat.A
open Go Go.RowKit Go.Shelf

theorem Cs.keep {I : Imm} {x : PV} {xs ys : List PV} {vs : List Value} (h : Cs I (x :: xs) vs) (k : ∀ us, Cs I xs us → Cs I ys us) : Cs I (x :: ys) vs := by
  cases h with | cons h1 h2 => exact .cons h1 (k _ h2)
end Go.Proofs.YtambpjbpdackfaaGreat.A



set_option linter.unusedVariables false
set_option linter.unusedSimpArgs false
set_option maxRecDepth 100000
namespace Go.Proofs.YtambpjbpdackfaaGreat.A
open Go Go.RowKit Go.Shelf

/-! ### Numbers in units -/
def rightX (n : Int) : Bool := decide (-1125899906842624 ≤ n ∧ n ≤ 1125899906842624)
theorem ok138 (n : Int) : Ok Tryz.prog 138 [num n] (tru (rightX n)) := by
  refine ok_fn mixed Tryz.func138 (code := ?_) (h := h138) ?_ k138 ?_
  rotate_left
  · exact rfl
  unfold h138 initS
  simp -implicitDefEqProofs (maxSteps := 10000000) only [rkA, rkB, stepA, valA, simprocAttr, Tryz.ntmps138, Tryz.results138]
  by_cases h : n ≥ -1125899906842624
  · simp -implicitDefEqProofs (maxSteps := 10000000) only [h, rightX, rkA, rkB, stepA, valA, simprocAttr]
  · simp -implicitDefEqProofs (maxSteps := 10000000) only [h, rightX, rkA, rkB, stepA, valA, simprocAttr]
def toldF (n : Int) (is : Bool) (l : List Int) : Int × Bool := if is = true ∧ (l ++ [n]).all rightX = true then (n, true) else (0, false)
theorem ok192 (n : Int) (is : Bool) (l : List Int) (hl : l.length ≤ 2) : Ok Tryz.prog 192 [num n, tru is, .sl true (l.map num)] (.tup [num (toldF n is l).1, tru (toldF n is l).2]) := by
  have hfit : fits 1 8 (l.map num) [num n] = true := fits_num (l := [n]) (by simp; omega)
  refine ok_fn mixed Tryz.func192 (code := ?_) (h := h192) ?_ k192 ?_
  rotate_left
  · exact rfl
  unfold h192 initS
  simp -implicitDefEqProofs (maxSteps := 10000000) only [rkA, rkB, stepA, valA, simprocAttr, Tryz.ntmps192, Tryz.results192]
  simp -implicitDefEqProofs (maxSteps := 10000000) only [hfit, rkA, rkB, stepA, valA, simprocAttr]
  have e : l.map num ++ [num n] = (l ++ [n]).map num := by simp
  simp only [e]
  have hres : toldF n is l = if is = true ∧ (l ++ [n]).all rightX = true then (n, true) else (0, false) := rfl
  have hlen : (l ++ [n]).length ≤ 3 := by simp; omega
  have hne : 0 < (l ++ [n]).length := by simp
  generalize toldF n is l = R at *
  generalize l ++ [n] = L at *
  have hL : (L.map num).length = L.length := by simp
  refine wp_loop (fun m s => ∃ i : Nat, i + m = L.length ∧ (0 < i → is = true) ∧ (L.take i).all rightX = true ∧ s = ⟨[nt n, .v (tru is), jk, jk, jk, jk, jk, jk, jk, jk, jk, jk, jk, .v (.sl false (L.map num)), nt L.length, nt i, jk, jk, jk, jk, jk, jk, jk, jk, jk, jk, jk, jk], [], [], [], [], 0, nomem⟩) L.length ?_ ?_
  · simp -implicitDefEqProofs (maxSteps := 10000000) only [hL, rkA, rkB, stepA, valA, simprocAttr]
    exact ⟨0, by simp, by simp, by simp, rfl⟩
  rintro m s ⟨i, hi, h1, h2, rfl⟩
  simp -implicitDefEqProofs (maxSteps := 10000000) only [rkA, rkB, stepA, valA, simprocAttr]
  refine gB_dec ?_ ?_ <;> intro hc <;> simp -implicitDefEqProofs (maxSteps := 10000000) only [hc, rkA, rkB, stepA, valA, simprocAttr]
  · have hlt : i < L.length := by omega
    have h0 : (0 : Int) ≤ (i : Int) := by omega
    have hg : (L.map num)[i]? = some (num L[i]) := by simp [hlt]
    have hno : rightX L[i] = false → L.all rightX = false := fun h => by
      rw [List.all_eq_false]
      exact ⟨L[i], List.getElem_mem hlt, by simp [h]⟩
    simp -implicitDefEqProofs (maxSteps := 10000000) only [h0, Int.toNat_natCast, hg, rkA, rkB, stepA, valA, simprocAttr]
    cases is with
    | false =>
      rw [hres, if_neg (by simp)]
      simp -implicitDefEqProofs (maxSteps := 10000000) only [rkA, rkB, stepA, valA, simprocAttr]
    | true =>
      simp -implicitDefEqProofs (maxSteps := 10000000) only [rkA, rkB, stepA, valA, simprocAttr]
      refine call_fn rfl rfl rfl (ok138 L[i]) ?_
      cases hr : rightX L[i] with
      | false =>
        rw [hres, if_neg (by rw [hno hr]; simp)]
        simp -implicitDefEqProofs (maxSteps := 10000000) only [rkA, rkB, stepA, valA, simprocAttr]
      | true =>
        have hw := wrapped (x := (i : Int) + 1) (by omega) (by omega)
        simp -implicitDefEqProofs (maxSteps := 10000000) only [rkA, rkB, stepA, valA, simprocAttr]
        simp -implicitDefEqProofs (maxSteps := 10000000) only [hw, rkA, rkB, stepA, valA, simprocAttr]
        refine loopK_of (m' := m - 1) (by omega) ?_
        simp -implicitDefEqProofs (maxSteps := 10000000) only [rkA, rkB, stepA, valA, simprocAttr]
        refine ⟨i + 1, by omega, by simp, ?_, by simp only [Int.natCast_add, Int.natCast_one]⟩
        rw [List.take_succ_eq_append_getElem hlt, List.all_append, h2]
        simp [hr]
  · have hin : i = L.length := by omega
    subst hin
    rw [List.take_length] at h2
    rw [hres, if_pos ⟨h1 hne, h2⟩]
theorem ok192_nil (n : Int) (is : Bool) : Ok Tryz.prog 192 [num n, tru is, .s (.slice none 0 0)] (.tup [num (toldF n is []).1, tru (toldF n is []).2]) :=
  (ok192 n is [] (by simp)).args fun I vs h => Cs.keep h fun us h => Cs.keep h fun us h => Cs.nil_of h fun us h => h

def ofX (n : Int) : Int × Bool := toldF (mdF n 16777216 1 0).1 (mdF n 16777216 1 0).2 []
theorem ok177 (n : Int) : Ok Tryz.prog 177 [num n] (.tup [num (ofX n).1, tru (ofX n).2]) := by
  refine ok_fn mixed Tryz.func177 (code := ?_) (h := h177) ?_ k177 ?_
  rotate_left
  · exact rfl
  unfold h177 initS
  simp -implicitDefEqProofs (maxSteps := 10000000) only [rkA, rkB, stepA, valA, simprocAttr, Tryz.ntmps177, Tryz.results177]
  refine call_fn rfl rfl rfl (ok113 n 16777216 1 0) ?_
  simp -implicitDefEqProofs (maxSteps := 10000000) only [rkA, rkB, stepA, valA, simprocAttr]
  refine call_fn rfl rfl rfl (ok192_nil _ _) ?_
  simp -implicitDefEqProofs (maxSteps := 10000000) only [rkA, rkB, stepA, valA, simprocAttr, ofX]
def addX (a b : Int) : Int × Bool := if rightX a = true ∧ rightX b = true then toldF (a + b) true [] else (0, false)
def subX (a b : Int) : Int × Bool := if rightX a = true ∧ rightX b = true then toldF (a - b) true [] else (0, false)
theorem ok136 (a b : Int) : Ok Tryz.prog 136 [num a, num b] (.tup [num (addX a b).1, tru (addX a b).2]) := by
  refine ok_fn mixed Tryz.func136 (code := ?_) (h := h136) ?_ k136 ?_
  rotate_left
  · exact rfl
  unfold h136 initS
  simp -implicitDefEqProofs (maxSteps := 10000000) only [rkA, rkB, stepA, valA, simprocAttr, Tryz.ntmps136, Tryz.results136]
  refine call_fn rfl rfl rfl (ok138 a) ?_
  cases ha : rightX a with
  | false =>
    rw [show addX a b = (0, false) from if_neg (by simp [ha])]
    simp -implicitDefEqProofs (maxSteps := 10000000) only [rkA, rkB, stepA, valA, simprocAttr]
  | true =>
    simp -implicitDefEqProofs (maxSteps := 10000000) only [rkA, rkB, stepA, valA, simprocAttr]
    refine call_fn rfl rfl rfl (ok138 b) ?_
    cases hb : rightX b with
    | false =>
      rw [show addX a b = (0, false) from if_neg (by simp [hb])]
      simp -implicitDefEqProofs (maxSteps := 10000000) only [rkA, rkB, stepA, valA, simprocAttr]
    | true =>
      rw [show addX a b = toldF (a + b) true [] from if_pos ⟨ha, hb⟩]
      simp only [rightX, decide_eq_true_eq] at ha hb
      have hw := wrapped (x := a + b) (by omega) (by omega)
      simp -implicitDefEqProofs (maxSteps := 10000000) only [rkA, rkB, stepA, valA, simprocAttr]
      simp -implicitDefEqProofs (maxSteps := 10000000) only [hw, rkA, rkB, stepA, valA, simprocAttr]
      refine call_fn rfl rfl rfl (ok192_nil (a + b) true) ?_
      simp -implicitDefEqProofs (maxSteps := 10000000) only [rkA, rkB, stepA, valA, simprocAttr]
theorem ok261 (a b : Int) : Ok Tryz.prog 261 [num a, num b] (.tup [num (subX a b).1, tru (subX a b).2]) := by
  refine ok_fn mixed Tryz.func261 (code := ?_) (h := h261) ?_ k261 ?_
  rotate_left
  · exact rfl
  unfold h261 initS
  simp -implicitDefEqProofs (maxSteps := 10000000) only [rkA, rkB, stepA, valA, simprocAttr, Tryz.ntmps261, Tryz.results261]
  refine call_fn rfl rfl rfl (ok138 a) ?_
  cases ha : rightX a with
  | false =>
    rw [show subX a b = (0, false) from if_neg (by simp [ha])]
    simp -implicitDefEqProofs (maxSteps := 10000000) only [rkA, rkB, stepA, valA, simprocAttr]
  | true =>
    simp -implicitDefEqProofs (maxSteps := 10000000) only [rkA, rkB, stepA, valA, simprocAttr]
    refine call_fn rfl rfl rfl (ok138 b) ?_
    cases hb : rightX b with
    | false =>
      rw [show subX a b = (0, false) from if_neg (by simp [hb])]
      simp -implicitDefEqProofs (maxSteps := 10000000) only [rkA, rkB, stepA, valA, simprocAttr]
    | true =>
      rw [show subX a b = toldF (a - b) true [] from if_pos ⟨ha, hb⟩]
      simp only [rightX, decide_eq_true_eq] at ha hb
      have hw := wrapped (x := a - b) (by omega) (by omega)
      simp -implicitDefEqProofs (maxSteps := 10000000) only [rkA, rkB, stepA, valA, simprocAttr]
      simp -implicitDefEqProofs (maxSteps := 10000000) only [hw, rkA, rkB, stepA, valA, simprocAttr]
      refine call_fn rfl rfl rfl (ok192_nil (a - b) true) ?_
      simp -implicitDefEqProofs (maxSteps := 10000000) only [rkA, rkB, stepA, valA, simprocAttr]
def mulX (a b mode : Int) : Int × Bool := toldF (mdF a b 16777216 mode).1 (mdF a b 16777216 mode).2 [a, b]
def divX (a b mode : Int) : Int × Bool := toldF (mdF a 16777216 b mode).1 (mdF a 16777216 b mode).2 [a, b]
theorem ok257 (a b mode : Int) : Ok Tryz.prog 257 [num a, num b, num mode] (.tup [num (mulX a b mode).1, tru (mulX a b mode).2]) := by
  refine ok_fn mixed Tryz.func257 (code := ?_) (h := h257) ?_ k257 ?_
  rotate_left
  · exact rfl
  unfold h257 initS
  simp -implicitDefEqProofs (maxSteps := 10000000) only [rkA, rkB, stepA, valA, simprocAttr, Tryz.ntmps257, Tryz.results257]
  refine call_fn rfl rfl rfl (ok113 a b 16777216 mode) ?_
  simp -implicitDefEqProofs (maxSteps := 10000000) only [rkA, rkB, stepA, valA, simprocAttr]
  refine call_fn rfl rfl rfl (ok192 _ _ [a, b] (by simp)) ?_
  simp -implicitDefEqProofs (maxSteps := 10000000) only [rkA, rkB, stepA, valA, simprocAttr, mulX]
theorem ok255 (a b mode : Int) : Ok Tryz.prog 255 [num a, num b, num mode] (.tup [num (divX a b mode).1, tru (divX a b mode).2]) := by
  refine ok_fn mixed Tryz.func255 (code := ?_) (h := h255) ?_ k255 ?_
  rotate_left
  · exact rfl
  unfold h255 initS
  simp -implicitDefEqProofs (maxSteps := 10000000) only [rkA, rkB, stepA, valA, simprocAttr, Tryz.ntmps255, Tryz.results255]
  refine call_fn rfl rfl rfl (ok113 a 16777216 b mode) ?_
  simp -implicitDefEqProofs (maxSteps := 10000000) only [rkA, rkB, stepA, valA, simprocAttr]
  refine call_fn rfl rfl rfl (ok192 _ _ [a, b] (by simp)) ?_
  simp -implicitDefEqProofs (maxSteps := 10000000) only [rkA, rkB, stepA, valA, simprocAttr, divX]
end Go.Proofs.YtambpjbpdackfaaGreat.A



set_option linter.unusedVariables false
set_option linter.unusedSimpArgs false
set_option maxRecDepth 100000
namespace Go.Proofs.YtambpjbpdackfaaGreat.A.E
open Go Go.RowKit Go.Shelf

/-! ### Enclosed numbers -/
structure Fr where
  v : Int
  lo : Int
  hi : Int
  bad : Bool
  deriving DecidableEq
abbrev frV (x : Fr) : PV := .agg [num x.v, num x.lo, num x.hi, tru x.bad]
abbrev Fr.wrong : Fr := ⟨0, 0, 0, true⟩
def Fr.fine (x : Fr) : Bool := !x.bad && (rightX x.lo && (rightX x.hi && (decide (x.lo ≤ x.v) && decide (x.v ≤ x.hi))))
theorem ok111 (x : Fr) : Ok Tryz.prog 111 [frV x] (tru x.fine) := by
  refine ok_fn mixed Tryz.func111 (code := ?_) (h := h111) ?_ k111 ?_
  rotate_left
  · exact rfl
  unfold h111 initS
  simp -implicitDefEqProofs (maxSteps := 10000000) only [rkA, rkB, stepA, valA, simprocAttr, Tryz.ntmps111, Tryz.results111]
  cases hb : x.bad with
  | true => simp -implicitDefEqProofs (maxSteps := 10000000) only [Fr.fine, hb, rkA, rkB, stepA, valA, simprocAttr]
  | false =>
    simp -implicitDefEqProofs (maxSteps := 10000000) only [rkA, rkB, stepA, valA, simprocAttr]
    refine call_fn rfl rfl rfl (ok138 x.lo) ?_
    cases h1 : rightX x.lo with
    | false => simp -implicitDefEqProofs (maxSteps := 10000000) only [Fr.fine, hb, h1, rkA, rkB, stepA, valA, simprocAttr]
    | true =>
      simp -implicitDefEqProofs (maxSteps := 10000000) only [rkA, rkB, stepA, valA, simprocAttr]
      refine call_fn rfl rfl rfl (ok138 x.hi) ?_
      cases h2 : rightX x.hi with
      | false => simp -implicitDefEqProofs (maxSteps := 10000000) only [Fr.fine, hb, h1, h2, rkA, rkB, stepA, valA, simprocAttr]
      | true =>
        simp -implicitDefEqProofs (maxSteps := 10000000) only [rkA, rkB, stepA, valA, simprocAttr]
        by_cases h3 : x.lo ≤ x.v
        · simp -implicitDefEqProofs (maxSteps := 10000000) only [Fr.fine, hb, h1, h2, h3, rkA, rkB, stepA, valA, simprocAttr]
        · simp -implicitDefEqProofs (maxSteps := 10000000) only [Fr.fine, hb, h1, h2, h3, rkA, rkB, stepA, valA, simprocAttr]
theorem ok57 : Ok Tryz.prog 57 [] (frV .wrong) := by
  refine ok_fn mixed Tryz.func57 (code := ?_) (h := h57) ?_ k57 ?_
  rotate_left
  · exact rfl
  unfold h57 initS
  simp -implicitDefEqProofs (maxSteps := 10000000) only [rkA, rkB, stepA, valA, simprocAttr, Tryz.ntmps57, Tryz.results57]
def point (n : Int) : Fr := if rightX n = true then ⟨n, n, n, false⟩ else .wrong
theorem ok64 (n : Int) : Ok Tryz.prog 64 [num n] (frV (point n)) := by
  refine ok_fn mixed Tryz.func64 (code := ?_) (h := h64) ?_ k64 ?_
  rotate_left
  · exact rfl
  unfold h64 initS
  simp -implicitDefEqProofs (maxSteps := 10000000) only [rkA, rkB, stepA, valA, simprocAttr, Tryz.ntmps64, Tryz.results64]
  refine call_fn rfl rfl rfl (ok138 n) ?_
  cases h : rightX n with
  | false =>
    simp -implicitDefEqProofs (maxSteps := 10000000) only [rkA, rkB, stepA, valA, simprocAttr]
    refine call_fn rfl rfl rfl (ok57) ?_
    simp -implicitDefEqProofs (maxSteps := 10000000) only [point, h, rkA, rkB, stepA, valA, simprocAttr]
  | true => simp -implicitDefEqProofs (maxSteps := 10000000) only [point, h, rkA, rkB, stepA, valA, simprocAttr]
/-- A whole number. -/
def newF (n _d : Int) : Fr := if (ofX n).2 = true then point (ofX n).1 else .wrong
theorem ok107 (a : Fr) (n : Int) : Ok Tryz.prog 107 [frV a, num n] (frV (newF n 1)) := by
  refine ok_fn mixed Tryz.func107 (code := ?_) (h := h107) ?_ k107 ?_
  rotate_left
  · exact rfl
  unfold h107 initS
  simp -implicitDefEqProofs (maxSteps := 10000000) only [rkA, rkB, stepA, valA, simprocAttr, Tryz.ntmps107, Tryz.results107]
  refine call_fn rfl rfl rfl (ok177 n) ?_
  simp -implicitDefEqProofs (maxSteps := 10000000) only [rkA, rkB, stepA, valA, simprocAttr]
  cases h : (ofX n).2 with
  | false =>
    simp -implicitDefEqProofs (maxSteps := 10000000) only [rkA, rkB, stepA, valA, simprocAttr]
    refine call_fn rfl rfl rfl (ok57) ?_
    simp -implicitDefEqProofs (maxSteps := 10000000) only [newF, h, rkA, rkB, stepA, valA, simprocAttr]
  | true =>
    simp -implicitDefEqProofs (maxSteps := 10000000) only [rkA, rkB, stepA, valA, simprocAttr]
    refine call_fn rfl rfl rfl (ok64 (ofX n).1) ?_
    simp -implicitDefEqProofs (maxSteps := 10000000) only [newF, h, rkA, rkB, stepA, valA, simprocAttr]

def minL : List Int → Int
  | [] => 0
  | x :: l => l.foldl (fun m y => if y < m then y else m) x
def maxL : List Int → Int
  | [] => 0
  | x :: l => l.foldl (fun m y => if m < y then y else m) x
theorem ok193 (ex : Bool) (l : List Int) (h : l ≠ []) (hl : l.length ≤ 1000) : Ok Tryz.prog 193 [.sl ex (l.map num)] (num (minL l)) := by
  obtain ⟨x, l, rfl⟩ : ∃ x t, l = x :: t := by cases l with | nil => exact absurd rfl h | cons x t => exact ⟨x, t, rfl⟩
  simp only [List.length_cons] at hl
  have c : ¬ (((l.length + 1 : Nat) : Int) < 1) := by omega
  have hlen : ((x :: l).map num).length = l.length + 1 := by simp
  have g0 : ((x :: l).map num)[0]? = some (num x) := rfl
  have hres : minL (x :: l) = l.foldl (fun m y => if y < m then y else m) x := rfl
  generalize hL : (x :: l).map num = L at *
  refine ok_fn mixed Tryz.func193 (code := ?_) (h := h193) ?_ k193 ?_
  rotate_left
  · exact rfl
  unfold h193 initS
  simp -implicitDefEqProofs (maxSteps := 10000000) only [rkA, rkB, stepA, valA, simprocAttr, Tryz.ntmps193, Tryz.results193]
  simp -implicitDefEqProofs (maxSteps := 10000000) only [hlen, c, g0, rkA, rkB, stepA, valA, simprocAttr]
  refine wp_loop (fun m s => ∃ i : Nat, i + m = l.length ∧ s = ⟨[.v (.sl ex L), jk, jk, nt ((l.take i).foldl (fun m y => if y < m then y else m) x), nt ((i + 1 : Nat) : Int), jk, jk, jk, jk, jk, jk, jk, jk, jk, jk, jk, jk, jk, jk, jk, jk, jk, jk, jk, jk], [], [], [], [], 0, nomem⟩) l.length ?_ ?_
  · simp -implicitDefEqProofs (maxSteps := 10000000) only [rkA, rkB, stepA, valA, simprocAttr]
    exact ⟨0, by simp, rfl⟩
  rintro m s ⟨i, hi, rfl⟩
  simp -implicitDefEqProofs (maxSteps := 10000000) only [hlen, rkA, rkB, stepA, valA, simprocAttr]
  refine gB_dec ?_ ?_ <;> intro hc <;> simp -implicitDefEqProofs (maxSteps := 10000000) only [hc, rkA, rkB, stepA, valA, simprocAttr]
  · have hlt : i < l.length := by omega
    have h0 : (0 : Int) ≤ ((i + 1 : Nat) : Int) := by omega
    have hg : L[i + 1]? = some (num l[i]) := by rw [← hL]; simp [hlt]
    have hw := wrapped (x := ((i + 1 : Nat) : Int) + 1) (by omega) (by omega)
    simp -implicitDefEqProofs (maxSteps := 10000000) only [h0, Int.toNat_natCast, hg, rkA, rkB, stepA, valA, simprocAttr]
    simp -implicitDefEqProofs (maxSteps := 10000000) only [hw, rkA, rkB, stepA, valA, simprocAttr]
    refine loopK_of (m' := m - 1) (by omega) ?_
    simp -implicitDefEqProofs (maxSteps := 10000000) only [rkA, rkB, stepA, valA, simprocAttr]
    refine ⟨i + 1, by omega, ?_⟩
    rw [List.take_succ_eq_append_getElem hlt, List.foldl_append]
    simp only [List.foldl_cons, List.foldl_nil, Int.natCast_add, Int.natCast_one]
  · have hin : l.length ≤ i := by omega
    rw [List.take_of_length_le hin, hres]
theorem ok194 (ex : Bool) (l : List Int) (h : l ≠ []) (hl : l.length ≤ 1000) : Ok Tryz.prog 194 [.sl ex (l.map num)] (num (maxL l)) := by
  obtain ⟨x, l, rfl⟩ : ∃ x t, l = x :: t := by cases l with | nil => exact absurd rfl h | cons x t => exact ⟨x, t, rfl⟩
  simp only [List.length_cons] at hl
  have c : ¬ (((l.length + 1 : Nat) : Int) < 1) := by omega
  have hlen : ((x :: l).map num).length = l.length + 1 := by simp
  have g0 : ((x :: l).map num)[0]? = some (num x) := rfl
  have hres : maxL (x :: l) = l.foldl (fun m y => if m < y then y else m) x := rfl
  generalize hL : (x :: l).map num = L at *
  refine ok_fn mixed Tryz.func194 (code := ?_) (h := h194) ?_ k194 ?_
  rotate_left
  · exact rfl
  unfold h194 initS
  simp -implicitDefEqProofs (maxSteps := 10000000) only [rkA, rkB, stepA, valA, simprocAttr, Tryz.ntmps194, Tryz.results194]
  simp -implicitDefEqProofs (maxSteps := 10000000) only [hlen, c, g0, rkA, rkB, stepA, valA, simprocAttr]
  refine wp_loop (fun m s => ∃ i : Nat, i + m = l.length ∧ s = ⟨[.v (.sl ex L), jk, jk, nt ((l.take i).foldl (fun m y => if m < y then y else m) x), nt ((i + 1 : Nat) : Int), jk, jk, jk, jk, jk, jk, jk, jk, jk, jk, jk, jk, jk, jk, jk, jk, jk, jk, jk, jk], [], [], [], [], 0, nomem⟩) l.length ?_ ?_
  · simp -implicitDefEqProofs (maxSteps := 10000000) only [rkA, rkB, stepA, valA, simprocAttr]
    exact ⟨0, by simp, rfl⟩
  rintro m s ⟨i, hi, rfl⟩
  simp -implicitDefEqProofs (maxSteps := 10000000) only [hlen, rkA, rkB, stepA, valA, simprocAttr]
  refine gB_dec ?_ ?_ <;> intro hc <;> simp -implicitDefEqProofs (maxSteps := 10000000) only [hc, rkA, rkB, stepA, valA, simprocAttr]
  · have hlt : i < l.length := by omega
    have h0 : (0 : Int) ≤ ((i + 1 : Nat) : Int) := by omega
    have hg : L[i + 1]? = some (num l[i]) := by rw [← hL]; simp [hlt]
    have hw := wrapped (x := ((i + 1 : Nat) : Int) + 1) (by omega) (by omega)
    simp -implicitDefEqProofs (maxSteps := 10000000) only [h0, Int.toNat_natCast, hg, rkA, rkB, stepA, valA, simprocAttr]
    simp -implicitDefEqProofs (maxSteps := 10000000) only [hw, rkA, rkB, stepA, valA, simprocAttr]
    refine loopK_of (m' := m - 1) (by omega) ?_
    simp -implicitDefEqProofs (maxSteps := 10000000) only [rkA, rkB, stepA, valA, simprocAttr]
    refine ⟨i + 1, by omega, ?_⟩
    rw [List.take_succ_eq_append_getElem hlt, List.foldl_append]
    simp only [List.foldl_cons, List.foldl_nil, Int.natCast_add, Int.natCast_one]
  · have hin : l.length ≤ i := by omega
    rw [List.take_of_length_le hin, hres]

/-! ### What is told of values, and of pairs of bounds -/
abbrev prV (p : Int × Int) : PV := .agg [num p.1, num p.2]
def okP (F : Int → Int → Int → Int × Bool) (p : Int × Int) : Bool := (F p.1 p.2 1).2 && (F p.1 p.2 2).2
def madeE (F : Int → Int → Int → Int × Bool) (a b : Fr) (ps : List (Int × Int)) : Fr :=
  if ((F a.v b.v 0).2 && ps.all (okP F)) = true ∧ a.fine = true ∧ b.fine = true then ⟨(F a.v b.v 0).1, minL (ps.map fun p => (F p.1 p.2 1).1), maxL (ps.map fun p => (F p.1 p.2 2).1), false⟩ else .wrong
theorem ok137 (k : Nat) (F : Int → Int → Int → Int × Bool) (hF : ∀ x y m, Ok Tryz.prog k [num x, num y, num m] (.tup [num (F x y m).1, tru (F x y m).2])) (a b : Fr) (ex : Bool) (ps : List (Int × Int)) (h1 : ps ≠ []) (h2 : ps.length ≤ 4) :
    Ok Tryz.prog 137 [frV a, frV b, .fn (.func k) [], .sl ex (ps.map prV)] (frV (madeE F a b ps)) := by
  have hl : (ps.map prV).length = ps.length := by simp
  refine ok_fn mixed Tryz.func137 (code := ?_) (h := h137) ?_ k137 ?_
  rotate_left
  · exact rfl
  unfold h137 initS
  simp -implicitDefEqProofs (maxSteps := 10000000) only [rkA, rkB, stepA, valA, simprocAttr, Tryz.ntmps137, Tryz.results137]
  refine call_fn rfl rfl rfl (hF a.v b.v 0) ?_
  simp -implicitDefEqProofs (maxSteps := 10000000) only [rkA, rkB, stepA, valA, simprocAttr]
  refine wp_loop (fun m s => ∃ i : Nat, i + m = ps.length ∧ s = ⟨[jk, jk, .v (.fn (.func k) []), jk, .ptr 4 0, .ptr 5 0, jk, jk, .ptr 8 0, nt (F a.v b.v 0).1, .v (tru ((F a.v b.v 0).2 && (ps.take i).all (okP F))), .acc 11 ((ps.take i).map fun p => num (F p.1 p.2 1).1), .acc 12 ((ps.take i).map fun p => num (F p.1 p.2 2).1), jk, jk, jk, jk, jk, jk, jk, jk, jk, jk, jk, jk, jk, jk, jk, .v (.sl ex (ps.map prV)), nt ps.length, nt i, jk, jk, jk, jk, jk, jk, jk, jk, jk, jk, jk, jk, jk, jk, jk, jk, jk, jk, jk, jk, jk, jk, jk, jk, jk, jk, jk, jk, jk, jk, jk, jk, jk, jk, jk, jk, jk, jk, jk, jk, jk, jk, jk, jk, jk, jk, jk, jk, jk, jk, jk, jk, jk, jk, jk, jk],
    [(4, [nt a.v, nt a.lo, nt a.hi, .v (tru a.bad)]), (5, [nt b.v, nt b.lo, nt b.hi, .v (tru b.bad)]), (8, [nt 0, nt 0, nt 0, .v (tru false)])], [], [(11, i), (12, i)], [], 0, nomem⟩) ps.length ?_ ?_
  · simp -implicitDefEqProofs (maxSteps := 10000000) only [hl, rkA, rkB, stepA, valA, simprocAttr]
    refine ⟨0, by simp, ?_⟩
    simp
  rintro m s ⟨i, hi, rfl⟩
  simp -implicitDefEqProofs (maxSteps := 10000000) only [rkA, rkB, stepA, valA, simprocAttr]
  refine gB_dec ?_ ?_ <;> intro hc <;> simp -implicitDefEqProofs (maxSteps := 10000000) only [hc, rkA, rkB, stepA, valA, simprocAttr]
  · have hlt : i < ps.length := by omega
    have h0 : (0 : Int) ≤ (i : Int) := by omega
    have hg : (ps.map prV)[i]? = some (prV ps[i]) := by simp [hlt]
    simp -implicitDefEqProofs (maxSteps := 10000000) only [h0, Int.toNat_natCast, hg, rkA, rkB, stepA, valA, simprocAttr]
    refine call_fn rfl rfl rfl (hF ps[i].1 ps[i].2 1) ?_
    simp -implicitDefEqProofs (maxSteps := 10000000) only [rkA, rkB, stepA, valA, simprocAttr]
    refine call_fn rfl rfl rfl (hF ps[i].1 ps[i].2 2) ?_
    simp -implicitDefEqProofs (maxSteps := 10000000) only [rkA, rkB, stepA, valA, simprocAttr]
    have f1 : fits 1 8 ((ps.take i).map fun p => num (F p.1 p.2 1).1) [num (F ps[i].1 ps[i].2 1).1] = true := by
      have := fits_num (k := (ps.take i).map fun p => (F p.1 p.2 1).1) (l := [(F ps[i].1 ps[i].2 1).1]) (by simp; omega)
      simpa [Function.comp_def] using this
    have f2 : fits 1 8 ((ps.take i).map fun p => num (F p.1 p.2 2).1) [num (F ps[i].1 ps[i].2 2).1] = true := by
      have := fits_num (k := (ps.take i).map fun p => (F p.1 p.2 2).1) (l := [(F ps[i].1 ps[i].2 2).1]) (by simp; omega)
      simpa [Function.comp_def] using this
    have l1 : ((ps.take i).map fun p => num (F p.1 p.2 1).1).length = i := by simp; omega
    have l2 : ((ps.take i).map fun p => num (F p.1 p.2 2).1).length = i := by simp; omega
    have hw := wrapped (x := (i : Int) + 1) (by omega) (by omega)
    have hall : (ps.take (i + 1)).all (okP F) = ((ps.take i).all (okP F) && ((F ps[i].1 ps[i].2 1).2 && (F ps[i].1 ps[i].2 2).2)) := by
      rw [List.take_succ_eq_append_getElem hlt, List.all_append]
      simp [okP]
    have hnew : ((F a.v b.v 0).2 && (ps.take (i + 1)).all (okP F)) = (((F a.v b.v 0).2 && (ps.take i).all (okP F)) && ((F ps[i].1 ps[i].2 1).2 && (F ps[i].1 ps[i].2 2).2)) := by rw [hall, Bool.and_assoc]
    clear hall
    generalize ((F a.v b.v 0).2 && (ps.take i).all (okP F)) = b0 at *
    have htk := List.take_succ_eq_append_getElem hlt
    generalize (F ps[i].1 ps[i].2 1).2 = b1 at *
    generalize (F ps[i].1 ps[i].2 2).2 = b2 at *
    cases b0 with
    | false =>
      simp -implicitDefEqProofs (maxSteps := 10000000) only [f1, f2, l1, l2, rkA, rkB, stepA, valA, simprocAttr]
      simp -implicitDefEqProofs (maxSteps := 10000000) only [hw, rkA, rkB, stepA, valA, simprocAttr]
      refine loopK_of (m' := m - 1) (by omega) ?_
      simp -implicitDefEqProofs (maxSteps := 10000000) only [rkA, rkB, stepA, valA, simprocAttr]
      refine ⟨i + 1, by omega, ?_⟩
      rw [hnew, htk]
      simp only [Bool.false_and, Bool.true_and, List.map_append, List.map_cons, List.map_nil, Int.natCast_add, Int.natCast_one]
    | true =>
      cases b1 with
      | false =>
        simp -implicitDefEqProofs (maxSteps := 10000000) only [f1, f2, l1, l2, rkA, rkB, stepA, valA, simprocAttr]
        simp -implicitDefEqProofs (maxSteps := 10000000) only [hw, rkA, rkB, stepA, valA, simprocAttr]
        refine loopK_of (m' := m - 1) (by omega) ?_
        simp -implicitDefEqProofs (maxSteps := 10000000) only [rkA, rkB, stepA, valA, simprocAttr]
        refine ⟨i + 1, by omega, ?_⟩
        rw [hnew, htk]
        simp only [Bool.false_and, Bool.true_and, List.map_append, List.map_cons, List.map_nil, Int.natCast_add, Int.natCast_one]
      | true =>
        simp -implicitDefEqProofs (maxSteps := 10000000) only [f1, f2, l1, l2, rkA, rkB, stepA, valA, simprocAttr]
        simp -implicitDefEqProofs (maxSteps := 10000000) only [hw, rkA, rkB, stepA, valA, simprocAttr]
        refine loopK_of (m' := m - 1) (by omega) ?_
        simp -implicitDefEqProofs (maxSteps := 10000000) only [rkA, rkB, stepA, valA, simprocAttr]
        refine ⟨i + 1, by omega, ?_⟩
        rw [hnew, htk]
        simp only [Bool.false_and, Bool.true_and, List.map_append, List.map_cons, List.map_nil, Int.natCast_add, Int.natCast_one]
  · have hin : i = ps.length := by omega
    subst hin
    simp only [List.take_length]
    have m1 : (ps.map fun p => num (F p.1 p.2 1).1) = (ps.map fun p => (F p.1 p.2 1).1).map num := by simp
    have m2 : (ps.map fun p => num (F p.1 p.2 2).1) = (ps.map fun p => (F p.1 p.2 2).1).map num := by simp
    have n1 : (ps.map fun p => (F p.1 p.2 1).1) ≠ [] := by simpa using h1
    have n2 : (ps.map fun p => (F p.1 p.2 2).1) ≠ [] := by simpa using h1
    have k1 : (ps.map fun p => (F p.1 p.2 1).1).length ≤ 1000 := by simp; omega
    have k2 : (ps.map fun p => (F p.1 p.2 2).1).length ≤ 1000 := by simp; omega
    rw [m1, m2]
    have hres : madeE F a b ps = if ((F a.v b.v 0).2 && ps.all (okP F)) = true ∧ a.fine = true ∧ b.fine = true then ⟨(F a.v b.v 0).1, minL (ps.map fun p => (F p.1 p.2 1).1), maxL (ps.map fun p => (F p.1 p.2 2).1), false⟩ else .wrong := rfl
    generalize ((F a.v b.v 0).2 && ps.all (okP F)) = b0 at *
    cases b0 with
    | false =>
      rw [hres, if_neg (by simp)]
      simp -implicitDefEqProofs (maxSteps := 10000000) only [rkA, rkB, stepA, valA, simprocAttr]
      refine call_fn rfl rfl rfl (ok57) ?_
      simp -implicitDefEqProofs (maxSteps := 10000000) only [rkA, rkB, stepA, valA, simprocAttr]
    | true =>
      simp -implicitDefEqProofs (maxSteps := 10000000) only [rkA, rkB, stepA, valA, simprocAttr]
      refine call_fn rfl rfl rfl (ok111 a) ?_
      cases ha : a.fine with
      | false =>
        rw [hres, if_neg (by simp [ha])]
        simp -implicitDefEqProofs (maxSteps := 10000000) only [rkA, rkB, stepA, valA, simprocAttr]
        refine call_fn rfl rfl rfl (ok57) ?_
        simp -implicitDefEqProofs (maxSteps := 10000000) only [rkA, rkB, stepA, valA, simprocAttr]
      | true =>
        simp -implicitDefEqProofs (maxSteps := 10000000) only [rkA, rkB, stepA, valA, simprocAttr]
        refine call_fn rfl rfl rfl (ok111 b) ?_
        cases hb : b.fine with
        | false =>
          rw [hres, if_neg (by simp [hb])]
          simp -implicitDefEqProofs (maxSteps := 10000000) only [rkA, rkB, stepA, valA, simprocAttr]
          refine call_fn rfl rfl rfl (ok57) ?_
          simp -implicitDefEqProofs (maxSteps := 10000000) only [rkA, rkB, stepA, valA, simprocAttr]
        | true =>
          rw [hres, if_pos ⟨rfl, ha, hb⟩]
          simp -implicitDefEqProofs (maxSteps := 10000000) only [rkA, rkB, stepA, valA, simprocAttr]
          refine call_fn rfl rfl rfl (ok193 _ _ n1 k1) ?_
          simp -implicitDefEqProofs (maxSteps := 10000000) only [rkA, rkB, stepA, valA, simprocAttr]
          refine call_fn rfl rfl rfl (ok194 _ _ n2 k2) ?_
          simp -implicitDefEqProofs (maxSteps := 10000000) only [rkA, rkB, stepA, valA, simprocAttr]

/-! ### Sums, products .. -/
def allP (a b : Fr) : List (Int × Int) := [(a.lo, b.lo), (a.lo, b.hi), (a.hi, b.lo), (a.hi, b.hi)]
def addF (a b : Fr) : Fr := madeE (fun x y _ => addX x y) a b [(a.lo, b.lo), (a.hi, b.hi)]
def subF (a b : Fr) : Fr := madeE (fun x y _ => subX x y) a b [(a.lo, b.hi), (a.hi, b.lo)]
def mulF (a b : Fr) : Fr := madeE mulX a b (allP a b)
def divF (a b : Fr) : Fr := if b.lo ≤ 0 ∧ b.hi ≥ 0 then .wrong else madeE divX a b (allP a b)
theorem ok256 (a b : Fr) : Ok Tryz.prog 256 [frV a, frV b] (.sl true ((allP a b).map prV)) := by
  refine ok_fn mixed Tryz.func256 (code := ?_) (h := h256) ?_ k256 ?_
  rotate_left
  · exact rfl
  unfold h256 initS
  simp -implicitDefEqProofs (maxSteps := 10000000) only [rkA, rkB, stepA, valA, simprocAttr, Tryz.ntmps256, Tryz.results256]
  rfl
theorem ok135 (x y m : Int) : Ok Tryz.prog 135 [num x, num y, num m] (.tup [num (addX x y).1, tru (addX x y).2]) := by
  refine ok_fn mixed Tryz.func135 (code := ?_) (h := h135) ?_ k135 ?_
  rotate_left
  · exact rfl
  unfold h135 initS
  simp -implicitDefEqProofs (maxSteps := 10000000) only [rkA, rkB, stepA, valA, simprocAttr, Tryz.ntmps135, Tryz.results135]
  refine call_fn rfl rfl rfl (ok136 x y) ?_
  simp -implicitDefEqProofs (maxSteps := 10000000) only [rkA, rkB, stepA, valA, simprocAttr]
theorem ok260 (x y m : Int) : Ok Tryz.prog 260 [num x, num y, num m] (.tup [num (subX x y).1, tru (subX x y).2]) := by
  refine ok_fn mixed Tryz.func260 (code := ?_) (h := h260) ?_ k260 ?_
  rotate_left
  · exact rfl
  unfold h260 initS
  simp -implicitDefEqProofs (maxSteps := 10000000) only [rkA, rkB, stepA, valA, simprocAttr, Tryz.ntmps260, Tryz.results260]
  refine call_fn rfl rfl rfl (ok261 x y) ?_
  simp -implicitDefEqProofs (maxSteps := 10000000) only [rkA, rkB, stepA, valA, simprocAttr]
theorem ok63 (a b : Fr) : Ok Tryz.prog 63 [frV a, frV b] (frV (addF a b)) := by
  have h := ok137 _ _ (fun x y m => ok135 x y m) a b true [(a.lo, b.lo), (a.hi, b.hi)] (by simp) (by simp)
  refine ok_fn mixed Tryz.func63 (code := ?_) (h := h63) ?_ k63 ?_
  rotate_left
  · exact rfl
  unfold h63 initS
  simp -implicitDefEqProofs (maxSteps := 10000000) only [rkA, rkB, stepA, valA, simprocAttr, Tryz.ntmps63, Tryz.results63]
  refine call_fn rfl rfl rfl (h) ?_
  simp -implicitDefEqProofs (maxSteps := 10000000) only [rkA, rkB, stepA, valA, simprocAttr, addF]
theorem ok254 (a b : Fr) : Ok Tryz.prog 254 [frV a, frV b] (frV (subF a b)) := by
  have h := ok137 _ _ (fun x y m => ok260 x y m) a b true [(a.lo, b.hi), (a.hi, b.lo)] (by simp) (by simp)
  refine ok_fn mixed Tryz.func254 (code := ?_) (h := h254) ?_ k254 ?_
  rotate_left
  · exact rfl
  unfold h254 initS
  simp -implicitDefEqProofs (maxSteps := 10000000) only [rkA, rkB, stepA, valA, simprocAttr, Tryz.ntmps254, Tryz.results254]
  refine call_fn rfl rfl rfl (h) ?_
  simp -implicitDefEqProofs (maxSteps := 10000000) only [rkA, rkB, stepA, valA, simprocAttr, subF]
theorem ok250 (a b : Fr) : Ok Tryz.prog 250 [frV a, frV b] (frV (mulF a b)) := by
  have h := ok137 _ _ ok257 a b true (allP a b) (by simp [allP]) (by simp [allP])
  refine ok_fn mixed Tryz.func250 (code := ?_) (h := h250) ?_ k250 ?_
  rotate_left
  · exact rfl
  unfold h250 initS
  simp -implicitDefEqProofs (maxSteps := 10000000) only [rkA, rkB, stepA, valA, simprocAttr, Tryz.ntmps250, Tryz.results250]
  refine call_fn rfl rfl rfl (ok256 a b) ?_
  simp -implicitDefEqProofs (maxSteps := 10000000) only [rkA, rkB, stepA, valA, simprocAttr]
  refine call_fn rfl rfl rfl (h) ?_
  simp -implicitDefEqProofs (maxSteps := 10000000) only [rkA, rkB, stepA, valA, simprocAttr, mulF]
theorem ok249 (a b : Fr) : Ok Tryz.prog 249 [frV a, frV b] (frV (divF a b)) := by
  have h := ok137 _ _ ok255 a b true (allP a b) (by simp [allP]) (by simp [allP])
  refine ok_fn mixed Tryz.func249 (code := ?_) (h := h249) ?_ k249 ?_
  rotate_left
  · exact rfl
  unfold h249 initS
  simp -implicitDefEqProofs (maxSteps := 10000000) only [rkA, rkB, stepA, valA, simprocAttr, Tryz.ntmps249, Tryz.results249]
  by_cases h1 : b.lo ≤ 0
  · by_cases h2 : b.hi ≥ 0
    · simp -implicitDefEqProofs (maxSteps := 10000000) only [h1, h2, rkA, rkB, stepA, valA, simprocAttr]
      refine call_fn rfl rfl rfl (ok57) ?_
      simp -implicitDefEqProofs (maxSteps := 10000000) only [divF, h1, h2, rkA, rkB, stepA, valA, simprocAttr]
    · simp -implicitDefEqProofs (maxSteps := 10000000) only [h1, h2, rkA, rkB, stepA, valA, simprocAttr]
      refine call_fn rfl rfl rfl (ok256 a b) ?_
      simp -implicitDefEqProofs (maxSteps := 10000000) only [rkA, rkB, stepA, valA, simprocAttr]
      refine call_fn rfl rfl rfl (h) ?_
      simp -implicitDefEqProofs (maxSteps := 10000000) only [divF, h2, rkA, rkB, stepA, valA, simprocAttr]
  · simp -implicitDefEqProofs (maxSteps := 10000000) only [h1, rkA, rkB, stepA, valA, simprocAttr]
    refine call_fn rfl rfl rfl (ok256 a b) ?_
    simp -implicitDefEqProofs (maxSteps := 10000000) only [rkA, rkB, stepA, valA, simprocAttr]
    refine call_fn rfl rfl rfl (h) ?_
    simp -implicitDefEqProofs (maxSteps := 10000000) only [divF, h1, rkA, rkB, stepA, valA, simprocAttr]
end Go.Proofs.YtambpjbpdackfaaGreat.A.E


set_option linter.unusedVariables false
set_option linter.unusedSimpArgs false
set_option maxRecDepth 100000
namespace Go.Proofs.YtambpjbpdackfaaGreat.A.E
open Go Go.RowKit Go.Shelf

theorem ok143 (n : Int) : Ok Tryz.prog 143 [num n] (tru (decide (1 ≤ n ∧ n ≤ 16))) := by
  refine ok_fn mixed Tryz.func143 (code := ?_) (h := h143) ?_ k143 ?_
  rotate_left
  · exact rfl
  unfold h143 initS
  simp -implicitDefEqProofs only [rkA, rkB, stepA, valA, simprocAttr, Tryz.ntmps143, Tryz.results143]
  repeat' (refine gB_dec ?_ ?_ <;> intro hc <;> first | (exfalso; omega) | simp -implicitDefEqProofs only [hc, rkA, rkB, stepA, valA, simprocAttr])

end Go.Proofs.YtambpjbpdackfaaGreat.A.E


set_option linter.unusedVariables false
set_option linter.unusedSimpArgs false
set_option maxRecDepth 100000
namespace Go.Proofs.YtambpjbpdackfaaGreat.A.E
open Go Go.RowKit Go.Shelf

abbrev frs (l : List Fr) : List PV := l.map frV

theorem fits_frs {k l : List Fr} (h : k.length + l.length ≤ 4398046511104) : fits 4 32 (frs k) (frs l) = true := by
  simp [fits, PV.cells, PV.ok, PV.cell, Value.oneCell']
  omega

theorem ok71 (ex : Bool) (l : List Fr) (h : l.length ≤ 4398046511104) : Ok Tryz.prog 71 [.sl ex (frs l)] (.sl false (frs l)) := by
  have hfit : fits 4 32 [] (frs l) = true := fits_frs (k := []) (l := l) (by simpa using h)
  refine ok_fn mixed Tryz.func71 (code := ?_) (h := h71) ?_ k71 ?_
  rotate_left
  · exact rfl
  unfold h71 initS
  simp -implicitDefEqProofs only [rkA, rkB, stepA, valA, simprocAttr, Tryz.ntmps71, Tryz.results71]
  refine nilA_sl (some 4) (.tmp 3) rfl ?_
  intro b hb
  cases b with
  | true =>
    simp -implicitDefEqProofs only [rkA, rkB, stepA, valA, simprocAttr]
    have : l = [] := by
      cases l with
      | nil => rfl
      | cons x l => simp at hb
    subst this
    simp
  | false =>
    simp -implicitDefEqProofs only [hfit, rkA, rkB, stepA, valA, simprocAttr]

theorem ok72 (ex : Bool) (r c : Int) (l : List PV) : Ok Tryz.prog 72 [matV ex r c l] (tru (right r c l.length)) := by
  refine ok_fn mixed Tryz.func72 (code := ?_) (h := h72) ?_ k72 ?_
  rotate_left
  · exact rfl
  unfold h72 initS
  simp -implicitDefEqProofs only [rkA, rkB, stepA, valA, simprocAttr, Tryz.ntmps72, Tryz.results72]
  refine call_fn rfl rfl rfl (ok143 r) ?_
  by_cases hr : 1 ≤ r ∧ r ≤ 16
  · simp -implicitDefEqProofs only [hr, rkA, rkB, stepA, valA, simprocAttr]
    refine call_fn rfl rfl rfl (ok143 c) ?_
    by_cases hc : 1 ≤ c ∧ c ≤ 16
    · have hm : 0 ≤ r * c ∧ r * c ≤ 256 := by
        have h1 : (r * c).natAbs = r.natAbs * c.natAbs := Int.natAbs_mul r c
        have h2 : r.natAbs * c.natAbs ≤ 16 * 16 := Nat.mul_le_mul (by omega) (by omega)
        have h3 : 0 ≤ r * c := Int.mul_nonneg (by omega) (by omega)
        omega
      have w := wrapped (x := r * c) (by omega) (by omega)
      simp -implicitDefEqProofs only [hc, w, rkA, rkB, stepA, valA, simprocAttr]
      simp [right, hr, hc]
    · simp -implicitDefEqProofs only [hc, rkA, rkB, stepA, valA, simprocAttr]
      simp [right, hr, hc]
  · simp -implicitDefEqProofs only [hr, rkA, rkB, stepA, valA, simprocAttr]
    simp [right, hr]

theorem ok17 (r c : Int) (ex : Bool) (l : List Fr) (h : l.length ≤ 4398046511104) :
    Ok Tryz.prog 17 [num r, num c, .sl ex (frs l)] (if right r c l.length = true then .tup [matV false r c (frs l), tru true] else .tup [matNil, tru false]) := by
  refine ok_fn mixed Tryz.func17 (code := ?_) (h := h17) ?_ k17 ?_
  rotate_left
  · exact rfl
  unfold h17 initS
  simp -implicitDefEqProofs only [rkA, rkB, stepA, valA, simprocAttr, Tryz.ntmps17, Tryz.results17]
  refine call_fn rfl rfl rfl (ok71 ex l h) ?_
  simp -implicitDefEqProofs only [rkA, rkB, stepA, valA, simprocAttr]
  refine call_fn rfl rfl rfl (ok72 false r c (frs l)) ?_
  have e : (frs l).length = l.length := by simp
  rw [e]
  cases hr : right r c l.length with
  | true => simp -implicitDefEqProofs only [rkA, rkB, stepA, valA, simprocAttr]
  | false => simp -implicitDefEqProofs only [rkA, rkB, stepA, valA, simprocAttr]

theorem methOf : Meth Tryz.prog 28 "Of" 107 := by
  intro v xs w
  rfl

theorem ok86 (ex : Bool) (xs : List Int) (h : xs.length ≤ 4398046511104) : Ok Tryz.prog 86 [.sl ex (xs.map num)] (.sl false (frs (xs.map (newF · 1)))) := by
  refine ok_fn mixed Tryz.func86 (code := ?_) (h := h86) ?_ k86 ?_
  rotate_left
  · exact rfl
  unfold h86 initS
  simp -implicitDefEqProofs only [rkA, rkB, stepA, valA, simprocAttr, Tryz.ntmps86, Tryz.results86]
  refine wp_loop (fun m s => ∃ i, i + m = xs.length ∧ s = ⟨[jk, jk, jk, .acc 3 (frs ((xs.take i).map (newF · 1))), .ptr 4 0, jk, jk, .v (.sl ex (xs.map num)), nt xs.length, nt i, jk, jk, jk, jk, jk, jk, jk, jk, jk, jk, jk, jk],
    [(4, [nt 0, nt 0, nt 0, .v (tru false)])], [], [(2, 0), (3, i)], [], 0, nomem⟩) xs.length ?_ ?_
  · simp -implicitDefEqProofs only [rkA, rkB, stepA, valA, simprocAttr]
    refine ⟨0, by simp, ?_⟩
    simp
  rintro m s ⟨i, hi, rfl⟩
  simp -implicitDefEqProofs only [rkA, rkB, stepA, valA, simprocAttr]
  refine gB_dec ?_ ?_ <;> intro hc <;> simp -implicitDefEqProofs only [hc, rkA, rkB, stepA, valA, simprocAttr]
  · have hlt : i < xs.length := by omega
    have h0 : (0 : Int) ≤ (i : Int) := by omega
    have hg : (xs.map num)[i]? = some (num xs[i]) := by simp [hlt]
    simp -implicitDefEqProofs only [h0, Int.toNat_natCast, hg, rkA, rkB, stepA, valA, simprocAttr]
    refine call_meth rfl rfl methOf (ok107 ⟨0, 0, 0, false⟩ xs[i]) ?_
    have hfit : fits 4 32 (frs ((xs.take i).map (newF · 1))) [frV (newF xs[i] 1)] = true := fits_frs (l := [newF xs[i] 1]) (by simp; omega)
    have hw := wrapped (x := (i : Int) + 1) (by omega) (by omega)
    have hl : (frs ((xs.take i).map (newF · 1))).length = i := by simp; omega
    simp -implicitDefEqProofs only [hfit, hl, hw, rkA, rkB, stepA, valA, simprocAttr]
    refine loopK_of (m' := m - 1) (by omega) ?_
    simp -implicitDefEqProofs only [rkA, rkB, stepA, valA, simprocAttr]
    refine ⟨i + 1, by omega, ?_⟩
    rw [List.take_succ_eq_append_getElem hlt]
    simp only [frs, List.map_append, List.map_cons, List.map_nil, Int.natCast_add, Int.natCast_one]
  · have : xs.length ≤ i := by omega
    rw [List.take_of_length_le this]

theorem ok84 (r c : Int) (ex : Bool) (xs : List Int) (h : xs.length ≤ 4398046511104) :
    Ok Tryz.prog 84 [num r, num c, .sl ex (xs.map num)] (if right r c xs.length = true then .tup [matV false r c (frs (xs.map (newF · 1))), tru true] else .tup [matNil, tru false]) := by
  refine ok_fn mixed Tryz.func84 (code := ?_) (h := h84) ?_ k84 ?_
  rotate_left
  · exact rfl
  unfold h84 initS
  simp -implicitDefEqProofs only [rkA, rkB, stepA, valA, simprocAttr, Tryz.ntmps84, Tryz.results84]
  refine call_fn rfl rfl rfl (ok86 ex xs h) ?_
  simp -implicitDefEqProofs only [rkA, rkB, stepA, valA, simprocAttr]
  refine call_fn rfl rfl rfl (ok17 r c false (xs.map (newF · 1)) (by simpa using h)) ?_
  simp only [List.length_map]
  cases hr : right r c xs.length with
  | true => simp -implicitDefEqProofs only [rkA, rkB, stepA, valA, simprocAttr]
  | false => simp -implicitDefEqProofs only [rkA, rkB, stepA, valA, simprocAttr]

/-- What stands in a row, or 0 fraction. -/
def atF (r c : Int) (l : List Fr) (i k : Int) : Fr := if right r c l.length = true ∧ 0 ≤ i ∧ i < r ∧ 0 ≤ k ∧ k < c then l.getD (i * c + k).toNat ⟨0, 0, 0, false⟩ else ⟨0, 0, 0, false⟩

theorem ok89 (ex : Bool) (r c i k : Int) (l : List Fr) : Ok Tryz.prog 89 [matV ex r c (frs l), num i, num k] (frV (atF r c l i k)) := by
  refine ok_fn mixed Tryz.func89 (code := ?_) (h := h89) ?_ k89 ?_
  rotate_left
  · exact rfl
  unfold h89 initS
  simp -implicitDefEqProofs only [rkA, rkB, stepA, valA, simprocAttr, Tryz.ntmps89, Tryz.results89]
  refine call_fn rfl rfl rfl (ok72 ex r c (frs l)) ?_
  have e : (frs l).length = l.length := by simp
  rw [e]
  cases hr : right r c l.length with
  | false =>
    simp -implicitDefEqProofs only [rkA, rkB, stepA, valA, simprocAttr]
    simp [atF, hr]
  | true =>
    obtain ⟨r1, r2, c1, c2, hn⟩ := right_spec hr
    simp -implicitDefEqProofs only [rkA, rkB, stepA, valA, simprocAttr]
    repeat' (refine gB_dec ?_ ?_ <;> intro hc <;> first | (exfalso; omega) | simp -implicitDefEqProofs only [hc, rkA, rkB, stepA, valA, simprocAttr])
    · rw [show atF r c l i k = ⟨0, 0, 0, false⟩ from if_neg (fun ⟨_, _, _, _, _⟩ => by omega)]
    · rw [show atF r c l i k = ⟨0, 0, 0, false⟩ from if_neg (fun ⟨_, _, _, _, _⟩ => by omega)]
    · rw [show atF r c l i k = ⟨0, 0, 0, false⟩ from if_neg (fun ⟨_, _, _, _, _⟩ => by omega)]
    · rw [show atF r c l i k = ⟨0, 0, 0, false⟩ from if_neg (fun ⟨_, _, _, _, _⟩ => by omega)]
    · obtain ⟨b1, b2, b3, b4, b5⟩ := at_bound (i := i) (k := k) r2 ⟨c1, c2⟩ (by omega) (by omega)
      have w1 := wrapped (x := i * c) (by omega) (by omega)
      have w2 := wrapped (x := i * c + k) (by omega) (by omega)
      have hlt : (i * c + k).toNat < l.length := by omega
      have hg : (frs l)[(i * c + k).toNat]? = some (frV l[(i * c + k).toNat]) := by simp [hlt]
      have ha : atF r c l i k = l[(i * c + k).toNat] := by
        unfold atF
        rw [if_pos ⟨hr, by omega, by omega, by omega, by omega⟩, List.getD_eq_getElem?_getD, List.getElem?_eq_getElem hlt]
        rfl
      simp -implicitDefEqProofs only [w1, w2, b2, hg, ha, rkA, rkB, stepA, valA, simprocAttr]
end Go.Proofs.YtambpjbpdackfaaGreat.A.E


set_option linter.unusedVariables false
set_option linter.unusedSimpArgs false
set_option maxRecDepth 100000
namespace Go.Proofs.YtambpjbpdackfaaGreat.A
open Go Go.RowKit Go.Shelf

end Go.Proofs.YtambpjbpdackfaaGreat.A


set_option linter.unusedVariables false
set_option linter.unusedSimpArgs false
set_option maxRecDepth 100000
namespace Go.Proofs.YtambpjbpdackfaaGreat.A
open Go Go.RowKit Go.Shelf

theorem methSub : Meth Tryz.prog 47 "Sub" 272 := by
  intro v xs w
  rfl

theorem right_le {r c : Int} {n : Nat} (h : right r c n = true) : n ≤ 256 := by
  obtain ⟨r1, r2, c1, c2, hn⟩ := right_spec h
  have : r * c ≤ 16 * 16 := Int.mul_le_mul r2 c2 (by omega) (by omega)
  omega

/-! ### Beside -/
def besP (r c c2 : Int) (a b : List Fr) (n : Nat) : List Fr := (List.range n).flatMap fun (i : Nat) => rowF r c a (i : Int) ++ rowF r c2 b (i : Int)
def besF (r c c2 : Int) (a b : List Fr) : List Fr := besP r c c2 a b r.toNat
theorem besP_succ (r c c2 : Int) (a b : List Fr) (n : Nat) : besP r c c2 a b (n + 1) = besP r c c2 a b n ++ rowF r c a (n : Int) ++ rowF r c2 b (n : Int) := by
  simp [besP, List.range_succ]
theorem rowF_len {r c : Int} {l : List Fr} (h : right r c l.length = true) {i : Nat} (hi : i < r.toNat) : (rowF r c l i).length = c.toNat := by
  rw [rowF_eq ⟨0, 0, false⟩ h hi]
  simp
theorem besP_length {r c c2 : Int} {a b : List Fr} (h : right r c a.length = true) (h2 : right r c2 b.length = true) : ∀ n, n ≤ r.toNat → (besP r c c2 a b n).length = n * (c.toNat + c2.toNat)
  | 0, _ => by simp [besP]
  | n + 1, hn => by
    rw [besP_succ, List.length_append, List.length_append, besP_length h h2 n (by omega), rowF_len h (by omega), rowF_len h2 (by omega), Nat.add_mul]
    omega
theorem right_bes {r c c2 : Int} {a b : List Fr} (h : right r c a.length = true) (h2 : right r c2 b.length = true) : right r (c + c2) (besF r c c2 a b).length = decide (c + c2 ≤ 16) := by
  obtain ⟨r1, r2, c1, c3, hn⟩ := right_spec h
  obtain ⟨_, _, d1, d2, hn2⟩ := right_spec h2
  have hl := besP_length h h2 r.toNat (Nat.le_refl _)
  have e1 : ((r.toNat * (c.toNat + c2.toNat) : Nat) : Int) = r * (c + c2) := by
    rw [Int.natCast_mul, Int.natCast_add, Int.toNat_of_nonneg (by omega), Int.toNat_of_nonneg (by omega), Int.toNat_of_nonneg (by omega)]
  have e2 : (((besF r c c2 a b).length : Int) == r * (c + c2)) = true := by
    rw [besF, hl, e1]
    simp
  have e3 : decide (1 ≤ r ∧ r ≤ 16) = true := by simp; omega
  simp only [right, e2, e3, Bool.true_and, Bool.and_true]
  congr 1
  simp only [eq_iff_iff]
  omega

/-! ### Mirrored -/
def mirF (r : Int) (l : List Fr) : List Fr := gridP (fun i k => atF r r l (max i k : Nat) (min i k : Nat)) r.toNat r.toNat 0
/-! ### Alike -/
end Go.Proofs.YtambpjbpdackfaaGreat.A


set_option linter.unusedVariables false
set_option linter.unusedSimpArgs false
set_option maxRecDepth 100000
namespace Go.Proofs.YtambpjbpdackfaaGreat.A
open Go Go.RowKit Go.Shelf

theorem grid_of {α : Type} {g : Nat → Nat → α} {n N : Nat} {l : List α} (hl : l.length = N * n) (h : ∀ i k, i < N → k < n → l[i * n + k]? = some (g i k)) : l = gridP g n N 0 := by
  have hg := gridP_length g n N 0
  apply List.ext_getElem?
  intro j
  by_cases hj : j < N * n
  · have hn : 0 < n := by
      rcases Nat.eq_zero_or_pos n with h0 | h0
      · subst h0; simp at hj
      · exact h0
    have h1 : j / n < N := Nat.div_lt_of_lt_mul (by rwa [Nat.mul_comm] at hj)
    have h2 : j % n < n := Nat.mod_lt _ hn
    have h3 : j / n * n + j % n = j := by rw [Nat.mul_comm]; exact Nat.div_add_mod j n
    have e1 := h _ _ h1 h2
    have e2 := gridP_get g n N _ _ h1 h2
    rw [h3] at e1 e2
    rw [e1, e2]
  · rw [List.getElem?_eq_none (by omega), List.getElem?_eq_none (by omega)]
theorem gridP_congr {α : Type} {g f : Nat → Nat → α} {n N : Nat} (h : ∀ i k, i < N → k < n → g i k = f i k) : gridP g n N 0 = gridP f n N 0 := by
  rw [gridP_zero, gridP_zero]
  apply flatMap_same
  intro i hi
  apply List.map_congr_left
  intro k hk
  exact h i k (List.mem_range.1 hi) (List.mem_range.1 hk)

theorem sl_num {ex : Bool} {l : List Int} {a b : Nat} (h1 : a ≤ b) (h2 : b ≤ l.length) : sliceA 1 (l.map num) ex (some a) (some b) none = some (.sl (exA none ex b (l.map num).length) (((l.take b).drop a).map num)) := by
  unfold sliceA
  simp only [Option.getD_some]
  rw [if_pos ⟨h1, by simpa using h2, by simp, by simp [PV.cells]⟩]
  simp

section
variable (a b : List Int) (R K : Nat)
end

section
variable {a b : List Int} {R K : Nat}
theorem right_nat (hR : 1 ≤ R ∧ R ≤ 16) (hK : 1 ≤ K ∧ K ≤ 16) {n : Nat} (hl : n = R * K) : right (R : Int) (K : Int) n = true := by
  simp only [right, Bool.and_eq_true, decide_eq_true_eq, beq_iff_eq]
  refine ⟨by omega, by omega, ?_⟩
  rw [hl]
  simp
end
end Go.Proofs.YtambpjbpdackfaaGreat.A


