import Derived.Test.YtnfomjnmigkpmaaB6
import Derived.Test.YtnfomjnmigkpmaaProg
set_option linter.unusedVariables false
namespace Go.Proofs.Ytnfomjnmigkpmaa.A
open Go Go.RowKit Go.Shelf
theorem mixed : Try.prog.follows .mixedOrders = true := by kernel_rfl

/- couplet/coupletlaw09.JosephWrong -/
def h3 : Hint := .s (.o) (.s (.s (.o) (.s (.s (.o) (.o)) (.o))) (.s (.r [(5, { zero := [(.int .i64 0), (.int .i64 0), (.slice none 0 0)], acc := [(2, 3005)] }), (6, { n := 3 })]) (.s (.d [] [(2, { n := 3, agg := true }), (7, { zero := [(.slice none 0 0), (.int .i64 0), (.int .i64 0), (.slice none 0 0)], acc := [(0, 1007), (3, 4007)] }), (8, { n := 4 })]) (.s (.o) (.s (.s (.r [(2, { n := 1 }), (4, { n := 4, agg := true }), (7, { n := 1 })]) (.s (.s (.o) (.o)) (.o))) (.s (.r [(0, { n := 4, agg := true }), (1, { n := 3, agg := true }), (2, { n := 3, agg := true }), (7, { zero := [(.slice none 0 0), (.int .i64 0), (.int .i64 0), (.slice none 0 0)], acc := [(0, 1010), (3, 4010)] }), (8, { n := 4 })]) (.s (.d [] [(0, { n := 4, agg := true }), (10, { zero := [(.slice none 0 0), (.int .i64 0), (.int .i64 0), (.slice none 0 0)], acc := [(0, 1012), (3, 4012)] }), (11, { zero := [(.int .i64 0), (.int .i64 0), (.bool false), (.int .i64 0), (.int .i64 0), (.bool false)] }), (12, { n := 4 }), (13, { n := 6 })]) (.s (.r [(2, { n := 1 }), (6, { n := 1 })]) (.o)))))))))
theorem k3 : okF Try.prog Try.f3 h3 [(false, 0)] = true := by kernel_rfl

/- couplet/coupletlaw09.JosephStill -/
def h4 : Hint := .s (.r [(0, { n := 8 })]) (.s (.s (.r [(0, { n := 8, agg := true }), (4, { off := 0 }), (5, { n := 1, agg := false }), (9, { off := 0 }), (10, { n := 1, agg := false })]) (.s (.s (.o) (.o)) (.o))) (.s (.r [(0, { n := 8, agg := true }), (2, { zero := [(.slice none 0 0), (.int .i64 0), (.int .i64 0), (.slice none 0 0)], acc := [(0, 1003), (3, 4003)] }), (3, { n := 4 })]) (.s (.r [(0, { off := 0 }), (1, { n := 1, agg := false }), (6, { zero := [(.int .i64 0), (.int .i64 0), (.slice none 0 0)], acc := [(2, 3004)] }), (7, { n := 3 })]) (.s (.d [] [(0, { off := 0 }), (1, { n := 1, agg := false }), (2, { off := 0 }), (3, { n := 1, agg := false }), (4, { off := 0 }), (5, { n := 1, agg := false }), (6, { off := 0 }), (7, { n := 1, agg := false }), (9, { zero := [(.int .i64 0)], t := 8, agg := true }), (14, { zero := [(.int .i64 0), (.int .i64 0), (.slice none 0 0)], acc := [(2, 3006)] }), (15, { n := 3 })]) (.s (.r [(0, { n := 4, agg := true }), (1, { n := 3, agg := true }), (2, { n := 3, agg := true }), (7, { zero := [(.slice none 0 0), (.int .i64 0), (.int .i64 0), (.slice none 0 0)], acc := [(0, 1008), (3, 4008)] }), (8, { n := 4 })]) (.s (.d [] [(0, { n := 4, agg := true }), (1, { off := 0 }), (2, { n := 1, agg := false }), (3, { zero := [(.int .i64 0)], t := 8, agg := true }), (5, { off := 6 }), (6, { n := 1, agg := false }), (8, { off := 7 }), (9, { n := 1, agg := false }), (16, { zero := [(.slice none 0 0), (.int .i64 0), (.int .i64 0), (.slice none 0 0)], acc := [(0, 1010), (3, 4010)] }), (17, { zero := [(.int .i64 0), (.int .i64 0), (.bool false), (.int .i64 0), (.int .i64 0), (.bool false)] }), (18, { n := 4 }), (19, { n := 6 })]) (.s (.s (.r [(7, { off := 0 }), (8, { n := 1, agg := false }), (10, { off := 0 }), (11, { n := 1, agg := false }), (15, { off := 0 }), (16, { n := 1, agg := false }), (18, { off := 0 }), (19, { n := 1, agg := false }), (23, { off := 1 }), (24, { n := 3, agg := true }), (25, { off := 1 }), (26, { n := 3, agg := true }), (31, { off := 1 }), (32, { n := 3, agg := true }), (33, { off := 1 }), (34, { n := 3, agg := true })]) (.s (.s (.o) (.o)) (.o))) (.s (.s (.r [(0, { off := 0 }), (1, { n := 1, agg := false })]) (.b (.l [.junk [0, 2, 4, 5, 6, 7, 9, 12, 13, 14, 15, 16, 17, 18, 19, 20, 21, 22, 23, 24, 25, 26, 27, 28, 29, 30, 31, 32, 33, 34, 35, 36, 37, 38, 39, 40, 41, 42, 43, 44, 45, 46, 47, 48, 49, 50, 51, 52, 53, 54, 55, 56, 57, 58, 59, 60, 61, 62, 63, 64, 65, 66, 67, 68, 69, 70, 71, 72, 73, 74, 75, 76, 77, 78, 79, 80, 81, 82, 83, 84, 85, 86, 87, 88, 89, 90, 91, 92, 93, 94, 95, 96, 97, 98, 99, 100, 101, 102, 103, 104, 105, 106, 107, 108, 109, 110, 111, 112, 115, 116, 117, 118, 119, 120, 121, 122, 123, 124, 125, 126, 127, 128, 129, 130, 131, 132, 133, 134, 135, 136, 137, 138, 139, 140, 141, 142, 143, 144, 145, 146, 147, 148, 149, 150, 151, 152, 153, 154, 155, 156, 157, 158]] (.s (.o) (.s (.s (.o) (.o)) (.s (.b (.s (.o) (.s (.r [(0, { off := 0 }), (1, { n := 1, agg := false }), (3, { n := 3 }), (4, { n := 3, agg := true }), (5, { off := 0 }), (6, { n := 1, agg := false }), (8, { n := 3 }), (9, { n := 3, agg := true }), (10, { n := 2, ks := [some .i64, some .i64, none] }), (12, { off := 0 }), (13, { n := 1, agg := false }), (15, { n := 3 }), (16, { n := 3, agg := true }), (17, { off := 0 }), (18, { n := 1, agg := false }), (20, { n := 3 }), (21, { n := 3, agg := true }), (22, { n := 2, ks := [some .i64, some .i64, none] })]) (.s (.s (.o) (.o)) (.o))))) (.o))))))) (.s (.r [(0, { off := 3 }), (1, { n := 3, agg := true }), (2, { off := 6 }), (3, { n := 1, agg := false }), (5, { n := 2, ks := [some .i64, some .i64, none] }), (7, { off := 0 }), (8, { n := 3, agg := true }), (9, { off := 7 }), (10, { n := 1, agg := false }), (12, { n := 2, ks := [some .i64, some .i64, none] })]) (.o))))))))))
theorem k4 : okF Try.prog Try.f4 h4 [(false, 0)] = true := by kernel_rfl

/- couplet/coupletlaw06.Few -/
def h5 : Hint := .s (.o) (.s (.s (.o) (.b (.l [.junk [1, 2, 4, 5, 6, 7, 8, 9, 10, 11, 12, 13, 14, 15, 16, 17, 18, 19, 20, 21, 22, 23, 24, 25, 26, 27, 28]] (.s (.s (.o) (.s (.o) (.o))) (.s (.b (.s (.r [(2, { n := 1 }), (3, { n := 1, agg := false }), (8, { n := 1 }), (9, { n := 1, agg := false })]) (.s (.s (.o) (.o)) (.o)))) (.o)))))) (.s (.o) (.o)))
theorem k5 : okF Try.prog Try.f5 h5 [(false, 0)] = true := by kernel_rfl

/- couplet/coupletlaw09.awake -/
def h6 : Hint := .s (.o) (.s (.r [(0, { n := 1 }), (5, { zero := [(.int .i64 0), (.int .i64 0), (.slice none 0 0)], acc := [(2, 3001)] }), (6, { n := 3 })]) (.s (.d [] [(0, { n := 1 }), (2, { n := 3, agg := true }), (7, { zero := [(.slice none 0 0), (.int .i64 0), (.int .i64 0), (.slice none 0 0)], acc := [(0, 1003), (3, 4003)] }), (8, { n := 4 })]) (.s (.d [] [(0, { n := 4, agg := true }), (1, { n := 1 }), (10, { zero := [(.slice none 0 0), (.int .i64 0), (.int .i64 0), (.slice none 0 0)], acc := [(0, 1005), (3, 4005)] }), (11, { zero := [(.int .i64 0), (.int .i64 0), (.bool false), (.int .i64 0), (.int .i64 0), (.bool false)] }), (12, { n := 4 }), (13, { n := 6 })]) (.s (.r [(5, { off := 0 }), (6, { n := 1, agg := false }), (7, { n := 3 }), (8, { n := 3, agg := true }), (10, { n := 2, ks := [some .i64, some .i64, none] }), (13, { off := 1 }), (14, { n := 3, agg := true }), (17, { n := 2, ks := [some .i64, some .i64, none] }), (20, { off := 3 }), (21, { n := 3, agg := true }), (23, { n := 2, ks := [some .i64, some .i64, none] }), (26, { n := 4, agg := true })]) (.o)))))
theorem k6 : okF Try.prog Try.f6 h6 [(false, 0)] = true := by kernel_rfl

/- couplet/mat.Unit(couplet/frac.Frac) -/
def h7 : Hint := .s (.r [(0, { zero := [(.int .i64 0), (.int .i64 0), (.slice none 0 0)], acc := [(2, 3002)] })]) (.s (.s (.o) (.s (.s (.r [(0, { zero := [(.int .i64 0), (.int .i64 0), (.slice none 0 0)], places := [(0, 1), (1, 1), (2, 1)] }), (1, { n := 3 })]) (.o)) (.o))) (.s (.r [(3, { zero := [(.int .i64 0)], t := 8 })]) (.s (.s (.o) (.b (.l [.junk [1, 3, 5, 6, 7, 8, 9, 10, 11, 12, 13, 14, 15, 16, 19, 20, 21, 22, 23, 24, 25, 26, 27, 28, 29, 30, 31, 32, 33, 34]] (.s (.o) (.s (.s (.o) (.o)) (.s (.b (.s (.o) (.r [(6, { n := 1 }), (7, { n := 1 })]))) (.o))))))) (.s (.g [.shut 16] (.r [(6, { n := 3 })])) (.o)))))
theorem k7 : okF Try.prog Try.f7 h7 [(true, 3), (false, 0)] = true := by kernel_rfl

/- couplet/joseph.New(couplet/frac.Frac) -/
def h8 : Hint := .s (.r [(0, { n := 3 }), (1, { zero := [(.slice none 0 0), (.int .i64 0), (.int .i64 0), (.slice none 0 0)], acc := [(0, 1004), (3, 4004)] })]) (.s (.r [(0, { n := 3, agg := true }), (5, { zero := [(.int .i64 0), (.int .i64 0), (.slice none 0 0)], acc := [(2, 3006)] }), (6, { n := 3 })]) (.s (.d [] [(2, { n := 3, agg := true }), (3, { zero := [(.slice none 0 0), (.int .i64 0), (.int .i64 0), (.slice none 0 0)], places := [(0, 1), (1, 3)] }), (4, { zero := [(.slice none 0 0), (.int .i64 0), (.int .i64 0), (.slice none 0 0)], acc := [(0, 1008), (3, 4008)] }), (5, { n := 4 })]) (.s (.s (.r [(3, { n := 4, agg := true })]) (.s (.s (.r [(0, { zero := [(.slice none 0 0), (.int .i64 0), (.int .i64 0), (.slice none 0 0)], places := [(0, 1), (1, 3)] }), (1, { n := 4 })]) (.o)) (.o))) (.s (.r [(0, { n := 4, agg := true }), (1, { n := 4 })]) (.o)))))
theorem k8 : okF Try.prog Try.f8 h8 [(true, 4), (false, 0)] = true := by kernel_rfl

/- couplet/vec.Whole(couplet/frac.Frac) -/
def h9 : Hint := .s (.r [(0, { acc := [(0, 2)] })]) (.s (.r [(0, { acc := [(0, 3)] })]) (.s (.r [(0, { zero := [(.int .i64 0), (.int .i64 0), (.bool false)] })]) (.s (.s (.o) (.b (.l [.junk [0, 1, 2, 5, 6, 10, 11, 12, 13, 14, 15, 16, 17, 18, 19, 20, 21]] (.s (.o) (.s (.s (.o) (.o)) (.s (.b (.s (.r [(0, { n := 1 }), (1, { n := 1, agg := false })]) (.r [(1, { n := 3, agg := true }), (5, { n := 3 }), (6, { n := 3, t := 24 })]))) (.o))))))) (.s (.o) (.o)))))
theorem k9 : okF Try.prog Try.f9 h9 [(false, 0)] = true := by kernel_rfl

/- (couplet/joseph.State(couplet/frac.Frac)).Right -/
def h10 : Hint := .s (.r [(0, { n := 4 })]) (.s (.r [(0, { off := 0 }), (1, { n := 1, agg := false })]) (.s (.r [(7, { off := 1 }), (8, { n := 3, agg := true }), (12, { off := 1 }), (13, { off := 0 }), (14, { n := 1, agg := false }), (19, { off := 1 }), (20, { off := 1 }), (21, { n := 1, agg := false })]) (.o)))
theorem k10 : okF Try.prog Try.f10 h10 [(false, 0)] = true := by kernel_rfl

/- couplet/joseph.Predict(couplet/frac.Frac) -/
def h11 : Hint := .s (.r [(0, { n := 4 }), (1, { n := 3 }), (2, { n := 3 }), (3, { zero := [(.slice none 0 0), (.int .i64 0), (.int .i64 0), (.slice none 0 0)], acc := [(0, 1006), (3, 4006)] })]) (.s (.r [(0, { n := 3, agg := true }), (5, { zero := [(.int .i64 0), (.int .i64 0), (.slice none 0 0)], acc := [(2, 3008)] }), (6, { n := 3 })]) (.s (.r [(0, { n := 3, agg := true }), (1, { off := 0 }), (2, { n := 1, agg := false })]) (.s (.s (.r [(0, { n := 4, agg := true })]) (.s (.s (.r [(0, { zero := [(.slice none 0 0), (.int .i64 0), (.int .i64 0), (.slice none 0 0)], places := [(0, 1), (1, 3)] }), (1, { n := 4 })]) (.o)) (.o))) (.s (.r [(0, { n := 3, agg := true }), (1, { off := 1 }), (2, { n := 3, agg := true }), (3, { n := 3, agg := true }), (8, { zero := [(.int .i64 0), (.int .i64 0), (.slice none 0 0)], acc := [(2, 3012)] }), (9, { n := 3 })]) (.s (.r [(1, { n := 3, agg := true }), (2, { zero := [(.slice none 0 0), (.int .i64 0), (.int .i64 0), (.slice none 0 0)], places := [(0, 1), (1, 3)] }), (3, { zero := [(.slice none 0 0), (.int .i64 0), (.int .i64 0), (.slice none 0 0)], acc := [(0, 1014), (3, 4014)] }), (4, { n := 4 })]) (.s (.s (.r [(3, { n := 4, agg := true })]) (.s (.s (.r [(0, { zero := [(.slice none 0 0), (.int .i64 0), (.int .i64 0), (.slice none 0 0)], places := [(0, 1), (1, 3)] }), (1, { n := 4 })]) (.o)) (.o))) (.s (.r [(0, { n := 4, agg := true }), (1, { n := 4 })]) (.o))))))))
theorem k11 : okF Try.prog Try.f11 h11 [(true, 4), (false, 0)] = true := by kernel_rfl

/- couplet/joseph.Update(couplet/frac.Frac) -/
def h12 : Hint := .s (.r [(0, { n := 4 }), (1, { n := 3 }), (2, { n := 3 }), (3, { zero := [(.slice none 0 0), (.int .i64 0), (.int .i64 0), (.slice none 0 0)], acc := [(0, 1008), (3, 4008)] }), (4, { zero := [(.int .i64 0), (.int .i64 0), (.bool false), (.int .i64 0), (.int .i64 0), (.bool false)] })]) (.s (.r [(0, { off := 0 }), (1, { n := 1, agg := false })]) (.s (.s (.r [(0, { n := 4, agg := true })]) (.s (.s (.r [(0, { zero := [(.slice none 0 0), (.int .i64 0), (.int .i64 0), (.slice none 0 0)], places := [(0, 1), (1, 3)] }), (1, { zero := [(.int .i64 0), (.int .i64 0), (.bool false), (.int .i64 0), (.int .i64 0), (.bool false)], places := [(0, 3), (3, 3)] }), (2, { n := 4 }), (3, { n := 6 })]) (.o)) (.o))) (.s (.r [(0, { off := 1 }), (1, { n := 3, agg := true })]) (.s (.d [] [(4, { n := 3, agg := true }), (6, { zero := [(.int .i64 0), (.int .i64 0), (.bool false)] }), (7, { n := 3 })]) (.s (.d [] [(0, { n := 3, agg := true }), (3, { off := 0 }), (4, { n := 1, agg := false }), (7, { zero := [(.int .i64 0), (.int .i64 0), (.bool false)] }), (8, { n := 3 })]) (.s (.r [(0, { acc := [(0, 16)] })]) (.s (.s (.o) (.b (.l [.junk [0, 2, 3, 5, 7, 10, 12, 13, 17, 18, 19, 20, 21, 22, 23, 24, 25, 26, 27, 28, 29, 30, 31, 32, 33, 34, 35, 36, 37, 38, 39, 40, 41, 42, 43, 44, 45, 46, 47, 48, 49, 50, 51, 52, 53, 54, 55, 56, 57, 58, 59, 60, 61, 62, 63, 64, 65, 66, 67, 68, 72, 73, 74, 75, 76, 77, 78, 79, 80, 81, 82, 83, 84, 85, 86, 87, 88, 89, 90, 91, 92, 93, 94, 95, 96, 97, 98, 99, 100, 101, 102, 103, 104, 105, 106, 107, 108, 109, 110, 111, 112, 113, 114, 115, 116, 117, 118, 119, 120, 121, 122, 123, 124, 125, 126, 127, 128, 129, 130, 131, 132, 133, 134, 135, 136, 137, 138, 139, 140, 141, 142, 143, 144, 145, 146, 147, 148, 149], .drop [18], .row 8 0 5008, .row 8 3 20008, .row 19 2 15019, .row 21 2 15021, .row 23 2 15023, .row 25 2 15025, .row 27 2 15027, .row 29 2 15029, .row 31 2 15031, .row 33 2 15033] (.s (.o) (.s (.s (.o) (.o)) (.s (.b (.s (.r [(0, { n := 3 }), (1, { n := 3, agg := true }), (2, { zero := [(.int .i64 0), (.int .i64 0), (.bool false)] }), (3, { n := 3 })]) (.r [(1, { n := 3, agg := true }), (3, { n := 3, agg := true }), (5, { n := 3 }), (6, { n := 3, t := 24 })]))) (.o))))))) (.s (.r [(6, { zero := [(.int .i64 0), (.int .i64 0), (.slice none 0 0)], acc := [(2, 3019)] }), (7, { n := 3 })]) (.s (.r [(6, { zero := [(.int .i64 0), (.int .i64 0), (.slice none 0 0)], acc := [(2, 3021)] }), (7, { n := 3 })]) (.s (.r [(5, { zero := [(.int .i64 0), (.int .i64 0), (.slice none 0 0)], acc := [(2, 3023)] }), (6, { n := 3 })]) (.s (.r [(0, { n := 3, agg := true }), (1, { n := 3, agg := true }), (6, { zero := [(.int .i64 0), (.int .i64 0), (.slice none 0 0)], acc := [(2, 3025)] }), (7, { n := 3 })]) (.s (.r [(0, { n := 3, agg := true }), (1, { n := 3, agg := true }), (6, { zero := [(.int .i64 0), (.int .i64 0), (.slice none 0 0)], acc := [(2, 3027)] }), (7, { n := 3 })]) (.s (.r [(2, { n := 3, agg := true }), (8, { zero := [(.int .i64 0), (.int .i64 0), (.slice none 0 0)], acc := [(2, 3029)] }), (9, { n := 3 })]) (.s (.d [] [(0, { n := 3, agg := true }), (1, { n := 3, agg := true }), (7, { zero := [(.int .i64 0), (.int .i64 0), (.slice none 0 0)], acc := [(2, 3031)] }), (8, { n := 3 })]) (.s (.r [(0, { n := 3, agg := true }), (1, { off := 1 }), (2, { n := 3, agg := true }), (3, { n := 3, agg := true }), (8, { zero := [(.int .i64 0), (.int .i64 0), (.slice none 0 0)], acc := [(2, 3033)] }), (9, { n := 3 })]) (.s (.s (.o) (.s (.s (.r [(0, { zero := [(.slice none 0 0), (.int .i64 0), (.int .i64 0), (.slice none 0 0)], places := [(0, 1), (1, 3)] }), (1, { zero := [(.int .i64 0), (.int .i64 0), (.bool false), (.int .i64 0), (.int .i64 0), (.bool false)], places := [(0, 3), (3, 3)] }), (2, { n := 4 }), (3, { n := 6 })]) (.o)) (.o))) (.s (.d [(15, 8), (33, 8), (14, 8), (15, 9), (33, 9), (14, 9)] [(0, { off := 0 }), (1, { n := 1, agg := false }), (3, { n := 3, agg := true }), (6, { n := 3, agg := true }), (7, { zero := [(.slice none 0 0), (.int .i64 0), (.int .i64 0), (.slice none 0 0)], places := [(0, 1), (1, 3)] }), (8, { n := 3, agg := true }), (9, { n := 3, agg := true }), (10, { zero := [(.int .i64 0), (.int .i64 0), (.bool false), (.int .i64 0), (.int .i64 0), (.bool false)], places := [(0, 3), (3, 3)] }), (11, { n := 4 }), (12, { n := 6 })]) (.o))))))))))))))))))
theorem k12 : okF Try.prog Try.f12 h12 [(true, 4), (true, 6), (false, 0)] = true := by kernel_rfl

/- couplet/frac.New -/
def h13 : Hint := .s (.r [(0, { zero := [(.int .i64 0), (.int .i64 0), (.bool false)] })]) (.s (.s (.o) (.s (.s (.r [(1, { n := 3 })]) (.o)) (.o))) (.s (.s (.o) (.s (.o) (.o))) (.s (.o) (.s (.o) (.s (.s (.o) (.s (.s (.r [(1, { n := 3 })]) (.o)) (.o))) (.s (.r [(2, { zero := [(.int .i64 0), (.int .i64 0), (.bool false)], places := [(0, 1), (1, 1), (2, 1)] }), (3, { n := 3 })]) (.o)))))))
theorem k13 : okF Try.prog Try.f13 h13 [(true, 3)] = true := by kernel_rfl

/- couplet/coupletlaw09.Few -/
def h14 : Hint := .s (.r [(0, { n := 8 })]) (.s (.s (.r [(0, { off := 0 }), (1, { n := 1, agg := false }), (4, { off := 0 }), (5, { n := 1, agg := false }), (9, { off := 1 }), (10, { n := 1, agg := false }), (12, { off := 0 }), (13, { n := 1, agg := false }), (17, { off := 5 }), (18, { n := 1, agg := false }), (20, { off := 0 }), (21, { n := 1, agg := false }), (25, { off := 6 }), (26, { n := 1, agg := false }), (30, { off := 6 }), (31, { n := 1, agg := false }), (35, { off := 7 }), (36, { n := 1, agg := false }), (40, { off := 7 }), (41, { n := 1, agg := false })]) (.s (.s (.o) (.o)) (.o))) (.s (.s (.r [(0, { off := 1 }), (1, { n := 1, agg := false }), (2, { off := 5 }), (3, { n := 1, agg := false }), (4, { off := 2 }), (5, { n := 1, agg := false }), (6, { off := 3 }), (7, { n := 1, agg := false }), (8, { off := 4 }), (9, { n := 1, agg := false }), (10, { zero := [(.slice none 0 0), (.slice none 0 0), (.slice none 0 0), (.slice none 0 0), (.slice none 0 0)], places := [(0, 1), (1, 1), (2, 1), (3, 1), (4, 1)] })]) (.b (.l [.junk [0, 2, 3, 4, 5, 6, 7, 8, 9, 10, 11, 12, 13, 14, 15, 16, 17, 18, 19, 20, 21, 22, 23, 24, 25, 26, 27, 28, 29, 30, 31, 32, 33, 34, 35, 36, 37, 38, 39, 40, 41, 42, 43, 44, 45, 46, 47, 48, 49, 50, 51, 52, 53, 54, 55, 56, 57, 58, 59, 62, 63, 64, 65, 66, 67, 68, 69, 70, 71, 72, 73, 74, 75, 76, 77, 78, 79, 80, 81, 82, 83, 84, 85, 86, 87, 88, 89, 90, 91, 92, 93, 94, 95, 96, 97, 98, 99, 100, 101, 102, 103, 104, 105, 106, 107, 108, 109, 110, 111, 112, 113, 114, 115, 116, 117]] (.s (.o) (.s (.s (.o) (.o)) (.s (.b (.s (.r [(0, { n := 1, agg := false, t := 5 })]) (.s (.o) (.b (.l [.junk [0, 2, 3, 6, 7, 8, 9, 10, 11, 12, 13, 14, 15, 16, 17, 18, 19, 20, 21, 22, 23, 24, 25, 26, 27, 28, 29, 30, 31, 32, 33, 34, 35, 36, 37, 38, 39, 40, 41, 42, 43, 44, 45, 46, 47, 48, 49, 50, 51, 52, 53, 54, 55, 56, 57, 58, 59, 62, 63, 64, 65, 66, 67, 68, 69, 70, 71, 72, 73, 74, 75, 76, 77, 78, 79, 80, 81, 82, 83, 84, 85, 86, 87, 88, 89, 90, 91, 92, 93, 94, 95, 96, 97, 98, 99, 100, 101, 102, 103, 104, 105, 106, 107, 108, 109, 110, 111, 112, 113, 114, 115, 116, 117]] (.s (.s (.o) (.s (.o) (.o))) (.s (.b (.s (.r [(2, { n := 1 }), (3, { n := 1, agg := false }), (8, { n := 1 }), (9, { n := 1, agg := false })]) (.s (.s (.o) (.o)) (.o)))) (.o)))))))) (.o))))))) (.s (.r [(0, { off := 2 }), (1, { n := 1, agg := false }), (3, { off := 0 }), (4, { n := 1, agg := false }), (5, { off := 0 }), (6, { n := 1, agg := false }), (10, { off := 3 }), (11, { n := 1, agg := false }), (13, { off := 0 }), (14, { n := 1, agg := false }), (15, { off := 0 }), (16, { n := 1, agg := false }), (21, { off := 4 }), (22, { n := 1, agg := false }), (24, { off := 0 }), (25, { n := 1, agg := false }), (26, { off := 0 }), (27, { n := 1, agg := false })]) (.o))))
theorem k14 : okF Try.prog Try.f14 h14 [(false, 0)] = true := by kernel_rfl

/- couplet/coupletlaw09.Start -/
def h15 : Hint := .s (.r [(0, { n := 8 }), (1, { zero := [(.slice none 0 0), (.int .i64 0), (.int .i64 0), (.slice none 0 0)], acc := [(0, 1002), (3, 4002)] })]) (.s (.r [(0, { off := 0 }), (1, { n := 1, agg := false }), (2, { off := 0 }), (3, { n := 1, agg := false }), (4, { off := 2 }), (5, { n := 1, agg := false }), (10, { zero := [(.int .i64 0), (.int .i64 0), (.slice none 0 0)], acc := [(2, 3003)] }), (11, { n := 3 })]) (.s (.d [] [(0, { off := 1 }), (1, { n := 1, agg := false }), (3, { n := 3, agg := true }), (8, { zero := [(.slice none 0 0), (.int .i64 0), (.int .i64 0), (.slice none 0 0)], acc := [(0, 1005), (3, 4005)] }), (9, { n := 4 })]) (.s (.r [(0, { n := 4, agg := true }), (1, { n := 4 })]) (.o))))
theorem k15 : okF Try.prog Try.f15 h15 [(true, 4)] = true := by kernel_rfl

/- couplet/mat.Whole(couplet/frac.Frac) -/
def h16 : Hint := .s (.r [(0, { zero := [(.int .i64 0), (.int .i64 0), (.slice none 0 0)], acc := [(2, 3006)] })]) (.s (.r [(7, { n := 3 })]) (.o))
theorem k16 : okF Try.prog Try.f16 h16 [(true, 3), (false, 0)] = true := by kernel_rfl

/- couplet/coupletlaw06.Alike -/
def h17 : Hint := .s (.r [(0, { n := 3 }), (1, { n := 3 })]) (.s (.s (.r [(0, { off := 0 }), (1, { n := 1, agg := false }), (2, { off := 0 }), (3, { n := 1, agg := false }), (6, { off := 1 }), (7, { n := 1, agg := false }), (8, { off := 1 }), (9, { n := 1, agg := false }), (13, { off := 2 }), (14, { n := 1, agg := false }), (16, { off := 2 }), (17, { n := 1, agg := false })]) (.s (.s (.o) (.o)) (.o))) (.s (.s (.r [(0, { off := 2 }), (1, { n := 1, agg := false })]) (.b (.l [.junk [0, 1, 4, 5, 6, 7, 8, 9, 10, 11, 12, 13, 14, 15, 16, 17, 18, 19, 20, 21, 22, 23, 24, 25, 26, 27, 28, 31, 32, 33, 34, 35, 36, 37, 38, 39, 40, 41, 42, 43, 44]] (.s (.o) (.s (.s (.o) (.o)) (.s (.b (.s (.o) (.s (.r [(0, { off := 2 }), (1, { n := 1, agg := false }), (3, { n := 3 }), (4, { n := 3, agg := true }), (5, { off := 2 }), (6, { n := 1, agg := false }), (8, { n := 3 }), (9, { n := 3, agg := true }), (10, { n := 2, ks := [some .i64, some .i64, none] })]) (.s (.s (.o) (.o)) (.o))))) (.o))))))) (.s (.o) (.o))))
theorem k17 : okF Try.prog Try.f17 h17 [(false, 0)] = true := by kernel_rfl

/- (couplet/mat.Mat(couplet/frac.Frac)).At -/
def h18 : Hint := .s (.r [(0, { n := 3 }), (1, { zero := [(.int .i64 0), (.int .i64 0), (.bool false)] })]) (.s (.s (.r [(0, { n := 3, agg := true }), (9, { off := 0 }), (10, { n := 1, agg := false }), (19, { off := 1 }), (20, { n := 1, agg := false })]) (.s (.s (.r [(0, { zero := [(.int .i64 0), (.int .i64 0), (.bool false)] })]) (.s (.r [(0, { n := 3, agg := true }), (1, { n := 3 })]) (.o))) (.o))) (.s (.r [(0, { off := 2 }), (1, { n := 1, agg := false }), (3, { off := 1 }), (4, { n := 1, agg := false }), (8, { n := 3 }), (9, { n := 3, agg := true }), (10, { n := 3 })]) (.o)))
theorem k18 : okF Try.prog Try.f18 h18 [(true, 3)] = true := by kernel_rfl

/- couplet/tri.Square(couplet/frac.Frac) -/
def h19 : Hint := .s (.r [(0, { n := 3 }), (1, { zero := [(.int .i64 0), (.int .i64 0), (.slice none 0 0)], acc := [(2, 3002)] })]) (.s (.s (.r [(0, { n := 3, agg := true })]) (.s (.s (.r [(0, { zero := [(.int .i64 0), (.int .i64 0), (.slice none 0 0)], places := [(0, 1), (1, 1), (2, 1)] }), (1, { n := 3 })]) (.o)) (.o))) (.s (.d [] [(0, { n := 3, agg := true }), (1, { n := 3, agg := true }), (7, { zero := [(.int .i64 0), (.int .i64 0), (.slice none 0 0)], acc := [(2, 3004)] }), (8, { n := 3 })]) (.s (.s (.o) (.s (.s (.r [(0, { zero := [(.int .i64 0), (.int .i64 0), (.slice none 0 0)], places := [(0, 1), (1, 1), (2, 1)] }), (1, { n := 3 })]) (.o)) (.o))) (.s (.r [(0, { n := 3, agg := true }), (4, { n := 3 })]) (.o)))))
theorem k19 : okF Try.prog Try.f19 h19 [(true, 3), (false, 0)] = true := by kernel_rfl

/- slices.Clone(()couplet/frac.Frac,couplet/frac.Frac) -/
def h20 : Hint := .s (.r [(0, { acc := [(0, 2)] })]) (.s (.s (.r [(1, { n := 3, t := 1 })]) (.s (.s (.r [(0, { acc := [(0, 2)] })]) (.o)) (.o))) (.s (.r [(0, { n := 3 }), (2, { n := 3, t := 24 })]) (.o)))
theorem k20 : okF Try.prog Try.f20 h20 [(false, 0)] = true := by kernel_rfl

/- (couplet/mat.Mat(couplet/frac.Frac)).Right -/
def h21 : Hint := .s (.r [(0, { n := 3 })]) (.s (.o) (.s (.r [(1, { off := 0 }), (2, { n := 1, agg := false }), (6, { off := 1 }), (7, { n := 1, agg := false }), (11, { off := 2 }), (12, { n := 1, agg := false }), (14, { off := 0 }), (15, { n := 1, agg := false }), (16, { off := 1 }), (17, { n := 1, agg := false })]) (.o)))
theorem k21 : okF Try.prog Try.f21 h21 [(false, 0)] = true := by kernel_rfl

/- (couplet/mat.Mat(couplet/frac.Frac)).Apply -/
def h22 : Hint := .s (.r [(0, { n := 3 }), (1, { n := 1 }), (2, { acc := [(0, 4)] })]) (.s (.s (.r [(0, { n := 3, agg := true }), (4, { n := 1, agg := false }), (6, { off := 1 }), (7, { n := 1, agg := false })]) (.s (.s (.r [(0, { acc := [(0, 4)] })]) (.o)) (.o))) (.s (.r [(0, { zero := [(.slice none 0 0)], acc := [(0, 1006)] })]) (.s (.s (.r [(0, { n := 3, agg := true })]) (.b (.f [.row 6 0 5006] (.o) (.b (.r [(0, { n := 1, agg := false }), (2, { n := 1, agg := false }), (4, { n := 3 }), (5, { n := 3, t := 24 }), (6, { n := 1 })]))))) (.s (.r [(0, { n := 1, agg := false })]) (.o)))))
theorem k22 : okF Try.prog Try.f22 h22 [(false, 0), (false, 0)] = true := by kernel_rfl

/- couplet/joseph.turned(couplet/frac.Frac) -/
def h23 : Hint := .s (.r [(0, { n := 3 }), (1, { n := 3 }), (2, { n := 3 }), (3, { zero := [(.int .i64 0), (.int .i64 0), (.slice none 0 0)], acc := [(2, 3006)] })]) (.s (.r [(0, { n := 3, agg := true }), (1, { n := 3, agg := true }), (6, { zero := [(.int .i64 0), (.int .i64 0), (.slice none 0 0)], acc := [(2, 3008)] }), (7, { n := 3 })]) (.s (.d [] [(0, { n := 3, agg := true }), (1, { n := 3, agg := true }), (7, { zero := [(.int .i64 0), (.int .i64 0), (.slice none 0 0)], acc := [(2, 3010)] }), (8, { n := 3 })]) (.s (.r [(0, { n := 3, agg := true }), (1, { n := 3, agg := true }), (6, { zero := [(.int .i64 0), (.int .i64 0), (.slice none 0 0)], acc := [(2, 3012)] }), (7, { n := 3 })]) (.s (.s (.o) (.s (.s (.r [(0, { zero := [(.int .i64 0), (.int .i64 0), (.slice none 0 0)], places := [(0, 1), (1, 1), (2, 1)] }), (1, { n := 3 })]) (.o)) (.o))) (.s (.r [(0, { n := 3, agg := true }), (4, { n := 3 })]) (.o))))))
theorem k23 : okF Try.prog Try.f23 h23 [(true, 3), (false, 0)] = true := by kernel_rfl

/- couplet/vec.Dot(couplet/frac.Frac) -/
def h24 : Hint := .s (.r [(0, { zero := [(.int .i64 0), (.int .i64 0), (.bool false)] })]) (.s (.r [(4, { n := 3 })]) (.o))
theorem k24 : okF Try.prog Try.f24 h24 [(true, 3)] = true := by kernel_rfl

/- couplet/mat.New(couplet/frac.Frac) -/
def h25 : Hint := .s (.r [(0, { zero := [(.int .i64 0), (.int .i64 0), (.slice none 0 0)], acc := [(2, 3006)] })]) (.s (.r [(4, { zero := [(.int .i64 0), (.int .i64 0), (.slice none 0 0)], places := [(0, 1), (1, 1), (2, 1)] }), (5, { zero := [(.int .i64 0), (.int .i64 0), (.slice none 0 0)], acc := [(2, 3008)] }), (6, { n := 3 })]) (.s (.s (.r [(0, { n := 3, agg := true })]) (.s (.s (.r [(0, { zero := [(.int .i64 0), (.int .i64 0), (.slice none 0 0)], places := [(0, 1), (1, 1), (2, 1)] }), (1, { n := 3 })]) (.o)) (.o))) (.s (.r [(0, { n := 3, agg := true }), (1, { n := 3 })]) (.o))))
theorem k25 : okF Try.prog Try.f25 h25 [(true, 3), (false, 0)] = true := by kernel_rfl

/- (couplet/mat.Mat(couplet/frac.Frac)).Mul -/
def h26 : Hint := .s (.r [(0, { n := 3 }), (1, { n := 3 }), (2, { zero := [(.int .i64 0), (.int .i64 0), (.slice none 0 0)], acc := [(2, 3004)] })]) (.s (.s (.r [(0, { n := 3, agg := true }), (4, { n := 3, agg := true }), (9, { off := 1 }), (10, { n := 1, agg := false }), (11, { off := 0 }), (12, { n := 1, agg := false })]) (.s (.s (.r [(0, { zero := [(.int .i64 0), (.int .i64 0), (.slice none 0 0)], places := [(0, 1), (1, 1), (2, 1)] }), (1, { n := 3 })]) (.o)) (.o))) (.s (.r [(0, { off := 0 }), (1, { n := 1, agg := false }), (2, { off := 1 }), (3, { n := 1, agg := false }), (4, { zero := [(.int .i64 0), (.int .i64 0), (.slice none 0 0)], places := [(0, 1), (1, 1), (2, 1)] }), (5, { zero := [(.int .i64 0), (.int .i64 0), (.slice none 0 0)], acc := [(2, 3006)] }), (6, { n := 3 })]) (.s (.r [(0, { n := 3, agg := true }), (2, { zero := [(.int .i64 0), (.int .i64 0), (.slice none 0 0)], acc := [(2, 3007)] }), (3, { n := 3 })]) (.s (.s (.r [(0, { n := 3, agg := true })]) (.b (.f [.drop [9], .forget 1009, .row 4 2 15004, .row 6 2 15006, .row 7 2 15007] (.r [(0, { zero := [(.slice none 0 0)], acc := [(0, 1009)] }), (1, { n := 1 })]) (.b (.s (.r [(0, { n := 3, agg := true })]) (.b (.f [.row 4 2 15004, .row 6 2 15006, .row 7 2 15007, .row 9 0 5009] (.o) (.b (.r [(0, { off := 2 }), (1, { n := 1, agg := false }), (2, { n := 1, agg := false }), (5, { n := 3 }), (6, { n := 3, t := 24 }), (7, { off := 2 }), (8, { n := 1 })]))))))))) (.s (.r [(0, { n := 3, agg := true }), (1, { n := 3 })]) (.o))))))
theorem k26 : okF Try.prog Try.f26 h26 [(true, 3), (false, 0)] = true := by kernel_rfl

/- (couplet/mat.Mat(couplet/frac.Frac)).Sub -/
def h27 : Hint := .s (.r [(0, { n := 3 }), (1, { n := 3 }), (2, { zero := [(.int .i64 0), (.int .i64 0), (.slice none 0 0)], acc := [(2, 3004)] })]) (.s (.r [(0, { n := 3, agg := true }), (1, { n := 3, agg := true }), (5, { n := 3 })]) (.o))
theorem k27 : okF Try.prog Try.f27 h27 [(true, 3), (false, 0)] = true := by kernel_rfl

/- couplet/vec.Scale(couplet/frac.Frac) -/
def h28 : Hint := .s (.r [(0, { n := 3 }), (1, { acc := [(0, 4)] })]) (.s (.r [(0, { acc := [(0, 5)] })]) (.s (.s (.o) (.b (.l [.junk [0, 1, 2, 4, 6, 7, 11, 12, 13, 14, 15, 16, 17, 18, 19, 20, 21, 22], .drop [7]] (.s (.o) (.s (.s (.o) (.o)) (.s (.b (.s (.r [(0, { n := 3 }), (1, { n := 3, agg := true }), (2, { zero := [(.int .i64 0), (.int .i64 0), (.bool false)] }), (3, { n := 3 })]) (.r [(1, { n := 3, agg := true }), (3, { n := 3, agg := true }), (5, { n := 3 }), (6, { n := 3, t := 24 })]))) (.o))))))) (.s (.o) (.o))))
theorem k28 : okF Try.prog Try.f28 h28 [(false, 0)] = true := by kernel_rfl

/- (couplet/mat.Mat(couplet/frac.Frac)).Turn -/
def h29 : Hint := .s (.r [(0, { n := 3 }), (1, { zero := [(.int .i64 0), (.int .i64 0), (.slice none 0 0)], acc := [(2, 3002)] })]) (.s (.s (.r [(0, { n := 3, agg := true })]) (.s (.s (.r [(0, { zero := [(.int .i64 0), (.int .i64 0), (.slice none 0 0)], places := [(0, 1), (1, 1), (2, 1)] }), (1, { n := 3 })]) (.o)) (.o))) (.s (.r [(0, { off := 1 }), (1, { n := 1, agg := false }), (2, { off := 0 }), (3, { n := 1, agg := false }), (4, { zero := [(.int .i64 0), (.int .i64 0), (.slice none 0 0)], places := [(0, 1), (1, 1), (2, 1)] }), (5, { zero := [(.int .i64 0), (.int .i64 0), (.slice none 0 0)], acc := [(2, 3003)] }), (6, { n := 3 })]) (.s (.s (.r [(0, { off := 1 }), (1, { n := 1, agg := false })]) (.b (.l [.junk [0, 4, 5, 6, 7, 8, 9, 10, 11, 12, 13, 14, 15, 18, 19, 20, 21, 22, 23, 24, 25, 26, 27, 28, 29, 30, 31, 32, 33, 34, 35, 36], .row 2 2 15002, .row 3 2 15003] (.s (.o) (.s (.s (.o) (.o)) (.s (.b (.s (.o) (.s (.r [(0, { off := 0 }), (1, { n := 1, agg := false })]) (.b (.l [.junk [0, 5, 6, 7, 8, 9, 10, 11, 12, 13, 14, 15, 18, 19, 20, 23, 24, 25, 26, 27, 28, 29, 30, 31, 32, 33, 34, 35, 36], .row 2 2 15002, .row 3 2 15003] (.s (.o) (.s (.s (.o) (.o)) (.s (.b (.s (.o) (.r [(0, { off := 2 }), (1, { n := 1, agg := false }), (2, { n := 3, agg := true }), (6, { n := 3 }), (7, { n := 3, t := 24 }), (8, { off := 2 }), (9, { n := 1 })]))) (.o))))))))) (.o))))))) (.s (.r [(0, { n := 3, agg := true }), (1, { n := 3 })]) (.o)))))
theorem k29 : okF Try.prog Try.f29 h29 [(true, 3)] = true := by kernel_rfl

/- couplet/vec.Add(couplet/frac.Frac) -/
def h30 : Hint := .s (.r [(0, { acc := [(0, 4)] })]) (.s (.o) (.o))
theorem k30 : okF Try.prog Try.f30 h30 [(false, 0)] = true := by kernel_rfl

/- couplet/frac.Wrong -/
def h31 : Hint := .s (.r [(0, { zero := [(.int .i64 0), (.int .i64 0), (.bool false)] })]) (.s (.r [(0, { zero := [(.int .i64 0), (.int .i64 0), (.bool false)], places := [(0, 1), (1, 1), (2, 1)] }), (1, { n := 3 })]) (.o))
theorem k31 : okF Try.prog Try.f31 h31 [(true, 3)] = true := by kernel_rfl

/- couplet/frac.common -/
def h32 : Hint := .s (.o) (.s (.o) (.s (.b (.l [.junk [2, 3, 4, 5, 6, 7, 8, 9, 10, 11, 12, 13, 14, 15, 16, 17, 18, 19]] (.s (.s (.o) (.s (.o) (.o))) (.b (.o))))) (.s (.o) (.o))))
theorem k32 : okF Try.prog Try.f32 h32 [(false, 0)] = true := by kernel_rfl

/- couplet/tri.square(couplet/frac.Frac) -/
def h33 : Hint := .s (.r [(0, { n := 3 })]) (.s (.r [(0, { n := 3, agg := true }), (3, { off := 0 }), (4, { n := 1, agg := false }), (5, { off := 1 }), (6, { n := 1, agg := false })]) (.o))
theorem k33 : okF Try.prog Try.f33 h33 [(false, 0)] = true := by kernel_rfl

/- (couplet/mat.Mat(couplet/frac.Frac)).Mirror -/
def h34 : Hint := .s (.r [(0, { n := 3 }), (1, { zero := [(.int .i64 0), (.int .i64 0), (.slice none 0 0)], acc := [(2, 3002)] })]) (.s (.s (.r [(0, { n := 3, agg := true }), (4, { off := 0 }), (5, { n := 1, agg := false }), (6, { off := 1 }), (7, { n := 1, agg := false })]) (.s (.s (.r [(0, { zero := [(.int .i64 0), (.int .i64 0), (.slice none 0 0)], places := [(0, 1), (1, 1), (2, 1)] }), (1, { n := 3 })]) (.o)) (.o))) (.s (.r [(0, { off := 0 }), (1, { n := 1, agg := false }), (2, { off := 1 }), (3, { n := 1, agg := false }), (4, { zero := [(.int .i64 0), (.int .i64 0), (.slice none 0 0)], places := [(0, 1), (1, 1), (2, 1)] }), (5, { zero := [(.int .i64 0), (.int .i64 0), (.slice none 0 0)], acc := [(2, 3004)] }), (6, { n := 3 })]) (.s (.s (.r [(0, { off := 0 }), (1, { n := 1, agg := false })]) (.b (.l [.junk [0, 3, 5, 6, 7, 8, 9, 10, 11, 12, 13, 14, 15, 16, 17, 18, 19, 20, 21, 22, 23, 26, 27, 28, 29, 30, 31, 32, 33, 34, 35, 36, 37, 38, 39, 40, 41, 42, 43, 44, 45, 46, 47, 48], .row 2 2 15002, .row 4 2 15004] (.s (.o) (.s (.s (.o) (.o)) (.s (.b (.s (.o) (.s (.r [(0, { off := 1 }), (1, { n := 1, agg := false })]) (.b (.l [.junk [0, 3, 6, 7, 8, 9, 10, 11, 12, 13, 14, 15, 16, 17, 18, 19, 20, 21, 22, 23, 26, 27, 28, 31, 32, 33, 34, 35, 36, 37, 38, 39, 40, 41, 42, 43, 44, 45, 46, 47, 48], .row 2 2 15002, .row 4 2 15004] (.s (.o) (.s (.s (.o) (.o)) (.s (.b (.s (.o) (.r [(0, { off := 2 }), (1, { n := 1, agg := false }), (2, { n := 3, agg := true }), (10, { n := 3 }), (11, { n := 3, t := 24 }), (12, { off := 2 }), (13, { n := 1 })]))) (.o))))))))) (.o))))))) (.s (.r [(0, { n := 3, agg := true }), (1, { n := 3 })]) (.o)))))
theorem k34 : okF Try.prog Try.f34 h34 [(true, 3), (false, 0)] = true := by kernel_rfl

/- (couplet/mat.Mat(couplet/frac.Frac)).Right$1 -/
def h35 : Hint := .s (.o) (.s (.o) (.o))
theorem k35 : okF Try.prog Try.f35 h35 [(false, 0)] = true := by kernel_rfl

/- (couplet/mat.Mat(couplet/frac.Frac)).All -/
def h36 : Hint := .s (.r [(0, { n := 3 })]) (.s (.g [.freeze 1] (.o)) (.o))
theorem k36 : okF Try.prog Try.f36 h36 [(false, 0)] = true := by kernel_rfl

/- (couplet/mat.Mat(couplet/frac.Frac)).Add -/
def h37 : Hint := .s (.r [(0, { n := 3 }), (1, { n := 3 }), (2, { zero := [(.int .i64 0), (.int .i64 0), (.slice none 0 0)], acc := [(2, 3004)] })]) (.s (.r [(0, { n := 3, agg := true }), (1, { n := 3, agg := true }), (5, { n := 3 })]) (.o))
theorem k37 : okF Try.prog Try.f37 h37 [(true, 3), (false, 0)] = true := by kernel_rfl

/- couplet/vec.Sum(couplet/frac.Frac) -/
def h38 : Hint := .s (.r [(0, { zero := [(.int .i64 0), (.int .i64 0), (.bool false)] })]) (.s (.r [(0, { zero := [(.int .i64 0), (.int .i64 0), (.bool false)] })]) (.s (.r [(0, { n := 3, agg := true }), (3, { zero := [(.int .i64 0), (.int .i64 0), (.bool false)] }), (4, { n := 3 })]) (.s (.s (.o) (.b (.l [.junk [0, 1, 3, 5, 6, 7, 8, 9, 13, 14, 15, 16, 17, 18, 19, 20, 21], .drop [6]] (.s (.o) (.s (.s (.o) (.o)) (.s (.b (.s (.r [(0, { n := 3 }), (1, { n := 3, agg := true }), (2, { zero := [(.int .i64 0), (.int .i64 0), (.bool false)] }), (3, { n := 3 })]) (.r [(0, { n := 3, agg := true }), (2, { n := 3, agg := true }), (4, { n := 3 })]))) (.o))))))) (.s (.r [(0, { n := 3, agg := true }), (1, { n := 3 })]) (.o)))))
theorem k38 : okF Try.prog Try.f38 h38 [(true, 3)] = true := by kernel_rfl

/- couplet/vec.of(couplet/frac.Frac) -/
def h39 : Hint := .s (.r [(0, { n := 1 }), (1, { acc := [(0, 6)] })]) (.s (.r [(0, { zero := [(.slice none 0 0)], acc := [(0, 1007)] })]) (.s (.s (.o) (.b (.f [.drop [8, 9], .row 7 0 5007] (.s (.r [(0, { zero := [(.int .i64 0), (.int .i64 0), (.bool false)] }), (1, { n := 3 })]) (.r [(0, { zero := [(.int .i64 0), (.int .i64 0), (.bool false)] }), (1, { n := 3 })])) (.b (.r [(0, { n := 1, agg := false }), (1, { n := 1, agg := false }), (2, { n := 3, agg := true }), (3, { n := 3, agg := true }), (5, { n := 3 }), (6, { n := 3, t := 24 }), (7, { n := 1 })]))))) (.s (.r [(0, { n := 1, agg := false })]) (.o))))
theorem k39 : okF Try.prog Try.f39 h39 [(false, 0)] = true := by kernel_rfl

/- couplet/vec.Dot(couplet/frac.Frac)$1 -/
def h40 : Hint := .s (.r [(0, { n := 3 }), (1, { n := 3 }), (2, { zero := [(.int .i64 0), (.int .i64 0), (.bool false)] })]) (.s (.r [(0, { n := 3, agg := true }), (2, { n := 3, agg := true }), (4, { n := 3 })]) (.o))
theorem k40 : okF Try.prog Try.f40 h40 [(true, 3)] = true := by kernel_rfl

/- (couplet/mat.Mat(couplet/frac.Frac)).each -/
def h41 : Hint := .s (.r [(0, { n := 3 }), (1, { n := 3 }), (2, { zero := [(.int .i64 0), (.int .i64 0), (.slice none 0 0)], acc := [(2, 3006)] })]) (.s (.s (.r [(0, { n := 3, agg := true }), (4, { n := 3, agg := true }), (9, { off := 0 }), (10, { n := 1, agg := false }), (11, { off := 0 }), (12, { n := 1, agg := false }), (16, { off := 1 }), (17, { n := 1, agg := false }), (18, { off := 1 }), (19, { n := 1, agg := false })]) (.s (.s (.r [(0, { zero := [(.int .i64 0), (.int .i64 0), (.slice none 0 0)], places := [(0, 1), (1, 1), (2, 1)] }), (1, { n := 3 })]) (.o)) (.o))) (.s (.r [(0, { off := 0 }), (1, { n := 1, agg := false }), (2, { off := 1 }), (3, { n := 1, agg := false }), (5, { off := 2 }), (6, { n := 1, agg := false }), (7, { off := 2 }), (8, { n := 1, agg := false }), (10, { zero := [(.int .i64 0), (.int .i64 0), (.slice none 0 0)], places := [(0, 1), (1, 1), (2, 1)] }), (11, { n := 3 })]) (.o)))
theorem k41 : okF Try.prog Try.f41 h41 [(true, 3), (false, 0)] = true := by kernel_rfl

/- couplet/vec.Sub(couplet/frac.Frac) -/
def h42 : Hint := .s (.r [(0, { acc := [(0, 4)] })]) (.s (.o) (.o))
theorem k42 : okF Try.prog Try.f42 h42 [(false, 0)] = true := by kernel_rfl

/- couplet/vec.Add(couplet/frac.Frac)$1 -/
def h43 : Hint := .s (.r [(0, { n := 3 }), (1, { n := 3 }), (2, { zero := [(.int .i64 0), (.int .i64 0), (.bool false)] })]) (.s (.r [(0, { n := 3, agg := true }), (2, { n := 3, agg := true }), (4, { n := 3 })]) (.o))
theorem k43 : okF Try.prog Try.f43 h43 [(true, 3)] = true := by kernel_rfl

/- (couplet/mat.Mat(couplet/frac.Frac)).All$1 -/
def h44 : Hint := .s (.o) (.b (.l [.junk [2, 4, 5, 6, 7, 8, 9, 10, 11, 12, 13, 14, 15, 16, 17, 18, 19, 20]] (.s (.s (.r [(0, { n := 3, agg := true }), (4, { off := 0 }), (5, { n := 1, agg := false })]) (.s (.o) (.o))) (.s (.b (.s (.r [(2, { n := 3, agg := true })]) (.s (.o) (.o)))) (.o)))))
theorem k44 : okF Try.prog Try.f44 h44 [] = true := by kernel_rfl

/- (couplet/mat.Mat(couplet/frac.Frac)).Row -/
def h45 : Hint := .s (.r [(0, { n := 3 }), (1, { acc := [(0, 4)] })]) (.s (.s (.r [(0, { n := 3, agg := true }), (9, { off := 0 }), (10, { n := 1, agg := false })]) (.s (.s (.r [(0, { acc := [(0, 4)] })]) (.o)) (.o))) (.s (.r [(0, { off := 2 }), (1, { n := 1, agg := false }), (3, { off := 1 }), (4, { n := 1, agg := false }), (8, { off := 1 }), (9, { n := 1, agg := false }), (11, { n := 3 })]) (.o)))
theorem k45 : okF Try.prog Try.f45 h45 [(false, 0)] = true := by kernel_rfl

/- couplet/vec.Pairs(couplet/frac.Frac) -/
def h46 : Hint := .s (.r [(0, { n := 1 }), (1, { n := 1 })]) (.s (.g [.freeze 2, .freeze 3] (.o)) (.o))
theorem k46 : okF Try.prog Try.f46 h46 [(false, 0)] = true := by kernel_rfl

/- couplet/vec.Sub(couplet/frac.Frac)$1 -/
def h47 : Hint := .s (.r [(0, { n := 3 }), (1, { n := 3 }), (2, { zero := [(.int .i64 0), (.int .i64 0), (.bool false)] })]) (.s (.r [(0, { n := 3, agg := true }), (2, { n := 3, agg := true }), (4, { n := 3 })]) (.o))
theorem k47 : okF Try.prog Try.f47 h47 [(true, 3)] = true := by kernel_rfl

/- couplet/vec.Pairs(couplet/frac.Frac)$1 -/
def h48 : Hint := .s (.r [(0, { n := 1, agg := false }), (2, { n := 1, agg := false })]) (.b (.l [.junk [3, 4, 5, 6, 7, 8, 11, 12, 13, 14, 15, 16, 17, 18, 19, 20, 21, 22, 23, 24]] (.s (.o) (.s (.s (.o) (.o)) (.s (.b (.s (.o) (.s (.y [(1, { n := 1, agg := false }), (3, { n := 3 }), (4, { n := 3, agg := true }), (5, { n := 1, agg := false }), (7, { n := 3 }), (8, { n := 3, agg := true })]) (.s (.o) (.o))))) (.o))))))
theorem k48 : okF Try.prog Try.f48 h48 [] = true := by kernel_rfl

/- (couplet/frac.Frac).Add -/
def h64 : Hint := .s (.r [(0, { n := 3 }), (1, { n := 3 }), (2, { zero := [(.int .i64 0), (.int .i64 0), (.bool false)] })]) (.s (.s (.r [(0, { n := 3, agg := true }), (4, { n := 3, agg := true })]) (.s (.s (.r [(1, { n := 3 })]) (.o)) (.o))) (.s (.r [(0, { off := 0 }), (1, { n := 1, agg := false }), (2, { off := 1 }), (3, { n := 1, agg := false }), (5, { off := 0 }), (6, { n := 1, agg := false }), (7, { off := 1 }), (8, { n := 1, agg := false }), (11, { off := 1 }), (12, { n := 1, agg := false }), (13, { off := 1 }), (14, { n := 1, agg := false })]) (.s (.o) (.s (.r [(7, { n := 3 })]) (.o)))))
theorem k64 : okF Try.prog Try.f64 h64 [(true, 3)] = true := by kernel_rfl

/- (couplet/frac.Frac).Div -/
def h65 : Hint := .s (.r [(0, { n := 3 }), (1, { n := 3 }), (2, { zero := [(.int .i64 0), (.int .i64 0), (.bool false)] })]) (.s (.g [.freeze 2, .freeze 3] (.r [(0, { n := 3, agg := true }), (1, { n := 3, agg := true }), (4, { n := 3 })])) (.o))
theorem k65 : okF Try.prog Try.f65 h65 [(true, 3)] = true := by kernel_rfl

/- (couplet/frac.Frac).Fine -/
def h66 : Hint := .s (.r [(0, { n := 3 })]) (.s (.r [(0, { off := 2 }), (1, { n := 1, agg := false }), (4, { off := 1 }), (5, { n := 1, agg := false }), (9, { off := 1 }), (10, { n := 1, agg := false }), (14, { off := 0 }), (15, { n := 1, agg := false }), (19, { off := 0 }), (20, { n := 1, agg := false }), (24, { off := 0 }), (25, { n := 1, agg := false }), (26, { off := 1 }), (27, { n := 1, agg := false }), (29, { n := 3, agg := true }), (30, { n := 2, ks := [some .i64, some .i64, none] })]) (.o))
theorem k66 : okF Try.prog Try.f66 h66 [(false, 0)] = true := by kernel_rfl

/- (couplet/frac.Frac).Mul -/
def h67 : Hint := .s (.r [(0, { n := 3 }), (1, { n := 3 }), (2, { zero := [(.int .i64 0), (.int .i64 0), (.bool false)] })]) (.s (.g [.freeze 2, .freeze 3] (.r [(0, { n := 3, agg := true }), (1, { n := 3, agg := true }), (4, { n := 3 })])) (.o))
theorem k67 : okF Try.prog Try.f67 h67 [(true, 3)] = true := by kernel_rfl

/- (couplet/frac.Frac).Of -/
def h68 : Hint := .s (.r [(0, { n := 3 }), (1, { zero := [(.int .i64 0), (.int .i64 0), (.bool false)] })]) (.s (.r [(2, { n := 3 })]) (.o))
theorem k68 : okF Try.prog Try.f68 h68 [(true, 3)] = true := by kernel_rfl

/- (couplet/frac.Frac).Sub -/
def h69 : Hint := .s (.r [(0, { n := 3 }), (1, { n := 3 }), (2, { zero := [(.int .i64 0), (.int .i64 0), (.bool false)] })]) (.s (.r [(0, { n := 3, agg := true }), (1, { n := 3, agg := true }), (4, { n := 3 })]) (.o))
theorem k69 : okF Try.prog Try.f69 h69 [(true, 3)] = true := by kernel_rfl

/- couplet/frac.of -/
def h70 : Hint := .s (.r [(0, { n := 3 }), (1, { n := 3 }), (2, { zero := [(.int .i64 0), (.int .i64 0), (.bool false)] })]) (.s (.s (.r [(0, { n := 3, agg := true }), (4, { n := 3, agg := true })]) (.s (.s (.r [(1, { n := 3 })]) (.o)) (.o))) (.s (.r [(5, { n := 3 })]) (.o)))
theorem k70 : okF Try.prog Try.f70 h70 [(true, 3)] = true := by kernel_rfl

/- (couplet/frac.Frac).Div$1 -/
def h71 : Hint := .s (.o) (.s (.r [(0, { off := 0 }), (1, { n := 1, agg := false }), (2, { off := 1 }), (3, { n := 1, agg := false }), (5, { off := 1 }), (6, { n := 1, agg := false }), (7, { off := 0 }), (8, { n := 1, agg := false })]) (.o))
theorem k71 : okF Try.prog Try.f71 h71 [(false, 0), (false, 0)] = true := by kernel_rfl

/- (couplet/frac.Frac).Mul$1 -/
def h72 : Hint := .s (.o) (.s (.r [(0, { off := 0 }), (1, { n := 1, agg := false }), (2, { off := 0 }), (3, { n := 1, agg := false }), (5, { off := 1 }), (6, { n := 1, agg := false }), (7, { off := 1 }), (8, { n := 1, agg := false })]) (.o))
theorem k72 : okF Try.prog Try.f72 h72 [(false, 0), (false, 0)] = true := by kernel_rfl

/- (couplet/frac.Frac).Neg -/
def h73 : Hint := .s (.r [(0, { n := 3 }), (1, { zero := [(.int .i64 0), (.int .i64 0), (.bool false)] })]) (.s (.g [.freeze 1] (.r [(0, { n := 3, agg := true }), (1, { n := 3, agg := true }), (4, { n := 3 })])) (.o))
theorem k73 : okF Try.prog Try.f73 h73 [(true, 3)] = true := by kernel_rfl

/- (couplet/frac.Frac).Neg$1 -/
def h74 : Hint := .s (.o) (.s (.r [(0, { off := 0 }), (1, { n := 1, agg := false }), (3, { off := 1 }), (4, { n := 1, agg := false })]) (.o))
theorem k74 : okF Try.prog Try.f74 h74 [(false, 0), (false, 0)] = true := by kernel_rfl

end Go.Proofs.Ytnfomjnmigkpmaa.A
