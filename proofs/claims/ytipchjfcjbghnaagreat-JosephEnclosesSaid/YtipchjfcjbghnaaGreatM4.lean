import Derived.Test.YtipchjfcjbghnaaGreatM3
import Derived.Test.YtipchjfcjbghnaaGreatProg
import Derived.Lib.Mul64
import Derived.Shelf.Small.Bits
set_option linter.unusedVariables false
namespace Go.Proofs.YtipchjfcjbghnaaGreat.A
open Go Go.RowKit Go.Shelf
theorem mixed : Tryz.prog.follows .mixedOrders = true := by kernel_rfl

/- couplet/coupletlaw09.JosephUpdates -/
def h3 : Hint := .s (.r [(0, { n := 4 }), (1, { n := 4 })]) (.s (.r [(7, { zero := [(.int .i64 0), (.int .i64 0), (.slice none 0 0)], acc := [(2, 3013)] }), (8, { n := 3 })]) (.s (.r [(1, { n := 3, agg := true }), (2, { zero := [(.slice none 0 0), (.int .i64 0), (.int .i64 0), (.slice none 0 0)], places := [(0, 1), (1, 3)] }), (3, { zero := [(.slice none 0 0), (.int .i64 0), (.int .i64 0), (.slice none 0 0)], acc := [(0, 1015), (3, 4015)] }), (4, { n := 4 })]) (.s (.r [(0, { n := 4, agg := true }), (2, { n := 4, agg := true }), (3, { n := 4, agg := true }), (9, { zero := [(.slice none 0 0), (.int .i64 0), (.int .i64 0), (.slice none 0 0)], acc := [(0, 1016), (3, 4016)] }), (10, { zero := [(.int .i64 0), (.int .i64 0), (.int .i64 0), (.bool false), (.int .i64 0), (.int .i64 0), (.int .i64 0), (.bool false)] }), (11, { n := 4 }), (12, { n := 8 })]) (.s (.s (.o) (.s (.s (.r [(3, { off := 0 }), (4, { n := 1, agg := false }), (9, { n := 4, agg := true })]) (.o)) (.o))) (.s (.d [] [(6, { n := 4, agg := true }), (8, { n := 4, agg := true }), (17, { zero := [(.int .i64 0), (.int .i64 0), (.int .i64 0), (.bool false)] }), (18, { zero := [(.int .i64 0), (.int .i64 0), (.int .i64 0), (.bool false)] }), (21, { n := 4 }), (22, { n := 4 })]) (.s (.r [(2, { n := 4, agg := true }), (6, { off := 0 }), (7, { n := 1, agg := false }), (12, { off := 1 }), (13, { n := 3, agg := true }), (18, { off := 0 }), (19, { n := 4, agg := true }), (21, { n := 4, agg := true }), (22, { n := 2, ks := [some .i64, some .i64, some .i64, none] }), (25, { off := 4 }), (26, { n := 4, agg := true }), (28, { n := 4, agg := true }), (29, { n := 2, ks := [some .i64, some .i64, some .i64, none] })]) (.o)))))))
theorem k3 : okF Tryz.prog Tryz.f3 h3 [(false, 0)] = true := by kernel_rfl

/- couplet/coupletlaw09.JosephPredicts -/
def h4 : Hint := .s (.o) (.s (.r [(7, { zero := [(.int .i64 0), (.int .i64 0), (.slice none 0 0)], acc := [(2, 3011)] }), (8, { n := 3 })]) (.s (.r [(7, { zero := [(.int .i64 0), (.int .i64 0), (.slice none 0 0)], acc := [(2, 3013)] }), (8, { n := 3 })]) (.s (.r [(7, { zero := [(.int .i64 0), (.int .i64 0), (.slice none 0 0)], acc := [(2, 3015)] }), (8, { n := 3 })]) (.s (.r [(1, { n := 3, agg := true }), (2, { zero := [(.slice none 0 0), (.int .i64 0), (.int .i64 0), (.slice none 0 0)], places := [(0, 1), (1, 3)] }), (3, { zero := [(.slice none 0 0), (.int .i64 0), (.int .i64 0), (.slice none 0 0)], acc := [(0, 1017), (3, 4017)] }), (4, { n := 4 })]) (.s (.r [(0, { n := 4, agg := true }), (1, { n := 3, agg := true }), (2, { n := 3, agg := true }), (7, { zero := [(.slice none 0 0), (.int .i64 0), (.int .i64 0), (.slice none 0 0)], acc := [(0, 1018), (3, 4018)] }), (8, { n := 4 })]) (.s (.s (.o) (.s (.s (.r [(3, { off := 0 }), (4, { n := 1, agg := false }), (9, { n := 4, agg := true })]) (.o)) (.o))) (.s (.o) (.s (.r [(2, { n := 4, agg := true }), (6, { n := 4, agg := true }), (10, { off := 0 }), (11, { n := 1, agg := false }), (16, { off := 1 }), (17, { n := 3, agg := true })]) (.o)))))))))
theorem k4 : okF Tryz.prog Tryz.f4 h4 [(false, 0)] = true := by kernel_rfl

/- couplet/coupletlaw09.JosephMirrors -/
def h5 : Hint := .s (.r [(0, { n := 8 })]) (.s (.s (.r [(0, { n := 8, agg := true })]) (.s (.s (.o) (.o)) (.o))) (.s (.r [(0, { off := 0 }), (1, { n := 1, agg := false }), (2, { off := 0 }), (3, { n := 1, agg := false }), (4, { off := 2 }), (5, { n := 1, agg := false }), (10, { zero := [(.int .i64 0), (.int .i64 0), (.slice none 0 0)], acc := [(2, 3003)] }), (11, { n := 3 })]) (.s (.r [(0, { off := 0 }), (1, { n := 1, agg := false }), (2, { off := 0 }), (3, { n := 1, agg := false }), (4, { off := 3 }), (5, { n := 1, agg := false }), (10, { zero := [(.int .i64 0), (.int .i64 0), (.slice none 0 0)], acc := [(2, 3005)] }), (11, { n := 3 })]) (.s (.r [(0, { off := 0 }), (1, { n := 1, agg := false }), (2, { off := 0 }), (3, { n := 1, agg := false }), (4, { off := 4 }), (5, { n := 1, agg := false }), (10, { zero := [(.int .i64 0), (.int .i64 0), (.slice none 0 0)], acc := [(2, 3007)] }), (11, { n := 3 })]) (.s (.d [] [(0, { off := 1 }), (1, { n := 1, agg := false }), (3, { n := 3, agg := true }), (8, { zero := [(.slice none 0 0), (.int .i64 0), (.int .i64 0), (.slice none 0 0)], acc := [(0, 1009), (3, 4009)] }), (9, { n := 4 })]) (.s (.r [(0, { n := 4, agg := true }), (1, { n := 3, agg := true }), (2, { n := 3, agg := true }), (7, { zero := [(.slice none 0 0), (.int .i64 0), (.int .i64 0), (.slice none 0 0)], acc := [(0, 1011), (3, 4011)] }), (8, { n := 4 })]) (.s (.d [] [(0, { n := 4, agg := true }), (1, { off := 5 }), (2, { n := 1, agg := false }), (5, { off := 6 }), (6, { n := 1, agg := false }), (9, { off := 7 }), (10, { n := 1, agg := false }), (17, { zero := [(.slice none 0 0), (.int .i64 0), (.int .i64 0), (.slice none 0 0)], acc := [(0, 1013), (3, 4013)] }), (18, { zero := [(.int .i64 0), (.int .i64 0), (.int .i64 0), (.bool false), (.int .i64 0), (.int .i64 0), (.int .i64 0), (.bool false)] }), (19, { n := 4 }), (20, { n := 8 })]) (.s (.s (.o) (.s (.s (.o) (.o)) (.o))) (.s (.s (.r [(0, { n := 4, agg := true }), (1, { n := 4, agg := true }), (2, { n := 4, agg := true }), (3, { zero := [(.slice none 0 0), (.int .i64 0), (.int .i64 0), (.slice none 0 0), (.slice none 0 0), (.int .i64 0), (.int .i64 0), (.slice none 0 0), (.slice none 0 0), (.int .i64 0), (.int .i64 0), (.slice none 0 0)], places := [(0, 4), (4, 4), (8, 4)] })]) (.b (.l [.junk [0, 1, 2, 3, 4, 5, 6, 7, 8, 9, 10, 11, 12, 13, 14, 15, 16, 17, 18, 19, 20, 21, 22, 23, 24, 25, 26, 27, 28, 29, 30, 31, 32, 33, 34, 35, 36, 37, 38, 39, 40, 41, 42, 43, 44, 45, 46, 47, 48, 49, 50, 51, 52, 53, 54, 55, 56, 57, 58, 59, 60, 61, 62, 63, 64, 65, 66, 67, 68, 69, 70, 71, 72, 73, 74, 75, 76, 77, 78, 79, 80, 81, 82, 83, 84, 85, 86, 87, 88, 89, 90, 91, 92, 93, 94, 95, 96, 97, 98, 99, 102, 103, 104, 105, 106, 107, 108, 109, 110, 111, 112, 113, 114, 115, 116, 117, 118, 119, 120, 121, 122, 123, 124, 125, 126, 127, 128, 129, 130, 131, 132], .drop [17, 18], .forget 1017, .forget 4017, .forget 3018] (.s (.o) (.s (.s (.o) (.o)) (.s (.b (.s (.r [(0, { n := 4, agg := true, t := 3 }), (1, { zero := [(.slice none 0 0), (.int .i64 0), (.int .i64 0), (.slice none 0 0)], acc := [(0, 1017), (3, 4017)] }), (2, { n := 4 })]) (.s (.r [(0, { off := 1 }), (1, { n := 3, agg := true }), (6, { zero := [(.int .i64 0), (.int .i64 0), (.slice none 0 0)], acc := [(2, 3018)] }), (7, { n := 3 })]) (.s (.s (.o) (.s (.s (.o) (.o)) (.o))) (.s (.r [(0, { off := 2 }), (1, { n := 1, agg := false })]) (.b (.l [.junk [0, 1, 2, 3, 4, 5, 6, 7, 8, 9, 10, 11, 12, 13, 14, 15, 16, 19, 20, 21, 22, 23, 24, 25, 26, 27, 28, 29, 30, 31, 32, 33, 34, 35, 36, 37, 38, 39, 40, 41, 42, 43, 44, 45, 46, 47, 48, 49, 50, 51, 52, 53, 54, 55, 56, 57, 58, 59, 60, 61, 62, 63, 64, 65, 66, 67, 68, 69, 70, 71, 72, 73, 74, 75, 76, 77, 78, 79, 80, 81, 82, 83, 84, 85, 86, 87, 88, 89, 90, 91, 92, 93, 94, 95, 96, 97, 98, 99, 102, 103, 104, 105, 106, 107, 108, 109, 110, 111, 112, 113, 116, 117, 118, 119, 120, 121, 122, 123, 124, 125, 126, 127, 128, 129, 130, 131, 132]] (.s (.o) (.s (.s (.o) (.o)) (.s (.b (.s (.o) (.s (.r [(0, { off := 2 }), (1, { n := 1, agg := false }), (3, { n := 4 }), (4, { n := 4, agg := true }), (5, { off := 1 }), (6, { off := 2 }), (7, { n := 1, agg := false }), (9, { n := 4 }), (10, { n := 4, agg := true }), (11, { n := 2, ks := [some .i64, some .i64, some .i64, none] })]) (.s (.s (.o) (.o)) (.o))))) (.o))))))))))) (.o))))))) (.s (.o) (.o)))))))))))
theorem k5 : okF Tryz.prog Tryz.f5 h5 [(false, 0)] = true := by kernel_rfl

/- couplet/coupletlaw09.JosephEncloses -/
def h6 : Hint := .s (.r [(0, { n := 8 })]) (.s (.s (.r [(0, { n := 8, agg := true })]) (.s (.s (.o) (.o)) (.o))) (.s (.r [(0, { off := 0 }), (1, { n := 1, agg := false }), (2, { off := 0 }), (3, { n := 1, agg := false }), (4, { off := 3 }), (5, { n := 1, agg := false }), (10, { zero := [(.int .i64 0), (.int .i64 0), (.slice none 0 0)], acc := [(2, 3003)] }), (11, { n := 3 })]) (.s (.r [(0, { off := 0 }), (1, { n := 1, agg := false }), (2, { off := 0 }), (3, { n := 1, agg := false }), (4, { off := 4 }), (5, { n := 1, agg := false }), (10, { zero := [(.int .i64 0), (.int .i64 0), (.slice none 0 0)], acc := [(2, 3005)] }), (11, { n := 3 })]) (.s (.d [] [(0, { n := 8, agg := true }), (2, { n := 3, agg := true }), (3, { n := 3, agg := true }), (8, { zero := [(.slice none 0 0), (.int .i64 0), (.int .i64 0), (.slice none 0 0)], acc := [(0, 1007), (3, 4007)] }), (9, { n := 4 })]) (.s (.d [] [(0, { n := 4, agg := true }), (1, { off := 5 }), (2, { n := 1, agg := false }), (4, { off := 6 }), (5, { n := 1, agg := false }), (7, { off := 7 }), (8, { n := 1, agg := false }), (15, { zero := [(.slice none 0 0), (.int .i64 0), (.int .i64 0), (.slice none 0 0)], acc := [(0, 1009), (3, 4009)] }), (16, { zero := [(.int .i64 0), (.int .i64 0), (.bool false), (.int .i64 0), (.int .i64 0), (.bool false)] }), (17, { n := 4 }), (18, { n := 6 })]) (.s (.r [(0, { off := 0 }), (1, { n := 1, agg := false }), (2, { off := 0 }), (3, { n := 1, agg := false }), (4, { off := 2 }), (5, { n := 1, agg := false }), (10, { zero := [(.int .i64 0), (.int .i64 0), (.slice none 0 0)], acc := [(2, 3012)] }), (11, { n := 3 })]) (.s (.r [(0, { off := 0 }), (1, { n := 1, agg := false }), (2, { off := 0 }), (3, { n := 1, agg := false }), (4, { off := 3 }), (5, { n := 1, agg := false }), (10, { zero := [(.int .i64 0), (.int .i64 0), (.slice none 0 0)], acc := [(2, 3014)] }), (11, { n := 3 })]) (.s (.r [(0, { off := 0 }), (1, { n := 1, agg := false }), (2, { off := 0 }), (3, { n := 1, agg := false }), (4, { off := 4 }), (5, { n := 1, agg := false }), (10, { zero := [(.int .i64 0), (.int .i64 0), (.slice none 0 0)], acc := [(2, 3016)] }), (11, { n := 3 })]) (.s (.d [] [(0, { off := 1 }), (1, { n := 1, agg := false }), (3, { n := 3, agg := true }), (8, { zero := [(.slice none 0 0), (.int .i64 0), (.int .i64 0), (.slice none 0 0)], acc := [(0, 1018), (3, 4018)] }), (9, { n := 4 })]) (.s (.r [(0, { n := 4, agg := true }), (1, { n := 3, agg := true }), (2, { n := 3, agg := true }), (7, { zero := [(.slice none 0 0), (.int .i64 0), (.int .i64 0), (.slice none 0 0)], acc := [(0, 1020), (3, 4020)] }), (8, { n := 4 })]) (.s (.d [] [(0, { n := 4, agg := true }), (1, { off := 5 }), (2, { n := 1, agg := false }), (5, { off := 6 }), (6, { n := 1, agg := false }), (9, { off := 7 }), (10, { n := 1, agg := false }), (17, { zero := [(.slice none 0 0), (.int .i64 0), (.int .i64 0), (.slice none 0 0)], acc := [(0, 1022), (3, 4022)] }), (18, { zero := [(.int .i64 0), (.int .i64 0), (.int .i64 0), (.bool false), (.int .i64 0), (.int .i64 0), (.int .i64 0), (.bool false)] }), (19, { n := 4 }), (20, { n := 8 })]) (.s (.s (.o) (.s (.s (.o) (.o)) (.o))) (.s (.r [(0, { off := 0 }), (1, { n := 1, agg := false }), (2, { off := 0 }), (3, { n := 1, agg := false }), (6, { off := 1 }), (7, { off := 2 }), (8, { n := 1, agg := false }), (9, { off := 1 }), (10, { off := 2 }), (11, { n := 1, agg := false }), (15, { off := 0 }), (16, { n := 1, agg := false }), (17, { off := 0 }), (18, { n := 1, agg := false }), (22, { off := 1 }), (23, { off := 2 }), (24, { n := 1, agg := false }), (25, { off := 1 }), (26, { off := 2 }), (27, { n := 1, agg := false }), (31, { off := 0 }), (32, { n := 4, agg := true }), (33, { off := 4 }), (34, { n := 4, agg := true }), (35, { n := 4 }), (36, { off := 0 }), (37, { n := 3, agg := true }), (38, { off := 3 }), (39, { n := 3, agg := true }), (40, { n := 3 })]) (.o))))))))))))))
theorem k6 : okF Tryz.prog Tryz.f6 h6 [(false, 0)] = true := by kernel_rfl

/- couplet/mat.New(couplet/env.Num) -/
def h7 : Hint := .s (.r [(0, { zero := [(.int .i64 0), (.int .i64 0), (.slice none 0 0)], acc := [(2, 3006)] })]) (.s (.r [(4, { zero := [(.int .i64 0), (.int .i64 0), (.slice none 0 0)], places := [(0, 1), (1, 1), (2, 1)] }), (5, { zero := [(.int .i64 0), (.int .i64 0), (.slice none 0 0)], acc := [(2, 3008)] }), (6, { n := 3 })]) (.s (.s (.r [(0, { n := 3, agg := true })]) (.s (.s (.r [(0, { zero := [(.int .i64 0), (.int .i64 0), (.slice none 0 0)], places := [(0, 1), (1, 1), (2, 1)] }), (1, { n := 3 })]) (.o)) (.o))) (.s (.r [(0, { n := 3, agg := true }), (1, { n := 3 })]) (.o))))
theorem k7 : okF Tryz.prog Tryz.f7 h7 [(true, 3), (false, 0)] = true := by kernel_rfl
/- couplet/mat.New(couplet/env.Num) -/
/- couplet/joseph.Update(couplet/env.Num) -/
def h8 : Hint := .s (.r [(0, { n := 4 }), (1, { n := 4 }), (2, { n := 4 }), (3, { zero := [(.slice none 0 0), (.int .i64 0), (.int .i64 0), (.slice none 0 0)], acc := [(0, 1008), (3, 4008)] }), (4, { zero := [(.int .i64 0), (.int .i64 0), (.int .i64 0), (.bool false), (.int .i64 0), (.int .i64 0), (.int .i64 0), (.bool false)] })]) (.s (.r [(0, { off := 0 }), (1, { n := 1, agg := false })]) (.s (.s (.r [(0, { n := 4, agg := true })]) (.s (.s (.r [(0, { zero := [(.slice none 0 0), (.int .i64 0), (.int .i64 0), (.slice none 0 0)], places := [(0, 1), (1, 3)] }), (1, { zero := [(.int .i64 0), (.int .i64 0), (.int .i64 0), (.bool false), (.int .i64 0), (.int .i64 0), (.int .i64 0), (.bool false)], places := [(0, 4), (4, 4)] }), (2, { n := 4 }), (3, { n := 8 })]) (.o)) (.o))) (.s (.r [(0, { off := 1 }), (1, { n := 3, agg := true })]) (.s (.d [] [(4, { n := 4, agg := true }), (6, { zero := [(.int .i64 0), (.int .i64 0), (.int .i64 0), (.bool false)] }), (7, { n := 4 })]) (.s (.d [] [(0, { n := 4, agg := true }), (3, { off := 0 }), (4, { n := 1, agg := false }), (7, { zero := [(.int .i64 0), (.int .i64 0), (.int .i64 0), (.bool false)] }), (8, { n := 4 })]) (.s (.r [(0, { acc := [(0, 16)] })]) (.s (.s (.o) (.b (.l [.junk [0, 2, 3, 5, 7, 10, 12, 13, 17, 18, 19, 20, 21, 22, 23, 24, 25, 26, 27, 28, 29, 30, 31, 32, 33, 34, 35, 36, 37, 38, 39, 40, 41, 42, 43, 44, 45, 46, 47, 48, 49, 50, 51, 52, 53, 54, 55, 56, 57, 58, 59, 60, 61, 62, 63, 64, 65, 66, 67, 68, 72, 73, 74, 75, 76, 77, 78, 79, 80, 81, 82, 83, 84, 85, 86, 87, 88, 89, 90, 91, 92, 93, 94, 95, 96, 97, 98, 99, 100, 101, 102, 103, 104, 105, 106, 107, 108, 109, 110, 111, 112, 113, 114, 115, 116, 117, 118, 119, 120, 121, 122, 123, 124, 125, 126, 127, 128, 129, 130, 131, 132, 133, 134, 135, 136, 137, 138, 139, 140, 141, 142, 143, 144, 145, 146, 147, 148, 149], .drop [18], .row 8 0 5008, .row 8 3 20008, .row 19 2 15019, .row 21 2 15021, .row 23 2 15023, .row 25 2 15025, .row 27 2 15027, .row 29 2 15029, .row 31 2 15031, .row 33 2 15033] (.s (.o) (.s (.s (.o) (.o)) (.s (.b (.s (.r [(0, { n := 4 }), (1, { n := 4, agg := true }), (2, { zero := [(.int .i64 0), (.int .i64 0), (.int .i64 0), (.bool false)] }), (3, { n := 4 })]) (.r [(1, { n := 4, agg := true }), (3, { n := 4, agg := true }), (5, { n := 4 }), (6, { n := 4, t := 32 })]))) (.o))))))) (.s (.r [(6, { zero := [(.int .i64 0), (.int .i64 0), (.slice none 0 0)], acc := [(2, 3019)] }), (7, { n := 3 })]) (.s (.r [(6, { zero := [(.int .i64 0), (.int .i64 0), (.slice none 0 0)], acc := [(2, 3021)] }), (7, { n := 3 })]) (.s (.r [(5, { zero := [(.int .i64 0), (.int .i64 0), (.slice none 0 0)], acc := [(2, 3023)] }), (6, { n := 3 })]) (.s (.r [(0, { n := 3, agg := true }), (1, { n := 3, agg := true }), (6, { zero := [(.int .i64 0), (.int .i64 0), (.slice none 0 0)], acc := [(2, 3025)] }), (7, { n := 3 })]) (.s (.r [(0, { n := 3, agg := true }), (1, { n := 3, agg := true }), (6, { zero := [(.int .i64 0), (.int .i64 0), (.slice none 0 0)], acc := [(2, 3027)] }), (7, { n := 3 })]) (.s (.r [(2, { n := 4, agg := true }), (8, { zero := [(.int .i64 0), (.int .i64 0), (.slice none 0 0)], acc := [(2, 3029)] }), (9, { n := 3 })]) (.s (.d [] [(0, { n := 3, agg := true }), (1, { n := 3, agg := true }), (7, { zero := [(.int .i64 0), (.int .i64 0), (.slice none 0 0)], acc := [(2, 3031)] }), (8, { n := 3 })]) (.s (.r [(0, { n := 3, agg := true }), (1, { off := 1 }), (2, { n := 3, agg := true }), (3, { n := 3, agg := true }), (8, { zero := [(.int .i64 0), (.int .i64 0), (.slice none 0 0)], acc := [(2, 3033)] }), (9, { n := 3 })]) (.s (.s (.o) (.s (.s (.r [(0, { zero := [(.slice none 0 0), (.int .i64 0), (.int .i64 0), (.slice none 0 0)], places := [(0, 1), (1, 3)] }), (1, { zero := [(.int .i64 0), (.int .i64 0), (.int .i64 0), (.bool false), (.int .i64 0), (.int .i64 0), (.int .i64 0), (.bool false)], places := [(0, 4), (4, 4)] }), (2, { n := 4 }), (3, { n := 8 })]) (.o)) (.o))) (.s (.d [(15, 8), (14, 8)] [(0, { off := 0 }), (1, { n := 1, agg := false }), (3, { n := 4, agg := true }), (6, { n := 3, agg := true }), (7, { zero := [(.slice none 0 0), (.int .i64 0), (.int .i64 0), (.slice none 0 0)], places := [(0, 1), (1, 3)] }), (8, { n := 4, agg := true }), (9, { n := 4, agg := true }), (10, { zero := [(.int .i64 0), (.int .i64 0), (.int .i64 0), (.bool false), (.int .i64 0), (.int .i64 0), (.int .i64 0), (.bool false)], places := [(0, 4), (4, 4)] }), (11, { n := 4 }), (12, { n := 8 })]) (.o))))))))))))))))))
theorem k8 : okF Tryz.prog Tryz.f8 h8 [(true, 4), (true, 8), (false, 0)] = true := by kernel_rfl

/- (couplet/joseph.State(couplet/env.Num)).Right -/
def h9 : Hint := .s (.r [(0, { n := 4 })]) (.s (.r [(0, { off := 0 }), (1, { n := 1, agg := false })]) (.s (.r [(7, { off := 1 }), (8, { n := 3, agg := true }), (12, { off := 1 }), (13, { off := 0 }), (14, { n := 1, agg := false }), (19, { off := 1 }), (20, { off := 1 }), (21, { n := 1, agg := false })]) (.o)))
theorem k9 : okF Tryz.prog Tryz.f9 h9 [(false, 0)] = true := by kernel_rfl

/- couplet/coupletlaw09.awake -/
def h10 : Hint := .s (.o) (.s (.r [(0, { n := 1 }), (5, { zero := [(.int .i64 0), (.int .i64 0), (.slice none 0 0)], acc := [(2, 3001)] }), (6, { n := 3 })]) (.s (.d [] [(0, { n := 1 }), (2, { n := 3, agg := true }), (7, { zero := [(.slice none 0 0), (.int .i64 0), (.int .i64 0), (.slice none 0 0)], acc := [(0, 1003), (3, 4003)] }), (8, { n := 4 })]) (.s (.d [] [(0, { n := 4, agg := true }), (1, { n := 1 }), (10, { zero := [(.slice none 0 0), (.int .i64 0), (.int .i64 0), (.slice none 0 0)], acc := [(0, 1005), (3, 4005)] }), (11, { zero := [(.int .i64 0), (.int .i64 0), (.bool false), (.int .i64 0), (.int .i64 0), (.bool false)] }), (12, { n := 4 }), (13, { n := 6 })]) (.s (.r [(5, { off := 0 }), (6, { n := 1, agg := false }), (7, { n := 3 }), (8, { n := 3, agg := true }), (10, { n := 2, ks := [some .i64, some .i64, none] }), (13, { off := 1 }), (14, { n := 3, agg := true }), (17, { n := 2, ks := [some .i64, some .i64, none] }), (20, { off := 3 }), (21, { n := 3, agg := true }), (23, { n := 2, ks := [some .i64, some .i64, none] }), (26, { n := 4, agg := true })]) (.o)))))
theorem k10 : okF Tryz.prog Tryz.f10 h10 [(false, 0)] = true := by kernel_rfl

/- couplet/coupletref09.Update -/
/- couplet/coupletlaw09.Row -/
def h12 : Hint := .s (.r [(0, { acc := [(0, 2)] })]) (.s (.r [(0, { acc := [(0, 3)] })]) (.s (.s (.o) (.b (.l [.junk [0, 1, 2, 4, 5, 9, 10, 11, 12, 13, 14, 15, 16, 17, 18], .drop [5]] (.s (.o) (.s (.s (.o) (.o)) (.s (.b (.s (.r [(0, { n := 4 }), (1, { n := 4, agg := true }), (2, { zero := [(.int .i64 0), (.int .i64 0), (.int .i64 0), (.bool false)] }), (3, { n := 4 })]) (.r [(1, { n := 4, agg := true }), (3, { n := 4 }), (4, { n := 4, t := 32 })]))) (.o))))))) (.s (.o) (.o))))
/- couplet/coupletlaw03.Given -/
def h13 : Hint := .s (.r [(0, { n := 4 }), (1, { zero := [(.int .i64 0), (.int .i64 0), (.int .i64 0), (.bool false)] })]) (.s (.r [(0, { off := 0 }), (1, { n := 1, agg := false }), (2, { off := 1 }), (3, { n := 1, agg := false }), (4, { off := 2 }), (5, { n := 1, agg := false }), (6, { off := 3 }), (7, { n := 1, agg := false }), (8, { zero := [(.int .i64 0), (.int .i64 0), (.int .i64 0), (.bool false)], places := [(0, 1), (1, 1), (2, 1), (3, 1)] }), (9, { n := 4 })]) (.o))
/- couplet/coupletlaw09.Rows -/
/- couplet/coupletlaw08.Same -/
/- couplet/joseph.Predict(couplet/env.Num) -/
def h16 : Hint := .s (.r [(0, { n := 4 }), (1, { n := 3 }), (2, { n := 3 }), (3, { zero := [(.slice none 0 0), (.int .i64 0), (.int .i64 0), (.slice none 0 0)], acc := [(0, 1006), (3, 4006)] })]) (.s (.r [(0, { n := 3, agg := true }), (5, { zero := [(.int .i64 0), (.int .i64 0), (.slice none 0 0)], acc := [(2, 3008)] }), (6, { n := 3 })]) (.s (.r [(0, { n := 3, agg := true }), (1, { off := 0 }), (2, { n := 1, agg := false })]) (.s (.s (.r [(0, { n := 4, agg := true })]) (.s (.s (.r [(0, { zero := [(.slice none 0 0), (.int .i64 0), (.int .i64 0), (.slice none 0 0)], places := [(0, 1), (1, 3)] }), (1, { n := 4 })]) (.o)) (.o))) (.s (.r [(0, { n := 3, agg := true }), (1, { off := 1 }), (2, { n := 3, agg := true }), (3, { n := 3, agg := true }), (8, { zero := [(.int .i64 0), (.int .i64 0), (.slice none 0 0)], acc := [(2, 3012)] }), (9, { n := 3 })]) (.s (.r [(1, { n := 3, agg := true }), (2, { zero := [(.slice none 0 0), (.int .i64 0), (.int .i64 0), (.slice none 0 0)], places := [(0, 1), (1, 3)] }), (3, { zero := [(.slice none 0 0), (.int .i64 0), (.int .i64 0), (.slice none 0 0)], acc := [(0, 1014), (3, 4014)] }), (4, { n := 4 })]) (.s (.s (.r [(3, { n := 4, agg := true })]) (.s (.s (.r [(0, { zero := [(.slice none 0 0), (.int .i64 0), (.int .i64 0), (.slice none 0 0)], places := [(0, 1), (1, 3)] }), (1, { n := 4 })]) (.o)) (.o))) (.s (.r [(0, { n := 4, agg := true }), (1, { n := 4 })]) (.o))))))))
theorem k16 : okF Tryz.prog Tryz.f16 h16 [(true, 4), (false, 0)] = true := by kernel_rfl

/- couplet/coupletref09.Predict -/
/- couplet/coupletlaw09.Few -/
def h18 : Hint := .s (.r [(0, { n := 8 })]) (.s (.s (.r [(0, { off := 0 }), (1, { n := 1, agg := false }), (4, { off := 0 }), (5, { n := 1, agg := false }), (9, { off := 1 }), (10, { n := 1, agg := false }), (12, { off := 0 }), (13, { n := 1, agg := false }), (17, { off := 5 }), (18, { n := 1, agg := false }), (20, { off := 0 }), (21, { n := 1, agg := false }), (25, { off := 6 }), (26, { n := 1, agg := false }), (30, { off := 6 }), (31, { n := 1, agg := false }), (35, { off := 7 }), (36, { n := 1, agg := false }), (40, { off := 7 }), (41, { n := 1, agg := false })]) (.s (.s (.o) (.o)) (.o))) (.s (.s (.r [(0, { off := 1 }), (1, { n := 1, agg := false }), (2, { off := 5 }), (3, { n := 1, agg := false }), (4, { off := 2 }), (5, { n := 1, agg := false }), (6, { off := 3 }), (7, { n := 1, agg := false }), (8, { off := 4 }), (9, { n := 1, agg := false }), (10, { zero := [(.slice none 0 0), (.slice none 0 0), (.slice none 0 0), (.slice none 0 0), (.slice none 0 0)], places := [(0, 1), (1, 1), (2, 1), (3, 1), (4, 1)] })]) (.b (.l [.junk [0, 2, 3, 4, 5, 6, 7, 8, 9, 10, 11, 12, 13, 14, 15, 16, 17, 18, 19, 20, 21, 22, 23, 24, 25, 26, 27, 28, 29, 30, 31, 32, 33, 34, 35, 36, 37, 38, 39, 40, 41, 42, 43, 44, 45, 46, 47, 48, 49, 50, 51, 52, 53, 54, 55, 56, 57, 58, 59, 62, 63, 64, 65, 66, 67, 68, 69, 70, 71, 72, 73, 74, 75, 76, 77, 78, 79, 80, 81, 82, 83, 84, 85, 86, 87, 88, 89, 90, 91, 92, 93, 94, 95, 96, 97, 98, 99, 100, 101, 102, 103, 104, 105, 106, 107, 108, 109, 110, 111, 112, 113, 114, 115, 116, 117]] (.s (.o) (.s (.s (.o) (.o)) (.s (.b (.s (.r [(0, { n := 1, agg := false, t := 5 })]) (.s (.o) (.b (.l [.junk [0, 2, 3, 6, 7, 8, 9, 10, 11, 12, 13, 14, 15, 16, 17, 18, 19, 20, 21, 22, 23, 24, 25, 26, 27, 28, 29, 30, 31, 32, 33, 34, 35, 36, 37, 38, 39, 40, 41, 42, 43, 44, 45, 46, 47, 48, 49, 50, 51, 52, 53, 54, 55, 56, 57, 58, 59, 62, 63, 64, 65, 66, 67, 68, 69, 70, 71, 72, 73, 74, 75, 76, 77, 78, 79, 80, 81, 82, 83, 84, 85, 86, 87, 88, 89, 90, 91, 92, 93, 94, 95, 96, 97, 98, 99, 100, 101, 102, 103, 104, 105, 106, 107, 108, 109, 110, 111, 112, 113, 114, 115, 116, 117]] (.s (.s (.o) (.s (.o) (.o))) (.s (.b (.s (.r [(2, { n := 1 }), (3, { n := 1, agg := false }), (8, { n := 1 }), (9, { n := 1, agg := false })]) (.s (.s (.o) (.o)) (.o)))) (.o)))))))) (.o))))))) (.s (.r [(0, { off := 2 }), (1, { n := 1, agg := false }), (3, { off := 0 }), (4, { n := 1, agg := false }), (5, { off := 0 }), (6, { n := 1, agg := false }), (10, { off := 3 }), (11, { n := 1, agg := false }), (13, { off := 0 }), (14, { n := 1, agg := false }), (15, { off := 0 }), (16, { n := 1, agg := false }), (21, { off := 4 }), (22, { n := 1, agg := false }), (24, { off := 0 }), (25, { n := 1, agg := false }), (26, { off := 0 }), (27, { n := 1, agg := false })]) (.o))))
theorem k18 : okF Tryz.prog Tryz.f18 h18 [(false, 0)] = true := by kernel_rfl

/- couplet/mat.Whole(couplet/env.Num) -/
def h19 : Hint := .s (.r [(0, { zero := [(.int .i64 0), (.int .i64 0), (.slice none 0 0)], acc := [(2, 3006)] })]) (.s (.r [(7, { n := 3 })]) (.o))
theorem k19 : okF Tryz.prog Tryz.f19 h19 [(true, 3), (false, 0)] = true := by kernel_rfl

/- couplet/joseph.New(couplet/env.Num) -/
def h20 : Hint := .s (.r [(0, { n := 3 }), (1, { zero := [(.slice none 0 0), (.int .i64 0), (.int .i64 0), (.slice none 0 0)], acc := [(0, 1004), (3, 4004)] })]) (.s (.r [(0, { n := 3, agg := true }), (5, { zero := [(.int .i64 0), (.int .i64 0), (.slice none 0 0)], acc := [(2, 3006)] }), (6, { n := 3 })]) (.s (.d [] [(2, { n := 3, agg := true }), (3, { zero := [(.slice none 0 0), (.int .i64 0), (.int .i64 0), (.slice none 0 0)], places := [(0, 1), (1, 3)] }), (4, { zero := [(.slice none 0 0), (.int .i64 0), (.int .i64 0), (.slice none 0 0)], acc := [(0, 1008), (3, 4008)] }), (5, { n := 4 })]) (.s (.s (.r [(3, { n := 4, agg := true })]) (.s (.s (.r [(0, { zero := [(.slice none 0 0), (.int .i64 0), (.int .i64 0), (.slice none 0 0)], places := [(0, 1), (1, 3)] }), (1, { n := 4 })]) (.o)) (.o))) (.s (.r [(0, { n := 4, agg := true }), (1, { n := 4 })]) (.o)))))
theorem k20 : okF Tryz.prog Tryz.f20 h20 [(true, 4), (false, 0)] = true := by kernel_rfl

/- couplet/vec.Whole(couplet/env.Num) -/
def h21 : Hint := .s (.r [(0, { acc := [(0, 2)] })]) (.s (.r [(0, { acc := [(0, 3)] })]) (.s (.r [(0, { zero := [(.int .i64 0), (.int .i64 0), (.int .i64 0), (.bool false)] })]) (.s (.s (.o) (.b (.l [.junk [0, 1, 2, 5, 6, 10, 11, 12, 13, 14, 15, 16, 17, 18, 19, 20, 21]] (.s (.o) (.s (.s (.o) (.o)) (.s (.b (.s (.r [(0, { n := 1 }), (1, { n := 1, agg := false })]) (.r [(1, { n := 4, agg := true }), (5, { n := 4 }), (6, { n := 4, t := 32 })]))) (.o))))))) (.s (.o) (.o)))))
theorem k21 : okF Tryz.prog Tryz.f21 h21 [(false, 0)] = true := by kernel_rfl

/- couplet/env.Point -/
def h22 : Hint := .s (.r [(0, { zero := [(.int .i64 0), (.int .i64 0), (.int .i64 0), (.bool false)] })]) (.s (.s (.o) (.s (.s (.r [(1, { n := 4 })]) (.o)) (.o))) (.s (.r [(3, { zero := [(.int .i64 0), (.int .i64 0), (.int .i64 0), (.bool false)], places := [(0, 1), (1, 1), (2, 1), (3, 1)] }), (4, { n := 4 })]) (.o)))
theorem k22 : okF Tryz.prog Tryz.f22 h22 [(true, 4)] = true := by kernel_rfl

/- (couplet/env.Num).Of -/
def h23 : Hint := .s (.r [(0, { n := 4 }), (1, { zero := [(.int .i64 0), (.int .i64 0), (.int .i64 0), (.bool false)] })]) (.s (.o) (.s (.s (.o) (.s (.s (.r [(1, { n := 4 })]) (.o)) (.o))) (.s (.r [(2, { n := 4 })]) (.o))))
theorem k23 : okF Tryz.prog Tryz.f23 h23 [(true, 4)] = true := by kernel_rfl

/- (couplet/mat.Mat(couplet/env.Num)).Mirror -/
def h24 : Hint := .s (.r [(0, { n := 3 }), (1, { zero := [(.int .i64 0), (.int .i64 0), (.slice none 0 0)], acc := [(2, 3002)] })]) (.s (.s (.r [(0, { n := 3, agg := true }), (4, { off := 0 }), (5, { n := 1, agg := false }), (6, { off := 1 }), (7, { n := 1, agg := false })]) (.s (.s (.r [(0, { zero := [(.int .i64 0), (.int .i64 0), (.slice none 0 0)], places := [(0, 1), (1, 1), (2, 1)] }), (1, { n := 3 })]) (.o)) (.o))) (.s (.r [(0, { off := 0 }), (1, { n := 1, agg := false }), (2, { off := 1 }), (3, { n := 1, agg := false }), (4, { zero := [(.int .i64 0), (.int .i64 0), (.slice none 0 0)], places := [(0, 1), (1, 1), (2, 1)] }), (5, { zero := [(.int .i64 0), (.int .i64 0), (.slice none 0 0)], acc := [(2, 3004)] }), (6, { n := 3 })]) (.s (.s (.r [(0, { off := 0 }), (1, { n := 1, agg := false })]) (.b (.l [.junk [0, 3, 5, 6, 7, 8, 9, 10, 11, 12, 13, 14, 15, 16, 17, 18, 19, 20, 21, 22, 23, 26, 27, 28, 29, 30, 31, 32, 33, 34, 35, 36, 37, 38, 39, 40, 41, 42, 43, 44, 45, 46, 47, 48], .row 2 2 15002, .row 4 2 15004] (.s (.o) (.s (.s (.o) (.o)) (.s (.b (.s (.o) (.s (.r [(0, { off := 1 }), (1, { n := 1, agg := false })]) (.b (.l [.junk [0, 3, 6, 7, 8, 9, 10, 11, 12, 13, 14, 15, 16, 17, 18, 19, 20, 21, 22, 23, 26, 27, 28, 31, 32, 33, 34, 35, 36, 37, 38, 39, 40, 41, 42, 43, 44, 45, 46, 47, 48], .row 2 2 15002, .row 4 2 15004] (.s (.o) (.s (.s (.o) (.o)) (.s (.b (.s (.o) (.r [(0, { off := 2 }), (1, { n := 1, agg := false }), (2, { n := 3, agg := true }), (10, { n := 4 }), (11, { n := 4, t := 32 }), (12, { off := 2 }), (13, { n := 1 })]))) (.o))))))))) (.o))))))) (.s (.r [(0, { n := 3, agg := true }), (1, { n := 3 })]) (.o)))))
theorem k24 : okF Tryz.prog Tryz.f24 h24 [(true, 3), (false, 0)] = true := by kernel_rfl

/- couplet/mat.Whole(couplet/frac.Frac) -/
def h25 : Hint := .s (.r [(0, { zero := [(.int .i64 0), (.int .i64 0), (.slice none 0 0)], acc := [(2, 3006)] })]) (.s (.r [(7, { n := 3 })]) (.o))
theorem k25 : okF Tryz.prog Tryz.f25 h25 [(true, 3), (false, 0)] = true := by kernel_rfl

/- couplet/joseph.Predict(couplet/frac.Frac) -/
def h26 : Hint := .s (.r [(0, { n := 4 }), (1, { n := 3 }), (2, { n := 3 }), (3, { zero := [(.slice none 0 0), (.int .i64 0), (.int .i64 0), (.slice none 0 0)], acc := [(0, 1006), (3, 4006)] })]) (.s (.r [(0, { n := 3, agg := true }), (5, { zero := [(.int .i64 0), (.int .i64 0), (.slice none 0 0)], acc := [(2, 3008)] }), (6, { n := 3 })]) (.s (.r [(0, { n := 3, agg := true }), (1, { off := 0 }), (2, { n := 1, agg := false })]) (.s (.s (.r [(0, { n := 4, agg := true })]) (.s (.s (.r [(0, { zero := [(.slice none 0 0), (.int .i64 0), (.int .i64 0), (.slice none 0 0)], places := [(0, 1), (1, 3)] }), (1, { n := 4 })]) (.o)) (.o))) (.s (.r [(0, { n := 3, agg := true }), (1, { off := 1 }), (2, { n := 3, agg := true }), (3, { n := 3, agg := true }), (8, { zero := [(.int .i64 0), (.int .i64 0), (.slice none 0 0)], acc := [(2, 3012)] }), (9, { n := 3 })]) (.s (.r [(1, { n := 3, agg := true }), (2, { zero := [(.slice none 0 0), (.int .i64 0), (.int .i64 0), (.slice none 0 0)], places := [(0, 1), (1, 3)] }), (3, { zero := [(.slice none 0 0), (.int .i64 0), (.int .i64 0), (.slice none 0 0)], acc := [(0, 1014), (3, 4014)] }), (4, { n := 4 })]) (.s (.s (.r [(3, { n := 4, agg := true })]) (.s (.s (.r [(0, { zero := [(.slice none 0 0), (.int .i64 0), (.int .i64 0), (.slice none 0 0)], places := [(0, 1), (1, 3)] }), (1, { n := 4 })]) (.o)) (.o))) (.s (.r [(0, { n := 4, agg := true }), (1, { n := 4 })]) (.o))))))))
theorem k26 : okF Tryz.prog Tryz.f26 h26 [(true, 4), (false, 0)] = true := by kernel_rfl

/- couplet/coupletlaw09.Start -/
def h27 : Hint := .s (.r [(0, { n := 8 }), (1, { zero := [(.slice none 0 0), (.int .i64 0), (.int .i64 0), (.slice none 0 0)], acc := [(0, 1002), (3, 4002)] })]) (.s (.r [(0, { off := 0 }), (1, { n := 1, agg := false }), (2, { off := 0 }), (3, { n := 1, agg := false }), (4, { off := 2 }), (5, { n := 1, agg := false }), (10, { zero := [(.int .i64 0), (.int .i64 0), (.slice none 0 0)], acc := [(2, 3003)] }), (11, { n := 3 })]) (.s (.d [] [(0, { off := 1 }), (1, { n := 1, agg := false }), (3, { n := 3, agg := true }), (8, { zero := [(.slice none 0 0), (.int .i64 0), (.int .i64 0), (.slice none 0 0)], acc := [(0, 1005), (3, 4005)] }), (9, { n := 4 })]) (.s (.r [(0, { n := 4, agg := true }), (1, { n := 4 })]) (.o))))
theorem k27 : okF Tryz.prog Tryz.f27 h27 [(true, 4)] = true := by kernel_rfl

/- couplet/joseph.Update(couplet/frac.Frac) -/
def h28 : Hint := .s (.r [(0, { n := 4 }), (1, { n := 3 }), (2, { n := 3 }), (3, { zero := [(.slice none 0 0), (.int .i64 0), (.int .i64 0), (.slice none 0 0)], acc := [(0, 1008), (3, 4008)] }), (4, { zero := [(.int .i64 0), (.int .i64 0), (.bool false), (.int .i64 0), (.int .i64 0), (.bool false)] })]) (.s (.r [(0, { off := 0 }), (1, { n := 1, agg := false })]) (.s (.s (.r [(0, { n := 4, agg := true })]) (.s (.s (.r [(0, { zero := [(.slice none 0 0), (.int .i64 0), (.int .i64 0), (.slice none 0 0)], places := [(0, 1), (1, 3)] }), (1, { zero := [(.int .i64 0), (.int .i64 0), (.bool false), (.int .i64 0), (.int .i64 0), (.bool false)], places := [(0, 3), (3, 3)] }), (2, { n := 4 }), (3, { n := 6 })]) (.o)) (.o))) (.s (.r [(0, { off := 1 }), (1, { n := 3, agg := true })]) (.s (.d [] [(4, { n := 3, agg := true }), (6, { zero := [(.int .i64 0), (.int .i64 0), (.bool false)] }), (7, { n := 3 })]) (.s (.d [] [(0, { n := 3, agg := true }), (3, { off := 0 }), (4, { n := 1, agg := false }), (7, { zero := [(.int .i64 0), (.int .i64 0), (.bool false)] }), (8, { n := 3 })]) (.s (.r [(0, { acc := [(0, 16)] })]) (.s (.s (.o) (.b (.l [.junk [0, 2, 3, 5, 7, 10, 12, 13, 17, 18, 19, 20, 21, 22, 23, 24, 25, 26, 27, 28, 29, 30, 31, 32, 33, 34, 35, 36, 37, 38, 39, 40, 41, 42, 43, 44, 45, 46, 47, 48, 49, 50, 51, 52, 53, 54, 55, 56, 57, 58, 59, 60, 61, 62, 63, 64, 65, 66, 67, 68, 72, 73, 74, 75, 76, 77, 78, 79, 80, 81, 82, 83, 84, 85, 86, 87, 88, 89, 90, 91, 92, 93, 94, 95, 96, 97, 98, 99, 100, 101, 102, 103, 104, 105, 106, 107, 108, 109, 110, 111, 112, 113, 114, 115, 116, 117, 118, 119, 120, 121, 122, 123, 124, 125, 126, 127, 128, 129, 130, 131, 132, 133, 134, 135, 136, 137, 138, 139, 140, 141, 142, 143, 144, 145, 146, 147, 148, 149], .drop [18], .row 8 0 5008, .row 8 3 20008, .row 19 2 15019, .row 21 2 15021, .row 23 2 15023, .row 25 2 15025, .row 27 2 15027, .row 29 2 15029, .row 31 2 15031, .row 33 2 15033] (.s (.o) (.s (.s (.o) (.o)) (.s (.b (.s (.r [(0, { n := 3 }), (1, { n := 3, agg := true }), (2, { zero := [(.int .i64 0), (.int .i64 0), (.bool false)] }), (3, { n := 3 })]) (.r [(1, { n := 3, agg := true }), (3, { n := 3, agg := true }), (5, { n := 3 }), (6, { n := 3, t := 24 })]))) (.o))))))) (.s (.r [(6, { zero := [(.int .i64 0), (.int .i64 0), (.slice none 0 0)], acc := [(2, 3019)] }), (7, { n := 3 })]) (.s (.r [(6, { zero := [(.int .i64 0), (.int .i64 0), (.slice none 0 0)], acc := [(2, 3021)] }), (7, { n := 3 })]) (.s (.r [(5, { zero := [(.int .i64 0), (.int .i64 0), (.slice none 0 0)], acc := [(2, 3023)] }), (6, { n := 3 })]) (.s (.r [(0, { n := 3, agg := true }), (1, { n := 3, agg := true }), (6, { zero := [(.int .i64 0), (.int .i64 0), (.slice none 0 0)], acc := [(2, 3025)] }), (7, { n := 3 })]) (.s (.r [(0, { n := 3, agg := true }), (1, { n := 3, agg := true }), (6, { zero := [(.int .i64 0), (.int .i64 0), (.slice none 0 0)], acc := [(2, 3027)] }), (7, { n := 3 })]) (.s (.r [(2, { n := 3, agg := true }), (8, { zero := [(.int .i64 0), (.int .i64 0), (.slice none 0 0)], acc := [(2, 3029)] }), (9, { n := 3 })]) (.s (.d [] [(0, { n := 3, agg := true }), (1, { n := 3, agg := true }), (7, { zero := [(.int .i64 0), (.int .i64 0), (.slice none 0 0)], acc := [(2, 3031)] }), (8, { n := 3 })]) (.s (.r [(0, { n := 3, agg := true }), (1, { off := 1 }), (2, { n := 3, agg := true }), (3, { n := 3, agg := true }), (8, { zero := [(.int .i64 0), (.int .i64 0), (.slice none 0 0)], acc := [(2, 3033)] }), (9, { n := 3 })]) (.s (.s (.o) (.s (.s (.r [(0, { zero := [(.slice none 0 0), (.int .i64 0), (.int .i64 0), (.slice none 0 0)], places := [(0, 1), (1, 3)] }), (1, { zero := [(.int .i64 0), (.int .i64 0), (.bool false), (.int .i64 0), (.int .i64 0), (.bool false)], places := [(0, 3), (3, 3)] }), (2, { n := 4 }), (3, { n := 6 })]) (.o)) (.o))) (.s (.d [(15, 8), (14, 8)] [(0, { off := 0 }), (1, { n := 1, agg := false }), (3, { n := 3, agg := true }), (6, { n := 3, agg := true }), (7, { zero := [(.slice none 0 0), (.int .i64 0), (.int .i64 0), (.slice none 0 0)], places := [(0, 1), (1, 3)] }), (8, { n := 3, agg := true }), (9, { n := 3, agg := true }), (10, { zero := [(.int .i64 0), (.int .i64 0), (.bool false), (.int .i64 0), (.int .i64 0), (.bool false)], places := [(0, 3), (3, 3)] }), (11, { n := 4 }), (12, { n := 6 })]) (.o))))))))))))))))))
theorem k28 : okF Tryz.prog Tryz.f28 h28 [(true, 4), (true, 6), (false, 0)] = true := by kernel_rfl

/- couplet/vec.Whole(couplet/frac.Frac) -/
def h29 : Hint := .s (.r [(0, { acc := [(0, 2)] })]) (.s (.r [(0, { acc := [(0, 3)] })]) (.s (.r [(0, { zero := [(.int .i64 0), (.int .i64 0), (.bool false)] })]) (.s (.s (.o) (.b (.l [.junk [0, 1, 2, 5, 6, 10, 11, 12, 13, 14, 15, 16, 17, 18, 19, 20, 21]] (.s (.o) (.s (.s (.o) (.o)) (.s (.b (.s (.r [(0, { n := 1 }), (1, { n := 1, agg := false })]) (.r [(1, { n := 3, agg := true }), (5, { n := 3 }), (6, { n := 3, t := 24 })]))) (.o))))))) (.s (.o) (.o)))))
theorem k29 : okF Tryz.prog Tryz.f29 h29 [(false, 0)] = true := by kernel_rfl

/- couplet/frac.New -/
def h30 : Hint := .s (.r [(0, { zero := [(.int .i64 0), (.int .i64 0), (.bool false)] })]) (.s (.s (.o) (.s (.s (.r [(1, { n := 3 })]) (.o)) (.o))) (.s (.s (.o) (.s (.o) (.o))) (.s (.o) (.s (.o) (.s (.s (.o) (.s (.s (.r [(1, { n := 3 })]) (.o)) (.o))) (.s (.r [(2, { zero := [(.int .i64 0), (.int .i64 0), (.bool false)], places := [(0, 1), (1, 1), (2, 1)] }), (3, { n := 3 })]) (.o)))))))
theorem k30 : okF Tryz.prog Tryz.f30 h30 [(true, 3)] = true := by kernel_rfl

/- couplet/coupletlaw09.Within -/
def h31 : Hint := .s (.o) (.s (.s (.o) (.s (.s (.o) (.o)) (.o))) (.s (.s (.o) (.b (.l [.junk [1, 2, 3, 4, 5, 6, 7, 8, 9, 10, 11, 15, 16, 17, 18, 19, 20, 21, 22, 23, 24, 25, 26, 27, 28, 29, 30, 31, 32, 33, 34, 35, 36, 37, 38, 39, 40, 41, 42], .drop [6]] (.s (.o) (.s (.s (.o) (.o)) (.s (.b (.s (.r [(1, { n := 3 }), (2, { n := 3, agg := true }), (3, { zero := [(.int .i64 0), (.int .i64 0), (.bool false)] }), (5, { n := 3 })]) (.s (.r [(0, { off := 2 }), (1, { n := 1, agg := false }), (6, { n := 4 }), (7, { off := 3 }), (8, { n := 1, agg := false }), (14, { n := 4 }), (15, { n := 4, agg := true }), (16, { off := 0 }), (17, { n := 1, agg := false }), (18, { off := 1 }), (19, { n := 1, agg := false })]) (.s (.s (.o) (.o)) (.o))))) (.o))))))) (.s (.o) (.o))))
theorem k31 : okF Tryz.prog Tryz.f31 h31 [(false, 0)] = true := by kernel_rfl

/- slices.Clone(()couplet/env.Num,couplet/env.Num) -/
def h32 : Hint := .s (.r [(0, { acc := [(0, 2)] })]) (.s (.s (.r [(1, { n := 3, t := 1 })]) (.s (.s (.r [(0, { acc := [(0, 2)] })]) (.o)) (.o))) (.s (.r [(0, { n := 4 }), (2, { n := 4, t := 32 })]) (.o)))
theorem k32 : okF Tryz.prog Tryz.f32 h32 [(false, 0)] = true := by kernel_rfl
/- slices.Clone(()couplet/env.Num,couplet/env.Num) -/
/- (couplet/mat.Mat(couplet/env.Num)).Right -/
def h33 : Hint := .s (.r [(0, { n := 3 })]) (.s (.o) (.s (.r [(1, { off := 0 }), (2, { n := 1, agg := false }), (6, { off := 1 }), (7, { n := 1, agg := false }), (11, { off := 2 }), (12, { n := 1, agg := false }), (14, { off := 0 }), (15, { n := 1, agg := false }), (16, { off := 1 }), (17, { n := 1, agg := false })]) (.o)))
theorem k33 : okF Tryz.prog Tryz.f33 h33 [(false, 0)] = true := by kernel_rfl

/- (couplet/mat.Mat(couplet/env.Num)).Apply -/
def h34 : Hint := .s (.r [(0, { n := 3 }), (1, { n := 1 }), (2, { acc := [(0, 4)] })]) (.s (.s (.r [(0, { n := 3, agg := true }), (4, { n := 1, agg := false }), (6, { off := 1 }), (7, { n := 1, agg := false })]) (.s (.s (.r [(0, { acc := [(0, 4)] })]) (.o)) (.o))) (.s (.r [(0, { zero := [(.slice none 0 0)], acc := [(0, 1006)] })]) (.s (.s (.r [(0, { n := 3, agg := true })]) (.b (.f [.row 6 0 5006] (.o) (.b (.r [(0, { n := 1, agg := false }), (2, { n := 1, agg := false }), (4, { n := 4 }), (5, { n := 4, t := 32 }), (6, { n := 1 })]))))) (.s (.r [(0, { n := 1, agg := false })]) (.o)))))
theorem k34 : okF Tryz.prog Tryz.f34 h34 [(false, 0), (false, 0)] = true := by kernel_rfl

/- couplet/vec.Dot(couplet/env.Num) -/
def h35 : Hint := .s (.r [(0, { zero := [(.int .i64 0), (.int .i64 0), (.int .i64 0), (.bool false)] })]) (.s (.r [(4, { n := 4 })]) (.o))
theorem k35 : okF Tryz.prog Tryz.f35 h35 [(true, 4)] = true := by kernel_rfl

/- couplet/mat.Unit(couplet/env.Num) -/
def h36 : Hint := .s (.r [(0, { zero := [(.int .i64 0), (.int .i64 0), (.slice none 0 0)], acc := [(2, 3002)] })]) (.s (.s (.o) (.s (.s (.r [(0, { zero := [(.int .i64 0), (.int .i64 0), (.slice none 0 0)], places := [(0, 1), (1, 1), (2, 1)] }), (1, { n := 3 })]) (.o)) (.o))) (.s (.r [(3, { zero := [(.int .i64 0)], t := 8 })]) (.s (.s (.o) (.b (.l [.junk [1, 3, 5, 6, 7, 8, 9, 10, 11, 12, 13, 14, 15, 16, 19, 20, 21, 22, 23, 24, 25, 26, 27, 28, 29, 30, 31, 32, 33, 34]] (.s (.o) (.s (.s (.o) (.o)) (.s (.b (.s (.o) (.r [(6, { n := 1 }), (7, { n := 1 })]))) (.o))))))) (.s (.g [.shut 16] (.r [(6, { n := 3 })])) (.o)))))
theorem k36 : okF Tryz.prog Tryz.f36 h36 [(true, 3), (false, 0)] = true := by kernel_rfl

/- (couplet/mat.Mat(couplet/env.Num)).Mul -/
def h37 : Hint := .s (.r [(0, { n := 3 }), (1, { n := 3 }), (2, { zero := [(.int .i64 0), (.int .i64 0), (.slice none 0 0)], acc := [(2, 3004)] })]) (.s (.s (.r [(0, { n := 3, agg := true }), (4, { n := 3, agg := true }), (9, { off := 1 }), (10, { n := 1, agg := false }), (11, { off := 0 }), (12, { n := 1, agg := false })]) (.s (.s (.r [(0, { zero := [(.int .i64 0), (.int .i64 0), (.slice none 0 0)], places := [(0, 1), (1, 1), (2, 1)] }), (1, { n := 3 })]) (.o)) (.o))) (.s (.r [(0, { off := 0 }), (1, { n := 1, agg := false }), (2, { off := 1 }), (3, { n := 1, agg := false }), (4, { zero := [(.int .i64 0), (.int .i64 0), (.slice none 0 0)], places := [(0, 1), (1, 1), (2, 1)] }), (5, { zero := [(.int .i64 0), (.int .i64 0), (.slice none 0 0)], acc := [(2, 3006)] }), (6, { n := 3 })]) (.s (.r [(0, { n := 3, agg := true }), (2, { zero := [(.int .i64 0), (.int .i64 0), (.slice none 0 0)], acc := [(2, 3007)] }), (3, { n := 3 })]) (.s (.s (.r [(0, { n := 3, agg := true })]) (.b (.f [.drop [9], .forget 1009, .row 4 2 15004, .row 6 2 15006, .row 7 2 15007] (.r [(0, { zero := [(.slice none 0 0)], acc := [(0, 1009)] }), (1, { n := 1 })]) (.b (.s (.r [(0, { n := 3, agg := true })]) (.b (.f [.row 4 2 15004, .row 6 2 15006, .row 7 2 15007, .row 9 0 5009] (.o) (.b (.r [(0, { off := 2 }), (1, { n := 1, agg := false }), (2, { n := 1, agg := false }), (5, { n := 4 }), (6, { n := 4, t := 32 }), (7, { off := 2 }), (8, { n := 1 })]))))))))) (.s (.r [(0, { n := 3, agg := true }), (1, { n := 3 })]) (.o))))))
theorem k37 : okF Tryz.prog Tryz.f37 h37 [(true, 3), (false, 0)] = true := by kernel_rfl

/- (couplet/mat.Mat(couplet/env.Num)).Sub -/
def h38 : Hint := .s (.r [(0, { n := 3 }), (1, { n := 3 }), (2, { zero := [(.int .i64 0), (.int .i64 0), (.slice none 0 0)], acc := [(2, 3004)] })]) (.s (.r [(0, { n := 3, agg := true }), (1, { n := 3, agg := true }), (5, { n := 3 })]) (.o))
theorem k38 : okF Tryz.prog Tryz.f38 h38 [(true, 3), (false, 0)] = true := by kernel_rfl

/- couplet/vec.Scale(couplet/env.Num) -/
def h39 : Hint := .s (.r [(0, { n := 4 }), (1, { acc := [(0, 4)] })]) (.s (.r [(0, { acc := [(0, 5)] })]) (.s (.s (.o) (.b (.l [.junk [0, 1, 2, 4, 6, 7, 11, 12, 13, 14, 15, 16, 17, 18, 19, 20, 21, 22], .drop [7]] (.s (.o) (.s (.s (.o) (.o)) (.s (.b (.s (.r [(0, { n := 4 }), (1, { n := 4, agg := true }), (2, { zero := [(.int .i64 0), (.int .i64 0), (.int .i64 0), (.bool false)] }), (3, { n := 4 })]) (.r [(1, { n := 4, agg := true }), (3, { n := 4, agg := true }), (5, { n := 4 }), (6, { n := 4, t := 32 })]))) (.o))))))) (.s (.o) (.o))))
theorem k39 : okF Tryz.prog Tryz.f39 h39 [(false, 0)] = true := by kernel_rfl

/- (couplet/mat.Mat(couplet/env.Num)).Turn -/
def h40 : Hint := .s (.r [(0, { n := 3 }), (1, { zero := [(.int .i64 0), (.int .i64 0), (.slice none 0 0)], acc := [(2, 3002)] })]) (.s (.s (.r [(0, { n := 3, agg := true })]) (.s (.s (.r [(0, { zero := [(.int .i64 0), (.int .i64 0), (.slice none 0 0)], places := [(0, 1), (1, 1), (2, 1)] }), (1, { n := 3 })]) (.o)) (.o))) (.s (.r [(0, { off := 1 }), (1, { n := 1, agg := false }), (2, { off := 0 }), (3, { n := 1, agg := false }), (4, { zero := [(.int .i64 0), (.int .i64 0), (.slice none 0 0)], places := [(0, 1), (1, 1), (2, 1)] }), (5, { zero := [(.int .i64 0), (.int .i64 0), (.slice none 0 0)], acc := [(2, 3003)] }), (6, { n := 3 })]) (.s (.s (.r [(0, { off := 1 }), (1, { n := 1, agg := false })]) (.b (.l [.junk [0, 4, 5, 6, 7, 8, 9, 10, 11, 12, 13, 14, 15, 18, 19, 20, 21, 22, 23, 24, 25, 26, 27, 28, 29, 30, 31, 32, 33, 34, 35, 36], .row 2 2 15002, .row 3 2 15003] (.s (.o) (.s (.s (.o) (.o)) (.s (.b (.s (.o) (.s (.r [(0, { off := 0 }), (1, { n := 1, agg := false })]) (.b (.l [.junk [0, 5, 6, 7, 8, 9, 10, 11, 12, 13, 14, 15, 18, 19, 20, 23, 24, 25, 26, 27, 28, 29, 30, 31, 32, 33, 34, 35, 36], .row 2 2 15002, .row 3 2 15003] (.s (.o) (.s (.s (.o) (.o)) (.s (.b (.s (.o) (.r [(0, { off := 2 }), (1, { n := 1, agg := false }), (2, { n := 3, agg := true }), (6, { n := 4 }), (7, { n := 4, t := 32 }), (8, { off := 2 }), (9, { n := 1 })]))) (.o))))))))) (.o))))))) (.s (.r [(0, { n := 3, agg := true }), (1, { n := 3 })]) (.o)))))
theorem k40 : okF Tryz.prog Tryz.f40 h40 [(true, 3)] = true := by kernel_rfl

/- couplet/joseph.turned(couplet/env.Num) -/
def h41 : Hint := .s (.r [(0, { n := 3 }), (1, { n := 3 }), (2, { n := 3 }), (3, { zero := [(.int .i64 0), (.int .i64 0), (.slice none 0 0)], acc := [(2, 3006)] })]) (.s (.r [(0, { n := 3, agg := true }), (1, { n := 3, agg := true }), (6, { zero := [(.int .i64 0), (.int .i64 0), (.slice none 0 0)], acc := [(2, 3008)] }), (7, { n := 3 })]) (.s (.d [] [(0, { n := 3, agg := true }), (1, { n := 3, agg := true }), (7, { zero := [(.int .i64 0), (.int .i64 0), (.slice none 0 0)], acc := [(2, 3010)] }), (8, { n := 3 })]) (.s (.r [(0, { n := 3, agg := true }), (1, { n := 3, agg := true }), (6, { zero := [(.int .i64 0), (.int .i64 0), (.slice none 0 0)], acc := [(2, 3012)] }), (7, { n := 3 })]) (.s (.s (.o) (.s (.s (.r [(0, { zero := [(.int .i64 0), (.int .i64 0), (.slice none 0 0)], places := [(0, 1), (1, 1), (2, 1)] }), (1, { n := 3 })]) (.o)) (.o))) (.s (.r [(0, { n := 3, agg := true }), (4, { n := 3 })]) (.o))))))
theorem k41 : okF Tryz.prog Tryz.f41 h41 [(true, 3), (false, 0)] = true := by kernel_rfl

/- couplet/vec.Add(couplet/env.Num) -/
def h42 : Hint := .s (.r [(0, { acc := [(0, 4)] })]) (.s (.o) (.o))
theorem k42 : okF Tryz.prog Tryz.f42 h42 [(false, 0)] = true := by kernel_rfl

/- couplet/joseph.New(couplet/frac.Frac) -/
def h43 : Hint := .s (.r [(0, { n := 3 }), (1, { zero := [(.slice none 0 0), (.int .i64 0), (.int .i64 0), (.slice none 0 0)], acc := [(0, 1004), (3, 4004)] })]) (.s (.r [(0, { n := 3, agg := true }), (5, { zero := [(.int .i64 0), (.int .i64 0), (.slice none 0 0)], acc := [(2, 3006)] }), (6, { n := 3 })]) (.s (.d [] [(2, { n := 3, agg := true }), (3, { zero := [(.slice none 0 0), (.int .i64 0), (.int .i64 0), (.slice none 0 0)], places := [(0, 1), (1, 3)] }), (4, { zero := [(.slice none 0 0), (.int .i64 0), (.int .i64 0), (.slice none 0 0)], acc := [(0, 1008), (3, 4008)] }), (5, { n := 4 })]) (.s (.s (.r [(3, { n := 4, agg := true })]) (.s (.s (.r [(0, { zero := [(.slice none 0 0), (.int .i64 0), (.int .i64 0), (.slice none 0 0)], places := [(0, 1), (1, 3)] }), (1, { n := 4 })]) (.o)) (.o))) (.s (.r [(0, { n := 4, agg := true }), (1, { n := 4 })]) (.o)))))
theorem k43 : okF Tryz.prog Tryz.f43 h43 [(true, 4), (false, 0)] = true := by kernel_rfl

/- (couplet/mat.Mat(couplet/frac.Frac)).At -/
def h44 : Hint := .s (.r [(0, { n := 3 }), (1, { zero := [(.int .i64 0), (.int .i64 0), (.bool false)] })]) (.s (.s (.r [(0, { n := 3, agg := true }), (9, { off := 0 }), (10, { n := 1, agg := false }), (19, { off := 1 }), (20, { n := 1, agg := false })]) (.s (.s (.r [(0, { zero := [(.int .i64 0), (.int .i64 0), (.bool false)] })]) (.s (.r [(0, { n := 3, agg := true }), (1, { n := 3 })]) (.o))) (.o))) (.s (.r [(0, { off := 2 }), (1, { n := 1, agg := false }), (3, { off := 1 }), (4, { n := 1, agg := false }), (8, { n := 3 }), (9, { n := 3, agg := true }), (10, { n := 3 })]) (.o)))
theorem k44 : okF Tryz.prog Tryz.f44 h44 [(true, 3)] = true := by kernel_rfl

/- (couplet/joseph.State(couplet/frac.Frac)).Right -/
def h45 : Hint := .s (.r [(0, { n := 4 })]) (.s (.r [(0, { off := 0 }), (1, { n := 1, agg := false })]) (.s (.r [(7, { off := 1 }), (8, { n := 3, agg := true }), (12, { off := 1 }), (13, { off := 0 }), (14, { n := 1, agg := false }), (19, { off := 1 }), (20, { off := 1 }), (21, { n := 1, agg := false })]) (.o)))
theorem k45 : okF Tryz.prog Tryz.f45 h45 [(false, 0)] = true := by kernel_rfl

/- couplet/coupletref09.Mul -/
/- couplet/coupletref03.Do -/
/- couplet/coupletref08.Dot -/
/- couplet/coupletref09.whole -/
/- couplet/coupletref09.each -/
/- couplet/coupletref09.Turn -/
/- couplet/coupletref09.mirror -/
/- couplet/coupletlaw08.Numbers -/
/- couplet/tri.Square(couplet/env.Num) -/
def h54 : Hint := .s (.r [(0, { n := 3 }), (1, { zero := [(.int .i64 0), (.int .i64 0), (.slice none 0 0)], acc := [(2, 3002)] })]) (.s (.s (.r [(0, { n := 3, agg := true })]) (.s (.s (.r [(0, { zero := [(.int .i64 0), (.int .i64 0), (.slice none 0 0)], places := [(0, 1), (1, 1), (2, 1)] }), (1, { n := 3 })]) (.o)) (.o))) (.s (.d [] [(0, { n := 3, agg := true }), (1, { n := 3, agg := true }), (7, { zero := [(.int .i64 0), (.int .i64 0), (.slice none 0 0)], acc := [(2, 3004)] }), (8, { n := 3 })]) (.s (.s (.o) (.s (.s (.r [(0, { zero := [(.int .i64 0), (.int .i64 0), (.slice none 0 0)], places := [(0, 1), (1, 1), (2, 1)] }), (1, { n := 3 })]) (.o)) (.o))) (.s (.r [(0, { n := 3, agg := true }), (4, { n := 3 })]) (.o)))))
theorem k54 : okF Tryz.prog Tryz.f54 h54 [(true, 3), (false, 0)] = true := by kernel_rfl

/- couplet/coupletref09.Square -/
/- couplet/fx.Right -/
def h56 : Hint := .s (.o) (.s (.o) (.o))
theorem k56 : okF Tryz.prog Tryz.f56 h56 [(false, 0)] = true := by kernel_rfl

/- couplet/env.Wrong -/
def h57 : Hint := .s (.r [(0, { zero := [(.int .i64 0), (.int .i64 0), (.int .i64 0), (.bool false)] })]) (.s (.r [(0, { zero := [(.int .i64 0), (.int .i64 0), (.int .i64 0), (.bool false)], places := [(0, 1), (1, 1), (2, 1), (3, 1)] }), (1, { n := 4 })]) (.o))
theorem k57 : okF Tryz.prog Tryz.f57 h57 [(true, 4)] = true := by kernel_rfl

/- couplet/fx.Of -/
def h58 : Hint := .s (.o) (.s (.o) (.s (.o) (.o)))
theorem k58 : okF Tryz.prog Tryz.f58 h58 [(false, 0), (false, 0)] = true := by kernel_rfl

/- (couplet/mat.Mat(couplet/env.Num)).At -/
def h59 : Hint := .s (.r [(0, { n := 3 }), (1, { zero := [(.int .i64 0), (.int .i64 0), (.int .i64 0), (.bool false)] })]) (.s (.s (.r [(0, { n := 3, agg := true }), (9, { off := 0 }), (10, { n := 1, agg := false }), (19, { off := 1 }), (20, { n := 1, agg := false })]) (.s (.s (.r [(0, { zero := [(.int .i64 0), (.int .i64 0), (.int .i64 0), (.bool false)] })]) (.s (.r [(0, { n := 4, agg := true }), (1, { n := 4 })]) (.o))) (.o))) (.s (.r [(0, { off := 2 }), (1, { n := 1, agg := false }), (3, { off := 1 }), (4, { n := 1, agg := false }), (8, { n := 4 }), (9, { n := 4, agg := true }), (10, { n := 4 })]) (.o)))
theorem k59 : okF Tryz.prog Tryz.f59 h59 [(true, 4)] = true := by kernel_rfl

/- couplet/mat.New(couplet/frac.Frac) -/
def h60 : Hint := .s (.r [(0, { zero := [(.int .i64 0), (.int .i64 0), (.slice none 0 0)], acc := [(2, 3006)] })]) (.s (.r [(4, { zero := [(.int .i64 0), (.int .i64 0), (.slice none 0 0)], places := [(0, 1), (1, 1), (2, 1)] }), (5, { zero := [(.int .i64 0), (.int .i64 0), (.slice none 0 0)], acc := [(2, 3008)] }), (6, { n := 3 })]) (.s (.s (.r [(0, { n := 3, agg := true })]) (.s (.s (.r [(0, { zero := [(.int .i64 0), (.int .i64 0), (.slice none 0 0)], places := [(0, 1), (1, 1), (2, 1)] }), (1, { n := 3 })]) (.o)) (.o))) (.s (.r [(0, { n := 3, agg := true }), (1, { n := 3 })]) (.o))))
theorem k60 : okF Tryz.prog Tryz.f60 h60 [(true, 3), (false, 0)] = true := by kernel_rfl
/- couplet/mat.New(couplet/frac.Frac) -/
/- couplet/tri.Square(couplet/frac.Frac) -/
def h61 : Hint := .s (.r [(0, { n := 3 }), (1, { zero := [(.int .i64 0), (.int .i64 0), (.slice none 0 0)], acc := [(2, 3002)] })]) (.s (.s (.r [(0, { n := 3, agg := true })]) (.s (.s (.r [(0, { zero := [(.int .i64 0), (.int .i64 0), (.slice none 0 0)], places := [(0, 1), (1, 1), (2, 1)] }), (1, { n := 3 })]) (.o)) (.o))) (.s (.d [] [(0, { n := 3, agg := true }), (1, { n := 3, agg := true }), (7, { zero := [(.int .i64 0), (.int .i64 0), (.slice none 0 0)], acc := [(2, 3004)] }), (8, { n := 3 })]) (.s (.s (.o) (.s (.s (.r [(0, { zero := [(.int .i64 0), (.int .i64 0), (.slice none 0 0)], places := [(0, 1), (1, 1), (2, 1)] }), (1, { n := 3 })]) (.o)) (.o))) (.s (.r [(0, { n := 3, agg := true }), (4, { n := 3 })]) (.o)))))
theorem k61 : okF Tryz.prog Tryz.f61 h61 [(true, 3), (false, 0)] = true := by kernel_rfl

/- (couplet/mat.Mat(couplet/frac.Frac)).Apply -/
def h62 : Hint := .s (.r [(0, { n := 3 }), (1, { n := 1 }), (2, { acc := [(0, 4)] })]) (.s (.s (.r [(0, { n := 3, agg := true }), (4, { n := 1, agg := false }), (6, { off := 1 }), (7, { n := 1, agg := false })]) (.s (.s (.r [(0, { acc := [(0, 4)] })]) (.o)) (.o))) (.s (.r [(0, { zero := [(.slice none 0 0)], acc := [(0, 1006)] })]) (.s (.s (.r [(0, { n := 3, agg := true })]) (.b (.f [.row 6 0 5006] (.o) (.b (.r [(0, { n := 1, agg := false }), (2, { n := 1, agg := false }), (4, { n := 3 }), (5, { n := 3, t := 24 }), (6, { n := 1 })]))))) (.s (.r [(0, { n := 1, agg := false })]) (.o)))))
theorem k62 : okF Tryz.prog Tryz.f62 h62 [(false, 0), (false, 0)] = true := by kernel_rfl

/- couplet/joseph.turned(couplet/frac.Frac) -/
def h63 : Hint := .s (.r [(0, { n := 3 }), (1, { n := 3 }), (2, { n := 3 }), (3, { zero := [(.int .i64 0), (.int .i64 0), (.slice none 0 0)], acc := [(2, 3006)] })]) (.s (.r [(0, { n := 3, agg := true }), (1, { n := 3, agg := true }), (6, { zero := [(.int .i64 0), (.int .i64 0), (.slice none 0 0)], acc := [(2, 3008)] }), (7, { n := 3 })]) (.s (.d [] [(0, { n := 3, agg := true }), (1, { n := 3, agg := true }), (7, { zero := [(.int .i64 0), (.int .i64 0), (.slice none 0 0)], acc := [(2, 3010)] }), (8, { n := 3 })]) (.s (.r [(0, { n := 3, agg := true }), (1, { n := 3, agg := true }), (6, { zero := [(.int .i64 0), (.int .i64 0), (.slice none 0 0)], acc := [(2, 3012)] }), (7, { n := 3 })]) (.s (.s (.o) (.s (.s (.r [(0, { zero := [(.int .i64 0), (.int .i64 0), (.slice none 0 0)], places := [(0, 1), (1, 1), (2, 1)] }), (1, { n := 3 })]) (.o)) (.o))) (.s (.r [(0, { n := 3, agg := true }), (4, { n := 3 })]) (.o))))))
theorem k63 : okF Tryz.prog Tryz.f63 h63 [(true, 3), (false, 0)] = true := by kernel_rfl

/- couplet/vec.Dot(couplet/frac.Frac) -/
def h64 : Hint := .s (.r [(0, { zero := [(.int .i64 0), (.int .i64 0), (.bool false)] })]) (.s (.r [(4, { n := 3 })]) (.o))
theorem k64 : okF Tryz.prog Tryz.f64 h64 [(true, 3)] = true := by kernel_rfl

/- couplet/mat.Unit(couplet/frac.Frac) -/
def h65 : Hint := .s (.r [(0, { zero := [(.int .i64 0), (.int .i64 0), (.slice none 0 0)], acc := [(2, 3002)] })]) (.s (.s (.o) (.s (.s (.r [(0, { zero := [(.int .i64 0), (.int .i64 0), (.slice none 0 0)], places := [(0, 1), (1, 1), (2, 1)] }), (1, { n := 3 })]) (.o)) (.o))) (.s (.r [(3, { zero := [(.int .i64 0)], t := 8 })]) (.s (.s (.o) (.b (.l [.junk [1, 3, 5, 6, 7, 8, 9, 10, 11, 12, 13, 14, 15, 16, 19, 20, 21, 22, 23, 24, 25, 26, 27, 28, 29, 30, 31, 32, 33, 34]] (.s (.o) (.s (.s (.o) (.o)) (.s (.b (.s (.o) (.r [(6, { n := 1 }), (7, { n := 1 })]))) (.o))))))) (.s (.g [.shut 16] (.r [(6, { n := 3 })])) (.o)))))
theorem k65 : okF Tryz.prog Tryz.f65 h65 [(true, 3), (false, 0)] = true := by kernel_rfl

/- (couplet/mat.Mat(couplet/frac.Frac)).Mul -/
def h66 : Hint := .s (.r [(0, { n := 3 }), (1, { n := 3 }), (2, { zero := [(.int .i64 0), (.int .i64 0), (.slice none 0 0)], acc := [(2, 3004)] })]) (.s (.s (.r [(0, { n := 3, agg := true }), (4, { n := 3, agg := true }), (9, { off := 1 }), (10, { n := 1, agg := false }), (11, { off := 0 }), (12, { n := 1, agg := false })]) (.s (.s (.r [(0, { zero := [(.int .i64 0), (.int .i64 0), (.slice none 0 0)], places := [(0, 1), (1, 1), (2, 1)] }), (1, { n := 3 })]) (.o)) (.o))) (.s (.r [(0, { off := 0 }), (1, { n := 1, agg := false }), (2, { off := 1 }), (3, { n := 1, agg := false }), (4, { zero := [(.int .i64 0), (.int .i64 0), (.slice none 0 0)], places := [(0, 1), (1, 1), (2, 1)] }), (5, { zero := [(.int .i64 0), (.int .i64 0), (.slice none 0 0)], acc := [(2, 3006)] }), (6, { n := 3 })]) (.s (.r [(0, { n := 3, agg := true }), (2, { zero := [(.int .i64 0), (.int .i64 0), (.slice none 0 0)], acc := [(2, 3007)] }), (3, { n := 3 })]) (.s (.s (.r [(0, { n := 3, agg := true })]) (.b (.f [.drop [9], .forget 1009, .row 4 2 15004, .row 6 2 15006, .row 7 2 15007] (.r [(0, { zero := [(.slice none 0 0)], acc := [(0, 1009)] }), (1, { n := 1 })]) (.b (.s (.r [(0, { n := 3, agg := true })]) (.b (.f [.row 4 2 15004, .row 6 2 15006, .row 7 2 15007, .row 9 0 5009] (.o) (.b (.r [(0, { off := 2 }), (1, { n := 1, agg := false }), (2, { n := 1, agg := false }), (5, { n := 3 }), (6, { n := 3, t := 24 }), (7, { off := 2 }), (8, { n := 1 })]))))))))) (.s (.r [(0, { n := 3, agg := true }), (1, { n := 3 })]) (.o))))))
theorem k66 : okF Tryz.prog Tryz.f66 h66 [(true, 3), (false, 0)] = true := by kernel_rfl

/- (couplet/mat.Mat(couplet/frac.Frac)).Sub -/
def h67 : Hint := .s (.r [(0, { n := 3 }), (1, { n := 3 }), (2, { zero := [(.int .i64 0), (.int .i64 0), (.slice none 0 0)], acc := [(2, 3004)] })]) (.s (.r [(0, { n := 3, agg := true }), (1, { n := 3, agg := true }), (5, { n := 3 })]) (.o))
theorem k67 : okF Tryz.prog Tryz.f67 h67 [(true, 3), (false, 0)] = true := by kernel_rfl

/- couplet/vec.Scale(couplet/frac.Frac) -/
def h68 : Hint := .s (.r [(0, { n := 3 }), (1, { acc := [(0, 4)] })]) (.s (.r [(0, { acc := [(0, 5)] })]) (.s (.s (.o) (.b (.l [.junk [0, 1, 2, 4, 6, 7, 11, 12, 13, 14, 15, 16, 17, 18, 19, 20, 21, 22], .drop [7]] (.s (.o) (.s (.s (.o) (.o)) (.s (.b (.s (.r [(0, { n := 3 }), (1, { n := 3, agg := true }), (2, { zero := [(.int .i64 0), (.int .i64 0), (.bool false)] }), (3, { n := 3 })]) (.r [(1, { n := 3, agg := true }), (3, { n := 3, agg := true }), (5, { n := 3 }), (6, { n := 3, t := 24 })]))) (.o))))))) (.s (.o) (.o))))
theorem k68 : okF Tryz.prog Tryz.f68 h68 [(false, 0)] = true := by kernel_rfl

/- (couplet/mat.Mat(couplet/frac.Frac)).Turn -/
def h69 : Hint := .s (.r [(0, { n := 3 }), (1, { zero := [(.int .i64 0), (.int .i64 0), (.slice none 0 0)], acc := [(2, 3002)] })]) (.s (.s (.r [(0, { n := 3, agg := true })]) (.s (.s (.r [(0, { zero := [(.int .i64 0), (.int .i64 0), (.slice none 0 0)], places := [(0, 1), (1, 1), (2, 1)] }), (1, { n := 3 })]) (.o)) (.o))) (.s (.r [(0, { off := 1 }), (1, { n := 1, agg := false }), (2, { off := 0 }), (3, { n := 1, agg := false }), (4, { zero := [(.int .i64 0), (.int .i64 0), (.slice none 0 0)], places := [(0, 1), (1, 1), (2, 1)] }), (5, { zero := [(.int .i64 0), (.int .i64 0), (.slice none 0 0)], acc := [(2, 3003)] }), (6, { n := 3 })]) (.s (.s (.r [(0, { off := 1 }), (1, { n := 1, agg := false })]) (.b (.l [.junk [0, 4, 5, 6, 7, 8, 9, 10, 11, 12, 13, 14, 15, 18, 19, 20, 21, 22, 23, 24, 25, 26, 27, 28, 29, 30, 31, 32, 33, 34, 35, 36], .row 2 2 15002, .row 3 2 15003] (.s (.o) (.s (.s (.o) (.o)) (.s (.b (.s (.o) (.s (.r [(0, { off := 0 }), (1, { n := 1, agg := false })]) (.b (.l [.junk [0, 5, 6, 7, 8, 9, 10, 11, 12, 13, 14, 15, 18, 19, 20, 23, 24, 25, 26, 27, 28, 29, 30, 31, 32, 33, 34, 35, 36], .row 2 2 15002, .row 3 2 15003] (.s (.o) (.s (.s (.o) (.o)) (.s (.b (.s (.o) (.r [(0, { off := 2 }), (1, { n := 1, agg := false }), (2, { n := 3, agg := true }), (6, { n := 3 }), (7, { n := 3, t := 24 }), (8, { off := 2 }), (9, { n := 1 })]))) (.o))))))))) (.o))))))) (.s (.r [(0, { n := 3, agg := true }), (1, { n := 3 })]) (.o)))))
theorem k69 : okF Tryz.prog Tryz.f69 h69 [(true, 3)] = true := by kernel_rfl

/- couplet/vec.Add(couplet/frac.Frac) -/
def h70 : Hint := .s (.r [(0, { acc := [(0, 4)] })]) (.s (.o) (.o))
theorem k70 : okF Tryz.prog Tryz.f70 h70 [(false, 0)] = true := by kernel_rfl

/- couplet/frac.Wrong -/
def h71 : Hint := .s (.r [(0, { zero := [(.int .i64 0), (.int .i64 0), (.bool false)] })]) (.s (.r [(0, { zero := [(.int .i64 0), (.int .i64 0), (.bool false)], places := [(0, 1), (1, 1), (2, 1)] }), (1, { n := 3 })]) (.o))
theorem k71 : okF Tryz.prog Tryz.f71 h71 [(true, 3)] = true := by kernel_rfl

/- couplet/frac.common -/
def h72 : Hint := .s (.o) (.s (.o) (.s (.b (.l [.junk [2, 3, 4, 5, 6, 7, 8, 9, 10, 11, 12, 13, 14, 15, 16, 17, 18, 19]] (.s (.s (.o) (.s (.o) (.o))) (.b (.o))))) (.s (.o) (.o))))
theorem k72 : okF Tryz.prog Tryz.f72 h72 [(false, 0)] = true := by kernel_rfl

/- couplet/env.Encloses -/
def h73 : Hint := .s (.r [(0, { n := 4 })]) (.s (.s (.r [(0, { n := 4, agg := true })]) (.s (.s (.o) (.o)) (.o))) (.s (.r [(0, { off := 1 }), (1, { n := 1, agg := false }), (8, { off := 2 }), (9, { n := 1, agg := false })]) (.o)))
theorem k73 : okF Tryz.prog Tryz.f73 h73 [(false, 0)] = true := by kernel_rfl

/- (couplet/mat.Mat(couplet/env.Num)).Right$1 -/
def h74 : Hint := .s (.o) (.s (.o) (.o))
theorem k74 : okF Tryz.prog Tryz.f74 h74 [(false, 0)] = true := by kernel_rfl

/- (couplet/mat.Mat(couplet/env.Num)).All -/
def h75 : Hint := .s (.r [(0, { n := 3 })]) (.s (.g [.freeze 1] (.o)) (.o))
theorem k75 : okF Tryz.prog Tryz.f75 h75 [(false, 0)] = true := by kernel_rfl

/- couplet/vec.Sum(couplet/env.Num) -/
def h76 : Hint := .s (.r [(0, { zero := [(.int .i64 0), (.int .i64 0), (.int .i64 0), (.bool false)] })]) (.s (.r [(0, { zero := [(.int .i64 0), (.int .i64 0), (.int .i64 0), (.bool false)] })]) (.s (.r [(0, { n := 4, agg := true }), (3, { zero := [(.int .i64 0), (.int .i64 0), (.int .i64 0), (.bool false)] }), (4, { n := 4 })]) (.s (.s (.o) (.b (.l [.junk [0, 1, 3, 5, 6, 7, 8, 9, 13, 14, 15, 16, 17, 18, 19, 20, 21], .drop [6]] (.s (.o) (.s (.s (.o) (.o)) (.s (.b (.s (.r [(0, { n := 4 }), (1, { n := 4, agg := true }), (2, { zero := [(.int .i64 0), (.int .i64 0), (.int .i64 0), (.bool false)] }), (3, { n := 4 })]) (.r [(0, { n := 4, agg := true }), (2, { n := 4, agg := true }), (4, { n := 4 })]))) (.o))))))) (.s (.r [(0, { n := 4, agg := true }), (1, { n := 4 })]) (.o)))))
theorem k76 : okF Tryz.prog Tryz.f76 h76 [(true, 4)] = true := by kernel_rfl

/- couplet/vec.of(couplet/env.Num) -/
def h77 : Hint := .s (.r [(0, { n := 1 }), (1, { acc := [(0, 6)] })]) (.s (.r [(0, { zero := [(.slice none 0 0)], acc := [(0, 1007)] })]) (.s (.s (.o) (.b (.f [.drop [8, 9], .row 7 0 5007] (.s (.r [(0, { zero := [(.int .i64 0), (.int .i64 0), (.int .i64 0), (.bool false)] }), (1, { n := 4 })]) (.r [(0, { zero := [(.int .i64 0), (.int .i64 0), (.int .i64 0), (.bool false)] }), (1, { n := 4 })])) (.b (.r [(0, { n := 1, agg := false }), (1, { n := 1, agg := false }), (2, { n := 4, agg := true }), (3, { n := 4, agg := true }), (5, { n := 4 }), (6, { n := 4, t := 32 }), (7, { n := 1 })]))))) (.s (.r [(0, { n := 1, agg := false })]) (.o))))
theorem k77 : okF Tryz.prog Tryz.f77 h77 [(false, 0)] = true := by kernel_rfl

/- couplet/vec.Dot(couplet/env.Num)$1 -/
def h78 : Hint := .s (.r [(0, { n := 4 }), (1, { n := 4 }), (2, { zero := [(.int .i64 0), (.int .i64 0), (.int .i64 0), (.bool false)] })]) (.s (.r [(0, { n := 4, agg := true }), (2, { n := 4, agg := true }), (4, { n := 4 })]) (.o))
theorem k78 : okF Tryz.prog Tryz.f78 h78 [(true, 4)] = true := by kernel_rfl

/- (couplet/mat.Mat(couplet/env.Num)).each -/
def h79 : Hint := .s (.r [(0, { n := 3 }), (1, { n := 3 }), (2, { zero := [(.int .i64 0), (.int .i64 0), (.slice none 0 0)], acc := [(2, 3006)] })]) (.s (.s (.r [(0, { n := 3, agg := true }), (4, { n := 3, agg := true }), (9, { off := 0 }), (10, { n := 1, agg := false }), (11, { off := 0 }), (12, { n := 1, agg := false }), (16, { off := 1 }), (17, { n := 1, agg := false }), (18, { off := 1 }), (19, { n := 1, agg := false })]) (.s (.s (.r [(0, { zero := [(.int .i64 0), (.int .i64 0), (.slice none 0 0)], places := [(0, 1), (1, 1), (2, 1)] }), (1, { n := 3 })]) (.o)) (.o))) (.s (.r [(0, { off := 0 }), (1, { n := 1, agg := false }), (2, { off := 1 }), (3, { n := 1, agg := false }), (5, { off := 2 }), (6, { n := 1, agg := false }), (7, { off := 2 }), (8, { n := 1, agg := false }), (10, { zero := [(.int .i64 0), (.int .i64 0), (.slice none 0 0)], places := [(0, 1), (1, 1), (2, 1)] }), (11, { n := 3 })]) (.o)))
theorem k79 : okF Tryz.prog Tryz.f79 h79 [(true, 3), (false, 0)] = true := by kernel_rfl

/- couplet/vec.Sub(couplet/env.Num) -/
def h80 : Hint := .s (.r [(0, { acc := [(0, 4)] })]) (.s (.o) (.o))
theorem k80 : okF Tryz.prog Tryz.f80 h80 [(false, 0)] = true := by kernel_rfl

/- (couplet/mat.Mat(couplet/env.Num)).Add -/
def h81 : Hint := .s (.r [(0, { n := 3 }), (1, { n := 3 }), (2, { zero := [(.int .i64 0), (.int .i64 0), (.slice none 0 0)], acc := [(2, 3004)] })]) (.s (.r [(0, { n := 3, agg := true }), (1, { n := 3, agg := true }), (5, { n := 3 })]) (.o))
theorem k81 : okF Tryz.prog Tryz.f81 h81 [(true, 3), (false, 0)] = true := by kernel_rfl

/- couplet/vec.Add(couplet/env.Num)$1 -/
def h82 : Hint := .s (.r [(0, { n := 4 }), (1, { n := 4 }), (2, { zero := [(.int .i64 0), (.int .i64 0), (.int .i64 0), (.bool false)] })]) (.s (.r [(0, { n := 4, agg := true }), (2, { n := 4, agg := true }), (4, { n := 4 })]) (.o))
theorem k82 : okF Tryz.prog Tryz.f82 h82 [(true, 4)] = true := by kernel_rfl

/- slices.Clone(()couplet/frac.Frac,couplet/frac.Frac) -/
def h83 : Hint := .s (.r [(0, { acc := [(0, 2)] })]) (.s (.s (.r [(1, { n := 3, t := 1 })]) (.s (.s (.r [(0, { acc := [(0, 2)] })]) (.o)) (.o))) (.s (.r [(0, { n := 3 }), (2, { n := 3, t := 24 })]) (.o)))
theorem k83 : okF Tryz.prog Tryz.f83 h83 [(false, 0)] = true := by kernel_rfl
/- slices.Clone(()couplet/frac.Frac,couplet/frac.Frac) -/
/- (couplet/mat.Mat(couplet/frac.Frac)).Right -/
def h84 : Hint := .s (.r [(0, { n := 3 })]) (.s (.o) (.s (.r [(1, { off := 0 }), (2, { n := 1, agg := false }), (6, { off := 1 }), (7, { n := 1, agg := false }), (11, { off := 2 }), (12, { n := 1, agg := false }), (14, { off := 0 }), (15, { n := 1, agg := false }), (16, { off := 1 }), (17, { n := 1, agg := false })]) (.o)))
theorem k84 : okF Tryz.prog Tryz.f84 h84 [(false, 0)] = true := by kernel_rfl

/- couplet/coupletref03.Fine -/
/- couplet/coupletref03.one -/
/- couplet/tri.square(couplet/env.Num) -/
def h87 : Hint := .s (.r [(0, { n := 3 })]) (.s (.r [(0, { n := 3, agg := true }), (3, { off := 0 }), (4, { n := 1, agg := false }), (5, { off := 1 }), (6, { n := 1, agg := false })]) (.o))
theorem k87 : okF Tryz.prog Tryz.f87 h87 [(false, 0)] = true := by kernel_rfl

/- couplet/wide.MulDiv -/
def h88 : Hint := .s (.o) (.s (.s (.o) (.s (.s (.o) (.o)) (.o))) (.s (.r [(7, { zero := [(.int .u64 0), (.int .u64 0)] }), (8, { n := 2 })]) (.s (.s (.r [(0, { n := 1, t := 2 }), (1, { n := 1, agg := false })]) (.s (.s (.o) (.o)) (.o))) (.s (.r [(0, { n := 1, t := 2 }), (1, { n := 1, agg := false }), (2, { n := 1, t := 2 }), (3, { n := 1, agg := false })]) (.s (.r [(4, { n := 1 }), (7, { n := 1 })]) (.s (.o) (.s (.b (.s (.o) (.s (.o) (.s (.o) (.s (.o) (.r [(3, { n := 1 })])))))) (.s (.s (.o) (.s (.s (.o) (.o)) (.o))) (.s (.s (.o) (.s (.o) (.o))) (.s (.s (.o) (.s (.s (.r [(1, { ks := [some .i64] })]) (.o)) (.o))) (.s (.r [(1, { ks := [some .i64] })]) (.o))))))))))))
theorem k88 : okF Tryz.prog Tryz.f88 h88 [(false, 0), (false, 0)] = true := by kernel_rfl

/- couplet/fx.told -/
def h89 : Hint := .s (.o) (.s (.s (.r [(2, { n := 1 }), (3, { n := 1, t := 8 })]) (.b (.l [.junk [2, 3, 4, 5, 6, 7, 8, 9, 10, 11, 12, 16, 17, 18, 19, 20, 21, 22, 23, 24, 25, 26, 27]] (.s (.o) (.s (.s (.o) (.o)) (.s (.b (.s (.r [(0, { n := 1 }), (1, { n := 1, agg := false })]) (.s (.o) (.s (.s (.o) (.o)) (.o))))) (.o))))))) (.s (.o) (.o)))
theorem k89 : okF Tryz.prog Tryz.f89 h89 [(false, 0), (false, 0)] = true := by kernel_rfl

/- couplet/tri.square(couplet/frac.Frac) -/
def h90 : Hint := .s (.r [(0, { n := 3 })]) (.s (.r [(0, { n := 3, agg := true }), (3, { off := 0 }), (4, { n := 1, agg := false }), (5, { off := 1 }), (6, { n := 1, agg := false })]) (.o))
theorem k90 : okF Tryz.prog Tryz.f90 h90 [(false, 0)] = true := by kernel_rfl

/- (couplet/mat.Mat(couplet/frac.Frac)).Mirror -/
def h91 : Hint := .s (.r [(0, { n := 3 }), (1, { zero := [(.int .i64 0), (.int .i64 0), (.slice none 0 0)], acc := [(2, 3002)] })]) (.s (.s (.r [(0, { n := 3, agg := true }), (4, { off := 0 }), (5, { n := 1, agg := false }), (6, { off := 1 }), (7, { n := 1, agg := false })]) (.s (.s (.r [(0, { zero := [(.int .i64 0), (.int .i64 0), (.slice none 0 0)], places := [(0, 1), (1, 1), (2, 1)] }), (1, { n := 3 })]) (.o)) (.o))) (.s (.r [(0, { off := 0 }), (1, { n := 1, agg := false }), (2, { off := 1 }), (3, { n := 1, agg := false }), (4, { zero := [(.int .i64 0), (.int .i64 0), (.slice none 0 0)], places := [(0, 1), (1, 1), (2, 1)] }), (5, { zero := [(.int .i64 0), (.int .i64 0), (.slice none 0 0)], acc := [(2, 3004)] }), (6, { n := 3 })]) (.s (.s (.r [(0, { off := 0 }), (1, { n := 1, agg := false })]) (.b (.l [.junk [0, 3, 5, 6, 7, 8, 9, 10, 11, 12, 13, 14, 15, 16, 17, 18, 19, 20, 21, 22, 23, 26, 27, 28, 29, 30, 31, 32, 33, 34, 35, 36, 37, 38, 39, 40, 41, 42, 43, 44, 45, 46, 47, 48], .row 2 2 15002, .row 4 2 15004] (.s (.o) (.s (.s (.o) (.o)) (.s (.b (.s (.o) (.s (.r [(0, { off := 1 }), (1, { n := 1, agg := false })]) (.b (.l [.junk [0, 3, 6, 7, 8, 9, 10, 11, 12, 13, 14, 15, 16, 17, 18, 19, 20, 21, 22, 23, 26, 27, 28, 31, 32, 33, 34, 35, 36, 37, 38, 39, 40, 41, 42, 43, 44, 45, 46, 47, 48], .row 2 2 15002, .row 4 2 15004] (.s (.o) (.s (.s (.o) (.o)) (.s (.b (.s (.o) (.r [(0, { off := 2 }), (1, { n := 1, agg := false }), (2, { n := 3, agg := true }), (10, { n := 3 }), (11, { n := 3, t := 24 }), (12, { off := 2 }), (13, { n := 1 })]))) (.o))))))))) (.o))))))) (.s (.r [(0, { n := 3, agg := true }), (1, { n := 3 })]) (.o)))))
theorem k91 : okF Tryz.prog Tryz.f91 h91 [(true, 3), (false, 0)] = true := by kernel_rfl

/- (couplet/mat.Mat(couplet/frac.Frac)).All -/
def h92 : Hint := .s (.r [(0, { n := 3 })]) (.s (.g [.freeze 1] (.o)) (.o))
theorem k92 : okF Tryz.prog Tryz.f92 h92 [(false, 0)] = true := by kernel_rfl

/- (couplet/mat.Mat(couplet/frac.Frac)).Add -/
def h93 : Hint := .s (.r [(0, { n := 3 }), (1, { n := 3 }), (2, { zero := [(.int .i64 0), (.int .i64 0), (.slice none 0 0)], acc := [(2, 3004)] })]) (.s (.r [(0, { n := 3, agg := true }), (1, { n := 3, agg := true }), (5, { n := 3 })]) (.o))
theorem k93 : okF Tryz.prog Tryz.f93 h93 [(true, 3), (false, 0)] = true := by kernel_rfl

/- couplet/vec.Sum(couplet/frac.Frac) -/
def h94 : Hint := .s (.r [(0, { zero := [(.int .i64 0), (.int .i64 0), (.bool false)] })]) (.s (.r [(0, { zero := [(.int .i64 0), (.int .i64 0), (.bool false)] })]) (.s (.r [(0, { n := 3, agg := true }), (3, { zero := [(.int .i64 0), (.int .i64 0), (.bool false)] }), (4, { n := 3 })]) (.s (.s (.o) (.b (.l [.junk [0, 1, 3, 5, 6, 7, 8, 9, 13, 14, 15, 16, 17, 18, 19, 20, 21], .drop [6]] (.s (.o) (.s (.s (.o) (.o)) (.s (.b (.s (.r [(0, { n := 3 }), (1, { n := 3, agg := true }), (2, { zero := [(.int .i64 0), (.int .i64 0), (.bool false)] }), (3, { n := 3 })]) (.r [(0, { n := 3, agg := true }), (2, { n := 3, agg := true }), (4, { n := 3 })]))) (.o))))))) (.s (.r [(0, { n := 3, agg := true }), (1, { n := 3 })]) (.o)))))
theorem k94 : okF Tryz.prog Tryz.f94 h94 [(true, 3)] = true := by kernel_rfl

/- couplet/vec.of(couplet/frac.Frac) -/
def h95 : Hint := .s (.r [(0, { n := 1 }), (1, { acc := [(0, 6)] })]) (.s (.r [(0, { zero := [(.slice none 0 0)], acc := [(0, 1007)] })]) (.s (.s (.o) (.b (.f [.drop [8, 9], .row 7 0 5007] (.s (.r [(0, { zero := [(.int .i64 0), (.int .i64 0), (.bool false)] }), (1, { n := 3 })]) (.r [(0, { zero := [(.int .i64 0), (.int .i64 0), (.bool false)] }), (1, { n := 3 })])) (.b (.r [(0, { n := 1, agg := false }), (1, { n := 1, agg := false }), (2, { n := 3, agg := true }), (3, { n := 3, agg := true }), (5, { n := 3 }), (6, { n := 3, t := 24 }), (7, { n := 1 })]))))) (.s (.r [(0, { n := 1, agg := false })]) (.o))))
theorem k95 : okF Tryz.prog Tryz.f95 h95 [(false, 0)] = true := by kernel_rfl

/- couplet/vec.Dot(couplet/frac.Frac)$1 -/
def h96 : Hint := .s (.r [(0, { n := 3 }), (1, { n := 3 }), (2, { zero := [(.int .i64 0), (.int .i64 0), (.bool false)] })]) (.s (.r [(0, { n := 3, agg := true }), (2, { n := 3, agg := true }), (4, { n := 3 })]) (.o))
theorem k96 : okF Tryz.prog Tryz.f96 h96 [(true, 3)] = true := by kernel_rfl

/- (couplet/mat.Mat(couplet/frac.Frac)).each -/
def h97 : Hint := .s (.r [(0, { n := 3 }), (1, { n := 3 }), (2, { zero := [(.int .i64 0), (.int .i64 0), (.slice none 0 0)], acc := [(2, 3006)] })]) (.s (.s (.r [(0, { n := 3, agg := true }), (4, { n := 3, agg := true }), (9, { off := 0 }), (10, { n := 1, agg := false }), (11, { off := 0 }), (12, { n := 1, agg := false }), (16, { off := 1 }), (17, { n := 1, agg := false }), (18, { off := 1 }), (19, { n := 1, agg := false })]) (.s (.s (.r [(0, { zero := [(.int .i64 0), (.int .i64 0), (.slice none 0 0)], places := [(0, 1), (1, 1), (2, 1)] }), (1, { n := 3 })]) (.o)) (.o))) (.s (.r [(0, { off := 0 }), (1, { n := 1, agg := false }), (2, { off := 1 }), (3, { n := 1, agg := false }), (5, { off := 2 }), (6, { n := 1, agg := false }), (7, { off := 2 }), (8, { n := 1, agg := false }), (10, { zero := [(.int .i64 0), (.int .i64 0), (.slice none 0 0)], places := [(0, 1), (1, 1), (2, 1)] }), (11, { n := 3 })]) (.o)))
theorem k97 : okF Tryz.prog Tryz.f97 h97 [(true, 3), (false, 0)] = true := by kernel_rfl

/- couplet/vec.Sub(couplet/frac.Frac) -/
def h98 : Hint := .s (.r [(0, { acc := [(0, 4)] })]) (.s (.o) (.o))
theorem k98 : okF Tryz.prog Tryz.f98 h98 [(false, 0)] = true := by kernel_rfl

/- couplet/vec.Add(couplet/frac.Frac)$1 -/
def h99 : Hint := .s (.r [(0, { n := 3 }), (1, { n := 3 }), (2, { zero := [(.int .i64 0), (.int .i64 0), (.bool false)] })]) (.s (.r [(0, { n := 3, agg := true }), (2, { n := 3, agg := true }), (4, { n := 3 })]) (.o))
theorem k99 : okF Tryz.prog Tryz.f99 h99 [(true, 3)] = true := by kernel_rfl

/- (couplet/env.Num).Fine -/
def h100 : Hint := .s (.r [(0, { n := 4 })]) (.s (.r [(0, { off := 3 }), (1, { n := 1, agg := false }), (4, { off := 1 }), (5, { n := 1, agg := false }), (9, { off := 2 }), (10, { n := 1, agg := false }), (14, { off := 1 }), (15, { n := 1, agg := false }), (16, { off := 0 }), (17, { n := 1, agg := false }), (21, { off := 0 }), (22, { n := 1, agg := false }), (23, { off := 2 }), (24, { n := 1, agg := false })]) (.o))
theorem k100 : okF Tryz.prog Tryz.f100 h100 [(false, 0)] = true := by kernel_rfl

/- couplet/wide.Right -/
def h101 : Hint := .s (.o) (.s (.o) (.o))
theorem k101 : okF Tryz.prog Tryz.f101 h101 [(false, 0)] = true := by kernel_rfl

/- couplet/wide.Compare -/
def h102 : Hint := .s (.o) (.s (.s (.r [(4, { zero := [(.int .i64 0), (.int .i64 0), (.int .i64 0), (.int .i64 0)], places := [(0, 1), (1, 1), (2, 1), (3, 1)] })]) (.b (.l [.junk [4, 5, 6, 7, 8, 9, 10, 11, 12, 13, 14, 15, 16, 17, 18, 19, 22, 23, 24, 25, 26, 27, 28, 29, 30, 31, 32, 33, 34, 35, 36, 37, 38, 39, 40, 41, 42, 43, 44, 45, 46, 47, 48, 49, 50, 51, 52, 53, 54, 55, 56, 57, 58, 59, 60, 61, 62, 63, 64, 65, 66, 67, 68, 69, 70, 71, 72, 73, 74, 75, 76, 77, 78, 79, 80, 81, 82, 83, 84]] (.s (.o) (.s (.s (.o) (.o)) (.s (.b (.s (.r [(0, { n := 1, agg := false, t := 4 })]) (.s (.o) (.s (.s (.o) (.o)) (.o))))) (.o))))))) (.s (.o) (.s (.o) (.s (.r [(10, { zero := [(.int .u64 0), (.int .u64 0)] }), (11, { zero := [(.int .u64 0), (.int .u64 0)] }), (12, { n := 2 }), (13, { n := 2 })]) (.s (.b (.s (.s (.o) (.s (.o) (.s (.r [(8, { n := 2, agg := true }), (9, { n := 2, agg := true })]) (.s (.o) (.r [(8, { n := 2, agg := true }), (9, { n := 2, agg := true })]))))) (.s (.s (.o) (.o)) (.s (.s (.o) (.s (.o) (.r [(0, { n := 2, agg := true }), (1, { n := 2, agg := true }), (2, { n := 5, ks := [some .u64, some .u64] })]))) (.s (.s (.o) (.o)) (.o)))))) (.s (.o) (.o)))))))
theorem k102 : okF Tryz.prog Tryz.f102 h102 [(false, 0)] = true := by kernel_rfl

/- (couplet/mat.Mat(couplet/env.Num)).All$1 -/
def h103 : Hint := .s (.o) (.b (.l [.junk [2, 4, 5, 6, 7, 8, 9, 10, 11, 12, 13, 14, 15, 16, 17, 18, 19, 20]] (.s (.s (.r [(0, { n := 3, agg := true }), (4, { off := 0 }), (5, { n := 1, agg := false })]) (.s (.o) (.o))) (.s (.b (.s (.r [(2, { n := 3, agg := true })]) (.s (.o) (.o)))) (.o)))))
theorem k103 : okF Tryz.prog Tryz.f103 h103 [] = true := by kernel_rfl

/- (couplet/mat.Mat(couplet/env.Num)).Row -/
def h104 : Hint := .s (.r [(0, { n := 3 }), (1, { acc := [(0, 4)] })]) (.s (.s (.r [(0, { n := 3, agg := true }), (9, { off := 0 }), (10, { n := 1, agg := false })]) (.s (.s (.r [(0, { acc := [(0, 4)] })]) (.o)) (.o))) (.s (.r [(0, { off := 2 }), (1, { n := 1, agg := false }), (3, { off := 1 }), (4, { n := 1, agg := false }), (8, { off := 1 }), (9, { n := 1, agg := false }), (11, { n := 4 })]) (.o)))
theorem k104 : okF Tryz.prog Tryz.f104 h104 [(false, 0)] = true := by kernel_rfl

/- couplet/vec.Pairs(couplet/env.Num) -/
def h105 : Hint := .s (.r [(0, { n := 1 }), (1, { n := 1 })]) (.s (.g [.freeze 2, .freeze 3] (.o)) (.o))
theorem k105 : okF Tryz.prog Tryz.f105 h105 [(false, 0)] = true := by kernel_rfl

/- couplet/vec.Sub(couplet/env.Num)$1 -/
def h106 : Hint := .s (.r [(0, { n := 4 }), (1, { n := 4 }), (2, { zero := [(.int .i64 0), (.int .i64 0), (.int .i64 0), (.bool false)] })]) (.s (.r [(0, { n := 4, agg := true }), (2, { n := 4, agg := true }), (4, { n := 4 })]) (.o))
theorem k106 : okF Tryz.prog Tryz.f106 h106 [(true, 4)] = true := by kernel_rfl

/- (couplet/mat.Mat(couplet/frac.Frac)).Right$1 -/
def h107 : Hint := .s (.o) (.s (.o) (.o))
theorem k107 : okF Tryz.prog Tryz.f107 h107 [(false, 0)] = true := by kernel_rfl

/- couplet/coupletref02.Right -/
/- couplet/coupletref02.Told -/
/- couplet/coupletref02.Mul -/
/- couplet/coupletref02.Div -/
/- couplet/coupletref02.Root -/
/- couplet/coupletref01.Less -/
/- couplet/coupletref01.Times -/
/- couplet/wide.right -/
def h115 : Hint := .s (.o) (.s (.o) (.o))
theorem k115 : okF Tryz.prog Tryz.f115 h115 [(false, 0)] = true := by kernel_rfl

/- couplet/wide.times -/
def h116 : Hint := .s (.r [(0, { zero := [(.int .u64 0), (.int .u64 0)] })]) (.s (.o) (.s (.r [(2, { zero := [(.int .u64 0), (.int .u64 0)], places := [(0, 1), (1, 1)] }), (3, { n := 2 })]) (.o)))
theorem k116 : okF Tryz.prog Tryz.f116 h116 [(true, 2)] = true := by kernel_rfl

/- couplet/wide.size -/
def h117 : Hint := .s (.o) (.s (.r [(4, { ks := [some .u64] })]) (.o))
theorem k117 : okF Tryz.prog Tryz.f117 h117 [(false, 0)] = true := by kernel_rfl

/- math/bits.Div64 -/
def h118 : Hint := .s (.o) (.s (.s (.o) (.s (.no) (.o))) (.s (.s (.o) (.s (.no) (.o))) (.s (.s (.o) (.s (.s (.o) (.o)) (.o))) (.s (.r [(2, { ks := [some .u64] })]) (.s (.o) (.s (.o) (.s (.o) (.s (.o) (.s (.o) (.s (.o) (.s (.o) (.s (.o) (.s (.o) (.s (.b (.l [.junk [0, 1, 3, 4, 5, 6, 7, 12, 17, 18, 19, 20, 21, 22, 23, 24, 25, 26, 27, 28, 29, 30, 31, 32, 33, 34, 35, 36, 37, 38, 39, 40, 41, 42, 43, 44, 45, 46, 47, 48, 49, 50, 51, 52, 53, 54, 55, 56, 57, 58, 59, 60, 61, 62, 63, 64, 65, 66, 67, 68, 69, 70, 71, 72, 73, 74, 75, 76, 77, 78, 79, 80, 81, 82, 83, 84, 85, 86, 87, 88, 89, 90, 91, 92, 93, 94, 95, 96, 97, 98, 99, 100, 101, 102, 103, 104, 105, 106, 107, 108, 109, 110, 111, 112, 113, 114, 115, 116, 117, 118, 119, 120, 121, 122, 123, 124, 125, 126, 127, 128, 129, 130, 131, 132, 133, 134]] (.s (.s (.o) (.s (.o) (.o))) (.b (.s (.o) (.s (.o) (.s (.o) (.s (.o) (.o))))))))) (.s (.o) (.s (.o) (.s (.o) (.s (.b (.l [.junk [0, 1, 3, 4, 5, 6, 7, 11, 12, 13, 19, 20, 21, 22, 23, 24, 25, 26, 27, 28, 29, 30, 31, 32, 33, 34, 35, 36, 37, 38, 39, 40, 41, 42, 43, 44, 45, 46, 47, 48, 49, 50, 51, 52, 53, 54, 55, 56, 57, 58, 59, 60, 61, 62, 63, 64, 65, 66, 67, 68, 69, 70, 71, 72, 73, 74, 75, 76, 77, 78, 79, 80, 81, 82, 83, 84, 85, 86, 87, 88, 89, 90, 91, 92, 93, 94, 95, 96, 97, 98, 99, 100, 101, 102, 103, 104, 105, 106, 107, 108, 109, 110, 111, 112, 113, 114, 115, 116, 117, 118, 119, 120, 121, 122, 123, 124, 125, 126, 127, 128, 129, 130, 131, 132, 133, 134]] (.s (.s (.o) (.s (.o) (.o))) (.b (.s (.o) (.s (.o) (.s (.o) (.s (.o) (.o))))))))) (.s (.o) (.o))))))))))))))))))))
theorem k118 : okF Tryz.prog Tryz.f118 h118 [(false, 0), (false, 0)] = true := by kernel_rfl

/- (couplet/mat.Mat(couplet/frac.Frac)).All$1 -/
def h119 : Hint := .s (.o) (.b (.l [.junk [2, 4, 5, 6, 7, 8, 9, 10, 11, 12, 13, 14, 15, 16, 17, 18, 19, 20]] (.s (.s (.r [(0, { n := 3, agg := true }), (4, { off := 0 }), (5, { n := 1, agg := false })]) (.s (.o) (.o))) (.s (.b (.s (.r [(2, { n := 3, agg := true })]) (.s (.o) (.o)))) (.o)))))
theorem k119 : okF Tryz.prog Tryz.f119 h119 [] = true := by kernel_rfl

/- (couplet/mat.Mat(couplet/frac.Frac)).Row -/
def h120 : Hint := .s (.r [(0, { n := 3 }), (1, { acc := [(0, 4)] })]) (.s (.s (.r [(0, { n := 3, agg := true }), (9, { off := 0 }), (10, { n := 1, agg := false })]) (.s (.s (.r [(0, { acc := [(0, 4)] })]) (.o)) (.o))) (.s (.r [(0, { off := 2 }), (1, { n := 1, agg := false }), (3, { off := 1 }), (4, { n := 1, agg := false }), (8, { off := 1 }), (9, { n := 1, agg := false }), (11, { n := 3 })]) (.o)))
theorem k120 : okF Tryz.prog Tryz.f120 h120 [(false, 0)] = true := by kernel_rfl

/- couplet/vec.Pairs(couplet/frac.Frac) -/
def h121 : Hint := .s (.r [(0, { n := 1 }), (1, { n := 1 })]) (.s (.g [.freeze 2, .freeze 3] (.o)) (.o))
theorem k121 : okF Tryz.prog Tryz.f121 h121 [(false, 0)] = true := by kernel_rfl

/- couplet/vec.Sub(couplet/frac.Frac)$1 -/
def h122 : Hint := .s (.r [(0, { n := 3 }), (1, { n := 3 }), (2, { zero := [(.int .i64 0), (.int .i64 0), (.bool false)] })]) (.s (.r [(0, { n := 3, agg := true }), (2, { n := 3, agg := true }), (4, { n := 3 })]) (.o))
theorem k122 : okF Tryz.prog Tryz.f122 h122 [(true, 3)] = true := by kernel_rfl

/- couplet/wide.Compare$1 -/
def h123 : Hint := .s (.o) (.s (.b (.s (.o) (.s (.s (.o) (.o)) (.s (.r [(4, { n := 1 })]) (.s (.s (.o) (.o)) (.o)))))) (.s (.o) (.o)))
theorem k123 : okF Tryz.prog Tryz.f123 h123 [(false, 0)] = true := by kernel_rfl

/- couplet/wide.below -/
def h124 : Hint := .s (.r [(0, { n := 2 }), (1, { n := 2 })]) (.s (.r [(0, { n := 1, t := 2 }), (1, { n := 1, agg := false }), (2, { n := 1, t := 2 }), (3, { n := 1, agg := false }), (6, { n := 1, t := 2 }), (7, { n := 1, agg := false }), (8, { n := 1, t := 2 }), (9, { n := 1, agg := false }), (12, { n := 1, t := 2 }), (13, { n := 1, agg := false }), (14, { n := 1, t := 2 }), (15, { n := 1, agg := false })]) (.o))
theorem k124 : okF Tryz.prog Tryz.f124 h124 [(false, 0)] = true := by kernel_rfl

/- couplet/vec.Pairs(couplet/env.Num)$1 -/
def h125 : Hint := .s (.r [(0, { n := 1, agg := false }), (2, { n := 1, agg := false })]) (.b (.l [.junk [3, 4, 5, 6, 7, 8, 11, 12, 13, 14, 15, 16, 17, 18, 19, 20, 21, 22, 23, 24]] (.s (.o) (.s (.s (.o) (.o)) (.s (.b (.s (.o) (.s (.y [(1, { n := 1, agg := false }), (3, { n := 4 }), (4, { n := 4, agg := true }), (5, { n := 1, agg := false }), (7, { n := 4 }), (8, { n := 4, agg := true })]) (.s (.o) (.o))))) (.o))))))
theorem k125 : okF Tryz.prog Tryz.f125 h125 [] = true := by kernel_rfl

/- couplet/coupletref01.MulDiv -/
/- couplet/coupletref01.Root -/
/- couplet/coupletref01.Bits -/
/- couplet/coupletref01.Add -/
/- couplet/coupletref01.Up -/
/- math/bits.Mul64 -/
def h131 : Hint := .s (.o) (.s (.o) (.s (.o) (.s (.o) (.s (.o) (.s (.o) (.s (.o) (.s (.o) (.s (.o) (.s (.o) (.s (.o) (.s (.o) (.o))))))))))))
theorem k131 : okF Tryz.prog Tryz.f131 h131 [(false, 0), (false, 0)] = true := by kernel_rfl

/- math/bits.LeadingZeros64 -/
def h132 : Hint := .s (.o) (.s (.o) (.o))
/- couplet/vec.Pairs(couplet/frac.Frac)$1 -/
def h133 : Hint := .s (.r [(0, { n := 1, agg := false }), (2, { n := 1, agg := false })]) (.b (.l [.junk [3, 4, 5, 6, 7, 8, 11, 12, 13, 14, 15, 16, 17, 18, 19, 20, 21, 22, 23, 24]] (.s (.o) (.s (.s (.o) (.o)) (.s (.b (.s (.o) (.s (.y [(1, { n := 1, agg := false }), (3, { n := 3 }), (4, { n := 3, agg := true }), (5, { n := 1, agg := false }), (7, { n := 3 }), (8, { n := 3, agg := true })]) (.s (.o) (.o))))) (.o))))))
theorem k133 : okF Tryz.prog Tryz.f133 h133 [] = true := by kernel_rfl

/- couplet/coupletref01.Right -/
/- couplet/coupletref01.size -/
/- couplet/coupletref01.Sub -/
/- couplet/coupletref01.Number -/
/- math/bits.Len64 -/
/- (couplet/env.Num).Add -/
def h154 : Hint := .s (.r [(0, { n := 4 }), (1, { n := 4 }), (2, { zero := [(.int .i64 0), (.int .i64 0), (.int .i64 0), (.bool false)] })]) (.s (.o) (.s (.r [(0, { n := 4, agg := true }), (1, { n := 4, agg := true }), (3, { off := 1 }), (4, { n := 1, agg := false }), (5, { off := 1 }), (6, { n := 1, agg := false }), (7, { zero := [(.int .i64 0), (.int .i64 0)], places := [(0, 1), (1, 1)] }), (8, { off := 2 }), (9, { n := 1, agg := false }), (10, { off := 2 }), (11, { n := 1, agg := false }), (12, { zero := [(.int .i64 0), (.int .i64 0)], places := [(0, 1), (1, 1)] }), (13, { n := 2 }), (15, { n := 4 })]) (.o)))
theorem k154 : okF Tryz.prog Tryz.f154 h154 [(true, 4)] = true := by kernel_rfl

/- (couplet/env.Num).Div -/
def h155 : Hint := .s (.r [(0, { n := 4 }), (1, { n := 4 }), (2, { zero := [(.int .i64 0), (.int .i64 0), (.int .i64 0), (.bool false)] })]) (.s (.s (.r [(0, { off := 1 }), (1, { n := 1, agg := false }), (4, { off := 2 }), (5, { n := 1, agg := false })]) (.s (.s (.r [(1, { n := 4 })]) (.o)) (.o))) (.s (.r [(0, { n := 4, agg := true }), (1, { n := 4, agg := true }), (2, { n := 4, agg := true }), (3, { n := 4, agg := true }), (6, { n := 4 })]) (.o)))
theorem k155 : okF Tryz.prog Tryz.f155 h155 [(true, 4)] = true := by kernel_rfl

/- (couplet/env.Num).Mul -/
def h156 : Hint := .s (.r [(0, { n := 4 }), (1, { n := 4 }), (2, { zero := [(.int .i64 0), (.int .i64 0), (.int .i64 0), (.bool false)] })]) (.s (.r [(0, { n := 4, agg := true }), (1, { n := 4, agg := true }), (2, { n := 4, agg := true }), (3, { n := 4, agg := true }), (6, { n := 4 })]) (.o))
theorem k156 : okF Tryz.prog Tryz.f156 h156 [(true, 4)] = true := by kernel_rfl

/- (couplet/env.Num).Sub -/
def h157 : Hint := .s (.r [(0, { n := 4 }), (1, { n := 4 }), (2, { zero := [(.int .i64 0), (.int .i64 0), (.int .i64 0), (.bool false)] })]) (.s (.o) (.s (.r [(0, { n := 4, agg := true }), (1, { n := 4, agg := true }), (3, { off := 1 }), (4, { n := 1, agg := false }), (5, { off := 2 }), (6, { n := 1, agg := false }), (7, { zero := [(.int .i64 0), (.int .i64 0)], places := [(0, 1), (1, 1)] }), (8, { off := 2 }), (9, { n := 1, agg := false }), (10, { off := 1 }), (11, { n := 1, agg := false }), (12, { zero := [(.int .i64 0), (.int .i64 0)], places := [(0, 1), (1, 1)] }), (13, { n := 2 }), (15, { n := 4 })]) (.o)))
theorem k157 : okF Tryz.prog Tryz.f157 h157 [(true, 4)] = true := by kernel_rfl

/- (couplet/env.Num).Add$1 -/
def h158 : Hint := .s (.o) (.s (.o) (.o))
theorem k158 : okF Tryz.prog Tryz.f158 h158 [(false, 0), (false, 0)] = true := by kernel_rfl

/- couplet/fx.Add -/
def h159 : Hint := .s (.o) (.s (.s (.o) (.s (.s (.o) (.o)) (.o))) (.s (.o) (.o)))
theorem k159 : okF Tryz.prog Tryz.f159 h159 [(false, 0), (false, 0)] = true := by kernel_rfl

/- couplet/env.made -/
def h160 : Hint := .s (.r [(0, { n := 4 }), (1, { n := 4 }), (2, { zero := [(.int .i64 0), (.int .i64 0), (.int .i64 0), (.bool false)] })]) (.s (.r [(1, { off := 0 }), (2, { n := 1, agg := false }), (3, { off := 0 }), (4, { n := 1, agg := false })]) (.s (.r [(0, { acc := [(0, 11)] }), (1, { acc := [(0, 12)] })]) (.s (.s (.o) (.b (.l [.junk [0, 1, 3, 6, 7, 13, 14, 15, 16, 17, 18, 19, 20, 21, 22, 23, 24, 25, 26, 27, 31, 32, 33, 34, 35, 36, 37, 38, 39, 40, 41, 42, 43, 44, 45, 46, 47, 48, 49, 50, 51, 52, 53, 54, 55, 56, 57, 58, 59, 60, 61, 62, 63, 64, 65, 66, 67, 68, 69, 70, 71, 72, 73, 74, 75, 76, 77, 78, 79, 80, 81, 82, 83, 84, 85, 86], .drop [14]] (.s (.o) (.s (.s (.o) (.o)) (.s (.b (.s (.r [(0, { n := 2 }), (1, { n := 2, agg := true }), (2, { zero := [(.int .i64 0), (.int .i64 0)] }), (3, { n := 2 })]) (.s (.r [(1, { n := 1, t := 2 }), (2, { n := 1, agg := false }), (3, { n := 1, t := 2 }), (4, { n := 1, agg := false })]) (.s (.r [(1, { n := 1, t := 2 }), (2, { n := 1, agg := false }), (3, { n := 1, t := 2 }), (4, { n := 1, agg := false })]) (.s (.o) (.r [(2, { n := 1 }), (3, { n := 1, t := 8 }), (6, { n := 1 }), (7, { n := 1, t := 8 })])))))) (.o))))))) (.s (.s (.r [(3, { n := 4, agg := true }), (8, { n := 4, agg := true })]) (.s (.s (.r [(1, { n := 4 })]) (.o)) (.o))) (.s (.r [(5, { zero := [(.int .i64 0), (.int .i64 0), (.int .i64 0), (.bool false)], places := [(0, 1), (1, 1), (2, 1), (3, 1)] }), (6, { n := 4 })]) (.o))))))
theorem k160 : okF Tryz.prog Tryz.f160 h160 [(true, 4)] = true := by kernel_rfl

/- couplet/fx.Div -/
def h161 : Hint := .s (.o) (.s (.o) (.s (.r [(4, { n := 1 })]) (.o)))
theorem k161 : okF Tryz.prog Tryz.f161 h161 [(false, 0), (false, 0)] = true := by kernel_rfl

/- couplet/env.all -/
def h162 : Hint := .s (.r [(0, { n := 4 }), (1, { n := 4 }), (2, { acc := [(0, 4)] })]) (.s (.r [(0, { off := 1 }), (1, { n := 1, agg := false }), (2, { off := 1 }), (3, { n := 1, agg := false }), (4, { zero := [(.int .i64 0), (.int .i64 0)], places := [(0, 1), (1, 1)] }), (5, { off := 1 }), (6, { n := 1, agg := false }), (7, { off := 2 }), (8, { n := 1, agg := false }), (9, { zero := [(.int .i64 0), (.int .i64 0)], places := [(0, 1), (1, 1)] }), (10, { off := 2 }), (11, { n := 1, agg := false }), (12, { off := 1 }), (13, { n := 1, agg := false }), (14, { zero := [(.int .i64 0), (.int .i64 0)], places := [(0, 1), (1, 1)] }), (15, { off := 2 }), (16, { n := 1, agg := false }), (17, { off := 2 }), (18, { n := 1, agg := false }), (19, { zero := [(.int .i64 0), (.int .i64 0)], places := [(0, 1), (1, 1)] }), (20, { n := 2 })]) (.o))
theorem k162 : okF Tryz.prog Tryz.f162 h162 [(false, 0)] = true := by kernel_rfl

/- couplet/fx.Mul -/
def h163 : Hint := .s (.o) (.s (.o) (.s (.r [(4, { n := 1 })]) (.o)))
theorem k163 : okF Tryz.prog Tryz.f163 h163 [(false, 0), (false, 0)] = true := by kernel_rfl

/- (couplet/env.Num).Sub$1 -/
def h164 : Hint := .s (.o) (.s (.o) (.o))
theorem k164 : okF Tryz.prog Tryz.f164 h164 [(false, 0), (false, 0)] = true := by kernel_rfl

/- couplet/fx.Sub -/
def h165 : Hint := .s (.o) (.s (.s (.o) (.s (.s (.o) (.o)) (.o))) (.s (.o) (.o)))
theorem k165 : okF Tryz.prog Tryz.f165 h165 [(false, 0), (false, 0)] = true := by kernel_rfl

/- slices.Min(()int,int) -/
def h166 : Hint := .s (.o) (.s (.s (.o) (.s (.no) (.o))) (.s (.r [(1, { n := 1 }), (2, { n := 1, agg := false })]) (.s (.s (.o) (.b (.l [.junk [1, 2, 5, 6, 7, 8, 9, 10, 11, 12, 13, 14, 15, 16, 17, 18, 19, 20, 21, 22, 23, 24]] (.s (.s (.o) (.s (.o) (.o))) (.s (.b (.r [(3, { n := 1 }), (4, { n := 1, agg := false })])) (.o)))))) (.s (.o) (.o)))))
theorem k166 : okF Tryz.prog Tryz.f166 h166 [(false, 0)] = true := by kernel_rfl

/- slices.Max(()int,int) -/
def h167 : Hint := .s (.o) (.s (.s (.o) (.s (.no) (.o))) (.s (.r [(1, { n := 1 }), (2, { n := 1, agg := false })]) (.s (.s (.o) (.b (.l [.junk [1, 2, 5, 6, 7, 8, 9, 10, 11, 12, 13, 14, 15, 16, 17, 18, 19, 20, 21, 22, 23, 24]] (.s (.s (.o) (.s (.o) (.o))) (.s (.b (.r [(3, { n := 1 }), (4, { n := 1, agg := false })])) (.o)))))) (.s (.o) (.o)))))
theorem k167 : okF Tryz.prog Tryz.f167 h167 [(false, 0)] = true := by kernel_rfl

/- (couplet/frac.Frac).Add -/
def h168 : Hint := .s (.r [(0, { n := 3 }), (1, { n := 3 }), (2, { zero := [(.int .i64 0), (.int .i64 0), (.bool false)] })]) (.s (.s (.r [(0, { n := 3, agg := true }), (4, { n := 3, agg := true })]) (.s (.s (.r [(1, { n := 3 })]) (.o)) (.o))) (.s (.r [(0, { off := 0 }), (1, { n := 1, agg := false }), (2, { off := 1 }), (3, { n := 1, agg := false }), (5, { off := 0 }), (6, { n := 1, agg := false }), (7, { off := 1 }), (8, { n := 1, agg := false }), (11, { off := 1 }), (12, { n := 1, agg := false }), (13, { off := 1 }), (14, { n := 1, agg := false })]) (.s (.o) (.s (.r [(7, { n := 3 })]) (.o)))))
theorem k168 : okF Tryz.prog Tryz.f168 h168 [(true, 3)] = true := by kernel_rfl

/- (couplet/frac.Frac).Div -/
def h169 : Hint := .s (.r [(0, { n := 3 }), (1, { n := 3 }), (2, { zero := [(.int .i64 0), (.int .i64 0), (.bool false)] })]) (.s (.g [.freeze 2, .freeze 3] (.r [(0, { n := 3, agg := true }), (1, { n := 3, agg := true }), (4, { n := 3 })])) (.o))
theorem k169 : okF Tryz.prog Tryz.f169 h169 [(true, 3)] = true := by kernel_rfl

/- (couplet/frac.Frac).Fine -/
def h170 : Hint := .s (.r [(0, { n := 3 })]) (.s (.r [(0, { off := 2 }), (1, { n := 1, agg := false }), (4, { off := 1 }), (5, { n := 1, agg := false }), (9, { off := 1 }), (10, { n := 1, agg := false }), (14, { off := 0 }), (15, { n := 1, agg := false }), (19, { off := 0 }), (20, { n := 1, agg := false }), (24, { off := 0 }), (25, { n := 1, agg := false }), (26, { off := 1 }), (27, { n := 1, agg := false }), (29, { n := 3, agg := true }), (30, { n := 2, ks := [some .i64, some .i64, none] })]) (.o))
theorem k170 : okF Tryz.prog Tryz.f170 h170 [(false, 0)] = true := by kernel_rfl

/- (couplet/frac.Frac).Mul -/
def h171 : Hint := .s (.r [(0, { n := 3 }), (1, { n := 3 }), (2, { zero := [(.int .i64 0), (.int .i64 0), (.bool false)] })]) (.s (.g [.freeze 2, .freeze 3] (.r [(0, { n := 3, agg := true }), (1, { n := 3, agg := true }), (4, { n := 3 })])) (.o))
theorem k171 : okF Tryz.prog Tryz.f171 h171 [(true, 3)] = true := by kernel_rfl

/- (couplet/frac.Frac).Of -/
def h172 : Hint := .s (.r [(0, { n := 3 }), (1, { zero := [(.int .i64 0), (.int .i64 0), (.bool false)] })]) (.s (.r [(2, { n := 3 })]) (.o))
theorem k172 : okF Tryz.prog Tryz.f172 h172 [(true, 3)] = true := by kernel_rfl

/- (couplet/frac.Frac).Sub -/
def h173 : Hint := .s (.r [(0, { n := 3 }), (1, { n := 3 }), (2, { zero := [(.int .i64 0), (.int .i64 0), (.bool false)] })]) (.s (.r [(0, { n := 3, agg := true }), (1, { n := 3, agg := true }), (4, { n := 3 })]) (.o))
theorem k173 : okF Tryz.prog Tryz.f173 h173 [(true, 3)] = true := by kernel_rfl

/- couplet/frac.of -/
def h174 : Hint := .s (.r [(0, { n := 3 }), (1, { n := 3 }), (2, { zero := [(.int .i64 0), (.int .i64 0), (.bool false)] })]) (.s (.s (.r [(0, { n := 3, agg := true }), (4, { n := 3, agg := true })]) (.s (.s (.r [(1, { n := 3 })]) (.o)) (.o))) (.s (.r [(5, { n := 3 })]) (.o)))
theorem k174 : okF Tryz.prog Tryz.f174 h174 [(true, 3)] = true := by kernel_rfl

/- (couplet/frac.Frac).Div$1 -/
def h175 : Hint := .s (.o) (.s (.r [(0, { off := 0 }), (1, { n := 1, agg := false }), (2, { off := 1 }), (3, { n := 1, agg := false }), (5, { off := 1 }), (6, { n := 1, agg := false }), (7, { off := 0 }), (8, { n := 1, agg := false })]) (.o))
theorem k175 : okF Tryz.prog Tryz.f175 h175 [(false, 0), (false, 0)] = true := by kernel_rfl

/- (couplet/frac.Frac).Mul$1 -/
def h176 : Hint := .s (.o) (.s (.r [(0, { off := 0 }), (1, { n := 1, agg := false }), (2, { off := 0 }), (3, { n := 1, agg := false }), (5, { off := 1 }), (6, { n := 1, agg := false }), (7, { off := 1 }), (8, { n := 1, agg := false })]) (.o))
theorem k176 : okF Tryz.prog Tryz.f176 h176 [(false, 0), (false, 0)] = true := by kernel_rfl

/- (couplet/frac.Frac).Neg -/
def h177 : Hint := .s (.r [(0, { n := 3 }), (1, { zero := [(.int .i64 0), (.int .i64 0), (.bool false)] })]) (.s (.g [.freeze 1] (.r [(0, { n := 3, agg := true }), (1, { n := 3, agg := true }), (4, { n := 3 })])) (.o))
theorem k177 : okF Tryz.prog Tryz.f177 h177 [(true, 3)] = true := by kernel_rfl

/- (couplet/frac.Frac).Neg$1 -/
def h178 : Hint := .s (.o) (.s (.r [(0, { off := 0 }), (1, { n := 1, agg := false }), (3, { off := 1 }), (4, { n := 1, agg := false })]) (.o))
theorem k178 : okF Tryz.prog Tryz.f178 h178 [(false, 0), (false, 0)] = true := by kernel_rfl

end Go.Proofs.YtipchjfcjbghnaaGreat.A


set_option linter.unusedVariables false
set_option linter.unusedSimpArgs false
set_option maxRecDepth 100000
namespace Go.Proofs.YtipchjfcjbghnaaGreat.A
open Go Go.RowKit Go.Shelf

abbrev num (n : Int) : PV := .s (.int .i64 n)
abbrev tru (b : Bool) : PV := .s (.bool b)
abbrev nt (n : Int) : TV := .v (.s (.int .i64 n))
abbrev jk : TV := .v .junk

theorem wrapped {x : Int} (h1 : -9223372036854775808 ≤ x) (h2 : x ≤ 9223372036854775807) : IntKind.wrap .i64 x = x := by
  simp [IntKind.wrap, IntKind.bits, IntKind.signed]
  omega

theorem ok71 : Ok Tryz.prog 71 [] (.agg [num 0, num 0, tru true]) := by
  refine ok_fn mixed Tryz.func71 (code := ?_) (h := h71) ?_ k71 ?_
  rotate_left
  · exact rfl
  unfold h71 initS
  simp -implicitDefEqProofs only [rkA, stepA, valA, storeA, ldA, fieldAddrA, fieldA, idxAddrA, idxA, idxArr, lenA, unA, binA, num2, binV, eqA, rowOf, PV.cells, PV.cell, bndA, appA, reduceIte, reduceCtorEq, Nat.reduceAdd, Nat.reduceSub, Nat.reduceEqDiff, Nat.reduceLeDiff, Nat.reduceLT, Nat.reduceMul, Nat.reduceBEq, Nat.reduceBNe, Int.reduceToNat, Int.reduceLE, Int.reduceLT, allocX, setPs, extremeA, ints, resAll, rinfOk, packR, Tryz.ntmps71, Tryz.results71]

theorem ok107 (n : Int) : Ok Tryz.prog 107 [num n] (tru (decide (1 ≤ n ∧ n ≤ 16))) := by
  refine ok_fn mixed Tryz.func107 (code := ?_) (h := h107) ?_ k107 ?_
  rotate_left
  · exact rfl
  unfold h107 initS
  simp -implicitDefEqProofs only [rkA, stepA, valA, storeA, ldA, fieldAddrA, fieldA, idxAddrA, idxA, idxArr, lenA, unA, binA, num2, binV, eqA, rowOf, PV.cells, PV.cell, bndA, appA, reduceIte, reduceCtorEq, Nat.reduceAdd, Nat.reduceSub, Nat.reduceEqDiff, Nat.reduceLeDiff, Nat.reduceLT, Nat.reduceMul, Nat.reduceBEq, Nat.reduceBNe, Int.reduceToNat, Int.reduceLE, Int.reduceLT, allocX, setPs, extremeA, ints, resAll, rinfOk, packR, Tryz.ntmps107, Tryz.results107]
  repeat' (refine gB_dec ?_ ?_ <;> intro hc <;> first | (exfalso; omega) | simp -implicitDefEqProofs only [hc, rkA, stepA, valA, storeA, ldA, fieldAddrA, fieldA, idxAddrA, idxA, idxArr, lenA, unA, binA, num2, binV, eqA, rowOf, PV.cells, PV.cell, bndA, appA, reduceIte, reduceCtorEq, Nat.reduceAdd, Nat.reduceSub, Nat.reduceEqDiff, Nat.reduceLeDiff, Nat.reduceLT, Nat.reduceMul, Nat.reduceBEq, Nat.reduceBNe, Int.reduceToNat, Int.reduceLE, Int.reduceLT, allocX, setPs, extremeA, ints, resAll, rinfOk, packR])

theorem ok72 (a b : Int) (ha : -9223372036854775807 ≤ a ∧ a ≤ 9223372036854775807) (hb : -9223372036854775807 ≤ b ∧ b ≤ 9223372036854775807) : Ok Tryz.prog 72 [num a, num b] (num (Int.gcd a b)) := by
  refine ok_fn mixed Tryz.func72 (code := ?_) (h := h72) ?_ k72 ?_
  rotate_left
  · exact rfl
  unfold h72 initS
  simp -implicitDefEqProofs only [rkA, stepA, valA, storeA, ldA, fieldAddrA, fieldA, idxAddrA, idxA, idxArr, lenA, unA, binA, num2, binV, eqA, rowOf, PV.cells, PV.cell, bndA, appA, reduceIte, reduceCtorEq, Nat.reduceAdd, Nat.reduceSub, Nat.reduceEqDiff, Nat.reduceLeDiff, Nat.reduceLT, Nat.reduceMul, Nat.reduceBEq, Nat.reduceBNe, Int.reduceToNat, Int.reduceLE, Int.reduceLT, allocX, setPs, extremeA, ints, resAll, rinfOk, packR, Tryz.ntmps72, Tryz.results72]
  simp -implicitDefEqProofs only [wrapped (x := 0 - a) (by omega) (by omega), wrapped (x := 0 - b) (by omega) (by omega), rkA, stepA, valA, storeA, ldA, fieldAddrA, fieldA, idxAddrA, idxA, idxArr, lenA, unA, binA, num2, binV, eqA, rowOf, PV.cells, PV.cell, bndA, appA, reduceIte, reduceCtorEq, Nat.reduceAdd, Nat.reduceSub, Nat.reduceEqDiff, Nat.reduceLeDiff, Nat.reduceLT, Nat.reduceMul, Nat.reduceBEq, Nat.reduceBNe, Int.reduceToNat, Int.reduceLE, Int.reduceLT, allocX, setPs, extremeA, ints, resAll, rinfOk, packR]
  have ea : (if a < 0 - a then 0 - a else a) = (a.natAbs : Int) := by split <;> omega
  have eb : (if b < 0 - b then 0 - b else b) = (b.natAbs : Int) := by split <;> omega
  simp only [ea, eb]
  refine wp_loop (fun m s => ∃ x y : Nat, y = m ∧ Nat.gcd x y = Int.gcd a b ∧ s = ⟨[nt x, nt y, jk, jk, jk, jk, jk, jk, jk, jk, jk, jk, jk, jk, jk, jk, jk, jk, jk, jk], [], [], [], [], 0, nomem⟩) b.natAbs ?_ ?_
  · simp -implicitDefEqProofs only [rkA, stepA, valA, storeA, ldA, fieldAddrA, fieldA, idxAddrA, idxA, idxArr, lenA, unA, binA, num2, binV, eqA, rowOf, PV.cells, PV.cell, bndA, appA, reduceIte, reduceCtorEq, Nat.reduceAdd, Nat.reduceSub, Nat.reduceEqDiff, Nat.reduceLeDiff, Nat.reduceLT, Nat.reduceMul, Nat.reduceBEq, Nat.reduceBNe, Int.reduceToNat, Int.reduceLE, Int.reduceLT, allocX, setPs, extremeA, ints, resAll, rinfOk, packR]
    exact ⟨a.natAbs, b.natAbs, rfl, rfl, rfl⟩
  rintro m s ⟨x, y, rfl, hg, rfl⟩
  simp -implicitDefEqProofs only [rkA, stepA, valA, storeA, ldA, fieldAddrA, fieldA, idxAddrA, idxA, idxArr, lenA, unA, binA, num2, binV, eqA, rowOf, PV.cells, PV.cell, bndA, appA, reduceIte, reduceCtorEq, Nat.reduceAdd, Nat.reduceSub, Nat.reduceEqDiff, Nat.reduceLeDiff, Nat.reduceLT, Nat.reduceMul, Nat.reduceBEq, Nat.reduceBNe, Int.reduceToNat, Int.reduceLE, Int.reduceLT, allocX, setPs, extremeA, ints, resAll, rinfOk, packR]
  refine gB_dec ?_ ?_ <;> intro hy <;> simp -implicitDefEqProofs only [hy, rkA, stepA, valA, storeA, ldA, fieldAddrA, fieldA, idxAddrA, idxA, idxArr, lenA, unA, binA, num2, binV, eqA, rowOf, PV.cells, PV.cell, bndA, appA, reduceIte, reduceCtorEq, Nat.reduceAdd, Nat.reduceSub, Nat.reduceEqDiff, Nat.reduceLeDiff, Nat.reduceLT, Nat.reduceMul, Nat.reduceBEq, Nat.reduceBNe, Int.reduceToNat, Int.reduceLE, Int.reduceLT, allocX, setPs, extremeA, ints, resAll, rinfOk, packR]
  · have hy0 : (y : Int) ≠ 0 := by omega
    simp -implicitDefEqProofs only [hy0, rkA, stepA, valA, storeA, ldA, fieldAddrA, fieldA, idxAddrA, idxA, idxArr, lenA, unA, binA, num2, binV, eqA, rowOf, PV.cells, PV.cell, bndA, appA, reduceIte, reduceCtorEq, Nat.reduceAdd, Nat.reduceSub, Nat.reduceEqDiff, Nat.reduceLeDiff, Nat.reduceLT, Nat.reduceMul, Nat.reduceBEq, Nat.reduceBNe, Int.reduceToNat, Int.reduceLE, Int.reduceLT, allocX, setPs, extremeA, ints, resAll, rinfOk, packR]
    refine loopK_of (m' := x % y) (Nat.mod_lt _ (by omega)) ?_
    simp -implicitDefEqProofs only [rkA, stepA, valA, storeA, ldA, fieldAddrA, fieldA, idxAddrA, idxA, idxArr, lenA, unA, binA, num2, binV, eqA, rowOf, PV.cells, PV.cell, bndA, appA, reduceIte, reduceCtorEq, Nat.reduceAdd, Nat.reduceSub, Nat.reduceEqDiff, Nat.reduceLeDiff, Nat.reduceLT, Nat.reduceMul, Nat.reduceBEq, Nat.reduceBNe, Int.reduceToNat, Int.reduceLE, Int.reduceLT, allocX, setPs, extremeA, ints, resAll, rinfOk, packR]
    refine ⟨y, x % y, rfl, ?_, ?_⟩
    · rw [← hg, Nat.gcd_comm y, ← Nat.gcd_rec, Nat.gcd_comm]
    · simp [nt, jk, Int.tmod_eq_emod_of_nonneg]
  · have : y = 0 := by omega
    subst this
    simp at hg
    simp [hg]

/-! ### Fractions -/
structure Fr where
  n : Int
  d : Int
  bad : Bool
  deriving DecidableEq

abbrev frV (x : Fr) : PV := .agg [num x.n, num x.d, tru x.bad]
abbrev Fr.wrong : Fr := ⟨0, 0, true⟩
def newF (n d : Int) : Fr :=
  if n > 1152921504606846976 ∨ n < -1152921504606846976 ∨ d > 1152921504606846976 ∨ d < -1152921504606846976 ∨ d = 0 then .wrong else
    let m : Int := if d < 0 then -n else n
    let e : Int := if d < 0 then -d else d
    let k : Int := Int.gcd m e
    if m.tdiv k > 1073741824 ∨ m.tdiv k < -1073741824 ∨ e.tdiv k > 1073741824 then .wrong else ⟨m.tdiv k, e.tdiv k, false⟩

theorem tdiv_small {m k : Int} (h1 : -1152921504606846976 ≤ m) (h2 : m ≤ 1152921504606846976) (hk : 0 < k) : -1152921504606846976 ≤ m.tdiv k ∧ m.tdiv k ≤ 1152921504606846976 := by
  have e : (m.tdiv k).natAbs = m.natAbs / k.natAbs := Int.natAbs_tdiv m k
  have h3 : m.natAbs / k.natAbs ≤ m.natAbs := Nat.div_le_self _ _
  omega

theorem ok30 (n d : Int) : Ok Tryz.prog 30 [num n, num d] (frV (newF n d)) := by
  by_cases hbad : n > 1152921504606846976 ∨ n < -1152921504606846976 ∨ d > 1152921504606846976 ∨ d < -1152921504606846976 ∨ d = 0
  · have e : newF n d = .wrong := by unfold newF; rw [if_pos hbad]
    rw [e]
    refine ok_fn mixed Tryz.func30 (code := ?_) (h := h30) ?_ k30 ?_
    rotate_left
    · exact rfl
    unfold h30 initS
    simp -implicitDefEqProofs only [rkA, stepA, valA, storeA, ldA, fieldAddrA, fieldA, idxAddrA, idxA, idxArr, lenA, unA, binA, num2, binV, eqA, rowOf, PV.cells, PV.cell, bndA, appA, reduceIte, reduceCtorEq, Nat.reduceAdd, Nat.reduceSub, Nat.reduceEqDiff, Nat.reduceLeDiff, Nat.reduceLT, Nat.reduceMul, Nat.reduceBEq, Nat.reduceBNe, Int.reduceToNat, Int.reduceLE, Int.reduceLT, allocX, setPs, extremeA, ints, resAll, rinfOk, packR, Tryz.ntmps30, Tryz.results30]
    repeat' (refine gB_dec ?_ ?_ <;> intro hc <;> first | (exfalso; omega) | simp -implicitDefEqProofs only [hc, rkA, stepA, valA, storeA, ldA, fieldAddrA, fieldA, idxAddrA, idxA, idxArr, lenA, unA, binA, num2, binV, eqA, rowOf, PV.cells, PV.cell, bndA, appA, reduceIte, reduceCtorEq, Nat.reduceAdd, Nat.reduceSub, Nat.reduceEqDiff, Nat.reduceLeDiff, Nat.reduceLT, Nat.reduceMul, Nat.reduceBEq, Nat.reduceBNe, Int.reduceToNat, Int.reduceLE, Int.reduceLT, allocX, setPs, extremeA, ints, resAll, rinfOk, packR])
    all_goals (refine call_fn rfl rfl rfl (ok71) ?_; simp -implicitDefEqProofs only [rkA, stepA, valA, storeA, ldA, fieldAddrA, fieldA, idxAddrA, idxA, idxArr, lenA, unA, binA, num2, binV, eqA, rowOf, PV.cells, PV.cell, bndA, appA, reduceIte, reduceCtorEq, Nat.reduceAdd, Nat.reduceSub, Nat.reduceEqDiff, Nat.reduceLeDiff, Nat.reduceLT, Nat.reduceMul, Nat.reduceBEq, Nat.reduceBNe, Int.reduceToNat, Int.reduceLE, Int.reduceLT, allocX, setPs, extremeA, ints, resAll, rinfOk, packR])
  · have e1 : ¬ n > 1152921504606846976 := fun h => hbad (.inl h)
    have e2 : ¬ n < -1152921504606846976 := fun h => hbad (.inr (.inl h))
    have e3 : ¬ d > 1152921504606846976 := fun h => hbad (.inr (.inr (.inl h)))
    have e4 : ¬ d < -1152921504606846976 := fun h => hbad (.inr (.inr (.inr (.inl h))))
    have e5 : ¬ d = 0 := fun h => hbad (.inr (.inr (.inr (.inr h))))
    have e6 : (d == 0) = false := by simpa using e5
    have key : ∀ m e : Int, (-1152921504606846976 ≤ m ∧ m ≤ 1152921504606846976) → (0 < e ∧ e ≤ 1152921504606846976) → (if d < 0 then -n else n) = m → (if d < 0 then -d else d) = e → Ok Tryz.prog 30 [num n, num d] (frV (newF n d)) := by
      intro m e hm he em ee
      have hk : 0 < (Int.gcd m e : Int) := by
        have : 0 < Int.gcd m e := Int.gcd_pos_of_ne_zero_right _ (by omega)
        omega
      have hk0 : ((Int.gcd m e : Int) = 0) = False := by simp; omega
      have hq : newF n d = if m.tdiv (Int.gcd m e) > 1073741824 ∨ m.tdiv (Int.gcd m e) < -1073741824 ∨ e.tdiv (Int.gcd m e) > 1073741824 then .wrong else ⟨m.tdiv (Int.gcd m e), e.tdiv (Int.gcd m e), false⟩ := by
        unfold newF
        rw [if_neg hbad]
        simp only [em, ee]
      have w1 := tdiv_small (m := m) (k := Int.gcd m e) hm.1 hm.2 hk
      have w2 := tdiv_small (m := e) (k := Int.gcd m e) (by omega) he.2 hk
      have v1 := wrapped (x := m.tdiv (Int.gcd m e)) (by omega) (by omega)
      have v2 := wrapped (x := e.tdiv (Int.gcd m e)) (by omega) (by omega)
      have h40 := ok72 m e (by omega) (by omega)
      refine ok_fn mixed Tryz.func30 (code := ?_) (h := h30) ?_ k30 ?_
      rotate_left
      · exact rfl
      unfold h30 initS
      simp -implicitDefEqProofs only [rkA, stepA, valA, storeA, ldA, fieldAddrA, fieldA, idxAddrA, idxA, idxArr, lenA, unA, binA, num2, binV, eqA, rowOf, PV.cells, PV.cell, bndA, appA, reduceIte, reduceCtorEq, Nat.reduceAdd, Nat.reduceSub, Nat.reduceEqDiff, Nat.reduceLeDiff, Nat.reduceLT, Nat.reduceMul, Nat.reduceBEq, Nat.reduceBNe, Int.reduceToNat, Int.reduceLE, Int.reduceLT, allocX, setPs, extremeA, ints, resAll, rinfOk, packR, Tryz.ntmps30, Tryz.results30]
      simp -implicitDefEqProofs only [e1, e2, e3, e4, e6, rkA, stepA, valA, storeA, ldA, fieldAddrA, fieldA, idxAddrA, idxA, idxArr, lenA, unA, binA, num2, binV, eqA, rowOf, PV.cells, PV.cell, bndA, appA, reduceIte, reduceCtorEq, Nat.reduceAdd, Nat.reduceSub, Nat.reduceEqDiff, Nat.reduceLeDiff, Nat.reduceLT, Nat.reduceMul, Nat.reduceBEq, Nat.reduceBNe, Int.reduceToNat, Int.reduceLE, Int.reduceLT, allocX, setPs, extremeA, ints, resAll, rinfOk, packR]
      refine gB_dec ?_ ?_ <;> intro hd
      · rw [if_pos hd] at em ee
        have wn : IntKind.wrap .i64 (0 - n) = m := by rw [wrapped (by omega) (by omega)]; omega
        have wd : IntKind.wrap .i64 (0 - d) = e := by rw [wrapped (by omega) (by omega)]; omega
        simp -implicitDefEqProofs only [hd, wn, wd, rkA, stepA, valA, storeA, ldA, fieldAddrA, fieldA, idxAddrA, idxA, idxArr, lenA, unA, binA, num2, binV, eqA, rowOf, PV.cells, PV.cell, bndA, appA, reduceIte, reduceCtorEq, Nat.reduceAdd, Nat.reduceSub, Nat.reduceEqDiff, Nat.reduceLeDiff, Nat.reduceLT, Nat.reduceMul, Nat.reduceBEq, Nat.reduceBNe, Int.reduceToNat, Int.reduceLE, Int.reduceLT, allocX, setPs, extremeA, ints, resAll, rinfOk, packR]
        refine call_fn rfl rfl rfl (h40) ?_
        simp -implicitDefEqProofs only [hk0, v1, v2, rkA, stepA, valA, storeA, ldA, fieldAddrA, fieldA, idxAddrA, idxA, idxArr, lenA, unA, binA, num2, binV, eqA, rowOf, PV.cells, PV.cell, bndA, appA, reduceIte, reduceCtorEq, Nat.reduceAdd, Nat.reduceSub, Nat.reduceEqDiff, Nat.reduceLeDiff, Nat.reduceLT, Nat.reduceMul, Nat.reduceBEq, Nat.reduceBNe, Int.reduceToNat, Int.reduceLE, Int.reduceLT, allocX, setPs, extremeA, ints, resAll, rinfOk, packR]
        repeat' (refine gB_dec ?_ ?_ <;> intro hc <;> first | (exfalso; omega) | simp -implicitDefEqProofs only [hc, rkA, stepA, valA, storeA, ldA, fieldAddrA, fieldA, idxAddrA, idxA, idxArr, lenA, unA, binA, num2, binV, eqA, rowOf, PV.cells, PV.cell, bndA, appA, reduceIte, reduceCtorEq, Nat.reduceAdd, Nat.reduceSub, Nat.reduceEqDiff, Nat.reduceLeDiff, Nat.reduceLT, Nat.reduceMul, Nat.reduceBEq, Nat.reduceBNe, Int.reduceToNat, Int.reduceLE, Int.reduceLT, allocX, setPs, extremeA, ints, resAll, rinfOk, packR])
        all_goals first
          | (have hr : newF n d = .wrong := by rw [hq]; exact if_pos (by omega)
             rw [hr]; refine call_fn rfl rfl rfl (ok71) ?_; simp -implicitDefEqProofs only [rkA, stepA, valA, storeA, ldA, fieldAddrA, fieldA, idxAddrA, idxA, idxArr, lenA, unA, binA, num2, binV, eqA, rowOf, PV.cells, PV.cell, bndA, appA, reduceIte, reduceCtorEq, Nat.reduceAdd, Nat.reduceSub, Nat.reduceEqDiff, Nat.reduceLeDiff, Nat.reduceLT, Nat.reduceMul, Nat.reduceBEq, Nat.reduceBNe, Int.reduceToNat, Int.reduceLE, Int.reduceLT, allocX, setPs, extremeA, ints, resAll, rinfOk, packR])
          | (have hr := hq; rw [if_neg (by omega)] at hr; rw [hr])
      · rw [if_neg hd] at em ee
        subst em ee
        simp -implicitDefEqProofs only [hd, rkA, stepA, valA, storeA, ldA, fieldAddrA, fieldA, idxAddrA, idxA, idxArr, lenA, unA, binA, num2, binV, eqA, rowOf, PV.cells, PV.cell, bndA, appA, reduceIte, reduceCtorEq, Nat.reduceAdd, Nat.reduceSub, Nat.reduceEqDiff, Nat.reduceLeDiff, Nat.reduceLT, Nat.reduceMul, Nat.reduceBEq, Nat.reduceBNe, Int.reduceToNat, Int.reduceLE, Int.reduceLT, allocX, setPs, extremeA, ints, resAll, rinfOk, packR]
        refine call_fn rfl rfl rfl (h40) ?_
        simp -implicitDefEqProofs only [hk0, v1, v2, rkA, stepA, valA, storeA, ldA, fieldAddrA, fieldA, idxAddrA, idxA, idxArr, lenA, unA, binA, num2, binV, eqA, rowOf, PV.cells, PV.cell, bndA, appA, reduceIte, reduceCtorEq, Nat.reduceAdd, Nat.reduceSub, Nat.reduceEqDiff, Nat.reduceLeDiff, Nat.reduceLT, Nat.reduceMul, Nat.reduceBEq, Nat.reduceBNe, Int.reduceToNat, Int.reduceLE, Int.reduceLT, allocX, setPs, extremeA, ints, resAll, rinfOk, packR]
        repeat' (refine gB_dec ?_ ?_ <;> intro hc <;> first | (exfalso; omega) | simp -implicitDefEqProofs only [hc, rkA, stepA, valA, storeA, ldA, fieldAddrA, fieldA, idxAddrA, idxA, idxArr, lenA, unA, binA, num2, binV, eqA, rowOf, PV.cells, PV.cell, bndA, appA, reduceIte, reduceCtorEq, Nat.reduceAdd, Nat.reduceSub, Nat.reduceEqDiff, Nat.reduceLeDiff, Nat.reduceLT, Nat.reduceMul, Nat.reduceBEq, Nat.reduceBNe, Int.reduceToNat, Int.reduceLE, Int.reduceLT, allocX, setPs, extremeA, ints, resAll, rinfOk, packR])
        all_goals first
          | (have hr : newF n d = .wrong := by rw [hq]; exact if_pos (by omega)
             rw [hr]; refine call_fn rfl rfl rfl (ok71) ?_; simp -implicitDefEqProofs only [rkA, stepA, valA, storeA, ldA, fieldAddrA, fieldA, idxAddrA, idxA, idxArr, lenA, unA, binA, num2, binV, eqA, rowOf, PV.cells, PV.cell, bndA, appA, reduceIte, reduceCtorEq, Nat.reduceAdd, Nat.reduceSub, Nat.reduceEqDiff, Nat.reduceLeDiff, Nat.reduceLT, Nat.reduceMul, Nat.reduceBEq, Nat.reduceBNe, Int.reduceToNat, Int.reduceLE, Int.reduceLT, allocX, setPs, extremeA, ints, resAll, rinfOk, packR])
          | (have hr := hq; rw [if_neg (by omega)] at hr; rw [hr])
    by_cases hd : d < 0
    · exact key (-n) (-d) (by omega) (by omega) (if_pos hd) (if_pos hd)
    · exact key n d (by omega) (by omega) (if_neg hd) (if_neg hd)
end Go.Proofs.YtipchjfcjbghnaaGreat.A


/- The arithmetic under Go's math/bits.Div64 (the school method, two digits of 32 bits). No program in this text. -/
set_option linter.unusedVariables false
namespace Go.Proofs.YtipchjfcjbghnaaGreat.A

/-- A digit's guess is not below the digit. -/
theorem dig_ge {u v1 v0 x : Nat} (hv1 : 0 < v1) (hx : x < 4294967296) : (u * 4294967296 + x) / (v1 * 4294967296 + v0) ≤ u / v1 := by
  rw [Nat.le_div_iff_mul_le hv1]
  have h := Nat.div_mul_le_self (u * 4294967296 + x) (v1 * 4294967296 + v0)
  generalize (u * 4294967296 + x) / (v1 * 4294967296 + v0) = Q at *
  rw [Nat.mul_add, ← Nat.mul_assoc] at h
  generalize Q * v1 = a at *
  generalize Q * v0 = b at *
  omega
/-- A guess is too great just if it is so by two digits. -/
theorem dig_gt {u v1 v0 x q r : Nat} (h : q * v1 + r = u) : q * v0 > 4294967296 * r + x ↔ q * (v1 * 4294967296 + v0) > u * 4294967296 + x := by
  subst h
  rw [Nat.mul_add, ← Nat.mul_assoc, Nat.add_mul]
  generalize q * v1 = a
  generalize q * v0 = b
  omega
theorem dig_le {W v q : Nat} (hv : 0 < v) (h : ¬ q * v > W) : q ≤ W / v := by
  rw [Nat.le_div_iff_mul_le hv]
  omega
/-- What is left is as great as a digit: the guess is not too great. -/
theorem dig_big {u v1 v0 x q r : Nat} (h : q * v1 + r = u) (hu : u < v1 * 4294967296 + v0) (h0 : v0 < 4294967296) (hr : 4294967296 ≤ r) : ¬ q * (v1 * 4294967296 + v0) > u * 4294967296 + x := by
  rw [← dig_gt h]
  have hq : q * v1 < 4294967296 * v1 := by
    rw [Nat.mul_comm 4294967296]
    generalize q * v1 = a at *
    generalize v1 * 4294967296 = b at *
    omega
  have hq' : q < 4294967296 := Nat.lt_of_mul_lt_mul_right hq
  have h2 : q * v0 ≤ 4294967295 * 4294967295 := Nat.mul_le_mul (by omega) (by omega)
  generalize q * v0 = a at *
  omega
/-- The first guess is not much too great. -/
theorem dig_first {u v1 v0 : Nat} (hv : 2147483648 ≤ v1) (h0 : v0 < 4294967296) (hu : u < v1 * 4294967296 + v0) : u / v1 ≤ 4294967297 := by
  have : u / v1 < 4294967298 := by
    rw [Nat.div_lt_iff_lt_mul (by omega)]
    omega
  omega
theorem dig_small {u v x : Nat} (hu : u < v) (hx : x < 4294967296) : (u * 4294967296 + x) / v < 4294967296 := by
  have h1 : u * 4294967296 + x < (u + 1) * 4294967296 := by omega
  have h2 : (u + 1) * 4294967296 ≤ v * 4294967296 := Nat.mul_le_mul_right _ hu
  have h3 := Nat.lt_of_lt_of_le h1 h2
  generalize u * 4294967296 + x = a at *
  generalize hK : 4294967296 = K at *
  refine Nat.div_lt_of_lt_mul ?_
  first | exact h3 | (rw [Nat.mul_comm]; exact h3)
/-- Both digits. -/
theorem two_digits {W v b K : Nat} (hv : 0 < v) : W / v * K + (W % v * K + b) / v = (W * K + b) / v ∧ (W % v * K + b) % v = (W * K + b) % v := by
  have e : W * K + b = ((W % v) * K + b) + v * (W / v * K) := by
    conv => lhs; rw [← Nat.div_add_mod W v]
    rw [Nat.add_mul, Nat.mul_assoc]
    omega
  rw [e]
  constructor
  · rw [Nat.add_mul_div_left _ _ hv, Nat.add_comm]
  · rw [Nat.add_mul_mod_self_left]
theorem shifted {N y s : Nat} (hy : 0 < y) : N * 2 ^ s / (y * 2 ^ s) = N / y ∧ N * 2 ^ s % (y * 2 ^ s) / 2 ^ s = N % y := by
  have hp : 0 < 2 ^ s := Nat.two_pow_pos s
  constructor
  · rw [Nat.mul_div_mul_right _ _ hp]
  · rw [Nat.mul_mod_mul_right, Nat.mul_div_cancel _ hp]
end Go.Proofs.YtipchjfcjbghnaaGreat.A


set_option linter.unusedVariables false
namespace Go.Proofs.YtipchjfcjbghnaaGreat.A

/-! ### Numbers as rows of bits -/
/-! A sum: bit by bit, with what is carried. -/
/-! A difference. -/
/-! Which one is less. -/
/-! One place higher. -/
end Go.Proofs.YtipchjfcjbghnaaGreat.A


set_option linter.unusedVariables false
set_option linter.unusedSimpArgs false
set_option maxRecDepth 100000
namespace Go.Proofs.YtipchjfcjbghnaaGreat.A
open Go Go.RowKit Go.Shelf

/-! ### Words -/
abbrev uw (n : Nat) : PV := .s (.int .u64 (n : Int))
abbrev ut (n : Nat) : TV := .v (.s (.int .u64 (n : Int)))
theorem wrapU (x : Int) : IntKind.wrap .u64 x = x % 18446744073709551616 := by simp [IntKind.wrap, IntKind.bits, IntKind.signed]
theorem wrapN {n : Nat} (h : n < 18446744073709551616) : IntKind.wrap .u64 (n : Int) = (n : Int) := by rw [wrapU]; omega
theorem wrapM (n : Nat) : IntKind.wrap .u64 (n : Int) = ((n % 18446744073709551616 : Nat) : Int) := by rw [wrapU]; omega
theorem bitsU : IntKind.bits .u64 = 64 := rfl
theorem ofIntN (n : Nat) (w : Nat) : BitVec.ofInt w (n : Int) = BitVec.ofNat w n := BitVec.ofInt_natCast w n
theorem shrN (a : Nat) {k : Nat} (hk : k ≤ 64) : ((a : Int)).fdiv (2 ^ min k (IntKind.bits .u64)) = ((a / 2 ^ k : Nat) : Int) := by
  rw [bitsU, Nat.min_eq_left hk, Int.fdiv_eq_ediv_of_nonneg _ (Int.le_of_lt (Int.pow_pos (by omega)))]
  have : ((2 : Int) ^ k) = ((2 ^ k : Nat) : Int) := by simp
  rw [this, ← Int.natCast_ediv]
theorem shr32 (a : Nat) : ((a : Int)).fdiv (2 ^ min 32 (IntKind.bits .u64)) = ((a / 4294967296 : Nat) : Int) := shrN a (by omega)
theorem and32 {a : Nat} (ha : a < 18446744073709551616) : IntKind.wrap .u64 ((BitVec.ofInt (IntKind.bits .u64) (a : Int) &&& BitVec.ofInt (IntKind.bits .u64) 4294967295).toNat : Int) = ((a % 4294967296 : Nat) : Int) := by
  have e : (BitVec.ofInt 64 (a : Int) &&& BitVec.ofInt 64 4294967295).toNat = a % 4294967296 := by
    have : (4294967295 : Int) = ((4294967295 : Nat) : Int) := rfl
    rw [this, ofIntN, ofIntN, BitVec.toNat_and, BitVec.toNat_ofNat, BitVec.toNat_ofNat]
    have h1 : a % 2 ^ 64 = a := Nat.mod_eq_of_lt (by omega)
    have h2 : 4294967295 % 2 ^ 64 = 2 ^ 32 - 1 := by decide
    rw [h1, h2, Nat.and_two_pow_sub_one_eq_mod]
  rw [bitsU, e, wrapN (by omega)]
theorem mulN (a b : Nat) : (a : Int) * (b : Int) = ((a * b : Nat) : Int) := (Int.natCast_mul a b).symm
theorem addN (a b : Nat) : (a : Int) + (b : Int) = ((a + b : Nat) : Int) := (Int.natCast_add a b).symm

theorem ok131 (x y : Nat) (hx : x < 18446744073709551616) (hy : y < 18446744073709551616) : Ok Tryz.prog 131 [uw x, uw y] (.tup [uw (x * y / 18446744073709551616), uw (x * y % 18446744073709551616)]) := by
  obtain ⟨bd, bt, bw, hhi⟩ := Lib.mul64_hi x y hx hy
  have ba := Lib.half_mul_le (a := x / 4294967296) (b := y / 4294967296) (by omega) (by omega)
  have bb := Lib.half_mul_le (a := x / 4294967296) (b := y % 4294967296) (by omega) (by omega)
  have bc := Lib.half_mul_le (a := x % 4294967296) (b := y / 4294967296) (by omega) (by omega)
  have ba' : x / 4294967296 * (y / 4294967296) < 18446744073709551616 := by omega
  have bb' : x / 4294967296 * (y % 4294967296) < 18446744073709551616 := by omega
  have bc' : x % 4294967296 * (y / 4294967296) < 18446744073709551616 := by omega
  have bh1 : x / 4294967296 * (y / 4294967296) + (x / 4294967296 * (y % 4294967296) + x % 4294967296 * (y % 4294967296) / 4294967296) / 4294967296 < 18446744073709551616 := by omega
  have bh : x / 4294967296 * (y / 4294967296) + (x / 4294967296 * (y % 4294967296) + x % 4294967296 * (y % 4294967296) / 4294967296) / 4294967296 + ((x / 4294967296 * (y % 4294967296) + x % 4294967296 * (y % 4294967296) / 4294967296) % 4294967296 + x % 4294967296 * (y / 4294967296)) / 4294967296 < 18446744073709551616 := by
    rw [hhi]
    have : x * y / 18446744073709551616 ≤ x := Nat.div_le_of_le_mul (by rw [Nat.mul_comm]; exact Nat.mul_le_mul_right _ (by omega))
    omega
  refine ok_fn mixed Tryz.func131 (code := ?_) (h := h131) ?_ k131 ?_
  rotate_left
  · exact rfl
  unfold h131 initS
  simp -implicitDefEqProofs only [rkA, stepA, valA, storeA, ldA, fieldAddrA, fieldA, idxAddrA, idxA, idxArr, lenA, unA, binA, num2, binV, eqA, rowOf, PV.cells, PV.cell, bndA, appA, reduceIte, reduceCtorEq, Nat.reduceAdd, Nat.reduceSub, Nat.reduceEqDiff, Nat.reduceLeDiff, Nat.reduceLT, Nat.reduceMul, Nat.reduceBEq, Nat.reduceBNe, Int.reduceToNat, Int.reduceLE, Int.reduceLT, allocX, setPs, extremeA, ints, resAll, rinfOk, packR, Tryz.ntmps131, Tryz.results131]
  simp only [and32 hx, and32 hy, shr32, mulN, addN, wrapN bd, wrapN bb', wrapN bt, and32 bt, wrapN bc', wrapN bw, wrapN ba', wrapN bh1, wrapN bh, wrapM (x * y)]
  rw [hhi]

theorem ok101 (n : Int) : Ok Tryz.prog 101 [num n] (tru (decide (-4611686018427387903 ≤ n ∧ n ≤ 4611686018427387903))) := by
  refine ok_fn mixed Tryz.func101 (code := ?_) (h := h101) ?_ k101 ?_
  rotate_left
  · exact rfl
  unfold h101 initS
  simp -implicitDefEqProofs only [rkA, stepA, valA, storeA, ldA, fieldAddrA, fieldA, idxAddrA, idxA, idxArr, lenA, unA, binA, num2, binV, eqA, rowOf, PV.cells, PV.cell, bndA, appA, reduceIte, reduceCtorEq, Nat.reduceAdd, Nat.reduceSub, Nat.reduceEqDiff, Nat.reduceLeDiff, Nat.reduceLT, Nat.reduceMul, Nat.reduceBEq, Nat.reduceBNe, Int.reduceToNat, Int.reduceLE, Int.reduceLT, allocX, setPs, extremeA, ints, resAll, rinfOk, packR, Tryz.ntmps101, Tryz.results101]
  by_cases h1 : n ≥ -4611686018427387903
  · simp -implicitDefEqProofs only [h1, rkA, stepA, valA, storeA, ldA, fieldAddrA, fieldA, idxAddrA, idxA, idxArr, lenA, unA, binA, num2, binV, eqA, rowOf, PV.cells, PV.cell, bndA, appA, reduceIte, reduceCtorEq, Nat.reduceAdd, Nat.reduceSub, Nat.reduceEqDiff, Nat.reduceLeDiff, Nat.reduceLT, Nat.reduceMul, Nat.reduceBEq, Nat.reduceBNe, Int.reduceToNat, Int.reduceLE, Int.reduceLT, allocX, setPs, extremeA, ints, resAll, rinfOk, packR]
  · simp -implicitDefEqProofs only [h1, rkA, stepA, valA, storeA, ldA, fieldAddrA, fieldA, idxAddrA, idxA, idxArr, lenA, unA, binA, num2, binV, eqA, rowOf, PV.cells, PV.cell, bndA, appA, reduceIte, reduceCtorEq, Nat.reduceAdd, Nat.reduceSub, Nat.reduceEqDiff, Nat.reduceLeDiff, Nat.reduceLT, Nat.reduceMul, Nat.reduceBEq, Nat.reduceBNe, Int.reduceToNat, Int.reduceLE, Int.reduceLT, allocX, setPs, extremeA, ints, resAll, rinfOk, packR]
end Go.Proofs.YtipchjfcjbghnaaGreat.A


/- math/bits.LeadingZeros64, off the library's shelf. -/
set_option linter.unusedVariables false
set_option maxRecDepth 100000
namespace Go.Proofs.YtipchjfcjbghnaaGreat.A
open Go Go.RowKit Go.Shelf
def ren : Ren := { f := fun | 129 => 138 | 134 => 132 | x => x, t := fun | 3 => 3 | 4 => 4 | 5 => 5 | 9 => 9 | 46 => 170 | 53 => 149 | x => x, g := fun x => x }
theorem isAgg_no {P : Program} {t : TypeId} (h : tAgg P t = some false) (w : World) : (isAgg t).run P w = .ok false w := run_isAgg_of h w
theorem sizeOf_one {P : Program} {t : TypeId} {n : Nat} (h : tSize P t = some n) (w : World) : (Go.sizeOf t).run P w = .ok n w := run_sizeOf_of h w
theorem zero_is {P : Program} {t : TypeId} {v : Value} (h : tZero P t = some v) (w : World) : (zeroValue t).run P w = .ok v w := run_zero_of h w
theorem lays134 : Lays.n134 Tryz.prog ren where
  mixed := by kernel_rfl
  f129 := Tryz.func138
  f134 := Tryz.func132
  t3 := by kernel_rfl
  a3 := isAgg_no (by kernel_rfl)
  z3 := sizeOf_one (by kernel_rfl)
  v3 := zero_is (by kernel_rfl)
  t4 := by kernel_rfl
  a4 := isAgg_no (by kernel_rfl)
  z4 := sizeOf_one (by kernel_rfl)
  v4 := zero_is (by kernel_rfl)
  t5 := by kernel_rfl
  a5 := isAgg_no (by kernel_rfl)
  z5 := sizeOf_one (by kernel_rfl)
  v5 := zero_is (by kernel_rfl)
  t9 := by kernel_rfl
  a9 := isAgg_no (by kernel_rfl)
  z9 := sizeOf_one (by kernel_rfl)
  v9 := zero_is (by kernel_rfl)
  t46 := by kernel_rfl
  a46 := isAgg_no (by kernel_rfl)
  z46 := sizeOf_one (by kernel_rfl)
  v46 := zero_is (by kernel_rfl)
  t53 := by kernel_rfl
  a53 := isAgg_no (by kernel_rfl)
  z53 := sizeOf_one (by kernel_rfl)
  v53 := zero_is (by kernel_rfl)
theorem ok132 {x : Nat} (h1 : x ≤ 18446744073709551615) : Ok Tryz.prog 132 [.s (.int .u64 (x : Int))] (.s (.int .i64 (64 - (Lib.bitLen x : Int)))) := by
  refine ⟨enters_of Tryz.func132 (by kernel_rfl) rfl, fun I w vs hg hc => ?_⟩
  cases hc with
  | cons h1' h2 =>
    cases h2
    cases h1'
    refine (Any.bits_LeadingZeros64 lays134 (x : Int) w (by omega) (by omega)).mono ?_
    rintro e w' ⟨rfl, rfl⟩
    exact ⟨_, I, rfl, Below.refl _ _, Imm.le_refl _, hg, fun _ _ => rfl, .s _⟩
end Go.Proofs.YtipchjfcjbghnaaGreat.A


set_option linter.unusedVariables false
set_option linter.unusedSimpArgs false
set_option maxRecDepth 100000
namespace Go.Proofs.YtipchjfcjbghnaaGreat.A
open Go Go.RowKit Go.Shelf

theorem bitLenAux_spec : ∀ (f x : Nat), x < 2 ^ f → 0 < x → 1 ≤ Lib.bitLenAux f x ∧ Lib.bitLenAux f x ≤ f ∧ 2 ^ (Lib.bitLenAux f x - 1) ≤ x ∧ x < 2 ^ Lib.bitLenAux f x
  | 0, x, h, h0 => by simp at h; omega
  | f + 1, x, h, h0 => by
    unfold Lib.bitLenAux
    rw [if_neg (by omega)]
    by_cases h1 : x / 2 = 0
    · have : Lib.bitLenAux f (x / 2) = 0 := by rw [h1]; cases f <;> simp [Lib.bitLenAux]
      rw [this]
      simp
      omega
    · obtain ⟨k1, k2, k3, k4⟩ := bitLenAux_spec f (x / 2) (by rw [Nat.pow_succ] at h; omega) (by omega)
      generalize Lib.bitLenAux f (x / 2) = n at *
      refine ⟨by omega, by omega, ?_, ?_⟩
      · have e : 1 + n - 1 = (n - 1) + 1 := by omega
        rw [e, Nat.pow_succ]
        omega
      · rw [Nat.add_comm, Nat.pow_succ]
        omega
/-- How far a word is shifted till its highest bit is the highest one. -/
theorem norm_spec {y : Nat} (h0 : 0 < y) (h1 : y < 18446744073709551616) : ∃ s : Nat, s ≤ 63 ∧ (64 - (Lib.bitLen y : Int)) = (s : Int) ∧ 9223372036854775808 ≤ y * 2 ^ s ∧ y * 2 ^ s < 18446744073709551616 := by
  obtain ⟨k1, k2, k3, k4⟩ := bitLenAux_spec 64 y (by simpa using h1) h0
  have e : Lib.bitLen y = Lib.bitLenAux 64 y := rfl
  rw [e]
  generalize Lib.bitLenAux 64 y = n at *
  refine ⟨64 - n, by omega, by omega, ?_, ?_⟩
  · have h2 : 2 ^ (n - 1) * 2 ^ (64 - n) ≤ y * 2 ^ (64 - n) := Nat.mul_le_mul_right _ k3
    rw [← Nat.pow_add, show n - 1 + (64 - n) = 63 by omega] at h2
    simpa using h2
  · have h2 : y * 2 ^ (64 - n) < 2 ^ n * 2 ^ (64 - n) := Nat.mul_lt_mul_of_pos_right k4 (Nat.two_pow_pos _)
    rw [← Nat.pow_add, show n + (64 - n) = 64 by omega] at h2
    simpa using h2
theorem shlN (a : Nat) {k : Nat} (hk : k ≤ 64) : IntKind.wrap .u64 ((a : Int) * 2 ^ min k (IntKind.bits .u64)) = ((a * 2 ^ k % 18446744073709551616 : Nat) : Int) := by
  rw [bitsU, Nat.min_eq_left hk]
  have : ((2 : Int) ^ k) = ((2 ^ k : Nat) : Int) := by simp
  rw [this, mulN, wrapM]
theorem orN {a b k : Nat} (hb : b < 2 ^ k) (h : a * 2 ^ k + b < 18446744073709551616) : IntKind.wrap .u64 ((BitVec.ofInt (IntKind.bits .u64) ((a * 2 ^ k : Nat) : Int) ||| BitVec.ofInt (IntKind.bits .u64) (b : Int)).toNat : Int) = ((a * 2 ^ k + b : Nat) : Int) := by
  have e : (BitVec.ofInt 64 ((a * 2 ^ k : Nat) : Int) ||| BitVec.ofInt 64 (b : Int)).toNat = a * 2 ^ k + b := by
    rw [ofIntN, ofIntN, BitVec.toNat_or, BitVec.toNat_ofNat, BitVec.toNat_ofNat, Nat.mod_eq_of_lt (by omega), Nat.mod_eq_of_lt (by omega), Nat.mul_comm, Nat.two_pow_add_eq_or_of_lt hb]
  rw [bitsU, e, wrapN (by omega)]
theorem subN {a b : Nat} (h : b ≤ a) : (a : Int) - (b : Int) = ((a - b : Nat) : Int) := by omega
theorem tdivN (a b : Nat) : ((a : Int)).tdiv (b : Int) = ((a / b : Nat) : Int) := by rw [Int.tdiv_eq_ediv_of_nonneg (by omega), ← Int.natCast_ediv]
theorem tmodN (a b : Nat) : ((a : Int)).tmod (b : Int) = ((a % b : Nat) : Int) := by rw [Int.tmod_eq_emod_of_nonneg (by omega), ← Int.natCast_emod]
set_option maxHeartbeats 4000000 in
/-- Div64: quotient, and rest, of two words by one. -/
theorem ok118 (hi lo y : Nat) (hh : hi < y) (hy : y < 18446744073709551616) (hl : lo < 18446744073709551616) :
    Ok Tryz.prog 118 [uw hi, uw lo, uw y] (.tup [uw ((hi * 18446744073709551616 + lo) / y), uw ((hi * 18446744073709551616 + lo) % y)]) := by
  obtain ⟨s, hs, es, v1, v2⟩ := norm_spec (y := y) (by omega) hy
  have h132 := ok132 (x := y) (by omega)
  rw [es] at h132
  refine ok_fn mixed Tryz.func118 (code := ?_) (h := h118) ?_ k118 ?_
  rotate_left
  · exact rfl
  unfold h118 initS
  simp -implicitDefEqProofs only [rkA, stepA, valA, storeA, ldA, fieldAddrA, fieldA, idxAddrA, idxA, idxArr, lenA, unA, binA, num2, binV, eqA, rowOf, PV.cells, PV.cell, bndA, appA, reduceIte, reduceCtorEq, Nat.reduceAdd, Nat.reduceSub, Nat.reduceEqDiff, Nat.reduceLeDiff, Nat.reduceLT, Nat.reduceMul, Nat.reduceBEq, Nat.reduceBNe, Int.reduceToNat, Int.reduceLE, Int.reduceLT, allocX, setPs, extremeA, ints, resAll, rinfOk, packR, Tryz.ntmps118, Tryz.results118]
  have c1 : ((y : Int) == 0) = false := by simp; omega
  have c2 : ¬ ((y : Int) ≤ (hi : Int)) := by omega
  simp -implicitDefEqProofs only [c1, c2, rkA, stepA, valA, storeA, ldA, fieldAddrA, fieldA, idxAddrA, idxA, idxArr, lenA, unA, binA, num2, binV, eqA, rowOf, PV.cells, PV.cell, bndA, appA, reduceIte, reduceCtorEq, Nat.reduceAdd, Nat.reduceSub, Nat.reduceEqDiff, Nat.reduceLeDiff, Nat.reduceLT, Nat.reduceMul, Nat.reduceBEq, Nat.reduceBNe, Int.reduceToNat, Int.reduceLE, Int.reduceLT, allocX, setPs, extremeA, ints, resAll, rinfOk, packR]
  by_cases h0 : hi = 0
  · subst h0
    have c3 : ((y : Int) ≠ 0) := by omega
    have w1 := Nat.div_le_self lo y
    simp -implicitDefEqProofs only [Int.natCast_zero, c3, beq_self_eq_true, tdivN, tmodN, wrapN (show lo / y < 18446744073709551616 by omega), Nat.zero_mul, Nat.zero_add, rkA, stepA, valA, storeA, ldA, fieldAddrA, fieldA, idxAddrA, idxA, idxArr, lenA, unA, binA, num2, binV, eqA, rowOf, PV.cells, PV.cell, bndA, appA, reduceIte, reduceCtorEq, Nat.reduceAdd, Nat.reduceSub, Nat.reduceEqDiff, Nat.reduceLeDiff, Nat.reduceLT, Nat.reduceMul, Nat.reduceBEq, Nat.reduceBNe, Int.reduceToNat, Int.reduceLE, Int.reduceLT, allocX, setPs, extremeA, ints, resAll, rinfOk, packR]
  · have c3 : ((hi : Int) == 0) = false := by simp; omega
    simp -implicitDefEqProofs only [c3, rkA, stepA, valA, storeA, ldA, fieldAddrA, fieldA, idxAddrA, idxA, idxArr, lenA, unA, binA, num2, binV, eqA, rowOf, PV.cells, PV.cell, bndA, appA, reduceIte, reduceCtorEq, Nat.reduceAdd, Nat.reduceSub, Nat.reduceEqDiff, Nat.reduceLeDiff, Nat.reduceLT, Nat.reduceMul, Nat.reduceBEq, Nat.reduceBNe, Int.reduceToNat, Int.reduceLE, Int.reduceLT, allocX, setPs, extremeA, ints, resAll, rinfOk, packR]
    refine call_fn rfl rfl rfl (h132) ?_
    have s0 : (0 : Int) ≤ (s : Int) := by omega
    have e64 : IntKind.wrap .u64 (64 - (s : Int)) = ((64 - s : Nat) : Int) := by rw [wrapU]; omega
    have e640 : (0 : Int) ≤ ((64 - s : Nat) : Int) := by omega
    simp -implicitDefEqProofs only [wrapN (show s < 18446744073709551616 by omega), s0, e64, e640, Int.toNat_natCast, shlN _ (show s ≤ 64 by omega), shrN _ (show 64 - s ≤ 64 by omega), shr32, rkA, stepA, valA, storeA, ldA, fieldAddrA, fieldA, idxAddrA, idxA, idxArr, lenA, unA, binA, num2, binV, eqA, rowOf, PV.cells, PV.cell, bndA, appA, reduceIte, reduceCtorEq, Nat.reduceAdd, Nat.reduceSub, Nat.reduceEqDiff, Nat.reduceLeDiff, Nat.reduceLT, Nat.reduceMul, Nat.reduceBEq, Nat.reduceBNe, Int.reduceToNat, Int.reduceLE, Int.reduceLT, allocX, setPs, extremeA, ints, resAll, rinfOk, packR]
    have hpow : 2 ^ s * 2 ^ (64 - s) = 18446744073709551616 := by rw [← Nat.pow_add, show s + (64 - s) = 64 by omega]
    have hp := Nat.two_pow_pos s
    have hb : lo / 2 ^ (64 - s) < 2 ^ s := by
      refine Nat.div_lt_of_lt_mul ?_
      rw [Nat.mul_comm, hpow]
      exact hl
    have hhs : (hi + 1) * 2 ^ s ≤ y * 2 ^ s := Nat.mul_le_mul_right _ hh
    rw [Nat.add_mul, Nat.one_mul] at hhs
    have hu : hi * 2 ^ s + lo / 2 ^ (64 - s) < y * 2 ^ s := by omega
    have m1 : y * 2 ^ s % 18446744073709551616 = y * 2 ^ s := Nat.mod_eq_of_lt v2
    have m2 : hi * 2 ^ s % 18446744073709551616 = hi * 2 ^ s := Nat.mod_eq_of_lt (by omega)
    have hlo : lo * 2 ^ s = lo / 2 ^ (64 - s) * 18446744073709551616 + lo * 2 ^ s % 18446744073709551616 := by
      have e1 : lo * 2 ^ s / 18446744073709551616 = lo / 2 ^ (64 - s) := by
        rw [← hpow, Nat.mul_comm (2 ^ s) (2 ^ (64 - s)), Nat.mul_div_mul_right _ _ hp]
      have := Nat.div_add_mod (lo * 2 ^ s) 18446744073709551616
      rw [e1] at this
      omega
    have a3 : lo * 2 ^ s % 18446744073709551616 < 18446744073709551616 := Nat.mod_lt _ (by omega)
    have fin := shifted (N := hi * 18446744073709551616 + lo) (y := y) (s := s) (by omega)
    have eN : (hi * 18446744073709551616 + lo) * 2 ^ s = (hi * 2 ^ s + lo / 2 ^ (64 - s)) * 18446744073709551616 + lo * 2 ^ s % 18446744073709551616 := by
      rw [Nat.add_mul, Nat.add_mul, hlo, Nat.mul_right_comm]
      omega
    rw [eN] at fin
    simp only [m1, m2, orN hb (show hi * 2 ^ s + lo / 2 ^ (64 - s) < 18446744073709551616 by omega), and32 v2, and32 a3]
    generalize hi * 2 ^ s + lo / 2 ^ (64 - s) = u at *
    generalize lo * 2 ^ s % 18446744073709551616 = z at *
    generalize y * 2 ^ s = v at *
    have ez := Nat.div_add_mod z 4294967296
    have evv := Nat.div_add_mod v 4294967296
    have z0 : z % 4294967296 < 4294967296 := Nat.mod_lt _ (by omega)
    have w0 : v % 4294967296 < 4294967296 := Nat.mod_lt _ (by omega)
    have z1 : z / 4294967296 < 4294967296 := by omega
    have w1 : 2147483648 ≤ v / 4294967296 ∧ v / 4294967296 < 4294967296 := by omega
    generalize z / 4294967296 = x1 at *
    generalize z % 4294967296 = x0 at *
    generalize v / 4294967296 = d1 at *
    generalize v % 4294967296 = d0 at *
    have d1n : ¬ ((d1 : Int) = 0) := by omega
    have hdv : v = d1 * 4294967296 + d0 := by omega
    have q1 := Nat.div_le_self u d1
    have q2 := Nat.div_add_mod u d1
    have q3 := Nat.mod_lt u (show 0 < d1 by omega)
    have q4 : u / d1 * d1 ≤ u := Nat.div_mul_le_self u d1
    have q5 : u - u / d1 * d1 = u % d1 := by rw [Nat.mul_comm]; omega
    simp -implicitDefEqProofs only [d1n, tdivN, mulN, wrapN (show u / d1 < 18446744073709551616 by omega), wrapN (show u / d1 * d1 < 18446744073709551616 by omega), subN q4, q5, wrapN (show u % d1 < 18446744073709551616 by omega), rkA, stepA, valA, storeA, ldA, fieldAddrA, fieldA, idxAddrA, idxA, idxArr, lenA, unA, binA, num2, binV, eqA, rowOf, PV.cells, PV.cell, bndA, appA, reduceIte, reduceCtorEq, Nat.reduceAdd, Nat.reduceSub, Nat.reduceEqDiff, Nat.reduceLeDiff, Nat.reduceLT, Nat.reduceMul, Nat.reduceBEq, Nat.reduceBNe, Int.reduceToNat, Int.reduceLE, Int.reduceLT, allocX, setPs, extremeA, ints, resAll, rinfOk, packR]
    have d0v : 0 < v := by omega
    obtain ⟨W, hW⟩ : ∃ W, W = u * 4294967296 + x1 := ⟨_, rfl⟩
    have f1 : W / v < 4294967296 := by rw [hW]; exact dig_small hu z1
    have f2 : W / v ≤ u / d1 := by rw [hW, hdv]; exact dig_ge (by omega) z1
    have f3 : u / d1 ≤ 4294967297 := dig_first w1.1 w0 (by omega)
    have f4 : ∀ q r : Nat, q * d1 + r = u → (q * d0 > 4294967296 * r + x1 ↔ q * v > W) := fun q r h => by rw [hW, hdv]; exact dig_gt h
    have f5 : ∀ q r : Nat, q * d1 + r = u → 4294967296 ≤ r → q ≤ W / v := fun q r h hr => dig_le d0v (by rw [hW, hdv]; exact dig_big h (by omega) w0 hr)
    have f6 := two_digits (W := W) (v := v) (b := x0) (K := 4294967296) d0v
    have f7 : W * 4294967296 + x0 = u * 18446744073709551616 + z := by omega
    rw [f7, fin.1] at f6
    have f8 := Nat.mod_lt W d0v
    have f9 := Nat.div_add_mod W v
    have f10 : ∀ q, W / v < q ↔ q * v > W := fun q => by rw [Nat.div_lt_iff_lt_mul d0v]
    obtain ⟨Q, hQd⟩ : ∃ Q, Q = W / v := ⟨_, rfl⟩
    obtain ⟨R, hRd⟩ : ∃ R, R = W % v := ⟨_, rfl⟩
    rw [← hQd] at f1 f2 f6 f9
    simp only [← hQd] at f5 f10
    rw [← hRd] at f6 f8 f9
    obtain ⟨W2, hW2⟩ : ∃ W2, W2 = R * 4294967296 + x0 := ⟨_, rfl⟩
    have g1 : W2 / v < 4294967296 := by rw [hW2]; exact dig_small f8 z0
    have g2 : W2 / v ≤ R / d1 := by rw [hW2, hdv]; exact dig_ge (by omega) z0
    have g3 : R / d1 ≤ 4294967297 := dig_first w1.1 w0 (by omega)
    have g4 : ∀ q r : Nat, q * d1 + r = R → (q * d0 > 4294967296 * r + x0 ↔ q * v > W2) := fun q r h => by rw [hW2, hdv]; exact dig_gt h
    have g5 : ∀ q r : Nat, q * d1 + r = R → 4294967296 ≤ r → q ≤ W2 / v := fun q r h hr => dig_le d0v (by rw [hW2, hdv]; exact dig_big h (by omega) w0 hr)
    have g8 := Nat.mod_lt W2 d0v
    have g9 := Nat.div_add_mod W2 v
    have g10 : ∀ q, W2 / v < q ↔ q * v > W2 := fun q => by rw [Nat.div_lt_iff_lt_mul d0v]
    rw [← hW2] at f6
    obtain ⟨Q2, hQd2⟩ : ∃ Q2, Q2 = W2 / v := ⟨_, rfl⟩
    obtain ⟨R2, hRd2⟩ : ∃ R2, R2 = W2 % v := ⟨_, rfl⟩
    rw [← hQd2] at g1 g2 f6 g9
    simp only [← hQd2] at g5 g10
    rw [← hRd2] at g8 g9 f6
    have hmul : ∀ q : Nat, q ≤ 4294967297 → q * d0 < 18446744073709551616 := fun q h => by
      have : q * d0 ≤ 4294967297 * 4294967295 := Nat.mul_le_mul h (by omega)
      omega
    have hrest : IntKind.wrap .u64 (IntKind.wrap .u64 (IntKind.wrap .u64 ((u : Int) * 4294967296) + (x1 : Int)) - IntKind.wrap .u64 ((Q : Int) * (v : Int))) = (R : Int) := by
      rw [Nat.mul_comm] at f9
      rw [mulN]
      generalize Q * v = B at *
      simp only [wrapU]
      omega
    have hrest2 : IntKind.wrap .u64 (IntKind.wrap .u64 (IntKind.wrap .u64 ((R : Int) * 4294967296) + (x0 : Int)) - IntKind.wrap .u64 ((Q2 : Int) * (v : Int))) = (R2 : Int) := by
      rw [Nat.mul_comm] at g9
      rw [mulN]
      generalize Q2 * v = B at *
      simp only [wrapU]
      omega
    have hdn : ∀ q m : Nat, q < m → m * d1 = (m - 1) * d1 + d1 := fun q m h => by
      obtain ⟨k, rfl⟩ : ∃ k, m = k + 1 := ⟨m - 1, by omega⟩
      rw [Nat.add_mul, Nat.one_mul]; rfl
    refine wp_loop (fun m s' => ∃ q r : Nat, m = q ∧ q * d1 + r = u ∧ Q ≤ q ∧ q ≤ 4294967297 ∧ r < 4294967296 ∧ s' = ⟨[jk, jk, ut v, jk, jk, jk, jk, jk, ut s, ut d1, ut d0, ut u, jk, ut x1, ut x0, ut q, ut r, jk, jk, jk, jk, jk, jk, jk, jk, jk, jk, jk, jk, jk, jk, jk, jk, jk, jk, jk, jk, jk, jk, jk, jk, jk, jk, jk, jk, jk, jk, jk, jk, jk, jk, jk, jk, jk, jk, jk, jk, jk, jk, jk, jk, jk, jk, jk, jk, jk, jk, jk, jk, jk, jk, jk, jk, jk, jk, jk, jk, jk, jk, jk, jk, jk, jk, jk, jk, jk, jk, jk, jk, jk, jk, jk, jk, jk, jk, jk, jk, jk, jk, jk, jk, jk, jk, jk, jk, jk, jk, jk, jk, jk, jk, jk, jk, jk, jk, jk, jk, jk, jk, jk, jk, jk, jk, jk, jk, jk, jk, jk, jk, jk, jk, jk, jk, jk, jk], [], [], [], [], 0, nomem⟩) (u / d1) ?_ ?_
    · simp -implicitDefEqProofs only [rkA, stepA, valA, storeA, ldA, fieldAddrA, fieldA, idxAddrA, idxA, idxArr, lenA, unA, binA, num2, binV, eqA, rowOf, PV.cells, PV.cell, bndA, appA, reduceIte, reduceCtorEq, Nat.reduceAdd, Nat.reduceSub, Nat.reduceEqDiff, Nat.reduceLeDiff, Nat.reduceLT, Nat.reduceMul, Nat.reduceBEq, Nat.reduceBNe, Int.reduceToNat, Int.reduceLE, Int.reduceLT, allocX, setPs, extremeA, ints, resAll, rinfOk, packR]
      exact ⟨u / d1, u % d1, rfl, by rw [Nat.mul_comm]; exact q2, f2, f3, by omega, rfl⟩
    rintro m s' ⟨q, r, rfl, k1, k2, k3, k4, rfl⟩
    have b1 := hmul m k3
    have e4 : IntKind.wrap .u64 (IntKind.wrap .u64 (4294967296 * (r : Int)) + (x1 : Int)) = ((4294967296 * r + x1 : Nat) : Int) := by rw [wrapU, wrapU]; omega
    have e5 : IntKind.wrap .u64 ((r : Int) + (d1 : Int)) = ((r + d1 : Nat) : Int) := by rw [wrapU]; omega
    simp -implicitDefEqProofs only [rkA, stepA, valA, storeA, ldA, fieldAddrA, fieldA, idxAddrA, idxA, idxArr, lenA, unA, binA, num2, binV, eqA, rowOf, PV.cells, PV.cell, bndA, appA, reduceIte, reduceCtorEq, Nat.reduceAdd, Nat.reduceSub, Nat.reduceEqDiff, Nat.reduceLeDiff, Nat.reduceLT, Nat.reduceMul, Nat.reduceBEq, Nat.reduceBNe, Int.reduceToNat, Int.reduceLE, Int.reduceLT, allocX, setPs, extremeA, ints, resAll, rinfOk, packR]
    refine gB_dec ?_ ?_ <;> intro hc <;> simp -implicitDefEqProofs only [hc, rkA, stepA, valA, storeA, ldA, fieldAddrA, fieldA, idxAddrA, idxA, idxArr, lenA, unA, binA, num2, binV, eqA, rowOf, PV.cells, PV.cell, bndA, appA, reduceIte, reduceCtorEq, Nat.reduceAdd, Nat.reduceSub, Nat.reduceEqDiff, Nat.reduceLeDiff, Nat.reduceLT, Nat.reduceMul, Nat.reduceBEq, Nat.reduceBNe, Int.reduceToNat, Int.reduceLE, Int.reduceLT, allocX, setPs, extremeA, ints, resAll, rinfOk, packR]
    · have hlt : Q < m := by omega
      have hm := hdn Q m hlt
      have e6 : IntKind.wrap .u64 ((m : Int) - 1) = ((m - 1 : Nat) : Int) := by rw [wrapU]; omega
      simp -implicitDefEqProofs only [e6, e5, rkA, stepA, valA, storeA, ldA, fieldAddrA, fieldA, idxAddrA, idxA, idxArr, lenA, unA, binA, num2, binV, eqA, rowOf, PV.cells, PV.cell, bndA, appA, reduceIte, reduceCtorEq, Nat.reduceAdd, Nat.reduceSub, Nat.reduceEqDiff, Nat.reduceLeDiff, Nat.reduceLT, Nat.reduceMul, Nat.reduceBEq, Nat.reduceBNe, Int.reduceToNat, Int.reduceLE, Int.reduceLT, allocX, setPs, extremeA, ints, resAll, rinfOk, packR]
      refine gB_dec ?_ ?_ <;> intro hc2 <;> simp -implicitDefEqProofs only [hc2, rkA, stepA, valA, storeA, ldA, fieldAddrA, fieldA, idxAddrA, idxA, idxArr, lenA, unA, binA, num2, binV, eqA, rowOf, PV.cells, PV.cell, bndA, appA, reduceIte, reduceCtorEq, Nat.reduceAdd, Nat.reduceSub, Nat.reduceEqDiff, Nat.reduceLeDiff, Nat.reduceLT, Nat.reduceMul, Nat.reduceBEq, Nat.reduceBNe, Int.reduceToNat, Int.reduceLE, Int.reduceLT, allocX, setPs, extremeA, ints, resAll, rinfOk, packR]
      · have hq : m - 1 = Q := by have := f5 (m - 1) (r + d1) (by omega) (by omega); omega
        rw [hq]
        simp -implicitDefEqProofs only [hrest, rkA, stepA, valA, storeA, ldA, fieldAddrA, fieldA, idxAddrA, idxA, idxArr, lenA, unA, binA, num2, binV, eqA, rowOf, PV.cells, PV.cell, bndA, appA, reduceIte, reduceCtorEq, Nat.reduceAdd, Nat.reduceSub, Nat.reduceEqDiff, Nat.reduceLeDiff, Nat.reduceLT, Nat.reduceMul, Nat.reduceBEq, Nat.reduceBNe, Int.reduceToNat, Int.reduceLE, Int.reduceLT, allocX, setPs, extremeA, ints, resAll, rinfOk, packR]
        have p1 := Nat.div_le_self R d1
        have p2 := Nat.div_add_mod R d1
        have p3 := Nat.mod_lt R (show 0 < d1 by omega)
        have p4 : R / d1 * d1 ≤ R := Nat.div_mul_le_self R d1
        have p5 : R - R / d1 * d1 = R % d1 := by rw [Nat.mul_comm]; omega
        simp -implicitDefEqProofs only [d1n, tdivN, mulN, wrapN (show R / d1 < 18446744073709551616 by omega), wrapN (show R / d1 * d1 < 18446744073709551616 by omega), subN p4, p5, wrapN (show R % d1 < 18446744073709551616 by omega), rkA, stepA, valA, storeA, ldA, fieldAddrA, fieldA, idxAddrA, idxA, idxArr, lenA, unA, binA, num2, binV, eqA, rowOf, PV.cells, PV.cell, bndA, appA, reduceIte, reduceCtorEq, Nat.reduceAdd, Nat.reduceSub, Nat.reduceEqDiff, Nat.reduceLeDiff, Nat.reduceLT, Nat.reduceMul, Nat.reduceBEq, Nat.reduceBNe, Int.reduceToNat, Int.reduceLE, Int.reduceLT, allocX, setPs, extremeA, ints, resAll, rinfOk, packR]
        refine wp_loop (fun m s' => ∃ q r : Nat, m = q ∧ q * d1 + r = R ∧ Q2 ≤ q ∧ q ≤ 4294967297 ∧ r < 4294967296 ∧ s' = ⟨[jk, jk, ut v, jk, jk, jk, jk, jk, ut s, ut d1, ut d0, jk, jk, jk, ut x0, ut Q, ut r, ut R, ut q, jk, jk, jk, jk, jk, jk, jk, jk, jk, jk, jk, jk, jk, jk, jk, jk, jk, jk, jk, jk, jk, jk, jk, jk, jk, jk, jk, jk, jk, jk, jk, jk, jk, jk, jk, jk, jk, jk, jk, jk, jk, jk, jk, jk, jk, jk, jk, jk, jk, jk, jk, jk, jk, jk, jk, jk, jk, jk, jk, jk, jk, jk, jk, jk, jk, jk, jk, jk, jk, jk, jk, jk, jk, jk, jk, jk, jk, jk, jk, jk, jk, jk, jk, jk, jk, jk, jk, jk, jk, jk, jk, jk, jk, jk, jk, jk, jk, jk, jk, jk, jk, jk, jk, jk, jk, jk, jk, jk, jk, jk, jk, jk, jk, jk, jk, jk], [], [], [], [], 0, nomem⟩) (R / d1) ?_ ?_
        · simp -implicitDefEqProofs only [rkA, stepA, valA, storeA, ldA, fieldAddrA, fieldA, idxAddrA, idxA, idxArr, lenA, unA, binA, num2, binV, eqA, rowOf, PV.cells, PV.cell, bndA, appA, reduceIte, reduceCtorEq, Nat.reduceAdd, Nat.reduceSub, Nat.reduceEqDiff, Nat.reduceLeDiff, Nat.reduceLT, Nat.reduceMul, Nat.reduceBEq, Nat.reduceBNe, Int.reduceToNat, Int.reduceLE, Int.reduceLT, allocX, setPs, extremeA, ints, resAll, rinfOk, packR]
          exact ⟨R / d1, R % d1, rfl, by rw [Nat.mul_comm]; exact p2, g2, g3, by omega, rfl⟩
        rintro m' s' ⟨q, r', rfl, l1, l2, l3, l4, rfl⟩
        have b1' := hmul m' l3
        have e4' : IntKind.wrap .u64 (IntKind.wrap .u64 (4294967296 * (r' : Int)) + (x0 : Int)) = ((4294967296 * r' + x0 : Nat) : Int) := by rw [wrapU, wrapU]; omega
        have e5' : IntKind.wrap .u64 ((r' : Int) + (d1 : Int)) = ((r' + d1 : Nat) : Int) := by rw [wrapU]; omega
        have efin : IntKind.wrap .u64 (IntKind.wrap .u64 ((Q : Int) * 4294967296) + (Q2 : Int)) = (((hi * 18446744073709551616 + lo) / y : Nat) : Int) := by rw [← f6.1, wrapU, wrapU]; omega
        have efin2 : ((R2 : Int)).fdiv (2 ^ min s (IntKind.bits .u64)) = (((hi * 18446744073709551616 + lo) % y : Nat) : Int) := by rw [shrN _ (show s ≤ 64 by omega), f6.2, fin.2]
        simp -implicitDefEqProofs only [rkA, stepA, valA, storeA, ldA, fieldAddrA, fieldA, idxAddrA, idxA, idxArr, lenA, unA, binA, num2, binV, eqA, rowOf, PV.cells, PV.cell, bndA, appA, reduceIte, reduceCtorEq, Nat.reduceAdd, Nat.reduceSub, Nat.reduceEqDiff, Nat.reduceLeDiff, Nat.reduceLT, Nat.reduceMul, Nat.reduceBEq, Nat.reduceBNe, Int.reduceToNat, Int.reduceLE, Int.reduceLT, allocX, setPs, extremeA, ints, resAll, rinfOk, packR]
        refine gB_dec ?_ ?_ <;> intro hc5 <;> simp -implicitDefEqProofs only [hc5, rkA, stepA, valA, storeA, ldA, fieldAddrA, fieldA, idxAddrA, idxA, idxArr, lenA, unA, binA, num2, binV, eqA, rowOf, PV.cells, PV.cell, bndA, appA, reduceIte, reduceCtorEq, Nat.reduceAdd, Nat.reduceSub, Nat.reduceEqDiff, Nat.reduceLeDiff, Nat.reduceLT, Nat.reduceMul, Nat.reduceBEq, Nat.reduceBNe, Int.reduceToNat, Int.reduceLE, Int.reduceLT, allocX, setPs, extremeA, ints, resAll, rinfOk, packR]
        · have hlt : Q2 < m' := by omega
          have hm := hdn Q2 m' hlt
          have e6 : IntKind.wrap .u64 ((m' : Int) - 1) = ((m' - 1 : Nat) : Int) := by rw [wrapU]; omega
          simp -implicitDefEqProofs only [e6, e5', rkA, stepA, valA, storeA, ldA, fieldAddrA, fieldA, idxAddrA, idxA, idxArr, lenA, unA, binA, num2, binV, eqA, rowOf, PV.cells, PV.cell, bndA, appA, reduceIte, reduceCtorEq, Nat.reduceAdd, Nat.reduceSub, Nat.reduceEqDiff, Nat.reduceLeDiff, Nat.reduceLT, Nat.reduceMul, Nat.reduceBEq, Nat.reduceBNe, Int.reduceToNat, Int.reduceLE, Int.reduceLT, allocX, setPs, extremeA, ints, resAll, rinfOk, packR]
          refine gB_dec ?_ ?_ <;> intro hc6 <;> simp -implicitDefEqProofs only [hc6, rkA, stepA, valA, storeA, ldA, fieldAddrA, fieldA, idxAddrA, idxA, idxArr, lenA, unA, binA, num2, binV, eqA, rowOf, PV.cells, PV.cell, bndA, appA, reduceIte, reduceCtorEq, Nat.reduceAdd, Nat.reduceSub, Nat.reduceEqDiff, Nat.reduceLeDiff, Nat.reduceLT, Nat.reduceMul, Nat.reduceBEq, Nat.reduceBNe, Int.reduceToNat, Int.reduceLE, Int.reduceLT, allocX, setPs, extremeA, ints, resAll, rinfOk, packR]
          · have hq : m' - 1 = Q2 := by have := g5 (m' - 1) (r' + d1) (by omega) (by omega); omega
            rw [hq]
            simp -implicitDefEqProofs only [hrest2, s0, Int.toNat_natCast, efin, efin2, rkA, stepA, valA, storeA, ldA, fieldAddrA, fieldA, idxAddrA, idxA, idxArr, lenA, unA, binA, num2, binV, eqA, rowOf, PV.cells, PV.cell, bndA, appA, reduceIte, reduceCtorEq, Nat.reduceAdd, Nat.reduceSub, Nat.reduceEqDiff, Nat.reduceLeDiff, Nat.reduceLT, Nat.reduceMul, Nat.reduceBEq, Nat.reduceBNe, Int.reduceToNat, Int.reduceLE, Int.reduceLT, allocX, setPs, extremeA, ints, resAll, rinfOk, packR]
          · refine loopK_of (m' := m' - 1) (by omega) ?_
            simp -implicitDefEqProofs only [rkA, stepA, valA, storeA, ldA, fieldAddrA, fieldA, idxAddrA, idxA, idxArr, lenA, unA, binA, num2, binV, eqA, rowOf, PV.cells, PV.cell, bndA, appA, reduceIte, reduceCtorEq, Nat.reduceAdd, Nat.reduceSub, Nat.reduceEqDiff, Nat.reduceLeDiff, Nat.reduceLT, Nat.reduceMul, Nat.reduceBEq, Nat.reduceBNe, Int.reduceToNat, Int.reduceLE, Int.reduceLT, allocX, setPs, extremeA, ints, resAll, rinfOk, packR]
            exact ⟨m' - 1, r' + d1, rfl, by omega, by omega, by omega, by omega, rfl⟩
        · simp -implicitDefEqProofs only [mulN, wrapN b1', e4', rkA, stepA, valA, storeA, ldA, fieldAddrA, fieldA, idxAddrA, idxA, idxArr, lenA, unA, binA, num2, binV, eqA, rowOf, PV.cells, PV.cell, bndA, appA, reduceIte, reduceCtorEq, Nat.reduceAdd, Nat.reduceSub, Nat.reduceEqDiff, Nat.reduceLeDiff, Nat.reduceLT, Nat.reduceMul, Nat.reduceBEq, Nat.reduceBNe, Int.reduceToNat, Int.reduceLE, Int.reduceLT, allocX, setPs, extremeA, ints, resAll, rinfOk, packR]
          refine gB_dec ?_ ?_ <;> intro hc6 <;> simp -implicitDefEqProofs only [hc6, rkA, stepA, valA, storeA, ldA, fieldAddrA, fieldA, idxAddrA, idxA, idxArr, lenA, unA, binA, num2, binV, eqA, rowOf, PV.cells, PV.cell, bndA, appA, reduceIte, reduceCtorEq, Nat.reduceAdd, Nat.reduceSub, Nat.reduceEqDiff, Nat.reduceLeDiff, Nat.reduceLT, Nat.reduceMul, Nat.reduceBEq, Nat.reduceBNe, Int.reduceToNat, Int.reduceLE, Int.reduceLT, allocX, setPs, extremeA, ints, resAll, rinfOk, packR]
          · have hlt : Q2 < m' := (g10 m').2 ((g4 _ _ l1).1 (by omega))
            have hm := hdn Q2 m' hlt
            have e6 : IntKind.wrap .u64 ((m' : Int) - 1) = ((m' - 1 : Nat) : Int) := by rw [wrapU]; omega
            simp -implicitDefEqProofs only [e6, e5', rkA, stepA, valA, storeA, ldA, fieldAddrA, fieldA, idxAddrA, idxA, idxArr, lenA, unA, binA, num2, binV, eqA, rowOf, PV.cells, PV.cell, bndA, appA, reduceIte, reduceCtorEq, Nat.reduceAdd, Nat.reduceSub, Nat.reduceEqDiff, Nat.reduceLeDiff, Nat.reduceLT, Nat.reduceMul, Nat.reduceBEq, Nat.reduceBNe, Int.reduceToNat, Int.reduceLE, Int.reduceLT, allocX, setPs, extremeA, ints, resAll, rinfOk, packR]
            refine gB_dec ?_ ?_ <;> intro hc7 <;> simp -implicitDefEqProofs only [hc7, rkA, stepA, valA, storeA, ldA, fieldAddrA, fieldA, idxAddrA, idxA, idxArr, lenA, unA, binA, num2, binV, eqA, rowOf, PV.cells, PV.cell, bndA, appA, reduceIte, reduceCtorEq, Nat.reduceAdd, Nat.reduceSub, Nat.reduceEqDiff, Nat.reduceLeDiff, Nat.reduceLT, Nat.reduceMul, Nat.reduceBEq, Nat.reduceBNe, Int.reduceToNat, Int.reduceLE, Int.reduceLT, allocX, setPs, extremeA, ints, resAll, rinfOk, packR]
            · have hq : m' - 1 = Q2 := by have := g5 (m' - 1) (r' + d1) (by omega) (by omega); omega
              rw [hq]
              simp -implicitDefEqProofs only [hrest2, s0, Int.toNat_natCast, efin, efin2, rkA, stepA, valA, storeA, ldA, fieldAddrA, fieldA, idxAddrA, idxA, idxArr, lenA, unA, binA, num2, binV, eqA, rowOf, PV.cells, PV.cell, bndA, appA, reduceIte, reduceCtorEq, Nat.reduceAdd, Nat.reduceSub, Nat.reduceEqDiff, Nat.reduceLeDiff, Nat.reduceLT, Nat.reduceMul, Nat.reduceBEq, Nat.reduceBNe, Int.reduceToNat, Int.reduceLE, Int.reduceLT, allocX, setPs, extremeA, ints, resAll, rinfOk, packR]
            · refine loopK_of (m' := m' - 1) (by omega) ?_
              simp -implicitDefEqProofs only [rkA, stepA, valA, storeA, ldA, fieldAddrA, fieldA, idxAddrA, idxA, idxArr, lenA, unA, binA, num2, binV, eqA, rowOf, PV.cells, PV.cell, bndA, appA, reduceIte, reduceCtorEq, Nat.reduceAdd, Nat.reduceSub, Nat.reduceEqDiff, Nat.reduceLeDiff, Nat.reduceLT, Nat.reduceMul, Nat.reduceBEq, Nat.reduceBNe, Int.reduceToNat, Int.reduceLE, Int.reduceLT, allocX, setPs, extremeA, ints, resAll, rinfOk, packR]
              exact ⟨m' - 1, r' + d1, rfl, by omega, by omega, by omega, by omega, rfl⟩
          · have hq : m' = Q2 := by
              have h1 : ¬ Q2 < m' := fun h => by have := (g4 _ _ l1).2 ((g10 m').1 h); omega
              omega
            rw [hq]
            simp -implicitDefEqProofs only [hrest2, s0, Int.toNat_natCast, efin, efin2, rkA, stepA, valA, storeA, ldA, fieldAddrA, fieldA, idxAddrA, idxA, idxArr, lenA, unA, binA, num2, binV, eqA, rowOf, PV.cells, PV.cell, bndA, appA, reduceIte, reduceCtorEq, Nat.reduceAdd, Nat.reduceSub, Nat.reduceEqDiff, Nat.reduceLeDiff, Nat.reduceLT, Nat.reduceMul, Nat.reduceBEq, Nat.reduceBNe, Int.reduceToNat, Int.reduceLE, Int.reduceLT, allocX, setPs, extremeA, ints, resAll, rinfOk, packR]
      · refine loopK_of (m' := m - 1) (by omega) ?_
        simp -implicitDefEqProofs only [rkA, stepA, valA, storeA, ldA, fieldAddrA, fieldA, idxAddrA, idxA, idxArr, lenA, unA, binA, num2, binV, eqA, rowOf, PV.cells, PV.cell, bndA, appA, reduceIte, reduceCtorEq, Nat.reduceAdd, Nat.reduceSub, Nat.reduceEqDiff, Nat.reduceLeDiff, Nat.reduceLT, Nat.reduceMul, Nat.reduceBEq, Nat.reduceBNe, Int.reduceToNat, Int.reduceLE, Int.reduceLT, allocX, setPs, extremeA, ints, resAll, rinfOk, packR]
        exact ⟨m - 1, r + d1, rfl, by omega, by omega, by omega, by omega, rfl⟩
    · simp -implicitDefEqProofs only [mulN, wrapN b1, e4, rkA, stepA, valA, storeA, ldA, fieldAddrA, fieldA, idxAddrA, idxA, idxArr, lenA, unA, binA, num2, binV, eqA, rowOf, PV.cells, PV.cell, bndA, appA, reduceIte, reduceCtorEq, Nat.reduceAdd, Nat.reduceSub, Nat.reduceEqDiff, Nat.reduceLeDiff, Nat.reduceLT, Nat.reduceMul, Nat.reduceBEq, Nat.reduceBNe, Int.reduceToNat, Int.reduceLE, Int.reduceLT, allocX, setPs, extremeA, ints, resAll, rinfOk, packR]
      refine gB_dec ?_ ?_ <;> intro hc2 <;> simp -implicitDefEqProofs only [hc2, rkA, stepA, valA, storeA, ldA, fieldAddrA, fieldA, idxAddrA, idxA, idxArr, lenA, unA, binA, num2, binV, eqA, rowOf, PV.cells, PV.cell, bndA, appA, reduceIte, reduceCtorEq, Nat.reduceAdd, Nat.reduceSub, Nat.reduceEqDiff, Nat.reduceLeDiff, Nat.reduceLT, Nat.reduceMul, Nat.reduceBEq, Nat.reduceBNe, Int.reduceToNat, Int.reduceLE, Int.reduceLT, allocX, setPs, extremeA, ints, resAll, rinfOk, packR]
      · have hlt : Q < m := (f10 m).2 ((f4 _ _ k1).1 (by omega))
        have hm := hdn Q m hlt
        have e6 : IntKind.wrap .u64 ((m : Int) - 1) = ((m - 1 : Nat) : Int) := by rw [wrapU]; omega
        simp -implicitDefEqProofs only [e6, e5, rkA, stepA, valA, storeA, ldA, fieldAddrA, fieldA, idxAddrA, idxA, idxArr, lenA, unA, binA, num2, binV, eqA, rowOf, PV.cells, PV.cell, bndA, appA, reduceIte, reduceCtorEq, Nat.reduceAdd, Nat.reduceSub, Nat.reduceEqDiff, Nat.reduceLeDiff, Nat.reduceLT, Nat.reduceMul, Nat.reduceBEq, Nat.reduceBNe, Int.reduceToNat, Int.reduceLE, Int.reduceLT, allocX, setPs, extremeA, ints, resAll, rinfOk, packR]
        refine gB_dec ?_ ?_ <;> intro hc3 <;> simp -implicitDefEqProofs only [hc3, rkA, stepA, valA, storeA, ldA, fieldAddrA, fieldA, idxAddrA, idxA, idxArr, lenA, unA, binA, num2, binV, eqA, rowOf, PV.cells, PV.cell, bndA, appA, reduceIte, reduceCtorEq, Nat.reduceAdd, Nat.reduceSub, Nat.reduceEqDiff, Nat.reduceLeDiff, Nat.reduceLT, Nat.reduceMul, Nat.reduceBEq, Nat.reduceBNe, Int.reduceToNat, Int.reduceLE, Int.reduceLT, allocX, setPs, extremeA, ints, resAll, rinfOk, packR]
        · have hq : m - 1 = Q := by have := f5 (m - 1) (r + d1) (by omega) (by omega); omega
          rw [hq]
          simp -implicitDefEqProofs only [hrest, rkA, stepA, valA, storeA, ldA, fieldAddrA, fieldA, idxAddrA, idxA, idxArr, lenA, unA, binA, num2, binV, eqA, rowOf, PV.cells, PV.cell, bndA, appA, reduceIte, reduceCtorEq, Nat.reduceAdd, Nat.reduceSub, Nat.reduceEqDiff, Nat.reduceLeDiff, Nat.reduceLT, Nat.reduceMul, Nat.reduceBEq, Nat.reduceBNe, Int.reduceToNat, Int.reduceLE, Int.reduceLT, allocX, setPs, extremeA, ints, resAll, rinfOk, packR]
          have p1 := Nat.div_le_self R d1
          have p2 := Nat.div_add_mod R d1
          have p3 := Nat.mod_lt R (show 0 < d1 by omega)
          have p4 : R / d1 * d1 ≤ R := Nat.div_mul_le_self R d1
          have p5 : R - R / d1 * d1 = R % d1 := by rw [Nat.mul_comm]; omega
          simp -implicitDefEqProofs only [d1n, tdivN, mulN, wrapN (show R / d1 < 18446744073709551616 by omega), wrapN (show R / d1 * d1 < 18446744073709551616 by omega), subN p4, p5, wrapN (show R % d1 < 18446744073709551616 by omega), rkA, stepA, valA, storeA, ldA, fieldAddrA, fieldA, idxAddrA, idxA, idxArr, lenA, unA, binA, num2, binV, eqA, rowOf, PV.cells, PV.cell, bndA, appA, reduceIte, reduceCtorEq, Nat.reduceAdd, Nat.reduceSub, Nat.reduceEqDiff, Nat.reduceLeDiff, Nat.reduceLT, Nat.reduceMul, Nat.reduceBEq, Nat.reduceBNe, Int.reduceToNat, Int.reduceLE, Int.reduceLT, allocX, setPs, extremeA, ints, resAll, rinfOk, packR]
          refine wp_loop (fun m s' => ∃ q r : Nat, m = q ∧ q * d1 + r = R ∧ Q2 ≤ q ∧ q ≤ 4294967297 ∧ r < 4294967296 ∧ s' = ⟨[jk, jk, ut v, jk, jk, jk, jk, jk, ut s, ut d1, ut d0, jk, jk, jk, ut x0, ut Q, ut r, ut R, ut q, jk, jk, jk, jk, jk, jk, jk, jk, jk, jk, jk, jk, jk, jk, jk, jk, jk, jk, jk, jk, jk, jk, jk, jk, jk, jk, jk, jk, jk, jk, jk, jk, jk, jk, jk, jk, jk, jk, jk, jk, jk, jk, jk, jk, jk, jk, jk, jk, jk, jk, jk, jk, jk, jk, jk, jk, jk, jk, jk, jk, jk, jk, jk, jk, jk, jk, jk, jk, jk, jk, jk, jk, jk, jk, jk, jk, jk, jk, jk, jk, jk, jk, jk, jk, jk, jk, jk, jk, jk, jk, jk, jk, jk, jk, jk, jk, jk, jk, jk, jk, jk, jk, jk, jk, jk, jk, jk, jk, jk, jk, jk, jk, jk, jk, jk, jk], [], [], [], [], 0, nomem⟩) (R / d1) ?_ ?_
          · simp -implicitDefEqProofs only [rkA, stepA, valA, storeA, ldA, fieldAddrA, fieldA, idxAddrA, idxA, idxArr, lenA, unA, binA, num2, binV, eqA, rowOf, PV.cells, PV.cell, bndA, appA, reduceIte, reduceCtorEq, Nat.reduceAdd, Nat.reduceSub, Nat.reduceEqDiff, Nat.reduceLeDiff, Nat.reduceLT, Nat.reduceMul, Nat.reduceBEq, Nat.reduceBNe, Int.reduceToNat, Int.reduceLE, Int.reduceLT, allocX, setPs, extremeA, ints, resAll, rinfOk, packR]
            exact ⟨R / d1, R % d1, rfl, by rw [Nat.mul_comm]; exact p2, g2, g3, by omega, rfl⟩
          rintro m' s' ⟨q, r', rfl, l1, l2, l3, l4, rfl⟩
          have b1' := hmul m' l3
          have e4' : IntKind.wrap .u64 (IntKind.wrap .u64 (4294967296 * (r' : Int)) + (x0 : Int)) = ((4294967296 * r' + x0 : Nat) : Int) := by rw [wrapU, wrapU]; omega
          have e5' : IntKind.wrap .u64 ((r' : Int) + (d1 : Int)) = ((r' + d1 : Nat) : Int) := by rw [wrapU]; omega
          have efin : IntKind.wrap .u64 (IntKind.wrap .u64 ((Q : Int) * 4294967296) + (Q2 : Int)) = (((hi * 18446744073709551616 + lo) / y : Nat) : Int) := by rw [← f6.1, wrapU, wrapU]; omega
          have efin2 : ((R2 : Int)).fdiv (2 ^ min s (IntKind.bits .u64)) = (((hi * 18446744073709551616 + lo) % y : Nat) : Int) := by rw [shrN _ (show s ≤ 64 by omega), f6.2, fin.2]
          simp -implicitDefEqProofs only [rkA, stepA, valA, storeA, ldA, fieldAddrA, fieldA, idxAddrA, idxA, idxArr, lenA, unA, binA, num2, binV, eqA, rowOf, PV.cells, PV.cell, bndA, appA, reduceIte, reduceCtorEq, Nat.reduceAdd, Nat.reduceSub, Nat.reduceEqDiff, Nat.reduceLeDiff, Nat.reduceLT, Nat.reduceMul, Nat.reduceBEq, Nat.reduceBNe, Int.reduceToNat, Int.reduceLE, Int.reduceLT, allocX, setPs, extremeA, ints, resAll, rinfOk, packR]
          refine gB_dec ?_ ?_ <;> intro hc5 <;> simp -implicitDefEqProofs only [hc5, rkA, stepA, valA, storeA, ldA, fieldAddrA, fieldA, idxAddrA, idxA, idxArr, lenA, unA, binA, num2, binV, eqA, rowOf, PV.cells, PV.cell, bndA, appA, reduceIte, reduceCtorEq, Nat.reduceAdd, Nat.reduceSub, Nat.reduceEqDiff, Nat.reduceLeDiff, Nat.reduceLT, Nat.reduceMul, Nat.reduceBEq, Nat.reduceBNe, Int.reduceToNat, Int.reduceLE, Int.reduceLT, allocX, setPs, extremeA, ints, resAll, rinfOk, packR]
          · have hlt : Q2 < m' := by omega
            have hm := hdn Q2 m' hlt
            have e6 : IntKind.wrap .u64 ((m' : Int) - 1) = ((m' - 1 : Nat) : Int) := by rw [wrapU]; omega
            simp -implicitDefEqProofs only [e6, e5', rkA, stepA, valA, storeA, ldA, fieldAddrA, fieldA, idxAddrA, idxA, idxArr, lenA, unA, binA, num2, binV, eqA, rowOf, PV.cells, PV.cell, bndA, appA, reduceIte, reduceCtorEq, Nat.reduceAdd, Nat.reduceSub, Nat.reduceEqDiff, Nat.reduceLeDiff, Nat.reduceLT, Nat.reduceMul, Nat.reduceBEq, Nat.reduceBNe, Int.reduceToNat, Int.reduceLE, Int.reduceLT, allocX, setPs, extremeA, ints, resAll, rinfOk, packR]
            refine gB_dec ?_ ?_ <;> intro hc6 <;> simp -implicitDefEqProofs only [hc6, rkA, stepA, valA, storeA, ldA, fieldAddrA, fieldA, idxAddrA, idxA, idxArr, lenA, unA, binA, num2, binV, eqA, rowOf, PV.cells, PV.cell, bndA, appA, reduceIte, reduceCtorEq, Nat.reduceAdd, Nat.reduceSub, Nat.reduceEqDiff, Nat.reduceLeDiff, Nat.reduceLT, Nat.reduceMul, Nat.reduceBEq, Nat.reduceBNe, Int.reduceToNat, Int.reduceLE, Int.reduceLT, allocX, setPs, extremeA, ints, resAll, rinfOk, packR]
            · have hq : m' - 1 = Q2 := by have := g5 (m' - 1) (r' + d1) (by omega) (by omega); omega
              rw [hq]
              simp -implicitDefEqProofs only [hrest2, s0, Int.toNat_natCast, efin, efin2, rkA, stepA, valA, storeA, ldA, fieldAddrA, fieldA, idxAddrA, idxA, idxArr, lenA, unA, binA, num2, binV, eqA, rowOf, PV.cells, PV.cell, bndA, appA, reduceIte, reduceCtorEq, Nat.reduceAdd, Nat.reduceSub, Nat.reduceEqDiff, Nat.reduceLeDiff, Nat.reduceLT, Nat.reduceMul, Nat.reduceBEq, Nat.reduceBNe, Int.reduceToNat, Int.reduceLE, Int.reduceLT, allocX, setPs, extremeA, ints, resAll, rinfOk, packR]
            · refine loopK_of (m' := m' - 1) (by omega) ?_
              simp -implicitDefEqProofs only [rkA, stepA, valA, storeA, ldA, fieldAddrA, fieldA, idxAddrA, idxA, idxArr, lenA, unA, binA, num2, binV, eqA, rowOf, PV.cells, PV.cell, bndA, appA, reduceIte, reduceCtorEq, Nat.reduceAdd, Nat.reduceSub, Nat.reduceEqDiff, Nat.reduceLeDiff, Nat.reduceLT, Nat.reduceMul, Nat.reduceBEq, Nat.reduceBNe, Int.reduceToNat, Int.reduceLE, Int.reduceLT, allocX, setPs, extremeA, ints, resAll, rinfOk, packR]
              exact ⟨m' - 1, r' + d1, rfl, by omega, by omega, by omega, by omega, rfl⟩
          · simp -implicitDefEqProofs only [mulN, wrapN b1', e4', rkA, stepA, valA, storeA, ldA, fieldAddrA, fieldA, idxAddrA, idxA, idxArr, lenA, unA, binA, num2, binV, eqA, rowOf, PV.cells, PV.cell, bndA, appA, reduceIte, reduceCtorEq, Nat.reduceAdd, Nat.reduceSub, Nat.reduceEqDiff, Nat.reduceLeDiff, Nat.reduceLT, Nat.reduceMul, Nat.reduceBEq, Nat.reduceBNe, Int.reduceToNat, Int.reduceLE, Int.reduceLT, allocX, setPs, extremeA, ints, resAll, rinfOk, packR]
            refine gB_dec ?_ ?_ <;> intro hc6 <;> simp -implicitDefEqProofs only [hc6, rkA, stepA, valA, storeA, ldA, fieldAddrA, fieldA, idxAddrA, idxA, idxArr, lenA, unA, binA, num2, binV, eqA, rowOf, PV.cells, PV.cell, bndA, appA, reduceIte, reduceCtorEq, Nat.reduceAdd, Nat.reduceSub, Nat.reduceEqDiff, Nat.reduceLeDiff, Nat.reduceLT, Nat.reduceMul, Nat.reduceBEq, Nat.reduceBNe, Int.reduceToNat, Int.reduceLE, Int.reduceLT, allocX, setPs, extremeA, ints, resAll, rinfOk, packR]
            · have hlt : Q2 < m' := (g10 m').2 ((g4 _ _ l1).1 (by omega))
              have hm := hdn Q2 m' hlt
              have e6 : IntKind.wrap .u64 ((m' : Int) - 1) = ((m' - 1 : Nat) : Int) := by rw [wrapU]; omega
              simp -implicitDefEqProofs only [e6, e5', rkA, stepA, valA, storeA, ldA, fieldAddrA, fieldA, idxAddrA, idxA, idxArr, lenA, unA, binA, num2, binV, eqA, rowOf, PV.cells, PV.cell, bndA, appA, reduceIte, reduceCtorEq, Nat.reduceAdd, Nat.reduceSub, Nat.reduceEqDiff, Nat.reduceLeDiff, Nat.reduceLT, Nat.reduceMul, Nat.reduceBEq, Nat.reduceBNe, Int.reduceToNat, Int.reduceLE, Int.reduceLT, allocX, setPs, extremeA, ints, resAll, rinfOk, packR]
              refine gB_dec ?_ ?_ <;> intro hc7 <;> simp -implicitDefEqProofs only [hc7, rkA, stepA, valA, storeA, ldA, fieldAddrA, fieldA, idxAddrA, idxA, idxArr, lenA, unA, binA, num2, binV, eqA, rowOf, PV.cells, PV.cell, bndA, appA, reduceIte, reduceCtorEq, Nat.reduceAdd, Nat.reduceSub, Nat.reduceEqDiff, Nat.reduceLeDiff, Nat.reduceLT, Nat.reduceMul, Nat.reduceBEq, Nat.reduceBNe, Int.reduceToNat, Int.reduceLE, Int.reduceLT, allocX, setPs, extremeA, ints, resAll, rinfOk, packR]
              · have hq : m' - 1 = Q2 := by have := g5 (m' - 1) (r' + d1) (by omega) (by omega); omega
                rw [hq]
                simp -implicitDefEqProofs only [hrest2, s0, Int.toNat_natCast, efin, efin2, rkA, stepA, valA, storeA, ldA, fieldAddrA, fieldA, idxAddrA, idxA, idxArr, lenA, unA, binA, num2, binV, eqA, rowOf, PV.cells, PV.cell, bndA, appA, reduceIte, reduceCtorEq, Nat.reduceAdd, Nat.reduceSub, Nat.reduceEqDiff, Nat.reduceLeDiff, Nat.reduceLT, Nat.reduceMul, Nat.reduceBEq, Nat.reduceBNe, Int.reduceToNat, Int.reduceLE, Int.reduceLT, allocX, setPs, extremeA, ints, resAll, rinfOk, packR]
              · refine loopK_of (m' := m' - 1) (by omega) ?_
                simp -implicitDefEqProofs only [rkA, stepA, valA, storeA, ldA, fieldAddrA, fieldA, idxAddrA, idxA, idxArr, lenA, unA, binA, num2, binV, eqA, rowOf, PV.cells, PV.cell, bndA, appA, reduceIte, reduceCtorEq, Nat.reduceAdd, Nat.reduceSub, Nat.reduceEqDiff, Nat.reduceLeDiff, Nat.reduceLT, Nat.reduceMul, Nat.reduceBEq, Nat.reduceBNe, Int.reduceToNat, Int.reduceLE, Int.reduceLT, allocX, setPs, extremeA, ints, resAll, rinfOk, packR]
                exact ⟨m' - 1, r' + d1, rfl, by omega, by omega, by omega, by omega, rfl⟩
            · have hq : m' = Q2 := by
                have h1 : ¬ Q2 < m' := fun h => by have := (g4 _ _ l1).2 ((g10 m').1 h); omega
                omega
              rw [hq]
              simp -implicitDefEqProofs only [hrest2, s0, Int.toNat_natCast, efin, efin2, rkA, stepA, valA, storeA, ldA, fieldAddrA, fieldA, idxAddrA, idxA, idxArr, lenA, unA, binA, num2, binV, eqA, rowOf, PV.cells, PV.cell, bndA, appA, reduceIte, reduceCtorEq, Nat.reduceAdd, Nat.reduceSub, Nat.reduceEqDiff, Nat.reduceLeDiff, Nat.reduceLT, Nat.reduceMul, Nat.reduceBEq, Nat.reduceBNe, Int.reduceToNat, Int.reduceLE, Int.reduceLT, allocX, setPs, extremeA, ints, resAll, rinfOk, packR]
        · refine loopK_of (m' := m - 1) (by omega) ?_
          simp -implicitDefEqProofs only [rkA, stepA, valA, storeA, ldA, fieldAddrA, fieldA, idxAddrA, idxA, idxArr, lenA, unA, binA, num2, binV, eqA, rowOf, PV.cells, PV.cell, bndA, appA, reduceIte, reduceCtorEq, Nat.reduceAdd, Nat.reduceSub, Nat.reduceEqDiff, Nat.reduceLeDiff, Nat.reduceLT, Nat.reduceMul, Nat.reduceBEq, Nat.reduceBNe, Int.reduceToNat, Int.reduceLE, Int.reduceLT, allocX, setPs, extremeA, ints, resAll, rinfOk, packR]
          exact ⟨m - 1, r + d1, rfl, by omega, by omega, by omega, by omega, rfl⟩
      · have hq : m = Q := by
          have h1 : ¬ Q < m := fun h => by have := (f4 _ _ k1).2 ((f10 m).1 h); omega
          omega
        rw [hq]
        simp -implicitDefEqProofs only [hrest, rkA, stepA, valA, storeA, ldA, fieldAddrA, fieldA, idxAddrA, idxA, idxArr, lenA, unA, binA, num2, binV, eqA, rowOf, PV.cells, PV.cell, bndA, appA, reduceIte, reduceCtorEq, Nat.reduceAdd, Nat.reduceSub, Nat.reduceEqDiff, Nat.reduceLeDiff, Nat.reduceLT, Nat.reduceMul, Nat.reduceBEq, Nat.reduceBNe, Int.reduceToNat, Int.reduceLE, Int.reduceLT, allocX, setPs, extremeA, ints, resAll, rinfOk, packR]
        have p1 := Nat.div_le_self R d1
        have p2 := Nat.div_add_mod R d1
        have p3 := Nat.mod_lt R (show 0 < d1 by omega)
        have p4 : R / d1 * d1 ≤ R := Nat.div_mul_le_self R d1
        have p5 : R - R / d1 * d1 = R % d1 := by rw [Nat.mul_comm]; omega
        simp -implicitDefEqProofs only [d1n, tdivN, mulN, wrapN (show R / d1 < 18446744073709551616 by omega), wrapN (show R / d1 * d1 < 18446744073709551616 by omega), subN p4, p5, wrapN (show R % d1 < 18446744073709551616 by omega), rkA, stepA, valA, storeA, ldA, fieldAddrA, fieldA, idxAddrA, idxA, idxArr, lenA, unA, binA, num2, binV, eqA, rowOf, PV.cells, PV.cell, bndA, appA, reduceIte, reduceCtorEq, Nat.reduceAdd, Nat.reduceSub, Nat.reduceEqDiff, Nat.reduceLeDiff, Nat.reduceLT, Nat.reduceMul, Nat.reduceBEq, Nat.reduceBNe, Int.reduceToNat, Int.reduceLE, Int.reduceLT, allocX, setPs, extremeA, ints, resAll, rinfOk, packR]
        refine wp_loop (fun m s' => ∃ q r : Nat, m = q ∧ q * d1 + r = R ∧ Q2 ≤ q ∧ q ≤ 4294967297 ∧ r < 4294967296 ∧ s' = ⟨[jk, jk, ut v, jk, jk, jk, jk, jk, ut s, ut d1, ut d0, jk, jk, jk, ut x0, ut Q, ut r, ut R, ut q, jk, jk, jk, jk, jk, jk, jk, jk, jk, jk, jk, jk, jk, jk, jk, jk, jk, jk, jk, jk, jk, jk, jk, jk, jk, jk, jk, jk, jk, jk, jk, jk, jk, jk, jk, jk, jk, jk, jk, jk, jk, jk, jk, jk, jk, jk, jk, jk, jk, jk, jk, jk, jk, jk, jk, jk, jk, jk, jk, jk, jk, jk, jk, jk, jk, jk, jk, jk, jk, jk, jk, jk, jk, jk, jk, jk, jk, jk, jk, jk, jk, jk, jk, jk, jk, jk, jk, jk, jk, jk, jk, jk, jk, jk, jk, jk, jk, jk, jk, jk, jk, jk, jk, jk, jk, jk, jk, jk, jk, jk, jk, jk, jk, jk, jk, jk], [], [], [], [], 0, nomem⟩) (R / d1) ?_ ?_
        · simp -implicitDefEqProofs only [rkA, stepA, valA, storeA, ldA, fieldAddrA, fieldA, idxAddrA, idxA, idxArr, lenA, unA, binA, num2, binV, eqA, rowOf, PV.cells, PV.cell, bndA, appA, reduceIte, reduceCtorEq, Nat.reduceAdd, Nat.reduceSub, Nat.reduceEqDiff, Nat.reduceLeDiff, Nat.reduceLT, Nat.reduceMul, Nat.reduceBEq, Nat.reduceBNe, Int.reduceToNat, Int.reduceLE, Int.reduceLT, allocX, setPs, extremeA, ints, resAll, rinfOk, packR]
          exact ⟨R / d1, R % d1, rfl, by rw [Nat.mul_comm]; exact p2, g2, g3, by omega, rfl⟩
        rintro m' s' ⟨q, r', rfl, l1, l2, l3, l4, rfl⟩
        have b1' := hmul m' l3
        have e4' : IntKind.wrap .u64 (IntKind.wrap .u64 (4294967296 * (r' : Int)) + (x0 : Int)) = ((4294967296 * r' + x0 : Nat) : Int) := by rw [wrapU, wrapU]; omega
        have e5' : IntKind.wrap .u64 ((r' : Int) + (d1 : Int)) = ((r' + d1 : Nat) : Int) := by rw [wrapU]; omega
        have efin : IntKind.wrap .u64 (IntKind.wrap .u64 ((Q : Int) * 4294967296) + (Q2 : Int)) = (((hi * 18446744073709551616 + lo) / y : Nat) : Int) := by rw [← f6.1, wrapU, wrapU]; omega
        have efin2 : ((R2 : Int)).fdiv (2 ^ min s (IntKind.bits .u64)) = (((hi * 18446744073709551616 + lo) % y : Nat) : Int) := by rw [shrN _ (show s ≤ 64 by omega), f6.2, fin.2]
        simp -implicitDefEqProofs only [rkA, stepA, valA, storeA, ldA, fieldAddrA, fieldA, idxAddrA, idxA, idxArr, lenA, unA, binA, num2, binV, eqA, rowOf, PV.cells, PV.cell, bndA, appA, reduceIte, reduceCtorEq, Nat.reduceAdd, Nat.reduceSub, Nat.reduceEqDiff, Nat.reduceLeDiff, Nat.reduceLT, Nat.reduceMul, Nat.reduceBEq, Nat.reduceBNe, Int.reduceToNat, Int.reduceLE, Int.reduceLT, allocX, setPs, extremeA, ints, resAll, rinfOk, packR]
        refine gB_dec ?_ ?_ <;> intro hc5 <;> simp -implicitDefEqProofs only [hc5, rkA, stepA, valA, storeA, ldA, fieldAddrA, fieldA, idxAddrA, idxA, idxArr, lenA, unA, binA, num2, binV, eqA, rowOf, PV.cells, PV.cell, bndA, appA, reduceIte, reduceCtorEq, Nat.reduceAdd, Nat.reduceSub, Nat.reduceEqDiff, Nat.reduceLeDiff, Nat.reduceLT, Nat.reduceMul, Nat.reduceBEq, Nat.reduceBNe, Int.reduceToNat, Int.reduceLE, Int.reduceLT, allocX, setPs, extremeA, ints, resAll, rinfOk, packR]
        · have hlt : Q2 < m' := by omega
          have hm := hdn Q2 m' hlt
          have e6 : IntKind.wrap .u64 ((m' : Int) - 1) = ((m' - 1 : Nat) : Int) := by rw [wrapU]; omega
          simp -implicitDefEqProofs only [e6, e5', rkA, stepA, valA, storeA, ldA, fieldAddrA, fieldA, idxAddrA, idxA, idxArr, lenA, unA, binA, num2, binV, eqA, rowOf, PV.cells, PV.cell, bndA, appA, reduceIte, reduceCtorEq, Nat.reduceAdd, Nat.reduceSub, Nat.reduceEqDiff, Nat.reduceLeDiff, Nat.reduceLT, Nat.reduceMul, Nat.reduceBEq, Nat.reduceBNe, Int.reduceToNat, Int.reduceLE, Int.reduceLT, allocX, setPs, extremeA, ints, resAll, rinfOk, packR]
          refine gB_dec ?_ ?_ <;> intro hc6 <;> simp -implicitDefEqProofs only [hc6, rkA, stepA, valA, storeA, ldA, fieldAddrA, fieldA, idxAddrA, idxA, idxArr, lenA, unA, binA, num2, binV, eqA, rowOf, PV.cells, PV.cell, bndA, appA, reduceIte, reduceCtorEq, Nat.reduceAdd, Nat.reduceSub, Nat.reduceEqDiff, Nat.reduceLeDiff, Nat.reduceLT, Nat.reduceMul, Nat.reduceBEq, Nat.reduceBNe, Int.reduceToNat, Int.reduceLE, Int.reduceLT, allocX, setPs, extremeA, ints, resAll, rinfOk, packR]
          · have hq : m' - 1 = Q2 := by have := g5 (m' - 1) (r' + d1) (by omega) (by omega); omega
            rw [hq]
            simp -implicitDefEqProofs only [hrest2, s0, Int.toNat_natCast, efin, efin2, rkA, stepA, valA, storeA, ldA, fieldAddrA, fieldA, idxAddrA, idxA, idxArr, lenA, unA, binA, num2, binV, eqA, rowOf, PV.cells, PV.cell, bndA, appA, reduceIte, reduceCtorEq, Nat.reduceAdd, Nat.reduceSub, Nat.reduceEqDiff, Nat.reduceLeDiff, Nat.reduceLT, Nat.reduceMul, Nat.reduceBEq, Nat.reduceBNe, Int.reduceToNat, Int.reduceLE, Int.reduceLT, allocX, setPs, extremeA, ints, resAll, rinfOk, packR]
          · refine loopK_of (m' := m' - 1) (by omega) ?_
            simp -implicitDefEqProofs only [rkA, stepA, valA, storeA, ldA, fieldAddrA, fieldA, idxAddrA, idxA, idxArr, lenA, unA, binA, num2, binV, eqA, rowOf, PV.cells, PV.cell, bndA, appA, reduceIte, reduceCtorEq, Nat.reduceAdd, Nat.reduceSub, Nat.reduceEqDiff, Nat.reduceLeDiff, Nat.reduceLT, Nat.reduceMul, Nat.reduceBEq, Nat.reduceBNe, Int.reduceToNat, Int.reduceLE, Int.reduceLT, allocX, setPs, extremeA, ints, resAll, rinfOk, packR]
            exact ⟨m' - 1, r' + d1, rfl, by omega, by omega, by omega, by omega, rfl⟩
        · simp -implicitDefEqProofs only [mulN, wrapN b1', e4', rkA, stepA, valA, storeA, ldA, fieldAddrA, fieldA, idxAddrA, idxA, idxArr, lenA, unA, binA, num2, binV, eqA, rowOf, PV.cells, PV.cell, bndA, appA, reduceIte, reduceCtorEq, Nat.reduceAdd, Nat.reduceSub, Nat.reduceEqDiff, Nat.reduceLeDiff, Nat.reduceLT, Nat.reduceMul, Nat.reduceBEq, Nat.reduceBNe, Int.reduceToNat, Int.reduceLE, Int.reduceLT, allocX, setPs, extremeA, ints, resAll, rinfOk, packR]
          refine gB_dec ?_ ?_ <;> intro hc6 <;> simp -implicitDefEqProofs only [hc6, rkA, stepA, valA, storeA, ldA, fieldAddrA, fieldA, idxAddrA, idxA, idxArr, lenA, unA, binA, num2, binV, eqA, rowOf, PV.cells, PV.cell, bndA, appA, reduceIte, reduceCtorEq, Nat.reduceAdd, Nat.reduceSub, Nat.reduceEqDiff, Nat.reduceLeDiff, Nat.reduceLT, Nat.reduceMul, Nat.reduceBEq, Nat.reduceBNe, Int.reduceToNat, Int.reduceLE, Int.reduceLT, allocX, setPs, extremeA, ints, resAll, rinfOk, packR]
          · have hlt : Q2 < m' := (g10 m').2 ((g4 _ _ l1).1 (by omega))
            have hm := hdn Q2 m' hlt
            have e6 : IntKind.wrap .u64 ((m' : Int) - 1) = ((m' - 1 : Nat) : Int) := by rw [wrapU]; omega
            simp -implicitDefEqProofs only [e6, e5', rkA, stepA, valA, storeA, ldA, fieldAddrA, fieldA, idxAddrA, idxA, idxArr, lenA, unA, binA, num2, binV, eqA, rowOf, PV.cells, PV.cell, bndA, appA, reduceIte, reduceCtorEq, Nat.reduceAdd, Nat.reduceSub, Nat.reduceEqDiff, Nat.reduceLeDiff, Nat.reduceLT, Nat.reduceMul, Nat.reduceBEq, Nat.reduceBNe, Int.reduceToNat, Int.reduceLE, Int.reduceLT, allocX, setPs, extremeA, ints, resAll, rinfOk, packR]
            refine gB_dec ?_ ?_ <;> intro hc7 <;> simp -implicitDefEqProofs only [hc7, rkA, stepA, valA, storeA, ldA, fieldAddrA, fieldA, idxAddrA, idxA, idxArr, lenA, unA, binA, num2, binV, eqA, rowOf, PV.cells, PV.cell, bndA, appA, reduceIte, reduceCtorEq, Nat.reduceAdd, Nat.reduceSub, Nat.reduceEqDiff, Nat.reduceLeDiff, Nat.reduceLT, Nat.reduceMul, Nat.reduceBEq, Nat.reduceBNe, Int.reduceToNat, Int.reduceLE, Int.reduceLT, allocX, setPs, extremeA, ints, resAll, rinfOk, packR]
            · have hq : m' - 1 = Q2 := by have := g5 (m' - 1) (r' + d1) (by omega) (by omega); omega
              rw [hq]
              simp -implicitDefEqProofs only [hrest2, s0, Int.toNat_natCast, efin, efin2, rkA, stepA, valA, storeA, ldA, fieldAddrA, fieldA, idxAddrA, idxA, idxArr, lenA, unA, binA, num2, binV, eqA, rowOf, PV.cells, PV.cell, bndA, appA, reduceIte, reduceCtorEq, Nat.reduceAdd, Nat.reduceSub, Nat.reduceEqDiff, Nat.reduceLeDiff, Nat.reduceLT, Nat.reduceMul, Nat.reduceBEq, Nat.reduceBNe, Int.reduceToNat, Int.reduceLE, Int.reduceLT, allocX, setPs, extremeA, ints, resAll, rinfOk, packR]
            · refine loopK_of (m' := m' - 1) (by omega) ?_
              simp -implicitDefEqProofs only [rkA, stepA, valA, storeA, ldA, fieldAddrA, fieldA, idxAddrA, idxA, idxArr, lenA, unA, binA, num2, binV, eqA, rowOf, PV.cells, PV.cell, bndA, appA, reduceIte, reduceCtorEq, Nat.reduceAdd, Nat.reduceSub, Nat.reduceEqDiff, Nat.reduceLeDiff, Nat.reduceLT, Nat.reduceMul, Nat.reduceBEq, Nat.reduceBNe, Int.reduceToNat, Int.reduceLE, Int.reduceLT, allocX, setPs, extremeA, ints, resAll, rinfOk, packR]
              exact ⟨m' - 1, r' + d1, rfl, by omega, by omega, by omega, by omega, rfl⟩
          · have hq : m' = Q2 := by
              have h1 : ¬ Q2 < m' := fun h => by have := (g4 _ _ l1).2 ((g10 m').1 h); omega
              omega
            rw [hq]
            simp -implicitDefEqProofs only [hrest2, s0, Int.toNat_natCast, efin, efin2, rkA, stepA, valA, storeA, ldA, fieldAddrA, fieldA, idxAddrA, idxA, idxArr, lenA, unA, binA, num2, binV, eqA, rowOf, PV.cells, PV.cell, bndA, appA, reduceIte, reduceCtorEq, Nat.reduceAdd, Nat.reduceSub, Nat.reduceEqDiff, Nat.reduceLeDiff, Nat.reduceLT, Nat.reduceMul, Nat.reduceBEq, Nat.reduceBNe, Int.reduceToNat, Int.reduceLE, Int.reduceLT, allocX, setPs, extremeA, ints, resAll, rinfOk, packR]
end Go.Proofs.YtipchjfcjbghnaaGreat.A


