import Derived.Test.YtbflmeomkfjikaaGreatM3
import Derived.Test.YtbflmeomkfjikaaGreatProg
set_option linter.unusedVariables false
namespace Go.Proofs.YtbflmeomkfjikaaGreat.A
open Go Go.RowKit Go.Shelf
theorem mixed : Tryz.prog.follows .mixedOrders = true := by kernel_rfl

/- couplet/coupletlaw07.TriRoots -/
def h3 : Hint := .s (.o) (.s (.s (.o) (.s (.s (.o) (.o)) (.o))) (.s (.o) (.s (.s (.o) (.b (.l [.junk [0, 2, 3, 4, 6, 7, 8, 9, 10, 11, 12, 13, 14, 15, 16, 17, 18, 19, 20, 21, 22, 23, 24, 25, 26, 27, 28, 29, 30, 31, 32, 35, 36, 37, 38, 39, 40, 41, 42, 43, 44, 45, 46, 47, 48, 49, 50, 51, 52, 53, 54, 55, 56, 57, 58, 59, 60, 61, 62, 63, 64, 65, 66, 67, 68, 69, 70, 71, 72, 73, 74, 75, 76, 77, 78, 79, 80, 81, 82, 83, 84, 85, 86, 87, 88, 89, 90, 91, 92, 93, 94, 95, 96, 97, 98, 99, 100, 101, 102, 103, 104, 105, 106, 107, 108, 109, 110, 111, 112, 113, 114, 115, 116, 117, 118, 119, 120, 121, 122, 123, 124, 125, 126, 127, 128]] (.s (.o) (.s (.s (.o) (.o)) (.s (.b (.s (.o) (.s (.r [(6, { n := 1 }), (7, { n := 1, agg := false })]) (.s (.s (.o) (.o)) (.o))))) (.o))))))) (.s (.r [(9, { zero := [(.int .i64 0), (.int .i64 0), (.slice none 0 0)], acc := [(2, 3007)] }), (10, { n := 3 })]) (.s (.r [(0, { n := 3, agg := true }), (5, { zero := [(.int .i64 0), (.int .i64 0), (.slice none 0 0)], acc := [(2, 3009)] }), (6, { n := 3 })]) (.s (.r [(9, { zero := [(.int .i64 0), (.int .i64 0), (.slice none 0 0)], acc := [(2, 3011)] }), (10, { n := 3 })]) (.s (.r [(0, { n := 3, agg := true }), (5, { zero := [(.int .i64 0), (.int .i64 0), (.slice none 0 0)], acc := [(2, 3013)] }), (6, { n := 3 })]) (.s (.s (.r [(15, { off := 2 }), (16, { n := 1, agg := false }), (24, { n := 3, agg := true })]) (.s (.s (.o) (.o)) (.o))) (.s (.s (.r [(0, { off := 2 }), (1, { n := 1, agg := false })]) (.b (.l [.junk [0, 1, 2, 3, 4, 6, 7, 8, 9, 10, 11, 12, 13, 14, 15, 16, 17, 18, 19, 20, 21, 22, 23, 24, 25, 26, 27, 28, 29, 30, 31, 32, 33, 34, 35, 36, 37, 38, 39, 40, 41, 42, 43, 44, 45, 46, 47, 48, 49, 50, 51, 52, 53, 54, 55, 56, 57, 58, 59, 60, 61, 62, 63, 64, 65, 66, 67, 68, 69, 70, 71, 72, 73, 74, 75, 76, 77, 78, 79, 80, 81, 82, 83, 84, 85, 86, 87, 88, 89, 90, 91, 92, 93, 94, 95, 96, 97, 98, 99, 100, 101, 102, 103, 104, 105, 106, 107, 111, 112, 113, 114, 115, 116, 117, 118, 119, 120, 121, 122, 123, 124, 125, 126, 127, 128], .drop [16]] (.s (.o) (.s (.s (.o) (.o)) (.s (.b (.s (.r [(1, { n := 4 }), (2, { n := 4, agg := true }), (3, { zero := [(.int .i64 0), (.int .i64 0), (.int .i64 0), (.bool false)] }), (5, { n := 4 })]) (.s (.r [(0, { off := 3 }), (1, { n := 1, agg := false }), (4, { n := 4, agg := true }), (7, { n := 1 }), (8, { n := 1, agg := false })]) (.s (.s (.o) (.o)) (.o))))) (.o))))))) (.s (.o) (.o)))))))))))
theorem k3 : okF Tryz.prog Tryz.f3 h3 [(false, 0)] = true := by kernel_rfl

/- couplet/coupletlaw08.HouseFolds -/
def h4 : Hint := .s (.o) (.s (.r [(7, { zero := [(.int .i64 0), (.int .i64 0), (.slice none 0 0)], acc := [(2, 3007)] }), (8, { n := 3 })]) (.s (.s (.o) (.s (.s (.o) (.o)) (.o))) (.s (.r [(0, { n := 3, agg := true }), (5, { zero := [(.int .i64 0), (.int .i64 0), (.slice none 0 0)], acc := [(2, 3009)] }), (6, { n := 3 })]) (.s (.s (.o) (.s (.s (.r [(3, { off := 2 }), (4, { n := 1, agg := false })]) (.o)) (.o))) (.s (.r [(2, { off := 0 }), (3, { n := 1, agg := false }), (8, { off := 1 }), (9, { n := 1, agg := false }), (14, { n := 3, agg := true }), (15, { n := 3, agg := true })]) (.o))))))
theorem k4 : okF Tryz.prog Tryz.f4 h4 [(false, 0)] = true := by kernel_rfl

/- couplet/coupletlaw08.HouseSigns -/
def h5 : Hint := .s (.o) (.s (.r [(7, { zero := [(.int .i64 0), (.int .i64 0), (.slice none 0 0)], acc := [(2, 3005)] }), (8, { n := 3 })]) (.s (.s (.o) (.s (.s (.o) (.o)) (.o))) (.s (.r [(0, { n := 3, agg := true }), (5, { zero := [(.int .i64 0), (.int .i64 0), (.slice none 0 0)], acc := [(2, 3007)] }), (6, { n := 3 })]) (.s (.s (.r [(3, { off := 2 }), (4, { n := 1, agg := false })]) (.s (.s (.o) (.o)) (.o))) (.s (.s (.r [(0, { n := 3, agg := true })]) (.b (.l [.junk [0, 2, 3, 4, 6, 8, 9, 10, 11, 12, 13, 14, 15, 16, 17, 18, 19, 20, 21, 22, 23, 24, 25, 26, 27, 28, 29, 30, 31, 32, 33, 34, 35, 36, 37, 38, 39, 40, 41, 42, 43, 44, 48, 49, 50, 51, 52, 53, 54, 55, 56, 57, 58, 59, 60, 61, 62, 63, 64, 65, 66, 67, 68, 69, 70, 71, 72, 73, 74, 75, 76, 77, 78, 79, 80, 81, 82, 83, 84, 85, 86, 87, 88, 89, 90, 91, 92, 93, 94, 95, 96, 97], .drop [10]] (.s (.o) (.s (.s (.o) (.o)) (.s (.b (.s (.r [(1, { n := 4 }), (2, { n := 4, agg := true }), (3, { zero := [(.int .i64 0), (.int .i64 0), (.int .i64 0), (.bool false)] }), (5, { n := 4 })]) (.s (.r [(0, { n := 4, agg := true }), (4, { n := 3, agg := true }), (8, { off := 3, n := 1, agg := false })]) (.s (.s (.o) (.o)) (.o))))) (.o))))))) (.s (.s (.o) (.b (.l [.junk [0, 2, 3, 4, 6, 8, 9, 10, 11, 12, 13, 14, 15, 16, 17, 18, 19, 20, 21, 22, 23, 24, 25, 26, 27, 28, 29, 30, 31, 32, 33, 34, 35, 36, 37, 38, 39, 40, 41, 42, 43, 44, 45, 46, 47, 48, 49, 50, 51, 52, 53, 54, 55, 56, 57, 58, 59, 60, 61, 62, 63, 66, 67, 68, 69, 70, 71, 72, 73, 74, 75, 76, 77, 78, 79, 80, 81, 82, 83, 84, 85, 86, 87, 88, 89, 90, 91, 92, 93, 94, 95, 96, 97], .drop [13]] (.s (.o) (.s (.s (.o) (.o)) (.s (.b (.s (.o) (.s (.o) (.b (.l [.junk [0, 2, 3, 4, 6, 8, 9, 10, 12, 13, 14, 15, 16, 17, 18, 19, 20, 21, 22, 23, 24, 25, 26, 27, 28, 29, 30, 31, 32, 33, 34, 35, 36, 37, 38, 39, 40, 41, 42, 43, 44, 45, 46, 47, 48, 49, 50, 51, 52, 53, 54, 55, 56, 57, 58, 59, 60, 61, 62, 63, 66, 67, 70, 71, 72, 73, 74, 75, 76, 77, 78, 79, 80, 81, 82, 83, 84, 85, 86, 87, 88, 89, 90, 91, 92, 93, 94, 95, 96, 97], .drop [13]] (.s (.o) (.s (.s (.o) (.o)) (.s (.b (.s (.o) (.s (.r [(0, { n := 3, agg := true }), (4, { zero := [(.int .i64 0), (.int .i64 0), (.int .i64 0), (.bool false)] }), (5, { n := 4 })]) (.s (.s (.r [(4, { n := 3, agg := true })]) (.s (.r [(0, { n := 4, agg := true }), (2, { n := 4 })]) (.o))) (.s (.r [(0, { n := 3, agg := true }), (4, { n := 4, agg := true }), (5, { n := 2, ks := [some .i64, some .i64, some .i64, none] })]) (.s (.s (.o) (.o)) (.o))))))) (.o))))))))) (.o))))))) (.s (.o) (.o))))))))
theorem k5 : okF Tryz.prog Tryz.f5 h5 [(false, 0)] = true := by kernel_rfl

/- couplet/coupletlaw07.TriSolves -/
def h6 : Hint := .s (.o) (.s (.s (.o) (.s (.s (.o) (.o)) (.o))) (.s (.r [(7, { zero := [(.int .i64 0), (.int .i64 0), (.slice none 0 0)], acc := [(2, 3007)] }), (8, { n := 3 })]) (.s (.r [(0, { n := 3, agg := true })]) (.s (.s (.o) (.s (.s (.o) (.o)) (.o))) (.s (.r [(0, { n := 3, agg := true }), (5, { zero := [(.int .i64 0), (.int .i64 0), (.slice none 0 0)], acc := [(2, 3011)] }), (6, { n := 3 })]) (.s (.r [(0, { n := 3, agg := true })]) (.s (.r [(7, { zero := [(.int .i64 0), (.int .i64 0), (.slice none 0 0)], acc := [(2, 3015)] }), (8, { n := 3 })]) (.s (.r [(0, { n := 3, agg := true })]) (.s (.s (.o) (.s (.s (.o) (.o)) (.o))) (.s (.s (.o) (.b (.l [.junk [0, 2, 3, 4, 5, 6, 7, 8, 10, 11, 12, 14, 15, 16, 18, 19, 20, 21, 22, 23, 24, 25, 26, 27, 28, 29, 30, 31, 32, 33, 34, 35, 36, 37, 38, 39, 40, 41, 42, 43, 44, 45, 46, 47, 48, 49, 50, 51, 52, 53, 54, 55, 56, 57, 58, 59, 60, 61, 62, 63, 64, 65, 66, 67, 68, 69, 70, 71, 72, 73, 74, 75, 76, 77, 78, 79, 80, 81, 82, 83, 84, 85, 86, 87, 88, 89, 90, 91, 92, 93, 94, 95, 96, 97, 98, 99, 100, 101, 102, 103, 104, 105, 108, 109, 110, 111, 112, 113, 114, 115, 116, 117, 118, 119, 120, 121, 122, 123, 124, 125, 126, 127, 128, 129, 130, 131, 132, 133, 134, 135, 136, 137, 138, 139, 140, 141, 142, 143, 144, 145, 146, 147, 148, 149, 150, 151, 152, 153, 154, 155, 156, 157, 158, 159, 160, 161]] (.s (.o) (.s (.s (.o) (.o)) (.s (.b (.s (.o) (.s (.s (.r [(2, { n := 3 }), (3, { off := 2 }), (4, { n := 1, agg := false })]) (.s (.s (.o) (.o)) (.o))) (.s (.r [(2, { n := 3 }), (3, { off := 2 }), (4, { n := 1, agg := false }), (9, { n := 3 }), (10, { n := 3, agg := true }), (13, { n := 1 }), (14, { n := 1, agg := false }), (16, { n := 2, ks := [some .i64, some .i64, none] }), (21, { n := 4 }), (22, { off := 3 }), (23, { n := 1, agg := false }), (28, { n := 4 }), (29, { n := 4, agg := true }), (32, { n := 3 }), (33, { off := 0 }), (34, { n := 1, agg := false }), (37, { n := 3 }), (38, { off := 1 }), (39, { n := 1, agg := false })]) (.s (.s (.o) (.o)) (.o)))))) (.o))))))) (.s (.o) (.o))))))))))))
theorem k6 : okF Tryz.prog Tryz.f6 h6 [(false, 0)] = true := by kernel_rfl

/- couplet/coupletlaw08.HouseRow -/
def h7 : Hint := .s (.o) (.s (.s (.o) (.s (.s (.o) (.o)) (.o))) (.s (.o) (.s (.s (.o) (.b (.l [.junk [1, 2, 4, 5, 6, 7, 8, 9, 10, 11, 12, 13, 14, 15, 16, 17, 18, 19, 20, 21, 22, 23, 24, 25, 29, 30, 31, 32, 33, 34, 35, 36, 37, 38, 39, 40, 41, 42, 43, 44, 45, 46, 47, 48, 49, 50, 51, 52, 53, 54, 55, 56, 57, 58, 59, 60, 61, 62, 63, 64, 65, 66, 67, 68, 69, 70, 71, 72, 73, 74, 75, 76, 77, 78, 79, 80]] (.s (.o) (.s (.s (.o) (.o)) (.s (.b (.s (.r [(0, { n := 1 }), (1, { n := 1, agg := false })]) (.o))) (.o))))))) (.s (.r [(7, { zero := [(.int .i64 0), (.int .i64 0), (.slice none 0 0)], acc := [(2, 3006)] }), (8, { n := 3 })]) (.s (.r [(0, { n := 3, agg := true }), (5, { zero := [(.int .i64 0), (.int .i64 0), (.slice none 0 0)], acc := [(2, 3008)] }), (6, { n := 3 })]) (.s (.s (.r [(3, { off := 2 }), (4, { n := 1, agg := false })]) (.s (.s (.o) (.o)) (.o))) (.s (.r [(0, { off := 2 }), (1, { n := 1, agg := false }), (2, { n := 4 }), (3, { n := 4, agg := true }), (4, { zero := [(.int .i64 0), (.int .i64 0), (.int .i64 0), (.bool false)] }), (5, { n := 4 })]) (.s (.r [(0, { n := 4, agg := true }), (1, { n := 4, agg := true }), (3, { zero := [(.int .i64 0), (.int .i64 0), (.int .i64 0), (.bool false)] }), (4, { n := 4 })]) (.s (.r [(0, { off := 3 }), (1, { n := 1, agg := false }), (4, { n := 4, agg := true }), (9, { n := 4, agg := true })]) (.o))))))))))
theorem k7 : okF Tryz.prog Tryz.f7 h7 [(false, 0)] = true := by kernel_rfl

/- couplet/coupletlaw08.HouseTwice -/
def h8 : Hint := .s (.o) (.s (.s (.o) (.s (.s (.o) (.o)) (.o))) (.s (.r [(0, { n := 1 }), (2, { n := 1, t := 8, mc := 8 })]) (.s (.s (.o) (.b (.l [.junk [0, 2, 3, 4, 6, 7, 8, 9, 10, 11, 12, 13, 14, 15, 16, 17, 18, 19, 20, 21, 22, 23, 24, 25, 26, 27, 28, 29, 30, 31, 34, 35, 36, 37, 38, 39, 40, 41, 42, 43, 44, 45, 46, 47, 48, 49, 50, 51, 52, 53, 54, 55, 56, 57, 58, 59, 60, 61, 62, 63, 64, 65, 66, 67, 68, 69, 70, 71, 72, 73, 74, 75, 76, 77, 78, 79, 80, 81, 82, 83, 84, 85, 86, 87, 88, 89, 90, 91, 92, 93, 94, 95, 96, 97, 98, 99, 100, 101, 102, 103, 104, 105, 106, 107, 108, 109, 110, 111, 112, 113, 114, 115, 116, 117, 118, 119, 120, 121, 122, 123, 124, 125, 126, 127]] (.s (.o) (.s (.s (.o) (.o)) (.s (.b (.s (.o) (.s (.s (.o) (.b (.l [.junk [0, 2, 3, 4, 7, 8, 9, 10, 11, 12, 13, 14, 15, 16, 17, 18, 19, 20, 21, 22, 23, 24, 25, 26, 27, 28, 29, 30, 31, 34, 35, 38, 39, 40, 41, 42, 43, 44, 45, 46, 47, 48, 49, 50, 51, 52, 53, 54, 55, 56, 57, 58, 59, 60, 61, 62, 63, 64, 65, 66, 67, 68, 69, 70, 71, 72, 73, 74, 75, 76, 77, 78, 79, 80, 81, 82, 83, 84, 85, 86, 87, 88, 89, 90, 91, 92, 93, 94, 95, 96, 97, 98, 99, 100, 101, 102, 103, 104, 105, 106, 107, 108, 109, 110, 111, 112, 113, 114, 115, 116, 117, 118, 119, 120, 121, 122, 123, 124, 125, 126, 127]] (.s (.o) (.s (.s (.o) (.o)) (.s (.b (.s (.o) (.s (.s (.o) (.s (.r [(6, { n := 1 }), (7, { n := 1 })]) (.o))) (.s (.r [(6, { n := 1 }), (7, { n := 1, agg := false }), (16, { n := 1 }), (17, { n := 1, agg := false })]) (.s (.s (.o) (.o)) (.o)))))) (.o))))))) (.s (.r [(6, { n := 1 }), (7, { n := 1, agg := false })]) (.s (.s (.o) (.o)) (.o)))))) (.o))))))) (.s (.r [(3, { mc := 2 }), (7, { zero := [(.int .i64 0), (.int .i64 0), (.slice none 0 0)], acc := [(2, 3008)] }), (8, { n := 3 })]) (.s (.r [(0, { n := 3, agg := true }), (5, { zero := [(.int .i64 0), (.int .i64 0), (.slice none 0 0)], acc := [(2, 3010)] }), (6, { n := 3 })]) (.s (.s (.r [(3, { off := 2 }), (4, { n := 1, agg := false })]) (.s (.s (.o) (.o)) (.o))) (.s (.s (.r [(0, { off := 2 }), (1, { n := 1, agg := false })]) (.b (.l [.junk [0, 1, 2, 3, 4, 6, 7, 8, 9, 10, 11, 12, 13, 14, 15, 16, 17, 18, 19, 20, 21, 22, 23, 24, 25, 26, 27, 28, 29, 30, 31, 32, 33, 34, 35, 36, 37, 38, 39, 40, 41, 42, 43, 44, 45, 46, 47, 48, 49, 50, 51, 52, 53, 54, 55, 56, 57, 58, 59, 60, 61, 62, 63, 64, 65, 66, 67, 68, 69, 70, 71, 72, 73, 74, 75, 76, 77, 78, 79, 80, 81, 82, 83, 84, 85, 86, 87, 88, 89, 90, 91, 92, 93, 94, 95, 96, 97, 98, 99, 100, 101, 102, 103, 104, 105, 106, 110, 111, 112, 113, 114, 115, 116, 117, 118, 119, 120, 121, 122, 123, 124, 125, 126, 127], .drop [13]] (.s (.o) (.s (.s (.o) (.o)) (.s (.b (.s (.r [(1, { n := 4 }), (2, { n := 4, agg := true }), (3, { zero := [(.int .i64 0), (.int .i64 0), (.int .i64 0), (.bool false)] }), (5, { n := 4 })]) (.s (.r [(0, { off := 3 }), (1, { n := 1, agg := false }), (4, { n := 4, agg := true }), (7, { n := 1 }), (8, { n := 1, agg := false })]) (.s (.s (.o) (.o)) (.o))))) (.o))))))) (.s (.o) (.o)))))))))
/- couplet/coupletlaw08.HouseSquares -/
def h9 : Hint := .s (.o) (.s (.r [(7, { zero := [(.int .i64 0), (.int .i64 0), (.slice none 0 0)], acc := [(2, 3007)] }), (8, { n := 3 })]) (.s (.s (.o) (.s (.s (.o) (.o)) (.o))) (.s (.r [(0, { n := 3, agg := true }), (5, { zero := [(.int .i64 0), (.int .i64 0), (.slice none 0 0)], acc := [(2, 3009)] }), (6, { n := 3 })]) (.s (.r [(0, { n := 3, agg := true }), (5, { zero := [(.int .i64 0), (.int .i64 0), (.slice none 0 0)], acc := [(2, 3011)] }), (6, { n := 3 })]) (.s (.s (.o) (.s (.s (.o) (.o)) (.o))) (.s (.r [(0, { acc := [(0, 13)] })]) (.s (.s (.o) (.b (.l [.junk [3, 4, 5, 6, 7, 8, 10, 12, 14, 15, 16, 17, 18, 19, 20, 21, 22, 23, 24, 25, 26, 27, 28, 29, 30, 31, 32, 33, 34, 35, 36, 37, 38, 39, 40, 41, 42, 43, 44, 45, 46, 47, 48, 49, 50, 51, 52, 53, 54, 55, 56, 57, 58, 59, 60, 61, 62, 63, 66, 67, 68, 69, 70, 71, 72, 73, 74, 75, 76, 77, 78, 79, 80, 81, 82, 83, 84, 85, 86, 87, 88, 89, 90, 91, 92, 93, 94, 95, 96, 97, 98, 99, 100, 101, 102, 103, 104, 105, 106, 107, 108, 109, 110, 111, 112, 113, 114, 115, 116, 117, 118, 119, 120, 121, 122, 123, 124, 125, 126, 127, 128, 129, 130, 131, 132, 133], .row 7 2 15007, .row 9 2 15009, .row 11 2 15011] (.s (.o) (.s (.s (.o) (.o)) (.s (.b (.s (.o) (.s (.o) (.b (.l [.junk [3, 4, 5, 6, 7, 8, 10, 12, 15, 16, 17, 18, 19, 20, 21, 22, 23, 24, 25, 26, 27, 28, 29, 30, 31, 32, 33, 34, 35, 36, 37, 38, 39, 40, 41, 42, 43, 44, 45, 46, 47, 48, 49, 50, 51, 52, 53, 54, 55, 56, 57, 58, 59, 60, 61, 62, 63, 66, 67, 70, 71, 72, 73, 74, 75, 76, 77, 78, 79, 80, 81, 82, 83, 84, 85, 86, 87, 88, 89, 90, 91, 92, 93, 94, 95, 96, 97, 98, 99, 100, 101, 102, 103, 104, 105, 106, 107, 108, 109, 110, 111, 112, 113, 114, 115, 116, 117, 118, 119, 120, 121, 122, 123, 124, 125, 126, 127, 128, 129, 130, 131, 132, 133], .row 7 2 15007, .row 9 2 15009, .row 11 2 15011] (.s (.o) (.s (.s (.o) (.o)) (.s (.b (.s (.o) (.r [(7, { n := 1 }), (8, { n := 1, agg := false }), (9, { n := 1 }), (10, { n := 1, t := 8 })]))) (.o))))))))) (.o))))))) (.s (.s (.r [(0, { off := 2 }), (1, { n := 1, agg := false })]) (.b (.l [.junk [3, 4, 5, 6, 7, 8, 9, 10, 12, 14, 15, 16, 17, 18, 19, 20, 21, 22, 23, 24, 25, 26, 27, 28, 29, 30, 31, 32, 33, 34, 35, 36, 37, 38, 39, 40, 41, 42, 43, 44, 45, 46, 47, 48, 49, 50, 51, 52, 53, 54, 55, 56, 57, 58, 59, 60, 61, 62, 63, 64, 65, 66, 67, 68, 69, 70, 71, 72, 73, 74, 75, 76, 77, 78, 79, 80, 81, 82, 83, 84, 85, 89, 90, 91, 92, 93, 94, 95, 96, 97, 98, 99, 100, 101, 102, 103, 104, 105, 106, 107, 108, 109, 110, 111, 112, 113, 114, 115, 116, 117, 118, 119, 120, 121, 122, 123, 124, 125, 126, 127, 128, 129, 130, 131, 132, 133], .drop [17]] (.s (.o) (.s (.s (.o) (.o)) (.s (.b (.s (.r [(0, { n := 4 }), (1, { n := 4, agg := true }), (2, { zero := [(.int .i64 0), (.int .i64 0), (.int .i64 0), (.bool false)] }), (3, { n := 4 })]) (.s (.r [(0, { off := 3 }), (1, { n := 1, agg := false })]) (.s (.s (.o) (.o)) (.o))))) (.o))))))) (.s (.s (.o) (.b (.l [.junk [0, 1, 2, 3, 4, 5, 6, 7, 8, 9, 10, 12, 13, 14, 15, 16, 17, 18, 19, 20, 21, 22, 23, 24, 25, 26, 27, 28, 29, 30, 31, 32, 33, 34, 35, 36, 37, 38, 39, 40, 41, 42, 43, 44, 45, 46, 47, 48, 49, 50, 51, 52, 53, 54, 55, 56, 57, 58, 59, 60, 61, 62, 63, 64, 65, 66, 67, 68, 69, 70, 71, 72, 73, 74, 75, 76, 77, 78, 79, 80, 81, 82, 83, 84, 85, 86, 87, 88, 89, 90, 91, 92, 93, 94, 95, 96, 97, 98, 99, 100, 104, 105, 106, 107, 108, 109, 110, 111, 112, 113, 114, 115, 116, 117, 118, 119, 120, 121, 122, 123, 124, 125, 126, 127, 128, 129, 130, 131, 132, 133]] (.s (.o) (.s (.s (.o) (.o)) (.s (.b (.s (.r [(1, { n := 1 }), (2, { n := 1, agg := false })]) (.s (.r [(1, { off := 2 }), (2, { n := 1, agg := false }), (6, { off := 2 }), (7, { n := 1, agg := false }), (9, { n := 4 }), (10, { off := 3 }), (11, { n := 1, agg := false }), (14, { off := 2 }), (15, { n := 1, agg := false }), (17, { n := 4 }), (18, { n := 4, agg := true })]) (.s (.s (.o) (.o)) (.o))))) (.o))))))) (.s (.o) (.o)))))))))))
/- couplet/coupletlaw10.RootNew -/
/- couplet/coupletlaw10.RootStill -/
/- couplet/coupletlaw10.RootOne -/
def h12 : Hint := .s (.o) (.s (.s (.o) (.s (.s (.o) (.o)) (.o))) (.s (.r [(1, { n := 1 }), (6, { zero := [(.int .i64 0), (.int .i64 0), (.slice none 0 0)], acc := [(2, 3007)] }), (7, { n := 3 })]) (.s (.r [(1, { zero := [(.int .i64 0), (.int .i64 0), (.int .i64 0), (.bool false)] }), (2, { n := 4 })]) (.s (.r [(0, { n := 4, agg := true }), (1, { n := 4 }), (2, { n := 3, agg := true }), (7, { zero := [(.slice none 0 0), (.int .i64 0), (.int .i64 0), (.slice none 0 0)], acc := [(0, 1010), (3, 4010)] }), (8, { n := 4 })]) (.s (.d [] [(0, { n := 4, agg := true }), (1, { n := 4, agg := true }), (4, { n := 4 }), (5, { n := 4, agg := true }), (8, { n := 4, agg := true }), (15, { zero := [(.slice none 0 0), (.int .i64 0), (.int .i64 0), (.slice none 0 0)], acc := [(0, 1012), (3, 4012)] }), (16, { zero := [(.int .i64 0), (.int .i64 0), (.int .i64 0), (.bool false), (.int .i64 0), (.int .i64 0), (.int .i64 0), (.bool false)] }), (17, { n := 4 }), (18, { n := 8 })]) (.s (.s (.r [(7, { off := 1 }), (8, { off := 2 }), (9, { n := 1, agg := false })]) (.s (.s (.o) (.o)) (.o))) (.s (.r [(0, { n := 4, agg := true }), (3, { zero := [(.int .i64 0), (.int .i64 0), (.int .i64 0), (.bool false)] }), (4, { n := 4 })]) (.s (.o) (.s (.r [(0, { n := 4, agg := true }), (9, { off := 4 }), (10, { n := 4, agg := true }), (15, { off := 0 }), (16, { n := 1, agg := false }), (17, { n := 4 }), (18, { n := 4, agg := true })]) (.o))))))))))
/- couplet/coupletlaw10.RootStays -/
/- couplet/coupletlaw10.RootEncloses -/
/- couplet/coupletlaw07.sides -/
/- couplet/coupletlaw07.awake -/
def h17 : Hint := .s (.o) (.s (.r [(0, { n := 1 }), (5, { zero := [(.int .i64 0), (.int .i64 0), (.slice none 0 0)], acc := [(2, 3001)] }), (6, { n := 3 })]) (.s (.r [(0, { n := 3, agg := true }), (5, { zero := [(.int .i64 0), (.int .i64 0), (.slice none 0 0)], acc := [(2, 3003)] }), (6, { n := 3 })]) (.s (.r [(5, { n := 3, agg := true }), (6, { n := 1 }), (10, { n := 3, agg := true }), (14, { n := 3, agg := true })]) (.o))))
/- couplet/coupletref07.Clear -/
def h18 : Hint := .s (.r [(0, { acc := [(0, 4)] })]) (.s (.r [(0, { acc := [(0, 5)] })]) (.s (.s (.o) (.b (.l [.junk [2, 3, 4, 7, 8, 9, 10, 11, 12, 13, 14, 15, 16, 17, 18, 19, 20, 21, 22, 23, 24, 25, 26, 27, 28, 29, 30, 31, 32, 33, 34, 35]] (.s (.s (.o) (.s (.o) (.o))) (.s (.b (.s (.o) (.b (.l [.junk [2, 3, 4, 8, 9, 10, 11, 12, 13, 14, 15, 16, 17, 18, 19, 20, 21, 22, 23, 24, 25, 26, 27, 28, 29, 30, 31, 32, 33, 34, 35]] (.s (.s (.o) (.s (.o) (.o))) (.s (.b (.s (.o) (.s (.r [(1, { n := 1 }), (2, { n := 1, t := 8 })]) (.r [(7, { n := 1 }), (8, { n := 1, agg := false }), (9, { n := 1 }), (10, { n := 1, t := 8 })])))) (.o))))))) (.o)))))) (.s (.o) (.o))))
theorem k18 : okF Tryz.prog Tryz.f18 h18 [(false, 0)] = true := by kernel_rfl

/- couplet/mat.Whole(couplet/frac.Frac) -/
def h19 : Hint := .s (.r [(0, { zero := [(.int .i64 0), (.int .i64 0), (.slice none 0 0)], acc := [(2, 3006)] })]) (.s (.r [(7, { n := 3 })]) (.o))
theorem k19 : okF Tryz.prog Tryz.f19 h19 [(true, 3), (false, 0)] = true := by kernel_rfl
/- couplet/mat.Whole(couplet/frac.Frac) -/
/- couplet/coupletref07.Square -/
def h20 : Hint := .s (.r [(0, { acc := [(0, 4)] })]) (.s (.o) (.o))
/- couplet/tri.Root(couplet/frac.Frac) -/
/- couplet/mat.Whole(couplet/env.Num) -/
def h22 : Hint := .s (.r [(0, { zero := [(.int .i64 0), (.int .i64 0), (.slice none 0 0)], acc := [(2, 3006)] })]) (.s (.r [(7, { n := 3 })]) (.o))
theorem k22 : okF Tryz.prog Tryz.f22 h22 [(true, 3), (false, 0)] = true := by kernel_rfl
/- couplet/mat.Whole(couplet/env.Num) -/
/- couplet/tri.Root(couplet/env.Num) -/
/- couplet/coupletlaw06.Same -/
/- couplet/env.Encloses -/
def h25 : Hint := .s (.r [(0, { n := 4 })]) (.s (.s (.r [(0, { n := 4, agg := true })]) (.s (.s (.o) (.o)) (.o))) (.s (.r [(0, { off := 1 }), (1, { n := 1, agg := false }), (8, { off := 2 }), (9, { n := 1, agg := false })]) (.o)))
theorem k25 : okF Tryz.prog Tryz.f25 h25 [(false, 0)] = true := by kernel_rfl

/- couplet/mat.New(couplet/env.Num) -/
def h26 : Hint := .s (.r [(0, { zero := [(.int .i64 0), (.int .i64 0), (.slice none 0 0)], acc := [(2, 3006)] })]) (.s (.r [(4, { zero := [(.int .i64 0), (.int .i64 0), (.slice none 0 0)], places := [(0, 1), (1, 1), (2, 1)] }), (5, { zero := [(.int .i64 0), (.int .i64 0), (.slice none 0 0)], acc := [(2, 3008)] }), (6, { n := 3 })]) (.s (.s (.r [(0, { n := 3, agg := true })]) (.s (.s (.r [(0, { zero := [(.int .i64 0), (.int .i64 0), (.slice none 0 0)], places := [(0, 1), (1, 1), (2, 1)] }), (1, { n := 3 })]) (.o)) (.o))) (.s (.r [(0, { n := 3, agg := true }), (1, { n := 3 })]) (.o))))
theorem k26 : okF Tryz.prog Tryz.f26 h26 [(true, 3), (false, 0)] = true := by kernel_rfl
/- couplet/mat.New(couplet/env.Num) -/
def hN26 : Hint := .s (.r [(0, { zero := [(.int .i64 0), (.int .i64 0), (.slice none 0 0)], acc := [(2, 3006)] })]) (.s (.r [(3, { mc := 6 }), (4, { zero := [(.int .i64 0), (.int .i64 0), (.slice none 0 0)], places := [(0, 1), (1, 1), (2, 1)] }), (5, { zero := [(.int .i64 0), (.int .i64 0), (.slice none 0 0)], acc := [(2, 3008)] }), (6, { n := 3 })]) (.s (.s (.r [(0, { n := 3, agg := true }), (1, { mc := 1 })]) (.s (.s (.r [(0, { zero := [(.int .i64 0), (.int .i64 0), (.slice none 0 0)], places := [(0, 1), (1, 1), (2, 1)] }), (1, { n := 3 })]) (.o)) (.o))) (.s (.r [(0, { n := 3, agg := true }), (1, { n := 3 })]) (.o))))
theorem kN26 : okF Tryz.prog Tryz.f26 hN26 [(true, 3), (false, 0)] = true := by kernel_rfl

/- couplet/coupletlaw08.awake -/
def h27 : Hint := .s (.o) (.s (.r [(0, { n := 1 }), (5, { zero := [(.int .i64 0), (.int .i64 0), (.slice none 0 0)], acc := [(2, 3001)] }), (6, { n := 3 })]) (.s (.r [(0, { n := 3, agg := true }), (5, { zero := [(.int .i64 0), (.int .i64 0), (.slice none 0 0)], acc := [(2, 3003)] }), (6, { n := 3 })]) (.s (.r [(5, { n := 3, agg := true }), (8, { n := 2, ks := [some .i64, some .i64, none] })]) (.o))))
/- couplet/house.Fold(couplet/env.Num) -/
/- couplet/coupletlaw08.Same -/
/- couplet/coupletref08.Fold -/
/- couplet/coupletlaw08.Numbers -/
/- couplet/house.Signs(couplet/env.Num) -/
/- couplet/tri.Diagonal(couplet/env.Num) -/
def h33 : Hint := .s (.r [(0, { n := 3 }), (1, { acc := [(0, 2)] })]) (.s (.r [(0, { zero := [(.slice none 0 0)], acc := [(0, 1003)] })]) (.s (.s (.r [(0, { n := 3, agg := true })]) (.b (.f [.row 3 0 5003] (.s (.o) (.o)) (.b (.s (.r [(0, { n := 3, agg := true })]) (.s (.r [(0, { n := 1, agg := false }), (3, { n := 4 }), (4, { n := 4, agg := true }), (5, { n := 4 }), (6, { n := 4, t := 32 }), (7, { n := 1 })]) (.o))))))) (.s (.r [(0, { n := 1, agg := false })]) (.o))))
/- (couplet/env.Num).Sign -/
/- (couplet/mat.Mat(couplet/env.Num)).At -/
def h35 : Hint := .s (.r [(0, { n := 3 }), (1, { zero := [(.int .i64 0), (.int .i64 0), (.int .i64 0), (.bool false)] })]) (.s (.s (.r [(0, { n := 3, agg := true }), (9, { off := 0 }), (10, { n := 1, agg := false }), (19, { off := 1 }), (20, { n := 1, agg := false })]) (.s (.s (.r [(0, { zero := [(.int .i64 0), (.int .i64 0), (.int .i64 0), (.bool false)] })]) (.s (.r [(0, { n := 4, agg := true }), (1, { n := 4 })]) (.o))) (.o))) (.s (.r [(0, { off := 2 }), (1, { n := 1, agg := false }), (3, { off := 1 }), (4, { n := 1, agg := false }), (8, { n := 4 }), (9, { n := 4, agg := true }), (10, { n := 4 })]) (.o)))
theorem k35 : okF Tryz.prog Tryz.f35 h35 [(true, 4)] = true := by kernel_rfl

/- (couplet/env.Num).Neg -/
/- couplet/coupletlaw06.Few -/
/- couplet/tri.Solve(couplet/frac.Frac) -/
/- couplet/vec.Whole(couplet/frac.Frac) -/
def h39 : Hint := .s (.r [(0, { acc := [(0, 2)] })]) (.s (.r [(0, { acc := [(0, 3)] })]) (.s (.r [(0, { zero := [(.int .i64 0), (.int .i64 0), (.bool false)] })]) (.s (.s (.o) (.b (.l [.junk [0, 1, 2, 5, 6, 10, 11, 12, 13, 14, 15, 16, 17, 18, 19, 20, 21]] (.s (.o) (.s (.s (.o) (.o)) (.s (.b (.s (.r [(0, { n := 1 }), (1, { n := 1, agg := false })]) (.r [(1, { n := 3, agg := true }), (5, { n := 3 }), (6, { n := 3, t := 24 })]))) (.o))))))) (.s (.o) (.o)))))
theorem k39 : okF Tryz.prog Tryz.f39 h39 [(false, 0)] = true := by kernel_rfl

/- couplet/tri.Clear(couplet/frac.Frac) -/
def h40 : Hint := .s (.r [(0, { n := 3 }), (1, { zero := [(.int .i64 0), (.int .i64 0), (.slice none 0 0)], acc := [(2, 3002)] })]) (.s (.s (.r [(0, { n := 3, agg := true })]) (.s (.s (.r [(0, { zero := [(.int .i64 0), (.int .i64 0), (.slice none 0 0)], places := [(0, 1), (1, 1), (2, 1)] }), (1, { n := 3 })]) (.o)) (.o))) (.s (.r [(0, { zero := [(.int .i64 0), (.int .i64 0), (.bool false)] })]) (.s (.g [.freeze 4, .freeze 1] (.r [(0, { off := 0 }), (1, { n := 1, agg := false }), (6, { n := 3 })])) (.o))))
theorem k40 : okF Tryz.prog Tryz.f40 h40 [(true, 3), (false, 0)] = true := by kernel_rfl

/- (couplet/mat.Mat(couplet/frac.Frac)).Apply -/
def h41 : Hint := .s (.r [(0, { n := 3 }), (1, { n := 1 }), (2, { acc := [(0, 4)] })]) (.s (.s (.r [(0, { n := 3, agg := true }), (4, { n := 1, agg := false }), (6, { off := 1 }), (7, { n := 1, agg := false })]) (.s (.s (.r [(0, { acc := [(0, 4)] })]) (.o)) (.o))) (.s (.r [(0, { zero := [(.slice none 0 0)], acc := [(0, 1006)] })]) (.s (.s (.r [(0, { n := 3, agg := true })]) (.b (.f [.row 6 0 5006] (.o) (.b (.r [(0, { n := 1, agg := false }), (2, { n := 1, agg := false }), (4, { n := 3 }), (5, { n := 3, t := 24 }), (6, { n := 1 })]))))) (.s (.r [(0, { n := 1, agg := false })]) (.o)))))
theorem k41 : okF Tryz.prog Tryz.f41 h41 [(false, 0), (false, 0)] = true := by kernel_rfl

/- couplet/tri.Solve(couplet/env.Num) -/
/- couplet/vec.Whole(couplet/env.Num) -/
def h43 : Hint := .s (.r [(0, { acc := [(0, 2)] })]) (.s (.r [(0, { acc := [(0, 3)] })]) (.s (.r [(0, { zero := [(.int .i64 0), (.int .i64 0), (.int .i64 0), (.bool false)] })]) (.s (.s (.o) (.b (.l [.junk [0, 1, 2, 5, 6, 10, 11, 12, 13, 14, 15, 16, 17, 18, 19, 20, 21]] (.s (.o) (.s (.s (.o) (.o)) (.s (.b (.s (.r [(0, { n := 1 }), (1, { n := 1, agg := false })]) (.r [(1, { n := 4, agg := true }), (5, { n := 4 }), (6, { n := 4, t := 32 })]))) (.o))))))) (.s (.o) (.o)))))
theorem k43 : okF Tryz.prog Tryz.f43 h43 [(false, 0)] = true := by kernel_rfl

/- couplet/frac.New -/
def h44 : Hint := .s (.r [(0, { zero := [(.int .i64 0), (.int .i64 0), (.bool false)] })]) (.s (.s (.o) (.s (.s (.r [(1, { n := 3 })]) (.o)) (.o))) (.s (.s (.o) (.s (.o) (.o))) (.s (.o) (.s (.o) (.s (.s (.o) (.s (.s (.r [(1, { n := 3 })]) (.o)) (.o))) (.s (.r [(2, { zero := [(.int .i64 0), (.int .i64 0), (.bool false)], places := [(0, 1), (1, 1), (2, 1)] }), (3, { n := 3 })]) (.o)))))))
theorem k44 : okF Tryz.prog Tryz.f44 h44 [(true, 3)] = true := by kernel_rfl

/- (couplet/env.Num).Mul -/
def h45 : Hint := .s (.r [(0, { n := 4 }), (1, { n := 4 }), (2, { zero := [(.int .i64 0), (.int .i64 0), (.int .i64 0), (.bool false)] })]) (.s (.r [(0, { n := 4, agg := true }), (1, { n := 4, agg := true }), (2, { n := 4, agg := true }), (3, { n := 4, agg := true }), (6, { n := 4 })]) (.o))
theorem k45 : okF Tryz.prog Tryz.f45 h45 [(true, 4)] = true := by kernel_rfl

/- couplet/tri.Square(couplet/env.Num) -/
def h46 : Hint := .s (.r [(0, { n := 3 }), (1, { zero := [(.int .i64 0), (.int .i64 0), (.slice none 0 0)], acc := [(2, 3002)] })]) (.s (.s (.r [(0, { n := 3, agg := true })]) (.s (.s (.r [(0, { zero := [(.int .i64 0), (.int .i64 0), (.slice none 0 0)], places := [(0, 1), (1, 1), (2, 1)] }), (1, { n := 3 })]) (.o)) (.o))) (.s (.d [] [(0, { n := 3, agg := true }), (1, { n := 3, agg := true }), (7, { zero := [(.int .i64 0), (.int .i64 0), (.slice none 0 0)], acc := [(2, 3004)] }), (8, { n := 3 })]) (.s (.s (.o) (.s (.s (.r [(0, { zero := [(.int .i64 0), (.int .i64 0), (.slice none 0 0)], places := [(0, 1), (1, 1), (2, 1)] }), (1, { n := 3 })]) (.o)) (.o))) (.s (.r [(0, { n := 3, agg := true }), (4, { n := 3 })]) (.o)))))
theorem k46 : okF Tryz.prog Tryz.f46 h46 [(true, 3), (false, 0)] = true := by kernel_rfl

/- couplet/coupletref06.Mul -/
/- couplet/coupletlaw10.awake -/
def h48 : Hint := .s (.o) (.s (.r [(0, { n := 1 }), (5, { zero := [(.int .i64 0), (.int .i64 0), (.slice none 0 0)], acc := [(2, 3001)] }), (6, { n := 3 })]) (.s (.d [] [(0, { n := 1 }), (2, { n := 3, agg := true }), (7, { zero := [(.slice none 0 0), (.int .i64 0), (.int .i64 0), (.slice none 0 0)], acc := [(0, 1003), (3, 4003)] }), (8, { n := 4 })]) (.s (.d [] [(0, { n := 4, agg := true }), (1, { n := 1 }), (10, { zero := [(.slice none 0 0), (.int .i64 0), (.int .i64 0), (.slice none 0 0)], acc := [(0, 1005), (3, 4005)] }), (11, { zero := [(.int .i64 0), (.int .i64 0), (.bool false), (.int .i64 0), (.int .i64 0), (.bool false)] }), (12, { n := 4 }), (13, { n := 6 })]) (.s (.r [(0, { n := 1 }), (5, { zero := [(.int .i64 0), (.int .i64 0), (.slice none 0 0)], acc := [(2, 3008)] }), (6, { n := 3 })]) (.s (.d [] [(0, { n := 1 }), (2, { n := 3, agg := true }), (7, { zero := [(.slice none 0 0), (.int .i64 0), (.int .i64 0), (.slice none 0 0)], acc := [(0, 1010), (3, 4010)] }), (8, { n := 4 })]) (.s (.d [] [(0, { n := 4, agg := true }), (1, { n := 1 }), (10, { zero := [(.slice none 0 0), (.int .i64 0), (.int .i64 0), (.slice none 0 0)], acc := [(0, 1012), (3, 4012)] }), (11, { zero := [(.int .i64 0), (.int .i64 0), (.int .i64 0), (.bool false), (.int .i64 0), (.int .i64 0), (.int .i64 0), (.bool false)] }), (12, { n := 4 }), (13, { n := 8 })]) (.s (.r [(8, { off := 3 }), (9, { n := 3, agg := true }), (11, { n := 2, ks := [some .i64, some .i64, none] }), (14, { off := 0 }), (15, { n := 1, agg := false }), (16, { n := 3 }), (17, { n := 3, agg := true }), (19, { n := 2, ks := [some .i64, some .i64, none] }), (22, { off := 0 }), (23, { n := 1, agg := false }), (28, { n := 4, agg := true }), (34, { n := 4, agg := true })]) (.o))))))))
theorem k48 : okF Tryz.prog Tryz.f48 h48 [(false, 0)] = true := by kernel_rfl

/- couplet/root.New(couplet/frac.Frac) -/
def h49 : Hint := .s (.r [(0, { n := 3 }), (1, { zero := [(.slice none 0 0), (.int .i64 0), (.int .i64 0), (.slice none 0 0)], acc := [(0, 1004), (3, 4004)] })]) (.s (.r [(0, { n := 3, agg := true }), (5, { zero := [(.int .i64 0), (.int .i64 0), (.slice none 0 0)], acc := [(2, 3006)] }), (6, { n := 3 })]) (.s (.d [] [(2, { n := 3, agg := true }), (3, { zero := [(.slice none 0 0), (.int .i64 0), (.int .i64 0), (.slice none 0 0)], places := [(0, 1), (1, 3)] }), (4, { zero := [(.slice none 0 0), (.int .i64 0), (.int .i64 0), (.slice none 0 0)], acc := [(0, 1008), (3, 4008)] }), (5, { n := 4 })]) (.s (.s (.r [(3, { n := 4, agg := true })]) (.s (.s (.r [(0, { zero := [(.slice none 0 0), (.int .i64 0), (.int .i64 0), (.slice none 0 0)], places := [(0, 1), (1, 3)] }), (1, { n := 4 })]) (.o)) (.o))) (.s (.r [(0, { n := 4, agg := true }), (1, { n := 4 })]) (.o)))))
theorem k49 : okF Tryz.prog Tryz.f49 h49 [(true, 4), (false, 0)] = true := by kernel_rfl

/- (couplet/root.State(couplet/frac.Frac)).Right -/
def h50 : Hint := .s (.r [(0, { n := 4 })]) (.s (.r [(0, { off := 0 }), (1, { n := 1, agg := false })]) (.s (.r [(7, { off := 1 }), (8, { n := 3, agg := true }), (12, { off := 1 }), (13, { off := 0 }), (14, { n := 1, agg := false }), (19, { off := 1 }), (20, { off := 1 }), (21, { n := 1, agg := false })]) (.o)))
theorem k50 : okF Tryz.prog Tryz.f50 h50 [(false, 0)] = true := by kernel_rfl

/- (couplet/root.State(couplet/frac.Frac)).Cover -/
def h51 : Hint := .s (.r [(0, { n := 4 }), (1, { zero := [(.int .i64 0), (.int .i64 0), (.slice none 0 0)], acc := [(2, 3002)] })]) (.s (.s (.r [(0, { n := 4, agg := true })]) (.s (.s (.r [(0, { zero := [(.int .i64 0), (.int .i64 0), (.slice none 0 0)], places := [(0, 1), (1, 1), (2, 1)] }), (1, { n := 3 })]) (.o)) (.o))) (.s (.r [(0, { off := 1 }), (1, { n := 3, agg := true }), (6, { zero := [(.int .i64 0), (.int .i64 0), (.slice none 0 0)], acc := [(2, 3003)] }), (7, { n := 3 })]) (.s (.r [(0, { n := 3, agg := true }), (1, { n := 3 })]) (.o))))
theorem k51 : okF Tryz.prog Tryz.f51 h51 [(true, 3)] = true := by kernel_rfl

/- couplet/coupletlaw09.Few -/
def h52 : Hint := .s (.r [(0, { n := 8 })]) (.s (.s (.r [(0, { off := 0 }), (1, { n := 1, agg := false }), (4, { off := 0 }), (5, { n := 1, agg := false }), (9, { off := 1 }), (10, { n := 1, agg := false }), (12, { off := 0 }), (13, { n := 1, agg := false }), (17, { off := 5 }), (18, { n := 1, agg := false }), (20, { off := 0 }), (21, { n := 1, agg := false }), (25, { off := 6 }), (26, { n := 1, agg := false }), (30, { off := 6 }), (31, { n := 1, agg := false }), (35, { off := 7 }), (36, { n := 1, agg := false }), (40, { off := 7 }), (41, { n := 1, agg := false })]) (.s (.s (.o) (.o)) (.o))) (.s (.s (.r [(0, { off := 1 }), (1, { n := 1, agg := false }), (2, { off := 5 }), (3, { n := 1, agg := false }), (4, { off := 2 }), (5, { n := 1, agg := false }), (6, { off := 3 }), (7, { n := 1, agg := false }), (8, { off := 4 }), (9, { n := 1, agg := false }), (10, { zero := [(.slice none 0 0), (.slice none 0 0), (.slice none 0 0), (.slice none 0 0), (.slice none 0 0)], places := [(0, 1), (1, 1), (2, 1), (3, 1), (4, 1)] })]) (.b (.l [.junk [0, 2, 3, 4, 5, 6, 7, 8, 9, 10, 11, 12, 13, 14, 15, 16, 17, 18, 19, 20, 21, 22, 23, 24, 25, 26, 27, 28, 29, 30, 31, 32, 33, 34, 35, 36, 37, 38, 39, 40, 41, 42, 43, 44, 45, 46, 47, 48, 49, 50, 51, 52, 53, 54, 55, 56, 57, 58, 59, 62, 63, 64, 65, 66, 67, 68, 69, 70, 71, 72, 73, 74, 75, 76, 77, 78, 79, 80, 81, 82, 83, 84, 85, 86, 87, 88, 89, 90, 91, 92, 93, 94, 95, 96, 97, 98, 99, 100, 101, 102, 103, 104, 105, 106, 107, 108, 109, 110, 111, 112, 113, 114, 115, 116, 117]] (.s (.o) (.s (.s (.o) (.o)) (.s (.b (.s (.r [(0, { n := 1, agg := false, t := 5 })]) (.s (.o) (.b (.l [.junk [0, 2, 3, 6, 7, 8, 9, 10, 11, 12, 13, 14, 15, 16, 17, 18, 19, 20, 21, 22, 23, 24, 25, 26, 27, 28, 29, 30, 31, 32, 33, 34, 35, 36, 37, 38, 39, 40, 41, 42, 43, 44, 45, 46, 47, 48, 49, 50, 51, 52, 53, 54, 55, 56, 57, 58, 59, 62, 63, 64, 65, 66, 67, 68, 69, 70, 71, 72, 73, 74, 75, 76, 77, 78, 79, 80, 81, 82, 83, 84, 85, 86, 87, 88, 89, 90, 91, 92, 93, 94, 95, 96, 97, 98, 99, 100, 101, 102, 103, 104, 105, 106, 107, 108, 109, 110, 111, 112, 113, 114, 115, 116, 117]] (.s (.s (.o) (.s (.o) (.o))) (.s (.b (.s (.r [(2, { n := 1 }), (3, { n := 1, agg := false }), (8, { n := 1 }), (9, { n := 1, agg := false })]) (.s (.s (.o) (.o)) (.o)))) (.o)))))))) (.o))))))) (.s (.r [(0, { off := 2 }), (1, { n := 1, agg := false }), (3, { off := 0 }), (4, { n := 1, agg := false }), (5, { off := 0 }), (6, { n := 1, agg := false }), (10, { off := 3 }), (11, { n := 1, agg := false }), (13, { off := 0 }), (14, { n := 1, agg := false }), (15, { off := 0 }), (16, { n := 1, agg := false }), (21, { off := 4 }), (22, { n := 1, agg := false }), (24, { off := 0 }), (25, { n := 1, agg := false }), (26, { off := 0 }), (27, { n := 1, agg := false })]) (.o))))
theorem k52 : okF Tryz.prog Tryz.f52 h52 [(false, 0)] = true := by kernel_rfl

/- couplet/env.Point -/
def h53 : Hint := .s (.r [(0, { zero := [(.int .i64 0), (.int .i64 0), (.int .i64 0), (.bool false)] })]) (.s (.s (.o) (.s (.s (.r [(1, { n := 4 })]) (.o)) (.o))) (.s (.r [(3, { zero := [(.int .i64 0), (.int .i64 0), (.int .i64 0), (.bool false)], places := [(0, 1), (1, 1), (2, 1), (3, 1)] }), (4, { n := 4 })]) (.o)))
theorem k53 : okF Tryz.prog Tryz.f53 h53 [(true, 4)] = true := by kernel_rfl

/- couplet/root.New(couplet/env.Num) -/
def h54 : Hint := .s (.r [(0, { n := 3 }), (1, { zero := [(.slice none 0 0), (.int .i64 0), (.int .i64 0), (.slice none 0 0)], acc := [(0, 1004), (3, 4004)] })]) (.s (.r [(0, { n := 3, agg := true }), (5, { zero := [(.int .i64 0), (.int .i64 0), (.slice none 0 0)], acc := [(2, 3006)] }), (6, { n := 3 })]) (.s (.d [] [(2, { n := 3, agg := true }), (3, { zero := [(.slice none 0 0), (.int .i64 0), (.int .i64 0), (.slice none 0 0)], places := [(0, 1), (1, 3)] }), (4, { zero := [(.slice none 0 0), (.int .i64 0), (.int .i64 0), (.slice none 0 0)], acc := [(0, 1008), (3, 4008)] }), (5, { n := 4 })]) (.s (.s (.r [(3, { n := 4, agg := true })]) (.s (.s (.r [(0, { zero := [(.slice none 0 0), (.int .i64 0), (.int .i64 0), (.slice none 0 0)], places := [(0, 1), (1, 3)] }), (1, { n := 4 })]) (.o)) (.o))) (.s (.r [(0, { n := 4, agg := true }), (1, { n := 4 })]) (.o)))))
theorem k54 : okF Tryz.prog Tryz.f54 h54 [(true, 4), (false, 0)] = true := by kernel_rfl

/- couplet/root.Update(couplet/env.Num) -/
def h55 : Hint := .s (.r [(0, { n := 4 }), (1, { n := 1 }), (2, { n := 4 }), (3, { n := 4 }), (4, { zero := [(.slice none 0 0), (.int .i64 0), (.int .i64 0), (.slice none 0 0)], acc := [(0, 1008), (3, 4008)] }), (5, { zero := [(.int .i64 0), (.int .i64 0), (.int .i64 0), (.bool false), (.int .i64 0), (.int .i64 0), (.int .i64 0), (.bool false)] })]) (.s (.r [(0, { off := 0 }), (1, { n := 1, agg := false })]) (.s (.s (.r [(0, { n := 4, agg := true }), (4, { n := 1, agg := false })]) (.s (.s (.r [(0, { zero := [(.slice none 0 0), (.int .i64 0), (.int .i64 0), (.slice none 0 0)], places := [(0, 1), (1, 3)] }), (1, { zero := [(.int .i64 0), (.int .i64 0), (.int .i64 0), (.bool false), (.int .i64 0), (.int .i64 0), (.int .i64 0), (.bool false)], places := [(0, 4), (4, 4)] }), (2, { n := 4 }), (3, { n := 8 })]) (.o)) (.o))) (.s (.r [(0, { zero := [(.slice none 0 0)], acc := [(0, 1012)] })]) (.s (.r [(0, { zero := [(.slice none 0 0)], acc := [(0, 1013)] })]) (.s (.s (.r [(0, { off := 1 }), (1, { n := 3, agg := true })]) (.b (.f [.row 8 0 5008, .row 8 3 20008, .row 12 0 5012, .row 13 0 5013, .row 26 2 15026] (.o) (.b (.r [(0, { n := 1, agg := false }), (2, { n := 1 }), (3, { n := 1, t := 24 }), (4, { n := 1 })]))))) (.s (.s (.r [(0, { off := 1 }), (1, { n := 3, agg := true })]) (.b (.f [.row 8 0 5008, .row 8 3 20008, .row 12 0 5012, .row 13 0 5013, .row 26 2 15026] (.o) (.b (.r [(0, { n := 1, agg := false }), (2, { n := 1, agg := false }), (4, { n := 4 }), (5, { n := 4, t := 32 }), (6, { n := 1 })]))))) (.s (.r [(1, { n := 4, zero := [(.int .i64 0), (.int .i64 0), (.int .i64 0), (.bool false)], t := 32, mc := 3 })]) (.s (.r [(2, { zero := [(.int .i64 0)], t := 8, agg := true }), (4, { n := 4, mc := 5 })]) (.s (.r [(0, { n := 4, agg := true }), (1, { zero := [(.int .i64 0), (.int .i64 0), (.int .i64 0), (.bool false)] }), (2, { n := 4 })]) (.s (.s (.o) (.b (.l [.junk [0, 1, 2, 3, 6, 10, 14, 15, 16, 17, 21, 22, 23, 24, 25, 26, 27, 28, 29, 30, 31, 32, 33, 34, 35, 36, 37, 38, 39, 40, 41, 42, 43, 44, 45, 46, 47, 48, 49, 50, 51, 52, 53, 54, 55, 56, 57, 58, 59, 60, 61, 62, 63, 64, 65, 66, 67, 68, 69, 70, 71, 72, 73, 74, 75, 76, 77, 78, 79, 80, 81, 82, 83, 84, 85, 86, 87, 88, 89, 90, 91, 92, 93, 94, 95, 96, 97, 98, 99, 100, 101, 102, 103, 104, 105, 106, 107, 108, 109, 110, 111, 112, 113, 114, 115, 116, 117, 118, 119, 120, 121, 122, 123, 124, 125, 126, 127, 128, 129, 130, 131, 132, 133, 134, 135, 136, 137, 138, 139, 140, 141], .drop [21]] (.s (.s (.o) (.s (.o) (.o))) (.s (.b (.s (.d [] [(0, { n := 4, agg := true }), (2, { n := 1, agg := false }), (4, { n := 4 }), (5, { n := 4, agg := true }), (7, { n := 1, agg := false }), (9, { n := 4 }), (10, { n := 4, agg := true }), (13, { zero := [(.int .i64 0), (.int .i64 0), (.int .i64 0), (.bool false)] }), (14, { n := 4 })]) (.s (.r [(0, { n := 1, agg := false }), (2, { n := 1, agg := false }), (4, { n := 4 }), (5, { n := 4, agg := true }), (6, { n := 4, agg := true }), (7, { n := 4, agg := true }), (9, { mc := 2 })]) (.r [(0, { n := 4, agg := true }), (1, { n := 4 })])))) (.o)))))) (.s (.d [] [(0, { n := 4, agg := true }), (2, { n := 1, agg := false }), (3, { off := 0 }), (4, { n := 1, agg := false }), (7, { n := 4, agg := true }), (8, { zero := [(.int .i64 0), (.int .i64 0), (.int .i64 0), (.bool false), (.int .i64 0), (.int .i64 0), (.int .i64 0), (.bool false)], places := [(0, 4), (4, 4)] }), (9, { zero := [(.int .i64 0), (.int .i64 0), (.int .i64 0), (.bool false), (.int .i64 0), (.int .i64 0), (.int .i64 0), (.bool false)] }), (10, { n := 8 })]) (.s (.r [(0, { acc := [(0, 23)] })]) (.s (.s (.o) (.b (.l [.junk [0, 1, 2, 3, 5, 6, 7, 10, 13, 14, 15, 16, 17, 18, 20, 21, 24, 25, 26, 27, 28, 29, 30, 31, 32, 33, 34, 35, 36, 37, 38, 39, 40, 41, 42, 43, 44, 45, 46, 47, 48, 49, 50, 51, 52, 53, 54, 55, 56, 57, 58, 59, 60, 61, 62, 63, 64, 65, 66, 67, 68, 69, 70, 71, 72, 73, 74, 75, 76, 77, 78, 79, 80, 81, 82, 83, 84, 85, 86, 87, 88, 89, 90, 91, 92, 93, 94, 95, 96, 97, 98, 99, 100, 101, 102, 103, 104, 105, 106, 107, 108, 109, 113, 114, 115, 116, 117, 118, 119, 120, 121, 122, 123, 124, 125, 126, 127, 128, 129, 130, 131, 132, 133, 134, 135, 136, 137, 138, 139, 140, 141], .drop [25], .row 8 0 5008, .row 8 3 20008, .row 12 0 5012, .row 13 0 5013, .row 26 2 15026] (.s (.o) (.s (.s (.o) (.o)) (.s (.b (.s (.r [(0, { n := 4 }), (1, { n := 4, agg := true }), (2, { zero := [(.int .i64 0), (.int .i64 0), (.int .i64 0), (.bool false)] }), (3, { n := 4 })]) (.r [(1, { n := 4, agg := true }), (3, { n := 4, agg := true }), (5, { n := 4 }), (6, { n := 4, t := 32 })]))) (.o))))))) (.s (.r [(2, { n := 1, agg := false }), (3, { mc := 6 }), (4, { mc := 6 }), (8, { zero := [(.int .i64 0), (.int .i64 0), (.slice none 0 0)], acc := [(2, 3026)] }), (9, { n := 3 })]) (.s (.d [(22, 8)] [(0, { off := 0 }), (1, { n := 1, agg := false }), (3, { off := 0 }), (4, { n := 4, agg := true }), (7, { n := 3, agg := true }), (8, { zero := [(.slice none 0 0), (.int .i64 0), (.int .i64 0), (.slice none 0 0)], places := [(0, 1), (1, 3)] }), (9, { n := 8, agg := true }), (10, { n := 4 }), (11, { n := 8 })]) (.o))))))))))))))))
theorem k55 : okF Tryz.prog Tryz.f55 h55 [(true, 4), (true, 8), (false, 0)] = true := by kernel_rfl

/- (couplet/env.Num).Of -/
def h56 : Hint := .s (.r [(0, { n := 4 }), (1, { zero := [(.int .i64 0), (.int .i64 0), (.int .i64 0), (.bool false)] })]) (.s (.o) (.s (.s (.o) (.s (.s (.r [(1, { n := 4 })]) (.o)) (.o))) (.s (.r [(2, { n := 4 })]) (.o))))
theorem k56 : okF Tryz.prog Tryz.f56 h56 [(true, 4)] = true := by kernel_rfl

/- (couplet/root.State(couplet/env.Num)).Cover -/
def h57 : Hint := .s (.r [(0, { n := 4 }), (1, { zero := [(.int .i64 0), (.int .i64 0), (.slice none 0 0)], acc := [(2, 3002)] })]) (.s (.s (.r [(0, { n := 4, agg := true })]) (.s (.s (.r [(0, { zero := [(.int .i64 0), (.int .i64 0), (.slice none 0 0)], places := [(0, 1), (1, 1), (2, 1)] }), (1, { n := 3 })]) (.o)) (.o))) (.s (.r [(0, { off := 1 }), (1, { n := 3, agg := true }), (6, { zero := [(.int .i64 0), (.int .i64 0), (.slice none 0 0)], acc := [(2, 3003)] }), (7, { n := 3 })]) (.s (.r [(0, { n := 3, agg := true }), (1, { n := 3 })]) (.o))))
theorem k57 : okF Tryz.prog Tryz.f57 h57 [(true, 3)] = true := by kernel_rfl

/- couplet/joseph.New(couplet/frac.Frac) -/
def h58 : Hint := .s (.r [(0, { n := 3 }), (1, { zero := [(.slice none 0 0), (.int .i64 0), (.int .i64 0), (.slice none 0 0)], acc := [(0, 1004), (3, 4004)] })]) (.s (.r [(0, { n := 3, agg := true }), (5, { zero := [(.int .i64 0), (.int .i64 0), (.slice none 0 0)], acc := [(2, 3006)] }), (6, { n := 3 })]) (.s (.d [] [(2, { n := 3, agg := true }), (3, { zero := [(.slice none 0 0), (.int .i64 0), (.int .i64 0), (.slice none 0 0)], places := [(0, 1), (1, 3)] }), (4, { zero := [(.slice none 0 0), (.int .i64 0), (.int .i64 0), (.slice none 0 0)], acc := [(0, 1008), (3, 4008)] }), (5, { n := 4 })]) (.s (.s (.r [(3, { n := 4, agg := true })]) (.s (.s (.r [(0, { zero := [(.slice none 0 0), (.int .i64 0), (.int .i64 0), (.slice none 0 0)], places := [(0, 1), (1, 3)] }), (1, { n := 4 })]) (.o)) (.o))) (.s (.r [(0, { n := 4, agg := true }), (1, { n := 4 })]) (.o)))))
theorem k58 : okF Tryz.prog Tryz.f58 h58 [(true, 4), (false, 0)] = true := by kernel_rfl

/- couplet/root.Update(couplet/frac.Frac) -/
def h59 : Hint := .s (.r [(0, { n := 4 }), (1, { n := 1 }), (2, { n := 3 }), (3, { n := 3 }), (4, { zero := [(.slice none 0 0), (.int .i64 0), (.int .i64 0), (.slice none 0 0)], acc := [(0, 1008), (3, 4008)] }), (5, { zero := [(.int .i64 0), (.int .i64 0), (.bool false), (.int .i64 0), (.int .i64 0), (.bool false)] })]) (.s (.r [(0, { off := 0 }), (1, { n := 1, agg := false })]) (.s (.s (.r [(0, { n := 4, agg := true }), (4, { n := 1, agg := false })]) (.s (.s (.r [(0, { zero := [(.slice none 0 0), (.int .i64 0), (.int .i64 0), (.slice none 0 0)], places := [(0, 1), (1, 3)] }), (1, { zero := [(.int .i64 0), (.int .i64 0), (.bool false), (.int .i64 0), (.int .i64 0), (.bool false)], places := [(0, 3), (3, 3)] }), (2, { n := 4 }), (3, { n := 6 })]) (.o)) (.o))) (.s (.r [(0, { zero := [(.slice none 0 0)], acc := [(0, 1012)] })]) (.s (.r [(0, { zero := [(.slice none 0 0)], acc := [(0, 1013)] })]) (.s (.s (.r [(0, { off := 1 }), (1, { n := 3, agg := true })]) (.b (.f [.row 8 0 5008, .row 8 3 20008, .row 12 0 5012, .row 13 0 5013, .row 26 2 15026] (.o) (.b (.r [(0, { n := 1, agg := false }), (2, { n := 1 }), (3, { n := 1, t := 24 }), (4, { n := 1 })]))))) (.s (.s (.r [(0, { off := 1 }), (1, { n := 3, agg := true })]) (.b (.f [.row 8 0 5008, .row 8 3 20008, .row 12 0 5012, .row 13 0 5013, .row 26 2 15026] (.o) (.b (.r [(0, { n := 1, agg := false }), (2, { n := 1, agg := false }), (4, { n := 3 }), (5, { n := 3, t := 24 }), (6, { n := 1 })]))))) (.s (.r [(1, { n := 3, zero := [(.int .i64 0), (.int .i64 0), (.bool false)], t := 24, mc := 3 })]) (.s (.r [(2, { zero := [(.int .i64 0)], t := 8, agg := true }), (4, { n := 3, mc := 5 })]) (.s (.r [(0, { n := 3, agg := true }), (1, { zero := [(.int .i64 0), (.int .i64 0), (.bool false)] }), (2, { n := 3 })]) (.s (.s (.o) (.b (.l [.junk [0, 1, 2, 3, 6, 10, 14, 15, 16, 17, 21, 22, 23, 24, 25, 26, 27, 28, 29, 30, 31, 32, 33, 34, 35, 36, 37, 38, 39, 40, 41, 42, 43, 44, 45, 46, 47, 48, 49, 50, 51, 52, 53, 54, 55, 56, 57, 58, 59, 60, 61, 62, 63, 64, 65, 66, 67, 68, 69, 70, 71, 72, 73, 74, 75, 76, 77, 78, 79, 80, 81, 82, 83, 84, 85, 86, 87, 88, 89, 90, 91, 92, 93, 94, 95, 96, 97, 98, 99, 100, 101, 102, 103, 104, 105, 106, 107, 108, 109, 110, 111, 112, 113, 114, 115, 116, 117, 118, 119, 120, 121, 122, 123, 124, 125, 126, 127, 128, 129, 130, 131, 132, 133, 134, 135, 136, 137, 138, 139, 140, 141], .drop [21]] (.s (.s (.o) (.s (.o) (.o))) (.s (.b (.s (.d [] [(0, { n := 3, agg := true }), (2, { n := 1, agg := false }), (4, { n := 3 }), (5, { n := 3, agg := true }), (7, { n := 1, agg := false }), (9, { n := 3 }), (10, { n := 3, agg := true }), (13, { zero := [(.int .i64 0), (.int .i64 0), (.bool false)] }), (14, { n := 3 })]) (.s (.r [(0, { n := 1, agg := false }), (2, { n := 1, agg := false }), (4, { n := 3 }), (5, { n := 3, agg := true }), (6, { n := 3, agg := true }), (7, { n := 3, agg := true }), (9, { mc := 2 })]) (.r [(0, { n := 3, agg := true }), (1, { n := 3 })])))) (.o)))))) (.s (.d [] [(0, { n := 3, agg := true }), (2, { n := 1, agg := false }), (3, { off := 0 }), (4, { n := 1, agg := false }), (7, { n := 3, agg := true }), (8, { zero := [(.int .i64 0), (.int .i64 0), (.bool false), (.int .i64 0), (.int .i64 0), (.bool false)], places := [(0, 3), (3, 3)] }), (9, { zero := [(.int .i64 0), (.int .i64 0), (.bool false), (.int .i64 0), (.int .i64 0), (.bool false)] }), (10, { n := 6 })]) (.s (.r [(0, { acc := [(0, 23)] })]) (.s (.s (.o) (.b (.l [.junk [0, 1, 2, 3, 5, 6, 7, 10, 13, 14, 15, 16, 17, 18, 20, 21, 24, 25, 26, 27, 28, 29, 30, 31, 32, 33, 34, 35, 36, 37, 38, 39, 40, 41, 42, 43, 44, 45, 46, 47, 48, 49, 50, 51, 52, 53, 54, 55, 56, 57, 58, 59, 60, 61, 62, 63, 64, 65, 66, 67, 68, 69, 70, 71, 72, 73, 74, 75, 76, 77, 78, 79, 80, 81, 82, 83, 84, 85, 86, 87, 88, 89, 90, 91, 92, 93, 94, 95, 96, 97, 98, 99, 100, 101, 102, 103, 104, 105, 106, 107, 108, 109, 113, 114, 115, 116, 117, 118, 119, 120, 121, 122, 123, 124, 125, 126, 127, 128, 129, 130, 131, 132, 133, 134, 135, 136, 137, 138, 139, 140, 141], .drop [25], .row 8 0 5008, .row 8 3 20008, .row 12 0 5012, .row 13 0 5013, .row 26 2 15026] (.s (.o) (.s (.s (.o) (.o)) (.s (.b (.s (.r [(0, { n := 3 }), (1, { n := 3, agg := true }), (2, { zero := [(.int .i64 0), (.int .i64 0), (.bool false)] }), (3, { n := 3 })]) (.r [(1, { n := 3, agg := true }), (3, { n := 3, agg := true }), (5, { n := 3 }), (6, { n := 3, t := 24 })]))) (.o))))))) (.s (.r [(2, { n := 1, agg := false }), (3, { mc := 6 }), (4, { mc := 6 }), (8, { zero := [(.int .i64 0), (.int .i64 0), (.slice none 0 0)], acc := [(2, 3026)] }), (9, { n := 3 })]) (.s (.d [(22, 8)] [(0, { off := 0 }), (1, { n := 1, agg := false }), (3, { off := 0 }), (4, { n := 3, agg := true }), (7, { n := 3, agg := true }), (8, { zero := [(.slice none 0 0), (.int .i64 0), (.int .i64 0), (.slice none 0 0)], places := [(0, 1), (1, 3)] }), (9, { n := 6, agg := true }), (10, { n := 4 }), (11, { n := 6 })]) (.o))))))))))))))))
theorem k59 : okF Tryz.prog Tryz.f59 h59 [(true, 4), (true, 6), (false, 0)] = true := by kernel_rfl

/- couplet/joseph.Update(couplet/frac.Frac) -/
def h60 : Hint := .s (.r [(0, { n := 4 }), (1, { n := 3 }), (2, { n := 3 }), (3, { zero := [(.slice none 0 0), (.int .i64 0), (.int .i64 0), (.slice none 0 0)], acc := [(0, 1008), (3, 4008)] }), (4, { zero := [(.int .i64 0), (.int .i64 0), (.bool false), (.int .i64 0), (.int .i64 0), (.bool false)] })]) (.s (.r [(0, { off := 0 }), (1, { n := 1, agg := false })]) (.s (.s (.r [(0, { n := 4, agg := true })]) (.s (.s (.r [(0, { zero := [(.slice none 0 0), (.int .i64 0), (.int .i64 0), (.slice none 0 0)], places := [(0, 1), (1, 3)] }), (1, { zero := [(.int .i64 0), (.int .i64 0), (.bool false), (.int .i64 0), (.int .i64 0), (.bool false)], places := [(0, 3), (3, 3)] }), (2, { n := 4 }), (3, { n := 6 })]) (.o)) (.o))) (.s (.r [(0, { off := 1 }), (1, { n := 3, agg := true })]) (.s (.d [] [(4, { n := 3, agg := true }), (6, { zero := [(.int .i64 0), (.int .i64 0), (.bool false)] }), (7, { n := 3 })]) (.s (.d [] [(0, { n := 3, agg := true }), (3, { off := 0 }), (4, { n := 1, agg := false }), (7, { zero := [(.int .i64 0), (.int .i64 0), (.bool false)] }), (8, { n := 3 })]) (.s (.r [(0, { acc := [(0, 16)] })]) (.s (.s (.o) (.b (.l [.junk [0, 2, 3, 5, 7, 10, 12, 13, 17, 18, 19, 20, 21, 22, 23, 24, 25, 26, 27, 28, 29, 30, 31, 32, 33, 34, 35, 36, 37, 38, 39, 40, 41, 42, 43, 44, 45, 46, 47, 48, 49, 50, 51, 52, 53, 54, 55, 56, 57, 58, 59, 60, 61, 62, 63, 64, 65, 66, 67, 68, 72, 73, 74, 75, 76, 77, 78, 79, 80, 81, 82, 83, 84, 85, 86, 87, 88, 89, 90, 91, 92, 93, 94, 95, 96, 97, 98, 99, 100, 101, 102, 103, 104, 105, 106, 107, 108, 109, 110, 111, 112, 113, 114, 115, 116, 117, 118, 119, 120, 121, 122, 123, 124, 125, 126, 127, 128, 129, 130, 131, 132, 133, 134, 135, 136, 137, 138, 139, 140, 141, 142, 143, 144, 145, 146, 147, 148, 149], .drop [18], .row 8 0 5008, .row 8 3 20008, .row 19 2 15019, .row 21 2 15021, .row 23 2 15023, .row 25 2 15025, .row 27 2 15027, .row 29 2 15029, .row 31 2 15031, .row 33 2 15033] (.s (.o) (.s (.s (.o) (.o)) (.s (.b (.s (.r [(0, { n := 3 }), (1, { n := 3, agg := true }), (2, { zero := [(.int .i64 0), (.int .i64 0), (.bool false)] }), (3, { n := 3 })]) (.r [(1, { n := 3, agg := true }), (3, { n := 3, agg := true }), (5, { n := 3 }), (6, { n := 3, t := 24 })]))) (.o))))))) (.s (.r [(6, { zero := [(.int .i64 0), (.int .i64 0), (.slice none 0 0)], acc := [(2, 3019)] }), (7, { n := 3 })]) (.s (.r [(6, { zero := [(.int .i64 0), (.int .i64 0), (.slice none 0 0)], acc := [(2, 3021)] }), (7, { n := 3 })]) (.s (.r [(5, { zero := [(.int .i64 0), (.int .i64 0), (.slice none 0 0)], acc := [(2, 3023)] }), (6, { n := 3 })]) (.s (.r [(0, { n := 3, agg := true }), (1, { n := 3, agg := true }), (6, { zero := [(.int .i64 0), (.int .i64 0), (.slice none 0 0)], acc := [(2, 3025)] }), (7, { n := 3 })]) (.s (.r [(0, { n := 3, agg := true }), (1, { n := 3, agg := true }), (6, { zero := [(.int .i64 0), (.int .i64 0), (.slice none 0 0)], acc := [(2, 3027)] }), (7, { n := 3 })]) (.s (.r [(2, { n := 3, agg := true }), (8, { zero := [(.int .i64 0), (.int .i64 0), (.slice none 0 0)], acc := [(2, 3029)] }), (9, { n := 3 })]) (.s (.d [] [(0, { n := 3, agg := true }), (1, { n := 3, agg := true }), (7, { zero := [(.int .i64 0), (.int .i64 0), (.slice none 0 0)], acc := [(2, 3031)] }), (8, { n := 3 })]) (.s (.r [(0, { n := 3, agg := true }), (1, { off := 1 }), (2, { n := 3, agg := true }), (3, { n := 3, agg := true }), (8, { zero := [(.int .i64 0), (.int .i64 0), (.slice none 0 0)], acc := [(2, 3033)] }), (9, { n := 3 })]) (.s (.s (.o) (.s (.s (.r [(0, { zero := [(.slice none 0 0), (.int .i64 0), (.int .i64 0), (.slice none 0 0)], places := [(0, 1), (1, 3)] }), (1, { zero := [(.int .i64 0), (.int .i64 0), (.bool false), (.int .i64 0), (.int .i64 0), (.bool false)], places := [(0, 3), (3, 3)] }), (2, { n := 4 }), (3, { n := 6 })]) (.o)) (.o))) (.s (.d [(15, 8), (14, 8)] [(0, { off := 0 }), (1, { n := 1, agg := false }), (3, { n := 3, agg := true }), (6, { n := 3, agg := true }), (7, { zero := [(.slice none 0 0), (.int .i64 0), (.int .i64 0), (.slice none 0 0)], places := [(0, 1), (1, 3)] }), (8, { n := 3, agg := true }), (9, { n := 3, agg := true }), (10, { zero := [(.int .i64 0), (.int .i64 0), (.bool false), (.int .i64 0), (.int .i64 0), (.bool false)], places := [(0, 3), (3, 3)] }), (11, { n := 4 }), (12, { n := 6 })]) (.o))))))))))))))))))
theorem k60 : okF Tryz.prog Tryz.f60 h60 [(true, 4), (true, 6), (false, 0)] = true := by kernel_rfl

/- couplet/coupletlaw10.lanes -/
/- (couplet/root.State(couplet/env.Num)).Right -/
def h62 : Hint := .s (.r [(0, { n := 4 })]) (.s (.r [(0, { off := 0 }), (1, { n := 1, agg := false })]) (.s (.r [(7, { off := 1 }), (8, { n := 3, agg := true }), (12, { off := 1 }), (13, { off := 0 }), (14, { n := 1, agg := false }), (19, { off := 1 }), (20, { off := 1 }), (21, { n := 1, agg := false })]) (.o)))
theorem k62 : okF Tryz.prog Tryz.f62 h62 [(false, 0)] = true := by kernel_rfl

/- couplet/tri.Is(couplet/env.Num) -/
def h63 : Hint := .s (.r [(0, { n := 3 }), (1, { n := 1 }), (2, { zero := [(.bool false)] })]) (.s (.s (.r [(0, { n := 3, agg := true })]) (.b (.f [] (.s (.o) (.o)) (.b (.s (.o) (.b (.l [.junk [0, 1, 5, 8, 9, 10, 11, 12, 13, 14, 15, 16, 17, 18, 19, 20, 21, 22, 23, 24, 25, 26, 27, 28]] (.s (.s (.r [(1, { off := 1 }), (2, { n := 1, agg := false })]) (.s (.o) (.o))) (.s (.b (.s (.r [(0, { n := 1, agg := false }), (3, { n := 4 }), (4, { n := 4, agg := true })]) (.s (.s (.r [(0, { n := 1 })]) (.o)) (.o)))) (.o)))))))))) (.s (.r [(0, { n := 3, agg := true }), (2, { n := 1 })]) (.o)))
/- couplet/coupletlaw10.RootStays$1 -/
def h64 : Hint := .s (.r [(0, { n := 4 })]) (.s (.r [(0, { n := 4, agg := true }), (2, { n := 2, ks := [some .i64, some .i64, some .i64, none] })]) (.o))
/- couplet/joseph.Predict(couplet/frac.Frac) -/
def h65 : Hint := .s (.r [(0, { n := 4 }), (1, { n := 3 }), (2, { n := 3 }), (3, { zero := [(.slice none 0 0), (.int .i64 0), (.int .i64 0), (.slice none 0 0)], acc := [(0, 1006), (3, 4006)] })]) (.s (.r [(0, { n := 3, agg := true }), (5, { zero := [(.int .i64 0), (.int .i64 0), (.slice none 0 0)], acc := [(2, 3008)] }), (6, { n := 3 })]) (.s (.r [(0, { n := 3, agg := true }), (1, { off := 0 }), (2, { n := 1, agg := false })]) (.s (.s (.r [(0, { n := 4, agg := true })]) (.s (.s (.r [(0, { zero := [(.slice none 0 0), (.int .i64 0), (.int .i64 0), (.slice none 0 0)], places := [(0, 1), (1, 3)] }), (1, { n := 4 })]) (.o)) (.o))) (.s (.r [(0, { n := 3, agg := true }), (1, { off := 1 }), (2, { n := 3, agg := true }), (3, { n := 3, agg := true }), (8, { zero := [(.int .i64 0), (.int .i64 0), (.slice none 0 0)], acc := [(2, 3012)] }), (9, { n := 3 })]) (.s (.r [(1, { n := 3, agg := true }), (2, { zero := [(.slice none 0 0), (.int .i64 0), (.int .i64 0), (.slice none 0 0)], places := [(0, 1), (1, 3)] }), (3, { zero := [(.slice none 0 0), (.int .i64 0), (.int .i64 0), (.slice none 0 0)], acc := [(0, 1014), (3, 4014)] }), (4, { n := 4 })]) (.s (.s (.r [(3, { n := 4, agg := true })]) (.s (.s (.r [(0, { zero := [(.slice none 0 0), (.int .i64 0), (.int .i64 0), (.slice none 0 0)], places := [(0, 1), (1, 3)] }), (1, { n := 4 })]) (.o)) (.o))) (.s (.r [(0, { n := 4, agg := true }), (1, { n := 4 })]) (.o))))))))
/- couplet/coupletlaw09.Start -/
/- couplet/coupletlaw09.Within -/
/- couplet/tri.Is(couplet/frac.Frac) -/
/- couplet/coupletlaw07.awake$1 -/
/- couplet/tri.Diagonal(couplet/frac.Frac) -/
/- couplet/mat.New(couplet/frac.Frac) -/
def h71 : Hint := .s (.r [(0, { zero := [(.int .i64 0), (.int .i64 0), (.slice none 0 0)], acc := [(2, 3006)] })]) (.s (.r [(4, { zero := [(.int .i64 0), (.int .i64 0), (.slice none 0 0)], places := [(0, 1), (1, 1), (2, 1)] }), (5, { zero := [(.int .i64 0), (.int .i64 0), (.slice none 0 0)], acc := [(2, 3008)] }), (6, { n := 3 })]) (.s (.s (.r [(0, { n := 3, agg := true })]) (.s (.s (.r [(0, { zero := [(.int .i64 0), (.int .i64 0), (.slice none 0 0)], places := [(0, 1), (1, 1), (2, 1)] }), (1, { n := 3 })]) (.o)) (.o))) (.s (.r [(0, { n := 3, agg := true }), (1, { n := 3 })]) (.o))))
theorem k71 : okF Tryz.prog Tryz.f71 h71 [(true, 3), (false, 0)] = true := by kernel_rfl
/- couplet/mat.New(couplet/frac.Frac) -/
def hN71 : Hint := .s (.r [(0, { zero := [(.int .i64 0), (.int .i64 0), (.slice none 0 0)], acc := [(2, 3006)] })]) (.s (.r [(3, { mc := 6 }), (4, { zero := [(.int .i64 0), (.int .i64 0), (.slice none 0 0)], places := [(0, 1), (1, 1), (2, 1)] }), (5, { zero := [(.int .i64 0), (.int .i64 0), (.slice none 0 0)], acc := [(2, 3008)] }), (6, { n := 3 })]) (.s (.s (.r [(0, { n := 3, agg := true }), (1, { mc := 1 })]) (.s (.s (.r [(0, { zero := [(.int .i64 0), (.int .i64 0), (.slice none 0 0)], places := [(0, 1), (1, 1), (2, 1)] }), (1, { n := 3 })]) (.o)) (.o))) (.s (.r [(0, { n := 3, agg := true }), (1, { n := 3 })]) (.o))))
theorem kN71 : okF Tryz.prog Tryz.f71 hN71 [(true, 3), (false, 0)] = true := by kernel_rfl

/- couplet/coupletref07.Turn -/
/- couplet/tri.square(couplet/frac.Frac) -/
def h73 : Hint := .s (.r [(0, { n := 3 })]) (.s (.r [(0, { n := 3, agg := true }), (3, { off := 0 }), (4, { n := 1, agg := false }), (5, { off := 1 }), (6, { n := 1, agg := false })]) (.o))
theorem k73 : okF Tryz.prog Tryz.f73 h73 [(false, 0)] = true := by kernel_rfl

/- couplet/tri.Root(couplet/frac.Frac)$1 -/
/- (couplet/mat.Mat(couplet/frac.Frac)).At -/
def h75 : Hint := .s (.r [(0, { n := 3 }), (1, { zero := [(.int .i64 0), (.int .i64 0), (.bool false)] })]) (.s (.s (.r [(0, { n := 3, agg := true }), (9, { off := 0 }), (10, { n := 1, agg := false }), (19, { off := 1 }), (20, { n := 1, agg := false })]) (.s (.s (.r [(0, { zero := [(.int .i64 0), (.int .i64 0), (.bool false)] })]) (.s (.r [(0, { n := 3, agg := true }), (1, { n := 3 })]) (.o))) (.o))) (.s (.r [(0, { off := 2 }), (1, { n := 1, agg := false }), (3, { off := 1 }), (4, { n := 1, agg := false }), (8, { n := 3 }), (9, { n := 3, agg := true }), (10, { n := 3 })]) (.o)))
theorem k75 : okF Tryz.prog Tryz.f75 h75 [(true, 3)] = true := by kernel_rfl

/- couplet/vec.Dot(couplet/frac.Frac) -/
def h76 : Hint := .s (.r [(0, { zero := [(.int .i64 0), (.int .i64 0), (.bool false)] })]) (.s (.r [(4, { n := 3 })]) (.o))
theorem k76 : okF Tryz.prog Tryz.f76 h76 [(true, 3)] = true := by kernel_rfl

/- couplet/tri.made(couplet/frac.Frac) -/
def h77 : Hint := .s (.r [(0, { zero := [(.int .i64 0), (.int .i64 0), (.slice none 0 0)], acc := [(2, 3004)] })]) (.s (.r [(0, { acc := [(0, 6)] })]) (.s (.s (.o) (.b (.l [.junk [2, 3, 5, 7, 8, 11, 12, 13, 14, 15, 16, 17, 18, 19, 20, 21, 22, 23, 24, 25, 26, 27, 28, 29, 30, 31], .row 4 2 15004] (.s (.o) (.s (.s (.o) (.o)) (.s (.b (.s (.o) (.s (.o) (.b (.l [.junk [2, 3, 5, 8, 11, 12, 15, 16, 17, 18, 19, 20, 21, 22, 23, 24, 25, 26, 27, 28, 29, 30, 31], .row 4 2 15004] (.s (.o) (.s (.s (.o) (.o)) (.s (.b (.s (.o) (.r [(5, { n := 3 }), (6, { n := 3, t := 24 })]))) (.o))))))))) (.o))))))) (.s (.r [(3, { mc := 6 }), (6, { n := 3 })]) (.o))))
theorem k77 : okF Tryz.prog Tryz.f77 h77 [(true, 3), (false, 0)] = true := by kernel_rfl

/- couplet/tri.Root(couplet/frac.Frac)$2 -/
/- couplet/tri.square(couplet/env.Num) -/
def h79 : Hint := .s (.r [(0, { n := 3 })]) (.s (.r [(0, { n := 3, agg := true }), (3, { off := 0 }), (4, { n := 1, agg := false }), (5, { off := 1 }), (6, { n := 1, agg := false })]) (.o))
theorem k79 : okF Tryz.prog Tryz.f79 h79 [(false, 0)] = true := by kernel_rfl

/- couplet/tri.Root(couplet/env.Num)$1 -/
/- couplet/vec.Dot(couplet/env.Num) -/
def h81 : Hint := .s (.r [(0, { zero := [(.int .i64 0), (.int .i64 0), (.int .i64 0), (.bool false)] })]) (.s (.r [(4, { n := 4 })]) (.o))
theorem k81 : okF Tryz.prog Tryz.f81 h81 [(true, 4)] = true := by kernel_rfl

/- couplet/tri.made(couplet/env.Num) -/
def h82 : Hint := .s (.r [(0, { zero := [(.int .i64 0), (.int .i64 0), (.slice none 0 0)], acc := [(2, 3004)] })]) (.s (.r [(0, { acc := [(0, 6)] })]) (.s (.s (.o) (.b (.l [.junk [2, 3, 5, 7, 8, 11, 12, 13, 14, 15, 16, 17, 18, 19, 20, 21, 22, 23, 24, 25, 26, 27, 28, 29, 30, 31], .row 4 2 15004] (.s (.o) (.s (.s (.o) (.o)) (.s (.b (.s (.o) (.s (.o) (.b (.l [.junk [2, 3, 5, 8, 11, 12, 15, 16, 17, 18, 19, 20, 21, 22, 23, 24, 25, 26, 27, 28, 29, 30, 31], .row 4 2 15004] (.s (.o) (.s (.s (.o) (.o)) (.s (.b (.s (.o) (.r [(5, { n := 4 }), (6, { n := 4, t := 32 })]))) (.o))))))))) (.o))))))) (.s (.r [(3, { mc := 6 }), (6, { n := 3 })]) (.o))))
theorem k82 : okF Tryz.prog Tryz.f82 h82 [(true, 3), (false, 0)] = true := by kernel_rfl

/- couplet/tri.Root(couplet/env.Num)$2 -/
/- (couplet/env.Num).Fine -/
def h84 : Hint := .s (.r [(0, { n := 4 })]) (.s (.r [(0, { off := 3 }), (1, { n := 1, agg := false }), (4, { off := 1 }), (5, { n := 1, agg := false }), (9, { off := 2 }), (10, { n := 1, agg := false }), (14, { off := 1 }), (15, { n := 1, agg := false }), (16, { off := 0 }), (17, { n := 1, agg := false }), (21, { off := 0 }), (22, { n := 1, agg := false }), (23, { off := 2 }), (24, { n := 1, agg := false })]) (.o))
theorem k84 : okF Tryz.prog Tryz.f84 h84 [(false, 0)] = true := by kernel_rfl

/- couplet/wide.Right -/
def h85 : Hint := .s (.o) (.s (.o) (.o))
theorem k85 : okF Tryz.prog Tryz.f85 h85 [(false, 0)] = true := by kernel_rfl

/- couplet/wide.Compare -/
def h86 : Hint := .s (.o) (.s (.s (.r [(4, { zero := [(.int .i64 0), (.int .i64 0), (.int .i64 0), (.int .i64 0)], places := [(0, 1), (1, 1), (2, 1), (3, 1)] })]) (.b (.l [.junk [4, 5, 6, 7, 8, 9, 10, 11, 12, 13, 14, 15, 16, 17, 18, 19, 22, 23, 24, 25, 26, 27, 28, 29, 30, 31, 32, 33, 34, 35, 36, 37, 38, 39, 40, 41, 42, 43, 44, 45, 46, 47, 48, 49, 50, 51, 52, 53, 54, 55, 56, 57, 58, 59, 60, 61, 62, 63, 64, 65, 66, 67, 68, 69, 70, 71, 72, 73, 74, 75, 76, 77, 78, 79, 80, 81, 82, 83, 84]] (.s (.o) (.s (.s (.o) (.o)) (.s (.b (.s (.r [(0, { n := 1, agg := false, t := 4 })]) (.s (.o) (.s (.s (.o) (.o)) (.o))))) (.o))))))) (.s (.o) (.s (.o) (.s (.r [(10, { zero := [(.int .u64 0), (.int .u64 0)] }), (11, { zero := [(.int .u64 0), (.int .u64 0)] }), (12, { n := 2 }), (13, { n := 2 })]) (.s (.b (.s (.s (.o) (.s (.o) (.s (.r [(8, { n := 2, agg := true }), (9, { n := 2, agg := true })]) (.s (.o) (.r [(8, { n := 2, agg := true }), (9, { n := 2, agg := true })]))))) (.s (.s (.o) (.o)) (.s (.s (.o) (.s (.o) (.r [(0, { n := 2, agg := true }), (1, { n := 2, agg := true }), (2, { n := 5, ks := [some .u64, some .u64] })]))) (.s (.s (.o) (.o)) (.o)))))) (.s (.o) (.o)))))))
theorem k86 : okF Tryz.prog Tryz.f86 h86 [(false, 0)] = true := by kernel_rfl

/- slices.Clone(()couplet/env.Num,couplet/env.Num) -/
def h87 : Hint := .s (.r [(0, { acc := [(0, 2)] })]) (.s (.s (.r [(1, { n := 3, t := 1 })]) (.s (.s (.r [(0, { acc := [(0, 2)] })]) (.o)) (.o))) (.s (.r [(0, { n := 4 }), (2, { n := 4, t := 32 })]) (.o)))
theorem k87 : okF Tryz.prog Tryz.f87 h87 [(false, 0)] = true := by kernel_rfl
/- slices.Clone(()couplet/env.Num,couplet/env.Num) -/
def hN87 : Hint := .s (.r [(0, { acc := [(0, 2)] })]) (.s (.s (.r [(1, { n := 3, t := 1 })]) (.s (.s (.r [(0, { acc := [(0, 2)] })]) (.o)) (.o))) (.s (.r [(0, { n := 4 }), (2, { n := 4, t := 32, acc := [(0, 1)] })]) (.o)))
theorem kN87 : okF Tryz.prog Tryz.f87 hN87 [(false, 0)] = true := by kernel_rfl

/- (couplet/mat.Mat(couplet/env.Num)).Right -/
def h88 : Hint := .s (.r [(0, { n := 3 })]) (.s (.o) (.s (.r [(1, { off := 0 }), (2, { n := 1, agg := false }), (6, { off := 1 }), (7, { n := 1, agg := false }), (11, { off := 2 }), (12, { n := 1, agg := false }), (14, { off := 0 }), (15, { n := 1, agg := false }), (16, { off := 1 }), (17, { n := 1, agg := false })]) (.o)))
theorem k88 : okF Tryz.prog Tryz.f88 h88 [(false, 0)] = true := by kernel_rfl

/- couplet/house.Fold(couplet/frac.Frac) -/
/- (couplet/mat.Mat(couplet/env.Num)).All -/
def h90 : Hint := .s (.r [(0, { n := 3 })]) (.s (.g [.freeze 1] (.o)) (.o))
theorem k90 : okF Tryz.prog Tryz.f90 h90 [(false, 0)] = true := by kernel_rfl

/- couplet/house.fold(couplet/env.Num) -/
/- couplet/tri.Clear(couplet/env.Num) -/
def h92 : Hint := .s (.r [(0, { n := 3 }), (1, { zero := [(.int .i64 0), (.int .i64 0), (.slice none 0 0)], acc := [(2, 3002)] })]) (.s (.s (.r [(0, { n := 3, agg := true })]) (.s (.s (.r [(0, { zero := [(.int .i64 0), (.int .i64 0), (.slice none 0 0)], places := [(0, 1), (1, 1), (2, 1)] }), (1, { n := 3 })]) (.o)) (.o))) (.s (.r [(0, { zero := [(.int .i64 0), (.int .i64 0), (.int .i64 0), (.bool false)] })]) (.s (.g [.freeze 4, .freeze 1] (.r [(0, { off := 0 }), (1, { n := 1, agg := false }), (6, { n := 3 })])) (.o))))
theorem k92 : okF Tryz.prog Tryz.f92 h92 [(true, 3), (false, 0)] = true := by kernel_rfl

/- couplet/coupletref03.Do -/
/- couplet/coupletref08.Dot -/
/- couplet/coupletref08.neg -/
/- couplet/coupletlaw03.Given -/
/- (couplet/env.Num).Sub -/
def h97 : Hint := .s (.r [(0, { n := 4 }), (1, { n := 4 }), (2, { zero := [(.int .i64 0), (.int .i64 0), (.int .i64 0), (.bool false)] })]) (.s (.o) (.s (.r [(0, { n := 4, agg := true }), (1, { n := 4, agg := true }), (3, { off := 1 }), (4, { n := 1, agg := false }), (5, { off := 2 }), (6, { n := 1, agg := false }), (7, { zero := [(.int .i64 0), (.int .i64 0)], places := [(0, 1), (1, 1)] }), (8, { off := 2 }), (9, { n := 1, agg := false }), (10, { off := 1 }), (11, { n := 1, agg := false }), (12, { zero := [(.int .i64 0), (.int .i64 0)], places := [(0, 1), (1, 1)] }), (13, { n := 2 }), (15, { n := 4 })]) (.o)))
theorem k97 : okF Tryz.prog Tryz.f97 h97 [(true, 4)] = true := by kernel_rfl

/- (couplet/mat.Mat(couplet/frac.Frac)).All -/
def h98 : Hint := .s (.r [(0, { n := 3 })]) (.s (.g [.freeze 1] (.o)) (.o))
theorem k98 : okF Tryz.prog Tryz.f98 h98 [(false, 0)] = true := by kernel_rfl

/- couplet/tri.Clear(couplet/frac.Frac)$1 -/
def h99 : Hint := .s (.r [(0, { zero := [(.int .i64 0), (.int .i64 0), (.bool false)] })]) (.s (.s (.o) (.s (.s (.r [(0, { n := 3, agg := true }), (3, { n := 3 })]) (.o)) (.o))) (.s (.r [(0, { n := 3, agg := true }), (4, { n := 3 })]) (.o)))
theorem k99 : okF Tryz.prog Tryz.f99 h99 [(true, 3)] = true := by kernel_rfl

/- (couplet/mat.Mat(couplet/frac.Frac)).Right -/
def h100 : Hint := .s (.r [(0, { n := 3 })]) (.s (.o) (.s (.r [(1, { off := 0 }), (2, { n := 1, agg := false }), (6, { off := 1 }), (7, { n := 1, agg := false }), (11, { off := 2 }), (12, { n := 1, agg := false }), (14, { off := 0 }), (15, { n := 1, agg := false }), (16, { off := 1 }), (17, { n := 1, agg := false })]) (.o)))
theorem k100 : okF Tryz.prog Tryz.f100 h100 [(false, 0)] = true := by kernel_rfl

/- couplet/frac.Wrong -/
def h101 : Hint := .s (.r [(0, { zero := [(.int .i64 0), (.int .i64 0), (.bool false)] })]) (.s (.r [(0, { zero := [(.int .i64 0), (.int .i64 0), (.bool false)], places := [(0, 1), (1, 1), (2, 1)] }), (1, { n := 3 })]) (.o))
theorem k101 : okF Tryz.prog Tryz.f101 h101 [(true, 3)] = true := by kernel_rfl

/- couplet/frac.common -/
def h102 : Hint := .s (.o) (.s (.o) (.s (.b (.l [.junk [2, 3, 4, 5, 6, 7, 8, 9, 10, 11, 12, 13, 14, 15, 16, 17, 18, 19]] (.s (.s (.o) (.s (.o) (.o))) (.b (.o))))) (.s (.o) (.o))))
theorem k102 : okF Tryz.prog Tryz.f102 h102 [(false, 0)] = true := by kernel_rfl

/- couplet/env.made -/
def h103 : Hint := .s (.r [(0, { n := 4 }), (1, { n := 4 }), (2, { zero := [(.int .i64 0), (.int .i64 0), (.int .i64 0), (.bool false)] })]) (.s (.r [(1, { off := 0 }), (2, { n := 1, agg := false }), (3, { off := 0 }), (4, { n := 1, agg := false })]) (.s (.r [(0, { acc := [(0, 11)] }), (1, { acc := [(0, 12)] })]) (.s (.s (.o) (.b (.l [.junk [0, 1, 3, 6, 7, 13, 14, 15, 16, 17, 18, 19, 20, 21, 22, 23, 24, 25, 26, 27, 31, 32, 33, 34, 35, 36, 37, 38, 39, 40, 41, 42, 43, 44, 45, 46, 47, 48, 49, 50, 51, 52, 53, 54, 55, 56, 57, 58, 59, 60, 61, 62, 63, 64, 65, 66, 67, 68, 69, 70, 71, 72, 73, 74, 75, 76, 77, 78, 79, 80, 81, 82, 83, 84, 85, 86], .drop [14]] (.s (.o) (.s (.s (.o) (.o)) (.s (.b (.s (.r [(0, { n := 2 }), (1, { n := 2, agg := true }), (2, { zero := [(.int .i64 0), (.int .i64 0)] }), (3, { n := 2 })]) (.s (.r [(1, { n := 1, t := 2 }), (2, { n := 1, agg := false }), (3, { n := 1, t := 2 }), (4, { n := 1, agg := false })]) (.s (.r [(1, { n := 1, t := 2 }), (2, { n := 1, agg := false }), (3, { n := 1, t := 2 }), (4, { n := 1, agg := false })]) (.s (.o) (.r [(2, { n := 1 }), (3, { n := 1, t := 8 }), (6, { n := 1 }), (7, { n := 1, t := 8 })])))))) (.o))))))) (.s (.s (.r [(3, { n := 4, agg := true }), (8, { n := 4, agg := true })]) (.s (.s (.r [(1, { n := 4 })]) (.o)) (.o))) (.s (.r [(5, { zero := [(.int .i64 0), (.int .i64 0), (.int .i64 0), (.bool false)], places := [(0, 1), (1, 1), (2, 1), (3, 1)] }), (6, { n := 4 })]) (.o))))))
theorem k103 : okF Tryz.prog Tryz.f103 h103 [(true, 4)] = true := by kernel_rfl

/- couplet/fx.Mul -/
def h104 : Hint := .s (.o) (.s (.o) (.s (.r [(4, { n := 1 })]) (.o)))
theorem k104 : okF Tryz.prog Tryz.f104 h104 [(false, 0), (false, 0)] = true := by kernel_rfl

/- couplet/env.all -/
def h105 : Hint := .s (.r [(0, { n := 4 }), (1, { n := 4 }), (2, { acc := [(0, 4)] })]) (.s (.r [(0, { off := 1 }), (1, { n := 1, agg := false }), (2, { off := 1 }), (3, { n := 1, agg := false }), (4, { zero := [(.int .i64 0), (.int .i64 0)], places := [(0, 1), (1, 1)] }), (5, { off := 1 }), (6, { n := 1, agg := false }), (7, { off := 2 }), (8, { n := 1, agg := false }), (9, { zero := [(.int .i64 0), (.int .i64 0)], places := [(0, 1), (1, 1)] }), (10, { off := 2 }), (11, { n := 1, agg := false }), (12, { off := 1 }), (13, { n := 1, agg := false }), (14, { zero := [(.int .i64 0), (.int .i64 0)], places := [(0, 1), (1, 1)] }), (15, { off := 2 }), (16, { n := 1, agg := false }), (17, { off := 2 }), (18, { n := 1, agg := false }), (19, { zero := [(.int .i64 0), (.int .i64 0)], places := [(0, 1), (1, 1)] }), (20, { n := 2 })]) (.o))
theorem k105 : okF Tryz.prog Tryz.f105 h105 [(false, 0)] = true := by kernel_rfl

/- (couplet/mat.Mat(couplet/env.Num)).Mul -/
def h106 : Hint := .s (.r [(0, { n := 3 }), (1, { n := 3 }), (2, { zero := [(.int .i64 0), (.int .i64 0), (.slice none 0 0)], acc := [(2, 3004)] })]) (.s (.s (.r [(0, { n := 3, agg := true }), (4, { n := 3, agg := true }), (9, { off := 1 }), (10, { n := 1, agg := false }), (11, { off := 0 }), (12, { n := 1, agg := false })]) (.s (.s (.r [(0, { zero := [(.int .i64 0), (.int .i64 0), (.slice none 0 0)], places := [(0, 1), (1, 1), (2, 1)] }), (1, { n := 3 })]) (.o)) (.o))) (.s (.r [(0, { off := 0 }), (1, { n := 1, agg := false }), (2, { off := 1 }), (3, { n := 1, agg := false }), (4, { zero := [(.int .i64 0), (.int .i64 0), (.slice none 0 0)], places := [(0, 1), (1, 1), (2, 1)] }), (5, { zero := [(.int .i64 0), (.int .i64 0), (.slice none 0 0)], acc := [(2, 3006)] }), (6, { n := 3 })]) (.s (.r [(0, { n := 3, agg := true }), (2, { zero := [(.int .i64 0), (.int .i64 0), (.slice none 0 0)], acc := [(2, 3007)] }), (3, { n := 3 })]) (.s (.s (.r [(0, { n := 3, agg := true })]) (.b (.f [.drop [9], .forget 1009, .row 4 2 15004, .row 6 2 15006, .row 7 2 15007] (.r [(0, { zero := [(.slice none 0 0)], acc := [(0, 1009)] }), (1, { n := 1 })]) (.b (.s (.r [(0, { n := 3, agg := true })]) (.b (.f [.row 4 2 15004, .row 6 2 15006, .row 7 2 15007, .row 9 0 5009] (.o) (.b (.r [(0, { off := 2 }), (1, { n := 1, agg := false }), (2, { n := 1, agg := false }), (5, { n := 4 }), (6, { n := 4, t := 32 }), (7, { off := 2 }), (8, { n := 1 })]))))))))) (.s (.r [(0, { n := 3, agg := true }), (1, { n := 3 })]) (.o))))))
theorem k106 : okF Tryz.prog Tryz.f106 h106 [(true, 3), (false, 0)] = true := by kernel_rfl

/- (couplet/mat.Mat(couplet/env.Num)).Turn -/
def h107 : Hint := .s (.r [(0, { n := 3 }), (1, { zero := [(.int .i64 0), (.int .i64 0), (.slice none 0 0)], acc := [(2, 3002)] })]) (.s (.s (.r [(0, { n := 3, agg := true })]) (.s (.s (.r [(0, { zero := [(.int .i64 0), (.int .i64 0), (.slice none 0 0)], places := [(0, 1), (1, 1), (2, 1)] }), (1, { n := 3 })]) (.o)) (.o))) (.s (.r [(0, { off := 1 }), (1, { n := 1, agg := false }), (2, { off := 0 }), (3, { n := 1, agg := false }), (4, { zero := [(.int .i64 0), (.int .i64 0), (.slice none 0 0)], places := [(0, 1), (1, 1), (2, 1)] }), (5, { zero := [(.int .i64 0), (.int .i64 0), (.slice none 0 0)], acc := [(2, 3003)] }), (6, { n := 3 })]) (.s (.s (.r [(0, { off := 1 }), (1, { n := 1, agg := false })]) (.b (.l [.junk [0, 4, 5, 6, 7, 8, 9, 10, 11, 12, 13, 14, 15, 18, 19, 20, 21, 22, 23, 24, 25, 26, 27, 28, 29, 30, 31, 32, 33, 34, 35, 36], .row 2 2 15002, .row 3 2 15003] (.s (.o) (.s (.s (.o) (.o)) (.s (.b (.s (.o) (.s (.r [(0, { off := 0 }), (1, { n := 1, agg := false })]) (.b (.l [.junk [0, 5, 6, 7, 8, 9, 10, 11, 12, 13, 14, 15, 18, 19, 20, 23, 24, 25, 26, 27, 28, 29, 30, 31, 32, 33, 34, 35, 36], .row 2 2 15002, .row 3 2 15003] (.s (.o) (.s (.s (.o) (.o)) (.s (.b (.s (.o) (.r [(0, { off := 2 }), (1, { n := 1, agg := false }), (2, { n := 3, agg := true }), (6, { n := 4 }), (7, { n := 4, t := 32 }), (8, { off := 2 }), (9, { n := 1 })]))) (.o))))))))) (.o))))))) (.s (.r [(0, { n := 3, agg := true }), (1, { n := 3 })]) (.o)))))
theorem k107 : okF Tryz.prog Tryz.f107 h107 [(true, 3)] = true := by kernel_rfl

/- (couplet/mat.Mat(couplet/env.Num)).Mirror -/
def h108 : Hint := .s (.r [(0, { n := 3 }), (1, { zero := [(.int .i64 0), (.int .i64 0), (.slice none 0 0)], acc := [(2, 3002)] })]) (.s (.s (.r [(0, { n := 3, agg := true }), (4, { off := 0 }), (5, { n := 1, agg := false }), (6, { off := 1 }), (7, { n := 1, agg := false })]) (.s (.s (.r [(0, { zero := [(.int .i64 0), (.int .i64 0), (.slice none 0 0)], places := [(0, 1), (1, 1), (2, 1)] }), (1, { n := 3 })]) (.o)) (.o))) (.s (.r [(0, { off := 0 }), (1, { n := 1, agg := false }), (2, { off := 1 }), (3, { n := 1, agg := false }), (4, { zero := [(.int .i64 0), (.int .i64 0), (.slice none 0 0)], places := [(0, 1), (1, 1), (2, 1)] }), (5, { zero := [(.int .i64 0), (.int .i64 0), (.slice none 0 0)], acc := [(2, 3004)] }), (6, { n := 3 })]) (.s (.s (.r [(0, { off := 0 }), (1, { n := 1, agg := false })]) (.b (.l [.junk [0, 3, 5, 6, 7, 8, 9, 10, 11, 12, 13, 14, 15, 16, 17, 18, 19, 20, 21, 22, 23, 26, 27, 28, 29, 30, 31, 32, 33, 34, 35, 36, 37, 38, 39, 40, 41, 42, 43, 44, 45, 46, 47, 48], .row 2 2 15002, .row 4 2 15004] (.s (.o) (.s (.s (.o) (.o)) (.s (.b (.s (.o) (.s (.r [(0, { off := 1 }), (1, { n := 1, agg := false })]) (.b (.l [.junk [0, 3, 6, 7, 8, 9, 10, 11, 12, 13, 14, 15, 16, 17, 18, 19, 20, 21, 22, 23, 26, 27, 28, 31, 32, 33, 34, 35, 36, 37, 38, 39, 40, 41, 42, 43, 44, 45, 46, 47, 48], .row 2 2 15002, .row 4 2 15004] (.s (.o) (.s (.s (.o) (.o)) (.s (.b (.s (.o) (.r [(0, { off := 2 }), (1, { n := 1, agg := false }), (2, { n := 3, agg := true }), (10, { n := 4 }), (11, { n := 4, t := 32 }), (12, { off := 2 }), (13, { n := 1 })]))) (.o))))))))) (.o))))))) (.s (.r [(0, { n := 3, agg := true }), (1, { n := 3 })]) (.o)))))
theorem k108 : okF Tryz.prog Tryz.f108 h108 [(true, 3), (false, 0)] = true := by kernel_rfl

/- slices.Clone(()couplet/frac.Frac,couplet/frac.Frac) -/
def h109 : Hint := .s (.r [(0, { acc := [(0, 2)] })]) (.s (.s (.r [(1, { n := 3, t := 1 })]) (.s (.s (.r [(0, { acc := [(0, 2)] })]) (.o)) (.o))) (.s (.r [(0, { n := 3 }), (2, { n := 3, t := 24 })]) (.o)))
theorem k109 : okF Tryz.prog Tryz.f109 h109 [(false, 0)] = true := by kernel_rfl
/- slices.Clone(()couplet/frac.Frac,couplet/frac.Frac) -/
def hN109 : Hint := .s (.r [(0, { acc := [(0, 2)] })]) (.s (.s (.r [(1, { n := 3, t := 1 })]) (.s (.s (.r [(0, { acc := [(0, 2)] })]) (.o)) (.o))) (.s (.r [(0, { n := 3 }), (2, { n := 3, t := 24, acc := [(0, 1)] })]) (.o)))
theorem kN109 : okF Tryz.prog Tryz.f109 hN109 [(false, 0)] = true := by kernel_rfl

/- couplet/tri.Square(couplet/frac.Frac) -/
def h110 : Hint := .s (.r [(0, { n := 3 }), (1, { zero := [(.int .i64 0), (.int .i64 0), (.slice none 0 0)], acc := [(2, 3002)] })]) (.s (.s (.r [(0, { n := 3, agg := true })]) (.s (.s (.r [(0, { zero := [(.int .i64 0), (.int .i64 0), (.slice none 0 0)], places := [(0, 1), (1, 1), (2, 1)] }), (1, { n := 3 })]) (.o)) (.o))) (.s (.d [] [(0, { n := 3, agg := true }), (1, { n := 3, agg := true }), (7, { zero := [(.int .i64 0), (.int .i64 0), (.slice none 0 0)], acc := [(2, 3004)] }), (8, { n := 3 })]) (.s (.s (.o) (.s (.s (.r [(0, { zero := [(.int .i64 0), (.int .i64 0), (.slice none 0 0)], places := [(0, 1), (1, 1), (2, 1)] }), (1, { n := 3 })]) (.o)) (.o))) (.s (.r [(0, { n := 3, agg := true }), (4, { n := 3 })]) (.o)))))
theorem k110 : okF Tryz.prog Tryz.f110 h110 [(true, 3), (false, 0)] = true := by kernel_rfl

/- couplet/fx.Right -/
def h111 : Hint := .s (.o) (.s (.o) (.o))
theorem k111 : okF Tryz.prog Tryz.f111 h111 [(false, 0)] = true := by kernel_rfl

/- couplet/env.Wrong -/
def h112 : Hint := .s (.r [(0, { zero := [(.int .i64 0), (.int .i64 0), (.int .i64 0), (.bool false)] })]) (.s (.r [(0, { zero := [(.int .i64 0), (.int .i64 0), (.int .i64 0), (.bool false)], places := [(0, 1), (1, 1), (2, 1), (3, 1)] }), (1, { n := 4 })]) (.o))
theorem k112 : okF Tryz.prog Tryz.f112 h112 [(true, 4)] = true := by kernel_rfl

/- couplet/root.column(couplet/env.Num) -/
def h113 : Hint := .s (.r [(0, { n := 4 }), (1, { n := 4 }), (2, { n := 4 })]) (.s (.d [] [(0, { n := 4, agg := true }), (2, { n := 4, agg := true }), (6, { n := 4, agg := true }), (8, { n := 4, agg := true }), (10, { n := 4, agg := true }), (15, { zero := [(.int .i64 0), (.int .i64 0), (.int .i64 0), (.bool false)] }), (16, { zero := [(.int .i64 0), (.int .i64 0), (.int .i64 0), (.bool false)] }), (17, { n := 4 }), (18, { n := 4 })]) (.s (.o) (.b (.l [.junk [2, 3, 4, 6, 7, 9, 10, 11, 15, 16, 17, 18, 19, 20, 21, 22, 23, 24, 25, 26, 27, 28, 29, 30, 31, 32, 33, 34, 35, 36, 37, 38, 39, 40, 41, 42, 43, 44, 45, 46, 47, 48, 49, 50, 51, 52, 53, 54, 55, 56, 57, 58, 59, 60, 61, 62, 63, 64, 65, 66, 67, 68, 69, 70, 71, 72, 73, 74, 75, 76], .drop [15]] (.s (.s (.o) (.s (.o) (.o))) (.s (.b (.s (.r [(2, { n := 1 }), (3, { n := 1, agg := false }), (5, { n := 4 }), (6, { n := 4, agg := true }), (7, { zero := [(.int .i64 0), (.int .i64 0), (.int .i64 0), (.bool false)] }), (8, { n := 4 })]) (.s (.r [(2, { n := 1 }), (3, { n := 1, agg := false }), (5, { n := 4, agg := true }), (7, { n := 4, agg := true }), (12, { n := 4 }), (13, { n := 4, agg := true }), (15, { n := 4, agg := true }), (18, { n := 4 }), (19, { n := 4 })]) (.r [(4, { n := 4 }), (5, { n := 4, agg := true }), (7, { n := 4, agg := true }), (9, { n := 4, agg := true }), (12, { n := 4 }), (13, { n := 4 })])))) (.o)))))))
theorem k113 : okF Tryz.prog Tryz.f113 h113 [] = true := by kernel_rfl

/- slices.Concat(()couplet/env.Num,couplet/env.Num) -/
/- couplet/vec.Add(couplet/env.Num) -/
def h115 : Hint := .s (.r [(0, { acc := [(0, 4)] })]) (.s (.o) (.o))
theorem k115 : okF Tryz.prog Tryz.f115 h115 [(false, 0)] = true := by kernel_rfl
/- couplet/vec.Add(couplet/env.Num) -/
/- couplet/vec.Scale(couplet/env.Num) -/
def h116 : Hint := .s (.r [(0, { n := 4 }), (1, { acc := [(0, 4)] })]) (.s (.r [(0, { acc := [(0, 5)] })]) (.s (.s (.o) (.b (.l [.junk [0, 1, 2, 4, 6, 7, 11, 12, 13, 14, 15, 16, 17, 18, 19, 20, 21, 22], .drop [7]] (.s (.o) (.s (.s (.o) (.o)) (.s (.b (.s (.r [(0, { n := 4 }), (1, { n := 4, agg := true }), (2, { zero := [(.int .i64 0), (.int .i64 0), (.int .i64 0), (.bool false)] }), (3, { n := 4 })]) (.r [(1, { n := 4, agg := true }), (3, { n := 4, agg := true }), (5, { n := 4 }), (6, { n := 4, t := 32 })]))) (.o))))))) (.s (.o) (.o))))
theorem k116 : okF Tryz.prog Tryz.f116 h116 [(false, 0)] = true := by kernel_rfl
/- couplet/vec.Scale(couplet/env.Num) -/
/- couplet/fx.Of -/
def h117 : Hint := .s (.o) (.s (.o) (.s (.o) (.o)))
theorem k117 : okF Tryz.prog Tryz.f117 h117 [(false, 0), (false, 0)] = true := by kernel_rfl

/- (couplet/joseph.State(couplet/frac.Frac)).Right -/
def h118 : Hint := .s (.r [(0, { n := 4 })]) (.s (.r [(0, { off := 0 }), (1, { n := 1, agg := false })]) (.s (.r [(7, { off := 1 }), (8, { n := 3, agg := true }), (12, { off := 1 }), (13, { off := 0 }), (14, { n := 1, agg := false }), (19, { off := 1 }), (20, { off := 1 }), (21, { n := 1, agg := false })]) (.o)))
theorem k118 : okF Tryz.prog Tryz.f118 h118 [(false, 0)] = true := by kernel_rfl

/- (couplet/mat.Mat(couplet/frac.Frac)).Turn -/
def h119 : Hint := .s (.r [(0, { n := 3 }), (1, { zero := [(.int .i64 0), (.int .i64 0), (.slice none 0 0)], acc := [(2, 3002)] })]) (.s (.s (.r [(0, { n := 3, agg := true })]) (.s (.s (.r [(0, { zero := [(.int .i64 0), (.int .i64 0), (.slice none 0 0)], places := [(0, 1), (1, 1), (2, 1)] }), (1, { n := 3 })]) (.o)) (.o))) (.s (.r [(0, { off := 1 }), (1, { n := 1, agg := false }), (2, { off := 0 }), (3, { n := 1, agg := false }), (4, { zero := [(.int .i64 0), (.int .i64 0), (.slice none 0 0)], places := [(0, 1), (1, 1), (2, 1)] }), (5, { zero := [(.int .i64 0), (.int .i64 0), (.slice none 0 0)], acc := [(2, 3003)] }), (6, { n := 3 })]) (.s (.s (.r [(0, { off := 1 }), (1, { n := 1, agg := false })]) (.b (.l [.junk [0, 4, 5, 6, 7, 8, 9, 10, 11, 12, 13, 14, 15, 18, 19, 20, 21, 22, 23, 24, 25, 26, 27, 28, 29, 30, 31, 32, 33, 34, 35, 36], .row 2 2 15002, .row 3 2 15003] (.s (.o) (.s (.s (.o) (.o)) (.s (.b (.s (.o) (.s (.r [(0, { off := 0 }), (1, { n := 1, agg := false })]) (.b (.l [.junk [0, 5, 6, 7, 8, 9, 10, 11, 12, 13, 14, 15, 18, 19, 20, 23, 24, 25, 26, 27, 28, 29, 30, 31, 32, 33, 34, 35, 36], .row 2 2 15002, .row 3 2 15003] (.s (.o) (.s (.s (.o) (.o)) (.s (.b (.s (.o) (.r [(0, { off := 2 }), (1, { n := 1, agg := false }), (2, { n := 3, agg := true }), (6, { n := 3 }), (7, { n := 3, t := 24 }), (8, { off := 2 }), (9, { n := 1 })]))) (.o))))))))) (.o))))))) (.s (.r [(0, { n := 3, agg := true }), (1, { n := 3 })]) (.o)))))
theorem k119 : okF Tryz.prog Tryz.f119 h119 [(true, 3)] = true := by kernel_rfl

/- couplet/root.column(couplet/frac.Frac) -/
def h120 : Hint := .s (.r [(0, { n := 3 }), (1, { n := 3 }), (2, { n := 3 })]) (.s (.d [] [(0, { n := 3, agg := true }), (2, { n := 3, agg := true }), (6, { n := 3, agg := true }), (8, { n := 3, agg := true }), (10, { n := 3, agg := true }), (15, { zero := [(.int .i64 0), (.int .i64 0), (.bool false)] }), (16, { zero := [(.int .i64 0), (.int .i64 0), (.bool false)] }), (17, { n := 3 }), (18, { n := 3 })]) (.s (.o) (.b (.l [.junk [2, 3, 4, 6, 7, 9, 10, 11, 15, 16, 17, 18, 19, 20, 21, 22, 23, 24, 25, 26, 27, 28, 29, 30, 31, 32, 33, 34, 35, 36, 37, 38, 39, 40, 41, 42, 43, 44, 45, 46, 47, 48, 49, 50, 51, 52, 53, 54, 55, 56, 57, 58, 59, 60, 61, 62, 63, 64, 65, 66, 67, 68, 69, 70, 71, 72, 73, 74, 75, 76], .drop [15]] (.s (.s (.o) (.s (.o) (.o))) (.s (.b (.s (.r [(2, { n := 1 }), (3, { n := 1, agg := false }), (5, { n := 3 }), (6, { n := 3, agg := true }), (7, { zero := [(.int .i64 0), (.int .i64 0), (.bool false)] }), (8, { n := 3 })]) (.s (.r [(2, { n := 1 }), (3, { n := 1, agg := false }), (5, { n := 3, agg := true }), (7, { n := 3, agg := true }), (12, { n := 3 }), (13, { n := 3, agg := true }), (15, { n := 3, agg := true }), (18, { n := 3 }), (19, { n := 3 })]) (.r [(4, { n := 3 }), (5, { n := 3, agg := true }), (7, { n := 3, agg := true }), (9, { n := 3, agg := true }), (12, { n := 3 }), (13, { n := 3 })])))) (.o)))))))
theorem k120 : okF Tryz.prog Tryz.f120 h120 [] = true := by kernel_rfl

/- slices.Concat(()couplet/frac.Frac,couplet/frac.Frac) -/
/- couplet/vec.Add(couplet/frac.Frac) -/
def h122 : Hint := .s (.r [(0, { acc := [(0, 4)] })]) (.s (.o) (.o))
theorem k122 : okF Tryz.prog Tryz.f122 h122 [(false, 0)] = true := by kernel_rfl
/- couplet/vec.Add(couplet/frac.Frac) -/
/- couplet/vec.Scale(couplet/frac.Frac) -/
def h123 : Hint := .s (.r [(0, { n := 3 }), (1, { acc := [(0, 4)] })]) (.s (.r [(0, { acc := [(0, 5)] })]) (.s (.s (.o) (.b (.l [.junk [0, 1, 2, 4, 6, 7, 11, 12, 13, 14, 15, 16, 17, 18, 19, 20, 21, 22], .drop [7]] (.s (.o) (.s (.s (.o) (.o)) (.s (.b (.s (.r [(0, { n := 3 }), (1, { n := 3, agg := true }), (2, { zero := [(.int .i64 0), (.int .i64 0), (.bool false)] }), (3, { n := 3 })]) (.r [(1, { n := 3, agg := true }), (3, { n := 3, agg := true }), (5, { n := 3 }), (6, { n := 3, t := 24 })]))) (.o))))))) (.s (.o) (.o))))
theorem k123 : okF Tryz.prog Tryz.f123 h123 [(false, 0)] = true := by kernel_rfl
/- couplet/vec.Scale(couplet/frac.Frac) -/
/- couplet/mat.Unit(couplet/frac.Frac) -/
def h124 : Hint := .s (.r [(0, { zero := [(.int .i64 0), (.int .i64 0), (.slice none 0 0)], acc := [(2, 3002)] })]) (.s (.s (.o) (.s (.s (.r [(0, { zero := [(.int .i64 0), (.int .i64 0), (.slice none 0 0)], places := [(0, 1), (1, 1), (2, 1)] }), (1, { n := 3 })]) (.o)) (.o))) (.s (.r [(3, { zero := [(.int .i64 0)], t := 8 })]) (.s (.s (.o) (.b (.l [.junk [1, 3, 5, 6, 7, 8, 9, 10, 11, 12, 13, 14, 15, 16, 19, 20, 21, 22, 23, 24, 25, 26, 27, 28, 29, 30, 31, 32, 33, 34]] (.s (.o) (.s (.s (.o) (.o)) (.s (.b (.s (.o) (.r [(6, { n := 1 }), (7, { n := 1 })]))) (.o))))))) (.s (.g [.shut 16] (.r [(6, { n := 3 })])) (.o)))))
theorem k124 : okF Tryz.prog Tryz.f124 h124 [(true, 3), (false, 0)] = true := by kernel_rfl

/- (couplet/mat.Mat(couplet/frac.Frac)).Mul -/
def h125 : Hint := .s (.r [(0, { n := 3 }), (1, { n := 3 }), (2, { zero := [(.int .i64 0), (.int .i64 0), (.slice none 0 0)], acc := [(2, 3004)] })]) (.s (.s (.r [(0, { n := 3, agg := true }), (4, { n := 3, agg := true }), (9, { off := 1 }), (10, { n := 1, agg := false }), (11, { off := 0 }), (12, { n := 1, agg := false })]) (.s (.s (.r [(0, { zero := [(.int .i64 0), (.int .i64 0), (.slice none 0 0)], places := [(0, 1), (1, 1), (2, 1)] }), (1, { n := 3 })]) (.o)) (.o))) (.s (.r [(0, { off := 0 }), (1, { n := 1, agg := false }), (2, { off := 1 }), (3, { n := 1, agg := false }), (4, { zero := [(.int .i64 0), (.int .i64 0), (.slice none 0 0)], places := [(0, 1), (1, 1), (2, 1)] }), (5, { zero := [(.int .i64 0), (.int .i64 0), (.slice none 0 0)], acc := [(2, 3006)] }), (6, { n := 3 })]) (.s (.r [(0, { n := 3, agg := true }), (2, { zero := [(.int .i64 0), (.int .i64 0), (.slice none 0 0)], acc := [(2, 3007)] }), (3, { n := 3 })]) (.s (.s (.r [(0, { n := 3, agg := true })]) (.b (.f [.drop [9], .forget 1009, .row 4 2 15004, .row 6 2 15006, .row 7 2 15007] (.r [(0, { zero := [(.slice none 0 0)], acc := [(0, 1009)] }), (1, { n := 1 })]) (.b (.s (.r [(0, { n := 3, agg := true })]) (.b (.f [.row 4 2 15004, .row 6 2 15006, .row 7 2 15007, .row 9 0 5009] (.o) (.b (.r [(0, { off := 2 }), (1, { n := 1, agg := false }), (2, { n := 1, agg := false }), (5, { n := 3 }), (6, { n := 3, t := 24 }), (7, { off := 2 }), (8, { n := 1 })]))))))))) (.s (.r [(0, { n := 3, agg := true }), (1, { n := 3 })]) (.o))))))
theorem k125 : okF Tryz.prog Tryz.f125 h125 [(true, 3), (false, 0)] = true := by kernel_rfl

/- (couplet/mat.Mat(couplet/frac.Frac)).Sub -/
def h126 : Hint := .s (.r [(0, { n := 3 }), (1, { n := 3 }), (2, { zero := [(.int .i64 0), (.int .i64 0), (.slice none 0 0)], acc := [(2, 3004)] })]) (.s (.r [(0, { n := 3, agg := true }), (1, { n := 3, agg := true }), (5, { n := 3 })]) (.o))
theorem k126 : okF Tryz.prog Tryz.f126 h126 [(true, 3), (false, 0)] = true := by kernel_rfl

/- couplet/joseph.turned(couplet/frac.Frac) -/
def h127 : Hint := .s (.r [(0, { n := 3 }), (1, { n := 3 }), (2, { n := 3 }), (3, { zero := [(.int .i64 0), (.int .i64 0), (.slice none 0 0)], acc := [(2, 3006)] })]) (.s (.r [(0, { n := 3, agg := true }), (1, { n := 3, agg := true }), (6, { zero := [(.int .i64 0), (.int .i64 0), (.slice none 0 0)], acc := [(2, 3008)] }), (7, { n := 3 })]) (.s (.d [] [(0, { n := 3, agg := true }), (1, { n := 3, agg := true }), (7, { zero := [(.int .i64 0), (.int .i64 0), (.slice none 0 0)], acc := [(2, 3010)] }), (8, { n := 3 })]) (.s (.r [(0, { n := 3, agg := true }), (1, { n := 3, agg := true }), (6, { zero := [(.int .i64 0), (.int .i64 0), (.slice none 0 0)], acc := [(2, 3012)] }), (7, { n := 3 })]) (.s (.s (.o) (.s (.s (.r [(0, { zero := [(.int .i64 0), (.int .i64 0), (.slice none 0 0)], places := [(0, 1), (1, 1), (2, 1)] }), (1, { n := 3 })]) (.o)) (.o))) (.s (.r [(0, { n := 3, agg := true }), (4, { n := 3 })]) (.o))))))
theorem k127 : okF Tryz.prog Tryz.f127 h127 [(true, 3), (false, 0)] = true := by kernel_rfl

/- couplet/root.Predict(couplet/env.Num) -/
/- couplet/vec.Sum(couplet/frac.Frac) -/
def h129 : Hint := .s (.r [(0, { zero := [(.int .i64 0), (.int .i64 0), (.bool false)] })]) (.s (.r [(0, { zero := [(.int .i64 0), (.int .i64 0), (.bool false)] })]) (.s (.r [(0, { n := 3, agg := true }), (3, { zero := [(.int .i64 0), (.int .i64 0), (.bool false)] }), (4, { n := 3 })]) (.s (.s (.o) (.b (.l [.junk [0, 1, 3, 5, 6, 7, 8, 9, 13, 14, 15, 16, 17, 18, 19, 20, 21], .drop [6]] (.s (.o) (.s (.s (.o) (.o)) (.s (.b (.s (.r [(0, { n := 3 }), (1, { n := 3, agg := true }), (2, { zero := [(.int .i64 0), (.int .i64 0), (.bool false)] }), (3, { n := 3 })]) (.r [(0, { n := 3, agg := true }), (2, { n := 3, agg := true }), (4, { n := 3 })]))) (.o))))))) (.s (.r [(0, { n := 3, agg := true }), (1, { n := 3 })]) (.o)))))
theorem k129 : okF Tryz.prog Tryz.f129 h129 [(true, 3)] = true := by kernel_rfl

/- couplet/vec.of(couplet/frac.Frac) -/
def h130 : Hint := .s (.r [(0, { n := 1 }), (1, { acc := [(0, 6)] })]) (.s (.r [(0, { zero := [(.slice none 0 0)], acc := [(0, 1007)] })]) (.s (.s (.o) (.b (.f [.drop [8, 9], .row 7 0 5007] (.s (.r [(0, { zero := [(.int .i64 0), (.int .i64 0), (.bool false)] }), (1, { n := 3 })]) (.r [(0, { zero := [(.int .i64 0), (.int .i64 0), (.bool false)] }), (1, { n := 3 })])) (.b (.r [(0, { n := 1, agg := false }), (1, { n := 1, agg := false }), (2, { n := 3, agg := true }), (3, { n := 3, agg := true }), (5, { n := 3 }), (6, { n := 3, t := 24 }), (7, { n := 1 })]))))) (.s (.r [(0, { n := 1, agg := false })]) (.o))))
theorem k130 : okF Tryz.prog Tryz.f130 h130 [(false, 0)] = true := by kernel_rfl
/- couplet/vec.of(couplet/frac.Frac) -/
/- couplet/vec.Dot(couplet/frac.Frac)$1 -/
def h131 : Hint := .s (.r [(0, { n := 3 }), (1, { n := 3 }), (2, { zero := [(.int .i64 0), (.int .i64 0), (.bool false)] })]) (.s (.r [(0, { n := 3, agg := true }), (2, { n := 3, agg := true }), (4, { n := 3 })]) (.o))
theorem k131 : okF Tryz.prog Tryz.f131 h131 [(true, 3)] = true := by kernel_rfl

/- couplet/vec.Sum(couplet/env.Num) -/
def h132 : Hint := .s (.r [(0, { zero := [(.int .i64 0), (.int .i64 0), (.int .i64 0), (.bool false)] })]) (.s (.r [(0, { zero := [(.int .i64 0), (.int .i64 0), (.int .i64 0), (.bool false)] })]) (.s (.r [(0, { n := 4, agg := true }), (3, { zero := [(.int .i64 0), (.int .i64 0), (.int .i64 0), (.bool false)] }), (4, { n := 4 })]) (.s (.s (.o) (.b (.l [.junk [0, 1, 3, 5, 6, 7, 8, 9, 13, 14, 15, 16, 17, 18, 19, 20, 21], .drop [6]] (.s (.o) (.s (.s (.o) (.o)) (.s (.b (.s (.r [(0, { n := 4 }), (1, { n := 4, agg := true }), (2, { zero := [(.int .i64 0), (.int .i64 0), (.int .i64 0), (.bool false)] }), (3, { n := 4 })]) (.r [(0, { n := 4, agg := true }), (2, { n := 4, agg := true }), (4, { n := 4 })]))) (.o))))))) (.s (.r [(0, { n := 4, agg := true }), (1, { n := 4 })]) (.o)))))
theorem k132 : okF Tryz.prog Tryz.f132 h132 [(true, 4)] = true := by kernel_rfl

/- couplet/vec.of(couplet/env.Num) -/
def h133 : Hint := .s (.r [(0, { n := 1 }), (1, { acc := [(0, 6)] })]) (.s (.r [(0, { zero := [(.slice none 0 0)], acc := [(0, 1007)] })]) (.s (.s (.o) (.b (.f [.drop [8, 9], .row 7 0 5007] (.s (.r [(0, { zero := [(.int .i64 0), (.int .i64 0), (.int .i64 0), (.bool false)] }), (1, { n := 4 })]) (.r [(0, { zero := [(.int .i64 0), (.int .i64 0), (.int .i64 0), (.bool false)] }), (1, { n := 4 })])) (.b (.r [(0, { n := 1, agg := false }), (1, { n := 1, agg := false }), (2, { n := 4, agg := true }), (3, { n := 4, agg := true }), (5, { n := 4 }), (6, { n := 4, t := 32 }), (7, { n := 1 })]))))) (.s (.r [(0, { n := 1, agg := false })]) (.o))))
theorem k133 : okF Tryz.prog Tryz.f133 h133 [(false, 0)] = true := by kernel_rfl
/- couplet/vec.of(couplet/env.Num) -/
/- couplet/vec.Dot(couplet/env.Num)$1 -/
def h134 : Hint := .s (.r [(0, { n := 4 }), (1, { n := 4 }), (2, { zero := [(.int .i64 0), (.int .i64 0), (.int .i64 0), (.bool false)] })]) (.s (.r [(0, { n := 4, agg := true }), (2, { n := 4, agg := true }), (4, { n := 4 })]) (.o))
theorem k134 : okF Tryz.prog Tryz.f134 h134 [(true, 4)] = true := by kernel_rfl

/- couplet/wide.Compare$1 -/
def h135 : Hint := .s (.o) (.s (.b (.s (.o) (.s (.s (.o) (.o)) (.s (.r [(4, { n := 1 })]) (.s (.s (.o) (.o)) (.o)))))) (.s (.o) (.o)))
theorem k135 : okF Tryz.prog Tryz.f135 h135 [(false, 0)] = true := by kernel_rfl

/- couplet/wide.times -/
def h136 : Hint := .s (.r [(0, { zero := [(.int .u64 0), (.int .u64 0)] })]) (.s (.o) (.s (.r [(2, { zero := [(.int .u64 0), (.int .u64 0)], places := [(0, 1), (1, 1)] }), (3, { n := 2 })]) (.o)))
theorem k136 : okF Tryz.prog Tryz.f136 h136 [(true, 2)] = true := by kernel_rfl

/- couplet/wide.size -/
def h137 : Hint := .s (.o) (.s (.r [(4, { ks := [some .u64] })]) (.o))
theorem k137 : okF Tryz.prog Tryz.f137 h137 [(false, 0)] = true := by kernel_rfl

/- couplet/wide.below -/
def h138 : Hint := .s (.r [(0, { n := 2 }), (1, { n := 2 })]) (.s (.r [(0, { n := 1, t := 2 }), (1, { n := 1, agg := false }), (2, { n := 1, t := 2 }), (3, { n := 1, agg := false }), (6, { n := 1, t := 2 }), (7, { n := 1, agg := false }), (8, { n := 1, t := 2 }), (9, { n := 1, agg := false }), (12, { n := 1, t := 2 }), (13, { n := 1, agg := false }), (14, { n := 1, t := 2 }), (15, { n := 1, agg := false })]) (.o))
theorem k138 : okF Tryz.prog Tryz.f138 h138 [(false, 0)] = true := by kernel_rfl

/- (couplet/mat.Mat(couplet/env.Num)).Right$1 -/
def h139 : Hint := .s (.o) (.s (.o) (.o))
theorem k139 : okF Tryz.prog Tryz.f139 h139 [(false, 0)] = true := by kernel_rfl

/- couplet/house.fold(couplet/frac.Frac) -/
/- couplet/house.Signs(couplet/frac.Frac) -/
/- (couplet/mat.Mat(couplet/env.Num)).All$1 -/
def h142 : Hint := .s (.o) (.b (.l [.junk [2, 4, 5, 6, 7, 8, 9, 10, 11, 12, 13, 14, 15, 16, 17, 18, 19, 20]] (.s (.s (.r [(0, { n := 3, agg := true }), (4, { off := 0 }), (5, { n := 1, agg := false })]) (.s (.o) (.o))) (.s (.b (.s (.r [(2, { n := 3, agg := true })]) (.s (.o) (.o)))) (.o)))))
theorem k142 : okF Tryz.prog Tryz.f142 h142 [] = true := by kernel_rfl
/- (couplet/mat.Mat(couplet/env.Num)).All$1 -/
def hN142 : Hint := .s (.o) (.b (.l [.junk [2, 4, 5, 6, 7, 8, 9, 10, 11, 12, 13, 14, 15, 16, 17, 18, 19, 20]] (.s (.s (.r [(0, { n := 3, agg := true }), (4, { off := 0 }), (5, { n := 1, agg := false })]) (.s (.o) (.o))) (.s (.b (.s (.r [(2, { n := 3, agg := true }), (4, { mc := 6 })]) (.s (.o) (.o)))) (.o)))))
theorem kN142 : okF Tryz.prog Tryz.f142 hN142 [] = true := by kernel_rfl

/- (couplet/mat.Mat(couplet/env.Num)).Row -/
def h143 : Hint := .s (.r [(0, { n := 3 }), (1, { acc := [(0, 4)] })]) (.s (.s (.r [(0, { n := 3, agg := true }), (9, { off := 0 }), (10, { n := 1, agg := false })]) (.s (.s (.r [(0, { acc := [(0, 4)] })]) (.o)) (.o))) (.s (.r [(0, { off := 2 }), (1, { n := 1, agg := false }), (3, { off := 1 }), (4, { n := 1, agg := false }), (8, { off := 1 }), (9, { n := 1, agg := false }), (11, { n := 4 })]) (.o)))
theorem k143 : okF Tryz.prog Tryz.f143 h143 [(false, 0)] = true := by kernel_rfl
/- (couplet/mat.Mat(couplet/env.Num)).Row -/
def hN143 : Hint := .s (.r [(0, { n := 3 }), (1, { acc := [(0, 4)] })]) (.s (.s (.r [(0, { n := 3, agg := true }), (9, { off := 0 }), (10, { n := 1, agg := false })]) (.s (.s (.r [(0, { acc := [(0, 4)] })]) (.o)) (.o))) (.s (.r [(0, { off := 2 }), (1, { n := 1, agg := false }), (3, { off := 1 }), (4, { n := 1, agg := false }), (8, { off := 1 }), (9, { n := 1, agg := false }), (11, { n := 4 }), (12, { mc := 6 })]) (.o)))
theorem kN143 : okF Tryz.prog Tryz.f143 hN143 [(false, 0)] = true := by kernel_rfl

/- couplet/vec.Sub(couplet/env.Num) -/
/- couplet/vec.Sub(couplet/env.Num) -/
/- couplet/tri.Clear(couplet/env.Num)$1 -/
def h145 : Hint := .s (.r [(0, { zero := [(.int .i64 0), (.int .i64 0), (.int .i64 0), (.bool false)] })]) (.s (.s (.o) (.s (.s (.r [(0, { n := 4, agg := true }), (3, { n := 4 })]) (.o)) (.o))) (.s (.r [(0, { n := 3, agg := true }), (4, { n := 4 })]) (.o)))
theorem k145 : okF Tryz.prog Tryz.f145 h145 [(true, 4)] = true := by kernel_rfl

/- couplet/coupletref03.Fine -/
/- couplet/coupletref03.one -/
/- (couplet/env.Num).Sub$1 -/
def h148 : Hint := .s (.o) (.s (.o) (.o))
theorem k148 : okF Tryz.prog Tryz.f148 h148 [(false, 0), (false, 0)] = true := by kernel_rfl

/- couplet/fx.Sub -/
def h149 : Hint := .s (.o) (.s (.s (.o) (.s (.s (.o) (.o)) (.o))) (.s (.o) (.o)))
theorem k149 : okF Tryz.prog Tryz.f149 h149 [(false, 0), (false, 0)] = true := by kernel_rfl

/- (couplet/mat.Mat(couplet/frac.Frac)).All$1 -/
def h150 : Hint := .s (.o) (.b (.l [.junk [2, 4, 5, 6, 7, 8, 9, 10, 11, 12, 13, 14, 15, 16, 17, 18, 19, 20]] (.s (.s (.r [(0, { n := 3, agg := true }), (4, { off := 0 }), (5, { n := 1, agg := false })]) (.s (.o) (.o))) (.s (.b (.s (.r [(2, { n := 3, agg := true })]) (.s (.o) (.o)))) (.o)))))
theorem k150 : okF Tryz.prog Tryz.f150 h150 [] = true := by kernel_rfl
/- (couplet/mat.Mat(couplet/frac.Frac)).All$1 -/
def hN150 : Hint := .s (.o) (.b (.l [.junk [2, 4, 5, 6, 7, 8, 9, 10, 11, 12, 13, 14, 15, 16, 17, 18, 19, 20]] (.s (.s (.r [(0, { n := 3, agg := true }), (4, { off := 0 }), (5, { n := 1, agg := false })]) (.s (.o) (.o))) (.s (.b (.s (.r [(2, { n := 3, agg := true }), (4, { mc := 6 })]) (.s (.o) (.o)))) (.o)))))
theorem kN150 : okF Tryz.prog Tryz.f150 hN150 [] = true := by kernel_rfl

/- (couplet/mat.Mat(couplet/frac.Frac)).Row -/
def h151 : Hint := .s (.r [(0, { n := 3 }), (1, { acc := [(0, 4)] })]) (.s (.s (.r [(0, { n := 3, agg := true }), (9, { off := 0 }), (10, { n := 1, agg := false })]) (.s (.s (.r [(0, { acc := [(0, 4)] })]) (.o)) (.o))) (.s (.r [(0, { off := 2 }), (1, { n := 1, agg := false }), (3, { off := 1 }), (4, { n := 1, agg := false }), (8, { off := 1 }), (9, { n := 1, agg := false }), (11, { n := 3 })]) (.o)))
theorem k151 : okF Tryz.prog Tryz.f151 h151 [(false, 0)] = true := by kernel_rfl
/- (couplet/mat.Mat(couplet/frac.Frac)).Row -/
def hN151 : Hint := .s (.r [(0, { n := 3 }), (1, { acc := [(0, 4)] })]) (.s (.s (.r [(0, { n := 3, agg := true }), (9, { off := 0 }), (10, { n := 1, agg := false })]) (.s (.s (.r [(0, { acc := [(0, 4)] })]) (.o)) (.o))) (.s (.r [(0, { off := 2 }), (1, { n := 1, agg := false }), (3, { off := 1 }), (4, { n := 1, agg := false }), (8, { off := 1 }), (9, { n := 1, agg := false }), (11, { n := 3 }), (12, { mc := 6 })]) (.o)))
theorem kN151 : okF Tryz.prog Tryz.f151 hN151 [(false, 0)] = true := by kernel_rfl

/- (couplet/mat.Mat(couplet/frac.Frac)).Right$1 -/
def h152 : Hint := .s (.o) (.s (.o) (.o))
theorem k152 : okF Tryz.prog Tryz.f152 h152 [(false, 0)] = true := by kernel_rfl

/- slices.Min(()int,int) -/
def h153 : Hint := .s (.o) (.s (.s (.o) (.s (.no) (.o))) (.s (.r [(1, { n := 1 }), (2, { n := 1, agg := false })]) (.s (.s (.o) (.b (.l [.junk [1, 2, 5, 6, 7, 8, 9, 10, 11, 12, 13, 14, 15, 16, 17, 18, 19, 20, 21, 22, 23, 24]] (.s (.s (.o) (.s (.o) (.o))) (.s (.b (.r [(3, { n := 1 }), (4, { n := 1, agg := false })])) (.o)))))) (.s (.o) (.o)))))
theorem k153 : okF Tryz.prog Tryz.f153 h153 [(false, 0)] = true := by kernel_rfl

/- slices.Max(()int,int) -/
def h154 : Hint := .s (.o) (.s (.s (.o) (.s (.no) (.o))) (.s (.r [(1, { n := 1 }), (2, { n := 1, agg := false })]) (.s (.s (.o) (.b (.l [.junk [1, 2, 5, 6, 7, 8, 9, 10, 11, 12, 13, 14, 15, 16, 17, 18, 19, 20, 21, 22, 23, 24]] (.s (.s (.o) (.s (.o) (.o))) (.s (.b (.r [(3, { n := 1 }), (4, { n := 1, agg := false })])) (.o)))))) (.s (.o) (.o)))))
theorem k154 : okF Tryz.prog Tryz.f154 h154 [(false, 0)] = true := by kernel_rfl

/- couplet/wide.MulDiv -/
def h155 : Hint := .s (.o) (.s (.s (.o) (.s (.s (.o) (.o)) (.o))) (.s (.r [(7, { zero := [(.int .u64 0), (.int .u64 0)] }), (8, { n := 2 })]) (.s (.s (.r [(0, { n := 1, t := 2 }), (1, { n := 1, agg := false })]) (.s (.s (.o) (.o)) (.o))) (.s (.r [(0, { n := 1, t := 2 }), (1, { n := 1, agg := false }), (2, { n := 1, t := 2 }), (3, { n := 1, agg := false })]) (.s (.r [(4, { n := 1 }), (7, { n := 1 })]) (.s (.o) (.s (.b (.s (.o) (.s (.o) (.s (.o) (.s (.o) (.r [(3, { n := 1 })])))))) (.s (.s (.o) (.s (.s (.o) (.o)) (.o))) (.s (.s (.o) (.s (.o) (.o))) (.s (.s (.o) (.s (.s (.r [(1, { ks := [some .i64] })]) (.o)) (.o))) (.s (.r [(1, { ks := [some .i64] })]) (.o))))))))))))
theorem k155 : okF Tryz.prog Tryz.f155 h155 [(false, 0), (false, 0)] = true := by kernel_rfl

/- couplet/fx.told -/
def h156 : Hint := .s (.o) (.s (.s (.r [(2, { n := 1 }), (3, { n := 1, t := 8 })]) (.b (.l [.junk [2, 3, 4, 5, 6, 7, 8, 9, 10, 11, 12, 16, 17, 18, 19, 20, 21, 22, 23, 24, 25, 26, 27]] (.s (.o) (.s (.s (.o) (.o)) (.s (.b (.s (.r [(0, { n := 1 }), (1, { n := 1, agg := false })]) (.s (.o) (.s (.s (.o) (.o)) (.o))))) (.o))))))) (.s (.o) (.o)))
theorem k156 : okF Tryz.prog Tryz.f156 h156 [(false, 0), (false, 0)] = true := by kernel_rfl

/- (couplet/mat.Mat(couplet/frac.Frac)).Mirror -/
def h157 : Hint := .s (.r [(0, { n := 3 }), (1, { zero := [(.int .i64 0), (.int .i64 0), (.slice none 0 0)], acc := [(2, 3002)] })]) (.s (.s (.r [(0, { n := 3, agg := true }), (4, { off := 0 }), (5, { n := 1, agg := false }), (6, { off := 1 }), (7, { n := 1, agg := false })]) (.s (.s (.r [(0, { zero := [(.int .i64 0), (.int .i64 0), (.slice none 0 0)], places := [(0, 1), (1, 1), (2, 1)] }), (1, { n := 3 })]) (.o)) (.o))) (.s (.r [(0, { off := 0 }), (1, { n := 1, agg := false }), (2, { off := 1 }), (3, { n := 1, agg := false }), (4, { zero := [(.int .i64 0), (.int .i64 0), (.slice none 0 0)], places := [(0, 1), (1, 1), (2, 1)] }), (5, { zero := [(.int .i64 0), (.int .i64 0), (.slice none 0 0)], acc := [(2, 3004)] }), (6, { n := 3 })]) (.s (.s (.r [(0, { off := 0 }), (1, { n := 1, agg := false })]) (.b (.l [.junk [0, 3, 5, 6, 7, 8, 9, 10, 11, 12, 13, 14, 15, 16, 17, 18, 19, 20, 21, 22, 23, 26, 27, 28, 29, 30, 31, 32, 33, 34, 35, 36, 37, 38, 39, 40, 41, 42, 43, 44, 45, 46, 47, 48], .row 2 2 15002, .row 4 2 15004] (.s (.o) (.s (.s (.o) (.o)) (.s (.b (.s (.o) (.s (.r [(0, { off := 1 }), (1, { n := 1, agg := false })]) (.b (.l [.junk [0, 3, 6, 7, 8, 9, 10, 11, 12, 13, 14, 15, 16, 17, 18, 19, 20, 21, 22, 23, 26, 27, 28, 31, 32, 33, 34, 35, 36, 37, 38, 39, 40, 41, 42, 43, 44, 45, 46, 47, 48], .row 2 2 15002, .row 4 2 15004] (.s (.o) (.s (.s (.o) (.o)) (.s (.b (.s (.o) (.r [(0, { off := 2 }), (1, { n := 1, agg := false }), (2, { n := 3, agg := true }), (10, { n := 3 }), (11, { n := 3, t := 24 }), (12, { off := 2 }), (13, { n := 1 })]))) (.o))))))))) (.o))))))) (.s (.r [(0, { n := 3, agg := true }), (1, { n := 3 })]) (.o)))))
theorem k157 : okF Tryz.prog Tryz.f157 h157 [(true, 3), (false, 0)] = true := by kernel_rfl

/- slices.Grow(()couplet/env.Num,couplet/env.Num) -/
/- couplet/vec.Add(couplet/env.Num)$1 -/
def h159 : Hint := .s (.r [(0, { n := 4 }), (1, { n := 4 }), (2, { zero := [(.int .i64 0), (.int .i64 0), (.int .i64 0), (.bool false)] })]) (.s (.r [(0, { n := 4, agg := true }), (2, { n := 4, agg := true }), (4, { n := 4 })]) (.o))
theorem k159 : okF Tryz.prog Tryz.f159 h159 [(true, 4)] = true := by kernel_rfl

/- slices.Grow(()couplet/frac.Frac,couplet/frac.Frac) -/
/- couplet/vec.Add(couplet/frac.Frac)$1 -/
def h161 : Hint := .s (.r [(0, { n := 3 }), (1, { n := 3 }), (2, { zero := [(.int .i64 0), (.int .i64 0), (.bool false)] })]) (.s (.r [(0, { n := 3, agg := true }), (2, { n := 3, agg := true }), (4, { n := 3 })]) (.o))
theorem k161 : okF Tryz.prog Tryz.f161 h161 [(true, 3)] = true := by kernel_rfl

/- (couplet/mat.Mat(couplet/frac.Frac)).each -/
def h162 : Hint := .s (.r [(0, { n := 3 }), (1, { n := 3 }), (2, { zero := [(.int .i64 0), (.int .i64 0), (.slice none 0 0)], acc := [(2, 3006)] })]) (.s (.s (.r [(0, { n := 3, agg := true }), (4, { n := 3, agg := true }), (9, { off := 0 }), (10, { n := 1, agg := false }), (11, { off := 0 }), (12, { n := 1, agg := false }), (16, { off := 1 }), (17, { n := 1, agg := false }), (18, { off := 1 }), (19, { n := 1, agg := false })]) (.s (.s (.r [(0, { zero := [(.int .i64 0), (.int .i64 0), (.slice none 0 0)], places := [(0, 1), (1, 1), (2, 1)] }), (1, { n := 3 })]) (.o)) (.o))) (.s (.r [(0, { off := 0 }), (1, { n := 1, agg := false }), (2, { off := 1 }), (3, { n := 1, agg := false }), (5, { off := 2 }), (6, { n := 1, agg := false }), (7, { off := 2 }), (8, { n := 1, agg := false }), (10, { zero := [(.int .i64 0), (.int .i64 0), (.slice none 0 0)], places := [(0, 1), (1, 1), (2, 1)] }), (11, { n := 3 })]) (.o)))
theorem k162 : okF Tryz.prog Tryz.f162 h162 [(true, 3), (false, 0)] = true := by kernel_rfl

/- couplet/vec.Sub(couplet/frac.Frac) -/
def h163 : Hint := .s (.r [(0, { acc := [(0, 4)] })]) (.s (.o) (.o))
theorem k163 : okF Tryz.prog Tryz.f163 h163 [(false, 0)] = true := by kernel_rfl
/- couplet/vec.Sub(couplet/frac.Frac) -/
/- (couplet/mat.Mat(couplet/frac.Frac)).Add -/
def h164 : Hint := .s (.r [(0, { n := 3 }), (1, { n := 3 }), (2, { zero := [(.int .i64 0), (.int .i64 0), (.slice none 0 0)], acc := [(2, 3004)] })]) (.s (.r [(0, { n := 3, agg := true }), (1, { n := 3, agg := true }), (5, { n := 3 })]) (.o))
theorem k164 : okF Tryz.prog Tryz.f164 h164 [(true, 3), (false, 0)] = true := by kernel_rfl

/- (couplet/mat.Mat(couplet/env.Num)).Apply -/
/- (couplet/mat.Mat(couplet/env.Num)).Beside -/
/- couplet/vec.Pairs(couplet/frac.Frac) -/
def h167 : Hint := .s (.r [(0, { n := 1 }), (1, { n := 1 })]) (.s (.g [.freeze 2, .freeze 3] (.o)) (.o))
theorem k167 : okF Tryz.prog Tryz.f167 h167 [(false, 0)] = true := by kernel_rfl

/- couplet/vec.Pairs(couplet/env.Num) -/
def h168 : Hint := .s (.r [(0, { n := 1 }), (1, { n := 1 })]) (.s (.g [.freeze 2, .freeze 3] (.o)) (.o))
theorem k168 : okF Tryz.prog Tryz.f168 h168 [(false, 0)] = true := by kernel_rfl

/- math/bits.Mul64 -/
def h169 : Hint := .s (.o) (.s (.o) (.s (.o) (.s (.o) (.s (.o) (.s (.o) (.s (.o) (.s (.o) (.s (.o) (.s (.o) (.s (.o) (.s (.o) (.o))))))))))))
theorem k169 : okF Tryz.prog Tryz.f169 h169 [(false, 0), (false, 0)] = true := by kernel_rfl

/- couplet/vec.Sub(couplet/env.Num)$1 -/
/- couplet/coupletref02.Right -/
/- couplet/coupletref02.Told -/
/- couplet/coupletref02.Mul -/
/- couplet/coupletref02.Div -/
/- couplet/coupletref02.Root -/
/- couplet/coupletref01.Less -/
/- couplet/coupletref01.Times -/
/- couplet/wide.right -/
def h178 : Hint := .s (.o) (.s (.o) (.o))
theorem k178 : okF Tryz.prog Tryz.f178 h178 [(false, 0)] = true := by kernel_rfl

/- math/bits.Div64 -/
def h179 : Hint := .s (.o) (.s (.s (.o) (.s (.no) (.o))) (.s (.s (.o) (.s (.no) (.o))) (.s (.s (.o) (.s (.s (.o) (.o)) (.o))) (.s (.r [(2, { ks := [some .u64] })]) (.s (.o) (.s (.o) (.s (.o) (.s (.o) (.s (.o) (.s (.o) (.s (.o) (.s (.o) (.s (.o) (.s (.b (.l [.junk [0, 1, 3, 4, 5, 6, 7, 12, 17, 18, 19, 20, 21, 22, 23, 24, 25, 26, 27, 28, 29, 30, 31, 32, 33, 34, 35, 36, 37, 38, 39, 40, 41, 42, 43, 44, 45, 46, 47, 48, 49, 50, 51, 52, 53, 54, 55, 56, 57, 58, 59, 60, 61, 62, 63, 64, 65, 66, 67, 68, 69, 70, 71, 72, 73, 74, 75, 76, 77, 78, 79, 80, 81, 82, 83, 84, 85, 86, 87, 88, 89, 90, 91, 92, 93, 94, 95, 96, 97, 98, 99, 100, 101, 102, 103, 104, 105, 106, 107, 108, 109, 110, 111, 112, 113, 114, 115, 116, 117, 118, 119, 120, 121, 122, 123, 124, 125, 126, 127, 128, 129, 130, 131, 132, 133, 134]] (.s (.s (.o) (.s (.o) (.o))) (.b (.s (.o) (.s (.o) (.s (.o) (.s (.o) (.o))))))))) (.s (.o) (.s (.o) (.s (.o) (.s (.b (.l [.junk [0, 1, 3, 4, 5, 6, 7, 11, 12, 13, 19, 20, 21, 22, 23, 24, 25, 26, 27, 28, 29, 30, 31, 32, 33, 34, 35, 36, 37, 38, 39, 40, 41, 42, 43, 44, 45, 46, 47, 48, 49, 50, 51, 52, 53, 54, 55, 56, 57, 58, 59, 60, 61, 62, 63, 64, 65, 66, 67, 68, 69, 70, 71, 72, 73, 74, 75, 76, 77, 78, 79, 80, 81, 82, 83, 84, 85, 86, 87, 88, 89, 90, 91, 92, 93, 94, 95, 96, 97, 98, 99, 100, 101, 102, 103, 104, 105, 106, 107, 108, 109, 110, 111, 112, 113, 114, 115, 116, 117, 118, 119, 120, 121, 122, 123, 124, 125, 126, 127, 128, 129, 130, 131, 132, 133, 134]] (.s (.s (.o) (.s (.o) (.o))) (.b (.s (.o) (.s (.o) (.s (.o) (.s (.o) (.o))))))))) (.s (.o) (.o))))))))))))))))))))
theorem k179 : okF Tryz.prog Tryz.f179 h179 [(false, 0), (false, 0)] = true := by kernel_rfl

/- couplet/vec.Sub(couplet/frac.Frac)$1 -/
def h180 : Hint := .s (.r [(0, { n := 3 }), (1, { n := 3 }), (2, { zero := [(.int .i64 0), (.int .i64 0), (.bool false)] })]) (.s (.r [(0, { n := 3, agg := true }), (2, { n := 3, agg := true }), (4, { n := 3 })]) (.o))
theorem k180 : okF Tryz.prog Tryz.f180 h180 [(true, 3)] = true := by kernel_rfl

/- couplet/vec.Pairs(couplet/frac.Frac)$1 -/
def h181 : Hint := .s (.r [(0, { n := 1, agg := false }), (2, { n := 1, agg := false })]) (.b (.l [.junk [3, 4, 5, 6, 7, 8, 11, 12, 13, 14, 15, 16, 17, 18, 19, 20, 21, 22, 23, 24]] (.s (.o) (.s (.s (.o) (.o)) (.s (.b (.s (.o) (.s (.y [(1, { n := 1, agg := false }), (3, { n := 3 }), (4, { n := 3, agg := true }), (5, { n := 1, agg := false }), (7, { n := 3 }), (8, { n := 3, agg := true })]) (.s (.o) (.o))))) (.o))))))
theorem k181 : okF Tryz.prog Tryz.f181 h181 [] = true := by kernel_rfl

/- couplet/vec.Pairs(couplet/env.Num)$1 -/
def h182 : Hint := .s (.r [(0, { n := 1, agg := false }), (2, { n := 1, agg := false })]) (.b (.l [.junk [3, 4, 5, 6, 7, 8, 11, 12, 13, 14, 15, 16, 17, 18, 19, 20, 21, 22, 23, 24]] (.s (.o) (.s (.s (.o) (.o)) (.s (.b (.s (.o) (.s (.y [(1, { n := 1, agg := false }), (3, { n := 4 }), (4, { n := 4, agg := true }), (5, { n := 1, agg := false }), (7, { n := 4 }), (8, { n := 4, agg := true })]) (.s (.o) (.o))))) (.o))))))
theorem k182 : okF Tryz.prog Tryz.f182 h182 [] = true := by kernel_rfl

/- couplet/coupletref01.MulDiv -/
/- couplet/coupletref01.Root -/
/- couplet/coupletref01.Bits -/
/- couplet/coupletref01.Add -/
/- couplet/coupletref01.Up -/
/- math/bits.LeadingZeros64 -/
/- couplet/coupletref01.Right -/
/- couplet/coupletref01.size -/
/- couplet/coupletref01.Sub -/
/- couplet/coupletref01.Number -/
/- math/bits.Len64 -/
/- (couplet/frac.Frac).Add -/
def h210 : Hint := .s (.r [(0, { n := 3 }), (1, { n := 3 }), (2, { zero := [(.int .i64 0), (.int .i64 0), (.bool false)] })]) (.s (.s (.r [(0, { n := 3, agg := true }), (4, { n := 3, agg := true })]) (.s (.s (.r [(1, { n := 3 })]) (.o)) (.o))) (.s (.r [(0, { off := 0 }), (1, { n := 1, agg := false }), (2, { off := 1 }), (3, { n := 1, agg := false }), (5, { off := 0 }), (6, { n := 1, agg := false }), (7, { off := 1 }), (8, { n := 1, agg := false }), (11, { off := 1 }), (12, { n := 1, agg := false }), (13, { off := 1 }), (14, { n := 1, agg := false })]) (.s (.o) (.s (.r [(7, { n := 3 })]) (.o)))))
theorem k210 : okF Tryz.prog Tryz.f210 h210 [(true, 3)] = true := by kernel_rfl

/- (couplet/frac.Frac).Div -/
def h211 : Hint := .s (.r [(0, { n := 3 }), (1, { n := 3 }), (2, { zero := [(.int .i64 0), (.int .i64 0), (.bool false)] })]) (.s (.g [.freeze 2, .freeze 3] (.r [(0, { n := 3, agg := true }), (1, { n := 3, agg := true }), (4, { n := 3 })])) (.o))
theorem k211 : okF Tryz.prog Tryz.f211 h211 [(true, 3)] = true := by kernel_rfl

/- (couplet/frac.Frac).Fine -/
def h212 : Hint := .s (.r [(0, { n := 3 })]) (.s (.r [(0, { off := 2 }), (1, { n := 1, agg := false }), (4, { off := 1 }), (5, { n := 1, agg := false }), (9, { off := 1 }), (10, { n := 1, agg := false }), (14, { off := 0 }), (15, { n := 1, agg := false }), (19, { off := 0 }), (20, { n := 1, agg := false }), (24, { off := 0 }), (25, { n := 1, agg := false }), (26, { off := 1 }), (27, { n := 1, agg := false }), (29, { n := 3, agg := true }), (30, { n := 2, ks := [some .i64, some .i64, none] })]) (.o))
theorem k212 : okF Tryz.prog Tryz.f212 h212 [(false, 0)] = true := by kernel_rfl

/- (couplet/frac.Frac).Mul -/
def h213 : Hint := .s (.r [(0, { n := 3 }), (1, { n := 3 }), (2, { zero := [(.int .i64 0), (.int .i64 0), (.bool false)] })]) (.s (.g [.freeze 2, .freeze 3] (.r [(0, { n := 3, agg := true }), (1, { n := 3, agg := true }), (4, { n := 3 })])) (.o))
theorem k213 : okF Tryz.prog Tryz.f213 h213 [(true, 3)] = true := by kernel_rfl

/- (couplet/frac.Frac).Neg -/
def h214 : Hint := .s (.r [(0, { n := 3 }), (1, { zero := [(.int .i64 0), (.int .i64 0), (.bool false)] })]) (.s (.g [.freeze 1] (.r [(0, { n := 3, agg := true }), (1, { n := 3, agg := true }), (4, { n := 3 })])) (.o))
theorem k214 : okF Tryz.prog Tryz.f214 h214 [(true, 3)] = true := by kernel_rfl

/- (couplet/frac.Frac).Of -/
def h215 : Hint := .s (.r [(0, { n := 3 }), (1, { zero := [(.int .i64 0), (.int .i64 0), (.bool false)] })]) (.s (.r [(2, { n := 3 })]) (.o))
theorem k215 : okF Tryz.prog Tryz.f215 h215 [(true, 3)] = true := by kernel_rfl

/- (couplet/frac.Frac).Root -/
def h216 : Hint := .s (.r [(0, { n := 3 }), (1, { zero := [(.int .i64 0), (.int .i64 0), (.bool false)] })]) (.s (.s (.r [(0, { n := 3, agg := true }), (4, { off := 0 }), (5, { n := 1, agg := false }), (9, { off := 0 }), (10, { n := 1, agg := false }), (15, { off := 1 }), (16, { n := 1, agg := false })]) (.s (.s (.r [(1, { n := 3 })]) (.o)) (.o))) (.s (.r [(0, { off := 0 }), (1, { n := 1, agg := false }), (3, { off := 1 }), (4, { n := 1, agg := false }), (7, { n := 3 })]) (.o)))
theorem k216 : okF Tryz.prog Tryz.f216 h216 [(true, 3)] = true := by kernel_rfl

/- (couplet/frac.Frac).Sign -/
/- (couplet/frac.Frac).Sub -/
def h218 : Hint := .s (.r [(0, { n := 3 }), (1, { n := 3 }), (2, { zero := [(.int .i64 0), (.int .i64 0), (.bool false)] })]) (.s (.r [(0, { n := 3, agg := true }), (1, { n := 3, agg := true }), (4, { n := 3 })]) (.o))
theorem k218 : okF Tryz.prog Tryz.f218 h218 [(true, 3)] = true := by kernel_rfl

/- couplet/frac.of -/
def h219 : Hint := .s (.r [(0, { n := 3 }), (1, { n := 3 }), (2, { zero := [(.int .i64 0), (.int .i64 0), (.bool false)] })]) (.s (.s (.r [(0, { n := 3, agg := true }), (4, { n := 3, agg := true })]) (.s (.s (.r [(1, { n := 3 })]) (.o)) (.o))) (.s (.r [(5, { n := 3 })]) (.o)))
theorem k219 : okF Tryz.prog Tryz.f219 h219 [(true, 3)] = true := by kernel_rfl

/- (couplet/frac.Frac).Div$1 -/
def h220 : Hint := .s (.o) (.s (.r [(0, { off := 0 }), (1, { n := 1, agg := false }), (2, { off := 1 }), (3, { n := 1, agg := false }), (5, { off := 1 }), (6, { n := 1, agg := false }), (7, { off := 0 }), (8, { n := 1, agg := false })]) (.o))
theorem k220 : okF Tryz.prog Tryz.f220 h220 [(false, 0), (false, 0)] = true := by kernel_rfl

/- (couplet/frac.Frac).Mul$1 -/
def h221 : Hint := .s (.o) (.s (.r [(0, { off := 0 }), (1, { n := 1, agg := false }), (2, { off := 0 }), (3, { n := 1, agg := false }), (5, { off := 1 }), (6, { n := 1, agg := false }), (7, { off := 1 }), (8, { n := 1, agg := false })]) (.o))
theorem k221 : okF Tryz.prog Tryz.f221 h221 [(false, 0), (false, 0)] = true := by kernel_rfl

/- (couplet/frac.Frac).Neg$1 -/
def h222 : Hint := .s (.o) (.s (.r [(0, { off := 0 }), (1, { n := 1, agg := false }), (3, { off := 1 }), (4, { n := 1, agg := false })]) (.o))
theorem k222 : okF Tryz.prog Tryz.f222 h222 [(false, 0), (false, 0)] = true := by kernel_rfl

/- couplet/frac.root -/
def h223 : Hint := .s (.o) (.s (.o) (.s (.s (.o) (.b (.l [.junk [1, 2, 5, 6, 7, 8, 9, 10, 11, 12, 13, 14, 15, 16, 17, 18, 19, 20, 21, 22, 23, 24, 25]] (.s (.s (.o) (.s (.o) (.o))) (.s (.b (.s (.o) (.s (.o) (.s (.o) (.o))))) (.o)))))) (.s (.s (.o) (.s (.s (.o) (.o)) (.o))) (.s (.o) (.o)))))
theorem k223 : okF Tryz.prog Tryz.f223 h223 [(false, 0)] = true := by kernel_rfl

/- (couplet/mat.Mat(couplet/env.Num)).Add -/
/- (couplet/mat.Mat(couplet/env.Num)).Sub -/
/- (couplet/mat.Mat(couplet/env.Num)).each -/
/- (couplet/env.Num).Add -/
def h227 : Hint := .s (.r [(0, { n := 4 }), (1, { n := 4 }), (2, { zero := [(.int .i64 0), (.int .i64 0), (.int .i64 0), (.bool false)] })]) (.s (.o) (.s (.r [(0, { n := 4, agg := true }), (1, { n := 4, agg := true }), (3, { off := 1 }), (4, { n := 1, agg := false }), (5, { off := 1 }), (6, { n := 1, agg := false }), (7, { zero := [(.int .i64 0), (.int .i64 0)], places := [(0, 1), (1, 1)] }), (8, { off := 2 }), (9, { n := 1, agg := false }), (10, { off := 2 }), (11, { n := 1, agg := false }), (12, { zero := [(.int .i64 0), (.int .i64 0)], places := [(0, 1), (1, 1)] }), (13, { n := 2 }), (15, { n := 4 })]) (.o)))
theorem k227 : okF Tryz.prog Tryz.f227 h227 [(true, 4)] = true := by kernel_rfl

/- (couplet/env.Num).Div -/
def h228 : Hint := .s (.r [(0, { n := 4 }), (1, { n := 4 }), (2, { zero := [(.int .i64 0), (.int .i64 0), (.int .i64 0), (.bool false)] })]) (.s (.s (.r [(0, { off := 1 }), (1, { n := 1, agg := false }), (4, { off := 2 }), (5, { n := 1, agg := false })]) (.s (.s (.r [(1, { n := 4 })]) (.o)) (.o))) (.s (.r [(0, { n := 4, agg := true }), (1, { n := 4, agg := true }), (2, { n := 4, agg := true }), (3, { n := 4, agg := true }), (6, { n := 4 })]) (.o)))
theorem k228 : okF Tryz.prog Tryz.f228 h228 [(true, 4)] = true := by kernel_rfl

/- (couplet/env.Num).Root -/
def h229 : Hint := .s (.r [(0, { n := 4 }), (1, { zero := [(.int .i64 0), (.int .i64 0), (.int .i64 0), (.bool false)] })]) (.s (.o) (.s (.r [(0, { n := 4, agg := true }), (1, { n := 4, agg := true }), (3, { off := 1 }), (4, { n := 1, agg := false }), (5, { off := 1 }), (6, { n := 1, agg := false }), (7, { zero := [(.int .i64 0), (.int .i64 0)], places := [(0, 1), (1, 1)] }), (8, { off := 2 }), (9, { n := 1, agg := false }), (10, { off := 2 }), (11, { n := 1, agg := false }), (12, { zero := [(.int .i64 0), (.int .i64 0)], places := [(0, 1), (1, 1)] }), (13, { n := 2 }), (15, { n := 4 })]) (.o)))
theorem k229 : okF Tryz.prog Tryz.f229 h229 [(true, 4)] = true := by kernel_rfl

/- (couplet/env.Num).Add$1 -/
def h230 : Hint := .s (.o) (.s (.o) (.o))
theorem k230 : okF Tryz.prog Tryz.f230 h230 [(false, 0), (false, 0)] = true := by kernel_rfl

/- couplet/fx.Add -/
def h231 : Hint := .s (.o) (.s (.s (.o) (.s (.s (.o) (.o)) (.o))) (.s (.o) (.o)))
theorem k231 : okF Tryz.prog Tryz.f231 h231 [(false, 0), (false, 0)] = true := by kernel_rfl

/- couplet/fx.Div -/
def h232 : Hint := .s (.o) (.s (.o) (.s (.r [(4, { n := 1 })]) (.o)))
theorem k232 : okF Tryz.prog Tryz.f232 h232 [(false, 0), (false, 0)] = true := by kernel_rfl

/- (couplet/env.Num).Root$1 -/
def h233 : Hint := .s (.o) (.s (.o) (.o))
theorem k233 : okF Tryz.prog Tryz.f233 h233 [(false, 0), (false, 0)] = true := by kernel_rfl

/- couplet/fx.Root -/
def h234 : Hint := .s (.o) (.s (.o) (.s (.r [(3, { n := 1 })]) (.o)))
theorem k234 : okF Tryz.prog Tryz.f234 h234 [(false, 0), (false, 0)] = true := by kernel_rfl

/- couplet/wide.Root -/
def h235 : Hint := .s (.o) (.s (.s (.r [(25, { n := 1 })]) (.s (.s (.o) (.o)) (.o))) (.s (.r [(5, { zero := [(.int .u64 0), (.int .u64 0)] }), (6, { n := 2 })]) (.s (.o) (.s (.s (.o) (.b (.l [.junk [0, 1, 3, 4, 5, 6, 7, 10, 11, 12, 13, 14, 15, 16, 17, 18, 19, 20, 21, 22, 23, 24, 25, 26, 27, 28, 29, 30, 31, 32, 33, 34, 35, 36, 37, 38, 39, 40, 41, 42, 43, 44, 45, 46, 48, 49, 50, 51, 52, 53, 54, 55, 56, 57, 58, 59, 60, 61, 62, 63, 64, 65, 66, 67, 68, 69, 70, 71, 72, 73, 74, 75, 76, 77, 78, 79, 80, 81, 82, 83, 84, 85, 86, 87, 88, 89, 90]] (.s (.o) (.s (.s (.o) (.o)) (.s (.b (.s (.o) (.s (.o) (.s (.r [(0, { n := 2, agg := true })]) (.s (.o) (.o)))))) (.o))))))) (.s (.r [(3, { n := 2, agg := true }), (4, { n := 5, ks := [some .u64, some .u64] })]) (.s (.r [(4, { n := 2, agg := true })]) (.s (.s (.o) (.s (.o) (.o))) (.s (.r [(1, { ks := [some .i64] })]) (.o)))))))))
theorem k235 : okF Tryz.prog Tryz.f235 h235 [(false, 0), (false, 0)] = true := by kernel_rfl

end Go.Proofs.YtbflmeomkfjikaaGreat.A


set_option linter.unusedVariables false
set_option linter.unusedSimpArgs false
set_option maxRecDepth 100000
namespace Go.Proofs.YtbflmeomkfjikaaGreat.A
open Go Go.RowKit Go.Shelf

abbrev num (n : Int) : PV := .s (.int .i64 n)
abbrev tru (b : Bool) : PV := .s (.bool b)
abbrev nt (n : Int) : TV := .v (.s (.int .i64 n))
abbrev jk : TV := .v .junk

theorem wrapped {x : Int} (h1 : -9223372036854775808 ≤ x) (h2 : x ≤ 9223372036854775807) : IntKind.wrap .i64 x = x := by
  simp [IntKind.wrap, IntKind.bits, IntKind.signed]
  omega

theorem ok101 : Ok Tryz.prog 101 [] (.agg [num 0, num 0, tru true]) := by
  refine ok_fn mixed Tryz.func101 (code := ?_) (h := h101) ?_ k101 ?_
  rotate_left
  · exact rfl
  unfold h101 initS
  simp -implicitDefEqProofs only [rkA, rkB, stepA, valA, simprocAttr, Tryz.ntmps101, Tryz.results101]

theorem ok152 (n : Int) : Ok Tryz.prog 152 [num n] (tru (decide (1 ≤ n ∧ n ≤ 16))) := by
  refine ok_fn mixed Tryz.func152 (code := ?_) (h := h152) ?_ k152 ?_
  rotate_left
  · exact rfl
  unfold h152 initS
  simp -implicitDefEqProofs only [rkA, rkB, stepA, valA, simprocAttr, Tryz.ntmps152, Tryz.results152]
  repeat' (refine gB_dec ?_ ?_ <;> intro hc <;> first | (exfalso; omega) | simp -implicitDefEqProofs only [hc, rkA, rkB, stepA, valA, simprocAttr])

theorem ok102 (a b : Int) (ha : -9223372036854775807 ≤ a ∧ a ≤ 9223372036854775807) (hb : -9223372036854775807 ≤ b ∧ b ≤ 9223372036854775807) : Ok Tryz.prog 102 [num a, num b] (num (Int.gcd a b)) := by
  refine ok_fn mixed Tryz.func102 (code := ?_) (h := h102) ?_ k102 ?_
  rotate_left
  · exact rfl
  unfold h102 initS
  simp -implicitDefEqProofs only [rkA, rkB, stepA, valA, simprocAttr, Tryz.ntmps102, Tryz.results102]
  simp -implicitDefEqProofs only [wrapped (x := 0 - a) (by omega) (by omega), wrapped (x := 0 - b) (by omega) (by omega), rkA, rkB, stepA, valA, simprocAttr]
  have ea : (if a < 0 - a then 0 - a else a) = (a.natAbs : Int) := by split <;> omega
  have eb : (if b < 0 - b then 0 - b else b) = (b.natAbs : Int) := by split <;> omega
  simp only [ea, eb]
  refine wp_loop (fun m s => ∃ x y : Nat, y = m ∧ Nat.gcd x y = Int.gcd a b ∧ s = ⟨[nt x, nt y, jk, jk, jk, jk, jk, jk, jk, jk, jk, jk, jk, jk, jk, jk, jk, jk, jk, jk], [], [], [], [], 0, nomem⟩) b.natAbs ?_ ?_
  · simp -implicitDefEqProofs only [rkA, rkB, stepA, valA, simprocAttr]
    exact ⟨a.natAbs, b.natAbs, rfl, rfl, rfl⟩
  rintro m s ⟨x, y, rfl, hg, rfl⟩
  simp -implicitDefEqProofs only [rkA, rkB, stepA, valA, simprocAttr]
  refine gB_dec ?_ ?_ <;> intro hy <;> simp -implicitDefEqProofs only [hy, rkA, rkB, stepA, valA, simprocAttr]
  · have hy0 : (y : Int) ≠ 0 := by omega
    simp -implicitDefEqProofs only [hy0, rkA, rkB, stepA, valA, simprocAttr]
    refine loopK_of (m' := x % y) (Nat.mod_lt _ (by omega)) ?_
    simp -implicitDefEqProofs only [rkA, rkB, stepA, valA, simprocAttr]
    refine ⟨y, x % y, rfl, ?_, ?_⟩
    · rw [← hg, Nat.gcd_comm y, ← Nat.gcd_rec, Nat.gcd_comm]
    · simp [nt, jk, Int.tmod_eq_emod_of_nonneg]
  · have : y = 0 := by omega
    subst this
    simp at hg
    simp [hg]

/-! ### Fractions -/
structure Fr where
  n : Int
  d : Int
  bad : Bool
  deriving DecidableEq

abbrev frV (x : Fr) : PV := .agg [num x.n, num x.d, tru x.bad]
abbrev Fr.wrong : Fr := ⟨0, 0, true⟩
def newF (n d : Int) : Fr :=
  if n > 1152921504606846976 ∨ n < -1152921504606846976 ∨ d > 1152921504606846976 ∨ d < -1152921504606846976 ∨ d = 0 then .wrong else
    let m : Int := if d < 0 then -n else n
    let e : Int := if d < 0 then -d else d
    let k : Int := Int.gcd m e
    if m.tdiv k > 1073741824 ∨ m.tdiv k < -1073741824 ∨ e.tdiv k > 1073741824 then .wrong else ⟨m.tdiv k, e.tdiv k, false⟩

theorem tdiv_small {m k : Int} (h1 : -1152921504606846976 ≤ m) (h2 : m ≤ 1152921504606846976) (hk : 0 < k) : -1152921504606846976 ≤ m.tdiv k ∧ m.tdiv k ≤ 1152921504606846976 := by
  have e : (m.tdiv k).natAbs = m.natAbs / k.natAbs := Int.natAbs_tdiv m k
  have h3 : m.natAbs / k.natAbs ≤ m.natAbs := Nat.div_le_self _ _
  omega

theorem ok44 (n d : Int) : Ok Tryz.prog 44 [num n, num d] (frV (newF n d)) := by
  by_cases hbad : n > 1152921504606846976 ∨ n < -1152921504606846976 ∨ d > 1152921504606846976 ∨ d < -1152921504606846976 ∨ d = 0
  · have e : newF n d = .wrong := by unfold newF; rw [if_pos hbad]
    rw [e]
    refine ok_fn mixed Tryz.func44 (code := ?_) (h := h44) ?_ k44 ?_
    rotate_left
    · exact rfl
    unfold h44 initS
    simp -implicitDefEqProofs only [rkA, rkB, stepA, valA, simprocAttr, Tryz.ntmps44, Tryz.results44]
    repeat' (refine gB_dec ?_ ?_ <;> intro hc <;> first | (exfalso; omega) | simp -implicitDefEqProofs only [hc, rkA, rkB, stepA, valA, simprocAttr])
    all_goals (refine call_fn rfl rfl rfl (ok101) ?_; simp -implicitDefEqProofs only [rkA, rkB, stepA, valA, simprocAttr])
  · have e1 : ¬ n > 1152921504606846976 := fun h => hbad (.inl h)
    have e2 : ¬ n < -1152921504606846976 := fun h => hbad (.inr (.inl h))
    have e3 : ¬ d > 1152921504606846976 := fun h => hbad (.inr (.inr (.inl h)))
    have e4 : ¬ d < -1152921504606846976 := fun h => hbad (.inr (.inr (.inr (.inl h))))
    have e5 : ¬ d = 0 := fun h => hbad (.inr (.inr (.inr (.inr h))))
    have e6 : (d == 0) = false := by simpa using e5
    have key : ∀ m e : Int, (-1152921504606846976 ≤ m ∧ m ≤ 1152921504606846976) → (0 < e ∧ e ≤ 1152921504606846976) → (if d < 0 then -n else n) = m → (if d < 0 then -d else d) = e → Ok Tryz.prog 44 [num n, num d] (frV (newF n d)) := by
      intro m e hm he em ee
      have hk : 0 < (Int.gcd m e : Int) := by
        have : 0 < Int.gcd m e := Int.gcd_pos_of_ne_zero_right _ (by omega)
        omega
      have hk0 : ((Int.gcd m e : Int) = 0) = False := by simp; omega
      have hq : newF n d = if m.tdiv (Int.gcd m e) > 1073741824 ∨ m.tdiv (Int.gcd m e) < -1073741824 ∨ e.tdiv (Int.gcd m e) > 1073741824 then .wrong else ⟨m.tdiv (Int.gcd m e), e.tdiv (Int.gcd m e), false⟩ := by
        unfold newF
        rw [if_neg hbad]
        simp only [em, ee]
      have w1 := tdiv_small (m := m) (k := Int.gcd m e) hm.1 hm.2 hk
      have w2 := tdiv_small (m := e) (k := Int.gcd m e) (by omega) he.2 hk
      have v1 := wrapped (x := m.tdiv (Int.gcd m e)) (by omega) (by omega)
      have v2 := wrapped (x := e.tdiv (Int.gcd m e)) (by omega) (by omega)
      have h40 := ok102 m e (by omega) (by omega)
      refine ok_fn mixed Tryz.func44 (code := ?_) (h := h44) ?_ k44 ?_
      rotate_left
      · exact rfl
      unfold h44 initS
      simp -implicitDefEqProofs only [rkA, rkB, stepA, valA, simprocAttr, Tryz.ntmps44, Tryz.results44]
      simp -implicitDefEqProofs only [e1, e2, e3, e4, e6, rkA, rkB, stepA, valA, simprocAttr]
      refine gB_dec ?_ ?_ <;> intro hd
      · rw [if_pos hd] at em ee
        have wn : IntKind.wrap .i64 (0 - n) = m := by rw [wrapped (by omega) (by omega)]; omega
        have wd : IntKind.wrap .i64 (0 - d) = e := by rw [wrapped (by omega) (by omega)]; omega
        simp -implicitDefEqProofs only [hd, wn, wd, rkA, rkB, stepA, valA, simprocAttr]
        refine call_fn rfl rfl rfl (h40) ?_
        simp -implicitDefEqProofs only [hk0, v1, v2, rkA, rkB, stepA, valA, simprocAttr]
        repeat' (refine gB_dec ?_ ?_ <;> intro hc <;> first | (exfalso; omega) | simp -implicitDefEqProofs only [hc, rkA, rkB, stepA, valA, simprocAttr])
        all_goals first
          | (have hr : newF n d = .wrong := by rw [hq]; exact if_pos (by omega)
             rw [hr]; refine call_fn rfl rfl rfl (ok101) ?_; simp -implicitDefEqProofs only [rkA, rkB, stepA, valA, simprocAttr])
          | (have hr := hq; rw [if_neg (by omega)] at hr; rw [hr])
      · rw [if_neg hd] at em ee
        subst em ee
        simp -implicitDefEqProofs only [hd, rkA, rkB, stepA, valA, simprocAttr]
        refine call_fn rfl rfl rfl (h40) ?_
        simp -implicitDefEqProofs only [hk0, v1, v2, rkA, rkB, stepA, valA, simprocAttr]
        repeat' (refine gB_dec ?_ ?_ <;> intro hc <;> first | (exfalso; omega) | simp -implicitDefEqProofs only [hc, rkA, rkB, stepA, valA, simprocAttr])
        all_goals first
          | (have hr : newF n d = .wrong := by rw [hq]; exact if_pos (by omega)
             rw [hr]; refine call_fn rfl rfl rfl (ok101) ?_; simp -implicitDefEqProofs only [rkA, rkB, stepA, valA, simprocAttr])
          | (have hr := hq; rw [if_neg (by omega)] at hr; rw [hr])
    by_cases hd : d < 0
    · exact key (-n) (-d) (by omega) (by omega) (if_pos hd) (if_pos hd)
    · exact key n d (by omega) (by omega) (if_neg hd) (if_neg hd)
end Go.Proofs.YtbflmeomkfjikaaGreat.A


set_option linter.unusedVariables false
set_option linter.unusedSimpArgs false
set_option maxRecDepth 100000
namespace Go.Proofs.YtbflmeomkfjikaaGreat.A
open Go Go.RowKit Go.Shelf

def Fr.fine (x : Fr) : Bool := !x.bad && decide (x.d ≥ 1) && decide (x.d ≤ 1073741824) && decide (x.n ≤ 1073741824) && decide (x.n ≥ -1073741824) && (((newF x.n x.d).n == x.n) && (((newF x.n x.d).d == x.d) && (((newF x.n x.d).bad == x.bad) && true)))

theorem ok212 (x : Fr) : Ok Tryz.prog 212 [frV x] (tru x.fine) := by
  obtain ⟨n, d, b⟩ := x
  cases b with
  | true =>
    refine ok_fn mixed Tryz.func212 (code := ?_) (h := h212) ?_ k212 ?_
    rotate_left
    · exact rfl
    unfold h212 initS
    simp -implicitDefEqProofs only [rkA, rkB, stepA, valA, simprocAttr, Tryz.ntmps212, Tryz.results212]
    simp [Fr.fine]
  | false =>
    refine ok_fn mixed Tryz.func212 (code := ?_) (h := h212) ?_ k212 ?_
    rotate_left
    · exact rfl
    unfold h212 initS
    simp -implicitDefEqProofs only [rkA, rkB, stepA, valA, simprocAttr, Tryz.ntmps212, Tryz.results212]
    repeat' (refine gB_dec ?_ ?_ <;> intro hc <;> first | (exfalso; omega) | simp -implicitDefEqProofs only [hc, rkA, rkB, stepA, valA, simprocAttr])
    · refine call_fn rfl rfl rfl (ok44 n d) ?_
      simp -implicitDefEqProofs only [cellsEq, rkA, rkB, stepA, valA, simprocAttr]
      simp [Fr.fine, *]
    all_goals simp [Fr.fine, *]

theorem prod_le {x y : Int} (hx : -1073741824 ≤ x ∧ x ≤ 1073741824) (hy : -1073741824 ≤ y ∧ y ≤ 1073741824) : -1152921504606846976 ≤ x * y ∧ x * y ≤ 1152921504606846976 := by
  have e : (x * y).natAbs = x.natAbs * y.natAbs := Int.natAbs_mul x y
  have h : x.natAbs * y.natAbs ≤ 1073741824 * 1073741824 := Nat.mul_le_mul (by omega) (by omega)
  omega

theorem Fr.fine_spec {x : Fr} (h : x.fine = true) : x.bad = false ∧ 1 ≤ x.d ∧ x.d ≤ 1073741824 ∧ x.n ≤ 1073741824 ∧ -1073741824 ≤ x.n := by
  simp only [Fr.fine, Bool.and_eq_true, Bool.not_eq_true', decide_eq_true_eq] at h
  exact ⟨h.1.1.1.1.1, by omega, by omega, by omega, by omega⟩

theorem tdiv_le {m k : Int} (hk : 0 < k) : (m.tdiv k).natAbs ≤ m.natAbs := by
  have e : (m.tdiv k).natAbs = m.natAbs / k.natAbs := Int.natAbs_tdiv m k
  rw [e]
  exact Nat.div_le_self _ _

def addF (a b : Fr) : Fr :=
  if a.fine = false ∨ b.fine = false then .wrong else
    newF ((a.n * b.d + b.n * a.d).tdiv (Int.gcd (a.n * b.d + b.n * a.d) (a.d * b.d))) ((a.d * b.d).tdiv (Int.gcd (a.n * b.d + b.n * a.d) (a.d * b.d)))

theorem ok210 (a b : Fr) : Ok Tryz.prog 210 [frV a, frV b] (frV (addF a b)) := by
  have ha := ok212 a
  have hb := ok212 b
  refine ok_fn mixed Tryz.func210 (code := ?_) (h := h210) ?_ k210 ?_
  rotate_left
  · exact rfl
  unfold h210 initS
  simp -implicitDefEqProofs only [rkA, rkB, stepA, valA, simprocAttr, Tryz.ntmps210, Tryz.results210]
  refine call_fn rfl rfl rfl (ha) ?_
  cases hfa : a.fine with
  | false =>
    simp -implicitDefEqProofs only [rkA, rkB, stepA, valA, simprocAttr]
    refine call_fn rfl rfl rfl (ok101) ?_
    have e : addF a b = .wrong := by simp [addF, hfa]
    simp -implicitDefEqProofs only [e, rkA, rkB, stepA, valA, simprocAttr]
  | true =>
    simp -implicitDefEqProofs only [rkA, rkB, stepA, valA, simprocAttr]
    refine call_fn rfl rfl rfl (hb) ?_
    cases hfb : b.fine with
    | false =>
      simp -implicitDefEqProofs only [rkA, rkB, stepA, valA, simprocAttr]
      refine call_fn rfl rfl rfl (ok101) ?_
      have e : addF a b = .wrong := by simp [addF, hfb]
      simp -implicitDefEqProofs only [e, rkA, rkB, stepA, valA, simprocAttr]
    | true =>
      simp -implicitDefEqProofs only [rkA, rkB, stepA, valA, simprocAttr]
      obtain ⟨a1, a2, a3, a4, a5⟩ := Fr.fine_spec hfa
      obtain ⟨b1, b2, b3, b4, b5⟩ := Fr.fine_spec hfb
      have p1 := prod_le (x := a.n) (y := b.d) ⟨a5, a4⟩ (by omega)
      have p2 := prod_le (x := b.n) (y := a.d) ⟨b5, b4⟩ (by omega)
      have p3 := prod_le (x := a.d) (y := b.d) (by omega) (by omega)
      have p4 : 0 < a.d * b.d := Int.mul_pos (by omega) (by omega)
      have w1 := wrapped (x := a.n * b.d) (by omega) (by omega)
      have w2 := wrapped (x := b.n * a.d) (by omega) (by omega)
      have w3 := wrapped (x := a.d * b.d) (by omega) (by omega)
      have w4 := wrapped (x := a.n * b.d + b.n * a.d) (by omega) (by omega)
      simp -implicitDefEqProofs only [w1, w2, w3, w4, rkA, rkB, stepA, valA, simprocAttr]
      have e : addF a b = newF ((a.n * b.d + b.n * a.d).tdiv (Int.gcd (a.n * b.d + b.n * a.d) (a.d * b.d))) ((a.d * b.d).tdiv (Int.gcd (a.n * b.d + b.n * a.d) (a.d * b.d))) := by simp [addF, hfa, hfb]
      rw [e]
      have p5 : -2305843009213693952 ≤ a.n * b.d + b.n * a.d ∧ a.n * b.d + b.n * a.d ≤ 2305843009213693952 := by omega
      generalize a.n * b.d + b.n * a.d = m at *
      generalize a.d * b.d = q at *
      refine call_fn rfl rfl rfl (ok102 m q (by omega) (by omega)) ?_
      have hk : 0 < (Int.gcd m q : Int) := by
        have : 0 < Int.gcd m q := Int.gcd_pos_of_ne_zero_right _ (by omega)
        omega
      have hk0 : ((Int.gcd m q : Int) = 0) = False := by simp; omega
      have t1 := tdiv_le (m := m) (k := Int.gcd m q) hk
      have t2 := tdiv_le (m := q) (k := Int.gcd m q) hk
      have v1 := wrapped (x := m.tdiv (Int.gcd m q)) (by omega) (by omega)
      have v2 := wrapped (x := q.tdiv (Int.gcd m q)) (by omega) (by omega)
      simp -implicitDefEqProofs only [hk0, v1, v2, rkA, rkB, stepA, valA, simprocAttr]
      refine call_fn rfl rfl rfl (ok44 _ _) ?_
      simp -implicitDefEqProofs only [rkA, rkB, stepA, valA, simprocAttr]

def mulF (a b : Fr) : Fr := if a.fine = false ∨ b.fine = false then .wrong else newF (a.n * b.n) (a.d * b.d)
def negF (a : Fr) : Fr := if a.fine = false then .wrong else newF (-a.n) a.d
def subF (a b : Fr) : Fr := addF a (negF b)

theorem ok221 (a b : Fr) (ha : a.fine = true) (hb : b.fine = true) : Ok Tryz.prog 221 [.vp [num a.n, num a.d, tru a.bad], .vp [num b.n, num b.d, tru b.bad]] (.tup [num (a.n * b.n), num (a.d * b.d)]) := by
  obtain ⟨a1, a2, a3, a4, a5⟩ := Fr.fine_spec ha
  obtain ⟨b1, b2, b3, b4, b5⟩ := Fr.fine_spec hb
  have p1 := prod_le (x := a.n) (y := b.n) ⟨a5, a4⟩ (by omega)
  have p3 := prod_le (x := a.d) (y := b.d) (by omega) (by omega)
  have w1 := wrapped (x := a.n * b.n) (by omega) (by omega)
  have w3 := wrapped (x := a.d * b.d) (by omega) (by omega)
  refine ok_fn mixed Tryz.func221 (code := ?_) (h := h221) ?_ k221 ?_
  rotate_left
  · exact rfl
  unfold h221 initS
  simp -implicitDefEqProofs only [rkA, rkB, stepA, valA, simprocAttr, Tryz.ntmps221, Tryz.results221]
  simp -implicitDefEqProofs only [w1, w3, rkA, rkB, stepA, valA, simprocAttr]

theorem ok219 (a b : Fr) (k : Nat) (caps : List PV) (n d : Int) (h : a.fine = true → b.fine = true → Ok Tryz.prog k caps (.tup [num n, num d])) :
    Ok Tryz.prog 219 [frV a, frV b, .fn (.func k) caps] (frV (if a.fine = false ∨ b.fine = false then .wrong else newF n d)) := by
  refine ok_fn mixed Tryz.func219 (code := ?_) (h := h219) ?_ k219 ?_
  rotate_left
  · exact rfl
  unfold h219 initS
  simp -implicitDefEqProofs only [rkA, rkB, stepA, valA, simprocAttr, Tryz.ntmps219, Tryz.results219]
  refine call_fn rfl rfl rfl (ok212 a) ?_
  cases hfa : a.fine with
  | false =>
    simp -implicitDefEqProofs only [rkA, rkB, stepA, valA, simprocAttr]
    refine call_fn rfl rfl rfl (ok101) ?_
    simp -implicitDefEqProofs only [rkA, rkB, stepA, valA, simprocAttr]
    simp
  | true =>
    simp -implicitDefEqProofs only [rkA, rkB, stepA, valA, simprocAttr]
    refine call_fn rfl rfl rfl (ok212 b) ?_
    cases hfb : b.fine with
    | false =>
      simp -implicitDefEqProofs only [rkA, rkB, stepA, valA, simprocAttr]
      refine call_fn rfl rfl rfl (ok101) ?_
      simp -implicitDefEqProofs only [rkA, rkB, stepA, valA, simprocAttr]
      simp
    | true =>
      simp -implicitDefEqProofs only [rkA, rkB, stepA, valA, simprocAttr]
      refine call_fn rfl rfl rfl (h hfa hfb) ?_
      simp -implicitDefEqProofs only [rkA, rkB, stepA, valA, simprocAttr]
      refine call_fn rfl rfl rfl (ok44 n d) ?_
      simp -implicitDefEqProofs only [rkA, rkB, stepA, valA, simprocAttr]
      simp

theorem ok213 (a b : Fr) : Ok Tryz.prog 213 [frV a, frV b] (frV (mulF a b)) := by
  refine ok_fn mixed Tryz.func213 (code := ?_) (h := h213) ?_ k213 ?_
  rotate_left
  · exact rfl
  unfold h213 initS
  simp -implicitDefEqProofs only [rkA, rkB, stepA, valA, simprocAttr, Tryz.ntmps213, Tryz.results213]
  refine call_fn rfl rfl rfl (ok219 a b 221 _ _ _ (fun ha hb => ok221 a b ha hb)) ?_
  simp -implicitDefEqProofs only [rkA, rkB, stepA, valA, simprocAttr]
  simp [mulF]

theorem ok222 (a : Fr) (ha : a.fine = true) : Ok Tryz.prog 222 [.vp [num a.n, num a.d, tru a.bad]] (.tup [num (-a.n), num a.d]) := by
  obtain ⟨a1, a2, a3, a4, a5⟩ := Fr.fine_spec ha
  have w1 : IntKind.wrap .i64 (0 - a.n) = -a.n := by rw [wrapped (by omega) (by omega)]; omega
  refine ok_fn mixed Tryz.func222 (code := ?_) (h := h222) ?_ k222 ?_
  rotate_left
  · exact rfl
  unfold h222 initS
  simp -implicitDefEqProofs only [rkA, rkB, stepA, valA, simprocAttr, Tryz.ntmps222, Tryz.results222]
  simp -implicitDefEqProofs only [w1, rkA, rkB, stepA, valA, simprocAttr]

theorem ok214 (a : Fr) : Ok Tryz.prog 214 [frV a] (frV (negF a)) := by
  refine ok_fn mixed Tryz.func214 (code := ?_) (h := h214) ?_ k214 ?_
  rotate_left
  · exact rfl
  unfold h214 initS
  simp -implicitDefEqProofs only [rkA, rkB, stepA, valA, simprocAttr, Tryz.ntmps214, Tryz.results214]
  refine call_fn rfl rfl rfl (ok219 a a 222 _ _ _ (fun ha hb => ok222 a ha)) ?_
  simp -implicitDefEqProofs only [rkA, rkB, stepA, valA, simprocAttr]
  simp [negF]

theorem ok218 (a b : Fr) : Ok Tryz.prog 218 [frV a, frV b] (frV (subF a b)) := by
  refine ok_fn mixed Tryz.func218 (code := ?_) (h := h218) ?_ k218 ?_
  rotate_left
  · exact rfl
  unfold h218 initS
  simp -implicitDefEqProofs only [rkA, rkB, stepA, valA, simprocAttr, Tryz.ntmps218, Tryz.results218]
  refine call_fn rfl rfl rfl (ok214 b) ?_
  simp -implicitDefEqProofs only [rkA, rkB, stepA, valA, simprocAttr]
  refine call_fn rfl rfl rfl (ok210 a (negF b)) ?_
  simp -implicitDefEqProofs only [rkA, rkB, stepA, valA, simprocAttr]
  simp [subF]

theorem ok215 (a : Fr) (n : Int) : Ok Tryz.prog 215 [frV a, num n] (frV (newF n 1)) := by
  refine ok_fn mixed Tryz.func215 (code := ?_) (h := h215) ?_ k215 ?_
  rotate_left
  · exact rfl
  unfold h215 initS
  simp -implicitDefEqProofs only [rkA, rkB, stepA, valA, simprocAttr, Tryz.ntmps215, Tryz.results215]
  refine call_fn rfl rfl rfl (ok44 n 1) ?_
  simp -implicitDefEqProofs only [rkA, rkB, stepA, valA, simprocAttr]

/-! ### Whole numbers -/
abbrev whole (n : Int) : Fr := ⟨n, 1, false⟩
def few (n : Int) : Prop := -1073741824 ≤ n ∧ n ≤ 1073741824

theorem newF_whole {n : Int} (h : few n) : newF n 1 = whole n := by
  unfold newF few at *
  rw [if_neg (by omega)]
  simp only [Int.reduceLT, if_false, Int.gcd_one]
  rw [if_neg]
  · simp
  · simp; omega
theorem fine_whole {n : Int} (h : few n) : (whole n).fine = true := by
  have := newF_whole h
  simp only [Fr.fine, whole, this]
  unfold few at h
  simp
  omega
theorem addF_whole {a b : Int} (ha : few a) (hb : few b) (hs : few (a + b)) : addF (whole a) (whole b) = whole (a + b) := by
  unfold addF
  rw [fine_whole ha, fine_whole hb]
  simp [newF_whole hs]
theorem mulF_whole {a b : Int} (ha : few a) (hb : few b) (hs : few (a * b)) : mulF (whole a) (whole b) = whole (a * b) := by
  unfold mulF
  rw [fine_whole ha, fine_whole hb]
  simp [newF_whole hs]
theorem negF_whole {a : Int} (ha : few a) : negF (whole a) = whole (-a) := by
  unfold negF
  rw [fine_whole ha]
  have h2 : few (-a) := by unfold few at *; omega
  simp [newF_whole h2]
theorem subF_whole {a b : Int} (ha : few a) (hb : few b) (hs : few (a - b)) : subF (whole a) (whole b) = whole (a - b) := by
  unfold subF
  have h2 : few (-b) := by unfold few at *; omega
  rw [negF_whole hb, addF_whole ha h2 (by rwa [← Int.sub_eq_add_neg]), Int.sub_eq_add_neg]
end Go.Proofs.YtbflmeomkfjikaaGreat.A


set_option linter.unusedVariables false
set_option linter.unusedSimpArgs false
set_option maxRecDepth 100000
namespace Go.Proofs.YtbflmeomkfjikaaGreat.A
open Go Go.RowKit Go.Shelf

/-! ### Rows of fractions -/
abbrev frs (l : List Fr) : List PV := l.map frV

theorem fits_frs {k l : List Fr} (h : k.length + l.length ≤ 5864062014805) : fits 3 24 (frs k) (frs l) = true := by
  simp [fits, PV.cells, PV.ok, PV.cell, Value.oneCell']
  omega

theorem ok109 (ex : Bool) (l : List Fr) (h : l.length ≤ 5864062014805) : Ok Tryz.prog 109 [.sl ex (frs l)] (.sl false (frs l)) := by
  have hfit : fits 3 24 [] (frs l) = true := fits_frs (k := []) (l := l) (by simpa using h)
  refine ok_fn mixed Tryz.func109 (code := ?_) (h := h109) ?_ k109 ?_
  rotate_left
  · exact rfl
  unfold h109 initS
  simp -implicitDefEqProofs only [rkA, rkB, stepA, valA, simprocAttr, Tryz.ntmps109, Tryz.results109]
  refine nilA_sl (some 4) (.tmp 3) rfl ?_
  intro b hb
  cases b with
  | true =>
    simp -implicitDefEqProofs only [rkA, rkB, stepA, valA, simprocAttr]
    have : l = [] := by
      cases l with
      | nil => rfl
      | cons x l => simp at hb
    subst this
    simp
  | false =>
    simp -implicitDefEqProofs only [hfit, rkA, rkB, stepA, valA, simprocAttr]

def right (r c : Int) (n : Nat) : Bool := decide (1 ≤ r ∧ r ≤ 16) && (decide (1 ≤ c ∧ c ≤ 16) && ((n : Int) == r * c))
abbrev matNil : PV := .agg [num 0, num 0, .s (.slice none 0 0)]
abbrev matV (ex : Bool) (r c : Int) (l : List PV) : PV := .agg [num r, num c, .sl ex l]

theorem ok100 (ex : Bool) (r c : Int) (l : List PV) : Ok Tryz.prog 100 [matV ex r c l] (tru (right r c l.length)) := by
  refine ok_fn mixed Tryz.func100 (code := ?_) (h := h100) ?_ k100 ?_
  rotate_left
  · exact rfl
  unfold h100 initS
  simp -implicitDefEqProofs only [rkA, rkB, stepA, valA, simprocAttr, Tryz.ntmps100, Tryz.results100]
  refine call_fn rfl rfl rfl (ok152 r) ?_
  by_cases hr : 1 ≤ r ∧ r ≤ 16
  · simp -implicitDefEqProofs only [hr, rkA, rkB, stepA, valA, simprocAttr]
    refine call_fn rfl rfl rfl (ok152 c) ?_
    by_cases hc : 1 ≤ c ∧ c ≤ 16
    · have hm : 0 ≤ r * c ∧ r * c ≤ 256 := by
        have h1 : (r * c).natAbs = r.natAbs * c.natAbs := Int.natAbs_mul r c
        have h2 : r.natAbs * c.natAbs ≤ 16 * 16 := Nat.mul_le_mul (by omega) (by omega)
        have h3 : 0 ≤ r * c := Int.mul_nonneg (by omega) (by omega)
        omega
      have w := wrapped (x := r * c) (by omega) (by omega)
      simp -implicitDefEqProofs only [hc, w, rkA, rkB, stepA, valA, simprocAttr]
      simp [right, hr, hc]
    · simp -implicitDefEqProofs only [hc, rkA, rkB, stepA, valA, simprocAttr]
      simp [right, hr, hc]
  · simp -implicitDefEqProofs only [hr, rkA, rkB, stepA, valA, simprocAttr]
    simp [right, hr]

theorem ok71 (r c : Int) (ex : Bool) (l : List Fr) (h : l.length ≤ 5864062014805) :
    Ok Tryz.prog 71 [num r, num c, .sl ex (frs l)] (if right r c l.length = true then .tup [matV false r c (frs l), tru true] else .tup [matNil, tru false]) := by
  refine ok_fn mixed Tryz.func71 (code := ?_) (h := h71) ?_ k71 ?_
  rotate_left
  · exact rfl
  unfold h71 initS
  simp -implicitDefEqProofs only [rkA, rkB, stepA, valA, simprocAttr, Tryz.ntmps71, Tryz.results71]
  refine call_fn rfl rfl rfl (ok109 ex l h) ?_
  simp -implicitDefEqProofs only [rkA, rkB, stepA, valA, simprocAttr]
  refine call_fn rfl rfl rfl (ok100 false r c (frs l)) ?_
  have e : (frs l).length = l.length := by simp
  rw [e]
  cases hr : right r c l.length with
  | true => simp -implicitDefEqProofs only [rkA, rkB, stepA, valA, simprocAttr]
  | false => simp -implicitDefEqProofs only [rkA, rkB, stepA, valA, simprocAttr]

theorem methOf : Meth Tryz.prog 32 "Of" 215 := by
  intro v xs w
  rfl

theorem ok39 (ex : Bool) (xs : List Int) (h : xs.length ≤ 5864062014805) : Ok Tryz.prog 39 [.sl ex (xs.map num)] (.sl false (frs (xs.map (newF · 1)))) := by
  refine ok_fn mixed Tryz.func39 (code := ?_) (h := h39) ?_ k39 ?_
  rotate_left
  · exact rfl
  unfold h39 initS
  simp -implicitDefEqProofs only [rkA, rkB, stepA, valA, simprocAttr, Tryz.ntmps39, Tryz.results39]
  refine wp_loop (fun m s => ∃ i, i + m = xs.length ∧ s = ⟨[jk, jk, jk, .acc 3 (frs ((xs.take i).map (newF · 1))), .ptr 4 0, jk, jk, .v (.sl ex (xs.map num)), nt xs.length, nt i, jk, jk, jk, jk, jk, jk, jk, jk, jk, jk, jk, jk],
    [(4, [nt 0, nt 0, .v (tru false)])], [], [(2, 0), (3, i)], [], 0, nomem⟩) xs.length ?_ ?_
  · simp -implicitDefEqProofs only [rkA, rkB, stepA, valA, simprocAttr]
    refine ⟨0, by simp, ?_⟩
    simp
  rintro m s ⟨i, hi, rfl⟩
  simp -implicitDefEqProofs only [rkA, rkB, stepA, valA, simprocAttr]
  refine gB_dec ?_ ?_ <;> intro hc <;> simp -implicitDefEqProofs only [hc, rkA, rkB, stepA, valA, simprocAttr]
  · have hlt : i < xs.length := by omega
    have h0 : (0 : Int) ≤ (i : Int) := by omega
    have hg : (xs.map num)[i]? = some (num xs[i]) := by simp [hlt]
    simp -implicitDefEqProofs only [h0, Int.toNat_natCast, hg, rkA, rkB, stepA, valA, simprocAttr]
    refine call_meth rfl rfl methOf (ok215 ⟨0, 0, false⟩ xs[i]) ?_
    have hfit : fits 3 24 (frs ((xs.take i).map (newF · 1))) [frV (newF xs[i] 1)] = true := fits_frs (l := [newF xs[i] 1]) (by simp; omega)
    have hw := wrapped (x := (i : Int) + 1) (by omega) (by omega)
    have hl : (frs ((xs.take i).map (newF · 1))).length = i := by simp; omega
    simp -implicitDefEqProofs only [hfit, hl, hw, rkA, rkB, stepA, valA, simprocAttr]
    refine loopK_of (m' := m - 1) (by omega) ?_
    simp -implicitDefEqProofs only [rkA, rkB, stepA, valA, simprocAttr]
    refine ⟨i + 1, by omega, ?_⟩
    rw [List.take_succ_eq_append_getElem hlt]
    simp only [frs, List.map_append, List.map_cons, List.map_nil, Int.natCast_add, Int.natCast_one]
  · have : xs.length ≤ i := by omega
    rw [List.take_of_length_le this]

theorem ok19 (r c : Int) (ex : Bool) (xs : List Int) (h : xs.length ≤ 5864062014805) :
    Ok Tryz.prog 19 [num r, num c, .sl ex (xs.map num)] (if right r c xs.length = true then .tup [matV false r c (frs (xs.map (newF · 1))), tru true] else .tup [matNil, tru false]) := by
  refine ok_fn mixed Tryz.func19 (code := ?_) (h := h19) ?_ k19 ?_
  rotate_left
  · exact rfl
  unfold h19 initS
  simp -implicitDefEqProofs only [rkA, rkB, stepA, valA, simprocAttr, Tryz.ntmps19, Tryz.results19]
  refine call_fn rfl rfl rfl (ok39 ex xs h) ?_
  simp -implicitDefEqProofs only [rkA, rkB, stepA, valA, simprocAttr]
  refine call_fn rfl rfl rfl (ok71 r c false (xs.map (newF · 1)) (by simpa using h)) ?_
  simp only [List.length_map]
  cases hr : right r c xs.length with
  | true => simp -implicitDefEqProofs only [rkA, rkB, stepA, valA, simprocAttr]
  | false => simp -implicitDefEqProofs only [rkA, rkB, stepA, valA, simprocAttr]

/-- What stands in a row, or 0 fraction. -/
def atF (r c : Int) (l : List Fr) (i k : Int) : Fr := if right r c l.length = true ∧ 0 ≤ i ∧ i < r ∧ 0 ≤ k ∧ k < c then l.getD (i * c + k).toNat ⟨0, 0, false⟩ else ⟨0, 0, false⟩

theorem right_spec {r c : Int} {n : Nat} (h : right r c n = true) : 1 ≤ r ∧ r ≤ 16 ∧ 1 ≤ c ∧ c ≤ 16 ∧ (n : Int) = r * c := by
  simp only [right, Bool.and_eq_true, decide_eq_true_eq, beq_iff_eq] at h
  omega

theorem at_bound {r c i k : Int} (hr : r ≤ 16) (hc : 1 ≤ c ∧ c ≤ 16) (hi : 0 ≤ i ∧ i < r) (hk : 0 ≤ k ∧ k < c) : 0 ≤ i * c ∧ 0 ≤ i * c + k ∧ i * c + k < r * c ∧ i * c ≤ 256 ∧ r * c ≤ 256 := by
  have h1 : 0 ≤ i * c := Int.mul_nonneg hi.1 (by omega)
  have h2 : (i + 1) * c ≤ r * c := Int.mul_le_mul_of_nonneg_right (by omega) (by omega)
  have h3 : (i + 1) * c = i * c + c := by rw [Int.add_mul, Int.one_mul]
  have h4 : r * c ≤ 16 * c := Int.mul_le_mul_of_nonneg_right hr (by omega)
  omega

theorem ok75 (ex : Bool) (r c i k : Int) (l : List Fr) : Ok Tryz.prog 75 [matV ex r c (frs l), num i, num k] (frV (atF r c l i k)) := by
  refine ok_fn mixed Tryz.func75 (code := ?_) (h := h75) ?_ k75 ?_
  rotate_left
  · exact rfl
  unfold h75 initS
  simp -implicitDefEqProofs only [rkA, rkB, stepA, valA, simprocAttr, Tryz.ntmps75, Tryz.results75]
  refine call_fn rfl rfl rfl (ok100 ex r c (frs l)) ?_
  have e : (frs l).length = l.length := by simp
  rw [e]
  cases hr : right r c l.length with
  | false =>
    simp -implicitDefEqProofs only [rkA, rkB, stepA, valA, simprocAttr]
    simp [atF, hr]
  | true =>
    obtain ⟨r1, r2, c1, c2, hn⟩ := right_spec hr
    simp -implicitDefEqProofs only [rkA, rkB, stepA, valA, simprocAttr]
    repeat' (refine gB_dec ?_ ?_ <;> intro hc <;> first | (exfalso; omega) | simp -implicitDefEqProofs only [hc, rkA, rkB, stepA, valA, simprocAttr])
    · rw [show atF r c l i k = ⟨0, 0, false⟩ from if_neg (fun ⟨_, _, _, _, _⟩ => by omega)]
    · rw [show atF r c l i k = ⟨0, 0, false⟩ from if_neg (fun ⟨_, _, _, _, _⟩ => by omega)]
    · rw [show atF r c l i k = ⟨0, 0, false⟩ from if_neg (fun ⟨_, _, _, _, _⟩ => by omega)]
    · rw [show atF r c l i k = ⟨0, 0, false⟩ from if_neg (fun ⟨_, _, _, _, _⟩ => by omega)]
    · obtain ⟨b1, b2, b3, b4, b5⟩ := at_bound (i := i) (k := k) r2 ⟨c1, c2⟩ (by omega) (by omega)
      have w1 := wrapped (x := i * c) (by omega) (by omega)
      have w2 := wrapped (x := i * c + k) (by omega) (by omega)
      have hlt : (i * c + k).toNat < l.length := by omega
      have hg : (frs l)[(i * c + k).toNat]? = some (frV l[(i * c + k).toNat]) := by simp [hlt]
      have ha : atF r c l i k = l[(i * c + k).toNat] := by
        unfold atF
        rw [if_pos ⟨hr, by omega, by omega, by omega, by omega⟩, List.getD_eq_getElem?_getD, List.getElem?_eq_getElem hlt]
        rfl
      simp -implicitDefEqProofs only [w1, w2, b2, hg, ha, rkA, rkB, stepA, valA, simprocAttr]
end Go.Proofs.YtbflmeomkfjikaaGreat.A


set_option linter.unusedVariables false
set_option linter.unusedSimpArgs false
set_option maxRecDepth 100000
namespace Go.Proofs.YtbflmeomkfjikaaGreat.A
open Go Go.RowKit Go.Shelf

theorem methAdd : Meth Tryz.prog 32 "Add" 210 := by
  intro v xs w
  rfl
theorem methMul : Meth Tryz.prog 32 "Mul" 213 := by
  intro v xs w
  rfl

def sumF (l : List Fr) : Fr := l.foldl addF (newF 0 1)

theorem ok129 (ex : Bool) (l : List Fr) (h : l.length ≤ 5864062014805) : Ok Tryz.prog 129 [.sl ex (frs l)] (frV (sumF l)) := by
  refine ok_fn mixed Tryz.func129 (code := ?_) (h := h129) ?_ k129 ?_
  rotate_left
  · exact rfl
  unfold h129 initS
  simp -implicitDefEqProofs only [rkA, rkB, stepA, valA, simprocAttr, Tryz.ntmps129, Tryz.results129]
  refine call_meth rfl rfl methOf (ok215 ⟨0, 0, false⟩ 0) ?_
  simp -implicitDefEqProofs only [rkA, rkB, stepA, valA, simprocAttr]
  refine wp_loop (fun m s => ∃ i, i + m = l.length ∧ s = ⟨[jk, jk, .ptr 2 0, jk, .ptr 4 0, jk, jk, jk, jk, jk, .v (.sl ex (frs l)), nt l.length, nt i, jk, jk, jk, jk, jk, jk, jk, jk, jk],
    [(2, [nt 0, nt 0, .v (tru false)]), (3, [nt 0, nt 0, .v (tru false)]), (4, [nt (sumF (l.take i)).n, nt (sumF (l.take i)).d, .v (tru (sumF (l.take i)).bad)])], [], [], [], 0, nomem⟩) l.length ?_ ?_
  · simp -implicitDefEqProofs only [rkA, rkB, stepA, valA, simprocAttr]
    refine ⟨0, by simp, ?_⟩
    simp [sumF]
  rintro m s ⟨i, hi, rfl⟩
  simp -implicitDefEqProofs only [rkA, rkB, stepA, valA, simprocAttr]
  refine gB_dec ?_ ?_ <;> intro hc <;> simp -implicitDefEqProofs only [hc, rkA, rkB, stepA, valA, simprocAttr]
  · have hlt : i < l.length := by omega
    have h0 : (0 : Int) ≤ (i : Int) := by omega
    have hg : (frs l)[i]? = some (frV l[i]) := by simp [hlt]
    simp -implicitDefEqProofs only [h0, Int.toNat_natCast, hg, rkA, rkB, stepA, valA, simprocAttr]
    refine call_meth rfl rfl methAdd (ok210 (sumF (l.take i)) l[i]) ?_
    have hw := wrapped (x := (i : Int) + 1) (by omega) (by omega)
    simp -implicitDefEqProofs only [hw, rkA, rkB, stepA, valA, simprocAttr]
    refine loopK_of (m' := m - 1) (by omega) ?_
    simp -implicitDefEqProofs only [rkA, rkB, stepA, valA, simprocAttr]
    refine ⟨i + 1, by omega, ?_⟩
    have e : sumF (l.take (i + 1)) = addF (sumF (l.take i)) l[i] := by
      unfold sumF
      rw [List.take_succ_eq_append_getElem hlt, List.foldl_append]
      rfl
    rw [e]
    simp only [Int.natCast_add, Int.natCast_one]
  · have : l.length ≤ i := by omega
    rw [List.take_of_length_le this]

theorem ok131 (a b : Fr) : Ok Tryz.prog 131 [frV a, frV b] (frV (mulF a b)) := by
  refine ok_fn mixed Tryz.func131 (code := ?_) (h := h131) ?_ k131 ?_
  rotate_left
  · exact rfl
  unfold h131 initS
  simp -implicitDefEqProofs only [rkA, rkB, stepA, valA, simprocAttr, Tryz.ntmps131, Tryz.results131]
  refine call_meth rfl rfl methMul (ok213 a b) ?_
  simp -implicitDefEqProofs only [rkA, rkB, stepA, valA, simprocAttr]

theorem sl_frs {ex : Bool} {l : List Fr} {a b : Nat} (h1 : a ≤ b) (h2 : b ≤ l.length) : sliceA 3 (frs l) ex (some a) (some b) none = some (.sl (exA none ex b (frs l).length) (frs ((l.take b).drop a))) := by
  unfold sliceA
  simp only [Option.getD_some]
  rw [if_pos ⟨h1, by simpa using h2, by simp, by simp [PV.cells]⟩]
  simp

/-- A row. -/
def rowF (r c : Int) (l : List Fr) (i : Int) : List Fr := if right r c l.length = true ∧ 0 ≤ i ∧ i < r then (l.take ((i + 1) * c).toNat).drop (i * c).toNat else []

theorem ok151 (ex : Bool) (r c i : Int) (l : List Fr) : Ok Tryz.prog 151 [matV ex r c (frs l), num i] (.sl false (frs (rowF r c l i))) := by
  refine ok_fn mixed Tryz.func151 (code := ?_) (h := h151) ?_ k151 ?_
  rotate_left
  · exact rfl
  unfold h151 initS
  simp -implicitDefEqProofs only [rkA, rkB, stepA, valA, simprocAttr, Tryz.ntmps151, Tryz.results151]
  refine call_fn rfl rfl rfl (ok100 ex r c (frs l)) ?_
  have e : (frs l).length = l.length := by simp
  rw [e]
  cases hr : right r c l.length with
  | false =>
    simp -implicitDefEqProofs only [rkA, rkB, stepA, valA, simprocAttr]
    simp [rowF, hr]
  | true =>
    obtain ⟨r1, r2, c1, c2, hn⟩ := right_spec hr
    simp -implicitDefEqProofs only [rkA, rkB, stepA, valA, simprocAttr]
    repeat' (refine gB_dec ?_ ?_ <;> intro hc <;> first | (exfalso; omega) | simp -implicitDefEqProofs only [hc, rkA, rkB, stepA, valA, simprocAttr])
    · rw [show rowF r c l i = [] from if_neg (fun ⟨_, _, _⟩ => by omega)]; rfl
    · rw [show rowF r c l i = [] from if_neg (fun ⟨_, _, _⟩ => by omega)]; rfl
    · obtain ⟨b1, b2, b3, b4, b5⟩ := at_bound (i := i) (k := 0) r2 ⟨c1, c2⟩ (by omega) (by omega)
      have b6 : (i + 1) * c = i * c + c := by rw [Int.add_mul, Int.one_mul]
      have b7 : (i + 1) * c ≤ r * c := Int.mul_le_mul_of_nonneg_right (by omega) (by omega)
      have w1 := wrapped (x := i * c) (by omega) (by omega)
      have w2 := wrapped (x := i + 1) (by omega) (by omega)
      have w3 := wrapped (x := (i + 1) * c) (by omega) (by omega)
      have h3 : 0 ≤ (i + 1) * c := by omega
      have hs := sl_frs (ex := ex) (l := l) (a := (i * c).toNat) (b := ((i + 1) * c).toNat) (by omega) (by omega)
      have hrow : rowF r c l i = (l.take ((i + 1) * c).toNat).drop (i * c).toNat := if_pos ⟨hr, by omega, by omega⟩
      rw [hrow]
      simp -implicitDefEqProofs only [w1, w2, w3, b1, h3, hs, rkA, rkB, stepA, valA, simprocAttr]
      refine call_fn rfl rfl rfl (ok109 _ _ (by simp; omega)) ?_
      simp -implicitDefEqProofs only [rkA, rkB, stepA, valA, simprocAttr]
end Go.Proofs.YtbflmeomkfjikaaGreat.A


set_option linter.unusedVariables false
set_option linter.unusedSimpArgs false
set_option maxRecDepth 100000
namespace Go.Proofs.YtbflmeomkfjikaaGreat.A
open Go Go.RowKit Go.Shelf

def rowsF (r c : Int) (l : List Fr) : List (List PV) := if right r c l.length = true then (List.range r.toNat).map fun (i : Nat) => [num (i : Int), .sl false (frs (rowF r c l (i : Int)))] else []

theorem it150 (ex : Bool) (r c : Int) (l : List Fr) : IterOk Tryz.prog (.fn (.func 150) [.vp [num r, num c, .sl ex (frs l)]]) (rowsF r c l) := by
  refine iter_fn mixed Tryz.func150 (code := ?_) (h := h150) ?_ k150 ?_ ?_
  rotate_left
  · exact rfl
  · exact rfl
  intro yl
  unfold h150 initS
  simp -implicitDefEqProofs only [rkA, rkB, stepA, valA, simprocAttr, Tryz.ntmps150]
  refine wp_loop (fun m s => ∃ i : Nat, i + m = (rowsF r c l).length ∧ s = ⟨[.v (.fn (.yield yl) []), .v (.vp [num r, num c, .sl ex (frs l)]), jk, nt i, jk, jk, jk, jk, jk, jk, jk, jk, jk, jk, jk, jk, jk, jk, jk, jk, jk], [], [], [], [], i, nomem⟩) (rowsF r c l).length ?_ ?_
  · simp -implicitDefEqProofs only [rkA, rkB, stepA, valA, simprocAttr]
    exact ⟨0, by simp, rfl⟩
  rintro m s ⟨i, hi, rfl⟩
  simp -implicitDefEqProofs only [rkA, rkB, stepA, valA, simprocAttr]
  refine call_fn rfl rfl rfl (ok100 ex r c (frs l)) ?_
  have e : (frs l).length = l.length := by simp
  rw [e]
  cases hr : right r c l.length with
  | false =>
    simp -implicitDefEqProofs only [rkA, rkB, stepA, valA, simprocAttr]
    have hl : (rowsF r c l).length = 0 := by simp [rowsF, hr]
    omega
  | true =>
    obtain ⟨r1, r2, c1, c2, hn⟩ := right_spec hr
    have hl : (rowsF r c l).length = r.toNat := by simp [rowsF, hr]
    simp -implicitDefEqProofs only [rkA, rkB, stepA, valA, simprocAttr]
    refine gB_dec ?_ ?_ <;> intro hc <;> simp -implicitDefEqProofs only [hc, rkA, rkB, stepA, valA, simprocAttr]
    · refine call_fn rfl rfl rfl (ok151 ex r c i l) ?_
      simp -implicitDefEqProofs only [rkA, rkB, stepA, valA, simprocAttr]
      have hx : (rowsF r c l)[i]? = some [num (i : Int), .sl false (frs (rowF r c l i))] := by
        have : i < r.toNat := by omega
        simp [rowsF, hr, this]
      have hw := wrapped (x := (i : Int) + 1) (by omega) (by omega)
      refine call_yield rfl rfl rfl rfl rfl hx ?_ ?_
      · simp -implicitDefEqProofs only [hw, rkA, rkB, stepA, valA, simprocAttr]
        refine loopK_of (m' := m - 1) (by omega) ?_
        simp -implicitDefEqProofs only [rkA, rkB, stepA, valA, simprocAttr]
        exact ⟨i + 1, by omega, by simp only [Int.natCast_add, Int.natCast_one]⟩
      · simp -implicitDefEqProofs only [rkA, rkB, stepA, valA, simprocAttr]
        exact .inr trivial
    · omega

theorem ok98 (ex : Bool) (r c : Int) (l : List Fr) : Ok Tryz.prog 98 [matV ex r c (frs l)] (.fn (.func 150) [.vp [num r, num c, .sl ex (frs l)]]) := by
  refine ok_fn mixed Tryz.func98 (code := ?_) (h := h98) ?_ k98 ?_
  rotate_left
  · exact rfl
  unfold h98 initS
  simp -implicitDefEqProofs only [rkA, rkB, stepA, valA, simprocAttr, Tryz.ntmps98, Tryz.results98]

/-! ### Pairs -/
def pairsF (a b : List Fr) : List (List PV) := (List.zip a b).map fun p => [frV p.1, frV p.2]

theorem it181 (ea eb : Bool) (a b : List Fr) (ha : a.length ≤ 5864062014805) (hb : b.length ≤ 5864062014805) : IterOk Tryz.prog (.fn (.func 181) [.vp [.sl ea (frs a)], .vp [.sl eb (frs b)]]) (pairsF a b) := by
  refine iter_fn mixed Tryz.func181 (code := ?_) (h := h181) ?_ k181 ?_ ?_
  rotate_left
  · exact rfl
  · exact rfl
  intro yl
  unfold h181 initS
  simp -implicitDefEqProofs only [rkA, rkB, stepA, valA, simprocAttr, Tryz.ntmps181]
  have hl : (pairsF a b).length = min a.length b.length := by simp [pairsF]
  have hx0 : ∀ (i : Nat) (ha : i < a.length) (hb : i < b.length), (pairsF a b)[i]? = some [frV a[i], frV b[i]] := fun i h1 h2 => by
    rw [pairsF, List.getElem?_map, List.getElem?_eq_getElem (by simp; omega), Option.map_some, List.getElem_zip]
  have hmin : (if ((frs b).length : Int) < ((frs a).length : Int) then ((frs b).length : Int) else ((frs a).length : Int)) = ((min a.length b.length : Nat) : Int) := by
    simp only [List.length_map]
    split <;> omega
  simp only [hmin]
  refine wp_loop (fun m s => ∃ i : Nat, i + m = (pairsF a b).length ∧ s = ⟨[.v (.fn (.yield yl) []), .v (.vp [.sl ea (frs a)]), .v (.vp [.sl eb (frs b)]), jk, jk, jk, jk, jk, jk, nt ((min a.length b.length : Nat) : Int), nt i, jk, jk, jk, jk, jk, jk, jk, jk, jk, jk, jk, jk, jk, jk], [], [], [], [], i, nomem⟩) (pairsF a b).length ?_ ?_
  · simp -implicitDefEqProofs only [rkA, rkB, stepA, valA, simprocAttr]
    exact ⟨0, by simp, rfl⟩
  rintro m s ⟨i, hi, rfl⟩
  simp -implicitDefEqProofs only [rkA, rkB, stepA, valA, simprocAttr]
  refine gB_dec ?_ ?_ <;> intro hc <;> simp -implicitDefEqProofs only [hc, rkA, rkB, stepA, valA, simprocAttr]
  · have h1 : i < a.length := by omega
    have h2 : i < b.length := by omega
    have h0 : (0 : Int) ≤ (i : Int) := by omega
    have g1 : (frs a)[i]? = some (frV a[i]) := by simp [h1]
    have g2 : (frs b)[i]? = some (frV b[i]) := by simp [h2]
    simp -implicitDefEqProofs only [h0, Int.toNat_natCast, g1, g2, rkA, rkB, stepA, valA, simprocAttr]
    have hw := wrapped (x := (i : Int) + 1) (by omega) (by omega)
    refine call_yield rfl rfl rfl rfl rfl (hx0 i h1 h2) ?_ ?_
    · simp -implicitDefEqProofs only [hw, rkA, rkB, stepA, valA, simprocAttr]
      refine loopK_of (m' := m - 1) (by omega) ?_
      simp -implicitDefEqProofs only [rkA, rkB, stepA, valA, simprocAttr]
      exact ⟨i + 1, by omega, by simp only [Int.natCast_add, Int.natCast_one]⟩
    · simp -implicitDefEqProofs only [rkA, rkB, stepA, valA, simprocAttr]
      exact .inr trivial
  · omega

theorem ok167 (ea eb : Bool) (a b : List Fr) : Ok Tryz.prog 167 [.sl ea (frs a), .sl eb (frs b)] (.fn (.func 181) [.vp [.sl ea (frs a)], .vp [.sl eb (frs b)]]) := by
  refine ok_fn mixed Tryz.func167 (code := ?_) (h := h167) ?_ k167 ?_
  rotate_left
  · exact rfl
  unfold h167 initS
  simp -implicitDefEqProofs only [rkA, rkB, stepA, valA, simprocAttr, Tryz.ntmps167, Tryz.results167]
end Go.Proofs.YtbflmeomkfjikaaGreat.A


set_option linter.unusedVariables false
set_option linter.unusedSimpArgs false
set_option maxRecDepth 100000
namespace Go.Proofs.YtbflmeomkfjikaaGreat.A
open Go Go.RowKit Go.Shelf

theorem ok130 (k : Nat) (F : Fr → Fr → Fr) (hF : ∀ x y, Ok Tryz.prog k [frV x, frV y] (frV (F x y))) (ea eb : Bool) (a b : List Fr) (ha : a.length ≤ 5864062014805) (hb : b.length ≤ 5864062014805) :
    Ok Tryz.prog 130 [.sl ea (frs a), .sl eb (frs b), .fn (.func k) []] (.sl false (frs (List.zipWith F a b))) := by
  refine ok_fn mixed Tryz.func130 (code := ?_) (h := h130) ?_ k130 ?_
  rotate_left
  · exact rfl
  unfold h130 initS
  simp -implicitDefEqProofs only [rkA, rkB, stepA, valA, simprocAttr, Tryz.ntmps130, Tryz.results130]
  refine call_fn rfl rfl rfl (ok167 ea eb a b) ?_
  simp -implicitDefEqProofs only [rkA, rkB, stepA, valA, simprocAttr]
  have hlz : (List.zipWith F a b).length = min a.length b.length := by simp
  have hpl : (pairsF a b).length = min a.length b.length := by simp [pairsF]
  refine wp_rf (items := pairsF a b) rfl (it181 ea eb a b ha hb) (fun i s => i ≤ (pairsF a b).length ∧ s = ⟨[], [(5, [.v (.fn (.func k) [])]), (7, [.acc 1007 (frs ((List.zipWith F a b).take i))])], [], [(6, 0), (1007, i)],
    [[.v (.sl ea (frs a)), .v (.sl eb (frs b)), .v (.fn (.func k) []), jk, jk, .ptr 5 0, .acc 6 [], .ptr 7 0, jk, jk, .v (.sl ea (frs a)), .v (.sl eb (frs b)), .v (.fn (.func 181) [.vp [.sl ea (frs a)], .vp [.sl eb (frs b)]]), jk, jk, jk, jk, jk, jk, jk, jk, jk, jk]], 0, nomem⟩) ?_ ?_ ?_
  · simp -implicitDefEqProofs only [rkA, rkB, stepA, valA, simprocAttr]
    exact Nat.zero_le _
  · rintro i x' s' R hx ⟨hi, rfl⟩ hR
    have hlt : i < (pairsF a b).length := (List.getElem?_eq_some_iff.1 hx).1
    have h1 : i < a.length := by omega
    have h2 : i < b.length := by omega
    have hx' : x' = [frV a[i], frV b[i]] := by
      rw [pairsF, List.getElem?_map, List.getElem?_eq_getElem (by simp; omega), Option.map_some, List.getElem_zip] at hx
      exact (Option.some.inj hx).symm
    subst hx'
    refine ⟨rfl, ?_⟩
    simp -implicitDefEqProofs only [rkA, rkB, stepA, valA, simprocAttr]
    refine call_fn rfl rfl rfl (hF a[i] b[i]) ?_
    have hfit : fits 3 24 (frs ((List.zipWith F a b).take i)) [frV (F a[i] b[i])] = true := fits_frs (l := [F a[i] b[i]]) (by simp; omega)
    have hl : (frs ((List.zipWith F a b).take i)).length = i := by simp; omega
    simp -implicitDefEqProofs only [hfit, hl, rkA, rkB, stepA, valA, simprocAttr]
    refine hR _ ⟨by omega, ?_⟩
    rw [List.take_succ_eq_append_getElem (by simp; omega)]
    simp only [frs, List.map_append, List.map_cons, List.map_nil, List.getElem_zipWith]
  · rintro s' ⟨hi, rfl⟩
    simp -implicitDefEqProofs only [rkA, rkB, stepA, valA, simprocAttr]
    rw [List.take_of_length_le (by simp; omega)]

def dotF (a b : List Fr) : Fr := sumF (List.zipWith mulF a b)

theorem ok76 (ea eb : Bool) (a b : List Fr) (ha : a.length ≤ 5864062014805) (hb : b.length ≤ 5864062014805) : Ok Tryz.prog 76 [.sl ea (frs a), .sl eb (frs b)] (frV (dotF a b)) := by
  refine ok_fn mixed Tryz.func76 (code := ?_) (h := h76) ?_ k76 ?_
  rotate_left
  · exact rfl
  unfold h76 initS
  simp -implicitDefEqProofs only [rkA, rkB, stepA, valA, simprocAttr, Tryz.ntmps76, Tryz.results76]
  refine call_fn rfl rfl rfl (ok130 131 mulF ok131 ea eb a b ha hb) ?_
  simp -implicitDefEqProofs only [rkA, rkB, stepA, valA, simprocAttr]
  refine call_fn rfl rfl rfl (ok129 false (List.zipWith mulF a b) (by simp; omega)) ?_
  simp -implicitDefEqProofs only [rkA, rkB, stepA, valA, simprocAttr, dotF]

/-- A matrix, turned. -/
def turnF (r c : Int) (l : List Fr) : List Fr := if right r c l.length = true then (List.range c.toNat).flatMap fun (k : Nat) => (List.range r.toNat).map fun (i : Nat) => atF r c l i k else []

/-- Of a turned matrix, what is told so far. -/
def turnP (r c : Int) (l : List Fr) (k i : Nat) : List Fr := (List.range k).flatMap (fun (k : Nat) => (List.range r.toNat).map fun (i : Nat) => atF r c l i k) ++ (List.range i).map fun (i : Nat) => atF r c l i k
theorem turnP_succ (r c : Int) (l : List Fr) (k i : Nat) : turnP r c l k (i + 1) = turnP r c l k i ++ [atF r c l i k] := by
  simp [turnP, List.range_succ]
theorem turnP_next (r c : Int) (l : List Fr) (k : Nat) : turnP r c l k r.toNat = turnP r c l (k + 1) 0 := by
  simp [turnP, List.range_succ]
theorem turnP_length (r c : Int) (l : List Fr) (k i : Nat) : (turnP r c l k i).length = k * r.toNat + i := by
  simp [turnP, List.length_flatMap, List.map_const', List.sum_replicate_nat]

theorem ok119 (ex : Bool) (r c : Int) (l : List Fr) : Ok Tryz.prog 119 [matV ex r c (frs l)] (if right r c l.length = true then matV false c r (frs (turnF r c l)) else matNil) := by
  refine ok_fn mixed Tryz.func119 (code := ?_) (h := h119) ?_ k119 ?_
  rotate_left
  · exact rfl
  unfold h119 initS
  simp -implicitDefEqProofs only [rkA, rkB, stepA, valA, simprocAttr, Tryz.ntmps119, Tryz.results119]
  refine call_fn rfl rfl rfl (ok100 ex r c (frs l)) ?_
  have e : (frs l).length = l.length := by simp
  rw [e]
  cases hr : right r c l.length with
  | false => simp -implicitDefEqProofs only [rkA, rkB, stepA, valA, simprocAttr]
  | true =>
    obtain ⟨r1, r2, c1, c2, hn⟩ := right_spec hr
    simp -implicitDefEqProofs only [rkA, rkB, stepA, valA, simprocAttr]
    refine wp_loop (fun m s => ∃ k : Nat, k + m = c.toNat ∧ s = ⟨[jk, .ptr 1 0, .ptr 2 0, .ptr 3 0, jk, jk, jk, jk, jk, jk, jk, jk, jk, jk, jk, jk, .v (num c), nt k, jk, jk, jk, jk, jk, jk, jk, jk, jk, jk, jk, jk, jk, jk, jk, jk, jk, jk, jk], [(1, [.v (num r), .v (num c), .v (.sl ex (frs l))]), (2, [nt 0, nt 0, .acc 3002 []]), (3, [nt c, nt r, .acc 15003 (frs (turnP r c l k 0))])], [],
      [(3002, 0), (3003, 0), (15003, (turnP r c l k 0).length)], [], 0, nomem⟩) c.toNat ?_ ?_
    · simp -implicitDefEqProofs only [rkA, rkB, stepA, valA, simprocAttr]
      exact ⟨0, by simp, rfl⟩
    rintro m s ⟨k, hk, rfl⟩
    simp -implicitDefEqProofs only [rkA, rkB, stepA, valA, simprocAttr]
    refine gB_dec ?_ ?_ <;> intro hc <;> simp -implicitDefEqProofs only [hc, rkA, rkB, stepA, valA, simprocAttr]
    · refine wp_loop (fun m s => ∃ i : Nat, i + m = r.toNat ∧ s = ⟨[jk, .ptr 1 0, .ptr 2 0, .ptr 3 0, nt k, jk, jk, jk, jk, jk, jk, jk, jk, jk, jk, jk, .v (num c), nt k, jk, jk, jk, nt r, nt i, jk, jk, jk, jk, jk, jk, jk, jk, jk, jk, jk, jk, jk, jk], [(1, [.v (num r), .v (num c), .v (.sl ex (frs l))]), (2, [nt 0, nt 0, .acc 3002 []]), (3, [nt c, nt r, .acc 15003 (frs (turnP r c l k i))])], [],
        [(3002, 0), (3003, 0), (15003, (turnP r c l k i).length)], [], 0, nomem⟩) r.toNat ?_ ?_
      · simp -implicitDefEqProofs only [rkA, rkB, stepA, valA, simprocAttr]
        exact ⟨0, by simp, rfl⟩
      rintro m' s ⟨i, hi, rfl⟩
      simp -implicitDefEqProofs only [rkA, rkB, stepA, valA, simprocAttr]
      have hlen := turnP_length r c l k i
      have hb : k * r.toNat + i ≤ 256 := by
        have : (k + 1) * r.toNat ≤ 16 * 16 := Nat.mul_le_mul (by omega) (by omega)
        rw [Nat.add_mul] at this
        omega
      refine gB_dec ?_ ?_ <;> intro hc2 <;> simp -implicitDefEqProofs only [hc2, rkA, rkB, stepA, valA, simprocAttr]
      · refine call_fn rfl rfl rfl (ok75 ex r c i k l) ?_
        have hfit : fits 3 24 (frs (turnP r c l k i)) [frV (atF r c l i k)] = true := fits_frs (l := [atF r c l i k]) (by simp only [List.length_cons, List.length_nil]; omega)
        have hl : (frs (turnP r c l k i)).length = (turnP r c l k i).length := by simp
        have hw := wrapped (x := (i : Int) + 1) (by omega) (by omega)
        simp -implicitDefEqProofs only [hfit, hl, hw, rkA, rkB, stepA, valA, simprocAttr]
        refine loopK_of (m' := m' - 1) (by omega) ?_
        simp -implicitDefEqProofs only [rkA, rkB, stepA, valA, simprocAttr]
        refine ⟨i + 1, by omega, ?_⟩
        rw [turnP_succ]
        simp only [frs, List.map_append, List.map_cons, List.map_nil, List.length_append, List.length_cons, List.length_nil, Int.natCast_add, Int.natCast_one]
      · have hw := wrapped (x := (k : Int) + 1) (by omega) (by omega)
        simp -implicitDefEqProofs only [hw, rkA, rkB, stepA, valA, simprocAttr]
        refine loopK_of (m' := m - 1) (by omega) ?_
        simp -implicitDefEqProofs only [rkA, rkB, stepA, valA, simprocAttr]
        refine ⟨k + 1, by omega, ?_⟩
        have hi2 : i = r.toNat := by omega
        rw [hi2, turnP_next]
        simp only [Int.natCast_add, Int.natCast_one]
    · have hk2 : k = c.toNat := by omega
      have : turnF r c l = turnP r c l k 0 := by
        rw [hk2]
        simp [turnF, hr, turnP]
      rw [this]
end Go.Proofs.YtbflmeomkfjikaaGreat.A


set_option linter.unusedVariables false
set_option linter.unusedSimpArgs false
set_option maxRecDepth 100000
namespace Go.Proofs.YtbflmeomkfjikaaGreat.A
open Go Go.RowKit Go.Shelf

theorem turnF_length {r c : Int} {l : List Fr} (h : right r c l.length = true) : (turnF r c l).length = c.toNat * r.toNat := by
  have : turnF r c l = turnP r c l c.toNat 0 := by simp [turnF, h, turnP]
  rw [this, turnP_length, Nat.add_zero]

theorem right_turn {r c : Int} {l : List Fr} (h : right r c l.length = true) : right c r (turnF r c l).length = true := by
  obtain ⟨r1, r2, c1, c2, hn⟩ := right_spec h
  rw [turnF_length h]
  simp only [right, Bool.and_eq_true, decide_eq_true_eq, beq_iff_eq]
  refine ⟨by omega, by omega, ?_⟩
  rw [Int.natCast_mul, Int.toNat_of_nonneg (by omega), Int.toNat_of_nonneg (by omega)]

section
variable {α β : Type} (f : α → α → β)
/-- A product, the rows given: what stands so far. -/
def prodP (xs ys : List α) (i k : Nat) : List β := (xs.take i).flatMap (fun x => ys.map (f x)) ++ (match xs[i]? with | some x => (ys.take k).map (f x) | none => [])
theorem prodP_succ {xs ys : List α} {i k : Nat} {x y : α} (hx : xs[i]? = some x) (hy : ys[k]? = some y) : prodP f xs ys i (k + 1) = prodP f xs ys i k ++ [f x y] := by
  obtain ⟨hk, rfl⟩ := List.getElem?_eq_some_iff.1 hy
  simp only [prodP, hx, List.take_succ_eq_append_getElem hk, List.map_append, List.map_cons, List.map_nil, List.append_assoc]
theorem prodP_zero (xs ys : List α) (i : Nat) : prodP f xs ys i 0 = (xs.take i).flatMap (fun x => ys.map (f x)) := by
  unfold prodP
  cases xs[i]? <;> simp
theorem prodP_next {xs ys : List α} {i : Nat} (hi : i < xs.length) : prodP f xs ys i ys.length = prodP f xs ys (i + 1) 0 := by
  rw [prodP_zero, List.take_succ_eq_append_getElem hi, prodP, List.getElem?_eq_getElem hi]
  simp only [List.take_length, List.flatMap_append, List.flatMap_cons, List.flatMap_nil, List.append_nil]
theorem prodP_length {xs ys : List α} {i k : Nat} (hi : i < xs.length) (hk : k ≤ ys.length) : (prodP f xs ys i k).length = i * ys.length + k := by
  rw [prodP, List.getElem?_eq_getElem hi]
  simp [List.length_flatMap, List.map_const', List.sum_replicate_nat, Nat.min_eq_left (Nat.le_of_lt hi), Nat.min_eq_left hk]
end

/-- All rows. -/
def allF (r c : Int) (l : List Fr) : List (List Fr) := (List.range r.toNat).map fun (i : Nat) => rowF r c l (i : Int)
def prodF (r m c : Int) (a b : List Fr) : List Fr := (allF r m a).flatMap fun x => (allF c m (turnF m c b)).map (dotF x)

theorem allF_length (r c : Int) (l : List Fr) : (allF r c l).length = r.toNat := by simp [allF]
theorem rowsF_all {r c : Int} {l : List Fr} (h : right r c l.length = true) {i : Nat} {x : List PV} (hx : (rowsF r c l)[i]? = some x) : i < r.toNat ∧ x = [num i, .sl false (frs (rowF r c l i))] ∧ (allF r c l)[i]? = some (rowF r c l i) := by
  obtain ⟨hi, rfl⟩ := List.getElem?_eq_some_iff.1 hx
  have hi' : i < r.toNat := by simpa [rowsF, h] using hi
  refine ⟨hi', by simp [rowsF, h], by simp [allF, hi']⟩
theorem rowsF_length {r c : Int} {l : List Fr} (h : right r c l.length = true) : (rowsF r c l).length = r.toNat := by simp [rowsF, h]
theorem rowF_length {r c : Int} {l : List Fr} (i : Int) : (rowF r c l i).length ≤ l.length := by
  unfold rowF
  split <;> simp <;> omega

theorem ok125 (ea eb : Bool) (r m m2 c : Int) (a b : List Fr) : Ok Tryz.prog 125 [matV ea r m (frs a), matV eb m2 c (frs b)]
    (if right r m a.length = true ∧ right m2 c b.length = true ∧ m = m2 then .tup [matV false r c (frs (prodF r m c a b)), tru true] else .tup [matNil, tru false]) := by
  refine ok_fn mixed Tryz.func125 (code := ?_) (h := h125) ?_ k125 ?_
  rotate_left
  · exact rfl
  unfold h125 initS
  simp -implicitDefEqProofs only [rkA, rkB, stepA, valA, simprocAttr, Tryz.ntmps125, Tryz.results125]
  refine call_fn rfl rfl rfl (ok100 ea r m (frs a)) ?_
  have e : (frs a).length = a.length := by simp
  have e' : (frs b).length = b.length := by simp
  rw [e]
  cases hr : right r m a.length with
  | false =>
    simp -implicitDefEqProofs only [rkA, rkB, stepA, valA, simprocAttr]
  | true =>
    simp -implicitDefEqProofs only [rkA, rkB, stepA, valA, simprocAttr]
    refine call_fn rfl rfl rfl (ok100 eb m2 c (frs b)) ?_
    rw [e']
    cases hr2 : right m2 c b.length with
    | false => simp -implicitDefEqProofs only [rkA, rkB, stepA, valA, simprocAttr]
    | true =>
      obtain ⟨r1, r2, c1, c2, hn⟩ := right_spec hr
      obtain ⟨m1, m3, d1, d2, hn2⟩ := right_spec hr2
      simp -implicitDefEqProofs only [rkA, rkB, stepA, valA, simprocAttr]
      refine gB_bool ?_ ?_ <;> intro hb
      · have hm : m ≠ m2 := by simpa using hb
        simp -implicitDefEqProofs only [hm, rkA, rkB, stepA, valA, simprocAttr]
      · have hm : m = m2 := by simpa using hb
        clear hb
        subst hm
        simp -implicitDefEqProofs only [rkA, rkB, stepA, valA, simprocAttr]
        have h25 := ok119 eb m c b
        rw [if_pos hr2] at h25
        refine call_fn rfl rfl rfl (h25) ?_
        simp -implicitDefEqProofs only [rkA, rkB, stepA, valA, simprocAttr]
        refine call_fn rfl rfl rfl (ok98 ea r m a) ?_
        simp -implicitDefEqProofs only [rkA, rkB, stepA, valA, simprocAttr]
        have hrt := right_turn hr2
        have hpl : ∀ i k, i < r.toNat → k ≤ c.toNat → (prodP dotF (allF r m a) (allF c m (turnF m c b)) i k).length = i * c.toNat + k := fun i k hi hk => by
          rw [prodP_length dotF (by rw [allF_length]; exact hi) (by rw [allF_length]; exact hk), allF_length]
        have hbig : ∀ i k, i < r.toNat → k ≤ c.toNat → i * c.toNat + k ≤ 256 := fun i k hi hk => by
          have : (i + 1) * c.toNat ≤ 16 * 16 := Nat.mul_le_mul (by omega) (by omega)
          rw [Nat.add_mul] at this
          omega
        have hal : a.length ≤ 256 := by
          have : r * m ≤ 16 * 16 := Int.mul_le_mul r2 c2 (by omega) (by omega)
          omega
        have hbl : (turnF m c b).length ≤ 256 := by
          have h1 := turnF_length hr2
          have : c.toNat * m.toNat ≤ 16 * 16 := Nat.mul_le_mul (by omega) (by omega)
          omega
        refine wp_rf' (items := rowsF r m a) rfl (it150 ea r m a) (fun sv i s => i ≤ r.toNat ∧ s = ⟨[], [(2, [nt r, nt m, .v (.sl ea (frs a))]), (3, [nt m, nt c, .v (.sl eb (frs b))]), (4, [nt 0, nt 0, .acc 3004 []]), (6, [nt r, nt c, .acc 15006 (frs (prodP dotF (allF r m a) (allF c m (turnF m c b)) i 0))]),
          (7, [nt c, nt m, .v (.sl false (frs (turnF m c b)))])], [], [(1009, 0), (3004, 0), (3006, 0), (3007, 0), (15006, (prodP dotF (allF r m a) (allF c m (turnF m c b)) i 0).length)], sv, 0, nomem⟩) ?_ ?_ ?_
        · simp -implicitDefEqProofs only [rkA, rkB, stepA, valA, simprocAttr]
          exact ⟨Nat.zero_le _, by rw [prodP_zero]; exact rfl⟩
        · rintro i x' s' R hx ⟨hi, rfl⟩ hR
          obtain ⟨hlt, rfl, hxi⟩ := rowsF_all hr hx
          refine ⟨rfl, ?_⟩
          simp -implicitDefEqProofs only [rkA, rkB, stepA, valA, simprocAttr]
          refine call_fn rfl rfl rfl (ok98 false c m (turnF m c b)) ?_
          simp -implicitDefEqProofs only [rkA, rkB, stepA, valA, simprocAttr]
          refine wp_rf' (items := rowsF c m (turnF m c b)) rfl (it150 false c m (turnF m c b)) (fun sv k s => k ≤ c.toNat ∧ s = ⟨[], [(2, [nt r, nt m, .v (.sl ea (frs a))]), (3, [nt m, nt c, .v (.sl eb (frs b))]), (4, [nt 0, nt 0, .acc 3004 []]), (6, [nt r, nt c, .acc 15006 (frs (prodP dotF (allF r m a) (allF c m (turnF m c b)) i k))]),
            (7, [nt c, nt m, .v (.sl false (frs (turnF m c b)))]), (9, [.v (.sl false (frs (rowF r m a i)))])], [], [(1009, 0), (3004, 0), (3006, 0), (3007, 0), (15006, (prodP dotF (allF r m a) (allF c m (turnF m c b)) i k).length)], sv, 0, nomem⟩) ?_ ?_ ?_
          · simp -implicitDefEqProofs only [rkA, rkB, stepA, valA, simprocAttr]
            exact Nat.zero_le _
          · rintro k x' s' R2 hx2 ⟨hk, rfl⟩ hR2
            obtain ⟨hlt2, rfl, hyk⟩ := rowsF_all hrt hx2
            refine ⟨rfl, ?_⟩
            simp -implicitDefEqProofs only [rkA, rkB, stepA, valA, simprocAttr]
            have hra := rowF_length (r := r) (c := m) (l := a) i
            have hrb := rowF_length (r := c) (c := m) (l := turnF m c b) k
            refine call_fn rfl rfl rfl (ok76 false false (rowF r m a i) (rowF c m (turnF m c b) k) (by omega) (by omega)) ?_
            have h1 := hpl i k hlt (by omega)
            have h2 := hbig i k hlt (by omega)
            have hfit : fits 3 24 (frs (prodP dotF (allF r m a) (allF c m (turnF m c b)) i k)) [frV (dotF (rowF r m a i) (rowF c m (turnF m c b) k))] = true := fits_frs (l := [dotF (rowF r m a i) (rowF c m (turnF m c b) k)]) (by simp only [List.length_cons, List.length_nil]; omega)
            have hl : (frs (prodP dotF (allF r m a) (allF c m (turnF m c b)) i k)).length = (prodP dotF (allF r m a) (allF c m (turnF m c b)) i k).length := by simp
            simp -implicitDefEqProofs only [hfit, hl, rkA, rkB, stepA, valA, simprocAttr]
            refine hR2 _ ⟨by omega, ?_⟩
            rw [prodP_succ dotF hxi hyk]
            simp only [frs, List.map_append, List.map_cons, List.map_nil, List.length_append, List.length_cons, List.length_nil]
          · rintro s' ⟨hk, rfl⟩
            simp -implicitDefEqProofs only [rkA, rkB, stepA, valA, simprocAttr]
            refine hR _ ⟨by omega, ?_⟩
            have hnx := prodP_next dotF (xs := allF r m a) (ys := allF c m (turnF m c b)) (i := i) (by rw [allF_length]; exact hlt)
            rw [allF_length] at hnx
            rw [rowsF_length hrt, hnx]
        · rintro s' ⟨hi, rfl⟩
          simp -implicitDefEqProofs only [rkA, rkB, stepA, valA, simprocAttr]
          have : prodF r m c a b = prodP dotF (allF r m a) (allF c m (turnF m c b)) (rowsF r m a).length 0 := by
            rw [prodP_zero, rowsF_length hr, ← allF_length r m a, List.take_length]
            rfl
          rw [this]
end Go.Proofs.YtbflmeomkfjikaaGreat.A


set_option linter.unusedVariables false
set_option linter.unusedSimpArgs false
set_option maxRecDepth 100000
namespace Go.Proofs.YtbflmeomkfjikaaGreat.A
open Go Go.RowKit Go.Shelf

/-- A contract for what is known better. -/
theorem Ok.args {P : Program} {f : FuncId} {xs ys : List PV} {r : PV} (k : Ok P f xs r) (h : ∀ I vs, Cs I ys vs → Cs I xs vs) : Ok P f ys r :=
  ⟨k.1, fun I w vs hg hc => k.2 I w vs hg (h I vs hc)⟩
theorem Cs.nil_of {I : Imm} {xs ys : List PV} {vs : List Value} {ex : Bool} (h : Cs I (.s (.slice none 0 0) :: xs) vs) (k : ∀ us, Cs I xs us → Cs I ys us) : Cs I (.sl ex [] :: ys) vs := by
  cases h with | cons h1 h2 => cases h1; exact .cons .sl0 (k _ h2)

theorem eq_fr (x y : Fr) : cellsEq [some .i64, some .i64, none] [num x.n, num x.d, tru x.bad] [num y.n, num y.d, tru y.bad] = some (decide (x = y)) := by
  obtain ⟨n, d, b⟩ := x
  obtain ⟨n', d', b'⟩ := y
  simp only [cellsEq, Fr.mk.injEq]
  cases b <;> cases b' <;> simp <;> rfl

end Go.Proofs.YtbflmeomkfjikaaGreat.A


set_option linter.unusedVariables false
set_option linter.unusedSimpArgs false
set_option maxRecDepth 100000
namespace Go.Proofs.YtbflmeomkfjikaaGreat.A
open Go Go.RowKit Go.Shelf

section
variable {α : Type} (g : Nat → Nat → α) (n : Nat)
/-- A table gone through row by row: what stands so far. -/
def gridP (i k : Nat) : List α := (List.range i).flatMap (fun i => (List.range n).map (g i)) ++ (List.range k).map (g i)
theorem gridP_succ (i k : Nat) : gridP g n i (k + 1) = gridP g n i k ++ [g i k] := by simp [gridP, List.range_succ]
theorem gridP_next (i : Nat) : gridP g n i n = gridP g n (i + 1) 0 := by simp [gridP, List.range_succ]
theorem gridP_length (i k : Nat) : (gridP g n i k).length = i * n + k := by simp [gridP, List.length_flatMap, List.map_const', List.sum_replicate_nat]
theorem gridP_zero (i : Nat) : gridP g n i 0 = (List.range i).flatMap (fun i => (List.range n).map (g i)) := by simp [gridP]
end

/-- The document's sum of products. -/
def dotI (a b : List Int) (many cols i k : Nat) : Nat → Int
  | 0 => 0
  | j + 1 => dotI a b many cols i k j + a.getD (i * many + j) 0 * b.getD (j * cols + k) 0
def small (a : List Int) : Prop := ∀ x ∈ a, -100 ≤ x ∧ x ≤ 100
theorem prod_small {x y : Int} (hx : -100 ≤ x ∧ x ≤ 100) (hy : -100 ≤ y ∧ y ≤ 100) : -10000 ≤ x * y ∧ x * y ≤ 10000 := by
  have h1 : (x * y).natAbs = x.natAbs * y.natAbs := Int.natAbs_mul x y
  have h2 : x.natAbs * y.natAbs ≤ 100 * 100 := Nat.mul_le_mul (by omega) (by omega)
  omega
/-- The document's product. -/
def mulI (a b : List Int) (rows many cols : Nat) : List Int := gridP (fun i k => dotI a b many cols i k many) cols rows 0

theorem fits_num {k l : List Int} (h : k.length + l.length ≤ 5864062014805) : fits 1 8 (k.map num) (l.map num) = true := by
  simp [fits, PV.cells, PV.ok, PV.cell, Value.oneCell']
  omega
theorem at_num {a : List Int} {i : Nat} (h : i < a.length) : (a.map num)[i]? = some (num (a.getD i 0)) := by
  simp [h]
theorem at_table {i j n m : Nat} (hi : i < n) (hj : j < m) : i * m + j < n * m ∧ i * m ≤ n * m := by
  have : (i + 1) * m ≤ n * m := Nat.mul_le_mul_right _ (by omega)
  rw [Nat.add_mul] at this
  omega
theorem side16 {n m : Nat} (hn : n ≤ 16) (hm : m ≤ 16) : n * m ≤ 256 := Nat.mul_le_mul hn hm

end Go.Proofs.YtbflmeomkfjikaaGreat.A


set_option linter.unusedVariables false
set_option linter.unusedSimpArgs false
namespace Go.Proofs.YtbflmeomkfjikaaGreat.A
open Go Go.RowKit Go.Shelf

theorem gridP_get {α : Type} (g : Nat → Nat → α) (n : Nat) : ∀ (N i j : Nat), i < N → j < n → (gridP g n N 0)[i * n + j]? = some (g i j)
  | 0, i, j, h, _ => by omega
  | N + 1, i, j, hi, hj => by
    have e : gridP g n (N + 1) 0 = gridP g n N 0 ++ (List.range n).map (g N) := by
      rw [← gridP_next]
      simp [gridP]
    have hl := gridP_length g n N 0
    rw [e]
    by_cases h : i < N
    · have : (i + 1) * n ≤ N * n := Nat.mul_le_mul_right _ h
      rw [Nat.add_mul] at this
      rw [List.getElem?_append_left (by omega)]
      exact gridP_get g n N i j h hj
    · have : i = N := by omega
      subst this
      rw [List.getElem?_append_right (by omega), hl]
      simp [hj]

theorem flatMap_same {α β : Type} {l : List α} {f g : α → List β} (h : ∀ x ∈ l, f x = g x) : l.flatMap f = l.flatMap g := by
  rw [List.flatMap_def, List.flatMap_def, List.map_congr_left h]

/-- A stretch of a row. -/
theorem stretch {α : Type} (l : List α) (d : α) (i n : Nat) (h : (i + 1) * n ≤ l.length) : (l.take ((i + 1) * n)).drop (i * n) = (List.range n).map fun j => l.getD (i * n + j) d := by
  have hm : (i + 1) * n = i * n + n := by rw [Nat.add_mul, Nat.one_mul]
  apply List.ext_getElem
  · simp; omega
  · intro j h1 h2
    simp at h2
    simp [List.getElem?_eq_getElem (show i * n + j < l.length by omega)]

theorem rowF_eq {r c : Int} {l : List Fr} (d : Fr) (h : right r c l.length = true) {i : Nat} (hi : i < r.toNat) : rowF r c l i = (List.range c.toNat).map fun j => l.getD (i * c.toNat + j) d := by
  obtain ⟨r1, r2, c1, c2, hn⟩ := right_spec h
  obtain ⟨R, rfl⟩ := Int.eq_ofNat_of_zero_le (show 0 ≤ r by omega)
  obtain ⟨K, rfl⟩ := Int.eq_ofNat_of_zero_le (show 0 ≤ c by omega)
  simp only [Int.toNat_natCast] at hi ⊢
  unfold rowF
  rw [if_pos ⟨h, by omega, by omega⟩]
  have e1 : (((i : Int) + 1) * (K : Int)).toNat = (i + 1) * K := by
    have : ((i : Int) + 1) * (K : Int) = (((i + 1) * K : Nat) : Int) := by simp
    rw [this, Int.toNat_natCast]
  have e2 : ((i : Int) * (K : Int)).toNat = i * K := by
    have : (i : Int) * (K : Int) = ((i * K : Nat) : Int) := by simp
    rw [this, Int.toNat_natCast]
  rw [e1, e2]
  refine stretch l d i K ?_
  have h1 : (i + 1) * K ≤ R * K := Nat.mul_le_mul_right _ hi
  have h2 : ((R * K : Nat) : Int) = (l.length : Int) := by rw [hn]; simp
  omega

theorem atF_eq {r c : Int} {l : List Fr} (h : right r c l.length = true) {i k : Nat} (hi : i < r.toNat) (hk : k < c.toNat) : atF r c l i k = l.getD (i * c.toNat + k) ⟨0, 0, false⟩ := by
  obtain ⟨r1, r2, c1, c2, hn⟩ := right_spec h
  unfold atF
  rw [if_pos ⟨h, by omega, by omega, by omega, by omega⟩]
  congr 1
  obtain ⟨K, rfl⟩ := Int.eq_ofNat_of_zero_le (show 0 ≤ c by omega)
  have : (i : Int) * (K : Int) + (k : Int) = ((i * K + k : Nat) : Int) := by simp
  rw [this, Int.toNat_natCast, Int.toNat_natCast]

theorem turnF_eq {r c : Int} {l : List Fr} (h : right r c l.length = true) : turnF r c l = gridP (fun k i => atF r c l (i : Int) (k : Int)) r.toNat c.toNat 0 := by
  rw [gridP_zero]
  simp [turnF, h]

theorem getD_newF {a : List Int} {i : Nat} (h : i < a.length) (d : Fr) : (a.map (newF · 1)).getD i d = newF (a.getD i 0) 1 := by
  simp [h]

theorem sumF_whole (f : Nat → Int) (s : Nat → Int) (h0 : s 0 = 0) (hs : ∀ j, s (j + 1) = s j + f j) (N : Nat) (hf : ∀ j, j < N → few (f j)) (hb : ∀ j, j ≤ N → few (s j)) : ∀ n, n ≤ N → sumF ((List.range n).map fun j => whole (f j)) = whole (s n)
  | 0, _ => by
    have := newF_whole (n := 0) (by unfold few; omega)
    simp [sumF, this, h0]
  | n + 1, hn => by
    have ih := sumF_whole f s h0 hs N hf hb n (by omega)
    have : sumF ((List.range (n + 1)).map fun j => whole (f j)) = addF (sumF ((List.range n).map fun j => whole (f j))) (whole (f n)) := by
      unfold sumF
      rw [List.range_succ, List.map_append, List.foldl_append]
      rfl
    rw [this, ih, addF_whole (hb n (by omega)) (hf n (by omega)) (by rw [← hs]; exact hb _ hn), ← hs]

theorem few_small {x : Int} (h : -100 ≤ x ∧ x ≤ 100) : few x := by unfold few; omega

end Go.Proofs.YtbflmeomkfjikaaGreat.A


set_option linter.unusedVariables false
set_option linter.unusedSimpArgs false
set_option maxRecDepth 100000
namespace Go.Proofs.YtbflmeomkfjikaaGreat.A
open Go Go.RowKit Go.Shelf

theorem Cs.keep {I : Imm} {x : PV} {xs ys : List PV} {vs : List Value} (h : Cs I (x :: xs) vs) (k : ∀ us, Cs I xs us → Cs I ys us) : Cs I (x :: ys) vs := by
  cases h with | cons h1 h2 => exact .cons h1 (k _ h2)
end Go.Proofs.YtbflmeomkfjikaaGreat.A


set_option linter.unusedVariables false
set_option linter.unusedSimpArgs false
set_option maxRecDepth 100000
namespace Go.Proofs.YtbflmeomkfjikaaGreat.A
open Go Go.RowKit Go.Shelf

end Go.Proofs.YtbflmeomkfjikaaGreat.A


set_option linter.unusedVariables false
set_option linter.unusedSimpArgs false
set_option maxRecDepth 100000
namespace Go.Proofs.YtbflmeomkfjikaaGreat.A
open Go Go.RowKit Go.Shelf

theorem methSub : Meth Tryz.prog 32 "Sub" 218 := by
  intro v xs w
  rfl

theorem ok161 (a b : Fr) : Ok Tryz.prog 161 [frV a, frV b] (frV (addF a b)) := by
  refine ok_fn mixed Tryz.func161 (code := ?_) (h := h161) ?_ k161 ?_
  rotate_left
  · exact rfl
  unfold h161 initS
  simp -implicitDefEqProofs only [rkA, rkB, stepA, valA, simprocAttr, Tryz.ntmps161, Tryz.results161]
  refine call_meth rfl rfl methAdd (ok210 a b) ?_
  simp -implicitDefEqProofs only [rkA, rkB, stepA, valA, simprocAttr]
theorem ok180 (a b : Fr) : Ok Tryz.prog 180 [frV a, frV b] (frV (subF a b)) := by
  refine ok_fn mixed Tryz.func180 (code := ?_) (h := h180) ?_ k180 ?_
  rotate_left
  · exact rfl
  unfold h180 initS
  simp -implicitDefEqProofs only [rkA, rkB, stepA, valA, simprocAttr, Tryz.ntmps180, Tryz.results180]
  refine call_meth rfl rfl methSub (ok218 a b) ?_
  simp -implicitDefEqProofs only [rkA, rkB, stepA, valA, simprocAttr]
theorem ok122 (ea eb : Bool) (a b : List Fr) (ha : a.length ≤ 5864062014805) (hb : b.length ≤ 5864062014805) : Ok Tryz.prog 122 [.sl ea (frs a), .sl eb (frs b)] (.sl false (frs (List.zipWith addF a b))) := by
  refine ok_fn mixed Tryz.func122 (code := ?_) (h := h122) ?_ k122 ?_
  rotate_left
  · exact rfl
  unfold h122 initS
  simp -implicitDefEqProofs only [rkA, rkB, stepA, valA, simprocAttr, Tryz.ntmps122, Tryz.results122]
  refine call_fn rfl rfl rfl (ok130 161 addF ok161 ea eb a b ha hb) ?_
  simp -implicitDefEqProofs only [rkA, rkB, stepA, valA, simprocAttr]
theorem ok163 (ea eb : Bool) (a b : List Fr) (ha : a.length ≤ 5864062014805) (hb : b.length ≤ 5864062014805) : Ok Tryz.prog 163 [.sl ea (frs a), .sl eb (frs b)] (.sl false (frs (List.zipWith subF a b))) := by
  refine ok_fn mixed Tryz.func163 (code := ?_) (h := h163) ?_ k163 ?_
  rotate_left
  · exact rfl
  unfold h163 initS
  simp -implicitDefEqProofs only [rkA, rkB, stepA, valA, simprocAttr, Tryz.ntmps163, Tryz.results163]
  refine call_fn rfl rfl rfl (ok130 180 subF ok180 ea eb a b ha hb) ?_
  simp -implicitDefEqProofs only [rkA, rkB, stepA, valA, simprocAttr]

theorem right_le {r c : Int} {n : Nat} (h : right r c n = true) : n ≤ 256 := by
  obtain ⟨r1, r2, c1, c2, hn⟩ := right_spec h
  have : r * c ≤ 16 * 16 := Int.mul_le_mul r2 c2 (by omega) (by omega)
  omega

/-- Number by number. -/
theorem ok162 (k : Nat) (F : Fr → Fr → Fr) (hF : ∀ (ea eb : Bool) (a b : List Fr), a.length ≤ 5864062014805 → b.length ≤ 5864062014805 → Ok Tryz.prog k [.sl ea (frs a), .sl eb (frs b)] (.sl false (frs (List.zipWith F a b)))) (ea eb : Bool) (r c r2 c2 : Int) (a b : List Fr) :
    Ok Tryz.prog 162 [matV ea r c (frs a), matV eb r2 c2 (frs b), .fn (.func k) []] (if right r c a.length = true ∧ right r2 c2 b.length = true ∧ r = r2 ∧ c = c2 then .tup [matV false r c (frs (List.zipWith F a b)), tru true] else .tup [matNil, tru false]) := by
  refine ok_fn mixed Tryz.func162 (code := ?_) (h := h162) ?_ k162 ?_
  rotate_left
  · exact rfl
  unfold h162 initS
  simp -implicitDefEqProofs only [rkA, rkB, stepA, valA, simprocAttr, Tryz.ntmps162, Tryz.results162]
  refine call_fn rfl rfl rfl (ok100 ea r c (frs a)) ?_
  have e : (frs a).length = a.length := by simp
  have e' : (frs b).length = b.length := by simp
  rw [e]
  cases hr : right r c a.length with
  | false => simp -implicitDefEqProofs only [rkA, rkB, stepA, valA, simprocAttr]
  | true =>
    simp -implicitDefEqProofs only [rkA, rkB, stepA, valA, simprocAttr]
    refine call_fn rfl rfl rfl (ok100 eb r2 c2 (frs b)) ?_
    rw [e']
    cases hr2 : right r2 c2 b.length with
    | false => simp -implicitDefEqProofs only [rkA, rkB, stepA, valA, simprocAttr]
    | true =>
      have l1 := right_le hr
      have l2 := right_le hr2
      simp -implicitDefEqProofs only [rkA, rkB, stepA, valA, simprocAttr]
      by_cases h1 : r = r2
      · subst h1
        simp -implicitDefEqProofs only [bne_self_eq_false, rkA, rkB, stepA, valA, simprocAttr]
        by_cases h2 : c = c2
        · subst h2
          simp -implicitDefEqProofs only [bne_self_eq_false, rkA, rkB, stepA, valA, simprocAttr]
          refine call_fn rfl rfl rfl (hF ea eb a b (by omega) (by omega)) ?_
          simp -implicitDefEqProofs only [rkA, rkB, stepA, valA, simprocAttr]
        · have hne : (c != c2) = true := by simp [h2]
          simp -implicitDefEqProofs only [hne, h2, rkA, rkB, stepA, valA, simprocAttr]
      · have hne : (r != r2) = true := by simp [h1]
        simp -implicitDefEqProofs only [hne, h1, rkA, rkB, stepA, valA, simprocAttr]

theorem ok164 (ea eb : Bool) (r c r2 c2 : Int) (a b : List Fr) : Ok Tryz.prog 164 [matV ea r c (frs a), matV eb r2 c2 (frs b)]
    (if right r c a.length = true ∧ right r2 c2 b.length = true ∧ r = r2 ∧ c = c2 then .tup [matV false r c (frs (List.zipWith addF a b)), tru true] else .tup [matNil, tru false]) := by
  refine ok_fn mixed Tryz.func164 (code := ?_) (h := h164) ?_ k164 ?_
  rotate_left
  · exact rfl
  unfold h164 initS
  simp -implicitDefEqProofs only [rkA, rkB, stepA, valA, simprocAttr, Tryz.ntmps164, Tryz.results164]
  refine call_fn rfl rfl rfl (ok162 122 addF ok122 ea eb r c r2 c2 a b) ?_
  split <;> simp -implicitDefEqProofs only [rkA, rkB, stepA, valA, simprocAttr]
theorem ok126 (ea eb : Bool) (r c r2 c2 : Int) (a b : List Fr) : Ok Tryz.prog 126 [matV ea r c (frs a), matV eb r2 c2 (frs b)]
    (if right r c a.length = true ∧ right r2 c2 b.length = true ∧ r = r2 ∧ c = c2 then .tup [matV false r c (frs (List.zipWith subF a b)), tru true] else .tup [matNil, tru false]) := by
  refine ok_fn mixed Tryz.func126 (code := ?_) (h := h126) ?_ k126 ?_
  rotate_left
  · exact rfl
  unfold h126 initS
  simp -implicitDefEqProofs only [rkA, rkB, stepA, valA, simprocAttr, Tryz.ntmps126, Tryz.results126]
  refine call_fn rfl rfl rfl (ok162 163 subF ok163 ea eb r c r2 c2 a b) ?_
  split <;> simp -implicitDefEqProofs only [rkA, rkB, stepA, valA, simprocAttr]

/-! ### Beside -/
theorem rowF_len {r c : Int} {l : List Fr} (h : right r c l.length = true) {i : Nat} (hi : i < r.toNat) : (rowF r c l i).length = c.toNat := by
  rw [rowF_eq ⟨0, 0, false⟩ h hi]
  simp
/-! ### Mirrored -/
def mirF (r : Int) (l : List Fr) : List Fr := gridP (fun i k => atF r r l (max i k : Nat) (min i k : Nat)) r.toNat r.toNat 0
theorem ok157 (ex : Bool) (r c : Int) (l : List Fr) : Ok Tryz.prog 157 [matV ex r c (frs l)] (if right r c l.length = true ∧ r = c then .tup [matV false r c (frs (mirF r l)), tru true] else .tup [matNil, tru false]) := by
  refine ok_fn mixed Tryz.func157 (code := ?_) (h := h157) ?_ k157 ?_
  rotate_left
  · exact rfl
  unfold h157 initS
  simp -implicitDefEqProofs only [rkA, rkB, stepA, valA, simprocAttr, Tryz.ntmps157, Tryz.results157]
  refine call_fn rfl rfl rfl (ok100 ex r c (frs l)) ?_
  have e : (frs l).length = l.length := by simp
  rw [e]
  cases hr : right r c l.length with
  | false => simp -implicitDefEqProofs only [rkA, rkB, stepA, valA, simprocAttr]
  | true =>
    obtain ⟨r1, r2, c1, c2, hn⟩ := right_spec hr
    simp -implicitDefEqProofs only [rkA, rkB, stepA, valA, simprocAttr]
    by_cases h1 : r = c
    · subst h1
      simp -implicitDefEqProofs only [bne_self_eq_false, rkA, rkB, stepA, valA, simprocAttr]
      have hlen := gridP_length (fun i k => atF r r l (max i k : Nat) (min i k : Nat)) r.toNat
      refine wp_loop (fun m s => ∃ i : Nat, i + m = r.toNat ∧ s = ⟨[jk, .ptr 1 0, .ptr 2 0, jk, .ptr 4 0, jk, jk, jk, jk, jk, jk, jk, jk, jk, jk, jk, jk, jk, jk, jk, jk, jk, jk, jk, nt r, nt i, jk, jk, jk, jk, jk, jk, jk, jk, jk, jk, jk, jk, jk, jk, jk, jk, jk, jk, jk, jk, jk, jk, jk], [(1, [nt r, nt r, .v (.sl ex (frs l))]), (2, [nt 0, nt 0, .acc 3002 []]), (4, [nt r, nt r, .acc 15004 (frs (gridP (fun i k => atF r r l (max i k : Nat) (min i k : Nat)) r.toNat i 0))])], [],
        [(3002, 0), (3004, 0), (15004, (gridP (fun i k => atF r r l (max i k : Nat) (min i k : Nat)) r.toNat i 0).length)], [], 0, nomem⟩) r.toNat ?_ ?_
      · simp -implicitDefEqProofs only [rkA, rkB, stepA, valA, simprocAttr]
        exact ⟨0, by simp, rfl⟩
      rintro m s ⟨i, hi, rfl⟩
      simp -implicitDefEqProofs only [rkA, rkB, stepA, valA, simprocAttr]
      refine gB_dec ?_ ?_ <;> intro hc <;> simp -implicitDefEqProofs only [hc, rkA, rkB, stepA, valA, simprocAttr]
      · refine wp_loop (fun m s => ∃ k : Nat, k + m = r.toNat ∧ s = ⟨[jk, .ptr 1 0, .ptr 2 0, jk, .ptr 4 0, nt i, jk, jk, jk, jk, jk, jk, jk, jk, jk, jk, jk, jk, jk, jk, jk, jk, jk, jk, nt r, nt i, jk, jk, jk, nt r, nt k, jk, jk, jk, jk, jk, jk, jk, jk, jk, jk, jk, jk, jk, jk, jk, jk, jk, jk], [(1, [nt r, nt r, .v (.sl ex (frs l))]), (2, [nt 0, nt 0, .acc 3002 []]), (4, [nt r, nt r, .acc 15004 (frs (gridP (fun i k => atF r r l (max i k : Nat) (min i k : Nat)) r.toNat i k))])], [],
          [(3002, 0), (3004, 0), (15004, (gridP (fun i k => atF r r l (max i k : Nat) (min i k : Nat)) r.toNat i k).length)], [], 0, nomem⟩) r.toNat ?_ ?_
        · simp -implicitDefEqProofs only [rkA, rkB, stepA, valA, simprocAttr]
          exact ⟨0, by simp, rfl⟩
        rintro m' s ⟨k, hk, rfl⟩
        simp -implicitDefEqProofs only [rkA, rkB, stepA, valA, simprocAttr]
        refine gB_dec ?_ ?_ <;> intro hc2 <;> simp -implicitDefEqProofs only [hc2, rkA, rkB, stepA, valA, simprocAttr]
        · have hb : i * r.toNat + k ≤ 256 := by
            have : (i + 1) * r.toNat ≤ 16 * 16 := Nat.mul_le_mul (by omega) (by omega)
            rw [Nat.add_mul] at this
            omega
          have m1 : (if (i : Int) < (k : Int) then (k : Int) else (i : Int)) = ((max i k : Nat) : Int) := by split <;> omega
          have m2 : (if (k : Int) < (i : Int) then (k : Int) else (i : Int)) = ((min i k : Nat) : Int) := by split <;> omega
          simp only [m1, m2]
          refine call_fn rfl rfl rfl (ok75 ex r r (max i k : Nat) (min i k : Nat) l) ?_
          have hl1 := hlen i k
          have hfit : fits 3 24 (frs (gridP (fun i k => atF r r l (max i k : Nat) (min i k : Nat)) r.toNat i k)) [frV (atF r r l (max i k : Nat) (min i k : Nat))] = true := fits_frs (l := [atF r r l (max i k : Nat) (min i k : Nat)]) (by simp only [List.length_cons, List.length_nil]; omega)
          have hl : (frs (gridP (fun i k => atF r r l (max i k : Nat) (min i k : Nat)) r.toNat i k)).length = (gridP (fun i k => atF r r l (max i k : Nat) (min i k : Nat)) r.toNat i k).length := by simp
          have hw := wrapped (x := (k : Int) + 1) (by omega) (by omega)
          simp -implicitDefEqProofs only [hfit, hl, hw, rkA, rkB, stepA, valA, simprocAttr]
          refine loopK_of (m' := m' - 1) (by omega) ?_
          simp -implicitDefEqProofs only [rkA, rkB, stepA, valA, simprocAttr]
          refine ⟨k + 1, by omega, ?_⟩
          rw [gridP_succ]
          simp only [frs, List.map_append, List.map_cons, List.map_nil, List.length_append, List.length_cons, List.length_nil, Int.natCast_add, Int.natCast_one]
        · have hkr : k = r.toNat := by omega
          have hw := wrapped (x := (i : Int) + 1) (by omega) (by omega)
          simp -implicitDefEqProofs only [hw, rkA, rkB, stepA, valA, simprocAttr]
          refine loopK_of (m' := m - 1) (by omega) ?_
          simp -implicitDefEqProofs only [rkA, rkB, stepA, valA, simprocAttr]
          refine ⟨i + 1, by omega, ?_⟩
          rw [hkr, gridP_next]
          simp only [Int.natCast_add, Int.natCast_one]
      · have : i = r.toNat := by omega
        subst this
        simp only [mirF]
    · have hne : (r != c) = true := by simp [h1]
      simp -implicitDefEqProofs only [hne, h1, rkA, rkB, stepA, valA, simprocAttr]

/-! ### Alike -/
end Go.Proofs.YtbflmeomkfjikaaGreat.A


set_option linter.unusedVariables false
set_option linter.unusedSimpArgs false
set_option maxRecDepth 100000
namespace Go.Proofs.YtbflmeomkfjikaaGreat.A
open Go Go.RowKit Go.Shelf

/-! ### Functions that hand new rows back -/
theorem frs_cells (l : List Fr) : ∀ e ∈ frs l, e.cells.length = 3 := fun e he => by
  obtain ⟨x, _, rfl⟩ := List.mem_map.1 he
  rfl
theorem RFs_frs : ∀ (l : List Fr), RFs (flat (frs l)) = true
  | [] => rfl
  | x :: l => by
    have h := RFs_frs l
    simp only [frs, List.map_cons, flat, List.flatMap_cons, PV.cells, List.cons_append, List.nil_append, RFs, RF, Bool.true_and] at h ⊢
    exact h

theorem okn109 (ex : Bool) (l : List Fr) (hl : l ≠ []) (h : l.length ≤ 5864062014805) : OkN Tryz.prog 109 [.sl ex (frs l)] (frs l) := by
  have hfit : fits 3 24 [] (frs l) = true := by
    have := fits_frs (k := []) (l := l) (by simpa using h)
    simpa using this
  have he : (frs l).isEmpty = false := by cases l <;> simp_all
  refine okn_fn mixed Tryz.func109 (code := ?_) (h := hN109) ?_ kN109 rfl (RFs_frs l) ?_
  rotate_left
  · exact rfl
  unfold hN109 initS
  simp -implicitDefEqProofs only [rkA, rkB, stepA, valA, simprocAttr, Tryz.ntmps109, Tryz.results109]
  refine nilA_sl _ _ rfl fun b hb => ?_
  have hb' := hb he
  subst hb'
  simp -implicitDefEqProofs only [hfit, he, rkA, rkB, stepA, valA, simprocAttr]
  refine .inl ⟨7, ?_⟩
  simp -implicitDefEqProofs only [rkA, rkB, stepA, valA, simprocAttr]

/-- A new matrix: its numbers lie in memory of their own. -/
def NewMat (r c : Int) (l : List PV) (x : PV) (m : Mem) : Prop := ∃ b cap q, l.length ≤ cap ∧ x = .tup [.agg [num r, num c, .s (.slice (some ⟨b, 0, none⟩) l.length cap)], tru true] ∧ m = nomem.put b (flat l ++ List.replicate q .junk)

theorem tell_row {m : Mem} {b cap q : Nat} {l : List Fr} (hm : m b = some (flat (frs l) ++ List.replicate q .junk)) (hc : (frs l).length ≤ cap) : Tell m (.s (.slice (some ⟨b, 0, none⟩) (frs l).length cap)) (.sl false (frs l)) := by
  refine .row hm (frs_cells l) rfl (by simp) hc (fun h => by cases h) ?_
  rw [List.drop_zero, List.take_left]
  exact Tells.same _ _

theorem okm71 (r c : Int) (ex : Bool) (l : List Fr) (hr : right r c l.length = true) : OkM Tryz.prog 71 [num r, num c, .sl ex (frs l)] nomem (NewMat r c (frs l)) := by
  have hn := right_le hr
  have hpos := right_spec hr
  have hl : l ≠ [] := by
    intro h
    subst h
    have h1 : r * c = 0 := by have := hpos.2.2.2.2; simpa using this.symm
    rcases Int.mul_eq_zero.1 h1 with h | h <;> omega
  refine okm_fn mixed Tryz.func71 (code := ?_) (h := hN71) ?_ kN71 ?_
  rotate_left
  · exact rfl
  unfold hN71 initS
  simp -implicitDefEqProofs only [rkA, rkB, stepA, valA, simprocAttr, Tryz.ntmps71, Tryz.results71]
  refine newRow_fn rfl rfl (Tells.same _ _) (okn109 ex l hl (by omega)) (RFs_frs l) (by simpa using hl) ?_
  intro b cap q hb hcap
  simp -implicitDefEqProofs only [rkA, rkB, stepA, valA, simprocAttr]
  have e : (frs l).length = l.length := by simp
  have h17 := ok100 false r c (frs l)
  rw [e, hr] at h17
  refine lend_fn rfl rfl (.cons (.agg (.cons (.same _) (.cons (.same _) (.cons (tell_row (Mem.put_same _ _ _) hcap) .nil)))) .nil) (h17) rfl ?_
  simp -implicitDefEqProofs only [rkA, rkB, stepA, valA, simprocAttr]
  exact ⟨_, rfl, b, cap, q, hcap, rfl, rfl⟩
end Go.Proofs.YtbflmeomkfjikaaGreat.A


set_option linter.unusedVariables false
set_option linter.unusedSimpArgs false
set_option maxRecDepth 100000
namespace Go.Proofs.YtbflmeomkfjikaaGreat.A
open Go Go.RowKit Go.Shelf

/-- A square matrix, number by number. -/
theorem okm77 (n : Nat) (hn : 1 ≤ n ∧ n ≤ 16) (K : Nat) (caps : List PV) (g : Nat → Nat → Fr) (hg : ∀ i k : Nat, i < n → k < n → Ok Tryz.prog K (num i :: num k :: caps) (frV (g i k))) :
    OkM Tryz.prog 77 [num n, .fn (.func K) caps] nomem (NewMat n n (frs (gridP g n n 0))) := by
  have hlen := gridP_length g n
  have hbig : ∀ i k, i ≤ n → k ≤ n → i * n + k ≤ 272 := fun i k h1 h2 => by
    have : i * n ≤ 16 * 16 := Nat.mul_le_mul (by omega) (by omega)
    omega
  refine okm_fn mixed Tryz.func77 (code := ?_) (h := h77) ?_ k77 ?_
  rotate_left
  · exact rfl
  unfold h77 initS
  simp -implicitDefEqProofs only [rkA, rkB, stepA, valA, simprocAttr, Tryz.ntmps77, Tryz.results77]
  refine wp_loop (fun m s => ∃ i : Nat, i + m = n ∧ s = ⟨[.v (num n), .v (.fn (.func K) caps), jk, jk, .ptr 4 0, jk, .acc 6 (frs (gridP g n i 0)), jk, jk, .v (num n), nt i, jk, jk, jk, jk, jk, jk, jk, jk, jk, jk, jk, jk, jk, jk, jk, jk, jk, jk, jk, jk, jk], [(4, [nt 0, nt 0, .acc 3004 []])], [],
    [(6, (gridP g n i 0).length), (3004, 0)], [], 0, nomem⟩) n ?_ ?_
  · simp -implicitDefEqProofs only [rkA, rkB, stepA, valA, simprocAttr]
    exact ⟨0, by simp, rfl⟩
  rintro m s ⟨i, hi, rfl⟩
  simp -implicitDefEqProofs only [rkA, rkB, stepA, valA, simprocAttr]
  refine gB_dec ?_ ?_ <;> intro hc <;> simp -implicitDefEqProofs only [hc, rkA, rkB, stepA, valA, simprocAttr]
  · refine wp_loop (fun m s => ∃ k : Nat, k + m = n ∧ s = ⟨[.v (num n), .v (.fn (.func K) caps), jk, jk, .ptr 4 0, jk, .acc 6 (frs (gridP g n i k)), nt i, jk, .v (num n), nt i, jk, jk, .v (num n), nt k, jk, jk, jk, jk, jk, jk, jk, jk, jk, jk, jk, jk, jk, jk, jk, jk, jk], [(4, [nt 0, nt 0, .acc 3004 []])], [],
      [(6, (gridP g n i k).length), (3004, 0)], [], 0, nomem⟩) n ?_ ?_
    · simp -implicitDefEqProofs only [rkA, rkB, stepA, valA, simprocAttr]
      exact ⟨0, by simp, rfl⟩
    rintro m' s ⟨k, hk, rfl⟩
    simp -implicitDefEqProofs only [rkA, rkB, stepA, valA, simprocAttr]
    refine gB_dec ?_ ?_ <;> intro hc2 <;> simp -implicitDefEqProofs only [hc2, rkA, rkB, stepA, valA, simprocAttr]
    · refine call_fn rfl rfl rfl (hg i k (by omega) (by omega)) ?_
      have hl1 := hlen i k
      have hb := hbig i k (by omega) (by omega)
      have hfit : fits 3 24 (frs (gridP g n i k)) [frV (g i k)] = true := fits_frs (l := [g i k]) (by simp only [List.length_cons, List.length_nil]; omega)
      have hl : (frs (gridP g n i k)).length = (gridP g n i k).length := by simp
      have hw := wrapped (x := (k : Int) + 1) (by omega) (by omega)
      simp -implicitDefEqProofs only [hfit, hl, hw, rkA, rkB, stepA, valA, simprocAttr]
      refine loopK_of (m' := m' - 1) (by omega) ?_
      simp -implicitDefEqProofs only [rkA, rkB, stepA, valA, simprocAttr]
      refine ⟨k + 1, by omega, ?_⟩
      rw [gridP_succ]
      simp only [frs, List.map_append, List.map_cons, List.map_nil, List.length_append, List.length_cons, List.length_nil, Int.natCast_add, Int.natCast_one]
    · have hkr : k = n := by omega
      have hw := wrapped (x := (i : Int) + 1) (by omega) (by omega)
      simp -implicitDefEqProofs only [hw, rkA, rkB, stepA, valA, simprocAttr]
      refine loopK_of (m' := m - 1) (by omega) ?_
      simp -implicitDefEqProofs only [rkA, rkB, stepA, valA, simprocAttr]
      refine ⟨i + 1, by omega, ?_⟩
      rw [hkr, gridP_next]
      simp only [Int.natCast_add, Int.natCast_one]
  · have : i = n := by omega
    subst this
    have hr : right (i : Int) (i : Int) (gridP g i i 0).length = true := by
      rw [hlen, Nat.add_zero]
      simp only [right, Bool.and_eq_true, decide_eq_true_eq, beq_iff_eq]
      exact ⟨⟨by omega, by omega⟩, ⟨by omega, by omega⟩, Int.natCast_mul i i⟩
    refine lendNew_fn rfl rfl (Tells.same _ _) (okm71 i i false (gridP g i i 0) hr) ?_ ?_
    · rintro r m' ⟨b, cap, q, h1, rfl, rfl⟩
      refine ⟨rfl, fun c cells hc => ?_⟩
      by_cases e : c = b
      · subst e
        rw [Mem.put_same] at hc
        cases hc
        exact RFs_append (RFs_frs _) (RFs_junk q)
      · rw [Mem.put_other _ _ e] at hc
        cases hc
    · rintro r m' ⟨b, cap, q, h1, rfl, rfl⟩ hfr
      simp -implicitDefEqProofs only [rkA, rkB, stepA, valA, simprocAttr]
      exact ⟨_, rfl, b, cap, q, h1, rfl, rfl⟩
end Go.Proofs.YtbflmeomkfjikaaGreat.A


set_option linter.unusedVariables false
set_option linter.unusedSimpArgs false
set_option maxRecDepth 100000
namespace Go.Proofs.YtbflmeomkfjikaaGreat.A
open Go Go.RowKit Go.Shelf

/-! ### Roots of whole numbers, bit by bit -/
def rtB (n K : Nat) : Nat → Nat
  | 0 => 0
  | j + 1 => if (rtB n K j + 2 ^ (K - 1 - j)) * (rtB n K j + 2 ^ (K - 1 - j)) ≤ n then rtB n K j + 2 ^ (K - 1 - j) else rtB n K j

theorem rtB_spec {n K : Nat} (hn : n < 2 ^ K * 2 ^ K) : ∀ j, j ≤ K → rtB n K j * rtB n K j ≤ n ∧ n < (rtB n K j + 2 ^ (K - j)) * (rtB n K j + 2 ^ (K - j)) ∧ (∃ q, rtB n K j = 2 ^ (K - j) * q) ∧ rtB n K j + 2 ^ (K - j) ≤ 2 ^ K
  | 0, _ => ⟨by simp [rtB], by simpa [rtB] using hn, ⟨0, by simp [rtB]⟩, by simp [rtB]⟩
  | j + 1, hj => by
    obtain ⟨h1, h2, ⟨q, hq⟩, h3⟩ := rtB_spec hn j (by omega)
    have e1 : K - j = (K - (j + 1)) + 1 := by omega
    have e2 : K - 1 - j = K - (j + 1) := by omega
    rw [e1, Nat.pow_succ] at h2 hq h3
    simp only [rtB, e2]
    generalize rtB n K j = r at *
    generalize 2 ^ (K - (j + 1)) = t at *
    split
    · rename_i hc
      refine ⟨hc, by rw [Nat.add_assoc, ← Nat.mul_two]; exact h2, ⟨2 * q + 1, ?_⟩, by omega⟩
      rw [hq, Nat.mul_add, Nat.mul_one, Nat.mul_assoc]
    · rename_i hc
      exact ⟨h1, by omega, ⟨2 * q, by rw [hq, Nat.mul_assoc]⟩, by omega⟩

theorem rtB_final {n K : Nat} (hn : n < 2 ^ K * 2 ^ K) : rtB n K K * rtB n K K ≤ n ∧ n < (rtB n K K + 1) * (rtB n K K + 1) ∧ rtB n K K < 2 ^ K := by
  obtain ⟨h1, h2, _, h3⟩ := rtB_spec hn K (Nat.le_refl _)
  rw [Nat.sub_self, Nat.pow_zero] at h2 h3
  exact ⟨h1, h2, by omega⟩

theorem sq_lt {a b : Nat} (h : a * a < b * b) : a < b := by
  rcases Nat.lt_or_ge a b with h1 | h1
  · exact h1
  · have := Nat.mul_le_mul h1 h1
    omega
theorem rtB_sq {s K : Nat} (hs : s < 2 ^ K) : rtB (s * s) K K = s := by
  have hn : s * s < 2 ^ K * 2 ^ K := Nat.mul_lt_mul'' hs hs
  obtain ⟨h1, h2, _⟩ := rtB_final hn
  have h3 : s < rtB (s * s) K K + 1 := sq_lt h2
  rcases Nat.lt_or_ge (rtB (s * s) K K) s with h4 | h4
  · omega
  · have : rtB (s * s) K K = s := by
      rcases Nat.lt_or_ge s (rtB (s * s) K K) with h5 | h5
      · have := Nat.mul_lt_mul'' h5 h5
        omega
      · omega
    exact this

theorem or_bit {r k : Nat} (hr : r < 2 ^ 62) (hk : k < 62) (hd : ∃ q, r = 2 ^ (k + 1) * q) : (BitVec.ofInt 64 (r : Int) ||| BitVec.ofInt 64 ((2 ^ k : Nat) : Int)).toNat = r + 2 ^ k := by
  obtain ⟨q, rfl⟩ := hd
  have h2 : (2 : Nat) ^ k < 2 ^ (k + 1) := Nat.pow_lt_pow_right (by omega) (by omega)
  have h3 : (2 : Nat) ^ k < 2 ^ 62 := Nat.pow_lt_pow_right (by omega) hk
  rw [BitVec.toNat_or, BitVec.ofInt_natCast, BitVec.ofInt_natCast, BitVec.toNat_ofNat, BitVec.toNat_ofNat, Nat.mod_eq_of_lt (by omega), Nat.mod_eq_of_lt (by omega), Nat.two_pow_add_eq_or_of_lt h2]

theorem wrapNat {n : Nat} (h : n < 9223372036854775808) : IntKind.wrap .i64 (n : Int) = (n : Int) := wrapped (by omega) (by omega)
def rootI (n : Int) : Int := if rtB n.toNat 16 16 * rtB n.toNat 16 16 = n.toNat then (rtB n.toNat 16 16 : Int) else -1

theorem ok223 (n : Int) (h0 : 0 ≤ n) (h1 : n ≤ 1073741824) : Ok Tryz.prog 223 [num n] (num (rootI n)) := by
  obtain ⟨N, rfl⟩ : ∃ N : Nat, n = N := ⟨n.toNat, by omega⟩
  have hN : N < 2 ^ 16 * 2 ^ 16 := by omega
  have hs := rtB_spec hN
  refine ok_fn mixed Tryz.func223 (code := ?_) (h := h223) ?_ k223 ?_
  rotate_left
  · exact rfl
  unfold h223 initS
  simp -implicitDefEqProofs only [rkA, rkB, stepA, valA, simprocAttr, Tryz.ntmps223, Tryz.results223]
  refine wp_loop (fun m s => ∃ j : Nat, j + m = 16 ∧ s = ⟨[nt N, jk, jk, nt (rtB N 16 j), nt (15 - (j : Int)), jk, jk, jk, jk, jk, jk, jk, jk, jk, jk, jk, jk, jk, jk, jk, jk, jk, jk, jk, jk, jk], [], [], [], [], 0, nomem⟩) 16 ?_ ?_
  · simp -implicitDefEqProofs only [rkA, rkB, stepA, valA, simprocAttr]
    exact ⟨0, rfl, by simp [nt, rtB]⟩
  rintro m s ⟨j, hj, rfl⟩
  simp -implicitDefEqProofs only [rkA, rkB, stepA, valA, simprocAttr]
  refine gB_dec ?_ ?_ <;> intro hc <;> simp -implicitDefEqProofs only [hc, rkA, rkB, stepA, valA, simprocAttr]
  · obtain ⟨s1, s2, s3, s4⟩ := hs j (by omega)
    have e1 : 16 - j = (15 - j) + 1 := by omega
    have e2 : (15 - (j : Int)) = ((15 - j : Nat) : Int) := by omega
    have e3 : 16 - 1 - j = 15 - j := by omega
    have h0k : (0 : Int) ≤ ((15 - j : Nat) : Int) := by omega
    have hkb : min ((15 - j : Nat) : Int).toNat (IntKind.bits .i64) = 15 - j := by
      have : IntKind.bits .i64 = 64 := rfl
      rw [this, Int.toNat_natCast]
      omega
    rw [e1] at s3
    have hp : (2 : Nat) ^ (15 - j) ≤ 2 ^ 15 := Nat.pow_le_pow_right (by omega) (by omega)
    have hrl : rtB N 16 j < 2 ^ 16 := by
      have : 0 < 2 ^ (16 - j) := Nat.pow_pos (by omega)
      omega
    have hpI : (1 : Int) * 2 ^ (15 - j) = ((2 ^ (15 - j) : Nat) : Int) := by rw [Int.one_mul, Int.natCast_pow]; rfl
    have hw1 : IntKind.wrap .i64 ((2 ^ (15 - j) : Nat) : Int) = ((2 ^ (15 - j) : Nat) : Int) := wrapNat (by omega)
    have hor := or_bit (r := rtB N 16 j) (k := 15 - j) (by omega) (by omega) s3
    have hbits : IntKind.bits .i64 = 64 := rfl
    have hw2 : IntKind.wrap .i64 ((rtB N 16 j + 2 ^ (15 - j) : Nat) : Int) = ((rtB N 16 j + 2 ^ (15 - j) : Nat) : Int) := wrapNat (by omega)
    have hx : (rtB N 16 j + 2 ^ (15 - j)) * (rtB N 16 j + 2 ^ (15 - j)) ≤ (2 ^ 16 + 2 ^ 15) * (2 ^ 16 + 2 ^ 15) := Nat.mul_le_mul (by omega) (by omega)
    have hw3 : IntKind.wrap .i64 (((rtB N 16 j + 2 ^ (15 - j) : Nat) : Int) * ((rtB N 16 j + 2 ^ (15 - j) : Nat) : Int)) = (((rtB N 16 j + 2 ^ (15 - j)) * (rtB N 16 j + 2 ^ (15 - j)) : Nat) : Int) := by
      rw [← Int.natCast_mul]
      exact wrapNat (by omega)
    have hA : IntKind.wrap .i64 (1 * 2 ^ min ((15 - j : Nat) : Int).toNat (IntKind.bits .i64)) = ((2 ^ (15 - j) : Nat) : Int) := by rw [hkb, hpI, hw1]
    have hB : IntKind.wrap .i64 ((BitVec.ofInt (IntKind.bits .i64) (rtB N 16 j : Int) ||| BitVec.ofInt (IntKind.bits .i64) ((2 ^ (15 - j) : Nat) : Int)).toNat : Int) = ((rtB N 16 j + 2 ^ (15 - j) : Nat) : Int) := by rw [hbits, hor, hw2]
    have hw4 : IntKind.wrap .i64 (((15 - j : Nat) : Int) - 1) = 15 - ((j + 1 : Nat) : Int) := by rw [wrapped (by omega) (by omega)]; omega
    simp -implicitDefEqProofs only [e2, h0k, hA, hB, hw3, rkA, rkB, stepA, valA, simprocAttr]
    refine gB_dec ?_ ?_ <;> intro hq
    · have hr : rtB N 16 (j + 1) = rtB N 16 j + 2 ^ (15 - j) := by simp only [rtB, e3]; rw [if_pos (by omega)]
      simp -implicitDefEqProofs only [hw4, rkA, rkB, stepA, valA, simprocAttr]
      refine loopK_of (m' := m - 1) (by omega) ?_
      simp -implicitDefEqProofs only [rkA, rkB, stepA, valA, simprocAttr]
      exact ⟨j + 1, by omega, by rw [hr]⟩
    · have hr : rtB N 16 (j + 1) = rtB N 16 j := by simp only [rtB, e3]; rw [if_neg (by omega)]
      simp -implicitDefEqProofs only [hw4, rkA, rkB, stepA, valA, simprocAttr]
      refine loopK_of (m' := m - 1) (by omega) ?_
      simp -implicitDefEqProofs only [rkA, rkB, stepA, valA, simprocAttr]
      exact ⟨j + 1, by omega, by rw [hr]⟩
  · have hj16 : j = 16 := by omega
    subst hj16
    obtain ⟨f1, f2, f3⟩ := rtB_final hN
    have hw3 : IntKind.wrap .i64 ((rtB N 16 16 : Int) * (rtB N 16 16 : Int)) = ((rtB N 16 16 * rtB N 16 16 : Nat) : Int) := by
      rw [← Int.natCast_mul]
      exact wrapNat (by omega)
    simp -implicitDefEqProofs only [hw3, rkA, rkB, stepA, valA, simprocAttr]
    unfold rootI
    rw [Int.toNat_natCast]
    refine gB_bool ?_ ?_ <;> intro hq
    · have : ¬ rtB N 16 16 * rtB N 16 16 = N := by
        have := bne_iff_ne.1 hq
        omega
      rw [if_neg this]
      simp -implicitDefEqProofs only [rkA, rkB, stepA, valA, simprocAttr]
    · have : rtB N 16 16 * rtB N 16 16 = N := by
        have := (bne_eq_false_iff_eq (a := ((rtB N 16 16 * rtB N 16 16 : Nat) : Int)) (b := (N : Int))).1 hq
        omega
      rw [if_pos this]
      simp -implicitDefEqProofs only [rkA, rkB, stepA, valA, simprocAttr]

def rootF (a : Fr) : Fr := if a.fine = false ∨ a.n < 0 ∨ rootI a.n < 0 ∨ rootI a.d < 0 then .wrong else newF (rootI a.n) (rootI a.d)
theorem fine_bnd {a : Fr} (h : a.fine = true) : 1 ≤ a.d ∧ a.d ≤ 1073741824 ∧ a.n ≤ 1073741824 ∧ -1073741824 ≤ a.n := by
  simp only [Fr.fine, Bool.and_eq_true, decide_eq_true_eq] at h
  omega
theorem ok216 (a : Fr) : Ok Tryz.prog 216 [frV a] (frV (rootF a)) := by
  refine ok_fn mixed Tryz.func216 (code := ?_) (h := h216) ?_ k216 ?_
  rotate_left
  · exact rfl
  unfold h216 initS
  simp -implicitDefEqProofs only [rkA, rkB, stepA, valA, simprocAttr, Tryz.ntmps216, Tryz.results216]
  refine call_fn rfl rfl rfl (ok212 a) ?_
  cases hf : a.fine with
  | false =>
    simp -implicitDefEqProofs only [rkA, rkB, stepA, valA, simprocAttr]
    refine call_fn rfl rfl rfl (ok101) ?_
    have : rootF a = .wrong := by unfold rootF; rw [if_pos (.inl hf)]
    rw [this]
    simp -implicitDefEqProofs only [rkA, rkB, stepA, valA, simprocAttr]
  | true =>
    obtain ⟨d1, d2, n1, n2⟩ := fine_bnd hf
    simp -implicitDefEqProofs only [rkA, rkB, stepA, valA, simprocAttr]
    refine gB_dec ?_ ?_ <;> intro hn <;> simp -implicitDefEqProofs only [hn, rkA, rkB, stepA, valA, simprocAttr]
    · refine call_fn rfl rfl rfl (ok101) ?_
      have : rootF a = .wrong := by unfold rootF; rw [if_pos (.inr (.inl hn))]
      rw [this]
      simp -implicitDefEqProofs only [rkA, rkB, stepA, valA, simprocAttr]
    · refine call_fn rfl rfl rfl (ok223 a.n (by omega) n1) ?_
      simp -implicitDefEqProofs only [rkA, rkB, stepA, valA, simprocAttr]
      refine gB_dec ?_ ?_ <;> intro hr <;> simp -implicitDefEqProofs only [hr, rkA, rkB, stepA, valA, simprocAttr]
      · refine call_fn rfl rfl rfl (ok101) ?_
        have : rootF a = .wrong := by unfold rootF; rw [if_pos (.inr (.inr (.inl hr)))]
        rw [this]
        simp -implicitDefEqProofs only [rkA, rkB, stepA, valA, simprocAttr]
      · refine call_fn rfl rfl rfl (ok223 a.d (by omega) d2) ?_
        simp -implicitDefEqProofs only [rkA, rkB, stepA, valA, simprocAttr]
        refine gB_dec ?_ ?_ <;> intro hs <;> simp -implicitDefEqProofs only [hs, rkA, rkB, stepA, valA, simprocAttr]
        · refine call_fn rfl rfl rfl (ok101) ?_
          have : rootF a = .wrong := by unfold rootF; rw [if_pos (.inr (.inr (.inr hs)))]
          rw [this]
          simp -implicitDefEqProofs only [rkA, rkB, stepA, valA, simprocAttr]
        · refine call_fn rfl rfl rfl (ok223 a.n (by omega) n1) ?_
          simp -implicitDefEqProofs only [rkA, rkB, stepA, valA, simprocAttr]
          refine call_fn rfl rfl rfl (ok223 a.d (by omega) d2) ?_
          simp -implicitDefEqProofs only [rkA, rkB, stepA, valA, simprocAttr]
          refine call_fn rfl rfl rfl (ok44 (rootI a.n) (rootI a.d)) ?_
          have : rootF a = newF (rootI a.n) (rootI a.d) := by
            unfold rootF
            rw [if_neg (by rw [hf]; rintro (h | h | h | h) <;> first | cases h | omega)]
          rw [this]
          simp -implicitDefEqProofs only [rkA, rkB, stepA, valA, simprocAttr]

def signF (a : Fr) : Int := if a.fine = false then 0 else if a.n = 0 then 0 else if a.n < 0 then -1 else 1
end Go.Proofs.YtbflmeomkfjikaaGreat.A


set_option linter.unusedVariables false
set_option linter.unusedSimpArgs false
set_option maxRecDepth 100000
namespace Go.Proofs.YtbflmeomkfjikaaGreat.A
open Go Go.RowKit Go.Shelf

theorem grid_of {α : Type} {g : Nat → Nat → α} {n N : Nat} {l : List α} (hl : l.length = N * n) (h : ∀ i k, i < N → k < n → l[i * n + k]? = some (g i k)) : l = gridP g n N 0 := by
  have hg := gridP_length g n N 0
  apply List.ext_getElem?
  intro j
  by_cases hj : j < N * n
  · have hn : 0 < n := by
      rcases Nat.eq_zero_or_pos n with h0 | h0
      · subst h0; simp at hj
      · exact h0
    have h1 : j / n < N := Nat.div_lt_of_lt_mul (by rwa [Nat.mul_comm] at hj)
    have h2 : j % n < n := Nat.mod_lt _ hn
    have h3 : j / n * n + j % n = j := by rw [Nat.mul_comm]; exact Nat.div_add_mod j n
    have e1 := h _ _ h1 h2
    have e2 := gridP_get g n N _ _ h1 h2
    rw [h3] at e1 e2
    rw [e1, e2]
  · rw [List.getElem?_eq_none (by omega), List.getElem?_eq_none (by omega)]
theorem gridP_map {α β : Type} (f : α → β) (g : Nat → Nat → α) (n i k : Nat) : (gridP g n i k).map f = gridP (fun i k => f (g i k)) n i k := by
  simp [gridP, List.map_flatMap, Function.comp_def]
theorem gridP_congr {α : Type} {g f : Nat → Nat → α} {n N : Nat} (h : ∀ i k, i < N → k < n → g i k = f i k) : gridP g n N 0 = gridP f n N 0 := by
  rw [gridP_zero, gridP_zero]
  apply flatMap_same
  intro i hi
  apply List.map_congr_left
  intro k hk
  exact h i k (List.mem_range.1 hi) (List.mem_range.1 hk)

section
variable (a b : List Int) (R K : Nat)
end

section
variable {a b : List Int} {R K : Nat}
theorem right_nat (hR : 1 ≤ R ∧ R ≤ 16) (hK : 1 ≤ K ∧ K ≤ 16) {n : Nat} (hl : n = R * K) : right (R : Int) (K : Int) n = true := by
  simp only [right, Bool.and_eq_true, decide_eq_true_eq, beq_iff_eq]
  refine ⟨by omega, by omega, ?_⟩
  rw [hl]
  simp
end
end Go.Proofs.YtbflmeomkfjikaaGreat.A


set_option linter.unusedVariables false
set_option linter.unusedSimpArgs false
namespace Go.Proofs.YtbflmeomkfjikaaGreat.A
open Go Go.RowKit Go.Shelf

/-- All numbers of a row lie within a bound. -/
def bnd (B : Nat) (l : List Int) : Prop := ∀ x ∈ l, x.natAbs ≤ B
theorem bnd_get {B : Nat} {a : List Int} (h : bnd B a) (i : Nat) : (a.getD i 0).natAbs ≤ B := by
  rw [List.getD_eq_getElem?_getD]
  cases hi : a[i]? with
  | none => simp
  | some x => exact h x (List.mem_of_getElem? hi)
theorem grid_getD {g : Nat → Nat → Int} {n N i k : Nat} (hi : i < N) (hk : k < n) : (gridP g n N 0).getD (i * n + k) 0 = g i k := by
  rw [List.getD_eq_getElem?_getD, gridP_get g n N i k hi hk, Option.getD_some]
end Go.Proofs.YtbflmeomkfjikaaGreat.A


