import Derived.Test.YtadfcbpakfaaaaaB6
import Derived.Test.YtadfcbpakfaaaaaProg
set_option linter.unusedVariables false
namespace Go.Proofs.Ytadfcbpakfaaaaa.A
open Go Go.RowKit Go.Shelf
theorem mixed : Try.prog.follows .mixedOrders = true := by kernel_rfl

/- couplet/coupletlaw09.JosephStandard -/
def h3 : Hint := .s (.r [(0, { n := 8 })]) (.s (.s (.r [(0, { n := 8, agg := true })]) (.s (.s (.o) (.o)) (.o))) (.s (.r [(0, { n := 8, agg := true }), (2, { zero := [(.slice none 0 0), (.int .i64 0), (.int .i64 0), (.slice none 0 0)], acc := [(0, 1003), (3, 4003)] }), (3, { n := 4 })]) (.s (.r [(0, { off := 5 }), (1, { n := 1, agg := false })]) (.s (.d [] [(0, { n := 4, agg := true }), (2, { off := 6 }), (3, { n := 1, agg := false }), (5, { off := 7 }), (6, { n := 1, agg := false }), (13, { zero := [(.slice none 0 0), (.int .i64 0), (.int .i64 0), (.slice none 0 0)], acc := [(0, 1005), (3, 4005)] }), (14, { zero := [(.int .i64 0), (.int .i64 0), (.bool false), (.int .i64 0), (.int .i64 0), (.bool false)] }), (15, { n := 4 }), (16, { n := 6 })]) (.s (.r [(0, { off := 1 }), (1, { n := 3, agg := true })]) (.s (.s (.r [(5, { off := 0 }), (6, { n := 1, agg := false }), (10, { off := 0 }), (11, { n := 1, agg := false }), (13, { off := 0 }), (14, { n := 1, agg := false })]) (.s (.s (.o) (.o)) (.o))) (.s (.d [] [(0, { off := 7 }), (1, { n := 1, agg := false }), (4, { off := 0 }), (5, { n := 1, agg := false }), (8, { zero := [(.int .i64 0), (.int .i64 0), (.bool false)] }), (9, { n := 3 })]) (.s (.d [] [(3, { off := 6 }), (4, { n := 1, agg := false }), (7, { zero := [(.int .i64 0), (.int .i64 0), (.bool false)] }), (8, { n := 3 })]) (.s (.s (.r [(0, { off := 0 }), (1, { n := 1, agg := false })]) (.b (.l [.junk [0, 2, 4, 7, 9, 12, 13, 14, 15, 16, 17, 18, 19, 20, 21, 22, 23, 24, 25, 26, 27, 28, 29, 30, 31, 32, 33, 34, 35, 36, 37, 38, 39, 40, 41, 42, 43, 44, 45, 46, 47, 48, 49, 50, 51, 52, 53, 54, 55, 56, 57, 58, 59, 60, 61, 62, 63, 64, 65, 66, 67, 68, 69, 70, 71, 72, 73, 74, 75, 76, 77, 80, 81, 82, 83, 84, 85, 86, 87, 88, 89, 90, 91, 92, 93, 94, 95, 96, 97, 98, 99, 100, 101, 102, 103, 104, 105, 106, 107, 108, 109, 110, 111, 112, 113, 114, 115, 116, 117, 118, 119, 120, 121, 122, 123, 124, 125, 126, 127, 128, 129, 130, 131, 132, 133, 134, 135, 136, 137, 138, 139, 140, 141, 142, 143, 144, 145, 146, 147, 148, 149, 150, 151, 152, 153, 154, 155, 156, 157, 158, 159, 160, 161, 162, 163, 164, 165, 166, 167, 168, 169, 170, 171, 172, 173, 174], .drop [13, 15]] (.s (.o) (.s (.s (.o) (.o)) (.s (.b (.s (.o) (.s (.d [] [(0, { off := 0 }), (1, { n := 1, agg := false }), (3, { n := 3 }), (4, { n := 3, agg := true }), (7, { n := 3 }), (8, { n := 3, agg := true }), (9, { n := 3, agg := true }), (11, { n := 3, agg := true }), (14, { zero := [(.int .i64 0), (.int .i64 0), (.bool false)] }), (15, { n := 3 })]) (.s (.s (.r [(0, { off := 2 }), (1, { n := 1, agg := false }), (4, { off := 0 }), (5, { n := 1, agg := false }), (7, { n := 3 }), (8, { off := 2 }), (9, { n := 1, agg := false }), (13, { n := 3, agg := true }), (14, { off := 0 }), (15, { n := 1, agg := false }), (17, { n := 3 }), (18, { n := 3, agg := true }), (19, { n := 2, ks := [some .i64, some .i64, none] })]) (.s (.s (.o) (.o)) (.o))) (.s (.r [(0, { off := 0 }), (1, { n := 1, agg := false })]) (.b (.l [.junk [0, 2, 4, 7, 9, 13, 14, 15, 16, 17, 18, 19, 20, 21, 22, 23, 24, 25, 26, 27, 28, 29, 30, 31, 32, 33, 34, 35, 36, 37, 38, 39, 40, 41, 42, 43, 44, 45, 46, 47, 48, 49, 50, 51, 52, 53, 54, 55, 56, 57, 58, 59, 60, 61, 62, 63, 64, 65, 66, 67, 68, 69, 70, 71, 72, 73, 74, 75, 76, 77, 80, 81, 82, 83, 84, 85, 86, 87, 88, 89, 90, 91, 92, 93, 94, 95, 96, 97, 98, 99, 100, 101, 102, 103, 104, 105, 106, 107, 108, 109, 110, 111, 112, 113, 114, 115, 116, 117, 120, 121, 122, 123, 124, 125, 126, 127, 128, 129, 130, 131, 132, 133, 134, 135, 136, 137, 138, 139, 140, 141, 142, 143, 144, 145, 146, 147, 148, 149, 150, 151, 152, 153, 154, 155, 156, 157, 158, 159, 160, 161, 162, 163, 164, 165, 166, 167, 168, 169, 170, 171, 172, 173, 174], .drop [13, 15]] (.s (.o) (.s (.s (.o) (.o)) (.s (.b (.s (.o) (.s (.d [] [(0, { off := 1 }), (1, { n := 3, agg := true }), (7, { n := 3 }), (8, { n := 3, agg := true }), (11, { n := 3 }), (12, { n := 3, agg := true }), (14, { n := 3, agg := true }), (17, { zero := [(.int .i64 0), (.int .i64 0), (.bool false)] }), (18, { n := 3 })]) (.s (.r [(0, { off := 2 }), (1, { n := 1, agg := false }), (4, { off := 1 }), (5, { n := 3, agg := true }), (9, { off := 2, n := 1, agg := false }), (13, { n := 3, agg := true }), (14, { off := 1 }), (15, { n := 3, agg := true }), (19, { n := 2, ks := [some .i64, some .i64, none] })]) (.s (.s (.o) (.o)) (.o)))))) (.o))))))))))) (.o))))))) (.s (.r [(0, { off := 0 }), (1, { n := 3, agg := true }), (2, { n := 3, agg := true }), (3, { n := 2, ks := [some .i64, some .i64, none] }), (5, { off := 3 }), (6, { n := 3, agg := true }), (7, { n := 3, agg := true }), (8, { n := 2, ks := [some .i64, some .i64, none] })]) (.o)))))))))))
theorem k3 : okF Try.prog Try.f3 h3 [(false, 0)] = true := by kernel_rfl

/- couplet/coupletlaw09.JosephTwo -/
def h4 : Hint := .s (.r [(0, { n := 8 })]) (.s (.s (.r [(0, { n := 8, agg := true })]) (.s (.s (.o) (.o)) (.o))) (.s (.d [] [(0, { off := 6 }), (1, { n := 1, agg := false }), (3, { off := 7 }), (4, { n := 1, agg := false }), (6, { zero := [(.int .i64 0), (.int .i64 0), (.bool false)] }), (7, { zero := [(.int .i64 0), (.int .i64 0), (.bool false)] }), (8, { n := 3 }), (9, { n := 3 })]) (.s (.r [(0, { off := 5 }), (1, { n := 1, agg := false }), (3, { off := 3 }), (4, { n := 1, agg := false }), (5, { off := 0 }), (6, { n := 1, agg := false }), (7, { n := 1 })]) (.s (.d [] [(0, { n := 8, agg := true }), (3, { n := 3, agg := true }), (4, { n := 3, agg := true }), (10, { zero := [(.slice none 0 0), (.int .i64 0), (.int .i64 0), (.slice none 0 0)], acc := [(0, 1007), (3, 4007)] }), (11, { zero := [(.int .i64 0), (.int .i64 0), (.bool false), (.int .i64 0), (.int .i64 0), (.bool false)] }), (12, { n := 4 }), (13, { n := 6 })]) (.s (.r [(0, { n := 4, agg := true }), (2, { n := 3, agg := true }), (3, { n := 3, agg := true }), (9, { zero := [(.slice none 0 0), (.int .i64 0), (.int .i64 0), (.slice none 0 0)], acc := [(0, 1010), (3, 4010)] }), (10, { zero := [(.int .i64 0), (.int .i64 0), (.bool false), (.int .i64 0), (.int .i64 0), (.bool false)] }), (11, { n := 4 }), (12, { n := 6 })]) (.s (.d [] [(0, { n := 8, agg := true }), (3, { n := 3, agg := true }), (4, { n := 3, agg := true }), (10, { zero := [(.slice none 0 0), (.int .i64 0), (.int .i64 0), (.slice none 0 0)], acc := [(0, 1013), (3, 4013)] }), (11, { zero := [(.int .i64 0), (.int .i64 0), (.bool false), (.int .i64 0), (.int .i64 0), (.bool false)] }), (12, { n := 4 }), (13, { n := 6 })]) (.s (.r [(0, { n := 4, agg := true }), (2, { n := 3, agg := true }), (3, { n := 3, agg := true }), (9, { zero := [(.slice none 0 0), (.int .i64 0), (.int .i64 0), (.slice none 0 0)], acc := [(0, 1016), (3, 4016)] }), (10, { zero := [(.int .i64 0), (.int .i64 0), (.bool false), (.int .i64 0), (.int .i64 0), (.bool false)] }), (11, { n := 4 }), (12, { n := 6 })]) (.s (.s (.r [(7, { off := 1 }), (8, { off := 2 }), (9, { n := 1, agg := false }), (11, { off := 1 }), (12, { off := 2 }), (13, { n := 1, agg := false })]) (.s (.s (.o) (.o)) (.o))) (.s (.s (.r [(0, { off := 1 }), (1, { off := 2 }), (2, { n := 1, agg := false })]) (.b (.l [.junk [0, 1, 2, 3, 4, 5, 6, 7, 8, 9, 11, 12, 13, 14, 15, 17, 18, 19, 20, 21, 22, 23, 24, 25, 26, 27, 28, 29, 30, 31, 32, 33, 34, 35, 36, 37, 38, 39, 40, 41, 42, 43, 44, 45, 46, 47, 48, 49, 50, 51, 52, 53, 54, 55, 56, 57, 58, 59, 60, 61, 62, 63, 64, 65, 66, 67, 68, 69, 70, 71, 72, 73, 74, 75, 76, 77, 78, 79, 80, 81, 82, 83, 84, 85, 86, 87, 88, 89, 90, 91, 92, 93, 94, 95, 96, 97, 98, 101, 102, 103, 104, 105, 106, 107, 108, 109, 110, 111, 112, 113, 114, 115, 116, 117, 118, 119, 120, 121, 122, 123, 124, 125, 126, 127, 128, 129], .drop [1, 3, 4, 7, 8, 11, 13, 14, 17, 20, 21]] (.s (.o) (.s (.s (.o) (.o)) (.s (.b (.s (.o) (.s (.d [(110, 20), (113, 20)] [(0, { off := 1 }), (1, { off := 2 }), (2, { n := 1, agg := false }), (4, { n := 3 }), (5, { n := 3, agg := true }), (6, { off := 1 }), (7, { off := 2 }), (8, { n := 1, agg := false }), (10, { n := 3 }), (11, { n := 3, agg := true }), (12, { zero := [(.int .i64 0), (.int .i64 0), (.bool false)] }), (13, { zero := [(.int .i64 0), (.int .i64 0), (.bool false)] }), (14, { n := 3 }), (15, { n := 3 })]) (.s (.r [(0, { off := 2 }), (1, { n := 1, agg := false }), (4, { off := 2 }), (5, { n := 1, agg := false }), (9, { n := 3, agg := true }), (10, { n := 3, agg := true }), (11, { n := 2, ks := [some .i64, some .i64, none] })]) (.s (.s (.o) (.o)) (.o)))))) (.o))))))) (.s (.o) (.o)))))))))))
theorem k4 : okF Try.prog Try.f4 h4 [(false, 0)] = true := by kernel_rfl

/- couplet/coupletlaw07.TriClears -/
def h5 : Hint := .s (.o) (.s (.s (.o) (.s (.s (.o) (.o)) (.o))) (.s (.r [(7, { zero := [(.int .i64 0), (.int .i64 0), (.slice none 0 0)], acc := [(2, 3005)] }), (8, { n := 3 })]) (.s (.r [(0, { n := 3, agg := true }), (5, { zero := [(.int .i64 0), (.int .i64 0), (.slice none 0 0)], acc := [(2, 3007)] }), (6, { n := 3 })]) (.s (.r [(0, { n := 3, agg := true }), (5, { zero := [(.int .i64 0), (.int .i64 0), (.slice none 0 0)], acc := [(2, 3009)] }), (6, { n := 3 })]) (.s (.r [(0, { n := 3, agg := true }), (2, { n := 3, agg := true })]) (.s (.s (.o) (.s (.s (.o) (.o)) (.o))) (.s (.s (.o) (.b (.l [.junk [0, 1, 2, 3, 4, 5, 6, 8, 10, 13, 14, 15, 16, 17, 18, 19, 20, 21, 22, 23, 24, 25, 26, 27, 28, 29, 30, 31, 32, 33, 34, 35, 36, 37, 38, 39, 40, 41, 42, 43, 44, 45, 46, 47, 48, 49, 50, 51, 52, 53, 54, 55, 56, 57, 58, 61, 62, 63, 64, 65, 66, 67, 68, 69, 70, 71, 72, 73, 74, 75, 76, 77, 78], .drop [5]] (.s (.o) (.s (.s (.o) (.o)) (.s (.b (.s (.o) (.s (.r [(2, { n := 3 }), (3, { n := 3, agg := true }), (6, { n := 3 }), (7, { n := 3, agg := true }), (8, { n := 2, ks := [some .i64, some .i64, none] })]) (.s (.s (.o) (.o)) (.o))))) (.o))))))) (.s (.r [(0, { n := 3, agg := true }), (1, { n := 3, agg := true })]) (.o)))))))))
theorem k5 : okF Try.prog Try.f5 h5 [(false, 0)] = true := by kernel_rfl

/- couplet/coupletlaw07.TriRound -/
def h6 : Hint := .s (.o) (.s (.s (.o) (.s (.s (.o) (.o)) (.o))) (.s (.r [(7, { zero := [(.int .i64 0), (.int .i64 0), (.slice none 0 0)], acc := [(2, 3005)] }), (8, { n := 3 })]) (.s (.r [(0, { n := 3, agg := true }), (5, { zero := [(.int .i64 0), (.int .i64 0), (.slice none 0 0)], acc := [(2, 3007)] }), (6, { n := 3 })]) (.s (.r [(0, { n := 3, agg := true }), (5, { zero := [(.int .i64 0), (.int .i64 0), (.slice none 0 0)], acc := [(2, 3009)] }), (6, { n := 3 })]) (.s (.r [(0, { n := 3, agg := true }), (5, { zero := [(.int .i64 0), (.int .i64 0), (.slice none 0 0)], acc := [(2, 3011)] }), (6, { n := 3 })]) (.s (.s (.o) (.s (.s (.o) (.o)) (.o))) (.s (.s (.r [(0, { off := 2 }), (1, { n := 1, agg := false })]) (.b (.l [.junk [0, 1, 2, 3, 4, 5, 6, 8, 9, 10, 12, 13, 14, 15, 16, 17, 18, 19, 20, 21, 22, 23, 24, 25, 26, 27, 28, 29, 30, 31, 32, 33, 34, 35, 36, 37, 38, 39, 40, 41, 42, 43, 44, 45, 46, 47, 48, 49, 50, 51, 52, 56, 57, 58, 59, 60, 61, 62, 63, 64, 65, 66, 67, 68], .drop [5, 9, 14]] (.s (.o) (.s (.s (.o) (.o)) (.s (.b (.s (.r [(0, { n := 3 }), (1, { n := 3, agg := true }), (2, { zero := [(.int .i64 0), (.int .i64 0), (.bool false)] }), (3, { n := 3 })]) (.s (.r [(0, { off := 2 }), (1, { n := 1, agg := false })]) (.s (.s (.o) (.o)) (.o))))) (.o))))))) (.s (.r [(0, { n := 3, agg := true }), (1, { n := 3, agg := true })]) (.o)))))))))
theorem k6 : okF Try.prog Try.f6 h6 [(false, 0)] = true := by kernel_rfl

/- couplet/coupletlaw07.TriSquares -/
def h7 : Hint := .s (.o) (.s (.s (.o) (.s (.s (.o) (.o)) (.o))) (.s (.r [(7, { zero := [(.int .i64 0), (.int .i64 0), (.slice none 0 0)], acc := [(2, 3005)] }), (8, { n := 3 })]) (.s (.r [(0, { n := 3, agg := true }), (5, { zero := [(.int .i64 0), (.int .i64 0), (.slice none 0 0)], acc := [(2, 3007)] }), (6, { n := 3 })]) (.s (.r [(0, { n := 3, agg := true }), (5, { zero := [(.int .i64 0), (.int .i64 0), (.slice none 0 0)], acc := [(2, 3009)] }), (6, { n := 3 })]) (.s (.s (.r [(0, { n := 3, agg := true })]) (.b (.l [.junk [2, 3, 4, 6, 10, 11, 12, 13, 14, 15, 16, 17, 18, 19, 20, 21, 22, 23, 24, 25, 26, 27, 28, 29, 30, 31, 32, 33, 34, 35, 39, 40, 41, 42, 43, 44, 45, 46, 47, 48, 49, 50, 51, 52, 53, 54, 55, 56, 57, 58, 59, 60, 61, 62, 63, 64, 65, 66, 67, 68, 69, 70, 71, 72, 73, 74, 75, 76, 77, 78, 79, 80, 81, 82, 83, 84, 85, 86], .drop [12]] (.s (.o) (.s (.s (.o) (.o)) (.s (.b (.s (.r [(1, { n := 3 }), (2, { n := 3, agg := true }), (3, { zero := [(.int .i64 0), (.int .i64 0), (.bool false)] }), (5, { n := 3 })]) (.s (.r [(0, { n := 3, agg := true }), (1, { n := 3, agg := true }), (4, { n := 3, agg := true }), (8, { n := 2, ks := [some .i64, some .i64, none] }), (10, { n := 3, agg := true })]) (.s (.s (.o) (.o)) (.o))))) (.o))))))) (.s (.r [(2, { n := 3, agg := true }), (3, { n := 3, agg := true }), (7, { n := 3, agg := true }), (8, { n := 3, agg := true }), (13, { n := 3, agg := true })]) (.o)))))))
theorem k7 : okF Try.prog Try.f7 h7 [(false, 0)] = true := by kernel_rfl

/- couplet/coupletlaw07.TriTells -/
def h8 : Hint := .s (.o) (.s (.s (.o) (.s (.s (.o) (.o)) (.o))) (.s (.r [(7, { zero := [(.int .i64 0), (.int .i64 0), (.slice none 0 0)], acc := [(2, 3007)] }), (8, { n := 3 })]) (.s (.r [(0, { n := 3, agg := true }), (5, { zero := [(.int .i64 0), (.int .i64 0), (.slice none 0 0)], acc := [(2, 3009)] }), (6, { n := 3 })]) (.s (.r [(0, { n := 3, agg := true }), (5, { zero := [(.int .i64 0), (.int .i64 0), (.slice none 0 0)], acc := [(2, 3011)] }), (6, { n := 3 })]) (.s (.r [(0, { n := 3, agg := true })]) (.s (.s (.o) (.s (.s (.r [(12, { n := 3, agg := true }), (17, { n := 3, agg := true }), (21, { n := 3, agg := true })]) (.o)) (.o))) (.s (.s (.o) (.s (.s (.o) (.o)) (.o))) (.s (.s (.o) (.s (.s (.o) (.o)) (.o))) (.s (.o) (.s (.s (.o) (.b (.l [.junk [2, 3, 4, 5, 6, 8, 15, 16, 17, 18, 19, 20, 21, 22, 23, 24, 25, 26, 27, 28, 29, 30, 31, 32, 33, 34, 35, 36, 37, 38, 39, 40, 41, 42, 43, 44, 45, 46, 47, 48, 49, 50, 51, 52, 53, 54, 55, 56, 57, 58, 59, 60, 61, 62, 63, 64, 65, 66, 67, 68, 69, 70, 71, 72, 73, 74, 75, 76, 77, 78, 79, 80, 81, 84, 85, 86, 87, 88, 89, 90, 91, 92, 93, 94, 95, 96, 97, 98, 99, 100, 101, 102, 103, 104, 105, 106, 107, 108, 109, 110, 111, 112, 113, 114, 115, 116, 117, 118, 119, 120, 121, 122, 123, 124, 125, 126, 127, 128, 129, 130, 131, 132, 133, 134, 135, 136, 137, 138, 139, 140, 141, 142, 143, 144, 145, 146, 147, 148, 149, 150, 151, 152, 153, 154, 155, 156]] (.s (.o) (.s (.s (.o) (.o)) (.s (.b (.s (.o) (.s (.s (.r [(2, { n := 3 }), (3, { n := 3, agg := true }), (10, { n := 1 }), (11, { n := 1, agg := false }), (13, { n := 2, ks := [some .i64, some .i64, none] })]) (.s (.s (.o) (.o)) (.o))) (.s (.o) (.b (.l [.junk [2, 3, 4, 5, 6, 8, 17, 18, 19, 20, 21, 22, 23, 24, 25, 26, 27, 28, 29, 30, 31, 32, 33, 34, 35, 36, 37, 38, 39, 40, 41, 42, 43, 44, 45, 46, 47, 48, 49, 50, 51, 52, 53, 54, 55, 56, 57, 58, 59, 60, 61, 62, 63, 64, 65, 66, 67, 68, 69, 70, 71, 72, 73, 74, 75, 76, 77, 78, 79, 80, 81, 84, 85, 86, 87, 88, 89, 90, 91, 92, 93, 94, 95, 96, 97, 98, 99, 100, 101, 102, 103, 104, 105, 106, 107, 108, 109, 110, 111, 112, 113, 114, 115, 116, 117, 118, 119, 120, 121, 122, 123, 124, 125, 126, 127, 128, 129, 130, 131, 132, 133, 134, 135, 136, 137, 138, 139, 140, 141, 142, 143, 144, 145, 146, 147, 148, 149, 150, 151, 152, 153, 154, 155, 156]] (.s (.s (.o) (.s (.o) (.o))) (.s (.b (.r [(8, { n := 1 }), (9, { n := 1, agg := false })])) (.o))))))))) (.o))))))) (.s (.o) (.s (.r [(5, { n := 3, agg := true }), (14, { n := 3, agg := true }), (23, { n := 3, agg := true }), (27, { n := 1 }), (30, { n := 3, agg := true })]) (.o)))))))))))))
theorem k8 : okF Try.prog Try.f8 h8 [(false, 0)] = true := by kernel_rfl

/- couplet/coupletlaw09.Few -/
def h9 : Hint := .s (.r [(0, { n := 8 })]) (.s (.s (.r [(0, { off := 0 }), (1, { n := 1, agg := false }), (4, { off := 0 }), (5, { n := 1, agg := false }), (9, { off := 1 }), (10, { n := 1, agg := false }), (12, { off := 0 }), (13, { n := 1, agg := false }), (17, { off := 5 }), (18, { n := 1, agg := false }), (20, { off := 0 }), (21, { n := 1, agg := false }), (25, { off := 6 }), (26, { n := 1, agg := false }), (30, { off := 6 }), (31, { n := 1, agg := false }), (35, { off := 7 }), (36, { n := 1, agg := false }), (40, { off := 7 }), (41, { n := 1, agg := false })]) (.s (.s (.o) (.o)) (.o))) (.s (.s (.r [(0, { off := 1 }), (1, { n := 1, agg := false }), (2, { off := 5 }), (3, { n := 1, agg := false }), (4, { off := 2 }), (5, { n := 1, agg := false }), (6, { off := 3 }), (7, { n := 1, agg := false }), (8, { off := 4 }), (9, { n := 1, agg := false }), (10, { zero := [(.slice none 0 0), (.slice none 0 0), (.slice none 0 0), (.slice none 0 0), (.slice none 0 0)], places := [(0, 1), (1, 1), (2, 1), (3, 1), (4, 1)] })]) (.b (.l [.junk [0, 2, 3, 4, 5, 6, 7, 8, 9, 10, 11, 12, 13, 14, 15, 16, 17, 18, 19, 20, 21, 22, 23, 24, 25, 26, 27, 28, 29, 30, 31, 32, 33, 34, 35, 36, 37, 38, 39, 40, 41, 42, 43, 44, 45, 46, 47, 48, 49, 50, 51, 52, 53, 54, 55, 56, 57, 58, 59, 62, 63, 64, 65, 66, 67, 68, 69, 70, 71, 72, 73, 74, 75, 76, 77, 78, 79, 80, 81, 82, 83, 84, 85, 86, 87, 88, 89, 90, 91, 92, 93, 94, 95, 96, 97, 98, 99, 100, 101, 102, 103, 104, 105, 106, 107, 108, 109, 110, 111, 112, 113, 114, 115, 116, 117]] (.s (.o) (.s (.s (.o) (.o)) (.s (.b (.s (.r [(0, { n := 1, agg := false, t := 5 })]) (.s (.o) (.b (.l [.junk [0, 2, 3, 6, 7, 8, 9, 10, 11, 12, 13, 14, 15, 16, 17, 18, 19, 20, 21, 22, 23, 24, 25, 26, 27, 28, 29, 30, 31, 32, 33, 34, 35, 36, 37, 38, 39, 40, 41, 42, 43, 44, 45, 46, 47, 48, 49, 50, 51, 52, 53, 54, 55, 56, 57, 58, 59, 62, 63, 64, 65, 66, 67, 68, 69, 70, 71, 72, 73, 74, 75, 76, 77, 78, 79, 80, 81, 82, 83, 84, 85, 86, 87, 88, 89, 90, 91, 92, 93, 94, 95, 96, 97, 98, 99, 100, 101, 102, 103, 104, 105, 106, 107, 108, 109, 110, 111, 112, 113, 114, 115, 116, 117]] (.s (.s (.o) (.s (.o) (.o))) (.s (.b (.s (.r [(2, { n := 1 }), (3, { n := 1, agg := false }), (8, { n := 1 }), (9, { n := 1, agg := false })]) (.s (.s (.o) (.o)) (.o)))) (.o)))))))) (.o))))))) (.s (.r [(0, { off := 2 }), (1, { n := 1, agg := false }), (3, { off := 0 }), (4, { n := 1, agg := false }), (5, { off := 0 }), (6, { n := 1, agg := false }), (10, { off := 3 }), (11, { n := 1, agg := false }), (13, { off := 0 }), (14, { n := 1, agg := false }), (15, { off := 0 }), (16, { n := 1, agg := false }), (21, { off := 4 }), (22, { n := 1, agg := false }), (24, { off := 0 }), (25, { n := 1, agg := false }), (26, { off := 0 }), (27, { n := 1, agg := false })]) (.o))))
theorem k9 : okF Try.prog Try.f9 h9 [(false, 0)] = true := by kernel_rfl

/- couplet/coupletlaw09.awake -/
def h10 : Hint := .s (.o) (.s (.r [(0, { n := 1 }), (5, { zero := [(.int .i64 0), (.int .i64 0), (.slice none 0 0)], acc := [(2, 3001)] }), (6, { n := 3 })]) (.s (.d [] [(0, { n := 1 }), (2, { n := 3, agg := true }), (7, { zero := [(.slice none 0 0), (.int .i64 0), (.int .i64 0), (.slice none 0 0)], acc := [(0, 1003), (3, 4003)] }), (8, { n := 4 })]) (.s (.d [] [(0, { n := 4, agg := true }), (1, { n := 1 }), (10, { zero := [(.slice none 0 0), (.int .i64 0), (.int .i64 0), (.slice none 0 0)], acc := [(0, 1005), (3, 4005)] }), (11, { zero := [(.int .i64 0), (.int .i64 0), (.bool false), (.int .i64 0), (.int .i64 0), (.bool false)] }), (12, { n := 4 }), (13, { n := 6 })]) (.s (.r [(5, { off := 0 }), (6, { n := 1, agg := false }), (7, { n := 3 }), (8, { n := 3, agg := true }), (10, { n := 2, ks := [some .i64, some .i64, none] }), (13, { off := 1 }), (14, { n := 3, agg := true }), (17, { n := 2, ks := [some .i64, some .i64, none] }), (20, { off := 3 }), (21, { n := 3, agg := true }), (23, { n := 2, ks := [some .i64, some .i64, none] }), (26, { n := 4, agg := true })]) (.o)))))
theorem k10 : okF Try.prog Try.f10 h10 [(false, 0)] = true := by kernel_rfl

/- couplet/coupletlaw09.Start -/
def h11 : Hint := .s (.r [(0, { n := 8 }), (1, { zero := [(.slice none 0 0), (.int .i64 0), (.int .i64 0), (.slice none 0 0)], acc := [(0, 1002), (3, 4002)] })]) (.s (.r [(0, { off := 0 }), (1, { n := 1, agg := false }), (2, { off := 0 }), (3, { n := 1, agg := false }), (4, { off := 2 }), (5, { n := 1, agg := false }), (10, { zero := [(.int .i64 0), (.int .i64 0), (.slice none 0 0)], acc := [(2, 3003)] }), (11, { n := 3 })]) (.s (.d [] [(0, { off := 1 }), (1, { n := 1, agg := false }), (3, { n := 3, agg := true }), (8, { zero := [(.slice none 0 0), (.int .i64 0), (.int .i64 0), (.slice none 0 0)], acc := [(0, 1005), (3, 4005)] }), (9, { n := 4 })]) (.s (.r [(0, { n := 4, agg := true }), (1, { n := 4 })]) (.o))))
theorem k11 : okF Try.prog Try.f11 h11 [(true, 4)] = true := by kernel_rfl

/- couplet/vec.Whole(couplet/frac.Frac) -/
def h12 : Hint := .s (.r [(0, { acc := [(0, 2)] })]) (.s (.r [(0, { acc := [(0, 3)] })]) (.s (.r [(0, { zero := [(.int .i64 0), (.int .i64 0), (.bool false)] })]) (.s (.s (.o) (.b (.l [.junk [0, 1, 2, 5, 6, 10, 11, 12, 13, 14, 15, 16, 17, 18, 19, 20, 21]] (.s (.o) (.s (.s (.o) (.o)) (.s (.b (.s (.r [(0, { n := 1 }), (1, { n := 1, agg := false })]) (.r [(1, { n := 3, agg := true }), (5, { n := 3 }), (6, { n := 3, t := 24 })]))) (.o))))))) (.s (.o) (.o)))))
theorem k12 : okF Try.prog Try.f12 h12 [(false, 0)] = true := by kernel_rfl

/- couplet/joseph.Update(couplet/frac.Frac) -/
def h13 : Hint := .s (.r [(0, { n := 4 }), (1, { n := 3 }), (2, { n := 3 }), (3, { zero := [(.slice none 0 0), (.int .i64 0), (.int .i64 0), (.slice none 0 0)], acc := [(0, 1008), (3, 4008)] }), (4, { zero := [(.int .i64 0), (.int .i64 0), (.bool false), (.int .i64 0), (.int .i64 0), (.bool false)] })]) (.s (.r [(0, { off := 0 }), (1, { n := 1, agg := false })]) (.s (.s (.r [(0, { n := 4, agg := true })]) (.s (.s (.r [(0, { zero := [(.slice none 0 0), (.int .i64 0), (.int .i64 0), (.slice none 0 0)], places := [(0, 1), (1, 3)] }), (1, { zero := [(.int .i64 0), (.int .i64 0), (.bool false), (.int .i64 0), (.int .i64 0), (.bool false)], places := [(0, 3), (3, 3)] }), (2, { n := 4 }), (3, { n := 6 })]) (.o)) (.o))) (.s (.r [(0, { off := 1 }), (1, { n := 3, agg := true })]) (.s (.d [] [(4, { n := 3, agg := true }), (6, { zero := [(.int .i64 0), (.int .i64 0), (.bool false)] }), (7, { n := 3 })]) (.s (.d [] [(0, { n := 3, agg := true }), (3, { off := 0 }), (4, { n := 1, agg := false }), (7, { zero := [(.int .i64 0), (.int .i64 0), (.bool false)] }), (8, { n := 3 })]) (.s (.r [(0, { acc := [(0, 16)] })]) (.s (.s (.o) (.b (.l [.junk [0, 2, 3, 5, 7, 10, 12, 13, 17, 18, 19, 20, 21, 22, 23, 24, 25, 26, 27, 28, 29, 30, 31, 32, 33, 34, 35, 36, 37, 38, 39, 40, 41, 42, 43, 44, 45, 46, 47, 48, 49, 50, 51, 52, 53, 54, 55, 56, 57, 58, 59, 60, 61, 62, 63, 64, 65, 66, 67, 68, 72, 73, 74, 75, 76, 77, 78, 79, 80, 81, 82, 83, 84, 85, 86, 87, 88, 89, 90, 91, 92, 93, 94, 95, 96, 97, 98, 99, 100, 101, 102, 103, 104, 105, 106, 107, 108, 109, 110, 111, 112, 113, 114, 115, 116, 117, 118, 119, 120, 121, 122, 123, 124, 125, 126, 127, 128, 129, 130, 131, 132, 133, 134, 135, 136, 137, 138, 139, 140, 141, 142, 143, 144, 145, 146, 147, 148, 149], .drop [18], .row 8 0 5008, .row 8 3 20008, .row 19 2 15019, .row 21 2 15021, .row 23 2 15023, .row 25 2 15025, .row 27 2 15027, .row 29 2 15029, .row 31 2 15031, .row 33 2 15033] (.s (.o) (.s (.s (.o) (.o)) (.s (.b (.s (.r [(0, { n := 3 }), (1, { n := 3, agg := true }), (2, { zero := [(.int .i64 0), (.int .i64 0), (.bool false)] }), (3, { n := 3 })]) (.r [(1, { n := 3, agg := true }), (3, { n := 3, agg := true }), (5, { n := 3 }), (6, { n := 3, t := 24 })]))) (.o))))))) (.s (.r [(6, { zero := [(.int .i64 0), (.int .i64 0), (.slice none 0 0)], acc := [(2, 3019)] }), (7, { n := 3 })]) (.s (.r [(6, { zero := [(.int .i64 0), (.int .i64 0), (.slice none 0 0)], acc := [(2, 3021)] }), (7, { n := 3 })]) (.s (.r [(5, { zero := [(.int .i64 0), (.int .i64 0), (.slice none 0 0)], acc := [(2, 3023)] }), (6, { n := 3 })]) (.s (.r [(0, { n := 3, agg := true }), (1, { n := 3, agg := true }), (6, { zero := [(.int .i64 0), (.int .i64 0), (.slice none 0 0)], acc := [(2, 3025)] }), (7, { n := 3 })]) (.s (.r [(0, { n := 3, agg := true }), (1, { n := 3, agg := true }), (6, { zero := [(.int .i64 0), (.int .i64 0), (.slice none 0 0)], acc := [(2, 3027)] }), (7, { n := 3 })]) (.s (.r [(2, { n := 3, agg := true }), (8, { zero := [(.int .i64 0), (.int .i64 0), (.slice none 0 0)], acc := [(2, 3029)] }), (9, { n := 3 })]) (.s (.d [] [(0, { n := 3, agg := true }), (1, { n := 3, agg := true }), (7, { zero := [(.int .i64 0), (.int .i64 0), (.slice none 0 0)], acc := [(2, 3031)] }), (8, { n := 3 })]) (.s (.r [(0, { n := 3, agg := true }), (1, { off := 1 }), (2, { n := 3, agg := true }), (3, { n := 3, agg := true }), (8, { zero := [(.int .i64 0), (.int .i64 0), (.slice none 0 0)], acc := [(2, 3033)] }), (9, { n := 3 })]) (.s (.s (.o) (.s (.s (.r [(0, { zero := [(.slice none 0 0), (.int .i64 0), (.int .i64 0), (.slice none 0 0)], places := [(0, 1), (1, 3)] }), (1, { zero := [(.int .i64 0), (.int .i64 0), (.bool false), (.int .i64 0), (.int .i64 0), (.bool false)], places := [(0, 3), (3, 3)] }), (2, { n := 4 }), (3, { n := 6 })]) (.o)) (.o))) (.s (.d [(15, 8), (14, 8)] [(0, { off := 0 }), (1, { n := 1, agg := false }), (3, { n := 3, agg := true }), (6, { n := 3, agg := true }), (7, { zero := [(.slice none 0 0), (.int .i64 0), (.int .i64 0), (.slice none 0 0)], places := [(0, 1), (1, 3)] }), (8, { n := 3, agg := true }), (9, { n := 3, agg := true }), (10, { zero := [(.int .i64 0), (.int .i64 0), (.bool false), (.int .i64 0), (.int .i64 0), (.bool false)], places := [(0, 3), (3, 3)] }), (11, { n := 4 }), (12, { n := 6 })]) (.o))))))))))))))))))
theorem k13 : okF Try.prog Try.f13 h13 [(true, 4), (true, 6), (false, 0)] = true := by kernel_rfl

/- couplet/frac.New -/
def h14 : Hint := .s (.r [(0, { zero := [(.int .i64 0), (.int .i64 0), (.bool false)] })]) (.s (.s (.o) (.s (.s (.r [(1, { n := 3 })]) (.o)) (.o))) (.s (.s (.o) (.s (.o) (.o))) (.s (.o) (.s (.o) (.s (.s (.o) (.s (.s (.r [(1, { n := 3 })]) (.o)) (.o))) (.s (.r [(2, { zero := [(.int .i64 0), (.int .i64 0), (.bool false)], places := [(0, 1), (1, 1), (2, 1)] }), (3, { n := 3 })]) (.o)))))))
theorem k14 : okF Try.prog Try.f14 h14 [(true, 3)] = true := by kernel_rfl

/- (couplet/mat.Mat(couplet/frac.Frac)).Apply -/
def h15 : Hint := .s (.r [(0, { n := 3 }), (1, { n := 1 }), (2, { acc := [(0, 4)] })]) (.s (.s (.r [(0, { n := 3, agg := true }), (4, { n := 1, agg := false }), (6, { off := 1 }), (7, { n := 1, agg := false })]) (.s (.s (.r [(0, { acc := [(0, 4)] })]) (.o)) (.o))) (.s (.r [(0, { zero := [(.slice none 0 0)], acc := [(0, 1006)] })]) (.s (.s (.r [(0, { n := 3, agg := true })]) (.b (.f [.row 6 0 5006] (.o) (.b (.r [(0, { n := 1, agg := false }), (2, { n := 1, agg := false }), (4, { n := 3 }), (5, { n := 3, t := 24 }), (6, { n := 1 })]))))) (.s (.r [(0, { n := 1, agg := false })]) (.o)))))
theorem k15 : okF Try.prog Try.f15 h15 [(false, 0), (false, 0)] = true := by kernel_rfl

/- (couplet/frac.Frac).Sub -/
def h16 : Hint := .s (.r [(0, { n := 3 }), (1, { n := 3 }), (2, { zero := [(.int .i64 0), (.int .i64 0), (.bool false)] })]) (.s (.r [(0, { n := 3, agg := true }), (1, { n := 3, agg := true }), (4, { n := 3 })]) (.o))
theorem k16 : okF Try.prog Try.f16 h16 [(true, 3)] = true := by kernel_rfl

/- couplet/vec.Dot(couplet/frac.Frac) -/
def h17 : Hint := .s (.r [(0, { zero := [(.int .i64 0), (.int .i64 0), (.bool false)] })]) (.s (.r [(4, { n := 3 })]) (.o))
theorem k17 : okF Try.prog Try.f17 h17 [(true, 3)] = true := by kernel_rfl

/- (couplet/frac.Frac).Add -/
def h18 : Hint := .s (.r [(0, { n := 3 }), (1, { n := 3 }), (2, { zero := [(.int .i64 0), (.int .i64 0), (.bool false)] })]) (.s (.s (.r [(0, { n := 3, agg := true }), (4, { n := 3, agg := true })]) (.s (.s (.r [(1, { n := 3 })]) (.o)) (.o))) (.s (.r [(0, { off := 0 }), (1, { n := 1, agg := false }), (2, { off := 1 }), (3, { n := 1, agg := false }), (5, { off := 0 }), (6, { n := 1, agg := false }), (7, { off := 1 }), (8, { n := 1, agg := false }), (11, { off := 1 }), (12, { n := 1, agg := false }), (13, { off := 1 }), (14, { n := 1, agg := false })]) (.s (.o) (.s (.r [(7, { n := 3 })]) (.o)))))
theorem k18 : okF Try.prog Try.f18 h18 [(true, 3)] = true := by kernel_rfl

/- (couplet/frac.Frac).Mul -/
def h19 : Hint := .s (.r [(0, { n := 3 }), (1, { n := 3 }), (2, { zero := [(.int .i64 0), (.int .i64 0), (.bool false)] })]) (.s (.g [.freeze 2, .freeze 3] (.r [(0, { n := 3, agg := true }), (1, { n := 3, agg := true }), (4, { n := 3 })])) (.o))
theorem k19 : okF Try.prog Try.f19 h19 [(true, 3)] = true := by kernel_rfl

/- (couplet/frac.Frac).Div -/
def h20 : Hint := .s (.r [(0, { n := 3 }), (1, { n := 3 }), (2, { zero := [(.int .i64 0), (.int .i64 0), (.bool false)] })]) (.s (.g [.freeze 2, .freeze 3] (.r [(0, { n := 3, agg := true }), (1, { n := 3, agg := true }), (4, { n := 3 })])) (.o))
theorem k20 : okF Try.prog Try.f20 h20 [(true, 3)] = true := by kernel_rfl

/- (couplet/mat.Mat(couplet/frac.Frac)).At -/
def h21 : Hint := .s (.r [(0, { n := 3 }), (1, { zero := [(.int .i64 0), (.int .i64 0), (.bool false)] })]) (.s (.s (.r [(0, { n := 3, agg := true }), (9, { off := 0 }), (10, { n := 1, agg := false }), (19, { off := 1 }), (20, { n := 1, agg := false })]) (.s (.s (.r [(0, { zero := [(.int .i64 0), (.int .i64 0), (.bool false)] })]) (.s (.r [(0, { n := 3, agg := true }), (1, { n := 3 })]) (.o))) (.o))) (.s (.r [(0, { off := 2 }), (1, { n := 1, agg := false }), (3, { off := 1 }), (4, { n := 1, agg := false }), (8, { n := 3 }), (9, { n := 3, agg := true }), (10, { n := 3 })]) (.o)))
theorem k21 : okF Try.prog Try.f21 h21 [(true, 3)] = true := by kernel_rfl

/- couplet/coupletlaw07.sides -/
def h22 : Hint := .s (.o) (.s (.o) (.o))
theorem k22 : okF Try.prog Try.f22 h22 [(false, 0)] = true := by kernel_rfl

/- couplet/coupletlaw07.awake -/
def h23 : Hint := .s (.o) (.s (.r [(0, { n := 1 }), (5, { zero := [(.int .i64 0), (.int .i64 0), (.slice none 0 0)], acc := [(2, 3001)] }), (6, { n := 3 })]) (.s (.r [(0, { n := 3, agg := true }), (5, { zero := [(.int .i64 0), (.int .i64 0), (.slice none 0 0)], acc := [(2, 3003)] }), (6, { n := 3 })]) (.s (.r [(5, { n := 3, agg := true }), (6, { n := 1 }), (10, { n := 3, agg := true }), (14, { n := 3, agg := true })]) (.o))))
theorem k23 : okF Try.prog Try.f23 h23 [(false, 0)] = true := by kernel_rfl

/- couplet/mat.Whole(couplet/frac.Frac) -/
def h24 : Hint := .s (.r [(0, { zero := [(.int .i64 0), (.int .i64 0), (.slice none 0 0)], acc := [(2, 3006)] })]) (.s (.r [(7, { n := 3 })]) (.o))
theorem k24 : okF Try.prog Try.f24 h24 [(true, 3), (false, 0)] = true := by kernel_rfl

/- couplet/tri.Clear(couplet/frac.Frac) -/
def h25 : Hint := .s (.r [(0, { n := 3 }), (1, { zero := [(.int .i64 0), (.int .i64 0), (.slice none 0 0)], acc := [(2, 3002)] })]) (.s (.s (.r [(0, { n := 3, agg := true })]) (.s (.s (.r [(0, { zero := [(.int .i64 0), (.int .i64 0), (.slice none 0 0)], places := [(0, 1), (1, 1), (2, 1)] }), (1, { n := 3 })]) (.o)) (.o))) (.s (.r [(0, { zero := [(.int .i64 0), (.int .i64 0), (.bool false)] })]) (.s (.g [.freeze 4, .freeze 1] (.r [(0, { off := 0 }), (1, { n := 1, agg := false }), (6, { n := 3 })])) (.o))))
theorem k25 : okF Try.prog Try.f25 h25 [(true, 3), (false, 0)] = true := by kernel_rfl

/- couplet/tri.Diagonal(couplet/frac.Frac) -/
def h26 : Hint := .s (.r [(0, { n := 3 }), (1, { acc := [(0, 2)] })]) (.s (.r [(0, { zero := [(.slice none 0 0)], acc := [(0, 1003)] })]) (.s (.s (.r [(0, { n := 3, agg := true })]) (.b (.f [.row 3 0 5003] (.s (.o) (.o)) (.b (.s (.r [(0, { n := 3, agg := true })]) (.s (.r [(0, { n := 1, agg := false }), (3, { n := 3 }), (4, { n := 3, agg := true }), (5, { n := 3 }), (6, { n := 3, t := 24 }), (7, { n := 1 })]) (.o))))))) (.s (.r [(0, { n := 1, agg := false })]) (.o))))
theorem k26 : okF Try.prog Try.f26 h26 [(false, 0)] = true := by kernel_rfl

/- couplet/coupletlaw06.Alike -/
def h27 : Hint := .s (.r [(0, { n := 3 }), (1, { n := 3 })]) (.s (.s (.r [(0, { off := 0 }), (1, { n := 1, agg := false }), (2, { off := 0 }), (3, { n := 1, agg := false }), (6, { off := 1 }), (7, { n := 1, agg := false }), (8, { off := 1 }), (9, { n := 1, agg := false }), (13, { off := 2 }), (14, { n := 1, agg := false }), (16, { off := 2 }), (17, { n := 1, agg := false })]) (.s (.s (.o) (.o)) (.o))) (.s (.s (.r [(0, { off := 2 }), (1, { n := 1, agg := false })]) (.b (.l [.junk [0, 1, 4, 5, 6, 7, 8, 9, 10, 11, 12, 13, 14, 15, 16, 17, 18, 19, 20, 21, 22, 23, 24, 25, 26, 27, 28, 31, 32, 33, 34, 35, 36, 37, 38, 39, 40, 41, 42, 43, 44]] (.s (.o) (.s (.s (.o) (.o)) (.s (.b (.s (.o) (.s (.r [(0, { off := 2 }), (1, { n := 1, agg := false }), (3, { n := 3 }), (4, { n := 3, agg := true }), (5, { off := 2 }), (6, { n := 1, agg := false }), (8, { n := 3 }), (9, { n := 3, agg := true }), (10, { n := 2, ks := [some .i64, some .i64, none] })]) (.s (.s (.o) (.o)) (.o))))) (.o))))))) (.s (.o) (.o))))
theorem k27 : okF Try.prog Try.f27 h27 [(false, 0)] = true := by kernel_rfl

/- couplet/tri.Square(couplet/frac.Frac) -/
def h28 : Hint := .s (.r [(0, { n := 3 }), (1, { zero := [(.int .i64 0), (.int .i64 0), (.slice none 0 0)], acc := [(2, 3002)] })]) (.s (.s (.r [(0, { n := 3, agg := true })]) (.s (.s (.r [(0, { zero := [(.int .i64 0), (.int .i64 0), (.slice none 0 0)], places := [(0, 1), (1, 1), (2, 1)] }), (1, { n := 3 })]) (.o)) (.o))) (.s (.d [] [(0, { n := 3, agg := true }), (1, { n := 3, agg := true }), (7, { zero := [(.int .i64 0), (.int .i64 0), (.slice none 0 0)], acc := [(2, 3004)] }), (8, { n := 3 })]) (.s (.s (.o) (.s (.s (.r [(0, { zero := [(.int .i64 0), (.int .i64 0), (.slice none 0 0)], places := [(0, 1), (1, 1), (2, 1)] }), (1, { n := 3 })]) (.o)) (.o))) (.s (.r [(0, { n := 3, agg := true }), (4, { n := 3 })]) (.o)))))
theorem k28 : okF Try.prog Try.f28 h28 [(true, 3), (false, 0)] = true := by kernel_rfl

/- couplet/tri.Root(couplet/frac.Frac) -/
def h29 : Hint := .s (.r [(0, { n := 3 }), (1, { zero := [(.int .i64 0), (.int .i64 0), (.slice none 0 0)], acc := [(2, 3002)] })]) (.s (.s (.r [(0, { n := 3, agg := true })]) (.s (.s (.r [(0, { zero := [(.int .i64 0), (.int .i64 0), (.slice none 0 0)], places := [(0, 1), (1, 1), (2, 1)] }), (1, { n := 3 })]) (.o)) (.o))) (.s (.r [(0, { zero := [(.int .i64 0), (.int .i64 0), (.bool false)] })]) (.s (.r [(0, { off := 0 }), (1, { n := 1, agg := false }), (2, { zero := [(.slice none 0 0)], t := 24, agg := true }), (3, { zero := [(.slice none 0 0)], acc := [(0, 1005)] }), (4, { n := 1 })]) (.s (.s (.r [(0, { n := 1, agg := false })]) (.b (.l [.junk [0, 3, 6, 7, 8, 9, 10, 11, 12, 13, 14, 15, 16, 17, 18, 21, 22, 23, 24, 25, 26, 27, 28, 29, 30, 31, 32, 33, 34, 35, 36, 37, 38, 39, 40, 41, 42, 43, 44, 45, 46, 47, 48, 49, 50, 51, 52, 53, 54, 55, 56, 57, 58, 59, 60, 61, 62, 63, 64, 65, 66, 67, 68, 69, 70, 71, 72, 73, 74, 75, 76, 77, 78, 79, 80, 81, 82, 83, 84, 85, 86, 87, 88, 89, 90, 91, 92, 93, 94, 95, 96, 97, 98, 99]] (.s (.o) (.s (.s (.o) (.o)) (.s (.b (.s (.o) (.no))) (.o))))))) (.s (.g [.freeze 1, .freeze 5] (.o)) (.s (.s (.r [(0, { off := 0 }), (1, { n := 1, agg := false })]) (.b (.l [.junk [0, 3, 4, 6, 7, 9, 10, 11, 12, 13, 14, 15, 16, 17, 18, 19, 20, 21, 22, 23, 24, 25, 26, 27, 28, 29, 30, 31, 32, 33, 34, 35, 36, 37, 38, 39, 40, 41, 42, 43, 44, 45, 46, 47, 48, 49, 52, 53, 54, 55, 56, 57, 58, 59, 60, 61, 62, 63, 64, 65, 66, 67, 68, 69, 70, 71, 72, 73, 74, 75, 76, 77, 78, 79, 80, 81, 82, 83, 84, 85, 86, 87, 88, 89, 90, 91, 92, 93, 94, 95, 96, 97, 98, 99]] (.s (.o) (.s (.s (.o) (.o)) (.s (.b (.s (.o) (.s (.r [(0, { n := 1, agg := false }), (2, { n := 1 }), (3, { n := 1, agg := false }), (11, { n := 3 }), (12, { n := 3 })]) (.s (.o) (.b (.l [.junk [0, 3, 4, 6, 7, 11, 12, 13, 14, 15, 16, 17, 18, 19, 20, 21, 22, 23, 24, 25, 26, 27, 28, 29, 30, 31, 32, 33, 34, 35, 36, 37, 38, 39, 40, 41, 42, 43, 44, 45, 46, 47, 48, 49, 52, 53, 54, 55, 56, 57, 58, 59, 60, 61, 62, 63, 64, 65, 66, 67, 68, 69, 70, 71, 72, 73, 74, 75, 76, 77, 78, 79, 80, 81, 82, 83, 84, 85, 86, 87, 88, 89, 90, 91, 92, 93, 94, 95, 96, 97, 98, 99]] (.s (.s (.r [(1, { off := 0 }), (2, { n := 1, agg := false })]) (.s (.o) (.o))) (.s (.b (.r [(0, { n := 1, agg := false }), (2, { n := 1 }), (3, { n := 1, agg := false }), (10, { n := 1, agg := false }), (12, { n := 1 }), (13, { n := 1, agg := false }), (15, { n := 3 }), (16, { n := 3, agg := true }), (18, { n := 3 }), (19, { n := 3 })])) (.o))))))))) (.o))))))) (.s (.g [.freeze 5] (.r [(0, { off := 0 }), (1, { n := 1, agg := false }), (6, { n := 3 })])) (.o))))))))
theorem k29 : okF Try.prog Try.f29 h29 [(true, 3), (false, 0)] = true := by kernel_rfl

/- (couplet/mat.Mat(couplet/frac.Frac)).Mirror -/
def h30 : Hint := .s (.r [(0, { n := 3 }), (1, { zero := [(.int .i64 0), (.int .i64 0), (.slice none 0 0)], acc := [(2, 3002)] })]) (.s (.s (.r [(0, { n := 3, agg := true }), (4, { off := 0 }), (5, { n := 1, agg := false }), (6, { off := 1 }), (7, { n := 1, agg := false })]) (.s (.s (.r [(0, { zero := [(.int .i64 0), (.int .i64 0), (.slice none 0 0)], places := [(0, 1), (1, 1), (2, 1)] }), (1, { n := 3 })]) (.o)) (.o))) (.s (.r [(0, { off := 0 }), (1, { n := 1, agg := false }), (2, { off := 1 }), (3, { n := 1, agg := false }), (4, { zero := [(.int .i64 0), (.int .i64 0), (.slice none 0 0)], places := [(0, 1), (1, 1), (2, 1)] }), (5, { zero := [(.int .i64 0), (.int .i64 0), (.slice none 0 0)], acc := [(2, 3004)] }), (6, { n := 3 })]) (.s (.s (.r [(0, { off := 0 }), (1, { n := 1, agg := false })]) (.b (.l [.junk [0, 3, 5, 6, 7, 8, 9, 10, 11, 12, 13, 14, 15, 16, 17, 18, 19, 20, 21, 22, 23, 26, 27, 28, 29, 30, 31, 32, 33, 34, 35, 36, 37, 38, 39, 40, 41, 42, 43, 44, 45, 46, 47, 48], .row 2 2 15002, .row 4 2 15004] (.s (.o) (.s (.s (.o) (.o)) (.s (.b (.s (.o) (.s (.r [(0, { off := 1 }), (1, { n := 1, agg := false })]) (.b (.l [.junk [0, 3, 6, 7, 8, 9, 10, 11, 12, 13, 14, 15, 16, 17, 18, 19, 20, 21, 22, 23, 26, 27, 28, 31, 32, 33, 34, 35, 36, 37, 38, 39, 40, 41, 42, 43, 44, 45, 46, 47, 48], .row 2 2 15002, .row 4 2 15004] (.s (.o) (.s (.s (.o) (.o)) (.s (.b (.s (.o) (.r [(0, { off := 2 }), (1, { n := 1, agg := false }), (2, { n := 3, agg := true }), (10, { n := 3 }), (11, { n := 3, t := 24 }), (12, { off := 2 }), (13, { n := 1 })]))) (.o))))))))) (.o))))))) (.s (.r [(0, { n := 3, agg := true }), (1, { n := 3 })]) (.o)))))
theorem k30 : okF Try.prog Try.f30 h30 [(true, 3), (false, 0)] = true := by kernel_rfl

/- (couplet/mat.Mat(couplet/frac.Frac)).Row -/
def h31 : Hint := .s (.r [(0, { n := 3 }), (1, { acc := [(0, 4)] })]) (.s (.s (.r [(0, { n := 3, agg := true }), (9, { off := 0 }), (10, { n := 1, agg := false })]) (.s (.s (.r [(0, { acc := [(0, 4)] })]) (.o)) (.o))) (.s (.r [(0, { off := 2 }), (1, { n := 1, agg := false }), (3, { off := 1 }), (4, { n := 1, agg := false }), (8, { off := 1 }), (9, { n := 1, agg := false }), (11, { n := 3 })]) (.o)))
theorem k31 : okF Try.prog Try.f31 h31 [(false, 0)] = true := by kernel_rfl

/- (couplet/frac.Frac).Sign -/
def h32 : Hint := .s (.r [(0, { n := 3 })]) (.s (.b (.s (.r [(0, { n := 3, agg := true }), (4, { off := 0 }), (5, { n := 1, agg := false })]) (.s (.s (.o) (.o)) (.s (.r [(0, { off := 0 }), (1, { n := 1, agg := false })]) (.s (.s (.o) (.o)) (.o)))))) (.s (.o) (.o)))
theorem k32 : okF Try.prog Try.f32 h32 [(false, 0)] = true := by kernel_rfl

/- (couplet/mat.Mat(couplet/frac.Frac)).Turn -/
def h33 : Hint := .s (.r [(0, { n := 3 }), (1, { zero := [(.int .i64 0), (.int .i64 0), (.slice none 0 0)], acc := [(2, 3002)] })]) (.s (.s (.r [(0, { n := 3, agg := true })]) (.s (.s (.r [(0, { zero := [(.int .i64 0), (.int .i64 0), (.slice none 0 0)], places := [(0, 1), (1, 1), (2, 1)] }), (1, { n := 3 })]) (.o)) (.o))) (.s (.r [(0, { off := 1 }), (1, { n := 1, agg := false }), (2, { off := 0 }), (3, { n := 1, agg := false }), (4, { zero := [(.int .i64 0), (.int .i64 0), (.slice none 0 0)], places := [(0, 1), (1, 1), (2, 1)] }), (5, { zero := [(.int .i64 0), (.int .i64 0), (.slice none 0 0)], acc := [(2, 3003)] }), (6, { n := 3 })]) (.s (.s (.r [(0, { off := 1 }), (1, { n := 1, agg := false })]) (.b (.l [.junk [0, 4, 5, 6, 7, 8, 9, 10, 11, 12, 13, 14, 15, 18, 19, 20, 21, 22, 23, 24, 25, 26, 27, 28, 29, 30, 31, 32, 33, 34, 35, 36], .row 2 2 15002, .row 3 2 15003] (.s (.o) (.s (.s (.o) (.o)) (.s (.b (.s (.o) (.s (.r [(0, { off := 0 }), (1, { n := 1, agg := false })]) (.b (.l [.junk [0, 5, 6, 7, 8, 9, 10, 11, 12, 13, 14, 15, 18, 19, 20, 23, 24, 25, 26, 27, 28, 29, 30, 31, 32, 33, 34, 35, 36], .row 2 2 15002, .row 3 2 15003] (.s (.o) (.s (.s (.o) (.o)) (.s (.b (.s (.o) (.r [(0, { off := 2 }), (1, { n := 1, agg := false }), (2, { n := 3, agg := true }), (6, { n := 3 }), (7, { n := 3, t := 24 }), (8, { off := 2 }), (9, { n := 1 })]))) (.o))))))))) (.o))))))) (.s (.r [(0, { n := 3, agg := true }), (1, { n := 3 })]) (.o)))))
theorem k33 : okF Try.prog Try.f33 h33 [(true, 3)] = true := by kernel_rfl

/- couplet/coupletlaw06.Same -/
def h34 : Hint := .s (.r [(0, { n := 3 })]) (.s (.s (.r [(0, { off := 0 }), (1, { n := 1, agg := false }), (5, { off := 1 }), (6, { n := 1, agg := false }), (11, { off := 2 }), (12, { n := 1, agg := false })]) (.s (.s (.o) (.o)) (.o))) (.s (.s (.r [(0, { off := 2 }), (1, { n := 1, agg := false })]) (.b (.l [.junk [0, 1, 2, 4, 5, 6, 7, 8, 9, 10, 11, 12, 13, 14, 15, 16, 17, 18, 19, 20, 21, 22, 23, 24, 25, 26, 27, 28, 29, 33, 34, 35, 36, 37, 38, 39, 40, 41, 42, 43, 44], .drop [10]] (.s (.o) (.s (.s (.o) (.o)) (.s (.b (.s (.r [(1, { n := 3 }), (2, { n := 3, agg := true }), (3, { zero := [(.int .i64 0), (.int .i64 0), (.bool false)] }), (5, { n := 3 })]) (.s (.r [(0, { n := 3, agg := true }), (3, { n := 1 }), (4, { n := 1, agg := false }), (6, { n := 2, ks := [some .i64, some .i64, none] })]) (.s (.s (.o) (.o)) (.o))))) (.o))))))) (.s (.o) (.o))))
theorem k34 : okF Try.prog Try.f34 h34 [(false, 0)] = true := by kernel_rfl

/- couplet/coupletref06.Mul -/
def h35 : Hint := .s (.r [(0, { acc := [(0, 10)] })]) (.s (.r [(0, { acc := [(0, 11)] })]) (.s (.s (.o) (.b (.l [.junk [5, 6, 7, 8, 9, 10, 13, 14, 15, 16, 17, 18, 19, 20, 21, 22, 23, 24, 25, 26, 27, 28, 29, 30, 31, 32, 33, 34, 35, 36, 37, 38, 39, 40, 41, 42, 43, 44, 45, 46, 47, 48, 49, 50, 51, 52, 53, 54]] (.s (.s (.o) (.s (.o) (.o))) (.s (.b (.s (.o) (.b (.l [.junk [5, 6, 7, 8, 9, 10, 14, 15, 16, 17, 18, 19, 20, 21, 22, 23, 24, 25, 26, 27, 28, 29, 30, 31, 32, 33, 34, 35, 36, 37, 38, 39, 40, 41, 42, 43, 44, 45, 46, 47, 48, 49, 50, 51, 52, 53, 54]] (.s (.s (.o) (.s (.o) (.o))) (.s (.b (.s (.o) (.s (.s (.o) (.b (.l [.junk [5, 6, 7, 8, 9, 10, 16, 17, 18, 19, 20, 21, 22, 23, 24, 25, 26, 27, 28, 29, 30, 31, 32, 33, 34, 35, 36, 37, 38, 39, 40, 41, 42, 43, 44, 45, 46, 47, 48, 49, 50, 51, 52, 53, 54]] (.s (.s (.o) (.s (.o) (.o))) (.s (.b (.r [(7, { n := 1 }), (8, { n := 1, agg := false }), (15, { n := 1 }), (16, { n := 1, agg := false })])) (.o)))))) (.r [(2, { n := 1 }), (3, { n := 1, t := 8 })])))) (.o))))))) (.o)))))) (.s (.o) (.o))))
theorem k35 : okF Try.prog Try.f35 h35 [(false, 0)] = true := by kernel_rfl

/- couplet/coupletref07.Turn -/
def h36 : Hint := .s (.r [(0, { acc := [(0, 4)] })]) (.s (.r [(0, { acc := [(0, 5)] })]) (.s (.s (.o) (.b (.l [.junk [2, 3, 4, 7, 8, 9, 10, 11, 12, 13, 14, 15, 16, 17, 18, 19, 20, 21, 22, 23, 24, 25, 26, 27, 28, 29]] (.s (.s (.o) (.s (.o) (.o))) (.s (.b (.s (.o) (.b (.l [.junk [2, 3, 4, 8, 9, 10, 11, 12, 13, 14, 15, 16, 17, 18, 19, 20, 21, 22, 23, 24, 25, 26, 27, 28, 29]] (.s (.s (.o) (.s (.o) (.o))) (.s (.b (.r [(7, { n := 1 }), (8, { n := 1, agg := false }), (9, { n := 1 }), (10, { n := 1, t := 8 })])) (.o))))))) (.o)))))) (.s (.o) (.o))))
theorem k36 : okF Try.prog Try.f36 h36 [(false, 0)] = true := by kernel_rfl

/- couplet/coupletlaw06.Few -/
def h37 : Hint := .s (.o) (.s (.s (.o) (.b (.l [.junk [1, 2, 4, 5, 6, 7, 8, 9, 10, 11, 12, 13, 14, 15, 16, 17, 18, 19, 20, 21, 22, 23, 24, 25, 26, 27, 28]] (.s (.s (.o) (.s (.o) (.o))) (.s (.b (.s (.r [(2, { n := 1 }), (3, { n := 1, agg := false }), (8, { n := 1 }), (9, { n := 1, agg := false })]) (.s (.s (.o) (.o)) (.o)))) (.o)))))) (.s (.o) (.o)))
theorem k37 : okF Try.prog Try.f37 h37 [(false, 0)] = true := by kernel_rfl

/- couplet/tri.Is(couplet/frac.Frac) -/
def h38 : Hint := .s (.r [(0, { n := 3 }), (1, { n := 1 }), (2, { zero := [(.bool false)] })]) (.s (.s (.r [(0, { n := 3, agg := true })]) (.b (.f [] (.s (.o) (.o)) (.b (.s (.o) (.b (.l [.junk [0, 1, 5, 8, 9, 10, 11, 12, 13, 14, 15, 16, 17, 18, 19, 20, 21, 22, 23, 24, 25, 26, 27, 28]] (.s (.s (.r [(1, { off := 1 }), (2, { n := 1, agg := false })]) (.s (.o) (.o))) (.s (.b (.s (.r [(0, { n := 1, agg := false }), (3, { n := 3 }), (4, { n := 3, agg := true })]) (.s (.s (.r [(0, { n := 1 })]) (.o)) (.o)))) (.o)))))))))) (.s (.r [(0, { n := 3, agg := true }), (2, { n := 1 })]) (.o)))
theorem k38 : okF Try.prog Try.f38 h38 [(false, 1)] = true := by kernel_rfl

/- couplet/coupletlaw07.TriTells$1 -/
def h39 : Hint := .s (.r [(0, { n := 3 })]) (.s (.o) (.o))
theorem k39 : okF Try.prog Try.f39 h39 [(false, 0)] = true := by kernel_rfl

/- couplet/coupletlaw07.TriTells$2 -/
def h40 : Hint := .s (.r [(0, { n := 3 })]) (.s (.r [(0, { off := 0 }), (1, { n := 1, agg := false })]) (.o))
theorem k40 : okF Try.prog Try.f40 h40 [(false, 0)] = true := by kernel_rfl

/- couplet/coupletref07.Clear -/
def h41 : Hint := .s (.r [(0, { acc := [(0, 4)] })]) (.s (.r [(0, { acc := [(0, 5)] })]) (.s (.s (.o) (.b (.l [.junk [2, 3, 4, 7, 8, 9, 10, 11, 12, 13, 14, 15, 16, 17, 18, 19, 20, 21, 22, 23, 24, 25, 26, 27, 28, 29, 30, 31, 32, 33, 34, 35]] (.s (.s (.o) (.s (.o) (.o))) (.s (.b (.s (.o) (.b (.l [.junk [2, 3, 4, 8, 9, 10, 11, 12, 13, 14, 15, 16, 17, 18, 19, 20, 21, 22, 23, 24, 25, 26, 27, 28, 29, 30, 31, 32, 33, 34, 35]] (.s (.s (.o) (.s (.o) (.o))) (.s (.b (.s (.o) (.s (.r [(1, { n := 1 }), (2, { n := 1, t := 8 })]) (.r [(7, { n := 1 }), (8, { n := 1, agg := false }), (9, { n := 1 }), (10, { n := 1, t := 8 })])))) (.o))))))) (.o)))))) (.s (.o) (.o))))
theorem k41 : okF Try.prog Try.f41 h41 [(false, 0)] = true := by kernel_rfl

/- couplet/coupletref07.Square -/
def h42 : Hint := .s (.r [(0, { acc := [(0, 4)] })]) (.s (.o) (.o))
theorem k42 : okF Try.prog Try.f42 h42 [(false, 0)] = true := by kernel_rfl

/- couplet/joseph.New(couplet/frac.Frac) -/
def h43 : Hint := .s (.r [(0, { n := 3 }), (1, { zero := [(.slice none 0 0), (.int .i64 0), (.int .i64 0), (.slice none 0 0)], acc := [(0, 1004), (3, 4004)] })]) (.s (.r [(0, { n := 3, agg := true }), (5, { zero := [(.int .i64 0), (.int .i64 0), (.slice none 0 0)], acc := [(2, 3006)] }), (6, { n := 3 })]) (.s (.d [] [(2, { n := 3, agg := true }), (3, { zero := [(.slice none 0 0), (.int .i64 0), (.int .i64 0), (.slice none 0 0)], places := [(0, 1), (1, 3)] }), (4, { zero := [(.slice none 0 0), (.int .i64 0), (.int .i64 0), (.slice none 0 0)], acc := [(0, 1008), (3, 4008)] }), (5, { n := 4 })]) (.s (.s (.r [(3, { n := 4, agg := true })]) (.s (.s (.r [(0, { zero := [(.slice none 0 0), (.int .i64 0), (.int .i64 0), (.slice none 0 0)], places := [(0, 1), (1, 3)] }), (1, { n := 4 })]) (.o)) (.o))) (.s (.r [(0, { n := 4, agg := true }), (1, { n := 4 })]) (.o)))))
theorem k43 : okF Try.prog Try.f43 h43 [(true, 4), (false, 0)] = true := by kernel_rfl

/- (couplet/joseph.State(couplet/frac.Frac)).Right -/
def h44 : Hint := .s (.r [(0, { n := 4 })]) (.s (.r [(0, { off := 0 }), (1, { n := 1, agg := false })]) (.s (.r [(7, { off := 1 }), (8, { n := 3, agg := true }), (12, { off := 1 }), (13, { off := 0 }), (14, { n := 1, agg := false }), (19, { off := 1 }), (20, { off := 1 }), (21, { n := 1, agg := false })]) (.o)))
theorem k44 : okF Try.prog Try.f44 h44 [(false, 0)] = true := by kernel_rfl

/- couplet/mat.New(couplet/frac.Frac) -/
def h45 : Hint := .s (.r [(0, { zero := [(.int .i64 0), (.int .i64 0), (.slice none 0 0)], acc := [(2, 3006)] })]) (.s (.r [(4, { zero := [(.int .i64 0), (.int .i64 0), (.slice none 0 0)], places := [(0, 1), (1, 1), (2, 1)] }), (5, { zero := [(.int .i64 0), (.int .i64 0), (.slice none 0 0)], acc := [(2, 3008)] }), (6, { n := 3 })]) (.s (.s (.r [(0, { n := 3, agg := true })]) (.s (.s (.r [(0, { zero := [(.int .i64 0), (.int .i64 0), (.slice none 0 0)], places := [(0, 1), (1, 1), (2, 1)] }), (1, { n := 3 })]) (.o)) (.o))) (.s (.r [(0, { n := 3, agg := true }), (1, { n := 3 })]) (.o))))
theorem k45 : okF Try.prog Try.f45 h45 [(true, 3), (false, 0)] = true := by kernel_rfl

/- couplet/mat.Unit(couplet/frac.Frac) -/
def h46 : Hint := .s (.r [(0, { zero := [(.int .i64 0), (.int .i64 0), (.slice none 0 0)], acc := [(2, 3002)] })]) (.s (.s (.o) (.s (.s (.r [(0, { zero := [(.int .i64 0), (.int .i64 0), (.slice none 0 0)], places := [(0, 1), (1, 1), (2, 1)] }), (1, { n := 3 })]) (.o)) (.o))) (.s (.r [(3, { zero := [(.int .i64 0)], t := 8 })]) (.s (.s (.o) (.b (.l [.junk [1, 3, 5, 6, 7, 8, 9, 10, 11, 12, 13, 14, 15, 16, 19, 20, 21, 22, 23, 24, 25, 26, 27, 28, 29, 30, 31, 32, 33, 34]] (.s (.o) (.s (.s (.o) (.o)) (.s (.b (.s (.o) (.r [(6, { n := 1 }), (7, { n := 1 })]))) (.o))))))) (.s (.g [.shut 16] (.r [(6, { n := 3 })])) (.o)))))
theorem k46 : okF Try.prog Try.f46 h46 [(true, 3), (false, 0)] = true := by kernel_rfl

/- (couplet/mat.Mat(couplet/frac.Frac)).Mul -/
def h47 : Hint := .s (.r [(0, { n := 3 }), (1, { n := 3 }), (2, { zero := [(.int .i64 0), (.int .i64 0), (.slice none 0 0)], acc := [(2, 3004)] })]) (.s (.s (.r [(0, { n := 3, agg := true }), (4, { n := 3, agg := true }), (9, { off := 1 }), (10, { n := 1, agg := false }), (11, { off := 0 }), (12, { n := 1, agg := false })]) (.s (.s (.r [(0, { zero := [(.int .i64 0), (.int .i64 0), (.slice none 0 0)], places := [(0, 1), (1, 1), (2, 1)] }), (1, { n := 3 })]) (.o)) (.o))) (.s (.r [(0, { off := 0 }), (1, { n := 1, agg := false }), (2, { off := 1 }), (3, { n := 1, agg := false }), (4, { zero := [(.int .i64 0), (.int .i64 0), (.slice none 0 0)], places := [(0, 1), (1, 1), (2, 1)] }), (5, { zero := [(.int .i64 0), (.int .i64 0), (.slice none 0 0)], acc := [(2, 3006)] }), (6, { n := 3 })]) (.s (.r [(0, { n := 3, agg := true }), (2, { zero := [(.int .i64 0), (.int .i64 0), (.slice none 0 0)], acc := [(2, 3007)] }), (3, { n := 3 })]) (.s (.s (.r [(0, { n := 3, agg := true })]) (.b (.f [.drop [9], .forget 1009, .row 4 2 15004, .row 6 2 15006, .row 7 2 15007] (.r [(0, { zero := [(.slice none 0 0)], acc := [(0, 1009)] }), (1, { n := 1 })]) (.b (.s (.r [(0, { n := 3, agg := true })]) (.b (.f [.row 4 2 15004, .row 6 2 15006, .row 7 2 15007, .row 9 0 5009] (.o) (.b (.r [(0, { off := 2 }), (1, { n := 1, agg := false }), (2, { n := 1, agg := false }), (5, { n := 3 }), (6, { n := 3, t := 24 }), (7, { off := 2 }), (8, { n := 1 })]))))))))) (.s (.r [(0, { n := 3, agg := true }), (1, { n := 3 })]) (.o))))))
theorem k47 : okF Try.prog Try.f47 h47 [(true, 3), (false, 0)] = true := by kernel_rfl

/- (couplet/mat.Mat(couplet/frac.Frac)).Sub -/
def h48 : Hint := .s (.r [(0, { n := 3 }), (1, { n := 3 }), (2, { zero := [(.int .i64 0), (.int .i64 0), (.slice none 0 0)], acc := [(2, 3004)] })]) (.s (.r [(0, { n := 3, agg := true }), (1, { n := 3, agg := true }), (5, { n := 3 })]) (.o))
theorem k48 : okF Try.prog Try.f48 h48 [(true, 3), (false, 0)] = true := by kernel_rfl

/- couplet/vec.Scale(couplet/frac.Frac) -/
def h49 : Hint := .s (.r [(0, { n := 3 }), (1, { acc := [(0, 4)] })]) (.s (.r [(0, { acc := [(0, 5)] })]) (.s (.s (.o) (.b (.l [.junk [0, 1, 2, 4, 6, 7, 11, 12, 13, 14, 15, 16, 17, 18, 19, 20, 21, 22], .drop [7]] (.s (.o) (.s (.s (.o) (.o)) (.s (.b (.s (.r [(0, { n := 3 }), (1, { n := 3, agg := true }), (2, { zero := [(.int .i64 0), (.int .i64 0), (.bool false)] }), (3, { n := 3 })]) (.r [(1, { n := 3, agg := true }), (3, { n := 3, agg := true }), (5, { n := 3 }), (6, { n := 3, t := 24 })]))) (.o))))))) (.s (.o) (.o))))
theorem k49 : okF Try.prog Try.f49 h49 [(false, 0)] = true := by kernel_rfl

/- couplet/joseph.turned(couplet/frac.Frac) -/
def h50 : Hint := .s (.r [(0, { n := 3 }), (1, { n := 3 }), (2, { n := 3 }), (3, { zero := [(.int .i64 0), (.int .i64 0), (.slice none 0 0)], acc := [(2, 3006)] })]) (.s (.r [(0, { n := 3, agg := true }), (1, { n := 3, agg := true }), (6, { zero := [(.int .i64 0), (.int .i64 0), (.slice none 0 0)], acc := [(2, 3008)] }), (7, { n := 3 })]) (.s (.d [] [(0, { n := 3, agg := true }), (1, { n := 3, agg := true }), (7, { zero := [(.int .i64 0), (.int .i64 0), (.slice none 0 0)], acc := [(2, 3010)] }), (8, { n := 3 })]) (.s (.r [(0, { n := 3, agg := true }), (1, { n := 3, agg := true }), (6, { zero := [(.int .i64 0), (.int .i64 0), (.slice none 0 0)], acc := [(2, 3012)] }), (7, { n := 3 })]) (.s (.s (.o) (.s (.s (.r [(0, { zero := [(.int .i64 0), (.int .i64 0), (.slice none 0 0)], places := [(0, 1), (1, 1), (2, 1)] }), (1, { n := 3 })]) (.o)) (.o))) (.s (.r [(0, { n := 3, agg := true }), (4, { n := 3 })]) (.o))))))
theorem k50 : okF Try.prog Try.f50 h50 [(true, 3), (false, 0)] = true := by kernel_rfl

/- couplet/vec.Add(couplet/frac.Frac) -/
def h51 : Hint := .s (.r [(0, { acc := [(0, 4)] })]) (.s (.o) (.o))
theorem k51 : okF Try.prog Try.f51 h51 [(false, 0)] = true := by kernel_rfl

/- couplet/frac.Wrong -/
def h52 : Hint := .s (.r [(0, { zero := [(.int .i64 0), (.int .i64 0), (.bool false)] })]) (.s (.r [(0, { zero := [(.int .i64 0), (.int .i64 0), (.bool false)], places := [(0, 1), (1, 1), (2, 1)] }), (1, { n := 3 })]) (.o))
theorem k52 : okF Try.prog Try.f52 h52 [(true, 3)] = true := by kernel_rfl

/- couplet/frac.common -/
def h53 : Hint := .s (.o) (.s (.o) (.s (.b (.l [.junk [2, 3, 4, 5, 6, 7, 8, 9, 10, 11, 12, 13, 14, 15, 16, 17, 18, 19]] (.s (.s (.o) (.s (.o) (.o))) (.b (.o))))) (.s (.o) (.o))))
theorem k53 : okF Try.prog Try.f53 h53 [(false, 0)] = true := by kernel_rfl

/- (couplet/mat.Mat(couplet/frac.Frac)).Right -/
def h54 : Hint := .s (.r [(0, { n := 3 })]) (.s (.o) (.s (.r [(1, { off := 0 }), (2, { n := 1, agg := false }), (6, { off := 1 }), (7, { n := 1, agg := false }), (11, { off := 2 }), (12, { n := 1, agg := false }), (14, { off := 0 }), (15, { n := 1, agg := false }), (16, { off := 1 }), (17, { n := 1, agg := false })]) (.o)))
theorem k54 : okF Try.prog Try.f54 h54 [(false, 0)] = true := by kernel_rfl

/- (couplet/mat.Mat(couplet/frac.Frac)).All -/
def h55 : Hint := .s (.r [(0, { n := 3 })]) (.s (.g [.freeze 1] (.o)) (.o))
theorem k55 : okF Try.prog Try.f55 h55 [(false, 0)] = true := by kernel_rfl

/- (couplet/frac.Frac).Neg -/
def h56 : Hint := .s (.r [(0, { n := 3 }), (1, { zero := [(.int .i64 0), (.int .i64 0), (.bool false)] })]) (.s (.g [.freeze 1] (.r [(0, { n := 3, agg := true }), (1, { n := 3, agg := true }), (4, { n := 3 })])) (.o))
theorem k56 : okF Try.prog Try.f56 h56 [(true, 3)] = true := by kernel_rfl

/- couplet/vec.Sum(couplet/frac.Frac) -/
def h57 : Hint := .s (.r [(0, { zero := [(.int .i64 0), (.int .i64 0), (.bool false)] })]) (.s (.r [(0, { zero := [(.int .i64 0), (.int .i64 0), (.bool false)] })]) (.s (.r [(0, { n := 3, agg := true }), (3, { zero := [(.int .i64 0), (.int .i64 0), (.bool false)] }), (4, { n := 3 })]) (.s (.s (.o) (.b (.l [.junk [0, 1, 3, 5, 6, 7, 8, 9, 13, 14, 15, 16, 17, 18, 19, 20, 21], .drop [6]] (.s (.o) (.s (.s (.o) (.o)) (.s (.b (.s (.r [(0, { n := 3 }), (1, { n := 3, agg := true }), (2, { zero := [(.int .i64 0), (.int .i64 0), (.bool false)] }), (3, { n := 3 })]) (.r [(0, { n := 3, agg := true }), (2, { n := 3, agg := true }), (4, { n := 3 })]))) (.o))))))) (.s (.r [(0, { n := 3, agg := true }), (1, { n := 3 })]) (.o)))))
theorem k57 : okF Try.prog Try.f57 h57 [(true, 3)] = true := by kernel_rfl

/- couplet/vec.of(couplet/frac.Frac) -/
def h58 : Hint := .s (.r [(0, { n := 1 }), (1, { acc := [(0, 6)] })]) (.s (.r [(0, { zero := [(.slice none 0 0)], acc := [(0, 1007)] })]) (.s (.s (.o) (.b (.f [.drop [8, 9], .row 7 0 5007] (.s (.r [(0, { zero := [(.int .i64 0), (.int .i64 0), (.bool false)] }), (1, { n := 3 })]) (.r [(0, { zero := [(.int .i64 0), (.int .i64 0), (.bool false)] }), (1, { n := 3 })])) (.b (.r [(0, { n := 1, agg := false }), (1, { n := 1, agg := false }), (2, { n := 3, agg := true }), (3, { n := 3, agg := true }), (5, { n := 3 }), (6, { n := 3, t := 24 }), (7, { n := 1 })]))))) (.s (.r [(0, { n := 1, agg := false })]) (.o))))
theorem k58 : okF Try.prog Try.f58 h58 [(false, 0)] = true := by kernel_rfl

/- couplet/vec.Dot(couplet/frac.Frac)$1 -/
def h59 : Hint := .s (.r [(0, { n := 3 }), (1, { n := 3 }), (2, { zero := [(.int .i64 0), (.int .i64 0), (.bool false)] })]) (.s (.r [(0, { n := 3, agg := true }), (2, { n := 3, agg := true }), (4, { n := 3 })]) (.o))
theorem k59 : okF Try.prog Try.f59 h59 [(true, 3)] = true := by kernel_rfl

/- (couplet/frac.Frac).Fine -/
def h60 : Hint := .s (.r [(0, { n := 3 })]) (.s (.r [(0, { off := 2 }), (1, { n := 1, agg := false }), (4, { off := 1 }), (5, { n := 1, agg := false }), (9, { off := 1 }), (10, { n := 1, agg := false }), (14, { off := 0 }), (15, { n := 1, agg := false }), (19, { off := 0 }), (20, { n := 1, agg := false }), (24, { off := 0 }), (25, { n := 1, agg := false }), (26, { off := 1 }), (27, { n := 1, agg := false }), (29, { n := 3, agg := true }), (30, { n := 2, ks := [some .i64, some .i64, none] })]) (.o))
theorem k60 : okF Try.prog Try.f60 h60 [(false, 0)] = true := by kernel_rfl

/- couplet/frac.of -/
def h61 : Hint := .s (.r [(0, { n := 3 }), (1, { n := 3 }), (2, { zero := [(.int .i64 0), (.int .i64 0), (.bool false)] })]) (.s (.s (.r [(0, { n := 3, agg := true }), (4, { n := 3, agg := true })]) (.s (.s (.r [(1, { n := 3 })]) (.o)) (.o))) (.s (.r [(5, { n := 3 })]) (.o)))
theorem k61 : okF Try.prog Try.f61 h61 [(true, 3)] = true := by kernel_rfl

/- (couplet/frac.Frac).Mul$1 -/
def h62 : Hint := .s (.o) (.s (.r [(0, { off := 0 }), (1, { n := 1, agg := false }), (2, { off := 0 }), (3, { n := 1, agg := false }), (5, { off := 1 }), (6, { n := 1, agg := false }), (7, { off := 1 }), (8, { n := 1, agg := false })]) (.o))
theorem k62 : okF Try.prog Try.f62 h62 [(false, 0), (false, 0)] = true := by kernel_rfl

/- (couplet/frac.Frac).Div$1 -/
def h63 : Hint := .s (.o) (.s (.r [(0, { off := 0 }), (1, { n := 1, agg := false }), (2, { off := 1 }), (3, { n := 1, agg := false }), (5, { off := 1 }), (6, { n := 1, agg := false }), (7, { off := 0 }), (8, { n := 1, agg := false })]) (.o))
theorem k63 : okF Try.prog Try.f63 h63 [(false, 0), (false, 0)] = true := by kernel_rfl

/- couplet/coupletlaw07.awake$1 -/
def h64 : Hint := .s (.r [(0, { n := 3 })]) (.s (.r [(0, { off := 0 }), (1, { n := 1, agg := false })]) (.o))
theorem k64 : okF Try.prog Try.f64 h64 [(false, 0)] = true := by kernel_rfl

/- couplet/tri.square(couplet/frac.Frac) -/
def h65 : Hint := .s (.r [(0, { n := 3 })]) (.s (.r [(0, { n := 3, agg := true }), (3, { off := 0 }), (4, { n := 1, agg := false }), (5, { off := 1 }), (6, { n := 1, agg := false })]) (.o))
theorem k65 : okF Try.prog Try.f65 h65 [(false, 0)] = true := by kernel_rfl

/- couplet/tri.made(couplet/frac.Frac) -/
def h66 : Hint := .s (.r [(0, { zero := [(.int .i64 0), (.int .i64 0), (.slice none 0 0)], acc := [(2, 3004)] })]) (.s (.r [(0, { acc := [(0, 6)] })]) (.s (.s (.o) (.b (.l [.junk [2, 3, 5, 7, 8, 11, 12, 13, 14, 15, 16, 17, 18, 19, 20, 21, 22, 23, 24, 25, 26, 27, 28, 29, 30, 31], .row 4 2 15004] (.s (.o) (.s (.s (.o) (.o)) (.s (.b (.s (.o) (.s (.o) (.b (.l [.junk [2, 3, 5, 8, 11, 12, 15, 16, 17, 18, 19, 20, 21, 22, 23, 24, 25, 26, 27, 28, 29, 30, 31], .row 4 2 15004] (.s (.o) (.s (.s (.o) (.o)) (.s (.b (.s (.o) (.r [(5, { n := 3 }), (6, { n := 3, t := 24 })]))) (.o))))))))) (.o))))))) (.s (.r [(6, { n := 3 })]) (.o))))
theorem k66 : okF Try.prog Try.f66 h66 [(true, 3), (false, 0)] = true := by kernel_rfl

/- couplet/tri.Clear(couplet/frac.Frac)$1 -/
def h67 : Hint := .s (.r [(0, { zero := [(.int .i64 0), (.int .i64 0), (.bool false)] })]) (.s (.s (.o) (.s (.s (.r [(0, { n := 3, agg := true }), (3, { n := 3 })]) (.o)) (.o))) (.s (.r [(0, { n := 3, agg := true }), (4, { n := 3 })]) (.o)))
theorem k67 : okF Try.prog Try.f67 h67 [(true, 3)] = true := by kernel_rfl

/- couplet/tri.Root(couplet/frac.Frac)$1 -/
def h68 : Hint := .s (.r [(0, { zero := [(.int .i64 0), (.int .i64 0), (.bool false)] })]) (.s (.r [(0, { n := 3, agg := true }), (5, { n := 1, agg := false }), (7, { n := 1 }), (8, { n := 1, agg := false }), (10, { n := 3 }), (11, { n := 1, agg := false }), (13, { n := 1 }), (14, { n := 1, agg := false }), (16, { n := 3 }), (19, { n := 3 })]) (.o))
theorem k68 : okF Try.prog Try.f68 h68 [(true, 3)] = true := by kernel_rfl

/- couplet/tri.Root(couplet/frac.Frac)$2 -/
def h69 : Hint := .s (.r [(0, { zero := [(.int .i64 0), (.int .i64 0), (.bool false)] })]) (.s (.r [(0, { n := 1, agg := false }), (2, { n := 1 }), (3, { n := 1, agg := false }), (5, { n := 3 }), (6, { n := 3, agg := true }), (7, { n := 3 })]) (.o))
theorem k69 : okF Try.prog Try.f69 h69 [(true, 3)] = true := by kernel_rfl

/- slices.Clone(()couplet/frac.Frac,couplet/frac.Frac) -/
def h70 : Hint := .s (.r [(0, { acc := [(0, 2)] })]) (.s (.s (.r [(1, { n := 3, t := 1 })]) (.s (.s (.r [(0, { acc := [(0, 2)] })]) (.o)) (.o))) (.s (.r [(0, { n := 3 }), (2, { n := 3, t := 24 })]) (.o)))
theorem k70 : okF Try.prog Try.f70 h70 [(false, 0)] = true := by kernel_rfl

/- (couplet/mat.Mat(couplet/frac.Frac)).each -/
def h71 : Hint := .s (.r [(0, { n := 3 }), (1, { n := 3 }), (2, { zero := [(.int .i64 0), (.int .i64 0), (.slice none 0 0)], acc := [(2, 3006)] })]) (.s (.s (.r [(0, { n := 3, agg := true }), (4, { n := 3, agg := true }), (9, { off := 0 }), (10, { n := 1, agg := false }), (11, { off := 0 }), (12, { n := 1, agg := false }), (16, { off := 1 }), (17, { n := 1, agg := false }), (18, { off := 1 }), (19, { n := 1, agg := false })]) (.s (.s (.r [(0, { zero := [(.int .i64 0), (.int .i64 0), (.slice none 0 0)], places := [(0, 1), (1, 1), (2, 1)] }), (1, { n := 3 })]) (.o)) (.o))) (.s (.r [(0, { off := 0 }), (1, { n := 1, agg := false }), (2, { off := 1 }), (3, { n := 1, agg := false }), (5, { off := 2 }), (6, { n := 1, agg := false }), (7, { off := 2 }), (8, { n := 1, agg := false }), (10, { zero := [(.int .i64 0), (.int .i64 0), (.slice none 0 0)], places := [(0, 1), (1, 1), (2, 1)] }), (11, { n := 3 })]) (.o)))
theorem k71 : okF Try.prog Try.f71 h71 [(true, 3), (false, 0)] = true := by kernel_rfl

/- couplet/vec.Sub(couplet/frac.Frac) -/
def h72 : Hint := .s (.r [(0, { acc := [(0, 4)] })]) (.s (.o) (.o))
theorem k72 : okF Try.prog Try.f72 h72 [(false, 0)] = true := by kernel_rfl

/- (couplet/mat.Mat(couplet/frac.Frac)).Add -/
def h73 : Hint := .s (.r [(0, { n := 3 }), (1, { n := 3 }), (2, { zero := [(.int .i64 0), (.int .i64 0), (.slice none 0 0)], acc := [(2, 3004)] })]) (.s (.r [(0, { n := 3, agg := true }), (1, { n := 3, agg := true }), (5, { n := 3 })]) (.o))
theorem k73 : okF Try.prog Try.f73 h73 [(true, 3), (false, 0)] = true := by kernel_rfl

/- couplet/vec.Add(couplet/frac.Frac)$1 -/
def h74 : Hint := .s (.r [(0, { n := 3 }), (1, { n := 3 }), (2, { zero := [(.int .i64 0), (.int .i64 0), (.bool false)] })]) (.s (.r [(0, { n := 3, agg := true }), (2, { n := 3, agg := true }), (4, { n := 3 })]) (.o))
theorem k74 : okF Try.prog Try.f74 h74 [(true, 3)] = true := by kernel_rfl

/- (couplet/mat.Mat(couplet/frac.Frac)).Right$1 -/
def h75 : Hint := .s (.o) (.s (.o) (.o))
theorem k75 : okF Try.prog Try.f75 h75 [(false, 0)] = true := by kernel_rfl

/- (couplet/mat.Mat(couplet/frac.Frac)).All$1 -/
def h76 : Hint := .s (.o) (.b (.l [.junk [2, 4, 5, 6, 7, 8, 9, 10, 11, 12, 13, 14, 15, 16, 17, 18, 19, 20]] (.s (.s (.r [(0, { n := 3, agg := true }), (4, { off := 0 }), (5, { n := 1, agg := false })]) (.s (.o) (.o))) (.s (.b (.s (.r [(2, { n := 3, agg := true })]) (.s (.o) (.o)))) (.o)))))
theorem k76 : okF Try.prog Try.f76 h76 [] = true := by kernel_rfl

/- (couplet/frac.Frac).Neg$1 -/
def h77 : Hint := .s (.o) (.s (.r [(0, { off := 0 }), (1, { n := 1, agg := false }), (3, { off := 1 }), (4, { n := 1, agg := false })]) (.o))
theorem k77 : okF Try.prog Try.f77 h77 [(false, 0), (false, 0)] = true := by kernel_rfl

/- couplet/vec.Pairs(couplet/frac.Frac) -/
def h78 : Hint := .s (.r [(0, { n := 1 }), (1, { n := 1 })]) (.s (.g [.freeze 2, .freeze 3] (.o)) (.o))
theorem k78 : okF Try.prog Try.f78 h78 [(false, 0)] = true := by kernel_rfl

/- couplet/vec.Sub(couplet/frac.Frac)$1 -/
def h79 : Hint := .s (.r [(0, { n := 3 }), (1, { n := 3 }), (2, { zero := [(.int .i64 0), (.int .i64 0), (.bool false)] })]) (.s (.r [(0, { n := 3, agg := true }), (2, { n := 3, agg := true }), (4, { n := 3 })]) (.o))
theorem k79 : okF Try.prog Try.f79 h79 [(true, 3)] = true := by kernel_rfl

/- couplet/vec.Pairs(couplet/frac.Frac)$1 -/
def h80 : Hint := .s (.r [(0, { n := 1, agg := false }), (2, { n := 1, agg := false })]) (.b (.l [.junk [3, 4, 5, 6, 7, 8, 11, 12, 13, 14, 15, 16, 17, 18, 19, 20, 21, 22, 23, 24]] (.s (.o) (.s (.s (.o) (.o)) (.s (.b (.s (.o) (.s (.y [(1, { n := 1, agg := false }), (3, { n := 3 }), (4, { n := 3, agg := true }), (5, { n := 1, agg := false }), (7, { n := 3 }), (8, { n := 3, agg := true })]) (.s (.o) (.o))))) (.o))))))
theorem k80 : okF Try.prog Try.f80 h80 [] = true := by kernel_rfl

/- (couplet/frac.Frac).Of -/
def h96 : Hint := .s (.r [(0, { n := 3 }), (1, { zero := [(.int .i64 0), (.int .i64 0), (.bool false)] })]) (.s (.r [(2, { n := 3 })]) (.o))
theorem k96 : okF Try.prog Try.f96 h96 [(true, 3)] = true := by kernel_rfl

/- (couplet/frac.Frac).Root -/
def h97 : Hint := .s (.r [(0, { n := 3 }), (1, { zero := [(.int .i64 0), (.int .i64 0), (.bool false)] })]) (.s (.s (.r [(0, { n := 3, agg := true }), (4, { off := 0 }), (5, { n := 1, agg := false }), (9, { off := 0 }), (10, { n := 1, agg := false }), (15, { off := 1 }), (16, { n := 1, agg := false })]) (.s (.s (.r [(1, { n := 3 })]) (.o)) (.o))) (.s (.r [(0, { off := 0 }), (1, { n := 1, agg := false }), (3, { off := 1 }), (4, { n := 1, agg := false }), (7, { n := 3 })]) (.o)))
theorem k97 : okF Try.prog Try.f97 h97 [(true, 3)] = true := by kernel_rfl

/- couplet/frac.root -/
def h98 : Hint := .s (.o) (.s (.o) (.s (.s (.o) (.b (.l [.junk [1, 2, 5, 6, 7, 8, 9, 10, 11, 12, 13, 14, 15, 16, 17, 18, 19, 20, 21, 22, 23, 24, 25]] (.s (.s (.o) (.s (.o) (.o))) (.s (.b (.s (.o) (.s (.o) (.s (.o) (.o))))) (.o)))))) (.s (.s (.o) (.s (.s (.o) (.o)) (.o))) (.s (.o) (.o)))))
theorem k98 : okF Try.prog Try.f98 h98 [(false, 0)] = true := by kernel_rfl

end Go.Proofs.Ytadfcbpakfaaaaa.A
