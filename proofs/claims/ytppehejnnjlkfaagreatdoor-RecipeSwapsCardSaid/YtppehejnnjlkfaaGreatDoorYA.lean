/-
  The functions that the statements reach, as the interpreter's texts, each checked against the translation.
-/
import Derived.Test.YtppehejnnjlkfaaGreatDoorXZ
import Derived.Test.YtppehejnnjlkfaaGreatDoorRows
set_option linter.unusedVariables false
namespace Go.Proofs.YtppehejnnjlkfaaGreatDoor
open Go Go.Xec

abbrev x3r0 : List XOper := [
⟨some 2, none, .mv (.c (.bool false))⟩]
abbrev x3r1 : List XOper := [
⟨some 9, none, .mv (.t 0)⟩,
⟨some 10, none, .mv (.t 0)⟩,
⟨some 11, none, .lenS (.t 10)⟩,
⟨some 12, none, .mnx false (.t 11) [(.c (.int .i64 4100))]⟩,
⟨some 13, none, .slS (.t 9) none (some (.t 12))⟩,
⟨some 0, none, .mv (.t 13)⟩]
abbrev x3r2 : List XOper := [
⟨some 15, none, .mv (.t 0)⟩,
⟨some 16, none, .call (.c (.fn (.func 8) [] [])) [(.t 15)]⟩,
⟨some 14, none, .mv (.t 16)⟩,
⟨some 17, none, .ext (.t 14) 0⟩,
⟨some 18, none, .ext (.t 14) 1⟩,
⟨some 19, none, .ext (.t 14) 2⟩,
⟨some 3, none, .alloc [.nils]⟩,
⟨none, none, .store 1 (.t 3) (.t 17)⟩,
⟨some 4, none, .mv (.t 18)⟩,
⟨some 5, none, .mv (.t 19)⟩]
abbrev x3r3 : List XOper := [
⟨some 21, none, .mv (.t 0)⟩,
⟨some 22, none, .call (.c (.fn (.func 9) [] [])) [(.t 21)]⟩,
⟨some 20, none, .mv (.t 22)⟩,
⟨some 23, none, .ext (.t 20) 0⟩,
⟨some 24, none, .ext (.t 20) 1⟩,
⟨some 25, none, .ext (.t 20) 2⟩,
⟨some 6, none, .alloc [.nils]⟩,
⟨none, none, .store 1 (.t 6) (.t 23)⟩,
⟨some 7, none, .mv (.t 24)⟩,
⟨some 8, none, .mv (.t 25)⟩]
abbrev x3r4 : List XOper := [
⟨some 26, none, .call (.c (.fn (.func 10) [] [])) []⟩,
⟨some 27, none, .mv (.t 26)⟩,
⟨some 28, some (27, true), .mv (.t 5)⟩,
⟨some 29, some (27, true), .mv (.t 8)⟩,
⟨some 30, some (27, true), .bin .eql (.t 28) (.t 29)⟩,
⟨some 31, none, .pick (.t 27) (.t 30) (.c (.bool false))⟩,
⟨some 32, none, .mv (.t 31)⟩,
⟨some 33, some (32, true), .mv (.t 4)⟩,
⟨some 34, some (32, true), .mv (.t 7)⟩,
⟨some 35, some (32, true), .bin .eql (.t 33) (.t 34)⟩,
⟨some 36, none, .pick (.t 32) (.t 35) (.c (.bool false))⟩,
⟨some 37, none, .mv (.t 36)⟩,
⟨some 38, some (37, true), .load true 1 (.t 3)⟩,
⟨some 39, some (37, true), .load true 1 (.t 6)⟩,
⟨some 40, some (37, true), .call (.c (.fn (.func 11) [] [])) [(.t 38), (.t 39)]⟩,
⟨some 41, none, .pick (.t 37) (.t 40) (.c (.bool false))⟩,
⟨some 2, none, .mv (.t 41)⟩]
/-- datum/datumlaw08.RecipeParses -/
abbrev x3b : XCode :=
(.seq (.reg 0 x3r0 none)
(.seq (.reg 1 x3r1 none)
(.seq (.reg 2 x3r2 none)
(.seq (.reg 3 x3r3 none)
(.seq (.reg 4 x3r4 none)
.ret)))))
def x3 : XFunc := ⟨42, 1, [.tmp 2], x3b⟩
theorem x3_ok : chkF Tryz.prog Tryz.f3 x3 = true := by kernel_rfl
theorem x3_eq : x3.body = x3b ∧ x3.res = [.tmp 2] ∧ x3.np = 1 := ⟨rfl, rfl, rfl⟩

abbrev x4r0 : List XOper := [
⟨some 1, none, .box (.t 0)⟩,
⟨some 2, none, .mv (.c (.bool false))⟩]
abbrev x4r1 : List XOper := [
⟨some 5, none, .load true 1 (.t 1)⟩,
⟨some 6, none, .call (.c (.fn (.func 12) [] [])) [(.t 5)]⟩,
⟨none, none, .store 1 (.t 1) (.t 6)⟩]
abbrev x4r2 : List XOper := [
⟨some 8, none, .load true 1 (.t 1)⟩,
⟨some 9, none, .call (.c (.fn (.func 13) [] [])) [(.t 8)]⟩,
⟨some 7, none, .mv (.t 9)⟩,
⟨some 10, none, .ext (.t 7) 0⟩,
⟨some 11, none, .ext (.t 7) 1⟩,
⟨some 3, none, .mv (.t 10)⟩,
⟨some 4, none, .mv (.t 11)⟩]
abbrev x4r3 : List XOper := [
⟨some 12, none, .load true 1 (.t 1)⟩,
⟨some 13, none, .call (.c (.fn (.func 14) [] [])) [(.t 12)]⟩,
⟨some 14, none, .load true 1 (.t 1)⟩,
⟨some 15, none, .call (.c (.fn (.func 15) [] [])) [(.t 14)]⟩,
⟨some 16, none, .eqB true (.t 13) (.t 15)⟩,
⟨some 17, none, .mv (.t 16)⟩,
⟨some 18, some (17, false), .call (.c (.fn (.func 10) [] [])) []⟩,
⟨some 19, some (17, false), .un .not (.t 18)⟩,
⟨some 20, none, .pick (.t 17) (.c (.bool true)) (.t 19)⟩]
abbrev x4r4 : List XOper := [
⟨some 2, none, .mv (.c (.bool false))⟩]
abbrev x4r5 : List XOper := [
⟨some 21, none, .load true 1 (.t 1)⟩,
⟨some 22, none, .call (.c (.fn (.func 15) [] [])) [(.t 21)]⟩,
⟨some 23, none, .un .not (.t 22)⟩]
abbrev x4r6 : List XOper := [
⟨some 24, none, .mv (.t 4)⟩,
⟨some 25, none, .bin .eql (.t 24) (.c (.int .i64 1))⟩,
⟨some 26, none, .mv (.t 25)⟩,
⟨some 27, some (26, true), .mv (.t 3)⟩,
⟨some 28, some (26, true), .bin .eql (.t 27) (.c (.str ⟨#[]⟩))⟩,
⟨some 29, none, .pick (.t 26) (.t 28) (.c (.bool false))⟩,
⟨some 2, none, .mv (.t 29)⟩]
abbrev x4r7 : List XOper := [
⟨some 30, none, .mv (.t 4)⟩,
⟨some 31, none, .bin .eql (.t 30) (.c (.int .i64 0))⟩,
⟨some 32, none, .mv (.t 31)⟩,
⟨some 33, some (32, true), .mv (.t 3)⟩,
⟨some 34, some (32, true), .load true 1 (.t 1)⟩,
⟨some 35, some (32, true), .call (.c (.fn (.func 16) [] [])) [(.t 34)]⟩,
⟨some 36, some (32, true), .bin .eql (.t 33) (.t 35)⟩,
⟨some 37, none, .pick (.t 32) (.t 36) (.c (.bool false))⟩,
⟨some 2, none, .mv (.t 37)⟩]
/-- datum/datumlaw08.RecipePrints -/
abbrev x4b : XCode :=
(.seq (.reg 0 x4r0 none)
(.seq (.reg 1 x4r1 none)
(.seq (.reg 2 x4r2 none)
(.seq (.seq (.reg 3 x4r3 (some ⟨[(1, 2)]⟩))
(.cond (.t 20)
(.seq (.reg 4 x4r4 none)
.ret)
.skip))
(.seq (.seq (.reg 5 x4r5 none)
(.cond (.t 23)
(.seq (.reg 6 x4r6 none)
.ret)
.skip))
(.seq (.reg 7 x4r7 none)
.ret))))))
def x4 : XFunc := ⟨38, 1, [.tmp 2], x4b⟩
theorem x4_ok : chkF Tryz.prog Tryz.f4 x4 = true := by kernel_rfl
theorem x4_eq : x4.body = x4b ∧ x4.res = [.tmp 2] ∧ x4.np = 1 := ⟨rfl, rfl, rfl⟩

abbrev x5r0 : List XOper := [
⟨some 1, none, .box (.t 0)⟩,
⟨some 2, none, .mv (.c (.bool false))⟩]
abbrev x5r1 : List XOper := [
⟨some 8, none, .load true 1 (.t 1)⟩,
⟨some 9, none, .call (.c (.fn (.func 12) [] [])) [(.t 8)]⟩,
⟨none, none, .store 1 (.t 1) (.t 9)⟩]
abbrev x5r2 : List XOper := [
⟨some 11, none, .load true 1 (.t 1)⟩,
⟨some 12, none, .call (.c (.fn (.func 13) [] [])) [(.t 11)]⟩,
⟨some 10, none, .mv (.t 12)⟩,
⟨some 13, none, .ext (.t 10) 0⟩,
⟨some 14, none, .ext (.t 10) 1⟩,
⟨some 3, none, .mv (.t 13)⟩,
⟨some 4, none, .mv (.t 14)⟩]
abbrev x5r3 : List XOper := [
⟨some 15, none, .mv (.t 4)⟩,
⟨some 16, none, .bin .neq (.t 15) (.c (.int .i64 0))⟩]
abbrev x5r4 : List XOper := [
⟨some 17, none, .call (.c (.fn (.func 10) [] [])) []⟩,
⟨some 18, none, .mv (.t 17)⟩,
⟨some 19, some (18, true), .mv (.t 3)⟩,
⟨some 20, some (18, true), .bin .eql (.t 19) (.c (.str ⟨#[]⟩))⟩,
⟨some 21, none, .pick (.t 18) (.t 20) (.c (.bool false))⟩,
⟨some 2, none, .mv (.t 21)⟩]
abbrev x5r5 : List XOper := [
⟨some 23, none, .mv (.t 3)⟩,
⟨some 24, none, .call (.c (.fn (.func 8) [] [])) [(.t 23)]⟩,
⟨some 22, none, .mv (.t 24)⟩,
⟨some 25, none, .ext (.t 22) 0⟩,
⟨some 26, none, .ext (.t 22) 1⟩,
⟨some 27, none, .ext (.t 22) 2⟩,
⟨some 5, none, .alloc [.nils]⟩,
⟨none, none, .store 1 (.t 5) (.t 25)⟩,
⟨some 6, none, .mv (.t 26)⟩,
⟨some 7, none, .mv (.t 27)⟩]
abbrev x5r6 : List XOper := [
⟨some 28, none, .call (.c (.fn (.func 10) [] [])) []⟩,
⟨some 29, none, .mv (.t 28)⟩,
⟨some 30, some (29, true), .mv (.t 7)⟩,
⟨some 31, some (29, true), .bin .eql (.t 30) (.c (.int .i64 0))⟩,
⟨some 32, none, .pick (.t 29) (.t 31) (.c (.bool false))⟩,
⟨some 33, none, .mv (.t 32)⟩,
⟨some 34, some (33, true), .mv (.t 6)⟩,
⟨some 35, some (33, true), .bin .eql (.t 34) (.c (.int .i64 0))⟩,
⟨some 36, none, .pick (.t 33) (.t 35) (.c (.bool false))⟩,
⟨some 37, none, .mv (.t 36)⟩,
⟨some 38, some (37, true), .load true 1 (.t 5)⟩,
⟨some 39, some (37, true), .load true 1 (.t 1)⟩,
⟨some 40, some (37, true), .call (.c (.fn (.func 11) [] [])) [(.t 38), (.t 39)]⟩,
⟨some 41, none, .pick (.t 37) (.t 40) (.c (.bool false))⟩,
⟨some 2, none, .mv (.t 41)⟩]
/-- datum/datumlaw08.RecipeBack -/
abbrev x5b : XCode :=
(.seq (.reg 0 x5r0 none)
(.seq (.reg 1 x5r1 none)
(.seq (.reg 2 x5r2 none)
(.seq (.seq (.reg 3 x5r3 none)
(.cond (.t 16)
(.seq (.reg 4 x5r4 none)
.ret)
.skip))
(.seq (.reg 5 x5r5 none)
(.seq (.reg 6 x5r6 none)
.ret))))))
def x5 : XFunc := ⟨42, 1, [.tmp 2], x5b⟩
theorem x5_ok : chkF Tryz.prog Tryz.f5 x5 = true := by kernel_rfl
theorem x5_eq : x5.body = x5b ∧ x5.res = [.tmp 2] ∧ x5.np = 1 := ⟨rfl, rfl, rfl⟩

abbrev x6r0 : List XOper := [
⟨some 2, none, .mv (.c (.bool false))⟩]
abbrev x6r1 : List XOper := [
⟨some 11, none, .mv (.t 0)⟩,
⟨some 12, none, .mv (.t 0)⟩,
⟨some 13, none, .lenS (.t 12)⟩,
⟨some 14, none, .mnx false (.t 13) [(.c (.int .i64 4100))]⟩,
⟨some 15, none, .slS (.t 11) none (some (.t 14))⟩,
⟨some 0, none, .mv (.t 15)⟩]
abbrev x6r2 : List XOper := [
⟨some 17, none, .mv (.t 0)⟩,
⟨some 18, none, .call (.c (.fn (.func 8) [] [])) [(.t 17)]⟩,
⟨some 16, none, .mv (.t 18)⟩,
⟨some 19, none, .ext (.t 16) 0⟩,
⟨some 20, none, .ext (.t 16) 1⟩,
⟨some 21, none, .ext (.t 16) 2⟩,
⟨some 3, none, .alloc [.nils]⟩,
⟨none, none, .store 1 (.t 3) (.t 19)⟩,
⟨some 4, none, .mv (.t 20)⟩,
⟨some 5, none, .mv (.t 21)⟩]
abbrev x6r3 : List XOper := [
⟨some 22, none, .mv (.t 5)⟩,
⟨some 23, none, .bin .neq (.t 22) (.c (.int .i64 0))⟩]
abbrev x6r4 : List XOper := [
⟨some 24, none, .call (.c (.fn (.func 10) [] [])) []⟩,
⟨some 25, none, .mv (.t 24)⟩,
⟨some 26, some (25, true), .fa 0 (.t 3)⟩,
⟨some 27, some (25, true), .load false 1 (.t 26)⟩,
⟨some 28, some (25, true), .lenV (.t 27)⟩,
⟨some 29, some (25, true), .bin .eql (.t 28) (.c (.int .i64 0))⟩,
⟨some 30, none, .pick (.t 25) (.t 29) (.c (.bool false))⟩,
⟨some 31, none, .mv (.t 30)⟩,
⟨some 32, some (31, true), .mv (.t 4)⟩,
⟨some 33, some (31, true), .bin .geq (.t 32) (.c (.int .i64 0))⟩,
⟨some 34, none, .pick (.t 31) (.t 33) (.c (.bool false))⟩,
⟨some 35, none, .mv (.t 34)⟩,
⟨some 36, some (35, true), .mv (.t 4)⟩,
⟨some 37, some (35, true), .mv (.t 0)⟩,
⟨some 38, some (35, true), .lenS (.t 37)⟩,
⟨some 39, some (35, true), .bin .leq (.t 36) (.t 38)⟩,
⟨some 40, none, .pick (.t 35) (.t 39) (.c (.bool false))⟩,
⟨some 2, none, .mv (.t 40)⟩]
abbrev x6r5 : List XOper := [
⟨some 42, none, .load true 1 (.t 3)⟩,
⟨some 43, none, .call (.c (.fn (.func 13) [] [])) [(.t 42)]⟩,
⟨some 41, none, .mv (.t 43)⟩,
⟨some 44, none, .ext (.t 41) 0⟩,
⟨some 45, none, .ext (.t 41) 1⟩,
⟨some 6, none, .mv (.t 44)⟩,
⟨some 7, none, .mv (.t 45)⟩]
abbrev x6r6 : List XOper := [
⟨some 47, none, .mv (.t 6)⟩,
⟨some 48, none, .call (.c (.fn (.func 8) [] [])) [(.t 47)]⟩,
⟨some 46, none, .mv (.t 48)⟩,
⟨some 49, none, .ext (.t 46) 0⟩,
⟨some 50, none, .ext (.t 46) 1⟩,
⟨some 51, none, .ext (.t 46) 2⟩,
⟨some 8, none, .alloc [.nils]⟩,
⟨none, none, .store 1 (.t 8) (.t 49)⟩,
⟨some 9, none, .mv (.t 50)⟩,
⟨some 10, none, .mv (.t 51)⟩]
abbrev x6r7 : List XOper := [
⟨some 52, none, .call (.c (.fn (.func 10) [] [])) []⟩,
⟨some 53, none, .mv (.t 52)⟩,
⟨some 54, some (53, true), .mv (.t 4)⟩,
⟨some 55, some (53, true), .bin .eql (.t 54) (.c (.int .i64 0))⟩,
⟨some 56, none, .pick (.t 53) (.t 55) (.c (.bool false))⟩,
⟨some 57, none, .mv (.t 56)⟩,
⟨some 58, some (57, true), .load true 1 (.t 3)⟩,
⟨some 59, some (57, true), .call (.c (.fn (.func 14) [] [])) [(.t 58)]⟩,
⟨some 60, none, .pick (.t 57) (.t 59) (.c (.bool false))⟩,
⟨some 61, none, .mv (.t 60)⟩,
⟨some 62, some (61, true), .mv (.t 7)⟩,
⟨some 63, some (61, true), .bin .eql (.t 62) (.c (.int .i64 0))⟩,
⟨some 64, none, .pick (.t 61) (.t 63) (.c (.bool false))⟩,
⟨some 65, none, .mv (.t 64)⟩,
⟨some 66, some (65, true), .mv (.t 10)⟩,
⟨some 67, some (65, true), .bin .eql (.t 66) (.c (.int .i64 0))⟩,
⟨some 68, none, .pick (.t 65) (.t 67) (.c (.bool false))⟩,
⟨some 69, none, .mv (.t 68)⟩,
⟨some 70, some (69, true), .load true 1 (.t 8)⟩,
⟨some 71, some (69, true), .load true 1 (.t 3)⟩,
⟨some 72, some (69, true), .call (.c (.fn (.func 11) [] [])) [(.t 70), (.t 71)]⟩,
⟨some 73, none, .pick (.t 69) (.t 72) (.c (.bool false))⟩,
⟨some 2, none, .mv (.t 73)⟩]
/-- datum/datumlaw08.RecipeAgain -/
abbrev x6b : XCode :=
(.seq (.reg 0 x6r0 none)
(.seq (.reg 1 x6r1 none)
(.seq (.reg 2 x6r2 none)
(.seq (.seq (.reg 3 x6r3 none)
(.cond (.t 23)
(.seq (.reg 4 x6r4 none)
.ret)
.skip))
(.seq (.reg 5 x6r5 none)
(.seq (.reg 6 x6r6 none)
(.seq (.reg 7 x6r7 none)
.ret)))))))
def x6 : XFunc := ⟨74, 1, [.tmp 2], x6b⟩
theorem x6_ok : chkF Tryz.prog Tryz.f6 x6 = true := by kernel_rfl
theorem x6_eq : x6.body = x6b ∧ x6.res = [.tmp 2] ∧ x6.np = 1 := ⟨rfl, rfl, rfl⟩

abbrev x7r0 : List XOper := [
⟨some 2, none, .box (.t 0)⟩,
⟨some 3, none, .box (.t 1)⟩,
⟨some 4, none, .mv (.c (.bool false))⟩]
abbrev x7r1 : List XOper := [
⟨some 14, none, .load true 14 (.t 2)⟩,
⟨some 15, none, .mkslice 14 (.agg [(.str ⟨#[]⟩), (.int .i64 0), (.int .i64 0), (.int .i64 0), (.int .i64 0), (.int .i64 0), (.int .i64 0), (.int .i64 0), (.int .i64 0), (.int .i64 0), (.int .i64 0), (.int .i64 0), (.int .i64 0), (.int .i64 0)]) 1 [(0, (.t 14))]⟩,
⟨some 16, none, .build [.nils] [(0, 1, (.t 15))]⟩,
⟨some 17, none, .call (.c (.fn (.func 12) [] [])) [(.t 16)]⟩,
⟨some 18, none, .load true 14 (.t 3)⟩,
⟨some 19, none, .mkslice 14 (.agg [(.str ⟨#[]⟩), (.int .i64 0), (.int .i64 0), (.int .i64 0), (.int .i64 0), (.int .i64 0), (.int .i64 0), (.int .i64 0), (.int .i64 0), (.int .i64 0), (.int .i64 0), (.int .i64 0), (.int .i64 0), (.int .i64 0)]) 1 [(0, (.t 18))]⟩,
⟨some 20, none, .build [.nils] [(0, 1, (.t 19))]⟩,
⟨some 21, none, .call (.c (.fn (.func 12) [] [])) [(.t 20)]⟩,
⟨some 5, none, .alloc [.nils]⟩,
⟨some 6, none, .alloc [.nils]⟩,
⟨none, none, .store 1 (.t 5) (.t 17)⟩,
⟨none, none, .store 1 (.t 6) (.t 21)⟩]
abbrev x7r2 : List XOper := [
⟨some 23, none, .load true 1 (.t 5)⟩,
⟨some 24, none, .call (.c (.fn (.func 13) [] [])) [(.t 23)]⟩,
⟨some 22, none, .mv (.t 24)⟩,
⟨some 25, none, .ext (.t 22) 0⟩,
⟨some 26, none, .ext (.t 22) 1⟩,
⟨some 7, none, .mv (.t 25)⟩,
⟨some 8, none, .mv (.t 26)⟩]
abbrev x7r3 : List XOper := [
⟨some 28, none, .load true 1 (.t 6)⟩,
⟨some 29, none, .call (.c (.fn (.func 13) [] [])) [(.t 28)]⟩,
⟨some 27, none, .mv (.t 29)⟩,
⟨some 30, none, .ext (.t 27) 0⟩,
⟨some 31, none, .ext (.t 27) 1⟩,
⟨some 9, none, .mv (.t 30)⟩,
⟨some 10, none, .mv (.t 31)⟩]
abbrev x7r4 : List XOper := [
⟨some 32, none, .mv (.t 8)⟩,
⟨some 33, none, .bin .neq (.t 32) (.c (.int .i64 0))⟩,
⟨some 34, none, .mv (.t 33)⟩,
⟨some 35, some (34, false), .mv (.t 10)⟩,
⟨some 36, some (34, false), .bin .neq (.t 35) (.c (.int .i64 0))⟩,
⟨some 37, none, .pick (.t 34) (.c (.bool true)) (.t 36)⟩]
abbrev x7r5 : List XOper := [
⟨some 38, none, .call (.c (.fn (.func 10) [] [])) []⟩,
⟨some 39, none, .mv (.t 38)⟩,
⟨some 40, some (39, true), .mv (.t 8)⟩,
⟨some 41, some (39, true), .bin .eql (.t 40) (.c (.int .i64 0))⟩,
⟨some 42, some (39, true), .mv (.t 41)⟩,
⟨some 43, some (42, false), .mv (.t 7)⟩,
⟨some 44, some (42, false), .bin .eql (.t 43) (.c (.str ⟨#[]⟩))⟩,
⟨some 45, some (39, true), .pick (.t 42) (.c (.bool true)) (.t 44)⟩,
⟨some 46, none, .pick (.t 39) (.t 45) (.c (.bool false))⟩,
⟨some 47, none, .mv (.t 46)⟩,
⟨some 48, some (47, true), .mv (.t 10)⟩,
⟨some 49, some (47, true), .bin .eql (.t 48) (.c (.int .i64 0))⟩,
⟨some 50, some (47, true), .mv (.t 49)⟩,
⟨some 51, some (50, false), .mv (.t 9)⟩,
⟨some 52, some (50, false), .bin .eql (.t 51) (.c (.str ⟨#[]⟩))⟩,
⟨some 53, some (47, true), .pick (.t 50) (.c (.bool true)) (.t 52)⟩,
⟨some 54, none, .pick (.t 47) (.t 53) (.c (.bool false))⟩,
⟨some 4, none, .mv (.t 54)⟩]
abbrev x7r6 : List XOper := [
⟨some 56, none, .mv (.t 9)⟩,
⟨some 57, none, .mv (.t 7)⟩,
⟨some 58, none, .bin .add (.t 56) (.t 57)⟩,
⟨some 59, none, .call (.c (.fn (.func 8) [] [])) [(.t 58)]⟩,
⟨some 55, none, .mv (.t 59)⟩,
⟨some 60, none, .ext (.t 55) 0⟩,
⟨some 61, none, .ext (.t 55) 1⟩,
⟨some 62, none, .ext (.t 55) 2⟩,
⟨some 11, none, .alloc [.nils]⟩,
⟨none, none, .store 1 (.t 11) (.t 60)⟩,
⟨some 12, none, .mv (.t 61)⟩,
⟨some 13, none, .mv (.t 62)⟩]
abbrev x7r7 : List XOper := [
⟨some 63, none, .fa 0 (.t 5)⟩,
⟨some 64, none, .load false 1 (.t 63)⟩,
⟨some 65, none, .iaS 14 (.t 64) (.c (.int .i64 0))⟩,
⟨some 66, none, .fa 0 (.t 65)⟩,
⟨some 67, none, .load false 1 (.t 66)⟩,
⟨some 68, none, .fa 0 (.t 6)⟩,
⟨some 69, none, .load false 1 (.t 68)⟩,
⟨some 70, none, .iaS 14 (.t 69) (.c (.int .i64 0))⟩,
⟨some 71, none, .fa 0 (.t 70)⟩,
⟨some 72, none, .load false 1 (.t 71)⟩,
⟨some 73, none, .bin .eql (.t 67) (.t 72)⟩]
abbrev x7r8 : List XOper := [
⟨some 74, none, .call (.c (.fn (.func 10) [] [])) []⟩,
⟨some 75, none, .mv (.t 74)⟩,
⟨some 76, some (75, true), .mv (.t 13)⟩,
⟨some 77, some (75, true), .bin .eql (.t 76) (.c (.int .i64 9))⟩,
⟨some 78, none, .pick (.t 75) (.t 77) (.c (.bool false))⟩,
⟨some 79, none, .mv (.t 78)⟩,
⟨some 80, some (79, true), .mv (.t 12)⟩,
⟨some 81, some (79, true), .mv (.t 9)⟩,
⟨some 82, some (79, true), .lenS (.t 81)⟩,
⟨some 83, some (79, true), .bin .add (.t 82) (.c (.int .i64 8))⟩,
⟨some 84, some (79, true), .bin .eql (.t 80) (.t 83)⟩,
⟨some 85, none, .pick (.t 79) (.t 84) (.c (.bool false))⟩,
⟨some 86, none, .mv (.t 85)⟩,
⟨some 87, some (86, true), .fa 0 (.t 11)⟩,
⟨some 88, some (86, true), .load false 1 (.t 87)⟩,
⟨some 89, some (86, true), .lenV (.t 88)⟩,
⟨some 90, some (86, true), .bin .eql (.t 89) (.c (.int .i64 0))⟩,
⟨some 91, none, .pick (.t 86) (.t 90) (.c (.bool false))⟩,
⟨some 4, none, .mv (.t 91)⟩]
abbrev x7r9 : List XOper := [
⟨some 92, none, .call (.c (.fn (.func 10) [] [])) []⟩,
⟨some 93, none, .mv (.t 92)⟩,
⟨some 94, some (93, true), .mv (.t 13)⟩,
⟨some 95, some (93, true), .bin .eql (.t 94) (.c (.int .i64 0))⟩,
⟨some 96, none, .pick (.t 93) (.t 95) (.c (.bool false))⟩,
⟨some 97, none, .mv (.t 96)⟩,
⟨some 98, some (97, true), .load true 1 (.t 11)⟩,
⟨some 99, some (97, true), .fa 0 (.t 6)⟩,
⟨some 100, some (97, true), .load false 1 (.t 99)⟩,
⟨some 101, some (97, true), .iaS 14 (.t 100) (.c (.int .i64 0))⟩,
⟨some 102, some (97, true), .load true 14 (.t 101)⟩,
⟨some 103, some (97, true), .fa 0 (.t 5)⟩,
⟨some 104, some (97, true), .load false 1 (.t 103)⟩,
⟨some 105, some (97, true), .iaS 14 (.t 104) (.c (.int .i64 0))⟩,
⟨some 106, some (97, true), .load true 14 (.t 105)⟩,
⟨some 107, some (97, true), .mkslice 14 (.agg [(.str ⟨#[]⟩), (.int .i64 0), (.int .i64 0), (.int .i64 0), (.int .i64 0), (.int .i64 0), (.int .i64 0), (.int .i64 0), (.int .i64 0), (.int .i64 0), (.int .i64 0), (.int .i64 0), (.int .i64 0), (.int .i64 0)]) 2 [(0, (.t 102)), (1, (.t 106))]⟩,
⟨some 108, some (97, true), .build [.nils] [(0, 1, (.t 107))]⟩,
⟨some 109, some (97, true), .call (.c (.fn (.func 11) [] [])) [(.t 98), (.t 108)]⟩,
⟨some 110, none, .pick (.t 97) (.t 109) (.c (.bool false))⟩,
⟨some 4, none, .mv (.t 110)⟩]
/-- datum/datumlaw08.RecipeSwaps -/
abbrev x7b : XCode :=
(.seq (.reg 0 x7r0 none)
(.seq (.reg 1 x7r1 (some ⟨[(1, 4), (3, 4), (0, 5), (1, 5), (3, 5), (0, 8), (1, 8), (3, 8), (4, 8), (5, 8), (7, 8), (0, 9), (1, 9), (3, 9), (4, 9), (5, 9), (7, 9), (8, 9)]⟩))
(.seq (.reg 2 x7r2 none)
(.seq (.reg 3 x7r3 none)
(.seq (.seq (.reg 4 x7r4 none)
(.cond (.t 37)
(.seq (.reg 5 x7r5 none)
.ret)
.skip))
(.seq (.reg 6 x7r6 none)
(.seq (.seq (.reg 7 x7r7 (some ⟨[]⟩))
(.cond (.t 73)
(.seq (.reg 8 x7r8 none)
.ret)
.skip))
(.seq (.reg 9 x7r9 (some ⟨[(6, 15)]⟩))
.ret))))))))
def x7 : XFunc := ⟨111, 2, [.tmp 4], x7b⟩
theorem x7_ok : chkF Tryz.prog Tryz.f7 x7 = true := by kernel_rfl
theorem x7_eq : x7.body = x7b ∧ x7.res = [.tmp 4] ∧ x7.np = 2 := ⟨rfl, rfl, rfl⟩

abbrev x8r0 : List XOper := [
⟨some 2, none, .alloc [.nils]⟩,
⟨some 3, none, .mv (.c (.int .i64 0))⟩,
⟨some 4, none, .mv (.c (.int .i64 0))⟩]
abbrev x8r1 : List XOper := [
⟨some 14, none, .mv (.t 0)⟩,
⟨some 15, none, .call (.c (.fn (.func 17) [] [])) [(.t 14)]⟩,
⟨some 13, none, .mv (.t 15)⟩,
⟨some 16, none, .ext (.t 13) 0⟩,
⟨some 17, none, .ext (.t 13) 1⟩,
⟨some 18, none, .ext (.t 13) 2⟩,
⟨some 5, none, .mv (.t 16)⟩,
⟨some 6, none, .mv (.t 17)⟩,
⟨some 7, none, .mv (.t 18)⟩]
abbrev x8r2 : List XOper := [
⟨some 19, none, .mv (.t 7)⟩,
⟨some 20, none, .bin .neq (.t 19) (.c (.int .i64 0))⟩]
abbrev x8r3 : List XOper := [
⟨some 21, none, .build [.nils] []⟩,
⟨some 22, none, .mv (.t 6)⟩,
⟨some 23, none, .mv (.t 7)⟩,
⟨none, none, .store 1 (.t 2) (.t 21)⟩,
⟨some 3, none, .mv (.t 22)⟩,
⟨some 4, none, .mv (.t 23)⟩]
abbrev x8r4 : List XOper := [
⟨some 24, none, .mv (.t 5)⟩,
⟨some 25, none, .mv (.t 0)⟩,
⟨some 26, none, .lenS (.t 25)⟩,
⟨some 27, none, .build [.nils, (.int .i64 0), (.int .i64 0)] [(0, 1, (.t 24)), (2, 1, (.t 26))]⟩,
⟨some 28, none, .box (.t 27)⟩,
⟨some 8, none, .mv (.t 28)⟩]
abbrev x8r5 : List XOper := [
⟨some 9, none, .mv (.c .nils)⟩]
abbrev x8r6 : List XOper := [
⟨some 29, none, .mv (.t 9)⟩,
⟨some 30, none, .lenV (.t 29)⟩,
⟨some 31, none, .bin .eql (.t 30) (.c (.int .i64 0))⟩,
⟨some 32, none, .mv (.t 31)⟩,
⟨some 33, some (32, false), .mv (.t 8)⟩,
⟨some 34, some (32, false), .nilChk (.t 33)⟩,
⟨some 35, some (32, false), .fa 1 (.t 34)⟩,
⟨some 36, some (32, false), .load false 1 (.t 35)⟩,
⟨some 37, some (32, false), .mv (.t 5)⟩,
⟨some 38, some (32, false), .lenV (.t 37)⟩,
⟨some 39, some (32, false), .bin .lss (.t 36) (.t 38)⟩,
⟨some 40, none, .pick (.t 32) (.c (.bool true)) (.t 39)⟩]
abbrev x8r7 : List XOper := [
⟨some 42, none, .mv (.t 8)⟩,
⟨some 43, none, .mv (.t 9)⟩,
⟨some 44, none, .call (.c (.fn (.func 18) [] [])) [(.t 42), (.t 43)]⟩,
⟨some 41, none, .mv (.t 44)⟩,
⟨some 45, none, .ext (.t 41) 0⟩,
⟨some 46, none, .ext (.t 41) 1⟩,
⟨some 10, none, .alloc [(.str ⟨#[]⟩), (.int .i64 0), (.int .i64 0), (.int .i64 0), (.int .i64 0), (.int .i64 0), (.int .i64 0), (.int .i64 0), (.int .i64 0), (.int .i64 0), (.int .i64 0), (.int .i64 0), (.int .i64 0), (.int .i64 0)]⟩,
⟨none, none, .store 14 (.t 10) (.t 45)⟩,
⟨some 11, none, .mv (.t 46)⟩]
abbrev x8r8 : List XOper := [
⟨some 47, none, .build [(.int .i64 0), (.int .i64 0)] []⟩,
⟨some 12, none, .alloc [(.int .i64 0), (.int .i64 0)]⟩,
⟨none, none, .store 2 (.t 12) (.t 47)⟩]
abbrev x8r9 : List XOper := [
⟨some 48, none, .mv (.t 11)⟩,
⟨some 49, none, .mki 52 (.t 12)⟩,
⟨some 50, none, .callA (.c (.fn (.func 19) [] [])) [(.t 48), (.t 49)]⟩]
abbrev x8r10 : List XOper := [
⟨some 51, none, .build [.nils] []⟩,
⟨some 52, none, .fa 0 (.t 12)⟩,
⟨some 53, none, .load false 1 (.t 52)⟩,
⟨some 54, none, .fa 1 (.t 12)⟩,
⟨some 55, none, .load false 1 (.t 54)⟩,
⟨none, none, .store 1 (.t 2) (.t 51)⟩,
⟨some 3, none, .mv (.t 53)⟩,
⟨some 4, none, .mv (.t 55)⟩]
abbrev x8r11 : List XOper := [
⟨some 56, none, .mv (.t 9)⟩,
⟨some 57, none, .load true 14 (.t 10)⟩,
⟨some 58, none, .mkslice 14 (.agg [(.str ⟨#[]⟩), (.int .i64 0), (.int .i64 0), (.int .i64 0), (.int .i64 0), (.int .i64 0), (.int .i64 0), (.int .i64 0), (.int .i64 0), (.int .i64 0), (.int .i64 0), (.int .i64 0), (.int .i64 0), (.int .i64 0)]) 1 [(0, (.t 57))]⟩,
⟨some 59, none, .app 14 120 (.t 56) (.t 58)⟩,
⟨some 9, none, .mv (.t 59)⟩]
abbrev x8l6 : XCode :=
(.seq (.seq (.reg 6 x8r6 none)
(.cond (.t 40)
.skip
(.exit 0)))
(.block 1
(.seq (.reg 7 x8r7 none)
(.seq (.seq (.reg 8 x8r8 none)
(.seq (.reg 9 x8r9 none)
(.cond (.t 50)
(.seq (.reg 10 x8r10 (some ⟨[(2, 5), (4, 5)]⟩))
.ret)
.skip)))
(.reg 11 x8r11 none)))))
abbrev x8r12 : List XOper := [
⟨some 60, none, .mv (.t 9)⟩,
⟨some 61, none, .build [.nils] [(0, 1, (.t 60))]⟩,
⟨none, none, .store 1 (.t 2) (.t 61)⟩,
⟨some 3, none, .mv (.c (.int .i64 0))⟩,
⟨some 4, none, .mv (.c (.int .i64 0))⟩]
/-- datum/recipe.Parse -/
abbrev x8b : XCode :=
(.seq (.reg 0 x8r0 none)
(.seq (.reg 1 x8r1 none)
(.seq (.seq (.reg 2 x8r2 none)
(.cond (.t 20)
(.seq (.reg 3 x8r3 none)
.ret)
.skip))
(.seq (.reg 4 x8r4 none)
(.seq (.reg 5 x8r5 none)
(.seq (.block 0
(.loop x8l6))
(.seq (.reg 12 x8r12 none)
.ret)))))))
def x8 : XFunc := ⟨62, 1, [.cell 2 true 1, .tmp 3, .tmp 4], x8b⟩
theorem x8_ok : chkF Tryz.prog Tryz.f8 x8 = true := by kernel_rfl
theorem x8_eq : x8.body = x8b ∧ x8.res = [.cell 2 true 1, .tmp 3, .tmp 4] ∧ x8.np = 1 := ⟨rfl, rfl, rfl⟩

abbrev x9r0 : List XOper := [
⟨some 2, none, .alloc [.nils]⟩,
⟨some 3, none, .mv (.c (.int .i64 0))⟩,
⟨some 4, none, .mv (.c (.int .i64 0))⟩]
abbrev x9r1 : List XOper := [
⟨some 15, none, .mv (.t 0)⟩,
⟨some 16, none, .call (.c (.fn (.func 20) [] [])) [(.t 15)]⟩,
⟨some 14, none, .mv (.t 16)⟩,
⟨some 17, none, .ext (.t 14) 0⟩,
⟨some 18, none, .ext (.t 14) 1⟩,
⟨some 19, none, .ext (.t 14) 2⟩,
⟨some 5, none, .mv (.t 17)⟩,
⟨some 6, none, .mv (.t 18)⟩,
⟨some 7, none, .mv (.t 19)⟩]
abbrev x9r2 : List XOper := [
⟨some 20, none, .mv (.t 7)⟩,
⟨some 21, none, .bin .neq (.t 20) (.c (.int .i64 0))⟩]
abbrev x9r3 : List XOper := [
⟨some 22, none, .build [.nils] []⟩,
⟨some 23, none, .mv (.t 6)⟩,
⟨some 24, none, .mv (.t 7)⟩,
⟨none, none, .store 1 (.t 2) (.t 22)⟩,
⟨some 3, none, .mv (.t 23)⟩,
⟨some 4, none, .mv (.t 24)⟩]
abbrev x9r4 : List XOper := [
⟨some 25, none, .mkslice 14 (.agg [(.str ⟨#[]⟩), (.int .i64 0), (.int .i64 0), (.int .i64 0), (.int .i64 0), (.int .i64 0), (.int .i64 0), (.int .i64 0), (.int .i64 0), (.int .i64 0), (.int .i64 0), (.int .i64 0), (.int .i64 0), (.int .i64 0)]) 0 []⟩,
⟨some 8, none, .mv (.t 25)⟩]
abbrev x9r5 : List XOper := [
⟨some 9, none, .mv (.c (.int .i64 0))⟩]
abbrev x9r6 : List XOper := [
⟨some 26, none, .mv (.t 9)⟩,
⟨some 27, none, .mv (.t 5)⟩,
⟨some 28, none, .lenV (.t 27)⟩,
⟨some 29, none, .bin .lss (.t 26) (.t 28)⟩,
⟨some 30, none, .mv (.t 29)⟩,
⟨some 31, some (30, false), .mv (.t 8)⟩,
⟨some 32, some (30, false), .lenV (.t 31)⟩,
⟨some 33, some (30, false), .bin .eql (.t 32) (.c (.int .i64 0))⟩,
⟨some 34, none, .pick (.t 30) (.c (.bool true)) (.t 33)⟩]
abbrev x9r7 : List XOper := [
⟨some 36, none, .mv (.t 5)⟩,
⟨some 37, none, .mv (.t 9)⟩,
⟨some 38, none, .mv (.t 8)⟩,
⟨some 39, none, .call (.c (.fn (.func 21) [] [])) [(.t 36), (.t 37), (.t 38)]⟩,
⟨some 35, none, .mv (.t 39)⟩,
⟨some 40, none, .ext (.t 35) 0⟩,
⟨some 41, none, .ext (.t 35) 1⟩,
⟨some 42, none, .ext (.t 35) 2⟩,
⟨some 10, none, .alloc [(.str ⟨#[]⟩), (.int .i64 0), (.int .i64 0), (.int .i64 0), (.int .i64 0), (.int .i64 0), (.int .i64 0), (.int .i64 0), (.int .i64 0), (.int .i64 0), (.int .i64 0), (.int .i64 0), (.int .i64 0), (.int .i64 0)]⟩,
⟨none, none, .store 14 (.t 10) (.t 40)⟩,
⟨some 11, none, .mv (.t 41)⟩,
⟨some 12, none, .mv (.t 42)⟩]
abbrev x9r8 : List XOper := [
⟨some 43, none, .mv (.t 12)⟩,
⟨some 44, none, .bin .neq (.t 43) (.c (.int .i64 0))⟩]
abbrev x9r9 : List XOper := [
⟨some 45, none, .mv (.t 0)⟩,
⟨some 46, none, .lenS (.t 45)⟩,
⟨some 13, none, .mv (.t 46)⟩]
abbrev x9r10 : List XOper := [
⟨some 47, none, .mv (.t 11)⟩,
⟨some 48, none, .mv (.t 5)⟩,
⟨some 49, none, .lenV (.t 48)⟩,
⟨some 50, none, .bin .lss (.t 47) (.t 49)⟩]
abbrev x9r11 : List XOper := [
⟨some 51, none, .mv (.t 5)⟩,
⟨some 52, none, .mv (.t 11)⟩,
⟨some 53, none, .iaS 4 (.t 51) (.t 52)⟩,
⟨some 54, none, .fa 3 (.t 53)⟩,
⟨some 55, none, .load false 1 (.t 54)⟩,
⟨some 13, none, .mv (.t 55)⟩]
abbrev x9r12 : List XOper := [
⟨some 56, none, .build [.nils] []⟩,
⟨some 57, none, .mv (.t 13)⟩,
⟨some 58, none, .mv (.t 12)⟩,
⟨none, none, .store 1 (.t 2) (.t 56)⟩,
⟨some 3, none, .mv (.t 57)⟩,
⟨some 4, none, .mv (.t 58)⟩]
abbrev x9r13 : List XOper := [
⟨some 59, none, .mv (.t 8)⟩,
⟨some 60, none, .load true 14 (.t 10)⟩,
⟨some 61, none, .mkslice 14 (.agg [(.str ⟨#[]⟩), (.int .i64 0), (.int .i64 0), (.int .i64 0), (.int .i64 0), (.int .i64 0), (.int .i64 0), (.int .i64 0), (.int .i64 0), (.int .i64 0), (.int .i64 0), (.int .i64 0), (.int .i64 0), (.int .i64 0)]) 1 [(0, (.t 60))]⟩,
⟨some 62, none, .app 14 120 (.t 59) (.t 61)⟩,
⟨some 8, none, .mv (.t 62)⟩]
abbrev x9r14 : List XOper := [
⟨some 63, none, .mv (.t 11)⟩,
⟨some 9, none, .mv (.t 63)⟩]
abbrev x9l6 : XCode :=
(.seq (.seq (.reg 6 x9r6 none)
(.cond (.t 34)
.skip
(.exit 0)))
(.block 1
(.seq (.reg 7 x9r7 none)
(.seq (.seq (.reg 8 x9r8 none)
(.cond (.t 44)
(.seq (.reg 9 x9r9 none)
(.seq (.seq (.reg 10 x9r10 none)
(.cond (.t 50)
(.reg 11 x9r11 none)
.skip))
(.seq (.reg 12 x9r12 none)
.ret)))
.skip))
(.seq (.reg 13 x9r13 none)
(.reg 14 x9r14 none))))))
abbrev x9r15 : List XOper := [
⟨some 64, none, .mv (.t 8)⟩,
⟨some 65, none, .build [.nils] [(0, 1, (.t 64))]⟩,
⟨none, none, .store 1 (.t 2) (.t 65)⟩,
⟨some 3, none, .mv (.c (.int .i64 0))⟩,
⟨some 4, none, .mv (.c (.int .i64 0))⟩]
/-- datum/datumref08.Parse -/
abbrev x9b : XCode :=
(.seq (.reg 0 x9r0 none)
(.seq (.reg 1 x9r1 none)
(.seq (.seq (.reg 2 x9r2 none)
(.cond (.t 21)
(.seq (.reg 3 x9r3 none)
.ret)
.skip))
(.seq (.reg 4 x9r4 none)
(.seq (.reg 5 x9r5 none)
(.seq (.block 0
(.loop x9l6))
(.seq (.reg 15 x9r15 none)
.ret)))))))
def x9 : XFunc := ⟨66, 1, [.cell 2 true 1, .tmp 3, .tmp 4], x9b⟩
theorem x9_ok : chkF Tryz.prog Tryz.f9 x9 = true := by kernel_rfl
theorem x9_eq : x9.body = x9b ∧ x9.res = [.cell 2 true 1, .tmp 3, .tmp 4] ∧ x9.np = 1 := ⟨rfl, rfl, rfl⟩

abbrev x10r0 : List XOper := [
⟨some 0, none, .mv (.c (.bool false))⟩]
abbrev x10r1 : List XOper := [
⟨some 5, none, .call (.c (.fn (.func 8) [] [])) [(.c (.str ⟨#[99, 104, 97, 110, 110, 101, 108, 32, 97, 32, 99, 32, 123, 32, 98, 97, 115, 101, 32, 53, 59, 32, 99, 97, 112, 32, 57, 59, 32, 125]⟩))]⟩,
⟨some 4, none, .mv (.t 5)⟩,
⟨some 6, none, .ext (.t 4) 0⟩,
⟨some 7, none, .ext (.t 4) 1⟩,
⟨some 8, none, .ext (.t 4) 2⟩,
⟨some 1, none, .alloc [.nils]⟩,
⟨none, none, .store 1 (.t 1) (.t 6)⟩,
⟨some 2, none, .mv (.t 7)⟩,
⟨some 3, none, .mv (.t 8)⟩]
abbrev x10r2 : List XOper := [
⟨some 9, none, .mv (.t 3)⟩,
⟨some 10, none, .bin .eql (.t 9) (.c (.int .i64 0))⟩,
⟨some 11, none, .mv (.t 10)⟩,
⟨some 12, some (11, true), .mv (.t 2)⟩,
⟨some 13, some (11, true), .bin .eql (.t 12) (.c (.int .i64 0))⟩,
⟨some 14, none, .pick (.t 11) (.t 13) (.c (.bool false))⟩,
⟨some 15, none, .mv (.t 14)⟩,
⟨some 16, some (15, true), .fa 0 (.t 1)⟩,
⟨some 17, some (15, true), .load false 1 (.t 16)⟩,
⟨some 18, some (15, true), .lenV (.t 17)⟩,
⟨some 19, some (15, true), .bin .eql (.t 18) (.c (.int .i64 1))⟩,
⟨some 20, none, .pick (.t 15) (.t 19) (.c (.bool false))⟩,
⟨some 21, none, .mv (.t 20)⟩,
⟨some 22, some (21, true), .fa 0 (.t 1)⟩,
⟨some 23, some (21, true), .load false 1 (.t 22)⟩,
⟨some 24, some (21, true), .iaS 14 (.t 23) (.c (.int .i64 0))⟩,
⟨some 25, some (21, true), .fa 1 (.t 24)⟩,
⟨some 26, some (21, true), .load false 1 (.t 25)⟩,
⟨some 27, some (21, true), .bin .eql (.t 26) (.c (.int .i64 4))⟩,
⟨some 28, none, .pick (.t 21) (.t 27) (.c (.bool false))⟩,
⟨some 29, none, .mv (.t 28)⟩,
⟨some 30, some (29, true), .fa 0 (.t 1)⟩,
⟨some 31, some (29, true), .load false 1 (.t 30)⟩,
⟨some 32, some (29, true), .iaS 14 (.t 31) (.c (.int .i64 0))⟩,
⟨some 33, some (29, true), .fa 5 (.t 32)⟩,
⟨some 34, some (29, true), .load false 1 (.t 33)⟩,
⟨some 35, some (29, true), .bin .eql (.t 34) (.c (.int .i64 5))⟩,
⟨some 36, none, .pick (.t 29) (.t 35) (.c (.bool false))⟩,
⟨some 37, none, .mv (.t 36)⟩,
⟨some 38, some (37, true), .fa 0 (.t 1)⟩,
⟨some 39, some (37, true), .load false 1 (.t 38)⟩,
⟨some 40, some (37, true), .iaS 14 (.t 39) (.c (.int .i64 0))⟩,
⟨some 41, some (37, true), .fa 6 (.t 40)⟩,
⟨some 42, some (37, true), .load false 1 (.t 41)⟩,
⟨some 43, some (37, true), .bin .eql (.t 42) (.c (.int .i64 9))⟩,
⟨some 44, none, .pick (.t 37) (.t 43) (.c (.bool false))⟩,
⟨some 0, none, .mv (.t 44)⟩]
/-- datum/datumlaw08.alive -/
abbrev x10b : XCode :=
(.seq (.reg 0 x10r0 none)
(.seq (.reg 1 x10r1 none)
(.seq (.reg 2 x10r2 none)
.ret)))
def x10 : XFunc := ⟨45, 0, [.tmp 0], x10b⟩
theorem x10_ok : chkF Tryz.prog Tryz.f10 x10 = true := by kernel_rfl
theorem x10_eq : x10.body = x10b ∧ x10.res = [.tmp 0] ∧ x10.np = 0 := ⟨rfl, rfl, rfl⟩

abbrev x11r0 : List XOper := [
⟨some 2, none, .box (.t 0)⟩,
⟨some 3, none, .box (.t 1)⟩,
⟨some 4, none, .mv (.c (.bool false))⟩]
abbrev x11r1 : List XOper := [
⟨some 6, none, .fa 0 (.t 2)⟩,
⟨some 7, none, .load false 1 (.t 6)⟩,
⟨some 8, none, .lenV (.t 7)⟩,
⟨some 9, none, .fa 0 (.t 3)⟩,
⟨some 10, none, .load false 1 (.t 9)⟩,
⟨some 11, none, .lenV (.t 10)⟩,
⟨some 12, none, .bin .neq (.t 8) (.t 11)⟩]
abbrev x11r2 : List XOper := [
⟨some 4, none, .mv (.c (.bool false))⟩]
abbrev x11r3 : List XOper := [
⟨some 13, none, .fa 0 (.t 2)⟩,
⟨some 14, none, .load false 1 (.t 13)⟩,
⟨some 15, none, .lenV (.t 14)⟩,
⟨some 16, none, .mv (.c (.int .i64 0))⟩]
abbrev x11r4 : List XOper := [
⟨some 17, none, .bin .lss (.t 16) (.t 15)⟩]
abbrev x11r5 : List XOper := [
⟨some 18, none, .mv (.t 16)⟩,
⟨some 5, none, .mv (.t 18)⟩]
abbrev x11r6 : List XOper := [
⟨some 19, none, .fa 0 (.t 2)⟩,
⟨some 20, none, .load false 1 (.t 19)⟩,
⟨some 21, none, .mv (.t 5)⟩,
⟨some 22, none, .iaS 14 (.t 20) (.t 21)⟩,
⟨some 23, none, .load true 14 (.t 22)⟩,
⟨some 24, none, .fa 0 (.t 3)⟩,
⟨some 25, none, .load false 1 (.t 24)⟩,
⟨some 26, none, .mv (.t 5)⟩,
⟨some 27, none, .iaS 14 (.t 25) (.t 26)⟩,
⟨some 28, none, .load true 14 (.t 27)⟩,
⟨some 29, none, .eqA true [2, 0, 0, 0, 0, 0, 0, 0, 0, 0, 0, 0, 0, 0] (.t 23) (.t 28)⟩]
abbrev x11r7 : List XOper := [
⟨some 4, none, .mv (.c (.bool false))⟩]
abbrev x11r8 : List XOper := [
⟨some 30, none, .bin .add (.t 16) (.c (.int .i64 1))⟩,
⟨some 16, none, .mv (.t 30)⟩]
abbrev x11l4 : XCode :=
(.seq (.reg 4 x11r4 none)
(.seq (.cond (.t 17)
.skip
(.exit 0))
(.seq (.block 1
(.seq (.reg 5 x11r5 none)
(.seq (.reg 6 x11r6 (some ⟨[]⟩))
(.cond (.t 29)
(.seq (.reg 7 x11r7 none)
.ret)
.skip))))
(.reg 8 x11r8 none))))
abbrev x11r9 : List XOper := [
⟨some 4, none, .mv (.c (.bool true))⟩]
/-- datum/datumref08.Same -/
abbrev x11b : XCode :=
(.seq (.reg 0 x11r0 none)
(.seq (.seq (.reg 1 x11r1 none)
(.cond (.t 12)
(.seq (.reg 2 x11r2 none)
.ret)
.skip))
(.seq (.seq (.reg 3 x11r3 none)
(.block 0
(.loop x11l4)))
(.seq (.reg 9 x11r9 none)
.ret))))
def x11 : XFunc := ⟨31, 2, [.tmp 4], x11b⟩
theorem x11_ok : chkF Tryz.prog Tryz.f11 x11 = true := by kernel_rfl
theorem x11_eq : x11.body = x11b ∧ x11.res = [.tmp 4] ∧ x11.np = 2 := ⟨rfl, rfl, rfl⟩

abbrev x12r0 : List XOper := [
⟨some 1, none, .box (.t 0)⟩,
⟨some 2, none, .alloc [.nils]⟩]
abbrev x12r1 : List XOper := [
⟨some 6, none, .build [.nils] []⟩,
⟨some 3, none, .alloc [.nils]⟩,
⟨none, none, .store 1 (.t 3) (.t 6)⟩]
abbrev x12r2 : List XOper := [
⟨some 7, none, .fa 0 (.t 1)⟩,
⟨some 8, none, .load false 1 (.t 7)⟩,
⟨some 9, none, .fa 0 (.t 1)⟩,
⟨some 10, none, .load false 1 (.t 9)⟩,
⟨some 11, none, .lenV (.t 10)⟩,
⟨some 12, none, .mnx false (.t 11) [(.c (.int .i64 6))]⟩,
⟨some 13, none, .slV 14 (.t 8) none (some (.t 12)) none⟩,
⟨some 14, none, .lenV (.t 13)⟩,
⟨some 15, none, .mv (.c (.int .i64 0))⟩]
abbrev x12r3 : List XOper := [
⟨some 16, none, .bin .lss (.t 15) (.t 14)⟩]
abbrev x12r4 : List XOper := [
⟨some 17, none, .iaS 14 (.t 13) (.t 15)⟩,
⟨some 18, none, .load true 14 (.t 17)⟩,
⟨some 5, none, .alloc [(.str ⟨#[]⟩), (.int .i64 0), (.int .i64 0), (.int .i64 0), (.int .i64 0), (.int .i64 0), (.int .i64 0), (.int .i64 0), (.int .i64 0), (.int .i64 0), (.int .i64 0), (.int .i64 0), (.int .i64 0), (.int .i64 0)]⟩,
⟨none, none, .store 14 (.t 5) (.t 18)⟩]
abbrev x12r5 : List XOper := [
⟨some 19, none, .fa 0 (.t 5)⟩,
⟨some 20, none, .load false 1 (.t 19)⟩,
⟨some 21, none, .fa 0 (.t 5)⟩,
⟨some 22, none, .load false 1 (.t 21)⟩,
⟨some 23, none, .lenS (.t 22)⟩,
⟨some 24, none, .mnx false (.t 23) [(.c (.int .i64 20))]⟩,
⟨some 25, none, .slS (.t 20) none (some (.t 24))⟩,
⟨some 26, none, .fa 0 (.t 5)⟩,
⟨none, none, .store 1 (.t 26) (.t 25)⟩]
abbrev x12r6 : List XOper := [
⟨some 27, none, .fa 0 (.t 3)⟩,
⟨some 28, none, .load false 1 (.t 27)⟩,
⟨some 29, none, .load true 14 (.t 5)⟩,
⟨some 30, none, .mkslice 14 (.agg [(.str ⟨#[]⟩), (.int .i64 0), (.int .i64 0), (.int .i64 0), (.int .i64 0), (.int .i64 0), (.int .i64 0), (.int .i64 0), (.int .i64 0), (.int .i64 0), (.int .i64 0), (.int .i64 0), (.int .i64 0), (.int .i64 0)]) 1 [(0, (.t 29))]⟩,
⟨some 31, none, .app 14 120 (.t 28) (.t 30)⟩,
⟨some 32, none, .fa 0 (.t 3)⟩,
⟨none, none, .store 1 (.t 32) (.t 31)⟩]
abbrev x12r7 : List XOper := [
⟨some 33, none, .bin .add (.t 15) (.c (.int .i64 1))⟩,
⟨some 15, none, .mv (.t 33)⟩]
abbrev x12l3 : XCode :=
(.seq (.reg 3 x12r3 none)
(.seq (.cond (.t 16)
.skip
(.exit 0))
(.seq (.block 1
(.seq (.reg 4 x12r4 none)
(.seq (.reg 5 x12r5 none)
(.reg 6 x12r6 none))))
(.reg 7 x12r7 none))))
abbrev x12r8 : List XOper := [
⟨some 34, none, .load true 1 (.t 3)⟩,
⟨none, none, .store 1 (.t 2) (.t 34)⟩]
/-- datum/datumlaw08.few -/
abbrev x12b : XCode :=
(.seq (.reg 0 x12r0 none)
(.seq (.reg 1 x12r1 none)
(.seq (.seq (.reg 2 x12r2 none)
(.block 0
(.loop x12l3)))
(.seq (.reg 8 x12r8 none)
.ret))))
def x12 : XFunc := ⟨35, 1, [.cell 2 true 1], x12b⟩
theorem x12_ok : chkF Tryz.prog Tryz.f12 x12 = true := by kernel_rfl
theorem x12_eq : x12.body = x12b ∧ x12.res = [.cell 2 true 1] ∧ x12.np = 1 := ⟨rfl, rfl, rfl⟩

abbrev x14r0 : List XOper := [
⟨some 1, none, .box (.t 0)⟩,
⟨some 2, none, .mv (.c (.bool false))⟩]
abbrev x14r1 : List XOper := [
⟨some 6, none, .mkM⟩,
⟨some 3, none, .mv (.t 6)⟩]
abbrev x14r2 : List XOper := [
⟨some 7, none, .fa 0 (.t 1)⟩,
⟨some 8, none, .load false 1 (.t 7)⟩,
⟨some 9, none, .lenV (.t 8)⟩,
⟨some 10, none, .mv (.c (.int .i64 0))⟩]
abbrev x14r3 : List XOper := [
⟨some 11, none, .bin .lss (.t 10) (.t 9)⟩]
abbrev x14r4 : List XOper := [
⟨some 12, none, .iaS 14 (.t 8) (.t 10)⟩,
⟨some 13, none, .load true 14 (.t 12)⟩,
⟨some 5, none, .alloc [(.str ⟨#[]⟩), (.int .i64 0), (.int .i64 0), (.int .i64 0), (.int .i64 0), (.int .i64 0), (.int .i64 0), (.int .i64 0), (.int .i64 0), (.int .i64 0), (.int .i64 0), (.int .i64 0), (.int .i64 0), (.int .i64 0)]⟩,
⟨none, none, .store 14 (.t 5) (.t 13)⟩]
abbrev x14r5 : List XOper := [
⟨some 14, none, .mv (.t 3)⟩,
⟨some 15, none, .fa 0 (.t 5)⟩,
⟨some 16, none, .load false 1 (.t 15)⟩,
⟨some 17, none, .lkp 2 false (.int .i64 0) (.t 14) (.t 16)⟩,
⟨some 18, none, .bin .add (.t 17) (.c (.int .i64 1))⟩,
⟨none, none, .mset 2 (.t 14) (.t 16) (.t 18)⟩]
abbrev x14r6 : List XOper := [
⟨some 19, none, .mv (.t 3)⟩,
⟨some 20, none, .fa 0 (.t 5)⟩,
⟨some 21, none, .load false 1 (.t 20)⟩,
⟨some 22, none, .lkp 2 false (.int .i64 0) (.t 19) (.t 21)⟩,
⟨some 23, none, .bin .gtr (.t 22) (.c (.int .i64 1))⟩,
⟨some 24, none, .mv (.t 23)⟩,
⟨some 25, some (24, false), .load true 14 (.t 5)⟩,
⟨some 26, some (24, false), .call (.c (.fn (.func 29) [] [])) [(.t 25)]⟩,
⟨some 27, some (24, false), .un .not (.t 26)⟩,
⟨some 28, none, .pick (.t 24) (.c (.bool true)) (.t 27)⟩]
abbrev x14r7 : List XOper := [
⟨some 2, none, .mv (.c (.bool false))⟩]
abbrev x14r8 : List XOper := [
⟨some 29, none, .bin .add (.t 10) (.c (.int .i64 1))⟩,
⟨some 10, none, .mv (.t 29)⟩]
abbrev x14l3 : XCode :=
(.seq (.reg 3 x14r3 none)
(.seq (.cond (.t 11)
.skip
(.exit 0))
(.seq (.block 1
(.seq (.reg 4 x14r4 none)
(.seq (.reg 5 x14r5 none)
(.seq (.reg 6 x14r6 none)
(.cond (.t 28)
(.seq (.reg 7 x14r7 none)
.ret)
.skip)))))
(.reg 8 x14r8 none))))
abbrev x14r9 : List XOper := [
⟨some 30, none, .fa 0 (.t 1)⟩,
⟨some 31, none, .load false 1 (.t 30)⟩,
⟨some 32, none, .lenV (.t 31)⟩,
⟨some 33, none, .bin .geq (.t 32) (.c (.int .i64 1))⟩,
⟨some 34, none, .mv (.t 33)⟩,
⟨some 35, some (34, true), .fa 0 (.t 1)⟩,
⟨some 36, some (34, true), .load false 1 (.t 35)⟩,
⟨some 37, some (34, true), .lenV (.t 36)⟩,
⟨some 38, some (34, true), .bin .leq (.t 37) (.c (.int .i64 4))⟩,
⟨some 39, none, .pick (.t 34) (.t 38) (.c (.bool false))⟩,
⟨some 2, none, .mv (.t 39)⟩]
/-- datum/recipe.Right -/
abbrev x14b : XCode :=
(.seq (.reg 0 x14r0 none)
(.seq (.reg 1 x14r1 none)
(.seq (.seq (.reg 2 x14r2 none)
(.block 0
(.loop x14l3)))
(.seq (.reg 9 x14r9 none)
.ret))))
def x14 : XFunc := ⟨40, 1, [.tmp 2], x14b⟩
theorem x14_ok : chkF Tryz.prog Tryz.f14 x14 = true := by kernel_rfl
theorem x14_eq : x14.body = x14b ∧ x14.res = [.tmp 2] ∧ x14.np = 1 := ⟨rfl, rfl, rfl⟩

abbrev x15r0 : List XOper := [
⟨some 1, none, .box (.t 0)⟩,
⟨some 2, none, .mv (.c (.bool false))⟩]
abbrev x15r1 : List XOper := [
⟨some 7, none, .fa 0 (.t 1)⟩,
⟨some 8, none, .load false 1 (.t 7)⟩,
⟨some 9, none, .lenV (.t 8)⟩,
⟨some 10, none, .mv (.c (.int .i64 0))⟩]
abbrev x15r2 : List XOper := [
⟨some 11, none, .bin .lss (.t 10) (.t 9)⟩]
abbrev x15r3 : List XOper := [
⟨some 12, none, .mv (.t 10)⟩,
⟨some 13, none, .iaS 14 (.t 8) (.t 10)⟩,
⟨some 14, none, .load true 14 (.t 13)⟩,
⟨some 4, none, .alloc [(.str ⟨#[]⟩), (.int .i64 0), (.int .i64 0), (.int .i64 0), (.int .i64 0), (.int .i64 0), (.int .i64 0), (.int .i64 0), (.int .i64 0), (.int .i64 0), (.int .i64 0), (.int .i64 0), (.int .i64 0), (.int .i64 0)]⟩,
⟨some 3, none, .mv (.t 12)⟩,
⟨none, none, .store 14 (.t 4) (.t 14)⟩]
abbrev x15r4 : List XOper := [
⟨some 15, none, .load true 14 (.t 4)⟩,
⟨some 16, none, .call (.c (.fn (.func 30) [] [])) [(.t 15)]⟩,
⟨some 17, none, .un .not (.t 16)⟩]
abbrev x15r5 : List XOper := [
⟨some 2, none, .mv (.c (.bool false))⟩]
abbrev x15r6 : List XOper := [
⟨some 18, none, .fa 0 (.t 1)⟩,
⟨some 19, none, .load false 1 (.t 18)⟩,
⟨some 20, none, .mv (.t 3)⟩,
⟨some 21, none, .slV 14 (.t 19) none (some (.t 20)) none⟩,
⟨some 22, none, .lenV (.t 21)⟩,
⟨some 23, none, .mv (.c (.int .i64 0))⟩]
abbrev x15r7 : List XOper := [
⟨some 24, none, .bin .lss (.t 23) (.t 22)⟩]
abbrev x15r8 : List XOper := [
⟨some 25, none, .iaS 14 (.t 21) (.t 23)⟩,
⟨some 26, none, .load true 14 (.t 25)⟩,
⟨some 6, none, .alloc [(.str ⟨#[]⟩), (.int .i64 0), (.int .i64 0), (.int .i64 0), (.int .i64 0), (.int .i64 0), (.int .i64 0), (.int .i64 0), (.int .i64 0), (.int .i64 0), (.int .i64 0), (.int .i64 0), (.int .i64 0), (.int .i64 0)]⟩,
⟨none, none, .store 14 (.t 6) (.t 26)⟩]
abbrev x15r9 : List XOper := [
⟨some 27, none, .fa 0 (.t 4)⟩,
⟨some 28, none, .load false 1 (.t 27)⟩,
⟨some 29, none, .fa 0 (.t 6)⟩,
⟨some 30, none, .load false 1 (.t 29)⟩,
⟨some 31, none, .bin .eql (.t 28) (.t 30)⟩]
abbrev x15r10 : List XOper := [
⟨some 2, none, .mv (.c (.bool false))⟩]
abbrev x15r11 : List XOper := [
⟨some 32, none, .bin .add (.t 23) (.c (.int .i64 1))⟩,
⟨some 23, none, .mv (.t 32)⟩]
abbrev x15l7 : XCode :=
(.seq (.reg 7 x15r7 none)
(.seq (.cond (.t 24)
.skip
(.exit 2))
(.seq (.block 3
(.seq (.reg 8 x15r8 none)
(.seq (.reg 9 x15r9 none)
(.cond (.t 31)
(.seq (.reg 10 x15r10 none)
.ret)
.skip))))
(.reg 11 x15r11 none))))
abbrev x15r12 : List XOper := [
⟨some 33, none, .bin .add (.t 10) (.c (.int .i64 1))⟩,
⟨some 10, none, .mv (.t 33)⟩]
abbrev x15l2 : XCode :=
(.seq (.reg 2 x15r2 none)
(.seq (.cond (.t 11)
.skip
(.exit 0))
(.seq (.block 1
(.seq (.reg 3 x15r3 none)
(.seq (.seq (.reg 4 x15r4 none)
(.cond (.t 17)
(.seq (.reg 5 x15r5 none)
.ret)
.skip))
(.seq (.reg 6 x15r6 none)
(.block 2
(.loop x15l7))))))
(.reg 12 x15r12 none))))
abbrev x15r13 : List XOper := [
⟨some 34, none, .fa 0 (.t 1)⟩,
⟨some 35, none, .load false 1 (.t 34)⟩,
⟨some 36, none, .lenV (.t 35)⟩,
⟨some 37, none, .bin .geq (.t 36) (.c (.int .i64 1))⟩,
⟨some 38, none, .mv (.t 37)⟩,
⟨some 39, some (38, true), .fa 0 (.t 1)⟩,
⟨some 40, some (38, true), .load false 1 (.t 39)⟩,
⟨some 41, some (38, true), .lenV (.t 40)⟩,
⟨some 42, some (38, true), .bin .leq (.t 41) (.c (.int .i64 4))⟩,
⟨some 43, none, .pick (.t 38) (.t 42) (.c (.bool false))⟩,
⟨some 2, none, .mv (.t 43)⟩]
/-- datum/datumref08.Right -/
abbrev x15b : XCode :=
(.seq (.reg 0 x15r0 none)
(.seq (.seq (.reg 1 x15r1 none)
(.block 0
(.loop x15l2)))
(.seq (.reg 13 x15r13 none)
.ret)))
def x15 : XFunc := ⟨44, 1, [.tmp 2], x15b⟩
theorem x15_ok : chkF Tryz.prog Tryz.f15 x15 = true := by kernel_rfl
theorem x15_eq : x15.body = x15b ∧ x15.res = [.tmp 2] ∧ x15.np = 1 := ⟨rfl, rfl, rfl⟩

abbrev x16r0 : List XOper := [
⟨some 1, none, .box (.t 0)⟩,
⟨some 2, none, .mv (.c (.str ⟨#[]⟩))⟩]
abbrev x16r1 : List XOper := [
⟨some 3, none, .mv (.c (.str ⟨#[]⟩))⟩]
abbrev x16r2 : List XOper := [
⟨some 8, none, .fa 0 (.t 1)⟩,
⟨some 9, none, .load false 1 (.t 8)⟩,
⟨some 10, none, .lenV (.t 9)⟩,
⟨some 11, none, .mv (.c (.int .i64 0))⟩]
abbrev x16r3 : List XOper := [
⟨some 12, none, .bin .lss (.t 11) (.t 10)⟩]
abbrev x16r4 : List XOper := [
⟨some 13, none, .iaS 14 (.t 9) (.t 11)⟩,
⟨some 14, none, .load true 14 (.t 13)⟩,
⟨some 5, none, .alloc [(.str ⟨#[]⟩), (.int .i64 0), (.int .i64 0), (.int .i64 0), (.int .i64 0), (.int .i64 0), (.int .i64 0), (.int .i64 0), (.int .i64 0), (.int .i64 0), (.int .i64 0), (.int .i64 0), (.int .i64 0), (.int .i64 0)]⟩,
⟨none, none, .store 14 (.t 5) (.t 14)⟩]
abbrev x16r5 : List XOper := [
⟨some 15, none, .mv (.t 3)⟩,
⟨some 16, none, .bin .add (.t 15) (.c (.str ⟨#[99, 104, 97, 110, 110, 101, 108, 32]⟩))⟩,
⟨some 17, none, .fa 0 (.t 5)⟩,
⟨some 18, none, .load false 1 (.t 17)⟩,
⟨some 19, none, .bin .add (.t 16) (.t 18)⟩,
⟨some 20, none, .bin .add (.t 19) (.c (.str ⟨#[32]⟩))⟩,
⟨some 21, none, .call (.c (.fn (.func 31) [] [])) []⟩,
⟨some 22, none, .fa 1 (.t 5)⟩,
⟨some 23, none, .load false 1 (.t 22)⟩,
⟨some 24, none, .iaS 1 (.t 21) (.t 23)⟩,
⟨some 25, none, .load false 1 (.t 24)⟩,
⟨some 26, none, .bin .add (.t 20) (.t 25)⟩,
⟨some 27, none, .bin .add (.t 26) (.c (.str ⟨#[32, 123, 10]⟩))⟩,
⟨some 3, none, .mv (.t 27)⟩]
abbrev x16r6 : List XOper := [
⟨some 28, none, .call (.c (.fn (.func 32) [] [])) []⟩,
⟨some 29, none, .lenV (.t 28)⟩,
⟨some 30, none, .mv (.c (.int .i64 0))⟩]
abbrev x16r7 : List XOper := [
⟨some 31, none, .bin .lss (.t 30) (.t 29)⟩]
abbrev x16r8 : List XOper := [
⟨some 32, none, .mv (.t 30)⟩,
⟨some 33, none, .iaS 1 (.t 28) (.t 30)⟩,
⟨some 34, none, .load false 1 (.t 33)⟩,
⟨some 6, none, .mv (.t 32)⟩,
⟨some 7, none, .mv (.t 34)⟩]
abbrev x16r9 : List XOper := [
⟨some 35, none, .fa 1 (.t 5)⟩,
⟨some 36, none, .load false 1 (.t 35)⟩,
⟨some 37, none, .mv (.t 6)⟩,
⟨some 38, none, .call (.c (.fn (.func 33) [] [])) [(.t 36), (.t 37)]⟩,
⟨some 39, none, .mv (.t 38)⟩,
⟨some 40, some (39, false), .mv (.t 6)⟩,
⟨some 41, some (39, false), .bin .geq (.t 40) (.c (.int .i64 10))⟩,
⟨some 42, some (39, false), .mv (.t 41)⟩,
⟨some 43, some (42, true), .fa 12 (.t 5)⟩,
⟨some 44, some (42, true), .load false 1 (.t 43)⟩,
⟨some 45, some (42, true), .fa 13 (.t 5)⟩,
⟨some 46, some (42, true), .load false 1 (.t 45)⟩,
⟨some 47, some (42, true), .bin .lss (.t 44) (.t 46)⟩,
⟨some 48, some (39, false), .pick (.t 42) (.t 47) (.c (.bool false))⟩,
⟨some 49, none, .pick (.t 39) (.c (.bool true)) (.t 48)⟩]
abbrev x16r10 : List XOper := [
⟨some 50, none, .mv (.t 3)⟩,
⟨some 51, none, .mv (.t 7)⟩,
⟨some 52, none, .bin .add (.t 50) (.t 51)⟩,
⟨some 53, none, .bin .add (.t 52) (.c (.str ⟨#[32]⟩))⟩,
⟨some 54, none, .load true 14 (.t 5)⟩,
⟨some 55, none, .mv (.t 6)⟩,
⟨some 56, none, .call (.c (.fn (.func 35) [] [])) [(.t 54), (.t 55)]⟩,
⟨some 57, none, .call (.c (.fn (.func 34) [] [])) [(.t 56)]⟩,
⟨some 58, none, .bin .add (.t 53) (.t 57)⟩,
⟨some 59, none, .bin .add (.t 58) (.c (.str ⟨#[59, 10]⟩))⟩,
⟨some 3, none, .mv (.t 59)⟩]
abbrev x16r11 : List XOper := [
⟨some 60, none, .bin .add (.t 30) (.c (.int .i64 1))⟩,
⟨some 30, none, .mv (.t 60)⟩]
abbrev x16l7 : XCode :=
(.seq (.reg 7 x16r7 none)
(.seq (.cond (.t 31)
.skip
(.exit 2))
(.seq (.block 3
(.seq (.reg 8 x16r8 none)
(.seq (.reg 9 x16r9 none)
(.cond (.t 49)
(.reg 10 x16r10 none)
.skip))))
(.reg 11 x16r11 none))))
abbrev x16r12 : List XOper := [
⟨some 61, none, .mv (.t 3)⟩,
⟨some 62, none, .bin .add (.t 61) (.c (.str ⟨#[125, 10]⟩))⟩,
⟨some 3, none, .mv (.t 62)⟩]
abbrev x16r13 : List XOper := [
⟨some 63, none, .bin .add (.t 11) (.c (.int .i64 1))⟩,
⟨some 11, none, .mv (.t 63)⟩]
abbrev x16l3 : XCode :=
(.seq (.reg 3 x16r3 none)
(.seq (.cond (.t 12)
.skip
(.exit 0))
(.seq (.block 1
(.seq (.reg 4 x16r4 none)
(.seq (.reg 5 x16r5 (some ⟨[(3, 6), (6, 8)]⟩))
(.seq (.seq (.reg 6 x16r6 none)
(.block 2
(.loop x16l7)))
(.reg 12 x16r12 none)))))
(.reg 13 x16r13 none))))
abbrev x16r14 : List XOper := [
⟨some 64, none, .mv (.t 3)⟩,
⟨some 2, none, .mv (.t 64)⟩]
/-- datum/datumref08.Print -/
abbrev x16b : XCode :=
(.seq (.reg 0 x16r0 none)
(.seq (.reg 1 x16r1 none)
(.seq (.seq (.reg 2 x16r2 none)
(.block 0
(.loop x16l3)))
(.seq (.reg 14 x16r14 none)
.ret))))
def x16 : XFunc := ⟨65, 1, [.tmp 2], x16b⟩
theorem x16_ok : chkF Tryz.prog Tryz.f16 x16 = true := by kernel_rfl
theorem x16_eq : x16.body = x16b ∧ x16.res = [.tmp 2] ∧ x16.np = 1 := ⟨rfl, rfl, rfl⟩

abbrev x17r0 : List XOper := [
⟨some 2, none, .mv (.c .nils)⟩,
⟨some 3, none, .mv (.c (.int .i64 0))⟩,
⟨some 4, none, .mv (.c (.int .i64 0))⟩]
abbrev x17r1 : List XOper := [
⟨some 10, none, .mv (.t 0)⟩,
⟨some 11, none, .lenS (.t 10)⟩,
⟨some 12, none, .bin .gtr (.t 11) (.c (.int .i64 4000))⟩]
abbrev x17r2 : List XOper := [
⟨some 2, none, .mv (.c .nils)⟩,
⟨some 3, none, .mv (.c (.int .i64 0))⟩,
⟨some 4, none, .mv (.c (.int .i64 2))⟩]
abbrev x17r3 : List XOper := [
⟨some 13, none, .mv (.t 0)⟩,
⟨some 14, none, .build [(.str ⟨#[]⟩), (.int .i64 0)] [(0, 1, (.t 13))]⟩,
⟨some 15, none, .box (.t 14)⟩,
⟨some 5, none, .mv (.t 15)⟩]
abbrev x17r4 : List XOper := [
⟨some 6, none, .mv (.c .nils)⟩]
abbrev x17r5 : List XOper := [
⟨some 16, none, .mv (.t 5)⟩,
⟨some 17, none, .call (.c (.fn (.func 36) [] [])) [(.t 16)]⟩]
abbrev x17r6 : List XOper := [
⟨some 18, none, .mv (.t 5)⟩,
⟨some 19, none, .nilChk (.t 18)⟩,
⟨some 20, none, .fa 1 (.t 19)⟩,
⟨some 21, none, .load false 1 (.t 20)⟩,
⟨some 22, none, .mv (.t 0)⟩,
⟨some 23, none, .lenS (.t 22)⟩,
⟨some 24, none, .bin .lss (.t 21) (.t 23)⟩]
abbrev x17r8 : List XOper := [
⟨some 27, none, .mv (.t 5)⟩,
⟨some 28, none, .nilChk (.t 27)⟩,
⟨some 29, none, .fa 1 (.t 28)⟩,
⟨some 30, none, .load false 1 (.t 29)⟩,
⟨some 7, none, .mv (.t 30)⟩]
abbrev x17r9 : List XOper := [
⟨some 32, none, .mv (.t 5)⟩,
⟨some 33, none, .call (.c (.fn (.func 37) [] [])) [(.t 32)]⟩,
⟨some 31, none, .mv (.t 33)⟩,
⟨some 34, none, .ext (.t 31) 0⟩,
⟨some 35, none, .ext (.t 31) 1⟩,
⟨some 8, none, .alloc [(.int .i64 0), (.str ⟨#[]⟩), (.int .i64 0), (.int .i64 0)]⟩,
⟨none, none, .store 4 (.t 8) (.t 34)⟩,
⟨some 9, none, .mv (.t 35)⟩]
abbrev x17r10 : List XOper := [
⟨some 36, none, .mv (.t 9)⟩,
⟨some 37, none, .bin .neq (.t 36) (.c (.int .i64 0))⟩]
abbrev x17r11 : List XOper := [
⟨some 38, none, .mv (.t 7)⟩,
⟨some 39, none, .mv (.t 9)⟩,
⟨some 2, none, .mv (.c .nils)⟩,
⟨some 3, none, .mv (.t 38)⟩,
⟨some 4, none, .mv (.t 39)⟩]
abbrev x17r12 : List XOper := [
⟨some 40, none, .mv (.t 7)⟩,
⟨some 41, none, .fa 3 (.t 8)⟩,
⟨none, none, .store 1 (.t 41) (.t 40)⟩]
abbrev x17r13 : List XOper := [
⟨some 42, none, .mv (.t 6)⟩,
⟨some 43, none, .load true 4 (.t 8)⟩,
⟨some 44, none, .mkslice 4 (.agg [(.int .i64 0), (.str ⟨#[]⟩), (.int .i64 0), (.int .i64 0)]) 1 [(0, (.t 43))]⟩,
⟨some 45, none, .app 4 40 (.t 42) (.t 44)⟩,
⟨some 6, none, .mv (.t 45)⟩]
abbrev x17r7 : List XOper := [
⟨some 25, none, .mv (.t 5)⟩,
⟨some 26, none, .call (.c (.fn (.func 36) [] [])) [(.t 25)]⟩]
abbrev x17l6 : XCode :=
(.seq (.seq (.reg 6 x17r6 none)
(.cond (.t 24)
.skip
(.exit 0)))
(.seq (.block 1
(.seq (.reg 8 x17r8 none)
(.seq (.reg 9 x17r9 none)
(.seq (.seq (.reg 10 x17r10 none)
(.cond (.t 37)
(.seq (.reg 11 x17r11 none)
.ret)
.skip))
(.seq (.reg 12 x17r12 none)
(.reg 13 x17r13 none))))))
(.reg 7 x17r7 none)))
abbrev x17r14 : List XOper := [
⟨some 46, none, .mv (.t 6)⟩,
⟨some 2, none, .mv (.t 46)⟩,
⟨some 3, none, .mv (.c (.int .i64 0))⟩,
⟨some 4, none, .mv (.c (.int .i64 0))⟩]
/-- datum/token.Scan -/
abbrev x17b : XCode :=
(.seq (.reg 0 x17r0 none)
(.seq (.seq (.reg 1 x17r1 none)
(.cond (.t 12)
(.seq (.reg 2 x17r2 none)
.ret)
.skip))
(.seq (.reg 3 x17r3 none)
(.seq (.reg 4 x17r4 none)
(.seq (.seq (.reg 5 x17r5 none)
(.block 0
(.loop x17l6)))
(.seq (.reg 14 x17r14 none)
.ret))))))
def x17 : XFunc := ⟨47, 1, [.tmp 2, .tmp 3, .tmp 4], x17b⟩
theorem x17_ok : chkF Tryz.prog Tryz.f17 x17 = true := by kernel_rfl
theorem x17_eq : x17.body = x17b ∧ x17.res = [.tmp 2, .tmp 3, .tmp 4] ∧ x17.np = 1 := ⟨rfl, rfl, rfl⟩

abbrev x18r0 : List XOper := [
⟨some 4, none, .alloc [(.str ⟨#[]⟩), (.int .i64 0), (.int .i64 0), (.int .i64 0), (.int .i64 0), (.int .i64 0), (.int .i64 0), (.int .i64 0), (.int .i64 0), (.int .i64 0), (.int .i64 0), (.int .i64 0), (.int .i64 0), (.int .i64 0)]⟩,
⟨some 5, none, .mv (.c .nili)⟩]
abbrev x18r1 : List XOper := [
⟨some 6, none, .alloc [(.str ⟨#[]⟩), (.int .i64 0), (.int .i64 0), (.int .i64 0), (.int .i64 0), (.int .i64 0), (.int .i64 0), (.int .i64 0), (.int .i64 0), (.int .i64 0), (.int .i64 0), (.int .i64 0), (.int .i64 0), (.int .i64 0)]⟩]
abbrev x18r2 : List XOper := [
⟨some 18, none, .mv (.t 0)⟩,
⟨some 19, none, .call (.c (.fn (.func 38) [] [])) [(.t 18)]⟩,
⟨some 7, none, .alloc [(.int .i64 0), (.str ⟨#[]⟩), (.int .i64 0), (.int .i64 0)]⟩,
⟨none, none, .store 4 (.t 7) (.t 19)⟩]
abbrev x18r3 : List XOper := [
⟨some 21, none, .fa 0 (.t 7)⟩,
⟨some 22, none, .load false 1 (.t 21)⟩,
⟨some 23, none, .bin .neq (.t 22) (.c (.int .i64 1))⟩,
⟨some 24, none, .mv (.t 23)⟩,
⟨some 25, some (24, false), .fa 1 (.t 7)⟩,
⟨some 26, some (24, false), .load false 1 (.t 25)⟩,
⟨some 27, some (24, false), .bin .neq (.t 26) (.c (.str ⟨#[99, 104, 97, 110, 110, 101, 108]⟩))⟩,
⟨some 28, none, .pick (.t 24) (.c (.bool true)) (.t 27)⟩,
⟨some 20, none, .mv (.t 28)⟩]
abbrev x18r4 : List XOper := [
⟨some 29, none, .load true 14 (.t 6)⟩,
⟨some 30, none, .mv (.t 0)⟩,
⟨some 31, none, .call (.c (.fn (.func 39) [] [])) [(.t 30), (.c (.int .i64 8))]⟩,
⟨none, none, .store 14 (.t 4) (.t 29)⟩,
⟨some 5, none, .mv (.t 31)⟩]
abbrev x18r5 : List XOper := [
⟨some 33, none, .mv (.t 1)⟩,
⟨some 34, none, .lenV (.t 33)⟩,
⟨some 35, none, .bin .eql (.t 34) (.c (.int .i64 4))⟩,
⟨some 32, none, .mv (.t 35)⟩]
abbrev x18r6 : List XOper := [
⟨some 36, none, .load true 14 (.t 6)⟩,
⟨some 37, none, .mv (.t 0)⟩,
⟨some 38, none, .call (.c (.fn (.func 39) [] [])) [(.t 37), (.c (.int .i64 2))]⟩,
⟨none, none, .store 14 (.t 4) (.t 36)⟩,
⟨some 5, none, .mv (.t 38)⟩]
abbrev x18r7 : List XOper := [
⟨some 39, none, .mv (.t 0)⟩,
⟨some 40, none, .nilChk (.t 39)⟩,
⟨some 41, none, .fa 1 (.t 40)⟩,
⟨some 42, none, .load false 1 (.t 41)⟩,
⟨some 43, none, .bin .add (.t 42) (.c (.int .i64 1))⟩,
⟨some 44, none, .nilChk (.t 39)⟩,
⟨some 45, none, .fa 1 (.t 44)⟩,
⟨none, none, .store 1 (.t 45) (.t 43)⟩]
abbrev x18r8 : List XOper := [
⟨some 46, none, .mv (.t 0)⟩,
⟨some 47, none, .call (.c (.fn (.func 38) [] [])) [(.t 46)]⟩,
⟨some 8, none, .alloc [(.int .i64 0), (.str ⟨#[]⟩), (.int .i64 0), (.int .i64 0)]⟩,
⟨none, none, .store 4 (.t 8) (.t 47)⟩]
abbrev x18r9 : List XOper := [
⟨some 48, none, .fa 0 (.t 8)⟩,
⟨some 49, none, .load false 1 (.t 48)⟩,
⟨some 50, none, .bin .eql (.t 49) (.c (.int .i64 1))⟩,
⟨some 51, none, .mv (.t 50)⟩,
⟨some 52, some (51, true), .mv (.t 1)⟩,
⟨some 53, some (51, true), .mkf (.func 41) [] [(.t 8)]⟩,
⟨some 54, some (51, true), .call (.c (.fn (.func 40) [] [])) [(.t 52), (.t 53)]⟩,
⟨some 55, none, .pick (.t 51) (.t 54) (.c (.bool false))⟩]
abbrev x18r10 : List XOper := [
⟨some 56, none, .load true 14 (.t 6)⟩,
⟨some 57, none, .mv (.t 0)⟩,
⟨some 58, none, .call (.c (.fn (.func 39) [] [])) [(.t 57), (.c (.int .i64 9))]⟩,
⟨none, none, .store 14 (.t 4) (.t 56)⟩,
⟨some 5, none, .mv (.t 58)⟩]
abbrev x18r11 : List XOper := [
⟨some 60, none, .mv (.t 0)⟩,
⟨some 61, none, .call (.c (.fn (.func 42) [] [])) [(.t 60), (.c (.int .i64 1))]⟩,
⟨some 59, none, .mv (.t 61)⟩,
⟨some 62, none, .ext (.t 59) 0⟩,
⟨some 63, none, .ext (.t 59) 1⟩,
⟨some 9, none, .alloc [(.int .i64 0), (.str ⟨#[]⟩), (.int .i64 0), (.int .i64 0)]⟩,
⟨none, none, .store 4 (.t 9) (.t 62)⟩,
⟨some 10, none, .mv (.t 63)⟩]
abbrev x18r12 : List XOper := [
⟨some 64, none, .mv (.t 10)⟩,
⟨some 65, none, .eqN true 1 (.t 64)⟩]
abbrev x18r13 : List XOper := [
⟨some 66, none, .load true 14 (.t 6)⟩,
⟨some 67, none, .mv (.t 10)⟩,
⟨none, none, .store 14 (.t 4) (.t 66)⟩,
⟨some 5, none, .mv (.t 67)⟩]
abbrev x18r14 : List XOper := [
⟨some 68, none, .fa 1 (.t 8)⟩,
⟨some 69, none, .load false 1 (.t 68)⟩,
⟨some 70, none, .fa 0 (.t 6)⟩,
⟨none, none, .store 1 (.t 70) (.t 69)⟩]
abbrev x18r15 : List XOper := [
⟨some 71, none, .call (.c (.fn (.func 23) [] [])) []⟩,
⟨some 11, none, .alloc [(.str ⟨#[]⟩), (.str ⟨#[]⟩), (.str ⟨#[]⟩), (.str ⟨#[]⟩), (.str ⟨#[]⟩), (.str ⟨#[]⟩), (.str ⟨#[]⟩), (.str ⟨#[]⟩)]⟩,
⟨none, none, .store 8 (.t 11) (.t 71)⟩]
abbrev x18r16 : List XOper := [
⟨some 72, none, .mv (.t 0)⟩,
⟨some 73, none, .call (.c (.fn (.func 38) [] [])) [(.t 72)]⟩,
⟨some 12, none, .alloc [(.int .i64 0), (.str ⟨#[]⟩), (.int .i64 0), (.int .i64 0)]⟩,
⟨none, none, .store 4 (.t 12) (.t 73)⟩]
abbrev x18r17 : List XOper := [
⟨some 74, none, .slA 8 1 (.t 11) none none⟩,
⟨some 75, none, .fa 1 (.t 12)⟩,
⟨some 76, none, .load false 1 (.t 75)⟩,
⟨some 77, none, .call (.c (.fn (.func 43) [] [])) [(.t 74), (.t 76)]⟩,
⟨some 78, none, .fa 1 (.t 6)⟩,
⟨none, none, .store 1 (.t 78) (.t 77)⟩]
abbrev x18r18 : List XOper := [
⟨some 79, none, .fa 1 (.t 6)⟩,
⟨some 80, none, .load false 1 (.t 79)⟩,
⟨some 81, none, .bin .lss (.t 80) (.c (.int .i64 0))⟩,
⟨some 82, none, .mv (.t 81)⟩,
⟨some 83, some (82, false), .fa 0 (.t 12)⟩,
⟨some 84, some (82, false), .load false 1 (.t 83)⟩,
⟨some 85, some (82, false), .bin .neq (.t 84) (.c (.int .i64 1))⟩,
⟨some 86, none, .pick (.t 82) (.c (.bool true)) (.t 85)⟩]
abbrev x18r19 : List XOper := [
⟨some 87, none, .load true 14 (.t 6)⟩,
⟨some 88, none, .mv (.t 0)⟩,
⟨some 89, none, .call (.c (.fn (.func 39) [] [])) [(.t 88), (.c (.int .i64 8))]⟩,
⟨none, none, .store 14 (.t 4) (.t 87)⟩,
⟨some 5, none, .mv (.t 89)⟩]
abbrev x18r20 : List XOper := [
⟨some 90, none, .mv (.t 0)⟩,
⟨some 91, none, .nilChk (.t 90)⟩,
⟨some 92, none, .fa 1 (.t 91)⟩,
⟨some 93, none, .load false 1 (.t 92)⟩,
⟨some 94, none, .bin .add (.t 93) (.c (.int .i64 1))⟩,
⟨some 95, none, .nilChk (.t 90)⟩,
⟨some 96, none, .fa 1 (.t 95)⟩,
⟨none, none, .store 1 (.t 96) (.t 94)⟩]
abbrev x18r21 : List XOper := [
⟨some 98, none, .mv (.t 0)⟩,
⟨some 99, none, .call (.c (.fn (.func 42) [] [])) [(.t 98), (.c (.int .i64 3))]⟩,
⟨some 97, none, .mv (.t 99)⟩,
⟨some 100, none, .ext (.t 97) 0⟩,
⟨some 101, none, .ext (.t 97) 1⟩,
⟨some 13, none, .alloc [(.int .i64 0), (.str ⟨#[]⟩), (.int .i64 0), (.int .i64 0)]⟩,
⟨none, none, .store 4 (.t 13) (.t 100)⟩,
⟨some 14, none, .mv (.t 101)⟩]
abbrev x18r22 : List XOper := [
⟨some 102, none, .mv (.t 14)⟩,
⟨some 103, none, .eqN true 1 (.t 102)⟩]
abbrev x18r23 : List XOper := [
⟨some 104, none, .load true 14 (.t 6)⟩,
⟨some 105, none, .mv (.t 14)⟩,
⟨none, none, .store 14 (.t 4) (.t 104)⟩,
⟨some 5, none, .mv (.t 105)⟩]
abbrev x18r24 : List XOper := [
⟨some 106, none, .mkM⟩,
⟨some 15, none, .mv (.t 106)⟩]
abbrev x18r25 : List XOper := [
⟨some 107, none, .mv (.t 0)⟩,
⟨some 108, none, .call (.c (.fn (.func 38) [] [])) [(.t 107)]⟩,
⟨some 109, none, .fld false 1 0 (.t 108)⟩,
⟨some 110, none, .bin .neq (.t 109) (.c (.int .i64 4))⟩]
abbrev x18r26 : List XOper := [
⟨some 111, none, .mv (.t 0)⟩,
⟨some 112, none, .mv (.t 15)⟩,
⟨some 113, none, .call (.c (.fn (.func 44) [] [])) [(.t 111), (.t 6), (.t 112)]⟩,
⟨some 16, none, .mv (.t 113)⟩]
abbrev x18r27 : List XOper := [
⟨some 114, none, .mv (.t 16)⟩,
⟨some 115, none, .eqN true 1 (.t 114)⟩]
abbrev x18r28 : List XOper := [
⟨some 116, none, .load true 14 (.t 6)⟩,
⟨some 117, none, .mv (.t 16)⟩,
⟨none, none, .store 14 (.t 4) (.t 116)⟩,
⟨some 5, none, .mv (.t 117)⟩]
abbrev x18l25 : XCode :=
(.seq (.seq (.reg 25 x18r25 none)
(.cond (.t 110)
.skip
(.exit 1)))
(.block 2
(.seq (.reg 26 x18r26 none)
(.seq (.reg 27 x18r27 none)
(.cond (.t 115)
(.seq (.reg 28 x18r28 none)
.ret)
.skip)))))
abbrev x18r29 : List XOper := [
⟨some 118, none, .load true 14 (.t 6)⟩,
⟨some 119, none, .mv (.t 15)⟩,
⟨some 120, none, .call (.c (.fn (.func 45) [] [])) [(.t 118), (.t 119)]⟩,
⟨some 17, none, .mv (.t 120)⟩]
abbrev x18r30 : List XOper := [
⟨some 121, none, .mv (.t 17)⟩,
⟨some 122, none, .bin .neq (.t 121) (.c (.int .i64 0))⟩]
abbrev x18r31 : List XOper := [
⟨some 123, none, .load true 14 (.t 6)⟩,
⟨some 124, none, .mv (.t 0)⟩,
⟨some 125, none, .mv (.t 17)⟩,
⟨some 126, none, .call (.c (.fn (.func 39) [] [])) [(.t 124), (.t 125)]⟩,
⟨none, none, .store 14 (.t 4) (.t 123)⟩,
⟨some 5, none, .mv (.t 126)⟩]
abbrev x18r32 : List XOper := [
⟨some 127, none, .mv (.t 0)⟩,
⟨some 128, none, .nilChk (.t 127)⟩,
⟨some 129, none, .fa 1 (.t 128)⟩,
⟨some 130, none, .load false 1 (.t 129)⟩,
⟨some 131, none, .bin .add (.t 130) (.c (.int .i64 1))⟩,
⟨some 132, none, .nilChk (.t 127)⟩,
⟨some 133, none, .fa 1 (.t 132)⟩,
⟨none, none, .store 1 (.t 133) (.t 131)⟩]
abbrev x18r33 : List XOper := [
⟨some 134, none, .load true 14 (.t 6)⟩,
⟨none, none, .store 14 (.t 4) (.t 134)⟩,
⟨some 5, none, .mv (.c .nili)⟩]
/-- (*datum/recipe.reader).channel -/
abbrev x18b : XCode :=
(.seq (.reg 0 x18r0 none)
(.seq (.reg 1 x18r1 none)
(.seq (.seq (.reg 2 x18r2 none)
(.block 0
(.seq (.reg 3 x18r3 none)
(.cond (.t 20)
(.seq (.reg 4 x18r4 (some ⟨[(0, 2)]⟩))
.ret)
(.seq (.reg 5 x18r5 none)
(.cond (.t 32)
(.seq (.reg 6 x18r6 (some ⟨[(0, 2)]⟩))
.ret)
.skip))))))
(.seq (.reg 7 x18r7 none)
(.seq (.reg 8 x18r8 none)
(.seq (.seq (.reg 9 x18r9 none)
(.cond (.t 55)
(.seq (.reg 10 x18r10 (some ⟨[(0, 2)]⟩))
.ret)
.skip))
(.seq (.seq (.reg 11 x18r11 none)
(.seq (.reg 12 x18r12 none)
(.cond (.t 65)
(.seq (.reg 13 x18r13 none)
.ret)
.skip)))
(.seq (.reg 14 x18r14 none)
(.seq (.reg 15 x18r15 none)
(.seq (.reg 16 x18r16 none)
(.seq (.seq (.reg 17 x18r17 (some ⟨[(0, 2)]⟩))
(.seq (.reg 18 x18r18 none)
(.cond (.t 86)
(.seq (.reg 19 x18r19 (some ⟨[(0, 2)]⟩))
.ret)
.skip)))
(.seq (.reg 20 x18r20 none)
(.seq (.seq (.reg 21 x18r21 none)
(.seq (.reg 22 x18r22 none)
(.cond (.t 103)
(.seq (.reg 23 x18r23 none)
.ret)
.skip)))
(.seq (.reg 24 x18r24 none)
(.seq (.block 1
(.loop x18l25))
(.seq (.seq (.reg 29 x18r29 none)
(.seq (.reg 30 x18r30 none)
(.cond (.t 122)
(.seq (.reg 31 x18r31 (some ⟨[(0, 3)]⟩))
.ret)
.skip)))
(.seq (.reg 32 x18r32 none)
(.seq (.reg 33 x18r33 none)
.ret))))))))))))))))))
def x18 : XFunc := ⟨135, 2, [.cell 4 true 14, .tmp 5], x18b⟩
theorem x18_ok : chkF Tryz.prog Tryz.f18 x18 = true := by kernel_rfl
theorem x18_eq : x18.body = x18b ∧ x18.res = [.cell 4 true 14, .tmp 5] ∧ x18.np = 2 := ⟨rfl, rfl, rfl⟩

abbrev x20r0 : List XOper := [
⟨some 2, none, .mv (.c .nils)⟩,
⟨some 3, none, .mv (.c (.int .i64 0))⟩,
⟨some 4, none, .mv (.c (.int .i64 0))⟩]
abbrev x20r1 : List XOper := [
⟨some 11, none, .mv (.t 0)⟩,
⟨some 12, none, .lenS (.t 11)⟩,
⟨some 13, none, .bin .gtr (.t 12) (.c (.int .i64 4000))⟩]
abbrev x20r2 : List XOper := [
⟨some 2, none, .mv (.c .nils)⟩,
⟨some 3, none, .mv (.c (.int .i64 0))⟩,
⟨some 4, none, .mv (.c (.int .i64 2))⟩]
abbrev x20r3 : List XOper := [
⟨some 14, none, .mkslice 4 (.agg [(.int .i64 0), (.str ⟨#[]⟩), (.int .i64 0), (.int .i64 0)]) 0 []⟩,
⟨some 5, none, .mv (.t 14)⟩]
abbrev x20r4 : List XOper := [
⟨some 6, none, .mv (.c (.int .i64 0))⟩]
abbrev x20r5 : List XOper := [
⟨some 15, none, .mv (.t 6)⟩,
⟨some 16, none, .mv (.t 0)⟩,
⟨some 17, none, .lenS (.t 16)⟩,
⟨some 18, none, .bin .lss (.t 15) (.t 17)⟩]
abbrev x20r6 : List XOper := [
⟨some 19, none, .mv (.t 0)⟩,
⟨some 20, none, .mv (.t 6)⟩,
⟨some 21, none, .call (.c (.fn (.func 50) [] [])) [(.t 19), (.t 20)]⟩,
⟨some 7, none, .mv (.t 21)⟩]
abbrev x20r7 : List XOper := [
⟨some 22, none, .mv (.t 7)⟩,
⟨some 23, none, .bin .gtr (.t 22) (.c (.int .i64 0))⟩]
abbrev x20r8 : List XOper := [
⟨some 24, none, .mv (.t 6)⟩,
⟨some 25, none, .mv (.t 7)⟩,
⟨some 26, none, .bin .add (.t 24) (.t 25)⟩,
⟨some 6, none, .mv (.t 26)⟩]
abbrev x20r9 : List XOper := [
⟨some 28, none, .mv (.t 0)⟩,
⟨some 29, none, .mv (.t 6)⟩,
⟨some 30, none, .call (.c (.fn (.func 51) [] [])) [(.t 28), (.t 29)]⟩,
⟨some 27, none, .mv (.t 30)⟩,
⟨some 31, none, .ext (.t 27) 0⟩,
⟨some 32, none, .ext (.t 27) 1⟩,
⟨some 33, none, .ext (.t 27) 2⟩,
⟨some 8, none, .alloc [(.int .i64 0), (.str ⟨#[]⟩), (.int .i64 0), (.int .i64 0)]⟩,
⟨none, none, .store 4 (.t 8) (.t 31)⟩,
⟨some 9, none, .mv (.t 32)⟩,
⟨some 10, none, .mv (.t 33)⟩]
abbrev x20r10 : List XOper := [
⟨some 34, none, .mv (.t 10)⟩,
⟨some 35, none, .bin .neq (.t 34) (.c (.int .i64 0))⟩]
abbrev x20r11 : List XOper := [
⟨some 36, none, .mv (.t 6)⟩,
⟨some 37, none, .mv (.t 10)⟩,
⟨some 2, none, .mv (.c .nils)⟩,
⟨some 3, none, .mv (.t 36)⟩,
⟨some 4, none, .mv (.t 37)⟩]
abbrev x20r12 : List XOper := [
⟨some 38, none, .mv (.t 5)⟩,
⟨some 39, none, .load true 4 (.t 8)⟩,
⟨some 40, none, .mkslice 4 (.agg [(.int .i64 0), (.str ⟨#[]⟩), (.int .i64 0), (.int .i64 0)]) 1 [(0, (.t 39))]⟩,
⟨some 41, none, .app 4 40 (.t 38) (.t 40)⟩,
⟨some 5, none, .mv (.t 41)⟩]
abbrev x20r13 : List XOper := [
⟨some 42, none, .mv (.t 6)⟩,
⟨some 43, none, .mv (.t 9)⟩,
⟨some 44, none, .bin .add (.t 42) (.t 43)⟩,
⟨some 6, none, .mv (.t 44)⟩]
abbrev x20l5 : XCode :=
(.seq (.seq (.reg 5 x20r5 none)
(.cond (.t 18)
.skip
(.exit 0)))
(.block 1
(.seq (.reg 6 x20r6 none)
(.seq (.seq (.reg 7 x20r7 none)
(.cond (.t 23)
(.seq (.reg 8 x20r8 none)
(.exit 1))
.skip))
(.seq (.reg 9 x20r9 none)
(.seq (.seq (.reg 10 x20r10 none)
(.cond (.t 35)
(.seq (.reg 11 x20r11 none)
.ret)
.skip))
(.seq (.reg 12 x20r12 none)
(.reg 13 x20r13 none))))))))
abbrev x20r14 : List XOper := [
⟨some 45, none, .mv (.t 5)⟩,
⟨some 2, none, .mv (.t 45)⟩,
⟨some 3, none, .mv (.c (.int .i64 0))⟩,
⟨some 4, none, .mv (.c (.int .i64 0))⟩]
/-- datum/datumref07.Scan -/
abbrev x20b : XCode :=
(.seq (.reg 0 x20r0 none)
(.seq (.seq (.reg 1 x20r1 none)
(.cond (.t 13)
(.seq (.reg 2 x20r2 none)
.ret)
.skip))
(.seq (.reg 3 x20r3 none)
(.seq (.reg 4 x20r4 none)
(.seq (.block 0
(.loop x20l5))
(.seq (.reg 14 x20r14 none)
.ret))))))
def x20 : XFunc := ⟨46, 1, [.tmp 2, .tmp 3, .tmp 4], x20b⟩
theorem x20_ok : chkF Tryz.prog Tryz.f20 x20 = true := by kernel_rfl
theorem x20_eq : x20.body = x20b ∧ x20.res = [.tmp 2, .tmp 3, .tmp 4] ∧ x20.np = 1 := ⟨rfl, rfl, rfl⟩

abbrev x21r0 : List XOper := [
⟨some 6, none, .alloc [(.str ⟨#[]⟩), (.int .i64 0), (.int .i64 0), (.int .i64 0), (.int .i64 0), (.int .i64 0), (.int .i64 0), (.int .i64 0), (.int .i64 0), (.int .i64 0), (.int .i64 0), (.int .i64 0), (.int .i64 0), (.int .i64 0)]⟩,
⟨some 7, none, .mv (.c (.int .i64 0))⟩,
⟨some 8, none, .mv (.c (.int .i64 0))⟩]
abbrev x21r1 : List XOper := [
⟨some 13, none, .build [(.str ⟨#[]⟩), (.int .i64 0), (.int .i64 0), (.int .i64 0), (.int .i64 0), (.int .i64 0), (.int .i64 0), (.int .i64 0), (.int .i64 0), (.int .i64 0), (.int .i64 0), (.int .i64 0), (.int .i64 0), (.int .i64 0)] []⟩,
⟨some 9, none, .alloc [(.str ⟨#[]⟩), (.int .i64 0), (.int .i64 0), (.int .i64 0), (.int .i64 0), (.int .i64 0), (.int .i64 0), (.int .i64 0), (.int .i64 0), (.int .i64 0), (.int .i64 0), (.int .i64 0), (.int .i64 0), (.int .i64 0)]⟩,
⟨none, none, .store 14 (.t 9) (.t 13)⟩]
abbrev x21r2 : List XOper := [
⟨some 14, none, .mv (.t 0)⟩,
⟨some 15, none, .mv (.t 1)⟩,
⟨some 16, none, .call (.c (.fn (.func 53) [] [])) [(.t 14), (.t 15)]⟩,
⟨some 17, none, .call (.c (.fn (.func 52) [] [])) [(.t 16)]⟩,
⟨some 18, none, .bin .neq (.t 17) (.c (.str ⟨#[99, 104, 97, 110, 110, 101, 108]⟩))⟩]
abbrev x21r3 : List XOper := [
⟨some 19, none, .load true 14 (.t 9)⟩,
⟨some 20, none, .mv (.t 1)⟩,
⟨none, none, .store 14 (.t 6) (.t 19)⟩,
⟨some 7, none, .mv (.t 20)⟩,
⟨some 8, none, .mv (.c (.int .i64 8))⟩]
abbrev x21r4 : List XOper := [
⟨some 21, none, .mv (.t 2)⟩,
⟨some 22, none, .lenV (.t 21)⟩,
⟨some 23, none, .bin .eql (.t 22) (.c (.int .i64 4))⟩]
abbrev x21r5 : List XOper := [
⟨some 24, none, .load true 14 (.t 9)⟩,
⟨some 25, none, .mv (.t 1)⟩,
⟨none, none, .store 14 (.t 6) (.t 24)⟩,
⟨some 7, none, .mv (.t 25)⟩,
⟨some 8, none, .mv (.c (.int .i64 2))⟩]
abbrev x21r6 : List XOper := [
⟨some 26, none, .mv (.t 0)⟩,
⟨some 27, none, .mv (.t 1)⟩,
⟨some 28, none, .bin .add (.t 27) (.c (.int .i64 1))⟩,
⟨some 29, none, .call (.c (.fn (.func 53) [] [])) [(.t 26), (.t 28)]⟩,
⟨some 30, none, .fld false 1 0 (.t 29)⟩,
⟨some 31, none, .bin .neq (.t 30) (.c (.int .i64 1))⟩]
abbrev x21r7 : List XOper := [
⟨some 32, none, .load true 14 (.t 9)⟩,
⟨some 33, none, .mv (.t 1)⟩,
⟨some 34, none, .bin .add (.t 33) (.c (.int .i64 1))⟩,
⟨none, none, .store 14 (.t 6) (.t 32)⟩,
⟨some 7, none, .mv (.t 34)⟩,
⟨some 8, none, .mv (.c (.int .i64 8))⟩]
abbrev x21r8 : List XOper := [
⟨some 35, none, .mv (.t 0)⟩,
⟨some 36, none, .mv (.t 1)⟩,
⟨some 37, none, .bin .add (.t 36) (.c (.int .i64 1))⟩,
⟨some 38, none, .call (.c (.fn (.func 53) [] [])) [(.t 35), (.t 37)]⟩,
⟨some 39, none, .fld false 1 1 (.t 38)⟩,
⟨some 40, none, .fa 0 (.t 9)⟩,
⟨none, none, .store 1 (.t 40) (.t 39)⟩]
abbrev x21r9 : List XOper := [
⟨some 41, none, .mv (.t 2)⟩,
⟨some 42, none, .lenV (.t 41)⟩,
⟨some 43, none, .mv (.c (.int .i64 0))⟩]
abbrev x21r10 : List XOper := [
⟨some 44, none, .bin .lss (.t 43) (.t 42)⟩]
abbrev x21r11 : List XOper := [
⟨some 45, none, .iaS 14 (.t 41) (.t 43)⟩,
⟨some 46, none, .load true 14 (.t 45)⟩,
⟨some 11, none, .alloc [(.str ⟨#[]⟩), (.int .i64 0), (.int .i64 0), (.int .i64 0), (.int .i64 0), (.int .i64 0), (.int .i64 0), (.int .i64 0), (.int .i64 0), (.int .i64 0), (.int .i64 0), (.int .i64 0), (.int .i64 0), (.int .i64 0)]⟩,
⟨none, none, .store 14 (.t 11) (.t 46)⟩]
abbrev x21r12 : List XOper := [
⟨some 47, none, .fa 0 (.t 11)⟩,
⟨some 48, none, .load false 1 (.t 47)⟩,
⟨some 49, none, .fa 0 (.t 9)⟩,
⟨some 50, none, .load false 1 (.t 49)⟩,
⟨some 51, none, .bin .eql (.t 48) (.t 50)⟩]
abbrev x21r13 : List XOper := [
⟨some 52, none, .load true 14 (.t 9)⟩,
⟨some 53, none, .mv (.t 1)⟩,
⟨some 54, none, .bin .add (.t 53) (.c (.int .i64 1))⟩,
⟨none, none, .store 14 (.t 6) (.t 52)⟩,
⟨some 7, none, .mv (.t 54)⟩,
⟨some 8, none, .mv (.c (.int .i64 9))⟩]
abbrev x21r14 : List XOper := [
⟨some 55, none, .bin .add (.t 43) (.c (.int .i64 1))⟩,
⟨some 43, none, .mv (.t 55)⟩]
abbrev x21l10 : XCode :=
(.seq (.reg 10 x21r10 none)
(.seq (.cond (.t 44)
.skip
(.exit 0))
(.seq (.block 1
(.seq (.reg 11 x21r11 none)
(.seq (.reg 12 x21r12 none)
(.cond (.t 51)
(.seq (.reg 13 x21r13 none)
.ret)
.skip))))
(.reg 14 x21r14 none))))
abbrev x21r15 : List XOper := [
⟨some 56, none, .call (.c (.fn (.func 31) [] [])) []⟩,
⟨some 57, none, .mv (.t 0)⟩,
⟨some 58, none, .mv (.t 1)⟩,
⟨some 59, none, .bin .add (.t 58) (.c (.int .i64 2))⟩,
⟨some 60, none, .call (.c (.fn (.func 53) [] [])) [(.t 57), (.t 59)]⟩,
⟨some 61, none, .call (.c (.fn (.func 52) [] [])) [(.t 60)]⟩,
⟨some 62, none, .call (.c (.fn (.func 54) [] [])) [(.t 56), (.t 61)]⟩,
⟨some 12, none, .mv (.t 62)⟩]
abbrev x21r16 : List XOper := [
⟨some 63, none, .mv (.t 12)⟩,
⟨some 64, none, .bin .lss (.t 63) (.c (.int .i64 0))⟩]
abbrev x21r17 : List XOper := [
⟨some 65, none, .load true 14 (.t 9)⟩,
⟨some 66, none, .mv (.t 1)⟩,
⟨some 67, none, .bin .add (.t 66) (.c (.int .i64 2))⟩,
⟨none, none, .store 14 (.t 6) (.t 65)⟩,
⟨some 7, none, .mv (.t 67)⟩,
⟨some 8, none, .mv (.c (.int .i64 8))⟩]
abbrev x21r18 : List XOper := [
⟨some 68, none, .mv (.t 12)⟩,
⟨some 69, none, .fa 1 (.t 9)⟩,
⟨none, none, .store 1 (.t 69) (.t 68)⟩]
abbrev x21r19 : List XOper := [
⟨some 70, none, .mv (.t 0)⟩,
⟨some 71, none, .mv (.t 1)⟩,
⟨some 72, none, .bin .add (.t 71) (.c (.int .i64 3))⟩,
⟨some 73, none, .call (.c (.fn (.func 53) [] [])) [(.t 70), (.t 72)]⟩,
⟨some 74, none, .fld false 1 0 (.t 73)⟩,
⟨some 75, none, .bin .neq (.t 74) (.c (.int .i64 3))⟩]
abbrev x21r20 : List XOper := [
⟨some 76, none, .load true 14 (.t 9)⟩,
⟨some 77, none, .mv (.t 1)⟩,
⟨some 78, none, .bin .add (.t 77) (.c (.int .i64 3))⟩,
⟨none, none, .store 14 (.t 6) (.t 76)⟩,
⟨some 7, none, .mv (.t 78)⟩,
⟨some 8, none, .mv (.c (.int .i64 8))⟩]
abbrev x21r21 : List XOper := [
⟨some 79, none, .mv (.t 0)⟩,
⟨some 80, none, .mv (.t 1)⟩,
⟨some 81, none, .bin .add (.t 80) (.c (.int .i64 4))⟩,
⟨some 82, none, .load true 14 (.t 9)⟩,
⟨some 83, none, .call (.c (.fn (.func 55) [] [])) [(.t 79), (.t 81), (.t 82)]⟩,
⟨some 84, none, .ext (.t 83) 0⟩,
⟨some 85, none, .ext (.t 83) 1⟩,
⟨some 86, none, .ext (.t 83) 2⟩,
⟨none, none, .store 14 (.t 6) (.t 84)⟩,
⟨some 7, none, .mv (.t 85)⟩,
⟨some 8, none, .mv (.t 86)⟩]
/-- datum/datumref08.channel -/
abbrev x21b : XCode :=
(.seq (.reg 0 x21r0 none)
(.seq (.reg 1 x21r1 none)
(.seq (.seq (.reg 2 x21r2 none)
(.cond (.t 18)
(.seq (.reg 3 x21r3 none)
.ret)
.skip))
(.seq (.seq (.reg 4 x21r4 none)
(.cond (.t 23)
(.seq (.reg 5 x21r5 none)
.ret)
.skip))
(.seq (.seq (.reg 6 x21r6 none)
(.cond (.t 31)
(.seq (.reg 7 x21r7 none)
.ret)
.skip))
(.seq (.reg 8 x21r8 none)
(.seq (.seq (.reg 9 x21r9 none)
(.block 0
(.loop x21l10)))
(.seq (.reg 15 x21r15 none)
(.seq (.seq (.reg 16 x21r16 none)
(.cond (.t 64)
(.seq (.reg 17 x21r17 none)
.ret)
.skip))
(.seq (.reg 18 x21r18 none)
(.seq (.seq (.reg 19 x21r19 none)
(.cond (.t 75)
(.seq (.reg 20 x21r20 none)
.ret)
.skip))
(.seq (.reg 21 x21r21 none)
.ret))))))))))))
def x21 : XFunc := ⟨87, 3, [.cell 6 true 14, .tmp 7, .tmp 8], x21b⟩
theorem x21_ok : chkF Tryz.prog Tryz.f21 x21 = true := by kernel_rfl
theorem x21_eq : x21.body = x21b ∧ x21.res = [.cell 6 true 14, .tmp 7, .tmp 8] ∧ x21.np = 3 := ⟨rfl, rfl, rfl⟩

abbrev x23r0 : List XOper := [
⟨some 0, none, .alloc [(.str ⟨#[]⟩), (.str ⟨#[]⟩), (.str ⟨#[]⟩), (.str ⟨#[]⟩), (.str ⟨#[]⟩), (.str ⟨#[]⟩), (.str ⟨#[]⟩), (.str ⟨#[]⟩)]⟩]
abbrev x23r1 : List XOper := [
⟨some 1, none, .build [(.str ⟨#[]⟩), (.str ⟨#[]⟩), (.str ⟨#[]⟩), (.str ⟨#[]⟩), (.str ⟨#[]⟩), (.str ⟨#[]⟩), (.str ⟨#[]⟩), (.str ⟨#[]⟩)] [(0, 1, (.c (.str ⟨#[120, 98, 97, 114]⟩))), (1, 1, (.c (.str ⟨#[115, 105, 110, 103, 108, 101]⟩))), (2, 1, (.c (.str ⟨#[112]⟩))), (3, 1, (.c (.str ⟨#[110, 112]⟩))), (4, 1, (.c (.str ⟨#[99]⟩))), (5, 1, (.c (.str ⟨#[117]⟩))), (6, 1, (.c (.str ⟨#[99, 117, 115, 117, 109]⟩))), (7, 1, (.c (.str ⟨#[101, 119, 109, 97]⟩)))]⟩,
⟨none, none, .store 8 (.t 0) (.t 1)⟩]
/-- datum/recipe.chartWords -/
abbrev x23b : XCode :=
(.seq (.reg 0 x23r0 none)
(.seq (.reg 1 x23r1 none)
.ret))
def x23 : XFunc := ⟨2, 0, [.cell 0 true 8], x23b⟩
theorem x23_ok : chkF Tryz.prog Tryz.f23 x23 = true := by kernel_rfl
theorem x23_eq : x23.body = x23b ∧ x23.res = [.cell 0 true 8] ∧ x23.np = 0 := ⟨rfl, rfl, rfl⟩

abbrev x24r0 : List XOper := [
⟨some 2, none, .mv (.c .nils)⟩]
abbrev x24r1 : List XOper := [
⟨some 3, none, .mv (.t 0)⟩,
⟨some 4, none, .nilChk (.t 3)⟩,
⟨some 5, none, .fa 2 (.t 4)⟩,
⟨some 6, none, .mv (.t 0)⟩,
⟨some 7, none, .nilChk (.t 6)⟩,
⟨some 8, none, .fa 3 (.t 7)⟩,
⟨some 9, none, .mv (.t 0)⟩,
⟨some 10, none, .nilChk (.t 9)⟩,
⟨some 11, none, .fa 4 (.t 10)⟩,
⟨some 12, none, .mv (.t 0)⟩,
⟨some 13, none, .nilChk (.t 12)⟩,
⟨some 14, none, .fa 5 (.t 13)⟩,
⟨some 15, none, .mv (.t 0)⟩,
⟨some 16, none, .nilChk (.t 15)⟩,
⟨some 17, none, .fa 6 (.t 16)⟩,
⟨some 18, none, .mv (.t 0)⟩,
⟨some 19, none, .nilChk (.t 18)⟩,
⟨some 20, none, .fa 7 (.t 19)⟩,
⟨some 21, none, .mv (.t 0)⟩,
⟨some 22, none, .nilChk (.t 21)⟩,
⟨some 23, none, .fa 8 (.t 22)⟩,
⟨some 24, none, .mv (.t 0)⟩,
⟨some 25, none, .nilChk (.t 24)⟩,
⟨some 26, none, .fa 9 (.t 25)⟩,
⟨some 27, none, .mv (.t 0)⟩,
⟨some 28, none, .nilChk (.t 27)⟩,
⟨some 29, none, .fa 10 (.t 28)⟩,
⟨some 30, none, .mv (.t 0)⟩,
⟨some 31, none, .nilChk (.t 30)⟩,
⟨some 32, none, .fa 11 (.t 31)⟩,
⟨some 33, none, .mv (.t 0)⟩,
⟨some 34, none, .nilChk (.t 33)⟩,
⟨some 35, none, .fa 12 (.t 34)⟩,
⟨some 36, none, .mv (.t 0)⟩,
⟨some 37, none, .nilChk (.t 36)⟩,
⟨some 38, none, .fa 13 (.t 37)⟩,
⟨some 39, none, .mkslice 1 .nilp 12 [(0, (.t 5)), (1, (.t 8)), (2, (.t 11)), (3, (.t 14)), (4, (.t 17)), (5, (.t 20)), (6, (.t 23)), (7, (.t 26)), (8, (.t 29)), (9, (.t 32)), (10, (.t 35)), (11, (.t 38))]⟩,
⟨some 2, none, .mv (.t 39)⟩]
/-- datum/recipe.fields -/
abbrev x24b : XCode :=
(.seq (.reg 0 x24r0 none)
(.seq (.reg 1 x24r1 (some ⟨[]⟩))
.ret))
def x24 : XFunc := ⟨40, 1, [.tmp 2], x24b⟩
theorem x24_ok : chkF Tryz.prog Tryz.f24 x24 = true := by kernel_rfl
theorem x24_eq : x24.body = x24b ∧ x24.res = [.tmp 2] ∧ x24.np = 1 := ⟨rfl, rfl, rfl⟩

abbrev x25r0 : List XOper := [
⟨some 0, none, .mv (.c .nils)⟩]
abbrev x25r1 : List XOper := [
⟨some 1, none, .mv (.c (.int .i64 195))⟩]
abbrev x25r2 : List XOper := [
⟨some 2, none, .build [(.str ⟨#[]⟩), (.int .i64 0), (.int .i64 0), (.int .i64 0)] [(0, 1, (.c (.str ⟨#[115, 105, 122, 101]⟩))), (1, 1, (.c (.int .i64 1))), (2, 1, (.c (.int .i64 1000))), (3, 1, (.c (.int .i64 45)))]⟩,
⟨some 3, none, .mv (.t 1)⟩,
⟨some 4, none, .build [(.str ⟨#[]⟩), (.int .i64 0), (.int .i64 0), (.int .i64 0)] [(0, 1, (.c (.str ⟨#[108, 111, 119]⟩))), (1, 1, (.c (.int .i64 (-1000000)))), (2, 1, (.c (.int .i64 1000000))), (3, 1, (.t 3))]⟩,
⟨some 5, none, .mv (.t 1)⟩,
⟨some 6, none, .build [(.str ⟨#[]⟩), (.int .i64 0), (.int .i64 0), (.int .i64 0)] [(0, 1, (.c (.str ⟨#[104, 105, 103, 104]⟩))), (1, 1, (.c (.int .i64 (-1000000)))), (2, 1, (.c (.int .i64 1000000))), (3, 1, (.t 5))]⟩,
⟨some 7, none, .build [(.str ⟨#[]⟩), (.int .i64 0), (.int .i64 0), (.int .i64 0)] [(0, 1, (.c (.str ⟨#[98, 97, 115, 101]⟩))), (1, 1, (.c (.int .i64 2))), (2, 1, (.c (.int .i64 25))), (3, 1, (.c (.int .i64 63)))]⟩,
⟨some 8, none, .build [(.str ⟨#[]⟩), (.int .i64 0), (.int .i64 0), (.int .i64 0)] [(0, 1, (.c (.str ⟨#[99, 97, 112]⟩))), (1, 1, (.c (.int .i64 1))), (2, 1, (.c (.int .i64 1000000000))), (3, 1, (.c (.int .i64 255)))]⟩,
⟨some 9, none, .build [(.str ⟨#[]⟩), (.int .i64 0), (.int .i64 0), (.int .i64 0)] [(0, 1, (.c (.str ⟨#[116, 97, 114, 103, 101, 116]⟩))), (1, 1, (.c (.int .i64 (-1000000)))), (2, 1, (.c (.int .i64 1000000))), (3, 1, (.c (.int .i64 192)))]⟩,
⟨some 10, none, .build [(.str ⟨#[]⟩), (.int .i64 0), (.int .i64 0), (.int .i64 0)] [(0, 1, (.c (.str ⟨#[115, 116, 101, 112]⟩))), (1, 1, (.c (.int .i64 0))), (2, 1, (.c (.int .i64 1000000))), (3, 1, (.c (.int .i64 64)))]⟩,
⟨some 11, none, .build [(.str ⟨#[]⟩), (.int .i64 0), (.int .i64 0), (.int .i64 0)] [(0, 1, (.c (.str ⟨#[98, 111, 117, 110, 100]⟩))), (1, 1, (.c (.int .i64 1))), (2, 1, (.c (.int .i64 1000000000))), (3, 1, (.c (.int .i64 64)))]⟩,
⟨some 12, none, .build [(.str ⟨#[]⟩), (.int .i64 0), (.int .i64 0), (.int .i64 0)] [(0, 1, (.c (.str ⟨#[119, 101, 105, 103, 104, 116]⟩))), (1, 1, (.c (.int .i64 1))), (2, 1, (.c (.int .i64 99))), (3, 1, (.c (.int .i64 128)))]⟩,
⟨some 13, none, .build [(.str ⟨#[]⟩), (.int .i64 0), (.int .i64 0), (.int .i64 0)] [(0, 1, (.c (.str ⟨#[115, 105, 103, 109, 97]⟩))), (1, 1, (.c (.int .i64 1))), (2, 1, (.c (.int .i64 1000000))), (3, 1, (.c (.int .i64 128)))]⟩,
⟨some 14, none, .build [(.str ⟨#[]⟩), (.int .i64 0), (.int .i64 0), (.int .i64 0)] [(0, 1, (.c (.str ⟨#[108, 111, 119, 101, 114]⟩))), (1, 1, (.c (.int .i64 (-1000000)))), (2, 1, (.c (.int .i64 1000000))), (3, 1, (.c (.int .i64 0)))]⟩,
⟨some 15, none, .build [(.str ⟨#[]⟩), (.int .i64 0), (.int .i64 0), (.int .i64 0)] [(0, 1, (.c (.str ⟨#[117, 112, 112, 101, 114]⟩))), (1, 1, (.c (.int .i64 (-1000000)))), (2, 1, (.c (.int .i64 1000000))), (3, 1, (.c (.int .i64 0)))]⟩,
⟨some 16, none, .mkslice 4 (.agg [(.str ⟨#[]⟩), (.int .i64 0), (.int .i64 0), (.int .i64 0)]) 12 [(0, (.t 2)), (1, (.t 4)), (2, (.t 6)), (3, (.t 7)), (4, (.t 8)), (5, (.t 9)), (6, (.t 10)), (7, (.t 11)), (8, (.t 12)), (9, (.t 13)), (10, (.t 14)), (11, (.t 15))]⟩,
⟨some 0, none, .mv (.t 16)⟩]
/-- datum/recipe.bounds -/
abbrev x25b : XCode :=
(.seq (.reg 0 x25r0 none)
(.seq (.reg 1 x25r1 none)
(.seq (.reg 2 x25r2 none)
.ret)))
def x25 : XFunc := ⟨17, 0, [.tmp 0], x25b⟩
theorem x25_ok : chkF Tryz.prog Tryz.f25 x25 = true := by kernel_rfl
theorem x25_eq : x25.body = x25b ∧ x25.res = [.tmp 0] ∧ x25.np = 0 := ⟨rfl, rfl, rfl⟩

abbrev x26r0 : List XOper := [
⟨some 2, none, .box (.t 0)⟩,
⟨some 4, none, .mv (.c (.bool false))⟩]
abbrev x26r1 : List XOper := [
⟨some 5, none, .fa 3 (.t 2)⟩,
⟨some 6, none, .load false 1 (.t 5)⟩,
⟨some 7, none, .mv (.t 1)⟩,
⟨some 8, none, .bin .shr (.t 6) (.t 7)⟩,
⟨some 9, none, .bin .and (.t 8) (.c (.int .i64 1))⟩,
⟨some 10, none, .bin .eql (.t 9) (.c (.int .i64 1))⟩,
⟨some 4, none, .mv (.t 10)⟩]
/-- (datum/recipe.bound).needed -/
abbrev x26b : XCode :=
(.seq (.reg 0 x26r0 none)
(.seq (.reg 1 x26r1 none)
.ret))
def x26 : XFunc := ⟨11, 2, [.tmp 4], x26b⟩
theorem x26_ok : chkF Tryz.prog Tryz.f26 x26 = true := by kernel_rfl
theorem x26_eq : x26.body = x26b ∧ x26.res = [.tmp 4] ∧ x26.np = 2 := ⟨rfl, rfl, rfl⟩

abbrev x29r0 : List XOper := [
⟨some 1, none, .box (.t 0)⟩,
⟨some 2, none, .mv (.c (.bool false))⟩]
abbrev x29r1 : List XOper := [
⟨some 9, none, .fa 0 (.t 1)⟩,
⟨some 10, none, .load false 1 (.t 9)⟩,
⟨some 11, none, .build [(.int .i64 0), (.str ⟨#[]⟩), (.int .i64 0), (.int .i64 0)] [(0, 1, (.c (.int .i64 1))), (1, 1, (.t 10))]⟩,
⟨some 12, none, .call (.c (.fn (.func 58) [] [])) [(.t 11)]⟩,
⟨some 3, none, .mv (.t 12)⟩]
abbrev x29r2 : List XOper := [
⟨some 13, none, .mv (.t 3)⟩,
⟨some 14, none, .un .not (.t 13)⟩,
⟨some 15, none, .mv (.t 14)⟩,
⟨some 16, some (15, false), .fa 1 (.t 1)⟩,
⟨some 17, some (15, false), .load false 1 (.t 16)⟩,
⟨some 18, some (15, false), .bin .lss (.t 17) (.c (.int .i64 0))⟩,
⟨some 19, none, .pick (.t 15) (.c (.bool true)) (.t 18)⟩,
⟨some 20, none, .mv (.t 19)⟩,
⟨some 21, some (20, false), .fa 1 (.t 1)⟩,
⟨some 22, some (20, false), .load false 1 (.t 21)⟩,
⟨some 23, some (20, false), .bin .geq (.t 22) (.c (.int .i64 8))⟩,
⟨some 24, none, .pick (.t 20) (.c (.bool true)) (.t 23)⟩]
abbrev x29r3 : List XOper := [
⟨some 2, none, .mv (.c (.bool false))⟩]
abbrev x29r4 : List XOper := [
⟨some 25, none, .call (.c (.fn (.func 24) [] [])) [(.t 1)]⟩,
⟨some 4, none, .mv (.t 25)⟩]
abbrev x29r5 : List XOper := [
⟨some 26, none, .fa 12 (.t 1)⟩,
⟨some 27, none, .load false 1 (.t 26)⟩,
⟨some 28, none, .bin .eql (.t 27) (.c (.int .i64 0))⟩,
⟨some 29, none, .mv (.t 28)⟩,
⟨some 30, some (29, true), .fa 13 (.t 1)⟩,
⟨some 31, some (29, true), .load false 1 (.t 30)⟩,
⟨some 32, some (29, true), .bin .eql (.t 31) (.c (.int .i64 0))⟩,
⟨some 33, none, .pick (.t 29) (.t 32) (.c (.bool false))⟩,
⟨some 5, none, .mv (.t 33)⟩]
abbrev x29r6 : List XOper := [
⟨some 34, none, .call (.c (.fn (.func 25) [] [])) []⟩,
⟨some 35, none, .lenV (.t 34)⟩,
⟨some 36, none, .mv (.c (.int .i64 0))⟩]
abbrev x29r7 : List XOper := [
⟨some 37, none, .bin .lss (.t 36) (.t 35)⟩]
abbrev x29r8 : List XOper := [
⟨some 38, none, .mv (.t 36)⟩,
⟨some 39, none, .iaS 4 (.t 34) (.t 36)⟩,
⟨some 40, none, .load true 4 (.t 39)⟩,
⟨some 7, none, .alloc [(.str ⟨#[]⟩), (.int .i64 0), (.int .i64 0), (.int .i64 0)]⟩,
⟨some 6, none, .mv (.t 38)⟩,
⟨none, none, .store 4 (.t 7) (.t 40)⟩]
abbrev x29r9 : List XOper := [
⟨some 41, none, .load true 4 (.t 7)⟩,
⟨some 42, none, .fa 1 (.t 1)⟩,
⟨some 43, none, .load false 1 (.t 42)⟩,
⟨some 44, none, .call (.c (.fn (.func 26) [] [])) [(.t 41), (.t 43)]⟩,
⟨some 45, none, .mv (.t 44)⟩,
⟨some 46, some (45, false), .mv (.t 6)⟩,
⟨some 47, some (45, false), .bin .geq (.t 46) (.c (.int .i64 10))⟩,
⟨some 48, some (45, false), .mv (.t 47)⟩,
⟨some 49, some (48, true), .fa 1 (.t 1)⟩,
⟨some 50, some (48, true), .load false 1 (.t 49)⟩,
⟨some 51, some (48, true), .call (.c (.fn (.func 59) [] [])) [(.t 50)]⟩,
⟨some 52, some (45, false), .pick (.t 48) (.t 51) (.c (.bool false))⟩,
⟨some 53, some (45, false), .mv (.t 52)⟩,
⟨some 54, some (53, true), .mv (.t 5)⟩,
⟨some 55, some (53, true), .un .not (.t 54)⟩,
⟨some 56, some (45, false), .pick (.t 53) (.t 55) (.c (.bool false))⟩,
⟨some 57, none, .pick (.t 45) (.c (.bool true)) (.t 56)⟩,
⟨some 8, none, .mv (.t 57)⟩]
abbrev x29r10 : List XOper := [
⟨some 58, none, .mv (.t 8)⟩,
⟨some 59, none, .mv (.t 58)⟩,
⟨some 60, some (59, true), .load true 4 (.t 7)⟩,
⟨some 61, some (59, true), .fa 1 (.t 1)⟩,
⟨some 62, some (59, true), .load false 1 (.t 61)⟩,
⟨some 63, some (59, true), .mv (.t 4)⟩,
⟨some 64, some (59, true), .mv (.t 6)⟩,
⟨some 65, some (59, true), .iaS 1 (.t 63) (.t 64)⟩,
⟨some 66, some (59, true), .load false 1 (.t 65)⟩,
⟨some 67, some (59, true), .nilChk (.t 66)⟩,
⟨some 68, some (59, true), .load false 1 (.t 67)⟩,
⟨some 69, some (59, true), .call (.c (.fn (.func 60) [] [])) [(.t 60), (.t 62), (.t 68)]⟩,
⟨some 70, some (59, true), .un .not (.t 69)⟩,
⟨some 71, none, .pick (.t 59) (.t 70) (.c (.bool false))⟩,
⟨some 72, none, .mv (.t 71)⟩,
⟨some 73, some (72, false), .mv (.t 8)⟩,
⟨some 74, some (72, false), .un .not (.t 73)⟩,
⟨some 75, some (72, false), .mv (.t 74)⟩,
⟨some 76, some (75, true), .mv (.t 4)⟩,
⟨some 77, some (75, true), .mv (.t 6)⟩,
⟨some 78, some (75, true), .iaS 1 (.t 76) (.t 77)⟩,
⟨some 79, some (75, true), .load false 1 (.t 78)⟩,
⟨some 80, some (75, true), .nilChk (.t 79)⟩,
⟨some 81, some (75, true), .load false 1 (.t 80)⟩,
⟨some 82, some (75, true), .bin .neq (.t 81) (.c (.int .i64 0))⟩,
⟨some 83, some (72, false), .pick (.t 75) (.t 82) (.c (.bool false))⟩,
⟨some 84, none, .pick (.t 72) (.c (.bool true)) (.t 83)⟩]
abbrev x29r11 : List XOper := [
⟨some 2, none, .mv (.c (.bool false))⟩]
abbrev x29r12 : List XOper := [
⟨some 85, none, .bin .add (.t 36) (.c (.int .i64 1))⟩,
⟨some 36, none, .mv (.t 85)⟩]
abbrev x29l7 : XCode :=
(.seq (.reg 7 x29r7 none)
(.seq (.cond (.t 37)
.skip
(.exit 0))
(.seq (.block 1
(.seq (.reg 8 x29r8 none)
(.seq (.reg 9 x29r9 none)
(.seq (.reg 10 x29r10 (some ⟨[]⟩))
(.cond (.t 84)
(.seq (.reg 11 x29r11 none)
.ret)
.skip)))))
(.reg 12 x29r12 none))))
abbrev x29r13 : List XOper := [
⟨some 86, none, .fa 3 (.t 1)⟩,
⟨some 87, none, .load false 1 (.t 86)⟩,
⟨some 88, none, .fa 4 (.t 1)⟩,
⟨some 89, none, .load false 1 (.t 88)⟩,
⟨some 90, none, .bin .lss (.t 87) (.t 89)⟩,
⟨some 91, none, .mv (.t 90)⟩,
⟨some 92, some (91, false), .fa 3 (.t 1)⟩,
⟨some 93, some (91, false), .load false 1 (.t 92)⟩,
⟨some 94, some (91, false), .bin .eql (.t 93) (.c (.int .i64 0))⟩,
⟨some 95, some (91, false), .mv (.t 94)⟩,
⟨some 96, some (95, true), .fa 4 (.t 1)⟩,
⟨some 97, some (95, true), .load false 1 (.t 96)⟩,
⟨some 98, some (95, true), .bin .eql (.t 97) (.c (.int .i64 0))⟩,
⟨some 99, some (91, false), .pick (.t 95) (.t 98) (.c (.bool false))⟩,
⟨some 100, some (91, false), .mv (.t 99)⟩,
⟨some 101, some (100, true), .call (.c (.fn (.func 25) [] [])) []⟩,
⟨some 102, some (100, true), .iaS 4 (.t 101) (.c (.int .i64 1))⟩,
⟨some 103, some (100, true), .load true 4 (.t 102)⟩,
⟨some 104, some (100, true), .fa 1 (.t 1)⟩,
⟨some 105, some (100, true), .load false 1 (.t 104)⟩,
⟨some 106, some (100, true), .call (.c (.fn (.func 26) [] [])) [(.t 103), (.t 105)]⟩,
⟨some 107, some (100, true), .un .not (.t 106)⟩,
⟨some 108, some (91, false), .pick (.t 100) (.t 107) (.c (.bool false))⟩,
⟨some 109, none, .pick (.t 91) (.c (.bool true)) (.t 108)⟩,
⟨some 110, none, .mv (.t 109)⟩,
⟨some 111, some (110, true), .mv (.t 5)⟩,
⟨some 112, some (110, true), .mv (.t 111)⟩,
⟨some 113, some (112, false), .fa 12 (.t 1)⟩,
⟨some 114, some (112, false), .load false 1 (.t 113)⟩,
⟨some 115, some (112, false), .fa 13 (.t 1)⟩,
⟨some 116, some (112, false), .load false 1 (.t 115)⟩,
⟨some 117, some (112, false), .bin .lss (.t 114) (.t 116)⟩,
⟨some 118, some (110, true), .pick (.t 112) (.c (.bool true)) (.t 117)⟩,
⟨some 119, none, .pick (.t 110) (.t 118) (.c (.bool false))⟩,
⟨some 2, none, .mv (.t 119)⟩]
/-- datum/recipe.channel -/
abbrev x29b : XCode :=
(.seq (.reg 0 x29r0 none)
(.seq (.reg 1 x29r1 none)
(.seq (.seq (.reg 2 x29r2 none)
(.cond (.t 24)
(.seq (.reg 3 x29r3 none)
.ret)
.skip))
(.seq (.reg 4 x29r4 none)
(.seq (.reg 5 x29r5 none)
(.seq (.seq (.reg 6 x29r6 none)
(.block 0
(.loop x29l7)))
(.seq (.reg 13 x29r13 (some ⟨[(15, 19)]⟩))
.ret)))))))
def x29 : XFunc := ⟨120, 1, [.tmp 2], x29b⟩
theorem x29_ok : chkF Tryz.prog Tryz.f29 x29 = true := by kernel_rfl
theorem x29_eq : x29.body = x29b ∧ x29.res = [.tmp 2] ∧ x29.np = 1 := ⟨rfl, rfl, rfl⟩

abbrev x30r0 : List XOper := [
⟨some 1, none, .box (.t 0)⟩,
⟨some 2, none, .mv (.c (.bool false))⟩]
abbrev x30r1 : List XOper := [
⟨some 5, none, .fa 0 (.t 1)⟩,
⟨some 6, none, .load false 1 (.t 5)⟩,
⟨some 7, none, .call (.c (.fn (.func 61) [] [])) [(.t 6)]⟩,
⟨some 8, none, .un .not (.t 7)⟩,
⟨some 9, none, .mv (.t 8)⟩,
⟨some 10, some (9, false), .fa 1 (.t 1)⟩,
⟨some 11, some (9, false), .load false 1 (.t 10)⟩,
⟨some 12, some (9, false), .bin .lss (.t 11) (.c (.int .i64 0))⟩,
⟨some 13, none, .pick (.t 9) (.c (.bool true)) (.t 12)⟩,
⟨some 14, none, .mv (.t 13)⟩,
⟨some 15, some (14, false), .fa 1 (.t 1)⟩,
⟨some 16, some (14, false), .load false 1 (.t 15)⟩,
⟨some 17, some (14, false), .bin .gtr (.t 16) (.c (.int .i64 7))⟩,
⟨some 18, none, .pick (.t 14) (.c (.bool true)) (.t 17)⟩]
abbrev x30r2 : List XOper := [
⟨some 2, none, .mv (.c (.bool false))⟩]
abbrev x30r3 : List XOper := [
⟨some 3, none, .mv (.c (.int .i64 0))⟩]
abbrev x30r4 : List XOper := [
⟨some 19, none, .mv (.t 3)⟩,
⟨some 20, none, .bin .lss (.t 19) (.c (.int .i64 12))⟩]
abbrev x30r6 : List XOper := [
⟨some 23, none, .load true 14 (.t 1)⟩,
⟨some 24, none, .mv (.t 3)⟩,
⟨some 25, none, .call (.c (.fn (.func 35) [] [])) [(.t 23), (.t 24)]⟩,
⟨some 4, none, .mv (.t 25)⟩]
abbrev x30r7 : List XOper := [
⟨some 26, none, .fa 1 (.t 1)⟩,
⟨some 27, none, .load false 1 (.t 26)⟩,
⟨some 28, none, .mv (.t 3)⟩,
⟨some 29, none, .call (.c (.fn (.func 33) [] [])) [(.t 27), (.t 28)]⟩,
⟨some 30, none, .mv (.t 29)⟩,
⟨some 31, some (30, true), .fa 1 (.t 1)⟩,
⟨some 32, some (30, true), .load false 1 (.t 31)⟩,
⟨some 33, some (30, true), .mv (.t 3)⟩,
⟨some 34, some (30, true), .mv (.t 4)⟩,
⟨some 35, some (30, true), .call (.c (.fn (.func 62) [] [])) [(.t 32), (.t 33), (.t 34)]⟩,
⟨some 36, some (30, true), .un .not (.t 35)⟩,
⟨some 37, none, .pick (.t 30) (.t 36) (.c (.bool false))⟩,
⟨some 38, none, .mv (.t 37)⟩,
⟨some 39, some (38, false), .fa 1 (.t 1)⟩,
⟨some 40, some (38, false), .load false 1 (.t 39)⟩,
⟨some 41, some (38, false), .mv (.t 3)⟩,
⟨some 42, some (38, false), .call (.c (.fn (.func 63) [] [])) [(.t 40), (.t 41)]⟩,
⟨some 43, some (38, false), .un .not (.t 42)⟩,
⟨some 44, some (38, false), .mv (.t 43)⟩,
⟨some 45, some (44, true), .mv (.t 4)⟩,
⟨some 46, some (44, true), .bin .neq (.t 45) (.c (.int .i64 0))⟩,
⟨some 47, some (38, false), .pick (.t 44) (.t 46) (.c (.bool false))⟩,
⟨some 48, none, .pick (.t 38) (.c (.bool true)) (.t 47)⟩]
abbrev x30r8 : List XOper := [
⟨some 2, none, .mv (.c (.bool false))⟩]
abbrev x30r5 : List XOper := [
⟨some 21, none, .mv (.t 3)⟩,
⟨some 22, none, .bin .add (.t 21) (.c (.int .i64 1))⟩,
⟨some 3, none, .mv (.t 22)⟩]
abbrev x30l4 : XCode :=
(.seq (.seq (.reg 4 x30r4 none)
(.cond (.t 20)
.skip
(.exit 0)))
(.seq (.block 1
(.seq (.reg 6 x30r6 none)
(.seq (.reg 7 x30r7 none)
(.cond (.t 48)
(.seq (.reg 8 x30r8 none)
.ret)
.skip))))
(.reg 5 x30r5 none)))
abbrev x30r9 : List XOper := [
⟨some 49, none, .fa 1 (.t 1)⟩,
⟨some 50, none, .load false 1 (.t 49)⟩,
⟨some 51, none, .call (.c (.fn (.func 33) [] [])) [(.t 50), (.c (.int .i64 1))]⟩,
⟨some 52, none, .mv (.t 51)⟩,
⟨some 53, some (52, true), .fa 3 (.t 1)⟩,
⟨some 54, some (52, true), .load false 1 (.t 53)⟩,
⟨some 55, some (52, true), .fa 4 (.t 1)⟩,
⟨some 56, some (52, true), .load false 1 (.t 55)⟩,
⟨some 57, some (52, true), .bin .geq (.t 54) (.t 56)⟩,
⟨some 58, none, .pick (.t 52) (.t 57) (.c (.bool false))⟩]
abbrev x30r10 : List XOper := [
⟨some 2, none, .mv (.c (.bool false))⟩]
abbrev x30r11 : List XOper := [
⟨some 59, none, .fa 12 (.t 1)⟩,
⟨some 60, none, .load false 1 (.t 59)⟩,
⟨some 61, none, .bin .eql (.t 60) (.c (.int .i64 0))⟩,
⟨some 62, none, .mv (.t 61)⟩,
⟨some 63, some (62, true), .fa 13 (.t 1)⟩,
⟨some 64, some (62, true), .load false 1 (.t 63)⟩,
⟨some 65, some (62, true), .bin .eql (.t 64) (.c (.int .i64 0))⟩,
⟨some 66, none, .pick (.t 62) (.t 65) (.c (.bool false))⟩]
abbrev x30r12 : List XOper := [
⟨some 2, none, .mv (.c (.bool true))⟩]
abbrev x30r13 : List XOper := [
⟨some 67, none, .fa 1 (.t 1)⟩,
⟨some 68, none, .load false 1 (.t 67)⟩,
⟨some 69, none, .fa 12 (.t 1)⟩,
⟨some 70, none, .load false 1 (.t 69)⟩,
⟨some 71, none, .call (.c (.fn (.func 62) [] [])) [(.t 68), (.c (.int .i64 10)), (.t 70)]⟩,
⟨some 72, none, .mv (.t 71)⟩,
⟨some 73, some (72, true), .fa 1 (.t 1)⟩,
⟨some 74, some (72, true), .load false 1 (.t 73)⟩,
⟨some 75, some (72, true), .fa 13 (.t 1)⟩,
⟨some 76, some (72, true), .load false 1 (.t 75)⟩,
⟨some 77, some (72, true), .call (.c (.fn (.func 62) [] [])) [(.t 74), (.c (.int .i64 11)), (.t 76)]⟩,
⟨some 78, none, .pick (.t 72) (.t 77) (.c (.bool false))⟩,
⟨some 79, none, .mv (.t 78)⟩,
⟨some 80, some (79, true), .fa 12 (.t 1)⟩,
⟨some 81, some (79, true), .load false 1 (.t 80)⟩,
⟨some 82, some (79, true), .fa 13 (.t 1)⟩,
⟨some 83, some (79, true), .load false 1 (.t 82)⟩,
⟨some 84, some (79, true), .bin .lss (.t 81) (.t 83)⟩,
⟨some 85, none, .pick (.t 79) (.t 84) (.c (.bool false))⟩,
⟨some 2, none, .mv (.t 85)⟩]
/-- datum/datumref08.Channel -/
abbrev x30b : XCode :=
(.seq (.reg 0 x30r0 none)
(.seq (.seq (.reg 1 x30r1 none)
(.cond (.t 18)
(.seq (.reg 2 x30r2 none)
.ret)
.skip))
(.seq (.seq (.reg 3 x30r3 none)
(.block 0
(.loop x30l4)))
(.seq (.seq (.reg 9 x30r9 none)
(.cond (.t 58)
(.seq (.reg 10 x30r10 none)
.ret)
.skip))
(.seq (.seq (.reg 11 x30r11 none)
(.cond (.t 66)
(.seq (.reg 12 x30r12 none)
.ret)
.skip))
(.seq (.reg 13 x30r13 none)
.ret))))))
def x30 : XFunc := ⟨86, 1, [.tmp 2], x30b⟩
theorem x30_ok : chkF Tryz.prog Tryz.f30 x30 = true := by kernel_rfl
theorem x30_eq : x30.body = x30b ∧ x30.res = [.tmp 2] ∧ x30.np = 1 := ⟨rfl, rfl, rfl⟩

abbrev x31r0 : List XOper := [
⟨some 0, none, .mv (.c .nils)⟩]
abbrev x31r1 : List XOper := [
⟨some 1, none, .mkslice 1 (.str ⟨#[]⟩) 8 [(0, (.c (.str ⟨#[120, 98, 97, 114]⟩))), (1, (.c (.str ⟨#[115, 105, 110, 103, 108, 101]⟩))), (2, (.c (.str ⟨#[112]⟩))), (3, (.c (.str ⟨#[110, 112]⟩))), (4, (.c (.str ⟨#[99]⟩))), (5, (.c (.str ⟨#[117]⟩))), (6, (.c (.str ⟨#[99, 117, 115, 117, 109]⟩))), (7, (.c (.str ⟨#[101, 119, 109, 97]⟩)))]⟩,
⟨some 0, none, .mv (.t 1)⟩]
/-- datum/datumref08.charts -/
abbrev x31b : XCode :=
(.seq (.reg 0 x31r0 none)
(.seq (.reg 1 x31r1 none)
.ret))
def x31 : XFunc := ⟨2, 0, [.tmp 0], x31b⟩
theorem x31_ok : chkF Tryz.prog Tryz.f31 x31 = true := by kernel_rfl
theorem x31_eq : x31.body = x31b ∧ x31.res = [.tmp 0] ∧ x31.np = 0 := ⟨rfl, rfl, rfl⟩

abbrev x32r0 : List XOper := [
⟨some 0, none, .mv (.c .nils)⟩]
abbrev x32r1 : List XOper := [
⟨some 1, none, .mkslice 1 (.str ⟨#[]⟩) 12 [(0, (.c (.str ⟨#[115, 105, 122, 101]⟩))), (1, (.c (.str ⟨#[108, 111, 119]⟩))), (2, (.c (.str ⟨#[104, 105, 103, 104]⟩))), (3, (.c (.str ⟨#[98, 97, 115, 101]⟩))), (4, (.c (.str ⟨#[99, 97, 112]⟩))), (5, (.c (.str ⟨#[116, 97, 114, 103, 101, 116]⟩))), (6, (.c (.str ⟨#[115, 116, 101, 112]⟩))), (7, (.c (.str ⟨#[98, 111, 117, 110, 100]⟩))), (8, (.c (.str ⟨#[119, 101, 105, 103, 104, 116]⟩))), (9, (.c (.str ⟨#[115, 105, 103, 109, 97]⟩))), (10, (.c (.str ⟨#[108, 111, 119, 101, 114]⟩))), (11, (.c (.str ⟨#[117, 112, 112, 101, 114]⟩)))]⟩,
⟨some 0, none, .mv (.t 1)⟩]
/-- datum/datumref08.words -/
abbrev x32b : XCode :=
(.seq (.reg 0 x32r0 none)
(.seq (.reg 1 x32r1 none)
.ret))
def x32 : XFunc := ⟨2, 0, [.tmp 0], x32b⟩
theorem x32_ok : chkF Tryz.prog Tryz.f32 x32 = true := by kernel_rfl
theorem x32_eq : x32.body = x32b ∧ x32.res = [.tmp 0] ∧ x32.np = 0 := ⟨rfl, rfl, rfl⟩

abbrev x33r0 : List XOper := [
⟨some 4, none, .mv (.c (.bool false))⟩]
abbrev x33r1 : List XOper := [
⟨some 5, none, .mv (.t 0)⟩,
⟨some 6, none, .call (.c (.fn (.func 64) [] [])) [(.t 5)]⟩,
⟨some 7, none, .mv (.t 1)⟩,
⟨some 8, none, .ixS (.t 6) (.t 7)⟩,
⟨some 9, none, .bin .eql (.t 8) (.c (.int .u8 49))⟩,
⟨some 4, none, .mv (.t 9)⟩]
/-- datum/datumref08.Need -/
abbrev x33b : XCode :=
(.seq (.reg 0 x33r0 none)
(.seq (.reg 1 x33r1 none)
.ret))
def x33 : XFunc := ⟨10, 2, [.tmp 4], x33b⟩
theorem x33_ok : chkF Tryz.prog Tryz.f33 x33 = true := by kernel_rfl
theorem x33_eq : x33.body = x33b ∧ x33.res = [.tmp 4] ∧ x33.np = 2 := ⟨rfl, rfl, rfl⟩

abbrev x34r0 : List XOper := [
⟨some 2, none, .mv (.c (.str ⟨#[]⟩))⟩]
abbrev x34r1 : List XOper := [
⟨some 3, none, .mv (.t 0)⟩,
⟨some 4, none, .bin .lss (.t 3) (.c (.int .i64 0))⟩]
abbrev x34r2 : List XOper := [
⟨some 5, none, .mv (.t 0)⟩,
⟨some 6, none, .conv .u64 (.t 5)⟩,
⟨some 7, none, .bin .sub (.c (.int .u64 0)) (.t 6)⟩,
⟨some 8, none, .call (.c (.fn (.func 65) [] [])) [(.t 7)]⟩,
⟨some 9, none, .bin .add (.c (.str ⟨#[45]⟩)) (.t 8)⟩,
⟨some 2, none, .mv (.t 9)⟩]
abbrev x34r3 : List XOper := [
⟨some 10, none, .mv (.t 0)⟩,
⟨some 11, none, .conv .u64 (.t 10)⟩,
⟨some 12, none, .call (.c (.fn (.func 65) [] [])) [(.t 11)]⟩,
⟨some 2, none, .mv (.t 12)⟩]
/-- datum/datumref07.Digits -/
abbrev x34b : XCode :=
(.seq (.reg 0 x34r0 none)
(.seq (.seq (.reg 1 x34r1 none)
(.cond (.t 4)
(.seq (.reg 2 x34r2 none)
.ret)
.skip))
(.seq (.reg 3 x34r3 none)
.ret)))
def x34 : XFunc := ⟨13, 1, [.tmp 2], x34b⟩
theorem x34_ok : chkF Tryz.prog Tryz.f34 x34 = true := by kernel_rfl
theorem x34_eq : x34.body = x34b ∧ x34.res = [.tmp 2] ∧ x34.np = 1 := ⟨rfl, rfl, rfl⟩

abbrev x35r0 : List XOper := [
⟨some 2, none, .box (.t 0)⟩,
⟨some 4, none, .mv (.c (.int .i64 0))⟩]
abbrev x35r1 : List XOper := [
⟨some 5, none, .fa 2 (.t 2)⟩,
⟨some 6, none, .load false 1 (.t 5)⟩,
⟨some 7, none, .fa 3 (.t 2)⟩,
⟨some 8, none, .load false 1 (.t 7)⟩,
⟨some 9, none, .fa 4 (.t 2)⟩,
⟨some 10, none, .load false 1 (.t 9)⟩,
⟨some 11, none, .fa 5 (.t 2)⟩,
⟨some 12, none, .load false 1 (.t 11)⟩,
⟨some 13, none, .fa 6 (.t 2)⟩,
⟨some 14, none, .load false 1 (.t 13)⟩,
⟨some 15, none, .fa 7 (.t 2)⟩,
⟨some 16, none, .load false 1 (.t 15)⟩,
⟨some 17, none, .fa 8 (.t 2)⟩,
⟨some 18, none, .load false 1 (.t 17)⟩,
⟨some 19, none, .fa 9 (.t 2)⟩,
⟨some 20, none, .load false 1 (.t 19)⟩,
⟨some 21, none, .fa 10 (.t 2)⟩,
⟨some 22, none, .load false 1 (.t 21)⟩,
⟨some 23, none, .fa 11 (.t 2)⟩,
⟨some 24, none, .load false 1 (.t 23)⟩,
⟨some 25, none, .fa 12 (.t 2)⟩,
⟨some 26, none, .load false 1 (.t 25)⟩,
⟨some 27, none, .fa 13 (.t 2)⟩,
⟨some 28, none, .load false 1 (.t 27)⟩,
⟨some 29, none, .mkslice 1 (.int .i64 0) 12 [(0, (.t 6)), (1, (.t 8)), (2, (.t 10)), (3, (.t 12)), (4, (.t 14)), (5, (.t 16)), (6, (.t 18)), (7, (.t 20)), (8, (.t 22)), (9, (.t 24)), (10, (.t 26)), (11, (.t 28))]⟩,
⟨some 30, none, .mv (.t 1)⟩,
⟨some 31, none, .iaS 1 (.t 29) (.t 30)⟩,
⟨some 32, none, .load false 1 (.t 31)⟩,
⟨some 4, none, .mv (.t 32)⟩]
/-- datum/datumref08.Get -/
abbrev x35b : XCode :=
(.seq (.reg 0 x35r0 none)
(.seq (.reg 1 x35r1 none)
.ret))
def x35 : XFunc := ⟨33, 2, [.tmp 4], x35b⟩
theorem x35_ok : chkF Tryz.prog Tryz.f35 x35 = true := by kernel_rfl
theorem x35_eq : x35.body = x35b ∧ x35.res = [.tmp 4] ∧ x35.np = 2 := ⟨rfl, rfl, rfl⟩

abbrev x36r0 : List XOper := [
⟨some 3, none, .mv (.t 0)⟩,
⟨some 4, none, .mkf (.func 66) [(.t 3)] []⟩,
⟨some 2, none, .mv (.t 4)⟩]
abbrev x36r1 : List XOper := [
⟨some 5, none, .mv (.t 0)⟩,
⟨some 6, none, .nilChk (.t 5)⟩,
⟨some 7, none, .fa 1 (.t 6)⟩,
⟨some 8, none, .load false 1 (.t 7)⟩,
⟨some 9, none, .mv (.t 0)⟩,
⟨some 10, none, .nilChk (.t 9)⟩,
⟨some 11, none, .fa 0 (.t 10)⟩,
⟨some 12, none, .load false 1 (.t 11)⟩,
⟨some 13, none, .lenS (.t 12)⟩,
⟨some 14, none, .bin .lss (.t 8) (.t 13)⟩]
abbrev x36r2 : List XOper := [
⟨some 15, none, .mv (.t 0)⟩,
⟨some 16, none, .nilChk (.t 15)⟩,
⟨some 17, none, .fa 0 (.t 16)⟩,
⟨some 18, none, .load false 1 (.t 17)⟩,
⟨some 19, none, .mv (.t 0)⟩,
⟨some 20, none, .nilChk (.t 19)⟩,
⟨some 21, none, .fa 1 (.t 20)⟩,
⟨some 22, none, .load false 1 (.t 21)⟩,
⟨some 23, none, .ixS (.t 18) (.t 22)⟩]
abbrev x36r3 : List XOper := [
⟨some 25, none, .bin .eql (.t 23) (.c (.int .u8 32))⟩,
⟨some 24, none, .mv (.t 25)⟩]
abbrev x36r4 : List XOper := [
⟨some 26, none, .bin .eql (.t 23) (.c (.int .u8 9))⟩,
⟨some 24, none, .mv (.t 26)⟩]
abbrev x36r5 : List XOper := [
⟨some 27, none, .bin .eql (.t 23) (.c (.int .u8 10))⟩,
⟨some 24, none, .mv (.t 27)⟩]
abbrev x36r6 : List XOper := [
⟨some 28, none, .bin .eql (.t 23) (.c (.int .u8 13))⟩,
⟨some 24, none, .mv (.t 28)⟩]
abbrev x36r7 : List XOper := [
⟨some 29, none, .mv (.t 0)⟩,
⟨some 30, none, .nilChk (.t 29)⟩,
⟨some 31, none, .fa 1 (.t 30)⟩,
⟨some 32, none, .load false 1 (.t 31)⟩,
⟨some 33, none, .bin .add (.t 32) (.c (.int .i64 1))⟩,
⟨some 34, none, .nilChk (.t 29)⟩,
⟨some 35, none, .fa 1 (.t 34)⟩,
⟨none, none, .store 1 (.t 35) (.t 33)⟩]
abbrev x36r8 : List XOper := [
⟨some 37, none, .bin .eql (.t 23) (.c (.int .u8 35))⟩,
⟨some 36, none, .mv (.t 37)⟩]
abbrev x36r9 : List XOper := [
⟨some 38, none, .mv (.t 0)⟩,
⟨some 39, none, .mv (.t 2)⟩,
⟨some 40, none, .call (.c (.fn (.func 67) [] [])) [(.t 38), (.t 39)]⟩]
abbrev x36l1 : XCode :=
(.seq (.seq (.reg 1 x36r1 (some ⟨[]⟩))
(.cond (.t 14)
.skip
(.exit 0)))
(.block 1
(.seq (.reg 2 x36r2 (some ⟨[]⟩))
(.block 2
(.seq (.seq (.reg 3 x36r3 none)
(.cond (.t 24)
.skip
(.seq (.reg 4 x36r4 none)
(.cond (.t 24)
.skip
(.seq (.reg 5 x36r5 none)
(.cond (.t 24)
.skip
(.reg 6 x36r6 none)))))))
(.cond (.t 24)
(.reg 7 x36r7 none)
(.seq (.reg 8 x36r8 none)
(.cond (.t 36)
(.reg 9 x36r9 none)
.ret))))))))
/-- (*datum/token.text).blanks -/
abbrev x36b : XCode :=
(.seq (.reg 0 x36r0 none)
(.block 0
(.loop x36l1)))
def x36 : XFunc := ⟨41, 1, [], x36b⟩
theorem x36_ok : chkF Tryz.prog Tryz.f36 x36 = true := by kernel_rfl
theorem x36_eq : x36.body = x36b ∧ x36.res = [] ∧ x36.np = 1 := ⟨rfl, rfl, rfl⟩

abbrev x37r0 : List XOper := [
⟨some 2, none, .alloc [(.int .i64 0), (.str ⟨#[]⟩), (.int .i64 0), (.int .i64 0)]⟩,
⟨some 3, none, .mv (.c (.int .i64 0))⟩]
abbrev x37r1 : List XOper := [
⟨some 7, none, .mv (.t 0)⟩,
⟨some 8, none, .nilChk (.t 7)⟩,
⟨some 9, none, .fa 0 (.t 8)⟩,
⟨some 10, none, .load false 1 (.t 9)⟩,
⟨some 11, none, .mv (.t 0)⟩,
⟨some 12, none, .nilChk (.t 11)⟩,
⟨some 13, none, .fa 1 (.t 12)⟩,
⟨some 14, none, .load false 1 (.t 13)⟩,
⟨some 15, none, .ixS (.t 10) (.t 14)⟩,
⟨some 4, none, .mv (.t 15)⟩]
abbrev x37r2 : List XOper := [
⟨some 16, none, .mv (.t 4)⟩,
⟨some 17, none, .call (.c (.fn (.func 68) [] [])) [(.c (.str ⟨#[123, 125, 59]⟩)), (.t 16)]⟩,
⟨some 5, none, .mv (.t 17)⟩]
abbrev x37r3 : List XOper := [
⟨some 18, none, .mv (.t 5)⟩,
⟨some 19, none, .bin .geq (.t 18) (.c (.int .i64 0))⟩]
abbrev x37r4 : List XOper := [
⟨some 20, none, .mv (.t 0)⟩,
⟨some 21, none, .nilChk (.t 20)⟩,
⟨some 22, none, .fa 1 (.t 21)⟩,
⟨some 23, none, .load false 1 (.t 22)⟩,
⟨some 24, none, .bin .add (.t 23) (.c (.int .i64 1))⟩,
⟨some 25, none, .nilChk (.t 20)⟩,
⟨some 26, none, .fa 1 (.t 25)⟩,
⟨none, none, .store 1 (.t 26) (.t 24)⟩]
abbrev x37r5 : List XOper := [
⟨some 27, none, .mv (.t 5)⟩,
⟨some 28, none, .bin .add (.c (.int .i64 3)) (.t 27)⟩,
⟨some 29, none, .build [(.int .i64 0), (.str ⟨#[]⟩), (.int .i64 0), (.int .i64 0)] [(0, 1, (.t 28))]⟩,
⟨none, none, .store 4 (.t 2) (.t 29)⟩,
⟨some 3, none, .mv (.c (.int .i64 0))⟩]
abbrev x37r6 : List XOper := [
⟨some 30, none, .mv (.t 4)⟩,
⟨some 31, none, .bin .eql (.t 30) (.c (.int .u8 45))⟩,
⟨some 32, none, .mv (.t 31)⟩,
⟨some 33, some (32, false), .mv (.t 4)⟩,
⟨some 34, some (32, false), .call (.c (.fn (.func 69) [] [])) [(.t 33)]⟩,
⟨some 35, none, .pick (.t 32) (.c (.bool true)) (.t 34)⟩]
abbrev x37r7 : List XOper := [
⟨some 36, none, .mv (.t 0)⟩,
⟨some 37, none, .call (.c (.fn (.func 70) [] [])) [(.t 36)]⟩,
⟨some 38, none, .ext (.t 37) 0⟩,
⟨some 39, none, .ext (.t 37) 1⟩,
⟨none, none, .store 4 (.t 2) (.t 38)⟩,
⟨some 3, none, .mv (.t 39)⟩]
abbrev x37r8 : List XOper := [
⟨some 40, none, .mv (.t 0)⟩,
⟨some 41, none, .call (.c (.fn (.func 67) [] [])) [(.t 40), (.c (.fn (.func 71) [] []))]⟩,
⟨some 6, none, .mv (.t 41)⟩]
abbrev x37r9 : List XOper := [
⟨some 43, none, .mv (.t 6)⟩,
⟨some 44, none, .bin .eql (.t 43) (.c (.str ⟨#[]⟩))⟩,
⟨some 42, none, .mv (.t 44)⟩]
abbrev x37r10 : List XOper := [
⟨some 45, none, .build [(.int .i64 0), (.str ⟨#[]⟩), (.int .i64 0), (.int .i64 0)] []⟩,
⟨none, none, .store 4 (.t 2) (.t 45)⟩,
⟨some 3, none, .mv (.c (.int .i64 7))⟩]
abbrev x37r11 : List XOper := [
⟨some 47, none, .mv (.t 6)⟩,
⟨some 48, none, .lenS (.t 47)⟩,
⟨some 49, none, .bin .gtr (.t 48) (.c (.int .i64 12))⟩,
⟨some 46, none, .mv (.t 49)⟩]
abbrev x37r12 : List XOper := [
⟨some 50, none, .build [(.int .i64 0), (.str ⟨#[]⟩), (.int .i64 0), (.int .i64 0)] []⟩,
⟨none, none, .store 4 (.t 2) (.t 50)⟩,
⟨some 3, none, .mv (.c (.int .i64 2))⟩]
abbrev x37r13 : List XOper := [
⟨some 51, none, .mv (.t 6)⟩,
⟨some 52, none, .build [(.int .i64 0), (.str ⟨#[]⟩), (.int .i64 0), (.int .i64 0)] [(0, 1, (.c (.int .i64 1))), (1, 1, (.t 51))]⟩,
⟨none, none, .store 4 (.t 2) (.t 52)⟩,
⟨some 3, none, .mv (.c (.int .i64 0))⟩]
/-- (*datum/token.text).token -/
abbrev x37b : XCode :=
(.seq (.reg 0 x37r0 none)
(.seq (.reg 1 x37r1 (some ⟨[]⟩))
(.seq (.seq (.reg 2 x37r2 none)
(.seq (.reg 3 x37r3 none)
(.cond (.t 19)
(.seq (.reg 4 x37r4 none)
(.seq (.reg 5 x37r5 none)
.ret))
.skip)))
(.seq (.seq (.reg 6 x37r6 none)
(.cond (.t 35)
(.seq (.reg 7 x37r7 none)
.ret)
.skip))
(.seq (.reg 8 x37r8 none)
(.seq (.block 0
(.seq (.reg 9 x37r9 none)
(.cond (.t 42)
(.seq (.reg 10 x37r10 none)
.ret)
(.seq (.reg 11 x37r11 none)
(.cond (.t 46)
(.seq (.reg 12 x37r12 none)
.ret)
.skip)))))
(.seq (.reg 13 x37r13 none)
.ret)))))))
def x37 : XFunc := ⟨53, 1, [.cell 2 true 4, .tmp 3], x37b⟩
theorem x37_ok : chkF Tryz.prog Tryz.f37 x37 = true := by kernel_rfl
theorem x37_eq : x37.body = x37b ∧ x37.res = [.cell 2 true 4, .tmp 3] ∧ x37.np = 1 := ⟨rfl, rfl, rfl⟩

abbrev x38r0 : List XOper := [
⟨some 2, none, .alloc [(.int .i64 0), (.str ⟨#[]⟩), (.int .i64 0), (.int .i64 0)]⟩]
abbrev x38r1 : List XOper := [
⟨some 3, none, .mv (.t 0)⟩,
⟨some 4, none, .nilChk (.t 3)⟩,
⟨some 5, none, .fa 1 (.t 4)⟩,
⟨some 6, none, .load false 1 (.t 5)⟩,
⟨some 7, none, .mv (.t 0)⟩,
⟨some 8, none, .nilChk (.t 7)⟩,
⟨some 9, none, .fa 0 (.t 8)⟩,
⟨some 10, none, .load false 1 (.t 9)⟩,
⟨some 11, none, .lenV (.t 10)⟩,
⟨some 12, none, .bin .lss (.t 6) (.t 11)⟩]
abbrev x38r2 : List XOper := [
⟨some 13, none, .mv (.t 0)⟩,
⟨some 14, none, .nilChk (.t 13)⟩,
⟨some 15, none, .fa 0 (.t 14)⟩,
⟨some 16, none, .load false 1 (.t 15)⟩,
⟨some 17, none, .mv (.t 0)⟩,
⟨some 18, none, .nilChk (.t 17)⟩,
⟨some 19, none, .fa 1 (.t 18)⟩,
⟨some 20, none, .load false 1 (.t 19)⟩,
⟨some 21, none, .iaS 4 (.t 16) (.t 20)⟩,
⟨some 22, none, .load true 4 (.t 21)⟩,
⟨none, none, .store 4 (.t 2) (.t 22)⟩]
abbrev x38r3 : List XOper := [
⟨some 23, none, .mv (.t 0)⟩,
⟨some 24, none, .nilChk (.t 23)⟩,
⟨some 25, none, .fa 2 (.t 24)⟩,
⟨some 26, none, .load false 1 (.t 25)⟩,
⟨some 27, none, .build [(.int .i64 0), (.str ⟨#[]⟩), (.int .i64 0), (.int .i64 0)] [(3, 1, (.t 26))]⟩,
⟨none, none, .store 4 (.t 2) (.t 27)⟩]
/-- (*datum/recipe.reader).peek -/
abbrev x38b : XCode :=
(.seq (.reg 0 x38r0 none)
(.seq (.seq (.reg 1 x38r1 (some ⟨[]⟩))
(.cond (.t 12)
(.seq (.reg 2 x38r2 (some ⟨[]⟩))
.ret)
.skip))
(.seq (.reg 3 x38r3 none)
.ret)))
def x38 : XFunc := ⟨28, 1, [.cell 2 true 4], x38b⟩
theorem x38_ok : chkF Tryz.prog Tryz.f38 x38 = true := by kernel_rfl
theorem x38_eq : x38.body = x38b ∧ x38.res = [.cell 2 true 4] ∧ x38.np = 1 := ⟨rfl, rfl, rfl⟩

abbrev x39r0 : List XOper := [
⟨some 4, none, .mv (.c .nili)⟩]
abbrev x39r1 : List XOper := [
⟨some 5, none, .mv (.t 0)⟩,
⟨some 6, none, .call (.c (.fn (.func 38) [] [])) [(.t 5)]⟩,
⟨some 7, none, .fld false 1 3 (.t 6)⟩,
⟨some 8, none, .mv (.t 1)⟩,
⟨some 9, none, .build [(.int .i64 0), (.int .i64 0)] [(0, 1, (.t 7)), (1, 1, (.t 8))]⟩,
⟨some 10, none, .mki 50 (.t 9)⟩,
⟨some 4, none, .mv (.t 10)⟩]
/-- (*datum/recipe.reader).wrong -/
abbrev x39b : XCode :=
(.seq (.reg 0 x39r0 none)
(.seq (.reg 1 x39r1 none)
.ret))
def x39 : XFunc := ⟨11, 2, [.tmp 4], x39b⟩
theorem x39_ok : chkF Tryz.prog Tryz.f39 x39 = true := by kernel_rfl
theorem x39_eq : x39.body = x39b ∧ x39.res = [.tmp 4] ∧ x39.np = 2 := ⟨rfl, rfl, rfl⟩

abbrev x40r0 : List XOper := [
⟨some 4, none, .mv (.c (.bool false))⟩]
abbrev x40r1 : List XOper := [
⟨some 5, none, .mv (.t 0)⟩,
⟨some 6, none, .mv (.t 1)⟩,
⟨some 7, none, .call (.c (.fn (.func 72) [] [])) [(.t 5), (.t 6)]⟩,
⟨some 8, none, .bin .geq (.t 7) (.c (.int .i64 0))⟩,
⟨some 4, none, .mv (.t 8)⟩]
/-- slices.ContainsFunc[[]datum/api.Channel,datum/api.Channel] -/
abbrev x40b : XCode :=
(.seq (.reg 0 x40r0 none)
(.seq (.reg 1 x40r1 none)
.ret))
def x40 : XFunc := ⟨9, 2, [.tmp 4], x40b⟩
theorem x40_ok : chkF Tryz.prog Tryz.f40 x40 = true := by kernel_rfl
theorem x40_eq : x40.body = x40b ∧ x40.res = [.tmp 4] ∧ x40.np = 2 := ⟨rfl, rfl, rfl⟩

abbrev x41r0 : List XOper := [
⟨some 2, none, .box (.t 0)⟩,
⟨some 3, none, .mv (.c (.bool false))⟩]
abbrev x41r1 : List XOper := [
⟨some 4, none, .fa 0 (.t 2)⟩,
⟨some 5, none, .load false 1 (.t 4)⟩,
⟨some 6, none, .fa 1 (.t 1)⟩,
⟨some 7, none, .load false 1 (.t 6)⟩,
⟨some 8, none, .bin .eql (.t 5) (.t 7)⟩,
⟨some 3, none, .mv (.t 8)⟩]
/-- (*datum/recipe.reader).channel$1 -/
abbrev x41b : XCode :=
(.seq (.reg 0 x41r0 none)
(.seq (.reg 1 x41r1 none)
.ret))
def x41 : XFunc := ⟨9, 2, [.tmp 3], x41b⟩
theorem x41_ok : chkF Tryz.prog Tryz.f41 x41 = true := by kernel_rfl
theorem x41_eq : x41.body = x41b ∧ x41.res = [.tmp 3] ∧ x41.np = 2 := ⟨rfl, rfl, rfl⟩

abbrev x42r0 : List XOper := [
⟨some 4, none, .alloc [(.int .i64 0), (.str ⟨#[]⟩), (.int .i64 0), (.int .i64 0)]⟩,
⟨some 5, none, .mv (.c .nili)⟩]
abbrev x42r1 : List XOper := [
⟨some 7, none, .mv (.t 0)⟩,
⟨some 8, none, .call (.c (.fn (.func 38) [] [])) [(.t 7)]⟩,
⟨some 6, none, .alloc [(.int .i64 0), (.str ⟨#[]⟩), (.int .i64 0), (.int .i64 0)]⟩,
⟨none, none, .store 4 (.t 6) (.t 8)⟩]
abbrev x42r2 : List XOper := [
⟨some 9, none, .fa 0 (.t 6)⟩,
⟨some 10, none, .load false 1 (.t 9)⟩,
⟨some 11, none, .mv (.t 1)⟩,
⟨some 12, none, .bin .neq (.t 10) (.t 11)⟩]
abbrev x42r3 : List XOper := [
⟨some 13, none, .load true 4 (.t 6)⟩,
⟨some 14, none, .mv (.t 0)⟩,
⟨some 15, none, .call (.c (.fn (.func 39) [] [])) [(.t 14), (.c (.int .i64 8))]⟩,
⟨none, none, .store 4 (.t 4) (.t 13)⟩,
⟨some 5, none, .mv (.t 15)⟩]
abbrev x42r4 : List XOper := [
⟨some 16, none, .mv (.t 0)⟩,
⟨some 17, none, .nilChk (.t 16)⟩,
⟨some 18, none, .fa 1 (.t 17)⟩,
⟨some 19, none, .load false 1 (.t 18)⟩,
⟨some 20, none, .bin .add (.t 19) (.c (.int .i64 1))⟩,
⟨some 21, none, .nilChk (.t 16)⟩,
⟨some 22, none, .fa 1 (.t 21)⟩,
⟨none, none, .store 1 (.t 22) (.t 20)⟩]
abbrev x42r5 : List XOper := [
⟨some 23, none, .load true 4 (.t 6)⟩,
⟨none, none, .store 4 (.t 4) (.t 23)⟩,
⟨some 5, none, .mv (.c .nili)⟩]
/-- (*datum/recipe.reader).take -/
abbrev x42b : XCode :=
(.seq (.reg 0 x42r0 none)
(.seq (.reg 1 x42r1 none)
(.seq (.seq (.reg 2 x42r2 none)
(.cond (.t 12)
(.seq (.reg 3 x42r3 (some ⟨[(0, 2)]⟩))
.ret)
.skip))
(.seq (.reg 4 x42r4 none)
(.seq (.reg 5 x42r5 none)
.ret)))))
def x42 : XFunc := ⟨24, 2, [.cell 4 true 4, .tmp 5], x42b⟩
theorem x42_ok : chkF Tryz.prog Tryz.f42 x42 = true := by kernel_rfl
theorem x42_eq : x42.body = x42b ∧ x42.res = [.cell 4 true 4, .tmp 5] ∧ x42.np = 2 := ⟨rfl, rfl, rfl⟩

abbrev x43r0 : List XOper := [
⟨some 4, none, .mv (.c (.int .i64 0))⟩]
abbrev x43r1 : List XOper := [
⟨some 6, none, .mv (.t 0)⟩,
⟨some 7, none, .lenV (.t 6)⟩,
⟨some 8, none, .mv (.c (.int .i64 0))⟩]
abbrev x43r2 : List XOper := [
⟨some 9, none, .bin .lss (.t 8) (.t 7)⟩]
abbrev x43r3 : List XOper := [
⟨some 10, none, .mv (.t 8)⟩,
⟨some 5, none, .mv (.t 10)⟩]
abbrev x43r4 : List XOper := [
⟨some 11, none, .mv (.t 1)⟩,
⟨some 12, none, .mv (.t 0)⟩,
⟨some 13, none, .mv (.t 5)⟩,
⟨some 14, none, .iaS 1 (.t 12) (.t 13)⟩,
⟨some 15, none, .load false 1 (.t 14)⟩,
⟨some 16, none, .bin .eql (.t 11) (.t 15)⟩]
abbrev x43r5 : List XOper := [
⟨some 17, none, .mv (.t 5)⟩,
⟨some 4, none, .mv (.t 17)⟩]
abbrev x43r6 : List XOper := [
⟨some 18, none, .bin .add (.t 8) (.c (.int .i64 1))⟩,
⟨some 8, none, .mv (.t 18)⟩]
abbrev x43l2 : XCode :=
(.seq (.reg 2 x43r2 none)
(.seq (.cond (.t 9)
.skip
(.exit 0))
(.seq (.block 1
(.seq (.reg 3 x43r3 none)
(.seq (.reg 4 x43r4 none)
(.cond (.t 16)
(.seq (.reg 5 x43r5 none)
.ret)
.skip))))
(.reg 6 x43r6 none))))
abbrev x43r7 : List XOper := [
⟨some 4, none, .mv (.c (.int .i64 (-1)))⟩]
/-- slices.Index[[]string,string] -/
abbrev x43b : XCode :=
(.seq (.reg 0 x43r0 none)
(.seq (.seq (.reg 1 x43r1 none)
(.block 0
(.loop x43l2)))
(.seq (.reg 7 x43r7 none)
.ret)))
def x43 : XFunc := ⟨19, 2, [.tmp 4], x43b⟩
theorem x43_ok : chkF Tryz.prog Tryz.f43 x43 = true := by kernel_rfl
theorem x43_eq : x43.body = x43b ∧ x43.res = [.tmp 4] ∧ x43.np = 2 := ⟨rfl, rfl, rfl⟩

abbrev x44r0 : List XOper := [
⟨some 6, none, .mv (.c .nili)⟩]
abbrev x44r1 : List XOper := [
⟨some 15, none, .mv (.t 0)⟩,
⟨some 16, none, .call (.c (.fn (.func 38) [] [])) [(.t 15)]⟩,
⟨some 7, none, .alloc [(.int .i64 0), (.str ⟨#[]⟩), (.int .i64 0), (.int .i64 0)]⟩,
⟨none, none, .store 4 (.t 7) (.t 16)⟩]
abbrev x44r2 : List XOper := [
⟨some 17, none, .call (.c (.fn (.func 25) [] [])) []⟩,
⟨some 8, none, .mv (.t 17)⟩]
abbrev x44r3 : List XOper := [
⟨some 18, none, .mv (.t 8)⟩,
⟨some 19, none, .mkf (.func 74) [] [(.t 7)]⟩,
⟨some 20, none, .call (.c (.fn (.func 73) [] [])) [(.t 18), (.t 19)]⟩,
⟨some 9, none, .mv (.t 20)⟩]
abbrev x44r4 : List XOper := [
⟨some 22, none, .mv (.t 9)⟩,
⟨some 23, none, .bin .lss (.t 22) (.c (.int .i64 0))⟩,
⟨some 24, none, .mv (.t 23)⟩,
⟨some 25, some (24, false), .mv (.t 8)⟩,
⟨some 26, some (24, false), .mv (.t 9)⟩,
⟨some 27, some (24, false), .iaS 4 (.t 25) (.t 26)⟩,
⟨some 28, some (24, false), .load true 4 (.t 27)⟩,
⟨some 29, some (24, false), .mv (.t 1)⟩,
⟨some 30, some (24, false), .nilChk (.t 29)⟩,
⟨some 31, some (24, false), .fa 1 (.t 30)⟩,
⟨some 32, some (24, false), .load false 1 (.t 31)⟩,
⟨some 33, some (24, false), .call (.c (.fn (.func 26) [] [])) [(.t 28), (.t 32)]⟩,
⟨some 34, some (24, false), .un .not (.t 33)⟩,
⟨some 35, some (24, false), .mv (.t 34)⟩,
⟨some 36, some (35, true), .mv (.t 9)⟩,
⟨some 37, some (35, true), .bin .lss (.t 36) (.c (.int .i64 10))⟩,
⟨some 38, some (35, true), .mv (.t 37)⟩,
⟨some 39, some (38, false), .mv (.t 1)⟩,
⟨some 40, some (38, false), .nilChk (.t 39)⟩,
⟨some 41, some (38, false), .fa 1 (.t 40)⟩,
⟨some 42, some (38, false), .load false 1 (.t 41)⟩,
⟨some 43, some (38, false), .call (.c (.fn (.func 59) [] [])) [(.t 42)]⟩,
⟨some 44, some (38, false), .un .not (.t 43)⟩,
⟨some 45, some (35, true), .pick (.t 38) (.c (.bool true)) (.t 44)⟩,
⟨some 46, some (24, false), .pick (.t 35) (.t 45) (.c (.bool false))⟩,
⟨some 47, none, .pick (.t 24) (.c (.bool true)) (.t 46)⟩,
⟨some 21, none, .mv (.t 47)⟩]
abbrev x44r5 : List XOper := [
⟨some 48, none, .mv (.t 0)⟩,
⟨some 49, none, .call (.c (.fn (.func 39) [] [])) [(.t 48), (.c (.int .i64 8))]⟩,
⟨some 6, none, .mv (.t 49)⟩]
abbrev x44r6 : List XOper := [
⟨some 51, none, .mv (.t 2)⟩,
⟨some 52, none, .fa 1 (.t 7)⟩,
⟨some 53, none, .load false 1 (.t 52)⟩,
⟨some 54, none, .lkp 2 false (.int .i64 0) (.t 51) (.t 53)⟩,
⟨some 55, none, .bin .gtr (.t 54) (.c (.int .i64 0))⟩,
⟨some 50, none, .mv (.t 55)⟩]
abbrev x44r7 : List XOper := [
⟨some 56, none, .mv (.t 0)⟩,
⟨some 57, none, .call (.c (.fn (.func 39) [] [])) [(.t 56), (.c (.int .i64 9))]⟩,
⟨some 6, none, .mv (.t 57)⟩]
abbrev x44r8 : List XOper := [
⟨some 58, none, .mv (.t 2)⟩,
⟨some 59, none, .fa 1 (.t 7)⟩,
⟨some 60, none, .load false 1 (.t 59)⟩,
⟨some 61, none, .lkp 2 false (.int .i64 0) (.t 58) (.t 60)⟩,
⟨some 62, none, .bin .add (.t 61) (.c (.int .i64 1))⟩,
⟨none, none, .mset 2 (.t 58) (.t 60) (.t 62)⟩]
abbrev x44r9 : List XOper := [
⟨some 63, none, .mv (.t 0)⟩,
⟨some 64, none, .nilChk (.t 63)⟩,
⟨some 65, none, .fa 1 (.t 64)⟩,
⟨some 66, none, .load false 1 (.t 65)⟩,
⟨some 67, none, .bin .add (.t 66) (.c (.int .i64 1))⟩,
⟨some 68, none, .nilChk (.t 63)⟩,
⟨some 69, none, .fa 1 (.t 68)⟩,
⟨none, none, .store 1 (.t 69) (.t 67)⟩]
abbrev x44r10 : List XOper := [
⟨some 70, none, .mv (.t 0)⟩,
⟨some 71, none, .call (.c (.fn (.func 38) [] [])) [(.t 70)]⟩,
⟨some 10, none, .alloc [(.int .i64 0), (.str ⟨#[]⟩), (.int .i64 0), (.int .i64 0)]⟩,
⟨none, none, .store 4 (.t 10) (.t 71)⟩]
abbrev x44r11 : List XOper := [
⟨some 72, none, .fa 0 (.t 10)⟩,
⟨some 73, none, .load false 1 (.t 72)⟩,
⟨some 74, none, .bin .eql (.t 73) (.c (.int .i64 2))⟩,
⟨some 75, none, .mv (.t 74)⟩,
⟨some 76, some (75, true), .mv (.t 8)⟩,
⟨some 77, some (75, true), .mv (.t 9)⟩,
⟨some 78, some (75, true), .iaS 4 (.t 76) (.t 77)⟩,
⟨some 79, some (75, true), .load true 4 (.t 78)⟩,
⟨some 80, some (75, true), .mv (.t 1)⟩,
⟨some 81, some (75, true), .nilChk (.t 80)⟩,
⟨some 82, some (75, true), .fa 1 (.t 81)⟩,
⟨some 83, some (75, true), .load false 1 (.t 82)⟩,
⟨some 84, some (75, true), .fa 2 (.t 10)⟩,
⟨some 85, some (75, true), .load false 1 (.t 84)⟩,
⟨some 86, some (75, true), .call (.c (.fn (.func 60) [] [])) [(.t 79), (.t 83), (.t 85)]⟩,
⟨some 87, some (75, true), .un .not (.t 86)⟩,
⟨some 88, none, .pick (.t 75) (.t 87) (.c (.bool false))⟩]
abbrev x44r12 : List XOper := [
⟨some 89, none, .mv (.t 0)⟩,
⟨some 90, none, .call (.c (.fn (.func 39) [] [])) [(.t 89), (.c (.int .i64 3))]⟩,
⟨some 6, none, .mv (.t 90)⟩]
abbrev x44r13 : List XOper := [
⟨some 92, none, .mv (.t 0)⟩,
⟨some 93, none, .call (.c (.fn (.func 42) [] [])) [(.t 92), (.c (.int .i64 2))]⟩,
⟨some 91, none, .mv (.t 93)⟩,
⟨some 94, none, .ext (.t 91) 0⟩,
⟨some 95, none, .ext (.t 91) 1⟩,
⟨some 11, none, .alloc [(.int .i64 0), (.str ⟨#[]⟩), (.int .i64 0), (.int .i64 0)]⟩,
⟨none, none, .store 4 (.t 11) (.t 94)⟩,
⟨some 12, none, .mv (.t 95)⟩]
abbrev x44r14 : List XOper := [
⟨some 96, none, .mv (.t 12)⟩,
⟨some 97, none, .eqN true 1 (.t 96)⟩]
abbrev x44r15 : List XOper := [
⟨some 98, none, .mv (.t 12)⟩,
⟨some 6, none, .mv (.t 98)⟩]
abbrev x44r16 : List XOper := [
⟨some 99, none, .mv (.t 1)⟩,
⟨some 100, none, .call (.c (.fn (.func 24) [] [])) [(.t 99)]⟩,
⟨some 101, none, .mv (.t 9)⟩,
⟨some 102, none, .iaS 1 (.t 100) (.t 101)⟩,
⟨some 103, none, .load false 1 (.t 102)⟩,
⟨some 104, none, .fa 2 (.t 10)⟩,
⟨some 105, none, .load false 1 (.t 104)⟩,
⟨some 106, none, .nilChk (.t 103)⟩,
⟨none, none, .store 1 (.t 106) (.t 105)⟩]
abbrev x44r17 : List XOper := [
⟨some 108, none, .mv (.t 0)⟩,
⟨some 109, none, .call (.c (.fn (.func 42) [] [])) [(.t 108), (.c (.int .i64 5))]⟩,
⟨some 107, none, .mv (.t 109)⟩,
⟨some 110, none, .ext (.t 107) 0⟩,
⟨some 111, none, .ext (.t 107) 1⟩,
⟨some 13, none, .alloc [(.int .i64 0), (.str ⟨#[]⟩), (.int .i64 0), (.int .i64 0)]⟩,
⟨none, none, .store 4 (.t 13) (.t 110)⟩,
⟨some 14, none, .mv (.t 111)⟩]
abbrev x44r18 : List XOper := [
⟨some 112, none, .mv (.t 14)⟩,
⟨some 6, none, .mv (.t 112)⟩]
/-- (*datum/recipe.reader).field -/
abbrev x44b : XCode :=
(.seq (.reg 0 x44r0 none)
(.seq (.reg 1 x44r1 none)
(.seq (.reg 2 x44r2 none)
(.seq (.reg 3 x44r3 none)
(.seq (.block 0
(.seq (.reg 4 x44r4 (some ⟨[]⟩))
(.cond (.t 21)
(.seq (.reg 5 x44r5 none)
.ret)
(.seq (.reg 6 x44r6 none)
(.cond (.t 50)
(.seq (.reg 7 x44r7 none)
.ret)
.skip)))))
(.seq (.reg 8 x44r8 none)
(.seq (.reg 9 x44r9 none)
(.seq (.reg 10 x44r10 none)
(.seq (.seq (.reg 11 x44r11 (some ⟨[]⟩))
(.cond (.t 88)
(.seq (.reg 12 x44r12 none)
.ret)
.skip))
(.seq (.seq (.reg 13 x44r13 none)
(.seq (.reg 14 x44r14 none)
(.cond (.t 97)
(.seq (.reg 15 x44r15 none)
.ret)
.skip)))
(.seq (.reg 16 x44r16 (some ⟨[(1, 6)]⟩))
(.seq (.reg 17 x44r17 none)
(.seq (.reg 18 x44r18 none)
.ret)))))))))))))
def x44 : XFunc := ⟨113, 3, [.tmp 6], x44b⟩
theorem x44_ok : chkF Tryz.prog Tryz.f44 x44 = true := by kernel_rfl
theorem x44_eq : x44.body = x44b ∧ x44.res = [.tmp 6] ∧ x44.np = 3 := ⟨rfl, rfl, rfl⟩

abbrev x45r0 : List XOper := [
⟨some 2, none, .box (.t 0)⟩,
⟨some 4, none, .mv (.c (.int .i64 0))⟩]
abbrev x45r1 : List XOper := [
⟨some 7, none, .call (.c (.fn (.func 25) [] [])) []⟩,
⟨some 8, none, .lenV (.t 7)⟩,
⟨some 9, none, .mv (.c (.int .i64 0))⟩]
abbrev x45r2 : List XOper := [
⟨some 10, none, .bin .lss (.t 9) (.t 8)⟩]
abbrev x45r3 : List XOper := [
⟨some 11, none, .iaS 4 (.t 7) (.t 9)⟩,
⟨some 12, none, .load true 4 (.t 11)⟩,
⟨some 6, none, .alloc [(.str ⟨#[]⟩), (.int .i64 0), (.int .i64 0), (.int .i64 0)]⟩,
⟨none, none, .store 4 (.t 6) (.t 12)⟩]
abbrev x45r4 : List XOper := [
⟨some 13, none, .load true 4 (.t 6)⟩,
⟨some 14, none, .fa 1 (.t 2)⟩,
⟨some 15, none, .load false 1 (.t 14)⟩,
⟨some 16, none, .call (.c (.fn (.func 26) [] [])) [(.t 13), (.t 15)]⟩,
⟨some 17, none, .mv (.t 16)⟩,
⟨some 18, some (17, true), .mv (.t 1)⟩,
⟨some 19, some (17, true), .fa 0 (.t 6)⟩,
⟨some 20, some (17, true), .load false 1 (.t 19)⟩,
⟨some 21, some (17, true), .lkp 2 false (.int .i64 0) (.t 18) (.t 20)⟩,
⟨some 22, some (17, true), .bin .eql (.t 21) (.c (.int .i64 0))⟩,
⟨some 23, none, .pick (.t 17) (.t 22) (.c (.bool false))⟩]
abbrev x45r5 : List XOper := [
⟨some 4, none, .mv (.c (.int .i64 10))⟩]
abbrev x45r6 : List XOper := [
⟨some 24, none, .bin .add (.t 9) (.c (.int .i64 1))⟩,
⟨some 9, none, .mv (.t 24)⟩]
abbrev x45l2 : XCode :=
(.seq (.reg 2 x45r2 none)
(.seq (.cond (.t 10)
.skip
(.exit 0))
(.seq (.block 1
(.seq (.reg 3 x45r3 none)
(.seq (.reg 4 x45r4 none)
(.cond (.t 23)
(.seq (.reg 5 x45r5 none)
.ret)
.skip))))
(.reg 6 x45r6 none))))
abbrev x45r7 : List XOper := [
⟨some 26, none, .mv (.t 1)⟩,
⟨some 27, none, .lkp 2 false (.int .i64 0) (.t 26) (.c (.str ⟨#[108, 111, 119, 101, 114]⟩))⟩,
⟨some 28, none, .mv (.t 1)⟩,
⟨some 29, none, .lkp 2 false (.int .i64 0) (.t 28) (.c (.str ⟨#[117, 112, 112, 101, 114]⟩))⟩,
⟨some 30, none, .bin .neq (.t 27) (.t 29)⟩,
⟨some 25, none, .mv (.t 30)⟩]
abbrev x45r8 : List XOper := [
⟨some 4, none, .mv (.c (.int .i64 10))⟩]
abbrev x45r9 : List XOper := [
⟨some 32, none, .mv (.t 1)⟩,
⟨some 33, none, .lkp 2 false (.int .i64 0) (.t 32) (.c (.str ⟨#[108, 111, 119]⟩))⟩,
⟨some 34, none, .bin .gtr (.t 33) (.c (.int .i64 0))⟩,
⟨some 35, none, .mv (.t 34)⟩,
⟨some 36, some (35, true), .fa 3 (.t 2)⟩,
⟨some 37, some (35, true), .load false 1 (.t 36)⟩,
⟨some 38, some (35, true), .fa 4 (.t 2)⟩,
⟨some 39, some (35, true), .load false 1 (.t 38)⟩,
⟨some 40, some (35, true), .bin .geq (.t 37) (.t 39)⟩,
⟨some 41, none, .pick (.t 35) (.t 40) (.c (.bool false))⟩,
⟨some 42, none, .mv (.t 41)⟩,
⟨some 43, some (42, false), .mv (.t 1)⟩,
⟨some 44, some (42, false), .lkp 2 false (.int .i64 0) (.t 43) (.c (.str ⟨#[108, 111, 119, 101, 114]⟩))⟩,
⟨some 45, some (42, false), .bin .gtr (.t 44) (.c (.int .i64 0))⟩,
⟨some 46, some (42, false), .mv (.t 45)⟩,
⟨some 47, some (46, true), .fa 12 (.t 2)⟩,
⟨some 48, some (46, true), .load false 1 (.t 47)⟩,
⟨some 49, some (46, true), .fa 13 (.t 2)⟩,
⟨some 50, some (46, true), .load false 1 (.t 49)⟩,
⟨some 51, some (46, true), .bin .geq (.t 48) (.t 50)⟩,
⟨some 52, some (42, false), .pick (.t 46) (.t 51) (.c (.bool false))⟩,
⟨some 53, none, .pick (.t 42) (.c (.bool true)) (.t 52)⟩,
⟨some 31, none, .mv (.t 53)⟩]
abbrev x45r10 : List XOper := [
⟨some 4, none, .mv (.c (.int .i64 3))⟩]
abbrev x45r11 : List XOper := [
⟨some 4, none, .mv (.c (.int .i64 0))⟩]
/-- datum/recipe.whole -/
abbrev x45b : XCode :=
(.seq (.reg 0 x45r0 none)
(.seq (.seq (.reg 1 x45r1 none)
(.block 0
(.loop x45l2)))
(.seq (.block 2
(.seq (.reg 7 x45r7 none)
(.cond (.t 25)
(.seq (.reg 8 x45r8 none)
.ret)
(.seq (.reg 9 x45r9 none)
(.cond (.t 31)
(.seq (.reg 10 x45r10 none)
.ret)
.skip)))))
(.seq (.reg 11 x45r11 none)
.ret))))
def x45 : XFunc := ⟨54, 2, [.tmp 4], x45b⟩
theorem x45_ok : chkF Tryz.prog Tryz.f45 x45 = true := by kernel_rfl
theorem x45_eq : x45.body = x45b ∧ x45.res = [.tmp 4] ∧ x45.np = 2 := ⟨rfl, rfl, rfl⟩

abbrev x50r0 : List XOper := [
⟨some 4, none, .mv (.c (.int .i64 0))⟩]
abbrev x50r1 : List XOper := [
⟨some 7, none, .mv (.t 0)⟩,
⟨some 8, none, .mv (.t 1)⟩,
⟨some 9, none, .ixS (.t 7) (.t 8)⟩,
⟨some 5, none, .mv (.t 9)⟩]
abbrev x50r2 : List XOper := [
⟨some 10, none, .mv (.t 5)⟩,
⟨some 11, none, .bin .eql (.t 10) (.c (.int .u8 32))⟩,
⟨some 12, none, .mv (.t 11)⟩,
⟨some 13, some (12, false), .mv (.t 5)⟩,
⟨some 14, some (12, false), .bin .eql (.t 13) (.c (.int .u8 9))⟩,
⟨some 15, none, .pick (.t 12) (.c (.bool true)) (.t 14)⟩,
⟨some 16, none, .mv (.t 15)⟩,
⟨some 17, some (16, false), .mv (.t 5)⟩,
⟨some 18, some (16, false), .bin .eql (.t 17) (.c (.int .u8 10))⟩,
⟨some 19, none, .pick (.t 16) (.c (.bool true)) (.t 18)⟩,
⟨some 20, none, .mv (.t 19)⟩,
⟨some 21, some (20, false), .mv (.t 5)⟩,
⟨some 22, some (20, false), .bin .eql (.t 21) (.c (.int .u8 13))⟩,
⟨some 23, none, .pick (.t 20) (.c (.bool true)) (.t 22)⟩]
abbrev x50r3 : List XOper := [
⟨some 4, none, .mv (.c (.int .i64 1))⟩]
abbrev x50r4 : List XOper := [
⟨some 24, none, .mv (.t 5)⟩,
⟨some 25, none, .bin .neq (.t 24) (.c (.int .u8 35))⟩]
abbrev x50r5 : List XOper := [
⟨some 4, none, .mv (.c (.int .i64 0))⟩]
abbrev x50r6 : List XOper := [
⟨some 6, none, .mv (.c (.int .i64 0))⟩]
abbrev x50r7 : List XOper := [
⟨some 26, none, .mv (.t 1)⟩,
⟨some 27, none, .mv (.t 6)⟩,
⟨some 28, none, .bin .add (.t 26) (.t 27)⟩,
⟨some 29, none, .mv (.t 0)⟩,
⟨some 30, none, .lenS (.t 29)⟩,
⟨some 31, none, .bin .lss (.t 28) (.t 30)⟩,
⟨some 32, none, .mv (.t 31)⟩,
⟨some 33, some (32, true), .mv (.t 0)⟩,
⟨some 34, some (32, true), .mv (.t 1)⟩,
⟨some 35, some (32, true), .mv (.t 6)⟩,
⟨some 36, some (32, true), .bin .add (.t 34) (.t 35)⟩,
⟨some 37, some (32, true), .ixS (.t 33) (.t 36)⟩,
⟨some 38, some (32, true), .bin .neq (.t 37) (.c (.int .u8 10))⟩,
⟨some 39, none, .pick (.t 32) (.t 38) (.c (.bool false))⟩]
abbrev x50r8 : List XOper := [
⟨some 40, none, .mv (.t 6)⟩,
⟨some 41, none, .bin .add (.t 40) (.c (.int .i64 1))⟩,
⟨some 6, none, .mv (.t 41)⟩]
abbrev x50l7 : XCode :=
(.seq (.seq (.reg 7 x50r7 none)
(.cond (.t 39)
.skip
(.exit 0)))
(.block 1
(.reg 8 x50r8 none)))
abbrev x50r9 : List XOper := [
⟨some 42, none, .mv (.t 6)⟩,
⟨some 4, none, .mv (.t 42)⟩]
/-- datum/datumref07.blank -/
abbrev x50b : XCode :=
(.seq (.reg 0 x50r0 none)
(.seq (.reg 1 x50r1 none)
(.seq (.seq (.reg 2 x50r2 none)
(.cond (.t 23)
(.seq (.reg 3 x50r3 none)
.ret)
.skip))
(.seq (.seq (.reg 4 x50r4 none)
(.cond (.t 25)
(.seq (.reg 5 x50r5 none)
.ret)
.skip))
(.seq (.reg 6 x50r6 none)
(.seq (.block 0
(.loop x50l7))
(.seq (.reg 9 x50r9 none)
.ret)))))))
def x50 : XFunc := ⟨43, 2, [.tmp 4], x50b⟩
theorem x50_ok : chkF Tryz.prog Tryz.f50 x50 = true := by kernel_rfl
theorem x50_eq : x50.body = x50b ∧ x50.res = [.tmp 4] ∧ x50.np = 2 := ⟨rfl, rfl, rfl⟩

abbrev x51r0 : List XOper := [
⟨some 4, none, .alloc [(.int .i64 0), (.str ⟨#[]⟩), (.int .i64 0), (.int .i64 0)]⟩,
⟨some 5, none, .mv (.c (.int .i64 0))⟩,
⟨some 6, none, .mv (.c (.int .i64 0))⟩]
abbrev x51r1 : List XOper := [
⟨some 13, none, .mv (.t 0)⟩,
⟨some 14, none, .mv (.t 1)⟩,
⟨some 15, none, .ixS (.t 13) (.t 14)⟩,
⟨some 7, none, .mv (.t 15)⟩]
abbrev x51r2 : List XOper := [
⟨some 16, none, .mv (.t 7)⟩,
⟨some 17, none, .bin .eql (.t 16) (.c (.int .u8 123))⟩,
⟨some 18, none, .mv (.t 17)⟩,
⟨some 19, some (18, false), .mv (.t 7)⟩,
⟨some 20, some (18, false), .bin .eql (.t 19) (.c (.int .u8 125))⟩,
⟨some 21, none, .pick (.t 18) (.c (.bool true)) (.t 20)⟩,
⟨some 22, none, .mv (.t 21)⟩,
⟨some 23, some (22, false), .mv (.t 7)⟩,
⟨some 24, some (22, false), .bin .eql (.t 23) (.c (.int .u8 59))⟩,
⟨some 25, none, .pick (.t 22) (.c (.bool true)) (.t 24)⟩]
abbrev x51r3 : List XOper := [
⟨some 8, none, .mv (.c (.int .i64 5))⟩]
abbrev x51r4 : List XOper := [
⟨some 26, none, .mv (.t 7)⟩,
⟨some 27, none, .bin .eql (.t 26) (.c (.int .u8 123))⟩]
abbrev x51r5 : List XOper := [
⟨some 8, none, .mv (.c (.int .i64 3))⟩]
abbrev x51r6 : List XOper := [
⟨some 28, none, .mv (.t 7)⟩,
⟨some 29, none, .bin .eql (.t 28) (.c (.int .u8 125))⟩]
abbrev x51r7 : List XOper := [
⟨some 8, none, .mv (.c (.int .i64 4))⟩]
abbrev x51r8 : List XOper := [
⟨some 30, none, .mv (.t 8)⟩,
⟨some 31, none, .mv (.t 1)⟩,
⟨some 32, none, .build [(.int .i64 0), (.str ⟨#[]⟩), (.int .i64 0), (.int .i64 0)] [(0, 1, (.t 30)), (3, 1, (.t 31))]⟩,
⟨none, none, .store 4 (.t 4) (.t 32)⟩,
⟨some 5, none, .mv (.c (.int .i64 1))⟩,
⟨some 6, none, .mv (.c (.int .i64 0))⟩]
abbrev x51r9 : List XOper := [
⟨some 33, none, .mv (.t 7)⟩,
⟨some 34, none, .bin .eql (.t 33) (.c (.int .u8 45))⟩,
⟨some 35, none, .mv (.t 34)⟩,
⟨some 36, some (35, false), .mv (.t 7)⟩,
⟨some 37, some (35, false), .call (.c (.fn (.func 78) [] [])) [(.t 36)]⟩,
⟨some 38, none, .pick (.t 35) (.c (.bool true)) (.t 37)⟩]
abbrev x51r10 : List XOper := [
⟨some 40, none, .mv (.t 0)⟩,
⟨some 41, none, .mv (.t 1)⟩,
⟨some 42, none, .call (.c (.fn (.func 79) [] [])) [(.t 40), (.t 41)]⟩,
⟨some 39, none, .mv (.t 42)⟩,
⟨some 43, none, .ext (.t 39) 0⟩,
⟨some 44, none, .ext (.t 39) 1⟩,
⟨some 45, none, .ext (.t 39) 2⟩,
⟨some 9, none, .mv (.t 43)⟩,
⟨some 10, none, .mv (.t 44)⟩,
⟨some 11, none, .mv (.t 45)⟩]
abbrev x51r11 : List XOper := [
⟨some 46, none, .mv (.t 11)⟩,
⟨some 47, none, .bin .neq (.t 46) (.c (.int .i64 0))⟩]
abbrev x51r12 : List XOper := [
⟨some 48, none, .build [(.int .i64 0), (.str ⟨#[]⟩), (.int .i64 0), (.int .i64 0)] []⟩,
⟨some 49, none, .mv (.t 11)⟩,
⟨none, none, .store 4 (.t 4) (.t 48)⟩,
⟨some 5, none, .mv (.c (.int .i64 0))⟩,
⟨some 6, none, .mv (.t 49)⟩]
abbrev x51r13 : List XOper := [
⟨some 50, none, .mv (.t 9)⟩,
⟨some 51, none, .mv (.t 1)⟩,
⟨some 52, none, .build [(.int .i64 0), (.str ⟨#[]⟩), (.int .i64 0), (.int .i64 0)] [(0, 1, (.c (.int .i64 2))), (2, 1, (.t 50)), (3, 1, (.t 51))]⟩,
⟨some 53, none, .mv (.t 10)⟩,
⟨none, none, .store 4 (.t 4) (.t 52)⟩,
⟨some 5, none, .mv (.t 53)⟩,
⟨some 6, none, .mv (.c (.int .i64 0))⟩]
abbrev x51r14 : List XOper := [
⟨some 54, none, .mv (.t 1)⟩,
⟨some 12, none, .mv (.t 54)⟩]
abbrev x51r15 : List XOper := [
⟨some 55, none, .mv (.t 12)⟩,
⟨some 56, none, .mv (.t 0)⟩,
⟨some 57, none, .lenS (.t 56)⟩,
⟨some 58, none, .bin .lss (.t 55) (.t 57)⟩,
⟨some 59, none, .mv (.t 58)⟩,
⟨some 60, some (59, true), .mv (.t 0)⟩,
⟨some 61, some (59, true), .mv (.t 12)⟩,
⟨some 62, some (59, true), .ixS (.t 60) (.t 61)⟩,
⟨some 63, some (59, true), .call (.c (.fn (.func 80) [] [])) [(.t 62)]⟩,
⟨some 64, none, .pick (.t 59) (.t 63) (.c (.bool false))⟩]
abbrev x51r16 : List XOper := [
⟨some 65, none, .mv (.t 12)⟩,
⟨some 66, none, .bin .add (.t 65) (.c (.int .i64 1))⟩,
⟨some 12, none, .mv (.t 66)⟩]
abbrev x51l15 : XCode :=
(.seq (.seq (.reg 15 x51r15 none)
(.cond (.t 64)
.skip
(.exit 0)))
(.block 1
(.reg 16 x51r16 none)))
abbrev x51r17 : List XOper := [
⟨some 67, none, .mv (.t 12)⟩,
⟨some 68, none, .mv (.t 1)⟩,
⟨some 69, none, .bin .eql (.t 67) (.t 68)⟩]
abbrev x51r18 : List XOper := [
⟨some 70, none, .build [(.int .i64 0), (.str ⟨#[]⟩), (.int .i64 0), (.int .i64 0)] []⟩,
⟨none, none, .store 4 (.t 4) (.t 70)⟩,
⟨some 5, none, .mv (.c (.int .i64 0))⟩,
⟨some 6, none, .mv (.c (.int .i64 7))⟩]
abbrev x51r19 : List XOper := [
⟨some 71, none, .mv (.t 12)⟩,
⟨some 72, none, .mv (.t 1)⟩,
⟨some 73, none, .bin .add (.t 72) (.c (.int .i64 12))⟩,
⟨some 74, none, .bin .gtr (.t 71) (.t 73)⟩]
abbrev x51r20 : List XOper := [
⟨some 75, none, .build [(.int .i64 0), (.str ⟨#[]⟩), (.int .i64 0), (.int .i64 0)] []⟩,
⟨none, none, .store 4 (.t 4) (.t 75)⟩,
⟨some 5, none, .mv (.c (.int .i64 0))⟩,
⟨some 6, none, .mv (.c (.int .i64 2))⟩]
abbrev x51r21 : List XOper := [
⟨some 76, none, .mv (.t 0)⟩,
⟨some 77, none, .mv (.t 1)⟩,
⟨some 78, none, .mv (.t 12)⟩,
⟨some 79, none, .slS (.t 76) (some (.t 77)) (some (.t 78))⟩,
⟨some 80, none, .mv (.t 1)⟩,
⟨some 81, none, .build [(.int .i64 0), (.str ⟨#[]⟩), (.int .i64 0), (.int .i64 0)] [(0, 1, (.c (.int .i64 1))), (1, 1, (.t 79)), (3, 1, (.t 80))]⟩,
⟨some 82, none, .mv (.t 12)⟩,
⟨some 83, none, .mv (.t 1)⟩,
⟨some 84, none, .bin .sub (.t 82) (.t 83)⟩,
⟨none, none, .store 4 (.t 4) (.t 81)⟩,
⟨some 5, none, .mv (.t 84)⟩,
⟨some 6, none, .mv (.c (.int .i64 0))⟩]
/-- datum/datumref07.one -/
abbrev x51b : XCode :=
(.seq (.reg 0 x51r0 none)
(.seq (.reg 1 x51r1 none)
(.seq (.seq (.reg 2 x51r2 none)
(.cond (.t 25)
(.seq (.reg 3 x51r3 none)
(.seq (.seq (.reg 4 x51r4 none)
(.cond (.t 27)
(.reg 5 x51r5 none)
.skip))
(.seq (.seq (.reg 6 x51r6 none)
(.cond (.t 29)
(.reg 7 x51r7 none)
.skip))
(.seq (.reg 8 x51r8 none)
.ret))))
.skip))
(.seq (.seq (.reg 9 x51r9 none)
(.cond (.t 38)
(.seq (.reg 10 x51r10 none)
(.seq (.seq (.reg 11 x51r11 none)
(.cond (.t 47)
(.seq (.reg 12 x51r12 none)
.ret)
.skip))
(.seq (.reg 13 x51r13 none)
.ret)))
.skip))
(.seq (.reg 14 x51r14 none)
(.seq (.block 0
(.loop x51l15))
(.seq (.seq (.reg 17 x51r17 none)
(.cond (.t 69)
(.seq (.reg 18 x51r18 none)
.ret)
.skip))
(.seq (.seq (.reg 19 x51r19 none)
(.cond (.t 74)
(.seq (.reg 20 x51r20 none)
.ret)
.skip))
(.seq (.reg 21 x51r21 none)
.ret)))))))))
def x51 : XFunc := ⟨85, 2, [.cell 4 true 4, .tmp 5, .tmp 6], x51b⟩
theorem x51_ok : chkF Tryz.prog Tryz.f51 x51 = true := by kernel_rfl
theorem x51_eq : x51.body = x51b ∧ x51.res = [.cell 4 true 4, .tmp 5, .tmp 6] ∧ x51.np = 2 := ⟨rfl, rfl, rfl⟩

abbrev x52r0 : List XOper := [
⟨some 1, none, .box (.t 0)⟩,
⟨some 2, none, .mv (.c (.str ⟨#[]⟩))⟩]
abbrev x52r1 : List XOper := [
⟨some 3, none, .fa 0 (.t 1)⟩,
⟨some 4, none, .load false 1 (.t 3)⟩,
⟨some 5, none, .bin .eql (.t 4) (.c (.int .i64 1))⟩]
abbrev x52r2 : List XOper := [
⟨some 6, none, .fa 1 (.t 1)⟩,
⟨some 7, none, .load false 1 (.t 6)⟩,
⟨some 2, none, .mv (.t 7)⟩]
abbrev x52r3 : List XOper := [
⟨some 2, none, .mv (.c (.str ⟨#[63]⟩))⟩]
/-- datum/datumref08.word -/
abbrev x52b : XCode :=
(.seq (.reg 0 x52r0 none)
(.seq (.seq (.reg 1 x52r1 none)
(.cond (.t 5)
(.seq (.reg 2 x52r2 none)
.ret)
.skip))
(.seq (.reg 3 x52r3 none)
.ret)))
def x52 : XFunc := ⟨8, 1, [.tmp 2], x52b⟩
theorem x52_ok : chkF Tryz.prog Tryz.f52 x52 = true := by kernel_rfl
theorem x52_eq : x52.body = x52b ∧ x52.res = [.tmp 2] ∧ x52.np = 1 := ⟨rfl, rfl, rfl⟩

abbrev x53r0 : List XOper := [
⟨some 4, none, .alloc [(.int .i64 0), (.str ⟨#[]⟩), (.int .i64 0), (.int .i64 0)]⟩]
abbrev x53r1 : List XOper := [
⟨some 5, none, .mv (.t 1)⟩,
⟨some 6, none, .mv (.t 0)⟩,
⟨some 7, none, .lenV (.t 6)⟩,
⟨some 8, none, .bin .lss (.t 5) (.t 7)⟩]
abbrev x53r2 : List XOper := [
⟨some 9, none, .mv (.t 0)⟩,
⟨some 10, none, .mv (.t 1)⟩,
⟨some 11, none, .iaS 4 (.t 9) (.t 10)⟩,
⟨some 12, none, .load true 4 (.t 11)⟩,
⟨none, none, .store 4 (.t 4) (.t 12)⟩]
abbrev x53r3 : List XOper := [
⟨some 13, none, .build [(.int .i64 0), (.str ⟨#[]⟩), (.int .i64 0), (.int .i64 0)] []⟩,
⟨none, none, .store 4 (.t 4) (.t 13)⟩]
/-- datum/datumref08.get -/
abbrev x53b : XCode :=
(.seq (.reg 0 x53r0 none)
(.seq (.seq (.reg 1 x53r1 none)
(.cond (.t 8)
(.seq (.reg 2 x53r2 none)
.ret)
.skip))
(.seq (.reg 3 x53r3 none)
.ret)))
def x53 : XFunc := ⟨14, 2, [.cell 4 true 4], x53b⟩
theorem x53_ok : chkF Tryz.prog Tryz.f53 x53 = true := by kernel_rfl
theorem x53_eq : x53.body = x53b ∧ x53.res = [.cell 4 true 4] ∧ x53.np = 2 := ⟨rfl, rfl, rfl⟩

abbrev x54r0 : List XOper := [
⟨some 4, none, .mv (.c (.int .i64 0))⟩]
abbrev x54r1 : List XOper := [
⟨some 7, none, .mv (.t 0)⟩,
⟨some 8, none, .lenV (.t 7)⟩,
⟨some 9, none, .mv (.c (.int .i64 0))⟩]
abbrev x54r2 : List XOper := [
⟨some 10, none, .bin .lss (.t 9) (.t 8)⟩]
abbrev x54r3 : List XOper := [
⟨some 11, none, .mv (.t 9)⟩,
⟨some 12, none, .iaS 1 (.t 7) (.t 9)⟩,
⟨some 13, none, .load false 1 (.t 12)⟩,
⟨some 5, none, .mv (.t 11)⟩,
⟨some 6, none, .mv (.t 13)⟩]
abbrev x54r4 : List XOper := [
⟨some 14, none, .mv (.t 6)⟩,
⟨some 15, none, .mv (.t 1)⟩,
⟨some 16, none, .bin .eql (.t 14) (.t 15)⟩]
abbrev x54r5 : List XOper := [
⟨some 17, none, .mv (.t 5)⟩,
⟨some 4, none, .mv (.t 17)⟩]
abbrev x54r6 : List XOper := [
⟨some 18, none, .bin .add (.t 9) (.c (.int .i64 1))⟩,
⟨some 9, none, .mv (.t 18)⟩]
abbrev x54l2 : XCode :=
(.seq (.reg 2 x54r2 none)
(.seq (.cond (.t 10)
.skip
(.exit 0))
(.seq (.block 1
(.seq (.reg 3 x54r3 none)
(.seq (.reg 4 x54r4 none)
(.cond (.t 16)
(.seq (.reg 5 x54r5 none)
.ret)
.skip))))
(.reg 6 x54r6 none))))
abbrev x54r7 : List XOper := [
⟨some 4, none, .mv (.c (.int .i64 (-1)))⟩]
/-- datum/datumref08.find -/
abbrev x54b : XCode :=
(.seq (.reg 0 x54r0 none)
(.seq (.seq (.reg 1 x54r1 none)
(.block 0
(.loop x54l2)))
(.seq (.reg 7 x54r7 none)
.ret)))
def x54 : XFunc := ⟨19, 2, [.tmp 4], x54b⟩
theorem x54_ok : chkF Tryz.prog Tryz.f54 x54 = true := by kernel_rfl
theorem x54_eq : x54.body = x54b ∧ x54.res = [.tmp 4] ∧ x54.np = 2 := ⟨rfl, rfl, rfl⟩

abbrev x55r0 : List XOper := [
⟨some 5, none, .box (.t 2)⟩,
⟨some 6, none, .alloc [(.str ⟨#[]⟩), (.int .i64 0), (.int .i64 0), (.int .i64 0), (.int .i64 0), (.int .i64 0), (.int .i64 0), (.int .i64 0), (.int .i64 0), (.int .i64 0), (.int .i64 0), (.int .i64 0), (.int .i64 0), (.int .i64 0)]⟩,
⟨some 7, none, .mv (.c (.int .i64 0))⟩,
⟨some 8, none, .mv (.c (.int .i64 0))⟩]
abbrev x55r1 : List XOper := [
⟨some 13, none, .build [(.bool false), (.bool false), (.bool false), (.bool false), (.bool false), (.bool false), (.bool false), (.bool false), (.bool false), (.bool false), (.bool false), (.bool false)] []⟩,
⟨some 9, none, .alloc [(.bool false), (.bool false), (.bool false), (.bool false), (.bool false), (.bool false), (.bool false), (.bool false), (.bool false), (.bool false), (.bool false), (.bool false)]⟩,
⟨none, none, .store 12 (.t 9) (.t 13)⟩]
abbrev x55r2 : List XOper := [
⟨some 14, none, .mv (.t 0)⟩,
⟨some 15, none, .mv (.t 1)⟩,
⟨some 16, none, .call (.c (.fn (.func 53) [] [])) [(.t 14), (.t 15)]⟩,
⟨some 17, none, .fld false 1 0 (.t 16)⟩,
⟨some 18, none, .bin .neq (.t 17) (.c (.int .i64 4))⟩]
abbrev x55r3 : List XOper := [
⟨some 19, none, .call (.c (.fn (.func 32) [] [])) []⟩,
⟨some 20, none, .mv (.t 0)⟩,
⟨some 21, none, .mv (.t 1)⟩,
⟨some 22, none, .call (.c (.fn (.func 53) [] [])) [(.t 20), (.t 21)]⟩,
⟨some 23, none, .call (.c (.fn (.func 52) [] [])) [(.t 22)]⟩,
⟨some 24, none, .call (.c (.fn (.func 54) [] [])) [(.t 19), (.t 23)]⟩,
⟨some 10, none, .mv (.t 24)⟩]
abbrev x55r4 : List XOper := [
⟨some 25, none, .mv (.t 10)⟩,
⟨some 26, none, .bin .lss (.t 25) (.c (.int .i64 0))⟩,
⟨some 27, none, .mv (.t 26)⟩,
⟨some 28, some (27, false), .fa 1 (.t 5)⟩,
⟨some 29, some (27, false), .load false 1 (.t 28)⟩,
⟨some 30, some (27, false), .mv (.t 10)⟩,
⟨some 31, some (27, false), .call (.c (.fn (.func 63) [] [])) [(.t 29), (.t 30)]⟩,
⟨some 32, some (27, false), .un .not (.t 31)⟩,
⟨some 33, none, .pick (.t 27) (.c (.bool true)) (.t 32)⟩]
abbrev x55r5 : List XOper := [
⟨some 34, none, .load true 14 (.t 5)⟩,
⟨some 35, none, .mv (.t 1)⟩,
⟨none, none, .store 14 (.t 6) (.t 34)⟩,
⟨some 7, none, .mv (.t 35)⟩,
⟨some 8, none, .mv (.c (.int .i64 8))⟩]
abbrev x55r6 : List XOper := [
⟨some 36, none, .mv (.t 10)⟩,
⟨some 37, none, .iaA 12 1 (.t 9) (.t 36)⟩,
⟨some 38, none, .load false 1 (.t 37)⟩]
abbrev x55r7 : List XOper := [
⟨some 39, none, .load true 14 (.t 5)⟩,
⟨some 40, none, .mv (.t 1)⟩,
⟨none, none, .store 14 (.t 6) (.t 39)⟩,
⟨some 7, none, .mv (.t 40)⟩,
⟨some 8, none, .mv (.c (.int .i64 9))⟩]
abbrev x55r8 : List XOper := [
⟨some 41, none, .mv (.t 10)⟩,
⟨some 42, none, .iaA 12 1 (.t 9) (.t 41)⟩,
⟨none, none, .store 1 (.t 42) (.c (.bool true))⟩]
abbrev x55r9 : List XOper := [
⟨some 43, none, .mv (.t 0)⟩,
⟨some 44, none, .mv (.t 1)⟩,
⟨some 45, none, .bin .add (.t 44) (.c (.int .i64 1))⟩,
⟨some 46, none, .call (.c (.fn (.func 53) [] [])) [(.t 43), (.t 45)]⟩,
⟨some 11, none, .alloc [(.int .i64 0), (.str ⟨#[]⟩), (.int .i64 0), (.int .i64 0)]⟩,
⟨none, none, .store 4 (.t 11) (.t 46)⟩]
abbrev x55r10 : List XOper := [
⟨some 47, none, .fa 0 (.t 11)⟩,
⟨some 48, none, .load false 1 (.t 47)⟩,
⟨some 49, none, .bin .neq (.t 48) (.c (.int .i64 2))⟩]
abbrev x55r11 : List XOper := [
⟨some 50, none, .load true 14 (.t 5)⟩,
⟨some 51, none, .mv (.t 1)⟩,
⟨some 52, none, .bin .add (.t 51) (.c (.int .i64 1))⟩,
⟨none, none, .store 14 (.t 6) (.t 50)⟩,
⟨some 7, none, .mv (.t 52)⟩,
⟨some 8, none, .mv (.c (.int .i64 8))⟩]
abbrev x55r12 : List XOper := [
⟨some 53, none, .fa 1 (.t 5)⟩,
⟨some 54, none, .load false 1 (.t 53)⟩,
⟨some 55, none, .mv (.t 10)⟩,
⟨some 56, none, .fa 2 (.t 11)⟩,
⟨some 57, none, .load false 1 (.t 56)⟩,
⟨some 58, none, .call (.c (.fn (.func 62) [] [])) [(.t 54), (.t 55), (.t 57)]⟩,
⟨some 59, none, .un .not (.t 58)⟩]
abbrev x55r13 : List XOper := [
⟨some 60, none, .load true 14 (.t 5)⟩,
⟨some 61, none, .mv (.t 1)⟩,
⟨some 62, none, .bin .add (.t 61) (.c (.int .i64 1))⟩,
⟨none, none, .store 14 (.t 6) (.t 60)⟩,
⟨some 7, none, .mv (.t 62)⟩,
⟨some 8, none, .mv (.c (.int .i64 3))⟩]
abbrev x55r14 : List XOper := [
⟨some 63, none, .mv (.t 0)⟩,
⟨some 64, none, .mv (.t 1)⟩,
⟨some 65, none, .bin .add (.t 64) (.c (.int .i64 2))⟩,
⟨some 66, none, .call (.c (.fn (.func 53) [] [])) [(.t 63), (.t 65)]⟩,
⟨some 67, none, .fld false 1 0 (.t 66)⟩,
⟨some 68, none, .bin .neq (.t 67) (.c (.int .i64 5))⟩]
abbrev x55r15 : List XOper := [
⟨some 69, none, .load true 14 (.t 5)⟩,
⟨some 70, none, .mv (.t 1)⟩,
⟨some 71, none, .bin .add (.t 70) (.c (.int .i64 2))⟩,
⟨none, none, .store 14 (.t 6) (.t 69)⟩,
⟨some 7, none, .mv (.t 71)⟩,
⟨some 8, none, .mv (.c (.int .i64 8))⟩]
abbrev x55r16 : List XOper := [
⟨some 72, none, .load true 14 (.t 5)⟩,
⟨some 73, none, .mv (.t 10)⟩,
⟨some 74, none, .fa 2 (.t 11)⟩,
⟨some 75, none, .load false 1 (.t 74)⟩,
⟨some 76, none, .call (.c (.fn (.func 81) [] [])) [(.t 72), (.t 73), (.t 75)]⟩,
⟨none, none, .store 14 (.t 5) (.t 76)⟩]
abbrev x55r17 : List XOper := [
⟨some 77, none, .mv (.t 1)⟩,
⟨some 78, none, .bin .add (.t 77) (.c (.int .i64 3))⟩,
⟨some 1, none, .mv (.t 78)⟩]
abbrev x55l2 : XCode :=
(.seq (.seq (.reg 2 x55r2 none)
(.cond (.t 18)
.skip
(.exit 0)))
(.block 1
(.seq (.reg 3 x55r3 none)
(.seq (.seq (.reg 4 x55r4 none)
(.cond (.t 33)
(.seq (.reg 5 x55r5 none)
.ret)
.skip))
(.seq (.seq (.reg 6 x55r6 none)
(.cond (.t 38)
(.seq (.reg 7 x55r7 none)
.ret)
.skip))
(.seq (.reg 8 x55r8 none)
(.seq (.reg 9 x55r9 none)
(.seq (.seq (.reg 10 x55r10 none)
(.cond (.t 49)
(.seq (.reg 11 x55r11 none)
.ret)
.skip))
(.seq (.seq (.reg 12 x55r12 none)
(.cond (.t 59)
(.seq (.reg 13 x55r13 none)
.ret)
.skip))
(.seq (.seq (.reg 14 x55r14 none)
(.cond (.t 68)
(.seq (.reg 15 x55r15 none)
.ret)
.skip))
(.seq (.reg 16 x55r16 none)
(.reg 17 x55r17 none))))))))))))
abbrev x55r18 : List XOper := [
⟨some 12, none, .mv (.c (.int .i64 0))⟩]
abbrev x55r19 : List XOper := [
⟨some 79, none, .mv (.t 12)⟩,
⟨some 80, none, .bin .lss (.t 79) (.c (.int .i64 10))⟩]
abbrev x55r21 : List XOper := [
⟨some 83, none, .fa 1 (.t 5)⟩,
⟨some 84, none, .load false 1 (.t 83)⟩,
⟨some 85, none, .mv (.t 12)⟩,
⟨some 86, none, .call (.c (.fn (.func 33) [] [])) [(.t 84), (.t 85)]⟩,
⟨some 87, none, .mv (.t 86)⟩,
⟨some 88, some (87, true), .mv (.t 12)⟩,
⟨some 89, some (87, true), .iaA 12 1 (.t 9) (.t 88)⟩,
⟨some 90, some (87, true), .load false 1 (.t 89)⟩,
⟨some 91, some (87, true), .un .not (.t 90)⟩,
⟨some 92, none, .pick (.t 87) (.t 91) (.c (.bool false))⟩]
abbrev x55r22 : List XOper := [
⟨some 93, none, .load true 14 (.t 5)⟩,
⟨some 94, none, .mv (.t 1)⟩,
⟨none, none, .store 14 (.t 6) (.t 93)⟩,
⟨some 7, none, .mv (.t 94)⟩,
⟨some 8, none, .mv (.c (.int .i64 10))⟩]
abbrev x55r20 : List XOper := [
⟨some 81, none, .mv (.t 12)⟩,
⟨some 82, none, .bin .add (.t 81) (.c (.int .i64 1))⟩,
⟨some 12, none, .mv (.t 82)⟩]
abbrev x55l20 : XCode :=
(.seq (.seq (.reg 19 x55r19 none)
(.cond (.t 80)
.skip
(.exit 2)))
(.seq (.block 3
(.seq (.reg 21 x55r21 none)
(.cond (.t 92)
(.seq (.reg 22 x55r22 none)
.ret)
.skip)))
(.reg 20 x55r20 none)))
abbrev x55r23 : List XOper := [
⟨some 95, none, .iaA 12 1 (.t 9) (.c (.int .i64 10))⟩,
⟨some 96, none, .load false 1 (.t 95)⟩,
⟨some 97, none, .iaA 12 1 (.t 9) (.c (.int .i64 11))⟩,
⟨some 98, none, .load false 1 (.t 97)⟩,
⟨some 99, none, .eqB true (.t 96) (.t 98)⟩]
abbrev x55r24 : List XOper := [
⟨some 100, none, .load true 14 (.t 5)⟩,
⟨some 101, none, .mv (.t 1)⟩,
⟨none, none, .store 14 (.t 6) (.t 100)⟩,
⟨some 7, none, .mv (.t 101)⟩,
⟨some 8, none, .mv (.c (.int .i64 10))⟩]
abbrev x55r25 : List XOper := [
⟨some 102, none, .fa 1 (.t 5)⟩,
⟨some 103, none, .load false 1 (.t 102)⟩,
⟨some 104, none, .call (.c (.fn (.func 33) [] [])) [(.t 103), (.c (.int .i64 1))]⟩,
⟨some 105, none, .mv (.t 104)⟩,
⟨some 106, some (105, true), .fa 3 (.t 5)⟩,
⟨some 107, some (105, true), .load false 1 (.t 106)⟩,
⟨some 108, some (105, true), .fa 4 (.t 5)⟩,
⟨some 109, some (105, true), .load false 1 (.t 108)⟩,
⟨some 110, some (105, true), .bin .geq (.t 107) (.t 109)⟩,
⟨some 111, none, .pick (.t 105) (.t 110) (.c (.bool false))⟩,
⟨some 112, none, .mv (.t 111)⟩,
⟨some 113, some (112, false), .iaA 12 1 (.t 9) (.c (.int .i64 10))⟩,
⟨some 114, some (112, false), .load false 1 (.t 113)⟩,
⟨some 115, some (112, false), .mv (.t 114)⟩,
⟨some 116, some (115, true), .fa 12 (.t 5)⟩,
⟨some 117, some (115, true), .load false 1 (.t 116)⟩,
⟨some 118, some (115, true), .fa 13 (.t 5)⟩,
⟨some 119, some (115, true), .load false 1 (.t 118)⟩,
⟨some 120, some (115, true), .bin .geq (.t 117) (.t 119)⟩,
⟨some 121, some (112, false), .pick (.t 115) (.t 120) (.c (.bool false))⟩,
⟨some 122, none, .pick (.t 112) (.c (.bool true)) (.t 121)⟩]
abbrev x55r26 : List XOper := [
⟨some 123, none, .load true 14 (.t 5)⟩,
⟨some 124, none, .mv (.t 1)⟩,
⟨none, none, .store 14 (.t 6) (.t 123)⟩,
⟨some 7, none, .mv (.t 124)⟩,
⟨some 8, none, .mv (.c (.int .i64 3))⟩]
abbrev x55r27 : List XOper := [
⟨some 125, none, .load true 14 (.t 5)⟩,
⟨some 126, none, .mv (.t 1)⟩,
⟨some 127, none, .bin .add (.t 126) (.c (.int .i64 1))⟩,
⟨none, none, .store 14 (.t 6) (.t 125)⟩,
⟨some 7, none, .mv (.t 127)⟩,
⟨some 8, none, .mv (.c (.int .i64 0))⟩]
/-- datum/datumref08.fields -/
abbrev x55b : XCode :=
(.seq (.reg 0 x55r0 none)
(.seq (.reg 1 x55r1 none)
(.seq (.block 0
(.loop x55l2))
(.seq (.seq (.reg 18 x55r18 none)
(.block 2
(.loop x55l20)))
(.seq (.seq (.reg 23 x55r23 none)
(.cond (.t 99)
(.seq (.reg 24 x55r24 none)
.ret)
.skip))
(.seq (.seq (.reg 25 x55r25 none)
(.cond (.t 122)
(.seq (.reg 26 x55r26 none)
.ret)
.skip))
(.seq (.reg 27 x55r27 none)
.ret)))))))
def x55 : XFunc := ⟨128, 3, [.cell 6 true 14, .tmp 7, .tmp 8], x55b⟩
theorem x55_ok : chkF Tryz.prog Tryz.f55 x55 = true := by kernel_rfl
theorem x55_eq : x55.body = x55b ∧ x55.res = [.cell 6 true 14, .tmp 7, .tmp 8] ∧ x55.np = 3 := ⟨rfl, rfl, rfl⟩

abbrev x58r0 : List XOper := [
⟨some 1, none, .box (.t 0)⟩,
⟨some 2, none, .mv (.c (.bool false))⟩]
abbrev x58r1 : List XOper := [
⟨some 3, none, .fa 0 (.t 1)⟩,
⟨some 4, none, .load false 1 (.t 3)⟩]
abbrev x58r2 : List XOper := [
⟨some 6, none, .bin .eql (.t 4) (.c (.int .i64 1))⟩,
⟨some 5, none, .mv (.t 6)⟩]
abbrev x58r3 : List XOper := [
⟨some 7, none, .fa 1 (.t 1)⟩,
⟨some 8, none, .load false 1 (.t 7)⟩,
⟨some 9, none, .call (.c (.fn (.func 84) [] [])) [(.t 8)]⟩,
⟨some 10, none, .mv (.t 9)⟩,
⟨some 11, some (10, true), .fa 2 (.t 1)⟩,
⟨some 12, some (10, true), .load false 1 (.t 11)⟩,
⟨some 13, some (10, true), .bin .eql (.t 12) (.c (.int .i64 0))⟩,
⟨some 14, none, .pick (.t 10) (.t 13) (.c (.bool false))⟩,
⟨some 2, none, .mv (.t 14)⟩]
abbrev x58r4 : List XOper := [
⟨some 16, none, .bin .eql (.t 4) (.c (.int .i64 2))⟩,
⟨some 15, none, .mv (.t 16)⟩]
abbrev x58r5 : List XOper := [
⟨some 17, none, .fa 1 (.t 1)⟩,
⟨some 18, none, .load false 1 (.t 17)⟩,
⟨some 19, none, .bin .eql (.t 18) (.c (.str ⟨#[]⟩))⟩,
⟨some 20, none, .mv (.t 19)⟩,
⟨some 21, some (20, true), .fa 2 (.t 1)⟩,
⟨some 22, some (20, true), .load false 1 (.t 21)⟩,
⟨some 23, some (20, true), .call (.c (.fn (.func 85) [] [])) [(.t 22)]⟩,
⟨some 24, none, .pick (.t 20) (.t 23) (.c (.bool false))⟩,
⟨some 2, none, .mv (.t 24)⟩]
abbrev x58r6 : List XOper := [
⟨some 26, none, .bin .eql (.t 4) (.c (.int .i64 3))⟩,
⟨some 25, none, .mv (.t 26)⟩]
abbrev x58r7 : List XOper := [
⟨some 27, none, .bin .eql (.t 4) (.c (.int .i64 4))⟩,
⟨some 25, none, .mv (.t 27)⟩]
abbrev x58r8 : List XOper := [
⟨some 28, none, .bin .eql (.t 4) (.c (.int .i64 5))⟩,
⟨some 25, none, .mv (.t 28)⟩]
abbrev x58r9 : List XOper := [
⟨some 29, none, .fa 1 (.t 1)⟩,
⟨some 30, none, .load false 1 (.t 29)⟩,
⟨some 31, none, .bin .eql (.t 30) (.c (.str ⟨#[]⟩))⟩,
⟨some 32, none, .mv (.t 31)⟩,
⟨some 33, some (32, true), .fa 2 (.t 1)⟩,
⟨some 34, some (32, true), .load false 1 (.t 33)⟩,
⟨some 35, some (32, true), .bin .eql (.t 34) (.c (.int .i64 0))⟩,
⟨some 36, none, .pick (.t 32) (.t 35) (.c (.bool false))⟩,
⟨some 2, none, .mv (.t 36)⟩]
abbrev x58r10 : List XOper := [
⟨some 2, none, .mv (.c (.bool false))⟩]
/-- datum/token.Right -/
abbrev x58b : XCode :=
(.seq (.reg 0 x58r0 none)
(.seq (.seq (.reg 1 x58r1 none)
(.block 0
(.seq (.reg 2 x58r2 none)
(.cond (.t 5)
(.seq (.reg 3 x58r3 none)
.ret)
(.seq (.reg 4 x58r4 none)
(.cond (.t 15)
(.seq (.reg 5 x58r5 none)
.ret)
(.seq (.seq (.reg 6 x58r6 none)
(.cond (.t 25)
.skip
(.seq (.reg 7 x58r7 none)
(.cond (.t 25)
.skip
(.reg 8 x58r8 none)))))
(.cond (.t 25)
(.seq (.reg 9 x58r9 none)
.ret)
.skip))))))))
(.seq (.reg 10 x58r10 none)
.ret)))
def x58 : XFunc := ⟨37, 1, [.tmp 2], x58b⟩
theorem x58_ok : chkF Tryz.prog Tryz.f58 x58 = true := by kernel_rfl
theorem x58_eq : x58.body = x58b ∧ x58.res = [.tmp 2] ∧ x58.np = 1 := ⟨rfl, rfl, rfl⟩

abbrev x59r0 : List XOper := [
⟨some 2, none, .mv (.c (.bool false))⟩]
abbrev x59r1 : List XOper := [
⟨some 3, none, .mv (.t 0)⟩,
⟨some 4, none, .bin .eql (.t 3) (.c (.int .i64 0))⟩,
⟨some 5, none, .mv (.t 4)⟩,
⟨some 6, some (5, false), .mv (.t 0)⟩,
⟨some 7, some (5, false), .bin .eql (.t 6) (.c (.int .i64 1))⟩,
⟨some 8, none, .pick (.t 5) (.c (.bool true)) (.t 7)⟩,
⟨some 2, none, .mv (.t 8)⟩]
/-- datum/recipe.optional -/
abbrev x59b : XCode :=
(.seq (.reg 0 x59r0 none)
(.seq (.reg 1 x59r1 none)
.ret))
def x59 : XFunc := ⟨9, 1, [.tmp 2], x59b⟩
theorem x59_ok : chkF Tryz.prog Tryz.f59 x59 = true := by kernel_rfl
theorem x59_eq : x59.body = x59b ∧ x59.res = [.tmp 2] ∧ x59.np = 1 := ⟨rfl, rfl, rfl⟩

abbrev x60r0 : List XOper := [
⟨some 3, none, .box (.t 0)⟩,
⟨some 6, none, .mv (.c (.bool false))⟩]
abbrev x60r1 : List XOper := [
⟨some 7, none, .fa 0 (.t 3)⟩,
⟨some 8, none, .load false 1 (.t 7)⟩,
⟨some 9, none, .bin .eql (.t 8) (.c (.str ⟨#[115, 105, 122, 101]⟩))⟩,
⟨some 10, none, .mv (.t 9)⟩,
⟨some 11, some (10, true), .mv (.t 1)⟩,
⟨some 12, some (10, true), .bin .eql (.t 11) (.c (.int .i64 0))⟩,
⟨some 13, none, .pick (.t 10) (.t 12) (.c (.bool false))⟩]
abbrev x60r2 : List XOper := [
⟨some 14, none, .mv (.t 2)⟩,
⟨some 15, none, .bin .geq (.t 14) (.c (.int .i64 2))⟩,
⟨some 16, none, .mv (.t 15)⟩,
⟨some 17, some (16, true), .mv (.t 2)⟩,
⟨some 18, some (16, true), .bin .leq (.t 17) (.c (.int .i64 10))⟩,
⟨some 19, none, .pick (.t 16) (.t 18) (.c (.bool false))⟩,
⟨some 6, none, .mv (.t 19)⟩]
abbrev x60r3 : List XOper := [
⟨some 20, none, .mv (.t 2)⟩,
⟨some 21, none, .fa 1 (.t 3)⟩,
⟨some 22, none, .load false 1 (.t 21)⟩,
⟨some 23, none, .bin .geq (.t 20) (.t 22)⟩,
⟨some 24, none, .mv (.t 23)⟩,
⟨some 25, some (24, true), .mv (.t 2)⟩,
⟨some 26, some (24, true), .fa 2 (.t 3)⟩,
⟨some 27, some (24, true), .load false 1 (.t 26)⟩,
⟨some 28, some (24, true), .bin .leq (.t 25) (.t 27)⟩,
⟨some 29, none, .pick (.t 24) (.t 28) (.c (.bool false))⟩,
⟨some 6, none, .mv (.t 29)⟩]
/-- (datum/recipe.bound).within -/
abbrev x60b : XCode :=
(.seq (.reg 0 x60r0 none)
(.seq (.seq (.reg 1 x60r1 none)
(.cond (.t 13)
(.seq (.reg 2 x60r2 none)
.ret)
.skip))
(.seq (.reg 3 x60r3 none)
.ret)))
def x60 : XFunc := ⟨30, 3, [.tmp 6], x60b⟩
theorem x60_ok : chkF Tryz.prog Tryz.f60 x60 = true := by kernel_rfl
theorem x60_eq : x60.body = x60b ∧ x60.res = [.tmp 6] ∧ x60.np = 3 := ⟨rfl, rfl, rfl⟩

abbrev x61r0 : List XOper := [
⟨some 2, none, .mv (.c (.bool false))⟩]
abbrev x61r1 : List XOper := [
⟨some 3, none, .mv (.c (.int .i64 0))⟩]
abbrev x61r2 : List XOper := [
⟨some 4, none, .mv (.t 3)⟩,
⟨some 5, none, .mv (.t 0)⟩,
⟨some 6, none, .lenS (.t 5)⟩,
⟨some 7, none, .bin .lss (.t 4) (.t 6)⟩]
abbrev x61r4 : List XOper := [
⟨some 10, none, .mv (.t 0)⟩,
⟨some 11, none, .mv (.t 3)⟩,
⟨some 12, none, .ixS (.t 10) (.t 11)⟩,
⟨some 13, none, .call (.c (.fn (.func 80) [] [])) [(.t 12)]⟩,
⟨some 14, none, .un .not (.t 13)⟩]
abbrev x61r5 : List XOper := [
⟨some 2, none, .mv (.c (.bool false))⟩]
abbrev x61r3 : List XOper := [
⟨some 8, none, .mv (.t 3)⟩,
⟨some 9, none, .bin .add (.t 8) (.c (.int .i64 1))⟩,
⟨some 3, none, .mv (.t 9)⟩]
abbrev x61l2 : XCode :=
(.seq (.seq (.reg 2 x61r2 none)
(.cond (.t 7)
.skip
(.exit 0)))
(.seq (.block 1
(.seq (.reg 4 x61r4 none)
(.cond (.t 14)
(.seq (.reg 5 x61r5 none)
.ret)
.skip)))
(.reg 3 x61r3 none)))
abbrev x61r6 : List XOper := [
⟨some 15, none, .mv (.t 0)⟩,
⟨some 16, none, .lenS (.t 15)⟩,
⟨some 17, none, .bin .geq (.t 16) (.c (.int .i64 1))⟩,
⟨some 18, none, .mv (.t 17)⟩,
⟨some 19, some (18, true), .mv (.t 0)⟩,
⟨some 20, some (18, true), .lenS (.t 19)⟩,
⟨some 21, some (18, true), .bin .leq (.t 20) (.c (.int .i64 12))⟩,
⟨some 22, none, .pick (.t 18) (.t 21) (.c (.bool false))⟩,
⟨some 2, none, .mv (.t 22)⟩]
/-- datum/datumref07.Word -/
abbrev x61b : XCode :=
(.seq (.reg 0 x61r0 none)
(.seq (.seq (.reg 1 x61r1 none)
(.block 0
(.loop x61l2)))
(.seq (.reg 6 x61r6 none)
.ret)))
def x61 : XFunc := ⟨23, 1, [.tmp 2], x61b⟩
theorem x61_ok : chkF Tryz.prog Tryz.f61 x61 = true := by kernel_rfl
theorem x61_eq : x61.body = x61b ∧ x61.res = [.tmp 2] ∧ x61.np = 1 := ⟨rfl, rfl, rfl⟩

abbrev x62r0 : List XOper := [
⟨some 6, none, .mv (.c (.bool false))⟩]
abbrev x62r1 : List XOper := [
⟨some 9, none, .mkslice 1 (.int .i64 0) 12 [(0, (.c (.int .i64 1))), (1, (.c (.int .i64 (-1000000)))), (2, (.c (.int .i64 (-1000000)))), (3, (.c (.int .i64 2))), (4, (.c (.int .i64 1))), (5, (.c (.int .i64 (-1000000)))), (6, (.c (.int .i64 0))), (7, (.c (.int .i64 1))), (8, (.c (.int .i64 1))), (9, (.c (.int .i64 1))), (10, (.c (.int .i64 (-1000000)))), (11, (.c (.int .i64 (-1000000))))]⟩,
⟨some 10, none, .mv (.t 1)⟩,
⟨some 11, none, .iaS 1 (.t 9) (.t 10)⟩,
⟨some 12, none, .load false 1 (.t 11)⟩,
⟨some 7, none, .mv (.t 12)⟩]
abbrev x62r2 : List XOper := [
⟨some 13, none, .mkslice 1 (.int .i64 0) 12 [(0, (.c (.int .i64 1000))), (1, (.c (.int .i64 1000000))), (2, (.c (.int .i64 1000000))), (3, (.c (.int .i64 25))), (4, (.c (.int .i64 1000000000))), (5, (.c (.int .i64 1000000))), (6, (.c (.int .i64 1000000))), (7, (.c (.int .i64 1000000000))), (8, (.c (.int .i64 99))), (9, (.c (.int .i64 1000000))), (10, (.c (.int .i64 1000000))), (11, (.c (.int .i64 1000000)))]⟩,
⟨some 14, none, .mv (.t 1)⟩,
⟨some 15, none, .iaS 1 (.t 13) (.t 14)⟩,
⟨some 16, none, .load false 1 (.t 15)⟩,
⟨some 8, none, .mv (.t 16)⟩]
abbrev x62r3 : List XOper := [
⟨some 17, none, .mv (.t 1)⟩,
⟨some 18, none, .bin .eql (.t 17) (.c (.int .i64 0))⟩,
⟨some 19, none, .mv (.t 18)⟩,
⟨some 20, some (19, true), .mv (.t 0)⟩,
⟨some 21, some (19, true), .bin .eql (.t 20) (.c (.int .i64 0))⟩,
⟨some 22, none, .pick (.t 19) (.t 21) (.c (.bool false))⟩]
abbrev x62r4 : List XOper := [
⟨some 7, none, .mv (.c (.int .i64 2))⟩]
abbrev x62r5 : List XOper := [
⟨some 8, none, .mv (.c (.int .i64 10))⟩]
abbrev x62r6 : List XOper := [
⟨some 23, none, .mv (.t 2)⟩,
⟨some 24, none, .mv (.t 7)⟩,
⟨some 25, none, .bin .geq (.t 23) (.t 24)⟩,
⟨some 26, none, .mv (.t 25)⟩,
⟨some 27, some (26, true), .mv (.t 2)⟩,
⟨some 28, some (26, true), .mv (.t 8)⟩,
⟨some 29, some (26, true), .bin .leq (.t 27) (.t 28)⟩,
⟨some 30, none, .pick (.t 26) (.t 29) (.c (.bool false))⟩,
⟨some 6, none, .mv (.t 30)⟩]
/-- datum/datumref08.within -/
abbrev x62b : XCode :=
(.seq (.reg 0 x62r0 none)
(.seq (.reg 1 x62r1 none)
(.seq (.reg 2 x62r2 none)
(.seq (.seq (.reg 3 x62r3 none)
(.cond (.t 22)
(.seq (.reg 4 x62r4 none)
(.reg 5 x62r5 none))
.skip))
(.seq (.reg 6 x62r6 none)
.ret)))))
def x62 : XFunc := ⟨31, 3, [.tmp 6], x62b⟩
theorem x62_ok : chkF Tryz.prog Tryz.f62 x62 = true := by kernel_rfl
theorem x62_eq : x62.body = x62b ∧ x62.res = [.tmp 6] ∧ x62.np = 3 := ⟨rfl, rfl, rfl⟩

abbrev x63r0 : List XOper := [
⟨some 4, none, .mv (.c (.bool false))⟩]
abbrev x63r1 : List XOper := [
⟨some 5, none, .mv (.t 0)⟩,
⟨some 6, none, .mv (.t 1)⟩,
⟨some 7, none, .call (.c (.fn (.func 33) [] [])) [(.t 5), (.t 6)]⟩,
⟨some 8, none, .mv (.t 7)⟩,
⟨some 9, some (8, false), .mv (.t 0)⟩,
⟨some 10, some (8, false), .bin .leq (.t 9) (.c (.int .i64 1))⟩,
⟨some 11, some (8, false), .mv (.t 10)⟩,
⟨some 12, some (11, true), .mv (.t 1)⟩,
⟨some 13, some (11, true), .bin .geq (.t 12) (.c (.int .i64 10))⟩,
⟨some 14, some (8, false), .pick (.t 11) (.t 13) (.c (.bool false))⟩,
⟨some 15, none, .pick (.t 8) (.c (.bool true)) (.t 14)⟩,
⟨some 4, none, .mv (.t 15)⟩]
/-- datum/datumref08.may -/
abbrev x63b : XCode :=
(.seq (.reg 0 x63r0 none)
(.seq (.reg 1 x63r1 none)
.ret))
def x63 : XFunc := ⟨16, 2, [.tmp 4], x63b⟩
theorem x63_ok : chkF Tryz.prog Tryz.f63 x63 = true := by kernel_rfl
theorem x63_eq : x63.body = x63b ∧ x63.res = [.tmp 4] ∧ x63.np = 2 := ⟨rfl, rfl, rfl⟩

abbrev x64r0 : List XOper := [
⟨some 2, none, .mv (.c (.str ⟨#[]⟩))⟩]
abbrev x64r1 : List XOper := [
⟨some 4, none, .mkslice 1 (.str ⟨#[]⟩) 8 [(0, (.c (.str ⟨#[49, 49, 49, 49, 49, 48, 48, 48, 48, 48, 48, 48]⟩))), (1, (.c (.str ⟨#[48, 49, 49, 49, 49, 48, 48, 48, 48, 48, 48, 48]⟩))), (2, (.c (.str ⟨#[49, 48, 48, 49, 49, 48, 48, 48, 48, 48, 48, 48]⟩))), (3, (.c (.str ⟨#[49, 48, 48, 49, 49, 48, 48, 48, 48, 48, 48, 48]⟩))), (4, (.c (.str ⟨#[48, 48, 48, 49, 49, 48, 48, 48, 48, 48, 48, 48]⟩))), (5, (.c (.str ⟨#[49, 48, 48, 49, 49, 48, 48, 48, 48, 48, 48, 48]⟩))), (6, (.c (.str ⟨#[48, 49, 49, 48, 49, 49, 49, 49, 48, 48, 48, 48]⟩))), (7, (.c (.str ⟨#[48, 49, 49, 48, 49, 49, 48, 48, 49, 49, 48, 48]⟩)))]⟩,
⟨some 3, none, .mv (.t 4)⟩]
abbrev x64r2 : List XOper := [
⟨some 5, none, .mv (.t 3)⟩,
⟨some 6, none, .mv (.t 0)⟩,
⟨some 7, none, .iaS 1 (.t 5) (.t 6)⟩,
⟨some 8, none, .load false 1 (.t 7)⟩,
⟨some 2, none, .mv (.t 8)⟩]
/-- datum/datumref08.needs -/
abbrev x64b : XCode :=
(.seq (.reg 0 x64r0 none)
(.seq (.reg 1 x64r1 none)
(.seq (.reg 2 x64r2 none)
.ret)))
def x64 : XFunc := ⟨9, 1, [.tmp 2], x64b⟩
theorem x64_ok : chkF Tryz.prog Tryz.f64 x64 = true := by kernel_rfl
theorem x64_eq : x64.body = x64b ∧ x64.res = [.tmp 2] ∧ x64.np = 1 := ⟨rfl, rfl, rfl⟩

abbrev x65r0 : List XOper := [
⟨some 2, none, .mv (.c (.str ⟨#[]⟩))⟩]
abbrev x65r1 : List XOper := [
⟨some 3, none, .mv (.t 0)⟩,
⟨some 4, none, .bin .lss (.t 3) (.c (.int .u64 10))⟩]
abbrev x65r2 : List XOper := [
⟨some 5, none, .mv (.t 0)⟩,
⟨some 6, none, .bin .add (.c (.int .u64 48)) (.t 5)⟩,
⟨some 7, none, .conv .u8 (.t 6)⟩,
⟨some 8, none, .mkslice 1 (.int .u8 0) 1 [(0, (.t 7))]⟩,
⟨some 9, none, .b2s (.t 8)⟩,
⟨some 2, none, .mv (.t 9)⟩]
abbrev x65r3 : List XOper := [
⟨some 10, none, .mv (.t 0)⟩,
⟨some 11, none, .bin .quo (.t 10) (.c (.int .u64 10))⟩,
⟨some 12, none, .call (.c (.fn (.func 65) [] [])) [(.t 11)]⟩,
⟨some 13, none, .mv (.t 0)⟩,
⟨some 14, none, .bin .rem (.t 13) (.c (.int .u64 10))⟩,
⟨some 15, none, .call (.c (.fn (.func 65) [] [])) [(.t 14)]⟩,
⟨some 16, none, .bin .add (.t 12) (.t 15)⟩,
⟨some 2, none, .mv (.t 16)⟩]
/-- datum/datumref07.natural -/
abbrev x65b : XCode :=
(.seq (.reg 0 x65r0 none)
(.seq (.seq (.reg 1 x65r1 none)
(.cond (.t 4)
(.seq (.reg 2 x65r2 none)
.ret)
.skip))
(.seq (.reg 3 x65r3 none)
.ret)))
def x65 : XFunc := ⟨17, 1, [.tmp 2], x65b⟩
theorem x65_ok : chkF Tryz.prog Tryz.f65 x65 = true := by kernel_rfl
theorem x65_eq : x65.body = x65b ∧ x65.res = [.tmp 2] ∧ x65.np = 1 := ⟨rfl, rfl, rfl⟩

abbrev x66r0 : List XOper := [
⟨some 4, none, .mv (.c (.bool false))⟩]
abbrev x66r1 : List XOper := [
⟨some 5, none, .mv (.t 1)⟩,
⟨some 6, none, .bin .neq (.t 5) (.c (.int .u8 10))⟩,
⟨some 4, none, .mv (.t 6)⟩]
/-- (*datum/token.text).inLine -/
abbrev x66b : XCode :=
(.seq (.reg 0 x66r0 none)
(.seq (.reg 1 x66r1 none)
.ret))
def x66 : XFunc := ⟨7, 2, [.tmp 4], x66b⟩
theorem x66_ok : chkF Tryz.prog Tryz.f66 x66 = true := by kernel_rfl
theorem x66_eq : x66.body = x66b ∧ x66.res = [.tmp 4] ∧ x66.np = 2 := ⟨rfl, rfl, rfl⟩

abbrev x67r0 : List XOper := [
⟨some 4, none, .mv (.c (.str ⟨#[]⟩))⟩]
abbrev x67r1 : List XOper := [
⟨some 6, none, .mv (.t 0)⟩,
⟨some 7, none, .nilChk (.t 6)⟩,
⟨some 8, none, .fa 1 (.t 7)⟩,
⟨some 9, none, .load false 1 (.t 8)⟩,
⟨some 5, none, .mv (.t 9)⟩]
abbrev x67r2 : List XOper := [
⟨some 10, none, .mv (.t 0)⟩,
⟨some 11, none, .nilChk (.t 10)⟩,
⟨some 12, none, .fa 1 (.t 11)⟩,
⟨some 13, none, .load false 1 (.t 12)⟩,
⟨some 14, none, .mv (.t 0)⟩,
⟨some 15, none, .nilChk (.t 14)⟩,
⟨some 16, none, .fa 0 (.t 15)⟩,
⟨some 17, none, .load false 1 (.t 16)⟩,
⟨some 18, none, .lenS (.t 17)⟩,
⟨some 19, none, .bin .lss (.t 13) (.t 18)⟩,
⟨some 20, none, .mv (.t 19)⟩,
⟨some 21, some (20, true), .mv (.t 1)⟩,
⟨some 22, some (20, true), .mv (.t 0)⟩,
⟨some 23, some (20, true), .nilChk (.t 22)⟩,
⟨some 24, some (20, true), .fa 0 (.t 23)⟩,
⟨some 25, some (20, true), .load false 1 (.t 24)⟩,
⟨some 26, some (20, true), .mv (.t 0)⟩,
⟨some 27, some (20, true), .nilChk (.t 26)⟩,
⟨some 28, some (20, true), .fa 1 (.t 27)⟩,
⟨some 29, some (20, true), .load false 1 (.t 28)⟩,
⟨some 30, some (20, true), .ixS (.t 25) (.t 29)⟩,
⟨some 31, some (20, true), .call (.t 21) [(.t 30)]⟩,
⟨some 32, none, .pick (.t 20) (.t 31) (.c (.bool false))⟩]
abbrev x67r3 : List XOper := [
⟨some 33, none, .mv (.t 0)⟩,
⟨some 34, none, .nilChk (.t 33)⟩,
⟨some 35, none, .fa 1 (.t 34)⟩,
⟨some 36, none, .load false 1 (.t 35)⟩,
⟨some 37, none, .bin .add (.t 36) (.c (.int .i64 1))⟩,
⟨some 38, none, .nilChk (.t 33)⟩,
⟨some 39, none, .fa 1 (.t 38)⟩,
⟨none, none, .store 1 (.t 39) (.t 37)⟩]
abbrev x67l2 : XCode :=
(.seq (.seq (.reg 2 x67r2 (some ⟨[]⟩))
(.cond (.t 32)
.skip
(.exit 0)))
(.block 1
(.reg 3 x67r3 none)))
abbrev x67r4 : List XOper := [
⟨some 40, none, .mv (.t 0)⟩,
⟨some 41, none, .nilChk (.t 40)⟩,
⟨some 42, none, .fa 0 (.t 41)⟩,
⟨some 43, none, .load false 1 (.t 42)⟩,
⟨some 44, none, .mv (.t 5)⟩,
⟨some 45, none, .mv (.t 0)⟩,
⟨some 46, none, .nilChk (.t 45)⟩,
⟨some 47, none, .fa 1 (.t 46)⟩,
⟨some 48, none, .load false 1 (.t 47)⟩,
⟨some 49, none, .slS (.t 43) (some (.t 44)) (some (.t 48))⟩,
⟨some 4, none, .mv (.t 49)⟩]
/-- (*datum/token.text).while -/
abbrev x67b : XCode :=
(.seq (.reg 0 x67r0 none)
(.seq (.reg 1 x67r1 none)
(.seq (.block 0
(.loop x67l2))
(.seq (.reg 4 x67r4 (some ⟨[]⟩))
.ret))))
def x67 : XFunc := ⟨50, 2, [.tmp 4], x67b⟩
theorem x67_ok : chkF Tryz.prog Tryz.f67 x67 = true := by kernel_rfl
theorem x67_eq : x67.body = x67b ∧ x67.res = [.tmp 4] ∧ x67.np = 2 := ⟨rfl, rfl, rfl⟩

abbrev x68r0 : List XOper := [
⟨some 4, none, .mv (.c (.int .i64 0))⟩]
abbrev x68r1 : List XOper := [
⟨some 5, none, .mv (.t 0)⟩,
⟨some 6, none, .mv (.t 1)⟩,
⟨some 7, none, .call (.c (.fn (.func 86) [] [])) [(.t 5), (.t 6)]⟩,
⟨some 4, none, .mv (.t 7)⟩]
/-- strings.IndexByte -/
abbrev x68b : XCode :=
(.seq (.reg 0 x68r0 none)
(.seq (.reg 1 x68r1 none)
.ret))
def x68 : XFunc := ⟨8, 2, [.tmp 4], x68b⟩
theorem x68_ok : chkF Tryz.prog Tryz.f68 x68 = true := by kernel_rfl
theorem x68_eq : x68.body = x68b ∧ x68.res = [.tmp 4] ∧ x68.np = 2 := ⟨rfl, rfl, rfl⟩

abbrev x69r0 : List XOper := [
⟨some 2, none, .mv (.c (.bool false))⟩]
abbrev x69r1 : List XOper := [
⟨some 3, none, .mv (.t 0)⟩,
⟨some 4, none, .bin .geq (.t 3) (.c (.int .u8 48))⟩,
⟨some 5, none, .mv (.t 4)⟩,
⟨some 6, some (5, true), .mv (.t 0)⟩,
⟨some 7, some (5, true), .bin .leq (.t 6) (.c (.int .u8 57))⟩,
⟨some 8, none, .pick (.t 5) (.t 7) (.c (.bool false))⟩,
⟨some 2, none, .mv (.t 8)⟩]
/-- datum/token.digit -/
abbrev x69b : XCode :=
(.seq (.reg 0 x69r0 none)
(.seq (.reg 1 x69r1 none)
.ret))
def x69 : XFunc := ⟨9, 1, [.tmp 2], x69b⟩
theorem x69_ok : chkF Tryz.prog Tryz.f69 x69 = true := by kernel_rfl
theorem x69_eq : x69.body = x69b ∧ x69.res = [.tmp 2] ∧ x69.np = 1 := ⟨rfl, rfl, rfl⟩

abbrev x70r0 : List XOper := [
⟨some 2, none, .alloc [(.int .i64 0), (.str ⟨#[]⟩), (.int .i64 0), (.int .i64 0)]⟩,
⟨some 3, none, .mv (.c (.int .i64 0))⟩]
abbrev x70r1 : List XOper := [
⟨some 8, none, .mv (.t 0)⟩,
⟨some 9, none, .call (.c (.fn (.func 67) [] [])) [(.t 8), (.c (.fn (.func 87) [] []))]⟩,
⟨some 4, none, .mv (.t 9)⟩]
abbrev x70r2 : List XOper := [
⟨some 10, none, .mv (.t 0)⟩,
⟨some 11, none, .call (.c (.fn (.func 67) [] [])) [(.t 10), (.c (.fn (.func 69) [] []))]⟩,
⟨some 5, none, .mv (.t 11)⟩]
abbrev x70r3 : List XOper := [
⟨some 12, none, .mv (.t 5)⟩,
⟨some 13, none, .bin .eql (.t 12) (.c (.str ⟨#[]⟩))⟩,
⟨some 14, none, .mv (.t 13)⟩,
⟨some 15, some (14, false), .mv (.t 4)⟩,
⟨some 16, some (14, false), .lenS (.t 15)⟩,
⟨some 17, some (14, false), .bin .gtr (.t 16) (.c (.int .i64 1))⟩,
⟨some 18, none, .pick (.t 14) (.c (.bool true)) (.t 17)⟩]
abbrev x70r4 : List XOper := [
⟨some 19, none, .build [(.int .i64 0), (.str ⟨#[]⟩), (.int .i64 0), (.int .i64 0)] []⟩,
⟨none, none, .store 4 (.t 2) (.t 19)⟩,
⟨some 3, none, .mv (.c (.int .i64 7))⟩]
abbrev x70r5 : List XOper := [
⟨some 21, none, .mv (.t 4)⟩,
⟨some 22, none, .mv (.t 5)⟩,
⟨some 23, none, .bin .add (.t 21) (.t 22)⟩,
⟨some 24, none, .call (.c (.fn (.func 88) [] [])) [(.t 23)]⟩,
⟨some 20, none, .mv (.t 24)⟩,
⟨some 25, none, .ext (.t 20) 0⟩,
⟨some 26, none, .ext (.t 20) 1⟩,
⟨some 6, none, .mv (.t 25)⟩,
⟨some 7, none, .mv (.t 26)⟩]
abbrev x70r6 : List XOper := [
⟨some 27, none, .mv (.t 7)⟩,
⟨some 28, none, .eqN true 1 (.t 27)⟩,
⟨some 29, none, .mv (.t 28)⟩,
⟨some 30, some (29, false), .mv (.t 6)⟩,
⟨some 31, some (29, false), .call (.c (.fn (.func 85) [] [])) [(.t 30)]⟩,
⟨some 32, some (29, false), .un .not (.t 31)⟩,
⟨some 33, none, .pick (.t 29) (.c (.bool true)) (.t 32)⟩,
⟨some 34, none, .mv (.t 33)⟩,
⟨some 35, some (34, false), .mv (.t 6)⟩,
⟨some 36, some (34, false), .call (.c (.fn (.func 27) [] [])) [(.t 35)]⟩,
⟨some 37, some (34, false), .mv (.t 4)⟩,
⟨some 38, some (34, false), .mv (.t 5)⟩,
⟨some 39, some (34, false), .bin .add (.t 37) (.t 38)⟩,
⟨some 40, some (34, false), .bin .neq (.t 36) (.t 39)⟩,
⟨some 41, none, .pick (.t 34) (.c (.bool true)) (.t 40)⟩]
abbrev x70r7 : List XOper := [
⟨some 42, none, .build [(.int .i64 0), (.str ⟨#[]⟩), (.int .i64 0), (.int .i64 0)] []⟩,
⟨none, none, .store 4 (.t 2) (.t 42)⟩,
⟨some 3, none, .mv (.c (.int .i64 3))⟩]
abbrev x70r8 : List XOper := [
⟨some 43, none, .mv (.t 6)⟩,
⟨some 44, none, .build [(.int .i64 0), (.str ⟨#[]⟩), (.int .i64 0), (.int .i64 0)] [(0, 1, (.c (.int .i64 2))), (2, 1, (.t 43))]⟩,
⟨none, none, .store 4 (.t 2) (.t 44)⟩,
⟨some 3, none, .mv (.c (.int .i64 0))⟩]
/-- (*datum/token.text).number -/
abbrev x70b : XCode :=
(.seq (.reg 0 x70r0 none)
(.seq (.reg 1 x70r1 none)
(.seq (.reg 2 x70r2 none)
(.seq (.seq (.reg 3 x70r3 none)
(.cond (.t 18)
(.seq (.reg 4 x70r4 none)
.ret)
.skip))
(.seq (.reg 5 x70r5 none)
(.seq (.seq (.reg 6 x70r6 none)
(.cond (.t 41)
(.seq (.reg 7 x70r7 none)
.ret)
.skip))
(.seq (.reg 8 x70r8 none)
.ret)))))))
def x70 : XFunc := ⟨45, 1, [.cell 2 true 4, .tmp 3], x70b⟩
theorem x70_ok : chkF Tryz.prog Tryz.f70 x70 = true := by kernel_rfl
theorem x70_eq : x70.body = x70b ∧ x70.res = [.cell 2 true 4, .tmp 3] ∧ x70.np = 1 := ⟨rfl, rfl, rfl⟩

abbrev x71r0 : List XOper := [
⟨some 2, none, .mv (.c (.bool false))⟩]
abbrev x71r1 : List XOper := [
⟨some 3, none, .mv (.t 0)⟩,
⟨some 4, none, .bin .geq (.t 3) (.c (.int .u8 97))⟩,
⟨some 5, none, .mv (.t 4)⟩,
⟨some 6, some (5, true), .mv (.t 0)⟩,
⟨some 7, some (5, true), .bin .leq (.t 6) (.c (.int .u8 122))⟩,
⟨some 8, none, .pick (.t 5) (.t 7) (.c (.bool false))⟩,
⟨some 2, none, .mv (.t 8)⟩]
/-- datum/token.letter -/
abbrev x71b : XCode :=
(.seq (.reg 0 x71r0 none)
(.seq (.reg 1 x71r1 none)
.ret))
def x71 : XFunc := ⟨9, 1, [.tmp 2], x71b⟩
theorem x71_ok : chkF Tryz.prog Tryz.f71 x71 = true := by kernel_rfl
theorem x71_eq : x71.body = x71b ∧ x71.res = [.tmp 2] ∧ x71.np = 1 := ⟨rfl, rfl, rfl⟩

abbrev x72r0 : List XOper := [
⟨some 4, none, .mv (.c (.int .i64 0))⟩]
abbrev x72r1 : List XOper := [
⟨some 6, none, .mv (.t 0)⟩,
⟨some 7, none, .lenV (.t 6)⟩,
⟨some 8, none, .mv (.c (.int .i64 0))⟩]
abbrev x72r2 : List XOper := [
⟨some 9, none, .bin .lss (.t 8) (.t 7)⟩]
abbrev x72r3 : List XOper := [
⟨some 10, none, .mv (.t 8)⟩,
⟨some 5, none, .mv (.t 10)⟩]
abbrev x72r4 : List XOper := [
⟨some 11, none, .mv (.t 1)⟩,
⟨some 12, none, .mv (.t 0)⟩,
⟨some 13, none, .mv (.t 5)⟩,
⟨some 14, none, .iaS 14 (.t 12) (.t 13)⟩,
⟨some 15, none, .load true 14 (.t 14)⟩,
⟨some 16, none, .call (.t 11) [(.t 15)]⟩]
abbrev x72r5 : List XOper := [
⟨some 17, none, .mv (.t 5)⟩,
⟨some 4, none, .mv (.t 17)⟩]
abbrev x72r6 : List XOper := [
⟨some 18, none, .bin .add (.t 8) (.c (.int .i64 1))⟩,
⟨some 8, none, .mv (.t 18)⟩]
abbrev x72l2 : XCode :=
(.seq (.reg 2 x72r2 none)
(.seq (.cond (.t 9)
.skip
(.exit 0))
(.seq (.block 1
(.seq (.reg 3 x72r3 none)
(.seq (.reg 4 x72r4 none)
(.cond (.t 16)
(.seq (.reg 5 x72r5 none)
.ret)
.skip))))
(.reg 6 x72r6 none))))
abbrev x72r7 : List XOper := [
⟨some 4, none, .mv (.c (.int .i64 (-1)))⟩]
/-- slices.IndexFunc[[]datum/api.Channel,datum/api.Channel] -/
abbrev x72b : XCode :=
(.seq (.reg 0 x72r0 none)
(.seq (.seq (.reg 1 x72r1 none)
(.block 0
(.loop x72l2)))
(.seq (.reg 7 x72r7 none)
.ret)))
def x72 : XFunc := ⟨19, 2, [.tmp 4], x72b⟩
theorem x72_ok : chkF Tryz.prog Tryz.f72 x72 = true := by kernel_rfl
theorem x72_eq : x72.body = x72b ∧ x72.res = [.tmp 4] ∧ x72.np = 2 := ⟨rfl, rfl, rfl⟩

abbrev x73r0 : List XOper := [
⟨some 4, none, .mv (.c (.int .i64 0))⟩]
abbrev x73r1 : List XOper := [
⟨some 6, none, .mv (.t 0)⟩,
⟨some 7, none, .lenV (.t 6)⟩,
⟨some 8, none, .mv (.c (.int .i64 0))⟩]
abbrev x73r2 : List XOper := [
⟨some 9, none, .bin .lss (.t 8) (.t 7)⟩]
abbrev x73r3 : List XOper := [
⟨some 10, none, .mv (.t 8)⟩,
⟨some 5, none, .mv (.t 10)⟩]
abbrev x73r4 : List XOper := [
⟨some 11, none, .mv (.t 1)⟩,
⟨some 12, none, .mv (.t 0)⟩,
⟨some 13, none, .mv (.t 5)⟩,
⟨some 14, none, .iaS 4 (.t 12) (.t 13)⟩,
⟨some 15, none, .load true 4 (.t 14)⟩,
⟨some 16, none, .call (.t 11) [(.t 15)]⟩]
abbrev x73r5 : List XOper := [
⟨some 17, none, .mv (.t 5)⟩,
⟨some 4, none, .mv (.t 17)⟩]
abbrev x73r6 : List XOper := [
⟨some 18, none, .bin .add (.t 8) (.c (.int .i64 1))⟩,
⟨some 8, none, .mv (.t 18)⟩]
abbrev x73l2 : XCode :=
(.seq (.reg 2 x73r2 none)
(.seq (.cond (.t 9)
.skip
(.exit 0))
(.seq (.block 1
(.seq (.reg 3 x73r3 none)
(.seq (.reg 4 x73r4 none)
(.cond (.t 16)
(.seq (.reg 5 x73r5 none)
.ret)
.skip))))
(.reg 6 x73r6 none))))
abbrev x73r7 : List XOper := [
⟨some 4, none, .mv (.c (.int .i64 (-1)))⟩]
/-- slices.IndexFunc[[]datum/recipe.bound,datum/recipe.bound] -/
abbrev x73b : XCode :=
(.seq (.reg 0 x73r0 none)
(.seq (.seq (.reg 1 x73r1 none)
(.block 0
(.loop x73l2)))
(.seq (.reg 7 x73r7 none)
.ret)))
def x73 : XFunc := ⟨19, 2, [.tmp 4], x73b⟩
theorem x73_ok : chkF Tryz.prog Tryz.f73 x73 = true := by kernel_rfl
theorem x73_eq : x73.body = x73b ∧ x73.res = [.tmp 4] ∧ x73.np = 2 := ⟨rfl, rfl, rfl⟩

abbrev x74r0 : List XOper := [
⟨some 2, none, .box (.t 0)⟩,
⟨some 3, none, .mv (.c (.bool false))⟩]
abbrev x74r1 : List XOper := [
⟨some 4, none, .fa 0 (.t 1)⟩,
⟨some 5, none, .load false 1 (.t 4)⟩,
⟨some 6, none, .bin .eql (.t 5) (.c (.int .i64 1))⟩,
⟨some 7, none, .mv (.t 6)⟩,
⟨some 8, some (7, true), .fa 0 (.t 2)⟩,
⟨some 9, some (7, true), .load false 1 (.t 8)⟩,
⟨some 10, some (7, true), .fa 1 (.t 1)⟩,
⟨some 11, some (7, true), .load false 1 (.t 10)⟩,
⟨some 12, some (7, true), .bin .eql (.t 9) (.t 11)⟩,
⟨some 13, none, .pick (.t 7) (.t 12) (.c (.bool false))⟩,
⟨some 3, none, .mv (.t 13)⟩]
/-- (*datum/recipe.reader).field$1 -/
abbrev x74b : XCode :=
(.seq (.reg 0 x74r0 none)
(.seq (.reg 1 x74r1 none)
.ret))
def x74 : XFunc := ⟨14, 2, [.tmp 3], x74b⟩
theorem x74_ok : chkF Tryz.prog Tryz.f74 x74 = true := by kernel_rfl
theorem x74_eq : x74.body = x74b ∧ x74.res = [.tmp 3] ∧ x74.np = 2 := ⟨rfl, rfl, rfl⟩

abbrev x78r0 : List XOper := [
⟨some 2, none, .mv (.c (.bool false))⟩]
abbrev x78r1 : List XOper := [
⟨some 3, none, .mv (.t 0)⟩,
⟨some 4, none, .bin .geq (.t 3) (.c (.int .u8 48))⟩,
⟨some 5, none, .mv (.t 4)⟩,
⟨some 6, some (5, true), .mv (.t 0)⟩,
⟨some 7, some (5, true), .bin .leq (.t 6) (.c (.int .u8 57))⟩,
⟨some 8, none, .pick (.t 5) (.t 7) (.c (.bool false))⟩,
⟨some 2, none, .mv (.t 8)⟩]
/-- datum/datumref07.digit -/
abbrev x78b : XCode :=
(.seq (.reg 0 x78r0 none)
(.seq (.reg 1 x78r1 none)
.ret))
def x78 : XFunc := ⟨9, 1, [.tmp 2], x78b⟩
theorem x78_ok : chkF Tryz.prog Tryz.f78 x78 = true := by kernel_rfl
theorem x78_eq : x78.body = x78b ∧ x78.res = [.tmp 2] ∧ x78.np = 1 := ⟨rfl, rfl, rfl⟩

abbrev x79r0 : List XOper := [
⟨some 4, none, .mv (.c (.int .i64 0))⟩,
⟨some 5, none, .mv (.c (.int .i64 0))⟩,
⟨some 6, none, .mv (.c (.int .i64 0))⟩]
abbrev x79r1 : List XOper := [
⟨some 11, none, .mv (.t 0)⟩,
⟨some 12, none, .mv (.t 1)⟩,
⟨some 13, none, .ixS (.t 11) (.t 12)⟩,
⟨some 14, none, .bin .eql (.t 13) (.c (.int .u8 45))⟩,
⟨some 7, none, .mv (.t 14)⟩]
abbrev x79r2 : List XOper := [
⟨some 15, none, .mv (.t 1)⟩,
⟨some 8, none, .mv (.t 15)⟩]
abbrev x79r3 : List XOper := [
⟨some 16, none, .mv (.t 7)⟩]
abbrev x79r4 : List XOper := [
⟨some 17, none, .mv (.t 1)⟩,
⟨some 18, none, .bin .add (.t 17) (.c (.int .i64 1))⟩,
⟨some 8, none, .mv (.t 18)⟩]
abbrev x79r5 : List XOper := [
⟨some 19, none, .mv (.t 8)⟩,
⟨some 9, none, .mv (.t 19)⟩]
abbrev x79r6 : List XOper := [
⟨some 10, none, .mv (.c (.int .i64 0))⟩]
abbrev x79r7 : List XOper := [
⟨some 20, none, .mv (.t 9)⟩,
⟨some 21, none, .mv (.t 0)⟩,
⟨some 22, none, .lenS (.t 21)⟩,
⟨some 23, none, .bin .lss (.t 20) (.t 22)⟩,
⟨some 24, none, .mv (.t 23)⟩,
⟨some 25, some (24, true), .mv (.t 0)⟩,
⟨some 26, some (24, true), .mv (.t 9)⟩,
⟨some 27, some (24, true), .ixS (.t 25) (.t 26)⟩,
⟨some 28, some (24, true), .call (.c (.fn (.func 78) [] [])) [(.t 27)]⟩,
⟨some 29, none, .pick (.t 24) (.t 28) (.c (.bool false))⟩]
abbrev x79r8 : List XOper := [
⟨some 30, none, .mv (.t 10)⟩,
⟨some 31, none, .bin .mul (.c (.int .i64 10)) (.t 30)⟩,
⟨some 32, none, .mv (.t 0)⟩,
⟨some 33, none, .mv (.t 9)⟩,
⟨some 34, none, .ixS (.t 32) (.t 33)⟩,
⟨some 35, none, .bin .sub (.t 34) (.c (.int .u8 48))⟩,
⟨some 36, none, .conv .i64 (.t 35)⟩,
⟨some 37, none, .bin .add (.t 31) (.t 36)⟩,
⟨some 38, none, .mnx false (.t 37) [(.c (.int .i64 10000000000))]⟩,
⟨some 10, none, .mv (.t 38)⟩]
abbrev x79r9 : List XOper := [
⟨some 39, none, .mv (.t 9)⟩,
⟨some 40, none, .bin .add (.t 39) (.c (.int .i64 1))⟩,
⟨some 9, none, .mv (.t 40)⟩]
abbrev x79l7 : XCode :=
(.seq (.seq (.reg 7 x79r7 none)
(.cond (.t 29)
.skip
(.exit 0)))
(.block 1
(.seq (.reg 8 x79r8 none)
(.reg 9 x79r9 none))))
abbrev x79r10 : List XOper := [
⟨some 41, none, .mv (.t 9)⟩,
⟨some 42, none, .mv (.t 8)⟩,
⟨some 43, none, .bin .eql (.t 41) (.t 42)⟩]
abbrev x79r11 : List XOper := [
⟨some 4, none, .mv (.c (.int .i64 0))⟩,
⟨some 5, none, .mv (.c (.int .i64 0))⟩,
⟨some 6, none, .mv (.c (.int .i64 7))⟩]
abbrev x79r12 : List XOper := [
⟨some 44, none, .mv (.t 0)⟩,
⟨some 45, none, .mv (.t 8)⟩,
⟨some 46, none, .ixS (.t 44) (.t 45)⟩,
⟨some 47, none, .bin .eql (.t 46) (.c (.int .u8 48))⟩,
⟨some 48, none, .mv (.t 47)⟩,
⟨some 49, some (48, true), .mv (.t 9)⟩,
⟨some 50, some (48, true), .mv (.t 8)⟩,
⟨some 51, some (48, true), .bin .add (.t 50) (.c (.int .i64 1))⟩,
⟨some 52, some (48, true), .bin .gtr (.t 49) (.t 51)⟩,
⟨some 53, some (48, true), .mv (.t 52)⟩,
⟨some 54, some (53, false), .mv (.t 7)⟩,
⟨some 55, some (48, true), .pick (.t 53) (.c (.bool true)) (.t 54)⟩,
⟨some 56, none, .pick (.t 48) (.t 55) (.c (.bool false))⟩,
⟨some 57, none, .mv (.t 56)⟩,
⟨some 58, some (57, false), .mv (.t 10)⟩,
⟨some 59, some (57, false), .bin .gtr (.t 58) (.c (.int .i64 1000000000))⟩,
⟨some 60, none, .pick (.t 57) (.c (.bool true)) (.t 59)⟩]
abbrev x79r13 : List XOper := [
⟨some 4, none, .mv (.c (.int .i64 0))⟩,
⟨some 5, none, .mv (.c (.int .i64 0))⟩,
⟨some 6, none, .mv (.c (.int .i64 3))⟩]
abbrev x79r14 : List XOper := [
⟨some 61, none, .mv (.t 7)⟩]
abbrev x79r15 : List XOper := [
⟨some 62, none, .mv (.t 10)⟩,
⟨some 63, none, .bin .sub (.c (.int .i64 0)) (.t 62)⟩,
⟨some 10, none, .mv (.t 63)⟩]
abbrev x79r16 : List XOper := [
⟨some 64, none, .mv (.t 10)⟩,
⟨some 65, none, .mv (.t 9)⟩,
⟨some 66, none, .mv (.t 1)⟩,
⟨some 67, none, .bin .sub (.t 65) (.t 66)⟩,
⟨some 4, none, .mv (.t 64)⟩,
⟨some 5, none, .mv (.t 67)⟩,
⟨some 6, none, .mv (.c (.int .i64 0))⟩]
/-- datum/datumref07.number -/
abbrev x79b : XCode :=
(.seq (.reg 0 x79r0 none)
(.seq (.reg 1 x79r1 none)
(.seq (.reg 2 x79r2 none)
(.seq (.seq (.reg 3 x79r3 none)
(.cond (.t 16)
(.reg 4 x79r4 none)
.skip))
(.seq (.reg 5 x79r5 none)
(.seq (.reg 6 x79r6 none)
(.seq (.block 0
(.loop x79l7))
(.seq (.seq (.reg 10 x79r10 none)
(.cond (.t 43)
(.seq (.reg 11 x79r11 none)
.ret)
.skip))
(.seq (.seq (.reg 12 x79r12 none)
(.cond (.t 60)
(.seq (.reg 13 x79r13 none)
.ret)
.skip))
(.seq (.seq (.reg 14 x79r14 none)
(.cond (.t 61)
(.reg 15 x79r15 none)
.skip))
(.seq (.reg 16 x79r16 none)
.ret)))))))))))
def x79 : XFunc := ⟨68, 2, [.tmp 4, .tmp 5, .tmp 6], x79b⟩
theorem x79_ok : chkF Tryz.prog Tryz.f79 x79 = true := by kernel_rfl
theorem x79_eq : x79.body = x79b ∧ x79.res = [.tmp 4, .tmp 5, .tmp 6] ∧ x79.np = 2 := ⟨rfl, rfl, rfl⟩

abbrev x80r0 : List XOper := [
⟨some 2, none, .mv (.c (.bool false))⟩]
abbrev x80r1 : List XOper := [
⟨some 3, none, .mv (.t 0)⟩,
⟨some 4, none, .bin .geq (.t 3) (.c (.int .u8 97))⟩,
⟨some 5, none, .mv (.t 4)⟩,
⟨some 6, some (5, true), .mv (.t 0)⟩,
⟨some 7, some (5, true), .bin .leq (.t 6) (.c (.int .u8 122))⟩,
⟨some 8, none, .pick (.t 5) (.t 7) (.c (.bool false))⟩,
⟨some 2, none, .mv (.t 8)⟩]
/-- datum/datumref07.letter -/
abbrev x80b : XCode :=
(.seq (.reg 0 x80r0 none)
(.seq (.reg 1 x80r1 none)
.ret))
def x80 : XFunc := ⟨9, 1, [.tmp 2], x80b⟩
theorem x80_ok : chkF Tryz.prog Tryz.f80 x80 = true := by kernel_rfl
theorem x80_eq : x80.body = x80b ∧ x80.res = [.tmp 2] ∧ x80.np = 1 := ⟨rfl, rfl, rfl⟩

abbrev x81r0 : List XOper := [
⟨some 3, none, .box (.t 0)⟩,
⟨some 6, none, .alloc [(.str ⟨#[]⟩), (.int .i64 0), (.int .i64 0), (.int .i64 0), (.int .i64 0), (.int .i64 0), (.int .i64 0), (.int .i64 0), (.int .i64 0), (.int .i64 0), (.int .i64 0), (.int .i64 0), (.int .i64 0), (.int .i64 0)]⟩]
abbrev x81r1 : List XOper := [
⟨some 10, none, .mkslice 1 (.int .i64 0) 0 []⟩,
⟨some 7, none, .mv (.t 10)⟩]
abbrev x81r2 : List XOper := [
⟨some 8, none, .mv (.c (.int .i64 0))⟩]
abbrev x81r3 : List XOper := [
⟨some 11, none, .mv (.t 8)⟩,
⟨some 12, none, .bin .lss (.t 11) (.c (.int .i64 12))⟩]
abbrev x81r5 : List XOper := [
⟨some 15, none, .load true 14 (.t 3)⟩,
⟨some 16, none, .mv (.t 8)⟩,
⟨some 17, none, .call (.c (.fn (.func 35) [] [])) [(.t 15), (.t 16)]⟩,
⟨some 9, none, .mv (.t 17)⟩]
abbrev x81r6 : List XOper := [
⟨some 18, none, .mv (.t 8)⟩,
⟨some 19, none, .mv (.t 1)⟩,
⟨some 20, none, .bin .eql (.t 18) (.t 19)⟩]
abbrev x81r7 : List XOper := [
⟨some 21, none, .mv (.t 2)⟩,
⟨some 9, none, .mv (.t 21)⟩]
abbrev x81r8 : List XOper := [
⟨some 22, none, .mv (.t 7)⟩,
⟨some 23, none, .mv (.t 9)⟩,
⟨some 24, none, .mkslice 1 (.int .i64 0) 1 [(0, (.t 23))]⟩,
⟨some 25, none, .app 1 8 (.t 22) (.t 24)⟩,
⟨some 7, none, .mv (.t 25)⟩]
abbrev x81r4 : List XOper := [
⟨some 13, none, .mv (.t 8)⟩,
⟨some 14, none, .bin .add (.t 13) (.c (.int .i64 1))⟩,
⟨some 8, none, .mv (.t 14)⟩]
abbrev x81l3 : XCode :=
(.seq (.seq (.reg 3 x81r3 none)
(.cond (.t 12)
.skip
(.exit 0)))
(.seq (.block 1
(.seq (.reg 5 x81r5 none)
(.seq (.seq (.reg 6 x81r6 none)
(.cond (.t 20)
(.reg 7 x81r7 none)
.skip))
(.reg 8 x81r8 none))))
(.reg 4 x81r4 none)))
abbrev x81r9 : List XOper := [
⟨some 26, none, .fa 0 (.t 3)⟩,
⟨some 27, none, .load false 1 (.t 26)⟩,
⟨some 28, none, .fa 1 (.t 3)⟩,
⟨some 29, none, .load false 1 (.t 28)⟩,
⟨some 30, none, .mv (.t 7)⟩,
⟨some 31, none, .iaS 1 (.t 30) (.c (.int .i64 0))⟩,
⟨some 32, none, .load false 1 (.t 31)⟩,
⟨some 33, none, .mv (.t 7)⟩,
⟨some 34, none, .iaS 1 (.t 33) (.c (.int .i64 1))⟩,
⟨some 35, none, .load false 1 (.t 34)⟩,
⟨some 36, none, .mv (.t 7)⟩,
⟨some 37, none, .iaS 1 (.t 36) (.c (.int .i64 2))⟩,
⟨some 38, none, .load false 1 (.t 37)⟩,
⟨some 39, none, .mv (.t 7)⟩,
⟨some 40, none, .iaS 1 (.t 39) (.c (.int .i64 3))⟩,
⟨some 41, none, .load false 1 (.t 40)⟩,
⟨some 42, none, .mv (.t 7)⟩,
⟨some 43, none, .iaS 1 (.t 42) (.c (.int .i64 4))⟩,
⟨some 44, none, .load false 1 (.t 43)⟩,
⟨some 45, none, .mv (.t 7)⟩,
⟨some 46, none, .iaS 1 (.t 45) (.c (.int .i64 5))⟩,
⟨some 47, none, .load false 1 (.t 46)⟩,
⟨some 48, none, .mv (.t 7)⟩,
⟨some 49, none, .iaS 1 (.t 48) (.c (.int .i64 6))⟩,
⟨some 50, none, .load false 1 (.t 49)⟩,
⟨some 51, none, .mv (.t 7)⟩,
⟨some 52, none, .iaS 1 (.t 51) (.c (.int .i64 7))⟩,
⟨some 53, none, .load false 1 (.t 52)⟩,
⟨some 54, none, .mv (.t 7)⟩,
⟨some 55, none, .iaS 1 (.t 54) (.c (.int .i64 8))⟩,
⟨some 56, none, .load false 1 (.t 55)⟩,
⟨some 57, none, .mv (.t 7)⟩,
⟨some 58, none, .iaS 1 (.t 57) (.c (.int .i64 9))⟩,
⟨some 59, none, .load false 1 (.t 58)⟩,
⟨some 60, none, .mv (.t 7)⟩,
⟨some 61, none, .iaS 1 (.t 60) (.c (.int .i64 10))⟩,
⟨some 62, none, .load false 1 (.t 61)⟩,
⟨some 63, none, .mv (.t 7)⟩,
⟨some 64, none, .iaS 1 (.t 63) (.c (.int .i64 11))⟩,
⟨some 65, none, .load false 1 (.t 64)⟩,
⟨some 66, none, .build [(.str ⟨#[]⟩), (.int .i64 0), (.int .i64 0), (.int .i64 0), (.int .i64 0), (.int .i64 0), (.int .i64 0), (.int .i64 0), (.int .i64 0), (.int .i64 0), (.int .i64 0), (.int .i64 0), (.int .i64 0), (.int .i64 0)] [(0, 1, (.t 27)), (1, 1, (.t 29)), (2, 1, (.t 32)), (3, 1, (.t 35)), (4, 1, (.t 38)), (5, 1, (.t 41)), (6, 1, (.t 44)), (7, 1, (.t 47)), (8, 1, (.t 50)), (9, 1, (.t 53)), (10, 1, (.t 56)), (11, 1, (.t 59)), (12, 1, (.t 62)), (13, 1, (.t 65))]⟩,
⟨none, none, .store 14 (.t 6) (.t 66)⟩]
/-- datum/datumref08.set -/
abbrev x81b : XCode :=
(.seq (.reg 0 x81r0 none)
(.seq (.reg 1 x81r1 none)
(.seq (.seq (.reg 2 x81r2 none)
(.block 0
(.loop x81l3)))
(.seq (.reg 9 x81r9 (some ⟨[]⟩))
.ret))))
def x81 : XFunc := ⟨67, 3, [.cell 6 true 14], x81b⟩
theorem x81_ok : chkF Tryz.prog Tryz.f81 x81 = true := by kernel_rfl
theorem x81_eq : x81.body = x81b ∧ x81.res = [.cell 6 true 14] ∧ x81.np = 3 := ⟨rfl, rfl, rfl⟩

abbrev x84r0 : List XOper := [
⟨some 2, none, .mv (.c (.bool false))⟩]
abbrev x84r1 : List XOper := [
⟨some 5, none, .mv (.t 0)⟩,
⟨some 6, none, .rngS (.t 5)⟩]
abbrev x84r2 : List XOper := [
⟨some 7, none, .nxtS (.t 6)⟩,
⟨some 8, none, .ext (.t 7) 0⟩]
abbrev x84r3 : List XOper := [
⟨some 9, none, .ext (.t 7) 2⟩,
⟨some 4, none, .mv (.t 9)⟩]
abbrev x84r4 : List XOper := [
⟨some 10, none, .mv (.t 4)⟩,
⟨some 11, none, .bin .lss (.t 10) (.c (.int .i32 97))⟩,
⟨some 12, none, .mv (.t 11)⟩,
⟨some 13, some (12, false), .mv (.t 4)⟩,
⟨some 14, some (12, false), .bin .gtr (.t 13) (.c (.int .i32 122))⟩,
⟨some 15, none, .pick (.t 12) (.c (.bool true)) (.t 14)⟩]
abbrev x84r5 : List XOper := [
⟨some 2, none, .mv (.c (.bool false))⟩]
abbrev x84l2 : XCode :=
(.seq (.reg 2 x84r2 none)
(.seq (.cond (.t 8)
.skip
(.exit 0))
(.block 1
(.seq (.reg 3 x84r3 none)
(.seq (.reg 4 x84r4 none)
(.cond (.t 15)
(.seq (.reg 5 x84r5 none)
.ret)
.skip))))))
abbrev x84r6 : List XOper := [
⟨some 16, none, .mv (.t 0)⟩,
⟨some 17, none, .bin .neq (.t 16) (.c (.str ⟨#[]⟩))⟩,
⟨some 18, none, .mv (.t 17)⟩,
⟨some 19, some (18, true), .mv (.t 0)⟩,
⟨some 20, some (18, true), .lenS (.t 19)⟩,
⟨some 21, some (18, true), .bin .leq (.t 20) (.c (.int .i64 12))⟩,
⟨some 22, none, .pick (.t 18) (.t 21) (.c (.bool false))⟩,
⟨some 2, none, .mv (.t 22)⟩]
/-- datum/token.word -/
abbrev x84b : XCode :=
(.seq (.reg 0 x84r0 none)
(.seq (.seq (.reg 1 x84r1 none)
(.block 0
(.loop x84l2)))
(.seq (.reg 6 x84r6 none)
.ret)))
def x84 : XFunc := ⟨23, 1, [.tmp 2], x84b⟩
theorem x84_ok : chkF Tryz.prog Tryz.f84 x84 = true := by kernel_rfl
theorem x84_eq : x84.body = x84b ∧ x84.res = [.tmp 2] ∧ x84.np = 1 := ⟨rfl, rfl, rfl⟩

abbrev x85r0 : List XOper := [
⟨some 2, none, .mv (.c (.bool false))⟩]
abbrev x85r1 : List XOper := [
⟨some 3, none, .mv (.t 0)⟩,
⟨some 4, none, .bin .geq (.t 3) (.c (.int .i64 (-1000000000)))⟩,
⟨some 5, none, .mv (.t 4)⟩,
⟨some 6, some (5, true), .mv (.t 0)⟩,
⟨some 7, some (5, true), .bin .leq (.t 6) (.c (.int .i64 1000000000))⟩,
⟨some 8, none, .pick (.t 5) (.t 7) (.c (.bool false))⟩,
⟨some 2, none, .mv (.t 8)⟩]
/-- datum/token.num -/
abbrev x85b : XCode :=
(.seq (.reg 0 x85r0 none)
(.seq (.reg 1 x85r1 none)
.ret))
def x85 : XFunc := ⟨9, 1, [.tmp 2], x85b⟩
theorem x85_ok : chkF Tryz.prog Tryz.f85 x85 = true := by kernel_rfl
theorem x85_eq : x85.body = x85b ∧ x85.res = [.tmp 2] ∧ x85.np = 1 := ⟨rfl, rfl, rfl⟩

abbrev x86r0 : List XOper := [
⟨some 4, none, .mv (.c (.int .i64 0))⟩]
abbrev x86r1 : List XOper := [
⟨some 5, none, .mv (.t 0)⟩,
⟨some 6, none, .mv (.t 1)⟩,
⟨some 7, none, .call (.c (.fn (.func 93) [] [])) [(.t 5), (.t 6)]⟩,
⟨some 4, none, .mv (.t 7)⟩]
/-- internal/stringslite.IndexByte -/
abbrev x86b : XCode :=
(.seq (.reg 0 x86r0 none)
(.seq (.reg 1 x86r1 none)
.ret))
def x86 : XFunc := ⟨8, 2, [.tmp 4], x86b⟩
theorem x86_ok : chkF Tryz.prog Tryz.f86 x86 = true := by kernel_rfl
theorem x86_eq : x86.body = x86b ∧ x86.res = [.tmp 4] ∧ x86.np = 2 := ⟨rfl, rfl, rfl⟩

abbrev x87r0 : List XOper := [
⟨some 2, none, .mv (.c (.bool false))⟩]
abbrev x87r1 : List XOper := [
⟨some 3, none, .mv (.t 0)⟩,
⟨some 4, none, .bin .eql (.t 3) (.c (.int .u8 45))⟩,
⟨some 2, none, .mv (.t 4)⟩]
/-- (*datum/token.text).number$1 -/
abbrev x87b : XCode :=
(.seq (.reg 0 x87r0 none)
(.seq (.reg 1 x87r1 none)
.ret))
def x87 : XFunc := ⟨5, 1, [.tmp 2], x87b⟩
theorem x87_ok : chkF Tryz.prog Tryz.f87 x87 = true := by kernel_rfl
theorem x87_eq : x87.body = x87b ∧ x87.res = [.tmp 2] ∧ x87.np = 1 := ⟨rfl, rfl, rfl⟩


def xf : FuncId → Option XFunc
  | 3 => some x3
  | 4 => some x4
  | 5 => some x5
  | 6 => some x6
  | 7 => some x7
  | 8 => some x8
  | 9 => some x9
  | 10 => some x10
  | 11 => some x11
  | 12 => some x12
  | 14 => some x14
  | 15 => some x15
  | 16 => some x16
  | 17 => some x17
  | 18 => some x18
  | 20 => some x20
  | 21 => some x21
  | 23 => some x23
  | 24 => some x24
  | 25 => some x25
  | 26 => some x26
  | 29 => some x29
  | 30 => some x30
  | 31 => some x31
  | 32 => some x32
  | 33 => some x33
  | 34 => some x34
  | 35 => some x35
  | 36 => some x36
  | 37 => some x37
  | 38 => some x38
  | 39 => some x39
  | 40 => some x40
  | 41 => some x41
  | 42 => some x42
  | 43 => some x43
  | 44 => some x44
  | 45 => some x45
  | 50 => some x50
  | 51 => some x51
  | 52 => some x52
  | 53 => some x53
  | 54 => some x54
  | 55 => some x55
  | 58 => some x58
  | 59 => some x59
  | 60 => some x60
  | 61 => some x61
  | 62 => some x62
  | 63 => some x63
  | 64 => some x64
  | 65 => some x65
  | 66 => some x66
  | 67 => some x67
  | 68 => some x68
  | 69 => some x69
  | 70 => some x70
  | 71 => some x71
  | 72 => some x72
  | 73 => some x73
  | 74 => some x74
  | 78 => some x78
  | 79 => some x79
  | 80 => some x80
  | 81 => some x81
  | 84 => some x84
  | 85 => some x85
  | 86 => some x86
  | 87 => some x87
  | _ => none
def C0 : Cfg := ⟨fun _ => none, xf, fun _ => none, fun _ => none, fun _ => none⟩
theorem ok0 : CfgOk Tryz.prog C0 := by
  refine ⟨(fun g F h => by cases h), (fun g x h => ?_), by kernel_rfl, (fun g F h => by cases h), (fun g F h => by cases h), (fun g q h => by cases h)⟩
  simp only [C0, xf] at h
  split at h
  · cases h; exact ⟨Tryz.f3, Tryz.func3, x3_ok⟩
  · cases h; exact ⟨Tryz.f4, Tryz.func4, x4_ok⟩
  · cases h; exact ⟨Tryz.f5, Tryz.func5, x5_ok⟩
  · cases h; exact ⟨Tryz.f6, Tryz.func6, x6_ok⟩
  · cases h; exact ⟨Tryz.f7, Tryz.func7, x7_ok⟩
  · cases h; exact ⟨Tryz.f8, Tryz.func8, x8_ok⟩
  · cases h; exact ⟨Tryz.f9, Tryz.func9, x9_ok⟩
  · cases h; exact ⟨Tryz.f10, Tryz.func10, x10_ok⟩
  · cases h; exact ⟨Tryz.f11, Tryz.func11, x11_ok⟩
  · cases h; exact ⟨Tryz.f12, Tryz.func12, x12_ok⟩
  · cases h; exact ⟨Tryz.f14, Tryz.func14, x14_ok⟩
  · cases h; exact ⟨Tryz.f15, Tryz.func15, x15_ok⟩
  · cases h; exact ⟨Tryz.f16, Tryz.func16, x16_ok⟩
  · cases h; exact ⟨Tryz.f17, Tryz.func17, x17_ok⟩
  · cases h; exact ⟨Tryz.f18, Tryz.func18, x18_ok⟩
  · cases h; exact ⟨Tryz.f20, Tryz.func20, x20_ok⟩
  · cases h; exact ⟨Tryz.f21, Tryz.func21, x21_ok⟩
  · cases h; exact ⟨Tryz.f23, Tryz.func23, x23_ok⟩
  · cases h; exact ⟨Tryz.f24, Tryz.func24, x24_ok⟩
  · cases h; exact ⟨Tryz.f25, Tryz.func25, x25_ok⟩
  · cases h; exact ⟨Tryz.f26, Tryz.func26, x26_ok⟩
  · cases h; exact ⟨Tryz.f29, Tryz.func29, x29_ok⟩
  · cases h; exact ⟨Tryz.f30, Tryz.func30, x30_ok⟩
  · cases h; exact ⟨Tryz.f31, Tryz.func31, x31_ok⟩
  · cases h; exact ⟨Tryz.f32, Tryz.func32, x32_ok⟩
  · cases h; exact ⟨Tryz.f33, Tryz.func33, x33_ok⟩
  · cases h; exact ⟨Tryz.f34, Tryz.func34, x34_ok⟩
  · cases h; exact ⟨Tryz.f35, Tryz.func35, x35_ok⟩
  · cases h; exact ⟨Tryz.f36, Tryz.func36, x36_ok⟩
  · cases h; exact ⟨Tryz.f37, Tryz.func37, x37_ok⟩
  · cases h; exact ⟨Tryz.f38, Tryz.func38, x38_ok⟩
  · cases h; exact ⟨Tryz.f39, Tryz.func39, x39_ok⟩
  · cases h; exact ⟨Tryz.f40, Tryz.func40, x40_ok⟩
  · cases h; exact ⟨Tryz.f41, Tryz.func41, x41_ok⟩
  · cases h; exact ⟨Tryz.f42, Tryz.func42, x42_ok⟩
  · cases h; exact ⟨Tryz.f43, Tryz.func43, x43_ok⟩
  · cases h; exact ⟨Tryz.f44, Tryz.func44, x44_ok⟩
  · cases h; exact ⟨Tryz.f45, Tryz.func45, x45_ok⟩
  · cases h; exact ⟨Tryz.f50, Tryz.func50, x50_ok⟩
  · cases h; exact ⟨Tryz.f51, Tryz.func51, x51_ok⟩
  · cases h; exact ⟨Tryz.f52, Tryz.func52, x52_ok⟩
  · cases h; exact ⟨Tryz.f53, Tryz.func53, x53_ok⟩
  · cases h; exact ⟨Tryz.f54, Tryz.func54, x54_ok⟩
  · cases h; exact ⟨Tryz.f55, Tryz.func55, x55_ok⟩
  · cases h; exact ⟨Tryz.f58, Tryz.func58, x58_ok⟩
  · cases h; exact ⟨Tryz.f59, Tryz.func59, x59_ok⟩
  · cases h; exact ⟨Tryz.f60, Tryz.func60, x60_ok⟩
  · cases h; exact ⟨Tryz.f61, Tryz.func61, x61_ok⟩
  · cases h; exact ⟨Tryz.f62, Tryz.func62, x62_ok⟩
  · cases h; exact ⟨Tryz.f63, Tryz.func63, x63_ok⟩
  · cases h; exact ⟨Tryz.f64, Tryz.func64, x64_ok⟩
  · cases h; exact ⟨Tryz.f65, Tryz.func65, x65_ok⟩
  · cases h; exact ⟨Tryz.f66, Tryz.func66, x66_ok⟩
  · cases h; exact ⟨Tryz.f67, Tryz.func67, x67_ok⟩
  · cases h; exact ⟨Tryz.f68, Tryz.func68, x68_ok⟩
  · cases h; exact ⟨Tryz.f69, Tryz.func69, x69_ok⟩
  · cases h; exact ⟨Tryz.f70, Tryz.func70, x70_ok⟩
  · cases h; exact ⟨Tryz.f71, Tryz.func71, x71_ok⟩
  · cases h; exact ⟨Tryz.f72, Tryz.func72, x72_ok⟩
  · cases h; exact ⟨Tryz.f73, Tryz.func73, x73_ok⟩
  · cases h; exact ⟨Tryz.f74, Tryz.func74, x74_ok⟩
  · cases h; exact ⟨Tryz.f78, Tryz.func78, x78_ok⟩
  · cases h; exact ⟨Tryz.f79, Tryz.func79, x79_ok⟩
  · cases h; exact ⟨Tryz.f80, Tryz.func80, x80_ok⟩
  · cases h; exact ⟨Tryz.f81, Tryz.func81, x81_ok⟩
  · cases h; exact ⟨Tryz.f84, Tryz.func84, x84_ok⟩
  · cases h; exact ⟨Tryz.f85, Tryz.func85, x85_ok⟩
  · cases h; exact ⟨Tryz.f86, Tryz.func86, x86_ok⟩
  · cases h; exact ⟨Tryz.f87, Tryz.func87, x87_ok⟩
  · cases h
end Go.Proofs.YtppehejnnjlkfaaGreatDoor
