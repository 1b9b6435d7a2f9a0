/-
  Laid together: part 4.
-/
import Derived.Test.YtldineoabbodpaaGreatDoorZS3
set_option linter.unusedVariables false
set_option linter.unusedSimpArgs false
namespace Go.Proofs.YtldineoabbodpaaGreatDoor
open Go Go.Xec
abbrev x173r0 : List XOper := [
⟨some 2, none, .mv (.c (.int .i64 0))⟩,
⟨some 3, none, .mv (.c (.int .i64 0))⟩]
abbrev x173r1 : List XOper := [
⟨some 4, none, .mv (.t 0)⟩,
⟨some 5, none, .bin .add (.t 4) (.c (.int .i64 4))⟩,
⟨some 6, none, .bin .shl (.c (.int .i64 1)) (.t 5)⟩,
⟨some 7, none, .bin .sub (.c (.int .i64 512)) (.t 6)⟩,
⟨some 2, none, .mv (.t 7)⟩]
abbrev x173r2 : List XOper := [
⟨some 8, none, .mv (.t 2)⟩,
⟨some 9, none, .mv (.t 0)⟩,
⟨some 10, none, .bin .sub (.c (.int .i64 4)) (.t 9)⟩,
⟨some 11, none, .bin .add (.t 10) (.c (.int .i64 1))⟩,
⟨some 12, none, .bin .shl (.c (.int .i64 1)) (.t 11)⟩,
⟨some 13, none, .bin .sub (.t 12) (.c (.int .i64 1))⟩,
⟨some 2, none, .mv (.t 8)⟩,
⟨some 3, none, .mv (.t 13)⟩]
abbrev x173b : XCode :=
(.seq (.reg 0 x173r0 none)
(.seq (.reg 1 x173r1 none)
(.seq (.reg 2 x173r2 (some ⟨[]⟩))
.ret)))
def x173 : XFunc := ⟨14, 1, [.tmp 2, .tmp 3], x173b⟩
theorem x173_ok : chkF Tryz.prog Tryz.f173 x173 = true := by kernel_rfl
theorem x173_eq : x173.body = x173b ∧ x173.res = [.tmp 2, .tmp 3] ∧ x173.np = 1 := ⟨rfl, rfl, rfl⟩
abbrev x174r0 : List XOper := [
⟨some 4, none, .mv (.c .nils)⟩]
abbrev x174r1 : List XOper := [
⟨some 5, none, .mv (.t 0)⟩,
⟨some 6, none, .lenV (.t 5)⟩,
⟨some 7, none, .mv (.t 1)⟩,
⟨some 8, none, .bin .lss (.t 6) (.t 7)⟩]
abbrev x174r2 : List XOper := [
⟨some 4, none, .mv (.c .nils)⟩]
abbrev x174r3 : List XOper := [
⟨some 9, none, .mv (.t 0)⟩,
⟨some 10, none, .mv (.t 0)⟩,
⟨some 11, none, .lenV (.t 10)⟩,
⟨some 12, none, .mv (.t 1)⟩,
⟨some 13, none, .bin .sub (.t 11) (.t 12)⟩,
⟨some 14, none, .slV 3 (.t 9) (some (.t 13)) none none⟩,
⟨some 4, none, .mv (.t 14)⟩]
abbrev x174b : XCode :=
(.seq (.reg 0 x174r0 none)
(.seq (.seq (.reg 1 x174r1 none)
(.cond (.t 8)
(.seq (.reg 2 x174r2 none)
.ret)
.skip))
(.seq (.reg 3 x174r3 none)
.ret)))
def x174 : XFunc := ⟨15, 2, [.tmp 4], x174b⟩
theorem x174_ok : chkF Tryz.prog Tryz.f174 x174 = true := by kernel_rfl
theorem x174_eq : x174.body = x174b ∧ x174.res = [.tmp 4] ∧ x174.np = 2 := ⟨rfl, rfl, rfl⟩
abbrev x175r0 : List XOper := [
⟨some 4, none, .mv (.c (.int .i64 0))⟩]
abbrev x175r1 : List XOper := [
⟨some 9, none, .mv (.t 0)⟩,
⟨some 10, none, .lenV (.t 9)⟩,
⟨some 11, none, .bin .gtr (.t 10) (.c (.int .i64 0))⟩,
⟨some 12, none, .mv (.t 0)⟩,
⟨some 13, none, .lenV (.t 12)⟩,
⟨some 14, none, .bin .gtr (.t 13) (.c (.int .i64 0))⟩,
⟨some 5, none, .mv (.t 11)⟩,
⟨some 6, none, .mv (.t 14)⟩]
abbrev x175r2 : List XOper := [
⟨some 15, none, .mv (.t 0)⟩,
⟨some 16, none, .lenV (.t 15)⟩,
⟨some 17, none, .mv (.c (.int .i64 0))⟩]
abbrev x175r3 : List XOper := [
⟨some 18, none, .bin .lss (.t 17) (.t 16)⟩]
abbrev x175r4 : List XOper := [
⟨some 19, none, .iaS 3 (.t 15) (.t 17)⟩,
⟨some 20, none, .load true 3 (.t 19)⟩,
⟨some 8, none, .alloc [(.int .i64 0), (.int .i64 0), (.int .i64 0)]⟩,
⟨none, none, .store 3 (.t 8) (.t 20)⟩]
abbrev x175r5 : List XOper := [
⟨some 21, none, .mv (.t 5)⟩,
⟨some 22, none, .mv (.t 21)⟩,
⟨some 23, some (22, true), .fa 0 (.t 8)⟩,
⟨some 24, some (22, true), .load false 1 (.t 23)⟩,
⟨some 25, some (22, true), .mv (.t 1)⟩,
⟨some 26, some (22, true), .bin .andNot (.t 24) (.t 25)⟩,
⟨some 27, some (22, true), .bin .eql (.t 26) (.c (.int .i64 0))⟩,
⟨some 28, none, .pick (.t 22) (.t 27) (.c (.bool false))⟩,
⟨some 29, none, .mv (.t 6)⟩,
⟨some 30, none, .mv (.t 29)⟩,
⟨some 31, some (30, true), .fa 0 (.t 8)⟩,
⟨some 32, some (30, true), .load false 1 (.t 31)⟩,
⟨some 33, some (30, true), .mv (.t 1)⟩,
⟨some 34, some (30, true), .bin .and (.t 32) (.t 33)⟩,
⟨some 35, some (30, true), .bin .neq (.t 34) (.c (.int .i64 0))⟩,
⟨some 36, none, .pick (.t 30) (.t 35) (.c (.bool false))⟩,
⟨some 5, none, .mv (.t 28)⟩,
⟨some 6, none, .mv (.t 36)⟩]
abbrev x175r6 : List XOper := [
⟨some 37, none, .bin .add (.t 17) (.c (.int .i64 1))⟩,
⟨some 17, none, .mv (.t 37)⟩]
abbrev x175l3 : XCode :=
(.seq (.reg 3 x175r3 none)
(.seq (.cond (.t 18)
.skip
(.exit 0))
(.seq (.block 1
(.seq (.reg 4 x175r4 none)
(.reg 5 x175r5 (some ⟨[]⟩))))
(.reg 6 x175r6 none))))
abbrev x175r7 : List XOper := [
⟨some 38, none, .mv (.t 5)⟩,
⟨some 39, none, .mv (.t 6)⟩,
⟨some 40, none, .call (.c (.fn (.func 189) [] [])) [(.t 38), (.t 39)]⟩,
⟨some 4, none, .mv (.t 40)⟩]
abbrev x175b : XCode :=
(.seq (.reg 0 x175r0 none)
(.seq (.reg 1 x175r1 none)
(.seq (.seq (.reg 2 x175r2 none)
(.block 0
(.loop x175l3)))
(.seq (.reg 7 x175r7 none)
.ret))))
def x175 : XFunc := ⟨41, 2, [.tmp 4], x175b⟩
theorem x175_ok : chkF Tryz.prog Tryz.f175 x175 = true := by kernel_rfl
theorem x175_eq : x175.body = x175b ∧ x175.res = [.tmp 4] ∧ x175.np = 2 := ⟨rfl, rfl, rfl⟩
abbrev x176r0 : List XOper := [
⟨some 4, none, .mv (.c (.int .i64 0))⟩]
abbrev x176r1 : List XOper := [
⟨some 5, none, .mv (.t 0)⟩,
⟨some 6, none, .mv (.t 1)⟩,
⟨some 7, none, .mnx true (.t 5) [(.t 6)]⟩,
⟨some 4, none, .mv (.t 7)⟩]
abbrev x176b : XCode :=
(.seq (.reg 0 x176r0 none)
(.seq (.reg 1 x176r1 none)
.ret))
def x176 : XFunc := ⟨8, 2, [.tmp 4], x176b⟩
theorem x176_ok : chkF Tryz.prog Tryz.f176 x176 = true := by kernel_rfl
theorem x176_eq : x176.body = x176b ∧ x176.res = [.tmp 4] ∧ x176.np = 2 := ⟨rfl, rfl, rfl⟩
abbrev x177r0 : List XOper := [
⟨some 4, none, .mv (.c (.int .i64 0))⟩]
abbrev x177r1 : List XOper := [
⟨some 17, none, .mv (.t 0)⟩,
⟨some 18, none, .lenV (.t 17)⟩,
⟨some 19, none, .bin .gtr (.t 18) (.c (.int .i64 0))⟩,
⟨some 20, none, .mv (.t 0)⟩,
⟨some 21, none, .lenV (.t 20)⟩,
⟨some 22, none, .bin .gtr (.t 21) (.c (.int .i64 0))⟩,
⟨some 5, none, .mv (.t 19)⟩,
⟨some 6, none, .mv (.t 22)⟩]
abbrev x177r2 : List XOper := [
⟨some 7, none, .mv (.c (.int .i64 0))⟩]
abbrev x177r3 : List XOper := [
⟨some 23, none, .mv (.t 0)⟩,
⟨some 24, none, .lenV (.t 23)⟩,
⟨some 25, none, .mv (.c (.int .i64 0))⟩]
abbrev x177r4 : List XOper := [
⟨some 26, none, .bin .lss (.t 25) (.t 24)⟩]
abbrev x177r5 : List XOper := [
⟨some 27, none, .mv (.t 25)⟩,
⟨some 28, none, .iaS 3 (.t 23) (.t 25)⟩,
⟨some 29, none, .load true 3 (.t 28)⟩,
⟨some 9, none, .alloc [(.int .i64 0), (.int .i64 0), (.int .i64 0)]⟩,
⟨some 8, none, .mv (.t 27)⟩,
⟨none, none, .store 3 (.t 9) (.t 29)⟩]
abbrev x177r6 : List XOper := [
⟨some 30, none, .mv (.t 8)⟩,
⟨some 31, none, .bin .eql (.t 30) (.c (.int .i64 0))⟩]
abbrev x177r7 : List XOper := [
⟨some 32, none, .fa 0 (.t 9)⟩,
⟨some 33, none, .load false 1 (.t 32)⟩,
⟨some 7, none, .mv (.t 33)⟩]
abbrev x177r8 : List XOper := [
⟨some 34, none, .mv (.t 0)⟩,
⟨some 35, none, .mv (.t 8)⟩,
⟨some 36, none, .bin .sub (.t 35) (.c (.int .i64 1))⟩,
⟨some 37, none, .iaS 3 (.t 34) (.t 36)⟩,
⟨some 38, none, .load true 3 (.t 37)⟩,
⟨some 10, none, .alloc [(.int .i64 0), (.int .i64 0), (.int .i64 0)]⟩,
⟨none, none, .store 3 (.t 10) (.t 38)⟩]
abbrev x177r9 : List XOper := [
⟨some 11, none, .mv (.c (.int .i64 0))⟩]
abbrev x177r10 : List XOper := [
⟨some 40, none, .mv (.t 7)⟩,
⟨some 41, none, .mnx true (.t 40) [(.c (.int .i64 1))]⟩,
⟨some 42, none, .call (.c (.fn (.func 103) [] [])) [(.t 41)]⟩,
⟨some 39, none, .mv (.t 42)⟩,
⟨some 43, none, .ext (.t 39) 0⟩,
⟨some 44, none, .ext (.t 39) 1⟩,
⟨some 45, none, .ext (.t 39) 2⟩,
⟨some 12, none, .mv (.t 43)⟩,
⟨some 13, none, .mv (.t 44)⟩,
⟨some 14, none, .mv (.t 45)⟩]
abbrev x177r11 : List XOper := [
⟨some 46, none, .mv (.t 1)⟩,
⟨some 47, none, .mv (.t 8)⟩,
⟨some 48, none, .call (.t 46) [(.t 47)]⟩]
abbrev x177r12 : List XOper := [
⟨some 50, none, .mv (.t 12)⟩,
⟨some 51, none, .bin .add (.t 50) (.c (.int .i64 1))⟩,
⟨some 52, none, .call (.c (.fn (.func 173) [] [])) [(.t 51)]⟩,
⟨some 49, none, .mv (.t 52)⟩,
⟨some 53, none, .ext (.t 49) 0⟩,
⟨some 54, none, .ext (.t 49) 1⟩,
⟨some 15, none, .mv (.t 53)⟩,
⟨some 16, none, .mv (.t 54)⟩]
abbrev x177r13 : List XOper := [
⟨some 55, none, .fa 0 (.t 9)⟩,
⟨some 56, none, .load false 1 (.t 55)⟩,
⟨some 57, none, .mv (.t 15)⟩,
⟨some 58, none, .bin .and (.t 56) (.t 57)⟩,
⟨some 59, none, .mv (.t 5)⟩,
⟨some 60, none, .mv (.t 59)⟩,
⟨some 61, some (60, true), .fa 2 (.t 10)⟩,
⟨some 62, some (60, true), .load false 1 (.t 61)⟩,
⟨some 63, some (60, true), .fa 1 (.t 9)⟩,
⟨some 64, some (60, true), .load false 1 (.t 63)⟩,
⟨some 65, some (60, true), .bin .lss (.t 62) (.t 64)⟩,
⟨some 66, none, .pick (.t 60) (.t 65) (.c (.bool false))⟩,
⟨some 11, none, .mv (.t 58)⟩,
⟨some 5, none, .mv (.t 66)⟩]
abbrev x177r14 : List XOper := [
⟨some 67, none, .fa 0 (.t 9)⟩,
⟨some 68, none, .load false 1 (.t 67)⟩,
⟨some 69, none, .mv (.t 13)⟩,
⟨some 70, none, .bin .add (.t 69) (.c (.int .i64 4))⟩,
⟨some 71, none, .bin .shl (.c (.int .i64 1)) (.t 70)⟩,
⟨some 72, none, .bin .sub (.t 71) (.c (.int .i64 1))⟩,
⟨some 73, none, .bin .and (.t 68) (.t 72)⟩,
⟨some 74, none, .mv (.t 5)⟩,
⟨some 75, none, .mv (.t 74)⟩,
⟨some 76, some (75, true), .fa 1 (.t 10)⟩,
⟨some 77, some (75, true), .load false 1 (.t 76)⟩,
⟨some 78, some (75, true), .fa 2 (.t 9)⟩,
⟨some 79, some (75, true), .load false 1 (.t 78)⟩,
⟨some 80, some (75, true), .bin .gtr (.t 77) (.t 79)⟩,
⟨some 81, none, .pick (.t 75) (.t 80) (.c (.bool false))⟩,
⟨some 11, none, .mv (.t 73)⟩,
⟨some 5, none, .mv (.t 81)⟩]
abbrev x177r15 : List XOper := [
⟨some 82, none, .mv (.t 11)⟩,
⟨some 83, none, .mv (.t 6)⟩,
⟨some 84, none, .mv (.t 83)⟩,
⟨some 85, some (84, true), .mv (.t 11)⟩,
⟨some 86, some (84, true), .bin .neq (.t 85) (.c (.int .i64 0))⟩,
⟨some 87, none, .pick (.t 84) (.t 86) (.c (.bool false))⟩,
⟨some 7, none, .mv (.t 82)⟩,
⟨some 6, none, .mv (.t 87)⟩]
abbrev x177r16 : List XOper := [
⟨some 88, none, .bin .add (.t 25) (.c (.int .i64 1))⟩,
⟨some 25, none, .mv (.t 88)⟩]
abbrev x177l4 : XCode :=
(.seq (.reg 4 x177r4 none)
(.seq (.cond (.t 26)
.skip
(.exit 0))
(.seq (.block 1
(.seq (.reg 5 x177r5 none)
(.seq (.seq (.reg 6 x177r6 none)
(.cond (.t 31)
(.seq (.reg 7 x177r7 none)
(.exit 1))
.skip))
(.seq (.reg 8 x177r8 none)
(.seq (.reg 9 x177r9 none)
(.seq (.reg 10 x177r10 none)
(.seq (.seq (.reg 11 x177r11 none)
(.cond (.t 48)
(.seq (.reg 12 x177r12 none)
(.reg 13 x177r13 (some ⟨[]⟩)))
(.reg 14 x177r14 (some ⟨[]⟩))))
(.reg 15 x177r15 none))))))))
(.reg 16 x177r16 none))))
abbrev x177r17 : List XOper := [
⟨some 89, none, .mv (.t 5)⟩,
⟨some 90, none, .mv (.t 6)⟩,
⟨some 91, none, .call (.c (.fn (.func 189) [] [])) [(.t 89), (.t 90)]⟩,
⟨some 4, none, .mv (.t 91)⟩]
abbrev x177b : XCode :=
(.seq (.reg 0 x177r0 none)
(.seq (.reg 1 x177r1 none)
(.seq (.reg 2 x177r2 none)
(.seq (.seq (.reg 3 x177r3 none)
(.block 0
(.loop x177l4)))
(.seq (.reg 17 x177r17 none)
.ret)))))
def x177 : XFunc := ⟨92, 2, [.tmp 4], x177b⟩
theorem x177_ok : chkF Tryz.prog Tryz.f177 x177 = true := by kernel_rfl
theorem x177_eq : x177.body = x177b ∧ x177.res = [.tmp 4] ∧ x177.np = 2 := ⟨rfl, rfl, rfl⟩
abbrev x178r0 : List XOper := [
⟨some 2, none, .mv (.c (.bool false))⟩]
abbrev x178r1 : List XOper := [
⟨some 2, none, .mv (.c (.bool true))⟩]
abbrev x178b : XCode :=
(.seq (.reg 0 x178r0 none)
(.seq (.reg 1 x178r1 none)
.ret))
def x178 : XFunc := ⟨3, 1, [.tmp 2], x178b⟩
theorem x178_ok : chkF Tryz.prog Tryz.f178 x178 = true := by kernel_rfl
theorem x178_eq : x178.body = x178b ∧ x178.res = [.tmp 2] ∧ x178.np = 1 := ⟨rfl, rfl, rfl⟩
abbrev x179r0 : List XOper := [
⟨some 2, none, .mv (.c (.bool false))⟩]
abbrev x179r1 : List XOper := [
⟨some 2, none, .mv (.c (.bool false))⟩]
abbrev x179b : XCode :=
(.seq (.reg 0 x179r0 none)
(.seq (.reg 1 x179r1 none)
.ret))
def x179 : XFunc := ⟨3, 1, [.tmp 2], x179b⟩
theorem x179_ok : chkF Tryz.prog Tryz.f179 x179 = true := by kernel_rfl
theorem x179_eq : x179.body = x179b ∧ x179.res = [.tmp 2] ∧ x179.np = 1 := ⟨rfl, rfl, rfl⟩
abbrev x180r0 : List XOper := [
⟨some 2, none, .mv (.c (.bool false))⟩]
abbrev x180r1 : List XOper := [
⟨some 3, none, .mv (.t 0)⟩,
⟨some 4, none, .bin .rem (.t 3) (.c (.int .i64 2))⟩,
⟨some 5, none, .bin .eql (.t 4) (.c (.int .i64 0))⟩,
⟨some 2, none, .mv (.t 5)⟩]
abbrev x180b : XCode :=
(.seq (.reg 0 x180r0 none)
(.seq (.reg 1 x180r1 none)
.ret))
def x180 : XFunc := ⟨6, 1, [.tmp 2], x180b⟩
theorem x180_ok : chkF Tryz.prog Tryz.f180 x180 = true := by kernel_rfl
theorem x180_eq : x180.body = x180b ∧ x180.res = [.tmp 2] ∧ x180.np = 1 := ⟨rfl, rfl, rfl⟩
abbrev x181r0 : List XOper := [
⟨some 2, none, .mv (.c (.bool false))⟩]
abbrev x181r1 : List XOper := [
⟨some 3, none, .mv (.t 0)⟩,
⟨some 4, none, .bin .rem (.t 3) (.c (.int .i64 2))⟩,
⟨some 5, none, .bin .eql (.t 4) (.c (.int .i64 1))⟩,
⟨some 2, none, .mv (.t 5)⟩]
abbrev x181b : XCode :=
(.seq (.reg 0 x181r0 none)
(.seq (.reg 1 x181r1 none)
.ret))
def x181 : XFunc := ⟨6, 1, [.tmp 2], x181b⟩
theorem x181_ok : chkF Tryz.prog Tryz.f181 x181 = true := by kernel_rfl
theorem x181_eq : x181.body = x181b ∧ x181.res = [.tmp 2] ∧ x181.np = 1 := ⟨rfl, rfl, rfl⟩
abbrev x182r0 : List XOper := [
⟨some 5, none, .box (.t 1)⟩,
⟨some 6, none, .box (.t 2)⟩,
⟨some 7, none, .box (.t 3)⟩,
⟨some 8, none, .mv (.c (.int .i64 0))⟩]
abbrev x182r1 : List XOper := [
⟨some 12, none, .mv (.t 0)⟩,
⟨some 13, none, .lenV (.t 12)⟩,
⟨some 14, none, .bin .gtr (.t 13) (.c (.int .i64 0))⟩,
⟨some 9, none, .alloc [(.bool false)]⟩,
⟨some 10, none, .alloc [(.bool false)]⟩,
⟨none, none, .store 1 (.t 9) (.t 14)⟩,
⟨none, none, .store 1 (.t 10) (.c (.bool false))⟩]
abbrev x182r2 : List XOper := [
⟨some 11, none, .alloc [.nilf]⟩]
abbrev x182r3 : List XOper := [
⟨some 15, none, .mkf (.func 190) [] [(.t 5), (.t 9), (.t 10), (.t 6), (.t 11), (.t 7)]⟩,
⟨none, none, .store 1 (.t 11) (.t 15)⟩]
abbrev x182r4 : List XOper := [
⟨some 16, none, .mv (.t 0)⟩,
⟨some 17, none, .lenV (.t 16)⟩,
⟨some 18, none, .bin .gtr (.t 17) (.c (.int .i64 0))⟩]
abbrev x182r5 : List XOper := [
⟨some 19, none, .load false 1 (.t 11)⟩,
⟨some 20, none, .mv (.t 0)⟩,
⟨some 21, none, .call (.t 19) [(.t 20), (.c (.int .i64 0)), (.c (.int .i64 0))]⟩]
abbrev x182r6 : List XOper := [
⟨some 22, none, .load false 1 (.t 9)⟩,
⟨some 23, none, .load false 1 (.t 10)⟩,
⟨some 24, none, .call (.c (.fn (.func 189) [] [])) [(.t 22), (.t 23)]⟩,
⟨some 8, none, .mv (.t 24)⟩]
abbrev x182b : XCode :=
(.seq (.reg 0 x182r0 none)
(.seq (.reg 1 x182r1 none)
(.seq (.reg 2 x182r2 none)
(.seq (.reg 3 x182r3 none)
(.seq (.seq (.reg 4 x182r4 none)
(.cond (.t 18)
(.reg 5 x182r5 none)
.skip))
(.seq (.reg 6 x182r6 none)
.ret))))))
def x182 : XFunc := ⟨25, 4, [.tmp 8], x182b⟩
theorem x182_ok : chkF Tryz.prog Tryz.f182 x182 = true := by kernel_rfl
theorem x182_eq : x182.body = x182b ∧ x182.res = [.tmp 8] ∧ x182.np = 4 := ⟨rfl, rfl, rfl⟩
abbrev x189r0 : List XOper := [
⟨some 4, none, .mv (.c (.int .i64 0))⟩]
abbrev x189r1 : List XOper := [
⟨some 6, none, .mv (.t 0)⟩,
⟨some 5, none, .mv (.t 6)⟩]
abbrev x189r2 : List XOper := [
⟨some 4, none, .mv (.c (.int .i64 2))⟩]
abbrev x189r3 : List XOper := [
⟨some 8, none, .mv (.t 1)⟩,
⟨some 7, none, .mv (.t 8)⟩]
abbrev x189r4 : List XOper := [
⟨some 4, none, .mv (.c (.int .i64 1))⟩]
abbrev x189r5 : List XOper := [
⟨some 4, none, .mv (.c (.int .i64 0))⟩]
abbrev x189b : XCode :=
(.seq (.reg 0 x189r0 none)
(.seq (.block 0
(.seq (.reg 1 x189r1 none)
(.cond (.t 5)
(.seq (.reg 2 x189r2 none)
.ret)
(.seq (.reg 3 x189r3 none)
(.cond (.t 7)
(.seq (.reg 4 x189r4 none)
.ret)
.skip)))))
(.seq (.reg 5 x189r5 none)
.ret)))
def x189 : XFunc := ⟨9, 2, [.tmp 4], x189b⟩
theorem x189_ok : chkF Tryz.prog Tryz.f189 x189 = true := by kernel_rfl
theorem x189_eq : x189.body = x189b ∧ x189.res = [.tmp 4] ∧ x189.np = 2 := ⟨rfl, rfl, rfl⟩
abbrev x190r0 : List XOper := [
⟨some 14, none, .mv (.t 0)⟩,
⟨some 15, none, .lenV (.t 14)⟩,
⟨some 16, none, .bin .eql (.t 15) (.c (.int .i64 0))⟩]
abbrev x190r1 : List XOper := [
⟨some 17, none, .mv (.t 1)⟩,
⟨some 18, none, .load false 1 (.t 3)⟩,
⟨some 19, none, .bin .geq (.t 17) (.t 18)⟩,
⟨some 20, none, .mv (.t 19)⟩,
⟨some 21, some (20, false), .mv (.t 2)⟩,
⟨some 22, some (20, false), .load false 1 (.t 3)⟩,
⟨some 23, some (20, false), .bin .geq (.t 21) (.t 22)⟩,
⟨some 24, none, .pick (.t 20) (.c (.bool true)) (.t 23)⟩,
⟨some 12, none, .mv (.t 24)⟩]
abbrev x190r2 : List XOper := [
⟨some 25, none, .load false 1 (.t 4)⟩,
⟨some 26, none, .mv (.t 25)⟩,
⟨some 27, some (26, true), .mv (.t 12)⟩,
⟨some 28, none, .pick (.t 26) (.t 27) (.c (.bool false))⟩,
⟨some 29, none, .load false 1 (.t 5)⟩,
⟨some 30, none, .mv (.t 29)⟩,
⟨some 31, some (30, false), .mv (.t 12)⟩,
⟨some 32, none, .pick (.t 30) (.c (.bool true)) (.t 31)⟩,
⟨none, none, .store 1 (.t 4) (.t 28)⟩,
⟨none, none, .store 1 (.t 5) (.t 32)⟩]
abbrev x190r3 : List XOper := [
⟨some 33, none, .mv (.t 0)⟩,
⟨some 34, none, .iaS 3 (.t 33) (.c (.int .i64 0))⟩,
⟨some 35, none, .fa 0 (.t 34)⟩,
⟨some 36, none, .load false 1 (.t 35)⟩,
⟨some 13, none, .mv (.t 36)⟩]
abbrev x190r4 : List XOper := [
⟨some 37, none, .mv (.t 13)⟩,
⟨some 38, none, .load false 1 (.t 6)⟩,
⟨some 39, none, .bin .and (.t 37) (.t 38)⟩,
⟨some 40, none, .bin .neq (.t 39) (.c (.int .i64 0))⟩]
abbrev x190r5 : List XOper := [
⟨some 41, none, .load false 1 (.t 7)⟩,
⟨some 42, none, .mv (.t 0)⟩,
⟨some 43, none, .slV 3 (.t 42) (some (.c (.int .i64 1))) none none⟩,
⟨some 44, none, .mv (.t 1)⟩,
⟨some 45, none, .bin .add (.t 44) (.c (.int .i64 1))⟩,
⟨some 46, none, .mv (.t 2)⟩,
⟨some 47, none, .call (.t 41) [(.t 43), (.t 45), (.t 46)]⟩]
abbrev x190r6 : List XOper := [
⟨some 48, none, .mv (.t 13)⟩,
⟨some 49, none, .load false 1 (.t 8)⟩,
⟨some 50, none, .bin .and (.t 48) (.t 49)⟩,
⟨some 51, none, .bin .neq (.t 50) (.c (.int .i64 0))⟩]
abbrev x190r7 : List XOper := [
⟨some 52, none, .load false 1 (.t 7)⟩,
⟨some 53, none, .mv (.t 0)⟩,
⟨some 54, none, .slV 3 (.t 53) (some (.c (.int .i64 1))) none none⟩,
⟨some 55, none, .mv (.t 1)⟩,
⟨some 56, none, .mv (.t 2)⟩,
⟨some 57, none, .bin .add (.t 56) (.c (.int .i64 1))⟩,
⟨some 58, none, .call (.t 52) [(.t 54), (.t 55), (.t 57)]⟩]
abbrev x190r8 : List XOper := [
⟨some 59, none, .mv (.t 13)⟩,
⟨some 60, none, .load false 1 (.t 6)⟩,
⟨some 61, none, .load false 1 (.t 8)⟩,
⟨some 62, none, .bin .or (.t 60) (.t 61)⟩,
⟨some 63, none, .bin .andNot (.t 59) (.t 62)⟩,
⟨some 64, none, .bin .neq (.t 63) (.c (.int .i64 0))⟩]
abbrev x190r9 : List XOper := [
⟨some 65, none, .load false 1 (.t 7)⟩,
⟨some 66, none, .mv (.t 0)⟩,
⟨some 67, none, .slV 3 (.t 66) (some (.c (.int .i64 1))) none none⟩,
⟨some 68, none, .mv (.t 1)⟩,
⟨some 69, none, .mv (.t 2)⟩,
⟨some 70, none, .call (.t 65) [(.t 67), (.t 68), (.t 69)]⟩]
abbrev x190b : XCode :=
(.seq (.seq (.reg 0 x190r0 none)
(.cond (.t 16)
(.seq (.reg 1 x190r1 none)
(.seq (.reg 2 x190r2 none)
.ret))
.skip))
(.seq (.reg 3 x190r3 none)
(.seq (.seq (.reg 4 x190r4 none)
(.cond (.t 40)
(.reg 5 x190r5 (some ⟨[]⟩))
.skip))
(.seq (.seq (.reg 6 x190r6 none)
(.cond (.t 51)
(.reg 7 x190r7 (some ⟨[]⟩))
.skip))
(.seq (.reg 8 x190r8 none)
(.cond (.t 64)
(.reg 9 x190r9 (some ⟨[]⟩))
.skip))))))
def x190 : XFunc := ⟨71, 9, [], x190b⟩
theorem x190_ok : chkF Tryz.prog Tryz.f190 x190 = true := by kernel_rfl
theorem x190_eq : x190.body = x190b ∧ x190.res = [] ∧ x190.np = 9 := ⟨rfl, rfl, rfl⟩
abbrev x211r0 : List XOper := [
⟨some 4, none, .mv (.c (.bool false))⟩]
abbrev x211r1 : List XOper := [
⟨some 5, none, .mv (.t 0)⟩,
⟨some 6, none, .nilChk (.t 5)⟩,
⟨some 7, none, .fa 20 (.t 6)⟩,
⟨some 8, none, .load true 5 (.t 7)⟩,
⟨some 9, none, .call (.c (.fn (.func 53) [] [])) [(.t 8)]⟩,
⟨some 10, none, .mv (.t 9)⟩,
⟨some 11, some (10, true), .mv (.t 0)⟩,
⟨some 12, some (10, true), .nilChk (.t 11)⟩,
⟨some 13, some (10, true), .fa 20 (.t 12)⟩,
⟨some 14, some (10, true), .fa 0 (.t 13)⟩,
⟨some 15, some (10, true), .load false 1 (.t 14)⟩,
⟨some 16, some (10, true), .mv (.t 1)⟩,
⟨some 17, some (10, true), .bin .eql (.t 15) (.t 16)⟩,
⟨some 18, none, .pick (.t 10) (.t 17) (.c (.bool false))⟩,
⟨some 19, none, .mv (.t 18)⟩,
⟨some 20, some (19, true), .mv (.t 0)⟩,
⟨some 21, some (19, true), .nilChk (.t 20)⟩,
⟨some 22, some (19, true), .fa 20 (.t 21)⟩,
⟨some 23, some (19, true), .fa 1 (.t 22)⟩,
⟨some 24, some (19, true), .load false 1 (.t 23)⟩,
⟨some 25, some (19, true), .mv (.t 0)⟩,
⟨some 26, some (19, true), .nilChk (.t 25)⟩,
⟨some 27, some (19, true), .fa 0 (.t 26)⟩,
⟨some 28, some (19, true), .fa 5 (.t 27)⟩,
⟨some 29, some (19, true), .load false 1 (.t 28)⟩,
⟨some 30, some (19, true), .bin .leq (.t 24) (.t 29)⟩,
⟨some 31, none, .pick (.t 19) (.t 30) (.c (.bool false))⟩,
⟨some 4, none, .mv (.t 31)⟩]
abbrev x211b : XCode :=
(.seq (.reg 0 x211r0 none)
(.seq (.reg 1 x211r1 (some ⟨[]⟩))
.ret))
def x211 : XFunc := ⟨32, 2, [.tmp 4], x211b⟩
theorem x211_ok : chkF Tryz.prog Tryz.f211 x211 = true := by kernel_rfl
theorem x211_eq : x211.body = x211b ∧ x211.res = [.tmp 4] ∧ x211.np = 2 := ⟨rfl, rfl, rfl⟩
abbrev x213r0 : List XOper := [
⟨some 6, none, .alloc [(.int .i64 0), (.int .i64 0), (.int .i64 0), (.int .i64 0), (.int .i64 0), (.int .i64 0), (.int .i64 0), (.int .i64 0), (.int .i64 0), (.int .i64 0), (.int .i64 0), (.int .i64 0)]⟩]
abbrev x213r1 : List XOper := [
⟨some 14, none, .mv (.t 0)⟩,
⟨some 15, none, .nilChk (.t 14)⟩,
⟨some 16, none, .fa 20 (.t 15)⟩,
⟨some 17, none, .fa 1 (.t 16)⟩,
⟨some 18, none, .load false 1 (.t 17)⟩,
⟨some 19, none, .mv (.t 0)⟩,
⟨some 20, none, .nilChk (.t 19)⟩,
⟨some 21, none, .fa 0 (.t 20)⟩,
⟨some 22, none, .fa 5 (.t 21)⟩,
⟨some 23, none, .load false 1 (.t 22)⟩,
⟨some 24, none, .bin .lss (.t 18) (.t 23)⟩]
abbrev x213r2 : List XOper := [
⟨some 26, none, .mv (.t 0)⟩,
⟨some 27, none, .mv (.t 0)⟩,
⟨some 28, none, .nilChk (.t 27)⟩,
⟨some 29, none, .fa 20 (.t 28)⟩,
⟨some 30, none, .load true 5 (.t 29)⟩,
⟨some 31, none, .mv (.t 1)⟩,
⟨some 32, none, .call (.c (.fn (.func 217) [] [])) [(.t 30), (.t 31)]⟩,
⟨some 25, none, .mv (.t 32)⟩,
⟨some 33, none, .ext (.t 25) 0⟩,
⟨some 34, none, .ext (.t 25) 1⟩,
⟨some 35, none, .nilChk (.t 26)⟩,
⟨some 36, none, .fa 20 (.t 35)⟩,
⟨none, none, .store 5 (.t 36) (.t 33)⟩]
abbrev x213r3 : List XOper := [
⟨some 37, none, .build [(.int .i64 0), (.int .i64 0), (.int .i64 0), (.int .i64 0), (.int .i64 0), (.int .i64 0), (.int .i64 0), (.int .i64 0), (.int .i64 0), (.int .i64 0), (.int .i64 0), (.int .i64 0)] [(0, 1, (.c (.int .i64 1)))]⟩,
⟨none, none, .store 12 (.t 6) (.t 37)⟩]
abbrev x213r4 : List XOper := [
⟨some 7, none, .mv (.c (.int .i64 0))⟩]
abbrev x213r5 : List XOper := [
⟨some 38, none, .mv (.t 1)⟩,
⟨some 39, none, .lenV (.t 38)⟩,
⟨some 40, none, .mv (.c (.int .i64 0))⟩]
abbrev x213r6 : List XOper := [
⟨some 41, none, .bin .lss (.t 40) (.t 39)⟩]
abbrev x213r7 : List XOper := [
⟨some 42, none, .iaS 1 (.t 38) (.t 40)⟩,
⟨some 43, none, .load false 1 (.t 42)⟩,
⟨some 9, none, .mv (.t 43)⟩]
abbrev x213r8 : List XOper := [
⟨some 44, none, .mv (.t 7)⟩,
⟨some 45, none, .mv (.t 9)⟩,
⟨some 46, none, .bin .add (.t 44) (.t 45)⟩,
⟨some 7, none, .mv (.t 46)⟩]
abbrev x213r9 : List XOper := [
⟨some 47, none, .bin .add (.t 40) (.c (.int .i64 1))⟩,
⟨some 40, none, .mv (.t 47)⟩]
abbrev x213l6 : XCode :=
(.seq (.reg 6 x213r6 none)
(.seq (.cond (.t 41)
.skip
(.exit 0))
(.seq (.block 1
(.seq (.reg 7 x213r7 none)
(.reg 8 x213r8 none)))
(.reg 9 x213r9 none))))
abbrev x213r10 : List XOper := [
⟨some 49, none, .mv (.t 0)⟩,
⟨some 50, none, .nilChk (.t 49)⟩,
⟨some 51, none, .fa 20 (.t 50)⟩,
⟨some 52, none, .load true 5 (.t 51)⟩,
⟨some 53, none, .mv (.t 7)⟩,
⟨some 54, none, .call (.c (.fn (.func 21) [] [])) [(.t 52), (.t 53)]⟩,
⟨some 48, none, .mv (.t 54)⟩,
⟨some 55, none, .ext (.t 48) 0⟩,
⟨some 56, none, .ext (.t 48) 1⟩,
⟨some 10, none, .alloc [(.int .i64 0), (.int .i64 0), (.int .i64 0), (.int .u64 0), (.int .u64 0)]⟩,
⟨none, none, .store 5 (.t 10) (.t 55)⟩,
⟨some 11, none, .mv (.t 56)⟩]
abbrev x213r11 : List XOper := [
⟨some 58, none, .mv (.t 0)⟩,
⟨some 59, none, .nilChk (.t 58)⟩,
⟨some 60, none, .fa 20 (.t 59)⟩,
⟨some 61, none, .load true 5 (.t 60)⟩,
⟨some 62, none, .mv (.t 2)⟩,
⟨some 63, none, .call (.c (.fn (.func 218) [] [])) [(.t 61), (.t 62)]⟩,
⟨some 57, none, .mv (.t 63)⟩,
⟨some 64, none, .ext (.t 57) 0⟩,
⟨some 65, none, .ext (.t 57) 1⟩,
⟨some 12, none, .mv (.t 64)⟩,
⟨some 13, none, .mv (.t 65)⟩]
abbrev x213r12 : List XOper := [
⟨some 66, none, .mv (.t 0)⟩,
⟨some 67, none, .load true 5 (.t 10)⟩,
⟨some 68, none, .mv (.t 12)⟩,
⟨some 69, none, .call (.c (.fn (.func 219) [] [])) [(.t 66), (.t 67), (.t 68)]⟩,
⟨none, none, .store 12 (.t 6) (.t 69)⟩]
abbrev x213b : XCode :=
(.seq (.reg 0 x213r0 none)
(.seq (.seq (.reg 1 x213r1 (some ⟨[]⟩))
(.cond (.t 24)
(.seq (.reg 2 x213r2 none)
(.seq (.reg 3 x213r3 none)
.ret))
.skip))
(.seq (.reg 4 x213r4 none)
(.seq (.seq (.reg 5 x213r5 none)
(.block 0
(.loop x213l6)))
(.seq (.reg 10 x213r10 none)
(.seq (.reg 11 x213r11 none)
(.seq (.reg 12 x213r12 none)
.ret)))))))
def x213 : XFunc := ⟨70, 3, [.cell 6 true 12], x213b⟩
theorem x213_ok : chkF Tryz.prog Tryz.f213 x213 = true := by kernel_rfl
theorem x213_eq : x213.body = x213b ∧ x213.res = [.cell 6 true 12] ∧ x213.np = 3 := ⟨rfl, rfl, rfl⟩
abbrev x214r0 : List XOper := [
⟨some 2, none, .mv (.c (.int .i64 0))⟩]
abbrev x214r1 : List XOper := [
⟨some 5, none, .mv (.t 0)⟩,
⟨some 6, none, .lenV (.t 5)⟩,
⟨some 7, none, .bin .lss (.t 6) (.c (.int .i64 1))⟩]
abbrev x214r2 : List XOper := [
⟨some 8, none, .mki 9 (.c (.str ⟨#[115, 108, 105, 99, 101, 115, 46, 77, 97, 120, 58, 32, 101, 109, 112, 116, 121, 32, 108, 105, 115, 116]⟩))⟩,
⟨none, none, .bad⟩]
abbrev x214r3 : List XOper := [
⟨some 9, none, .mv (.t 0)⟩,
⟨some 10, none, .iaS 1 (.t 9) (.c (.int .i64 0))⟩,
⟨some 11, none, .load false 1 (.t 10)⟩,
⟨some 3, none, .mv (.t 11)⟩]
abbrev x214r4 : List XOper := [
⟨some 4, none, .mv (.c (.int .i64 1))⟩]
abbrev x214r5 : List XOper := [
⟨some 12, none, .mv (.t 4)⟩,
⟨some 13, none, .mv (.t 0)⟩,
⟨some 14, none, .lenV (.t 13)⟩,
⟨some 15, none, .bin .lss (.t 12) (.t 14)⟩]
abbrev x214r7 : List XOper := [
⟨some 18, none, .mv (.t 3)⟩,
⟨some 19, none, .mv (.t 0)⟩,
⟨some 20, none, .mv (.t 4)⟩,
⟨some 21, none, .iaS 1 (.t 19) (.t 20)⟩,
⟨some 22, none, .load false 1 (.t 21)⟩,
⟨some 23, none, .mnx true (.t 18) [(.t 22)]⟩,
⟨some 3, none, .mv (.t 23)⟩]
abbrev x214r6 : List XOper := [
⟨some 16, none, .mv (.t 4)⟩,
⟨some 17, none, .bin .add (.t 16) (.c (.int .i64 1))⟩,
⟨some 4, none, .mv (.t 17)⟩]
abbrev x214l5 : XCode :=
(.seq (.seq (.reg 5 x214r5 none)
(.cond (.t 15)
.skip
(.exit 0)))
(.seq (.block 1
(.reg 7 x214r7 none))
(.reg 6 x214r6 none)))
abbrev x214r8 : List XOper := [
⟨some 24, none, .mv (.t 3)⟩,
⟨some 2, none, .mv (.t 24)⟩]
abbrev x214b : XCode :=
(.seq (.reg 0 x214r0 none)
(.seq (.seq (.reg 1 x214r1 none)
(.cond (.t 7)
(.reg 2 x214r2 none)
.skip))
(.seq (.reg 3 x214r3 none)
(.seq (.seq (.reg 4 x214r4 none)
(.block 0
(.loop x214l5)))
(.seq (.reg 8 x214r8 none)
.ret)))))
def x214 : XFunc := ⟨25, 1, [.tmp 2], x214b⟩
theorem x214_ok : chkF Tryz.prog Tryz.f214 x214 = true := by kernel_rfl
theorem x214_eq : x214.body = x214b ∧ x214.res = [.tmp 2] ∧ x214.np = 1 := ⟨rfl, rfl, rfl⟩
abbrev x215r0 : List XOper := [
⟨some 2, none, .mv (.c (.int .i64 0))⟩]
abbrev x215r1 : List XOper := [
⟨some 5, none, .mv (.t 0)⟩,
⟨some 6, none, .lenV (.t 5)⟩,
⟨some 7, none, .bin .lss (.t 6) (.c (.int .i64 1))⟩]
abbrev x215r2 : List XOper := [
⟨some 8, none, .mki 9 (.c (.str ⟨#[115, 108, 105, 99, 101, 115, 46, 77, 105, 110, 58, 32, 101, 109, 112, 116, 121, 32, 108, 105, 115, 116]⟩))⟩,
⟨none, none, .bad⟩]
abbrev x215r3 : List XOper := [
⟨some 9, none, .mv (.t 0)⟩,
⟨some 10, none, .iaS 1 (.t 9) (.c (.int .i64 0))⟩,
⟨some 11, none, .load false 1 (.t 10)⟩,
⟨some 3, none, .mv (.t 11)⟩]
abbrev x215r4 : List XOper := [
⟨some 4, none, .mv (.c (.int .i64 1))⟩]
abbrev x215r5 : List XOper := [
⟨some 12, none, .mv (.t 4)⟩,
⟨some 13, none, .mv (.t 0)⟩,
⟨some 14, none, .lenV (.t 13)⟩,
⟨some 15, none, .bin .lss (.t 12) (.t 14)⟩]
abbrev x215r7 : List XOper := [
⟨some 18, none, .mv (.t 3)⟩,
⟨some 19, none, .mv (.t 0)⟩,
⟨some 20, none, .mv (.t 4)⟩,
⟨some 21, none, .iaS 1 (.t 19) (.t 20)⟩,
⟨some 22, none, .load false 1 (.t 21)⟩,
⟨some 23, none, .mnx false (.t 18) [(.t 22)]⟩,
⟨some 3, none, .mv (.t 23)⟩]
abbrev x215r6 : List XOper := [
⟨some 16, none, .mv (.t 4)⟩,
⟨some 17, none, .bin .add (.t 16) (.c (.int .i64 1))⟩,
⟨some 4, none, .mv (.t 17)⟩]
abbrev x215l5 : XCode :=
(.seq (.seq (.reg 5 x215r5 none)
(.cond (.t 15)
.skip
(.exit 0)))
(.seq (.block 1
(.reg 7 x215r7 none))
(.reg 6 x215r6 none)))
abbrev x215r8 : List XOper := [
⟨some 24, none, .mv (.t 3)⟩,
⟨some 2, none, .mv (.t 24)⟩]
abbrev x215b : XCode :=
(.seq (.reg 0 x215r0 none)
(.seq (.seq (.reg 1 x215r1 none)
(.cond (.t 7)
(.reg 2 x215r2 none)
.skip))
(.seq (.reg 3 x215r3 none)
(.seq (.seq (.reg 4 x215r4 none)
(.block 0
(.loop x215l5)))
(.seq (.reg 8 x215r8 none)
.ret)))))
def x215 : XFunc := ⟨25, 1, [.tmp 2], x215b⟩
theorem x215_ok : chkF Tryz.prog Tryz.f215 x215 = true := by kernel_rfl
theorem x215_eq : x215.body = x215b ∧ x215.res = [.tmp 2] ∧ x215.np = 1 := ⟨rfl, rfl, rfl⟩
abbrev x217r0 : List XOper := [
⟨some 2, none, .box (.t 0)⟩,
⟨some 4, none, .alloc [(.int .i64 0), (.int .i64 0), (.int .i64 0), (.int .i64 0), (.int .i64 0)]⟩,
⟨some 5, none, .mv (.c (.int .i64 0))⟩]
abbrev x217r1 : List XOper := [
⟨some 9, none, .load true 5 (.t 2)⟩,
⟨some 10, none, .call (.c (.fn (.func 53) [] [])) [(.t 9)]⟩,
⟨some 11, none, .un .not (.t 10)⟩,
⟨some 12, none, .mv (.t 11)⟩,
⟨some 13, some (12, false), .mv (.t 1)⟩,
⟨some 14, some (12, false), .lenV (.t 13)⟩,
⟨some 15, some (12, false), .fa 0 (.t 2)⟩,
⟨some 16, some (12, false), .load false 1 (.t 15)⟩,
⟨some 17, some (12, false), .bin .neq (.t 14) (.t 16)⟩,
⟨some 18, none, .pick (.t 12) (.c (.bool true)) (.t 17)⟩,
⟨some 19, none, .mv (.t 18)⟩,
⟨some 20, some (19, false), .mv (.t 1)⟩,
⟨some 21, some (19, false), .call (.c (.fn (.func 117) [] [])) [(.t 20), (.c (.fn (.func 220) [] []))]⟩,
⟨some 22, none, .pick (.t 19) (.c (.bool true)) (.t 21)⟩,
⟨some 8, none, .mv (.t 22)⟩]
abbrev x217r2 : List XOper := [
⟨some 23, none, .build [(.int .i64 0), (.int .i64 0), (.int .i64 0), (.int .i64 0), (.int .i64 0)] []⟩,
⟨none, none, .store 5 (.t 4) (.t 23)⟩,
⟨some 5, none, .mv (.c (.int .i64 1))⟩]
abbrev x217r3 : List XOper := [
⟨some 25, none, .fa 1 (.t 2)⟩,
⟨some 26, none, .load false 1 (.t 25)⟩,
⟨some 27, none, .bin .eql (.t 26) (.c (.int .i64 25))⟩,
⟨some 24, none, .mv (.t 27)⟩]
abbrev x217r4 : List XOper := [
⟨some 28, none, .build [(.int .i64 0), (.int .i64 0), (.int .i64 0), (.int .i64 0), (.int .i64 0)] []⟩,
⟨none, none, .store 5 (.t 4) (.t 28)⟩,
⟨some 5, none, .mv (.c (.int .i64 11))⟩]
abbrev x217r5 : List XOper := [
⟨some 29, none, .fa 3 (.t 2)⟩,
⟨some 30, none, .load false 1 (.t 29)⟩,
⟨some 31, none, .load true 5 (.t 2)⟩,
⟨some 32, none, .call (.c (.fn (.func 54) [] [])) [(.t 31)]⟩,
⟨some 33, none, .mv (.t 1)⟩,
⟨some 34, none, .inv "datum/base.reach" (.t 32) [(.t 33)]⟩,
⟨some 35, none, .bin .add (.t 30) (.t 34)⟩,
⟨some 36, none, .fa 3 (.t 2)⟩,
⟨none, none, .store 1 (.t 36) (.t 35)⟩]
abbrev x217r6 : List XOper := [
⟨some 37, none, .mv (.t 1)⟩,
⟨some 38, none, .lenV (.t 37)⟩,
⟨some 39, none, .mv (.c (.int .i64 0))⟩]
abbrev x217r7 : List XOper := [
⟨some 40, none, .bin .lss (.t 39) (.t 38)⟩]
abbrev x217r8 : List XOper := [
⟨some 41, none, .iaS 1 (.t 37) (.t 39)⟩,
⟨some 42, none, .load false 1 (.t 41)⟩,
⟨some 7, none, .mv (.t 42)⟩]
abbrev x217r9 : List XOper := [
⟨some 43, none, .fa 2 (.t 2)⟩,
⟨some 44, none, .load false 1 (.t 43)⟩,
⟨some 45, none, .mv (.t 7)⟩,
⟨some 46, none, .bin .add (.t 44) (.t 45)⟩,
⟨some 47, none, .fa 2 (.t 2)⟩,
⟨none, none, .store 1 (.t 47) (.t 46)⟩]
abbrev x217r10 : List XOper := [
⟨some 48, none, .mv (.t 7)⟩,
⟨some 49, none, .fa 4 (.t 2)⟩,
⟨none, none, .store 1 (.t 49) (.t 48)⟩]
abbrev x217r11 : List XOper := [
⟨some 50, none, .bin .add (.t 39) (.c (.int .i64 1))⟩,
⟨some 39, none, .mv (.t 50)⟩]
abbrev x217l7 : XCode :=
(.seq (.reg 7 x217r7 none)
(.seq (.cond (.t 40)
.skip
(.exit 1))
(.seq (.block 2
(.seq (.reg 8 x217r8 none)
(.seq (.reg 9 x217r9 none)
(.reg 10 x217r10 none))))
(.reg 11 x217r11 none))))
abbrev x217r12 : List XOper := [
⟨some 51, none, .fa 1 (.t 2)⟩,
⟨some 52, none, .load false 1 (.t 51)⟩,
⟨some 53, none, .bin .add (.t 52) (.c (.int .i64 1))⟩,
⟨some 54, none, .fa 1 (.t 2)⟩,
⟨none, none, .store 1 (.t 54) (.t 53)⟩]
abbrev x217r13 : List XOper := [
⟨some 55, none, .load true 5 (.t 2)⟩,
⟨none, none, .store 5 (.t 4) (.t 55)⟩,
⟨some 5, none, .mv (.c (.int .i64 0))⟩]
abbrev x217b : XCode :=
(.seq (.reg 0 x217r0 none)
(.seq (.block 0
(.seq (.reg 1 x217r1 none)
(.cond (.t 8)
(.seq (.reg 2 x217r2 none)
.ret)
(.seq (.reg 3 x217r3 none)
(.cond (.t 24)
(.seq (.reg 4 x217r4 none)
.ret)
.skip)))))
(.seq (.reg 5 x217r5 (some ⟨[(1, 3), (1, 5)]⟩))
(.seq (.seq (.reg 6 x217r6 none)
(.block 1
(.loop x217l7)))
(.seq (.reg 12 x217r12 none)
(.seq (.reg 13 x217r13 none)
.ret))))))
def x217 : XFunc := ⟨56, 2, [.cell 4 true 5, .tmp 5], x217b⟩
theorem x217_ok : chkF Tryz.prog Tryz.f217 x217 = true := by kernel_rfl
theorem x217_eq : x217.body = x217b ∧ x217.res = [.cell 4 true 5, .tmp 5] ∧ x217.np = 2 := ⟨rfl, rfl, rfl⟩
abbrev x218r0 : List XOper := [
⟨some 2, none, .box (.t 0)⟩,
⟨some 4, none, .mv (.c (.int .i64 0))⟩,
⟨some 5, none, .mv (.c (.int .i64 0))⟩]
abbrev x218r1 : List XOper := [
⟨some 14, none, .load true 5 (.t 2)⟩,
⟨some 15, none, .call (.c (.fn (.func 53) [] [])) [(.t 14)]⟩,
⟨some 16, none, .un .not (.t 15)⟩,
⟨some 17, none, .mv (.t 16)⟩,
⟨some 18, some (17, false), .mv (.t 1)⟩,
⟨some 19, some (17, false), .bin .lss (.t 18) (.c (.int .i64 0))⟩,
⟨some 20, none, .pick (.t 17) (.c (.bool true)) (.t 19)⟩,
⟨some 21, none, .mv (.t 20)⟩,
⟨some 22, some (21, false), .mv (.t 1)⟩,
⟨some 23, some (21, false), .bin .gtr (.t 22) (.c (.int .i64 2000000))⟩,
⟨some 24, none, .pick (.t 21) (.c (.bool true)) (.t 23)⟩,
⟨some 13, none, .mv (.t 24)⟩]
abbrev x218r2 : List XOper := [
⟨some 4, none, .mv (.c (.int .i64 0))⟩,
⟨some 5, none, .mv (.c (.int .i64 1))⟩]
abbrev x218r3 : List XOper := [
⟨some 26, none, .fa 1 (.t 2)⟩,
⟨some 27, none, .load false 1 (.t 26)⟩,
⟨some 28, none, .bin .lss (.t 27) (.c (.int .i64 2))⟩,
⟨some 25, none, .mv (.t 28)⟩]
abbrev x218r4 : List XOper := [
⟨some 4, none, .mv (.c (.int .i64 0))⟩,
⟨some 5, none, .mv (.c (.int .i64 12))⟩]
abbrev x218r5 : List XOper := [
⟨some 30, none, .load true 5 (.t 2)⟩,
⟨some 31, none, .call (.c (.fn (.func 54) [] [])) [(.t 30)]⟩,
⟨some 32, none, .inv "datum/base.ranges" (.t 31) []⟩,
⟨some 29, none, .mv (.t 32)⟩,
⟨some 33, none, .ext (.t 29) 0⟩,
⟨some 34, none, .ext (.t 29) 1⟩,
⟨some 6, none, .mv (.t 33)⟩,
⟨some 7, none, .mv (.t 34)⟩]
abbrev x218r6 : List XOper := [
⟨some 36, none, .mv (.t 6)⟩,
⟨some 37, none, .call (.c (.fn (.func 221) [] [])) [(.c (.int .i64 1)), (.t 36)]⟩,
⟨some 35, none, .mv (.t 37)⟩,
⟨some 38, none, .ext (.t 35) 0⟩,
⟨some 39, none, .ext (.t 35) 1⟩,
⟨some 8, none, .mv (.t 38)⟩,
⟨some 9, none, .mv (.t 39)⟩]
abbrev x218r7 : List XOper := [
⟨some 41, none, .mv (.t 6)⟩,
⟨some 42, none, .call (.c (.fn (.func 221) [] [])) [(.c (.int .i64 2)), (.t 41)]⟩,
⟨some 40, none, .mv (.t 42)⟩,
⟨some 43, none, .ext (.t 40) 0⟩,
⟨some 44, none, .ext (.t 40) 1⟩,
⟨some 10, none, .mv (.t 43)⟩,
⟨some 11, none, .mv (.t 44)⟩]
abbrev x218r8 : List XOper := [
⟨some 45, none, .mv (.t 1)⟩,
⟨some 46, none, .mv (.t 7)⟩,
⟨some 47, none, .bin .mul (.t 45) (.t 46)⟩,
⟨some 48, none, .bin .mul (.t 47) (.c (.int .i64 10000))⟩,
⟨some 12, none, .mv (.t 48)⟩]
abbrev x218r9 : List XOper := [
⟨some 50, none, .mv (.t 12)⟩,
⟨some 51, none, .mv (.t 10)⟩,
⟨some 52, none, .fa 3 (.t 2)⟩,
⟨some 53, none, .load false 1 (.t 52)⟩,
⟨some 54, none, .bin .mul (.t 51) (.t 53)⟩,
⟨some 55, none, .bin .gtr (.t 50) (.t 54)⟩,
⟨some 49, none, .mv (.t 55)⟩]
abbrev x218r10 : List XOper := [
⟨some 4, none, .mv (.c (.int .i64 1))⟩,
⟨some 5, none, .mv (.c (.int .i64 0))⟩]
abbrev x218r11 : List XOper := [
⟨some 57, none, .mv (.t 12)⟩,
⟨some 58, none, .mv (.t 8)⟩,
⟨some 59, none, .fa 3 (.t 2)⟩,
⟨some 60, none, .load false 1 (.t 59)⟩,
⟨some 61, none, .bin .mul (.t 58) (.t 60)⟩,
⟨some 62, none, .bin .lss (.t 57) (.t 61)⟩,
⟨some 56, none, .mv (.t 62)⟩]
abbrev x218r12 : List XOper := [
⟨some 4, none, .mv (.c (.int .i64 (-1)))⟩,
⟨some 5, none, .mv (.c (.int .i64 0))⟩]
abbrev x218r13 : List XOper := [
⟨some 4, none, .mv (.c (.int .i64 0))⟩,
⟨some 5, none, .mv (.c (.int .i64 0))⟩]
abbrev x218b : XCode :=
(.seq (.reg 0 x218r0 none)
(.seq (.block 0
(.seq (.reg 1 x218r1 none)
(.cond (.t 13)
(.seq (.reg 2 x218r2 none)
.ret)
(.seq (.reg 3 x218r3 none)
(.cond (.t 25)
(.seq (.reg 4 x218r4 none)
.ret)
.skip)))))
(.seq (.reg 5 x218r5 none)
(.seq (.reg 6 x218r6 none)
(.seq (.reg 7 x218r7 none)
(.seq (.seq (.reg 8 x218r8 none)
(.block 1
(.seq (.reg 9 x218r9 none)
(.cond (.t 49)
(.seq (.reg 10 x218r10 none)
.ret)
(.seq (.reg 11 x218r11 none)
(.cond (.t 56)
(.seq (.reg 12 x218r12 none)
.ret)
.skip))))))
(.seq (.reg 13 x218r13 none)
.ret)))))))
def x218 : XFunc := ⟨63, 2, [.tmp 4, .tmp 5], x218b⟩
theorem x218_ok : chkF Tryz.prog Tryz.f218 x218 = true := by kernel_rfl
theorem x218_eq : x218.body = x218b ∧ x218.res = [.tmp 4, .tmp 5] ∧ x218.np = 2 := ⟨rfl, rfl, rfl⟩
abbrev x219r0 : List XOper := [
⟨some 4, none, .box (.t 1)⟩,
⟨some 6, none, .alloc [(.int .i64 0), (.int .i64 0), (.int .i64 0), (.int .i64 0), (.int .i64 0), (.int .i64 0), (.int .i64 0), (.int .i64 0), (.int .i64 0), (.int .i64 0), (.int .i64 0), (.int .i64 0)]⟩]
abbrev x219r1 : List XOper := [
⟨some 13, none, .load true 5 (.t 4)⟩,
⟨some 14, none, .call (.c (.fn (.func 222) [] [])) [(.t 13), (.c (.int .i64 1000))]⟩,
⟨some 12, none, .mv (.t 14)⟩,
⟨some 15, none, .ext (.t 12) 0⟩,
⟨some 16, none, .ext (.t 12) 1⟩,
⟨some 7, none, .alloc [(.int .i64 0), (.int .i64 0), (.int .i64 0), (.int .i64 0), (.int .i64 0), (.int .i64 0), (.int .i64 0), (.int .i64 0)]⟩,
⟨none, none, .store 8 (.t 7) (.t 15)⟩,
⟨some 8, none, .mv (.t 16)⟩]
abbrev x219r2 : List XOper := [
⟨some 18, none, .load true 5 (.t 4)⟩,
⟨some 19, none, .call (.c (.fn (.func 223) [] [])) [(.t 18), (.c (.int .i64 1000))]⟩,
⟨some 17, none, .mv (.t 19)⟩,
⟨some 20, none, .ext (.t 17) 0⟩,
⟨some 21, none, .ext (.t 17) 1⟩,
⟨some 9, none, .mv (.t 20)⟩,
⟨some 10, none, .mv (.t 21)⟩]
abbrev x219r3 : List XOper := [
⟨some 22, none, .mv (.t 2)⟩,
⟨some 23, none, .build [(.int .i64 0), (.int .i64 0), (.int .i64 0), (.int .i64 0), (.int .i64 0), (.int .i64 0), (.int .i64 0), (.int .i64 0), (.int .i64 0), (.int .i64 0), (.int .i64 0), (.int .i64 0)] [(0, 1, (.c (.int .i64 2))), (2, 1, (.t 22))]⟩,
⟨some 11, none, .alloc [(.int .i64 0), (.int .i64 0), (.int .i64 0), (.int .i64 0), (.int .i64 0), (.int .i64 0), (.int .i64 0), (.int .i64 0), (.int .i64 0), (.int .i64 0), (.int .i64 0), (.int .i64 0)]⟩,
⟨none, none, .store 12 (.t 11) (.t 23)⟩]
abbrev x219r4 : List XOper := [
⟨some 25, none, .load true 8 (.t 7)⟩,
⟨some 26, none, .call (.c (.fn (.func 224) [] [])) [(.t 25)]⟩,
⟨some 24, none, .mv (.t 26)⟩,
⟨some 27, none, .ext (.t 24) 0⟩,
⟨some 28, none, .ext (.t 24) 1⟩,
⟨some 29, none, .fa 1 (.t 11)⟩,
⟨none, none, .store 1 (.t 29) (.t 27)⟩]
abbrev x219r5 : List XOper := [
⟨some 31, none, .mv (.t 0)⟩,
⟨some 32, none, .mv (.t 0)⟩,
⟨some 33, none, .nilChk (.t 32)⟩,
⟨some 34, none, .fa 43 (.t 33)⟩,
⟨some 35, none, .load false 1 (.t 34)⟩,
⟨some 36, none, .mv (.t 9)⟩,
⟨some 37, none, .call (.c (.fn (.func 225) [] [])) [(.t 35), (.t 36)]⟩,
⟨some 30, none, .mv (.t 37)⟩,
⟨some 38, none, .ext (.t 30) 0⟩,
⟨some 39, none, .ext (.t 30) 1⟩,
⟨some 40, none, .nilChk (.t 31)⟩,
⟨some 41, none, .fa 43 (.t 40)⟩,
⟨none, none, .store 1 (.t 41) (.t 38)⟩]
abbrev x219r6 : List XOper := [
⟨some 43, none, .mv (.t 0)⟩,
⟨some 44, none, .nilChk (.t 43)⟩,
⟨some 45, none, .fa 43 (.t 44)⟩,
⟨some 46, none, .load false 1 (.t 45)⟩,
⟨some 47, none, .call (.c (.fn (.func 59) [] [])) [(.t 46)]⟩,
⟨some 42, none, .mv (.t 47)⟩,
⟨some 48, none, .ext (.t 42) 0⟩,
⟨some 49, none, .ext (.t 42) 1⟩,
⟨some 50, none, .fa 4 (.t 11)⟩,
⟨none, none, .store 8 (.t 50) (.t 48)⟩]
abbrev x219r7 : List XOper := [
⟨some 51, none, .load true 12 (.t 11)⟩,
⟨none, none, .store 12 (.t 6) (.t 51)⟩]
abbrev x219b : XCode :=
(.seq (.reg 0 x219r0 none)
(.seq (.reg 1 x219r1 none)
(.seq (.reg 2 x219r2 none)
(.seq (.reg 3 x219r3 none)
(.seq (.reg 4 x219r4 none)
(.seq (.reg 5 x219r5 none)
(.seq (.reg 6 x219r6 none)
(.seq (.reg 7 x219r7 none)
.ret))))))))
def x219 : XFunc := ⟨52, 3, [.cell 6 true 12], x219b⟩
theorem x219_ok : chkF Tryz.prog Tryz.f219 x219 = true := by kernel_rfl
theorem x219_eq : x219.body = x219b ∧ x219.res = [.cell 6 true 12] ∧ x219.np = 3 := ⟨rfl, rfl, rfl⟩
abbrev x220r0 : List XOper := [
⟨some 2, none, .mv (.c (.bool false))⟩]
abbrev x220r1 : List XOper := [
⟨some 3, none, .mv (.t 0)⟩,
⟨some 4, none, .call (.c (.fn (.func 91) [] [])) [(.t 3)]⟩,
⟨some 5, none, .un .not (.t 4)⟩,
⟨some 2, none, .mv (.t 5)⟩]
abbrev x220b : XCode :=
(.seq (.reg 0 x220r0 none)
(.seq (.reg 1 x220r1 none)
.ret))
def x220 : XFunc := ⟨6, 1, [.tmp 2], x220b⟩
theorem x220_ok : chkF Tryz.prog Tryz.f220 x220 = true := by kernel_rfl
theorem x220_eq : x220.body = x220b ∧ x220.res = [.tmp 2] ∧ x220.np = 1 := ⟨rfl, rfl, rfl⟩
abbrev x221r0 : List XOper := [
⟨some 4, none, .mv (.c (.int .i64 0))⟩,
⟨some 5, none, .mv (.c (.int .i64 0))⟩]
abbrev x221r1 : List XOper := [
⟨some 7, none, .mv (.t 0)⟩,
⟨some 8, none, .call (.c (.fn (.func 226) [] [])) [(.t 7)]⟩,
⟨some 9, none, .un .not (.t 8)⟩,
⟨some 6, none, .mv (.t 9)⟩]
abbrev x221r2 : List XOper := [
⟨some 4, none, .mv (.c (.int .i64 0))⟩,
⟨some 5, none, .mv (.c (.int .i64 1))⟩]
abbrev x221r3 : List XOper := [
⟨some 11, none, .mv (.t 1)⟩,
⟨some 12, none, .call (.c (.fn (.func 227) [] [])) [(.t 11)]⟩,
⟨some 13, none, .un .not (.t 12)⟩,
⟨some 10, none, .mv (.t 13)⟩]
abbrev x221r4 : List XOper := [
⟨some 4, none, .mv (.c (.int .i64 0))⟩,
⟨some 5, none, .mv (.c (.int .i64 3))⟩]
abbrev x221r5 : List XOper := [
⟨some 14, none, .alloc [(.int .u32 0), (.int .i32 0), (.int .u32 0), (.int .i64 0), (.int .i64 0), (.int .i64 0), (.int .i64 0), (.int .i64 0), (.int .i64 0), (.int .i64 0), (.int .i64 0), (.int .i64 0), (.int .i64 0), (.int .i64 0), (.int .i64 0), (.int .i64 0), (.int .i64 0), (.int .i64 0), (.int .i64 0), (.int .i64 0), (.int .i64 0), (.int .i64 0), (.int .i64 0), (.int .i64 0), (.int .i64 0), (.int .i64 0), (.int .i64 0), (.int .i64 0), (.int .i64 0), (.int .i64 0), (.int .i64 0), (.int .i64 0), (.int .i64 0), (.int .i64 0), (.int .i64 0), (.int .i64 0), (.int .i64 0), (.int .i64 0), (.int .i64 0), (.int .i64 0), (.int .i64 0), (.int .i64 0), (.int .i64 0), (.int .i64 0), (.int .i64 0), (.int .i64 0), (.int .i64 0), (.int .i64 0), (.int .i64 0), (.int .i64 0), (.int .i64 0), (.int .i64 0), (.int .i64 0), (.int .i64 0), (.int .i64 0), (.int .i64 0), (.int .i64 0), (.int .i64 0), (.int .i64 0), (.int .i64 0), (.int .i64 0), (.int .i64 0), (.int .i64 0), (.int .i64 0), (.int .i64 0), (.int .i64 0)]⟩,
⟨some 15, none, .mv (.t 0)⟩,
⟨some 16, none, .mv (.t 1)⟩,
⟨some 17, none, .call (.c (.fn (.func 228) [] [])) [(.t 14), (.t 15), (.t 16)]⟩,
⟨some 4, none, .mv (.t 17)⟩,
⟨some 5, none, .mv (.c (.int .i64 0))⟩]
abbrev x221b : XCode :=
(.seq (.reg 0 x221r0 none)
(.seq (.block 0
(.seq (.reg 1 x221r1 none)
(.cond (.t 6)
(.seq (.reg 2 x221r2 none)
.ret)
(.seq (.reg 3 x221r3 none)
(.cond (.t 10)
(.seq (.reg 4 x221r4 none)
.ret)
.skip)))))
(.seq (.reg 5 x221r5 none)
.ret)))
def x221 : XFunc := ⟨18, 2, [.tmp 4, .tmp 5], x221b⟩
theorem x221_ok : chkF Tryz.prog Tryz.f221 x221 = true := by kernel_rfl
abbrev x222r0 : List XOper := [
⟨some 2, none, .box (.t 0)⟩,
⟨some 4, none, .alloc [(.int .i64 0), (.int .i64 0), (.int .i64 0), (.int .i64 0), (.int .i64 0), (.int .i64 0), (.int .i64 0), (.int .i64 0)]⟩,
⟨some 5, none, .mv (.c (.int .i64 0))⟩]
abbrev x222r1 : List XOper := [
⟨some 14, none, .load true 5 (.t 2)⟩,
⟨some 15, none, .call (.c (.fn (.func 229) [] [])) [(.t 14)]⟩,
⟨some 16, none, .un .not (.t 15)⟩,
⟨some 13, none, .mv (.t 16)⟩]
abbrev x222r2 : List XOper := [
⟨some 17, none, .build [(.int .i64 0), (.int .i64 0), (.int .i64 0), (.int .i64 0), (.int .i64 0), (.int .i64 0), (.int .i64 0), (.int .i64 0)] []⟩,
⟨none, none, .store 8 (.t 4) (.t 17)⟩,
⟨some 5, none, .mv (.c (.int .i64 1))⟩]
abbrev x222r3 : List XOper := [
⟨some 19, none, .mv (.t 1)⟩,
⟨some 20, none, .call (.c (.fn (.func 230) [] [])) [(.t 19)]⟩,
⟨some 21, none, .un .not (.t 20)⟩,
⟨some 18, none, .mv (.t 21)⟩]
abbrev x222r4 : List XOper := [
⟨some 22, none, .build [(.int .i64 0), (.int .i64 0), (.int .i64 0), (.int .i64 0), (.int .i64 0), (.int .i64 0), (.int .i64 0), (.int .i64 0)] []⟩,
⟨none, none, .store 8 (.t 4) (.t 22)⟩,
⟨some 5, none, .mv (.c (.int .i64 3))⟩]
abbrev x222r5 : List XOper := [
⟨some 24, none, .fa 3 (.t 2)⟩,
⟨some 25, none, .load true 2 (.t 24)⟩,
⟨some 26, none, .mv (.t 1)⟩,
⟨some 27, none, .bin .mul (.c (.int .i64 9)) (.t 26)⟩,
⟨some 28, none, .mv (.t 1)⟩,
⟨some 29, none, .bin .mul (.t 27) (.t 28)⟩,
⟨some 30, none, .conv .u64 (.t 29)⟩,
⟨some 31, none, .build [(.int .u64 0), (.int .u64 0)] [(1, 1, (.t 30))]⟩,
⟨some 32, none, .call (.c (.fn (.func 100) [] [])) [(.t 25), (.t 31)]⟩,
⟨some 23, none, .mv (.t 32)⟩,
⟨some 33, none, .ext (.t 23) 0⟩,
⟨some 34, none, .ext (.t 23) 1⟩,
⟨some 6, none, .alloc [(.int .u64 0), (.int .u64 0)]⟩,
⟨none, none, .store 2 (.t 6) (.t 33)⟩,
⟨some 7, none, .mv (.t 34)⟩]
abbrev x222r6 : List XOper := [
⟨some 35, none, .load true 2 (.t 6)⟩,
⟨some 36, none, .call (.c (.fn (.func 231) [] [])) [(.t 35)]⟩,
⟨some 37, none, .conv .i64 (.t 36)⟩,
⟨some 38, none, .load true 2 (.t 6)⟩,
⟨some 39, none, .call (.c (.fn (.func 232) [] [])) [(.t 38)]⟩,
⟨some 40, none, .fld false 1 1 (.t 39)⟩,
⟨some 41, none, .conv .i64 (.t 40)⟩,
⟨some 8, none, .mv (.t 37)⟩,
⟨some 9, none, .mv (.t 41)⟩]
abbrev x222r7 : List XOper := [
⟨some 42, none, .mkf (.func 233) [] [(.t 2)]⟩,
⟨some 10, none, .mv (.t 42)⟩]
abbrev x222r8 : List XOper := [
⟨some 43, none, .fa 0 (.t 2)⟩,
⟨some 44, none, .load false 1 (.t 43)⟩,
⟨some 45, none, .mv (.t 1)⟩,
⟨some 46, none, .bin .mul (.t 44) (.t 45)⟩,
⟨some 47, none, .fa 0 (.t 2)⟩,
⟨some 48, none, .load false 1 (.t 47)⟩,
⟨some 49, none, .fa 2 (.t 2)⟩,
⟨some 50, none, .load false 1 (.t 49)⟩,
⟨some 51, none, .bin .add (.t 48) (.t 50)⟩,
⟨some 52, none, .mv (.t 1)⟩,
⟨some 53, none, .bin .mul (.t 51) (.t 52)⟩,
⟨some 11, none, .mv (.t 46)⟩,
⟨some 12, none, .mv (.t 53)⟩]
abbrev x222r9 : List XOper := [
⟨some 54, none, .mv (.t 11)⟩,
⟨some 55, none, .mv (.t 9)⟩,
⟨some 56, none, .bin .sub (.t 54) (.t 55)⟩,
⟨some 57, none, .mv (.t 11)⟩,
⟨some 58, none, .mv (.t 8)⟩,
⟨some 59, none, .bin .sub (.t 57) (.t 58)⟩,
⟨some 60, none, .mv (.t 10)⟩,
⟨some 61, none, .call (.c (.fn (.func 235) [] [])) [(.t 56), (.t 59), (.t 60)]⟩,
⟨some 62, none, .mv (.t 11)⟩,
⟨some 63, none, .mv (.t 11)⟩,
⟨some 64, none, .mv (.t 10)⟩,
⟨some 65, none, .call (.c (.fn (.func 235) [] [])) [(.t 62), (.t 63), (.t 64)]⟩,
⟨some 66, none, .mv (.t 11)⟩,
⟨some 67, none, .mv (.t 8)⟩,
⟨some 68, none, .bin .add (.t 66) (.t 67)⟩,
⟨some 69, none, .mv (.t 11)⟩,
⟨some 70, none, .mv (.t 9)⟩,
⟨some 71, none, .bin .add (.t 69) (.t 70)⟩,
⟨some 72, none, .mv (.t 10)⟩,
⟨some 73, none, .call (.c (.fn (.func 235) [] [])) [(.t 68), (.t 71), (.t 72)]⟩,
⟨some 74, none, .mv (.t 12)⟩,
⟨some 75, none, .mv (.t 12)⟩,
⟨some 76, none, .mv (.t 10)⟩,
⟨some 77, none, .call (.c (.fn (.func 235) [] [])) [(.t 74), (.t 75), (.t 76)]⟩,
⟨some 78, none, .build [(.int .i64 0), (.int .i64 0), (.int .i64 0), (.int .i64 0), (.int .i64 0), (.int .i64 0), (.int .i64 0), (.int .i64 0)] [(0, 2, (.t 61)), (2, 2, (.t 65)), (4, 2, (.t 73)), (6, 2, (.t 77))]⟩,
⟨none, none, .store 8 (.t 4) (.t 78)⟩,
⟨some 5, none, .mv (.c (.int .i64 0))⟩]
abbrev x222b : XCode :=
(.seq (.reg 0 x222r0 none)
(.seq (.block 0
(.seq (.reg 1 x222r1 none)
(.cond (.t 13)
(.seq (.reg 2 x222r2 none)
.ret)
(.seq (.reg 3 x222r3 none)
(.cond (.t 18)
(.seq (.reg 4 x222r4 none)
.ret)
.skip)))))
(.seq (.reg 5 x222r5 none)
(.seq (.reg 6 x222r6 (some ⟨[(1, 3)]⟩))
(.seq (.reg 7 x222r7 none)
(.seq (.reg 8 x222r8 (some ⟨[]⟩))
(.seq (.reg 9 x222r9 none)
.ret)))))))
def x222 : XFunc := ⟨79, 2, [.cell 4 true 8, .tmp 5], x222b⟩
theorem x222_ok : chkF Tryz.prog Tryz.f222 x222 = true := by kernel_rfl
theorem x222_eq : x222.body = x222b ∧ x222.res = [.cell 4 true 8, .tmp 5] ∧ x222.np = 2 := ⟨rfl, rfl, rfl⟩
abbrev x223r0 : List XOper := [
⟨some 2, none, .box (.t 0)⟩,
⟨some 4, none, .mv (.c (.int .i64 0))⟩,
⟨some 5, none, .mv (.c (.int .i64 0))⟩]
abbrev x223r1 : List XOper := [
⟨some 9, none, .load true 5 (.t 2)⟩,
⟨some 10, none, .call (.c (.fn (.func 229) [] [])) [(.t 9)]⟩,
⟨some 11, none, .un .not (.t 10)⟩,
⟨some 8, none, .mv (.t 11)⟩]
abbrev x223r2 : List XOper := [
⟨some 4, none, .mv (.c (.int .i64 0))⟩,
⟨some 5, none, .mv (.c (.int .i64 1))⟩]
abbrev x223r3 : List XOper := [
⟨some 13, none, .mv (.t 1)⟩,
⟨some 14, none, .call (.c (.fn (.func 230) [] [])) [(.t 13)]⟩,
⟨some 15, none, .un .not (.t 14)⟩,
⟨some 12, none, .mv (.t 15)⟩]
abbrev x223r4 : List XOper := [
⟨some 4, none, .mv (.c (.int .i64 0))⟩,
⟨some 5, none, .mv (.c (.int .i64 3))⟩]
abbrev x223r5 : List XOper := [
⟨some 17, none, .fa 1 (.t 2)⟩,
⟨some 18, none, .load false 1 (.t 17)⟩,
⟨some 19, none, .mv (.t 1)⟩,
⟨some 20, none, .call (.c (.fn (.func 234) [] [])) [(.t 18), (.c (.int .i64 1)), (.t 19), (.c (.int .i64 1))]⟩,
⟨some 16, none, .mv (.t 20)⟩,
⟨some 21, none, .ext (.t 16) 0⟩,
⟨some 22, none, .ext (.t 16) 1⟩,
⟨some 6, none, .mv (.t 21)⟩,
⟨some 7, none, .mv (.t 22)⟩]
abbrev x223r6 : List XOper := [
⟨some 23, none, .fa 2 (.t 2)⟩,
⟨some 24, none, .load false 1 (.t 23)⟩,
⟨some 25, none, .mv (.t 6)⟩,
⟨some 26, none, .bin .sub (.t 24) (.t 25)⟩,
⟨some 27, none, .fa 2 (.t 2)⟩,
⟨some 28, none, .load false 1 (.t 27)⟩,
⟨some 29, none, .mv (.t 6)⟩,
⟨some 30, none, .bin .add (.t 28) (.t 29)⟩,
⟨some 31, none, .build [(.int .i64 0), (.int .i64 0)] [(0, 1, (.t 26)), (1, 1, (.t 30))]⟩,
⟨some 32, none, .fa 3 (.t 2)⟩,
⟨some 33, none, .load true 2 (.t 32)⟩,
⟨some 34, none, .fa 3 (.t 2)⟩,
⟨some 35, none, .load true 2 (.t 34)⟩,
⟨some 36, none, .call (.c (.fn (.func 236) [] [])) [(.t 31), (.t 33), (.t 35)]⟩,
⟨some 37, none, .ext (.t 36) 0⟩,
⟨some 38, none, .ext (.t 36) 1⟩,
⟨some 4, none, .mv (.t 37)⟩,
⟨some 5, none, .mv (.t 38)⟩]
abbrev x223b : XCode :=
(.seq (.reg 0 x223r0 none)
(.seq (.block 0
(.seq (.reg 1 x223r1 none)
(.cond (.t 8)
(.seq (.reg 2 x223r2 none)
.ret)
(.seq (.reg 3 x223r3 none)
(.cond (.t 12)
(.seq (.reg 4 x223r4 none)
.ret)
.skip)))))
(.seq (.reg 5 x223r5 none)
(.seq (.reg 6 x223r6 none)
.ret))))
def x223 : XFunc := ⟨39, 2, [.tmp 4, .tmp 5], x223b⟩
theorem x223_ok : chkF Tryz.prog Tryz.f223 x223 = true := by kernel_rfl
theorem x223_eq : x223.body = x223b ∧ x223.res = [.tmp 4, .tmp 5] ∧ x223.np = 2 := ⟨rfl, rfl, rfl⟩
abbrev x224r0 : List XOper := [
⟨some 1, none, .box (.t 0)⟩,
⟨some 2, none, .mv (.c (.int .i64 0))⟩,
⟨some 3, none, .mv (.c (.int .i64 0))⟩]
abbrev x224r1 : List XOper := [
⟨some 6, none, .fa 0 (.t 1)⟩,
⟨some 7, none, .load true 2 (.t 6)⟩,
⟨some 8, none, .fa 2 (.t 1)⟩,
⟨some 9, none, .load true 2 (.t 8)⟩,
⟨some 10, none, .fa 4 (.t 1)⟩,
⟨some 11, none, .load true 2 (.t 10)⟩,
⟨some 12, none, .fa 6 (.t 1)⟩,
⟨some 13, none, .load true 2 (.t 12)⟩,
⟨some 14, none, .build [(.int .i64 0), (.int .i64 0), (.int .i64 0), (.int .i64 0), (.int .i64 0), (.int .i64 0), (.int .i64 0), (.int .i64 0)] [(0, 2, (.t 7)), (2, 2, (.t 9)), (4, 2, (.t 11)), (6, 2, (.t 13))]⟩,
⟨some 15, none, .mv (.c (.int .i64 0))⟩]
abbrev x224r2 : List XOper := [
⟨some 16, none, .bin .lss (.t 15) (.c (.int .i64 4))⟩]
abbrev x224r3 : List XOper := [
⟨some 17, none, .ixA true 4 2 (.t 14) (.t 15)⟩,
⟨some 5, none, .alloc [(.int .i64 0), (.int .i64 0)]⟩,
⟨none, none, .store 2 (.t 5) (.t 17)⟩]
abbrev x224r4 : List XOper := [
⟨some 18, none, .load true 2 (.t 5)⟩,
⟨some 19, none, .call (.c (.fn (.func 121) [] [])) [(.t 18)]⟩,
⟨some 20, none, .un .not (.t 19)⟩]
abbrev x224r5 : List XOper := [
⟨some 2, none, .mv (.c (.int .i64 0))⟩,
⟨some 3, none, .mv (.c (.int .i64 1))⟩]
abbrev x224r6 : List XOper := [
⟨some 21, none, .bin .add (.t 15) (.c (.int .i64 1))⟩,
⟨some 15, none, .mv (.t 21)⟩]
abbrev x224l2 : XCode :=
(.seq (.reg 2 x224r2 none)
(.seq (.cond (.t 16)
.skip
(.exit 0))
(.seq (.block 1
(.seq (.reg 3 x224r3 none)
(.seq (.reg 4 x224r4 none)
(.cond (.t 20)
(.seq (.reg 5 x224r5 none)
.ret)
.skip))))
(.reg 6 x224r6 none))))
abbrev x224r7 : List XOper := [
⟨some 23, none, .fa 6 (.t 1)⟩,
⟨some 24, none, .fa 0 (.t 23)⟩,
⟨some 25, none, .load false 1 (.t 24)⟩,
⟨some 26, none, .fa 4 (.t 1)⟩,
⟨some 27, none, .fa 1 (.t 26)⟩,
⟨some 28, none, .load false 1 (.t 27)⟩,
⟨some 29, none, .bin .gtr (.t 25) (.t 28)⟩,
⟨some 22, none, .mv (.t 29)⟩]
abbrev x224r8 : List XOper := [
⟨some 30, none, .fa 6 (.t 1)⟩,
⟨some 31, none, .fa 1 (.t 30)⟩,
⟨some 32, none, .load false 1 (.t 31)⟩,
⟨some 33, none, .fa 0 (.t 1)⟩,
⟨some 34, none, .fa 0 (.t 33)⟩,
⟨some 35, none, .load false 1 (.t 34)⟩,
⟨some 36, none, .bin .lss (.t 32) (.t 35)⟩,
⟨some 22, none, .mv (.t 36)⟩]
abbrev x224r9 : List XOper := [
⟨some 2, none, .mv (.c (.int .i64 1))⟩,
⟨some 3, none, .mv (.c (.int .i64 0))⟩]
abbrev x224r10 : List XOper := [
⟨some 38, none, .fa 6 (.t 1)⟩,
⟨some 39, none, .fa 1 (.t 38)⟩,
⟨some 40, none, .load false 1 (.t 39)⟩,
⟨some 41, none, .fa 4 (.t 1)⟩,
⟨some 42, none, .fa 0 (.t 41)⟩,
⟨some 43, none, .load false 1 (.t 42)⟩,
⟨some 44, none, .bin .gtr (.t 40) (.t 43)⟩,
⟨some 37, none, .mv (.t 44)⟩]
abbrev x224r11 : List XOper := [
⟨some 45, none, .fa 6 (.t 1)⟩,
⟨some 46, none, .fa 0 (.t 45)⟩,
⟨some 47, none, .load false 1 (.t 46)⟩,
⟨some 48, none, .fa 0 (.t 1)⟩,
⟨some 49, none, .fa 1 (.t 48)⟩,
⟨some 50, none, .load false 1 (.t 49)⟩,
⟨some 51, none, .bin .lss (.t 47) (.t 50)⟩,
⟨some 37, none, .mv (.t 51)⟩]
abbrev x224r12 : List XOper := [
⟨some 2, none, .mv (.c (.int .i64 0))⟩,
⟨some 3, none, .mv (.c (.int .i64 0))⟩]
abbrev x224l8 : XCode :=
(.block 3
(.seq (.block 4
(.seq (.seq (.reg 7 x224r7 none)
(.cond (.t 22)
.skip
(.reg 8 x224r8 none)))
(.cond (.t 22)
(.seq (.reg 9 x224r9 none)
.ret)
(.seq (.seq (.reg 10 x224r10 none)
(.cond (.t 37)
.skip
(.reg 11 x224r11 none)))
(.cond (.t 37)
(.exit 2)
.skip)))))
(.seq (.reg 12 x224r12 none)
.ret)))
abbrev x224r13 : List XOper := [
⟨some 2, none, .mv (.c (.int .i64 2))⟩,
⟨some 3, none, .mv (.c (.int .i64 0))⟩]
abbrev x224b : XCode :=
(.seq (.reg 0 x224r0 none)
(.scope
(.seq (.seq (.reg 1 x224r1 none)
(.block 0
(.loop x224l2)))
(.seq .skip
(.seq (.block 2
(.loop x224l8))
(.seq (.reg 13 x224r13 none)
.ret))))))
def x224 : XFunc := ⟨52, 1, [.tmp 2, .tmp 3], x224b⟩
theorem x224_ok : chkF Tryz.prog Tryz.f224 x224 = true := by kernel_rfl
theorem x224_eq : x224.body = x224b ∧ x224.res = [.tmp 2, .tmp 3] ∧ x224.np = 1 := ⟨rfl, rfl, rfl⟩
abbrev x225r0 : List XOper := [
⟨some 4, none, .mv (.c .nils)⟩,
⟨some 5, none, .mv (.c (.int .i64 0))⟩]
abbrev x225r1 : List XOper := [
⟨some 7, none, .mv (.t 0)⟩,
⟨some 8, none, .call (.c (.fn (.func 102) [] [])) [(.t 7)]⟩,
⟨some 9, none, .un .not (.t 8)⟩,
⟨some 10, none, .mv (.t 9)⟩,
⟨some 11, some (10, false), .mv (.t 1)⟩,
⟨some 12, some (10, false), .mkslice 1 (.int .i64 0) 1 [(0, (.t 11))]⟩,
⟨some 13, some (10, false), .call (.c (.fn (.func 102) [] [])) [(.t 12)]⟩,
⟨some 14, some (10, false), .un .not (.t 13)⟩,
⟨some 15, none, .pick (.t 10) (.c (.bool true)) (.t 14)⟩]
abbrev x225r2 : List XOper := [
⟨some 4, none, .mv (.c .nils)⟩,
⟨some 5, none, .mv (.c (.int .i64 1))⟩]
abbrev x225r3 : List XOper := [
⟨some 16, none, .mv (.t 0)⟩,
⟨some 17, none, .callN (.c (.fn (.func 237) [] [])) [(.t 16)]⟩,
⟨some 18, none, .mv (.t 1)⟩,
⟨some 19, none, .mkslice 1 (.int .i64 0) 1 [(0, (.t 18))]⟩,
⟨some 20, none, .app 1 8 (.t 17) (.t 19)⟩,
⟨some 6, none, .mv (.t 20)⟩]
abbrev x225r4 : List XOper := [
⟨some 21, none, .mv (.t 6)⟩,
⟨some 22, none, .mv (.t 6)⟩,
⟨some 23, none, .lenV (.t 22)⟩,
⟨some 24, none, .bin .sub (.t 23) (.c (.int .i64 15))⟩,
⟨some 25, none, .mnx true (.c (.int .i64 0)) [(.t 24)]⟩,
⟨some 26, none, .slV 1 (.t 21) (some (.t 25)) none none⟩,
⟨some 4, none, .mv (.t 26)⟩,
⟨some 5, none, .mv (.c (.int .i64 0))⟩]
abbrev x225b : XCode :=
(.seq (.reg 0 x225r0 none)
(.seq (.seq (.reg 1 x225r1 none)
(.cond (.t 15)
(.seq (.reg 2 x225r2 none)
.ret)
.skip))
(.seq (.reg 3 x225r3 none)
(.seq (.reg 4 x225r4 none)
.ret))))
def x225 : XFunc := ⟨27, 2, [.tmp 4, .tmp 5], x225b⟩
theorem x225_ok : chkF Tryz.prog Tryz.f225 x225 = true := by kernel_rfl
theorem x225_eq : x225.body = x225b ∧ x225.res = [.tmp 4, .tmp 5] ∧ x225.np = 2 := ⟨rfl, rfl, rfl⟩
abbrev x226r0 : List XOper := [
⟨some 2, none, .mv (.c (.bool false))⟩]
abbrev x226r1 : List XOper := [
⟨some 3, none, .mv (.t 0)⟩,
⟨some 4, none, .bin .geq (.t 3) (.c (.int .i64 0))⟩,
⟨some 5, none, .mv (.t 4)⟩,
⟨some 6, some (5, true), .mv (.t 0)⟩,
⟨some 7, some (5, true), .bin .lss (.t 6) (.c (.int .i64 7))⟩,
⟨some 8, none, .pick (.t 5) (.t 7) (.c (.bool false))⟩,
⟨some 2, none, .mv (.t 8)⟩]
abbrev x226b : XCode :=
(.seq (.reg 0 x226r0 none)
(.seq (.reg 1 x226r1 none)
.ret))
def x226 : XFunc := ⟨9, 1, [.tmp 2], x226b⟩
theorem x226_ok : chkF Tryz.prog Tryz.f226 x226 = true := by kernel_rfl
theorem x226_eq : x226.body = x226b ∧ x226.res = [.tmp 2] ∧ x226.np = 1 := ⟨rfl, rfl, rfl⟩
abbrev x227r0 : List XOper := [
⟨some 2, none, .mv (.c (.bool false))⟩]
abbrev x227r1 : List XOper := [
⟨some 3, none, .mv (.t 0)⟩,
⟨some 4, none, .bin .geq (.t 3) (.c (.int .i64 2))⟩,
⟨some 5, none, .mv (.t 4)⟩,
⟨some 6, some (5, true), .mv (.t 0)⟩,
⟨some 7, some (5, true), .bin .leq (.t 6) (.c (.int .i64 10))⟩,
⟨some 8, none, .pick (.t 5) (.t 7) (.c (.bool false))⟩,
⟨some 2, none, .mv (.t 8)⟩]
abbrev x227b : XCode :=
(.seq (.reg 0 x227r0 none)
(.seq (.reg 1 x227r1 none)
.ret))
def x227 : XFunc := ⟨9, 1, [.tmp 2], x227b⟩
theorem x227_ok : chkF Tryz.prog Tryz.f227 x227 = true := by kernel_rfl
theorem x227_eq : x227.body = x227b ∧ x227.res = [.tmp 2] ∧ x227.np = 1 := ⟨rfl, rfl, rfl⟩
abbrev x229r0 : List XOper := [
⟨some 1, none, .box (.t 0)⟩,
⟨some 2, none, .mv (.c (.bool false))⟩]
abbrev x229r1 : List XOper := [
⟨some 3, none, .fa 1 (.t 1)⟩,
⟨some 4, none, .load false 1 (.t 3)⟩,
⟨some 5, none, .bin .geq (.t 4) (.c (.int .i64 1))⟩,
⟨some 6, none, .mv (.t 5)⟩,
⟨some 7, some (6, true), .fa 1 (.t 1)⟩,
⟨some 8, some (6, true), .load false 1 (.t 7)⟩,
⟨some 9, some (6, true), .call (.c (.fn (.func 240) [] [])) [(.t 8)]⟩,
⟨some 10, some (6, true), .un .not (.t 9)⟩,
⟨some 11, none, .pick (.t 6) (.t 10) (.c (.bool false))⟩,
⟨some 12, none, .mv (.t 11)⟩,
⟨some 13, some (12, true), .fa 0 (.t 1)⟩,
⟨some 14, some (12, true), .load false 1 (.t 13)⟩,
⟨some 15, some (12, true), .call (.c (.fn (.func 240) [] [])) [(.t 14)]⟩,
⟨some 16, some (12, true), .un .not (.t 15)⟩,
⟨some 17, none, .pick (.t 12) (.t 16) (.c (.bool false))⟩,
⟨some 18, none, .mv (.t 17)⟩,
⟨some 19, some (18, true), .fa 2 (.t 1)⟩,
⟨some 20, some (18, true), .load false 1 (.t 19)⟩,
⟨some 21, some (18, true), .call (.c (.fn (.func 240) [] [])) [(.t 20)]⟩,
⟨some 22, some (18, true), .un .not (.t 21)⟩,
⟨some 23, none, .pick (.t 18) (.t 22) (.c (.bool false))⟩,
⟨some 24, none, .mv (.t 23)⟩,
⟨some 25, some (24, true), .fa 3 (.t 1)⟩,
⟨some 26, some (24, true), .fa 0 (.t 25)⟩,
⟨some 27, some (24, true), .load false 1 (.t 26)⟩,
⟨some 28, some (24, true), .bin .lss (.t 27) (.c (.int .u64 274877906944))⟩,
⟨some 29, none, .pick (.t 24) (.t 28) (.c (.bool false))⟩,
⟨some 2, none, .mv (.t 29)⟩]
abbrev x229b : XCode :=
(.seq (.reg 0 x229r0 none)
(.seq (.reg 1 x229r1 none)
.ret))
def x229 : XFunc := ⟨30, 1, [.tmp 2], x229b⟩
theorem x229_ok : chkF Tryz.prog Tryz.f229 x229 = true := by kernel_rfl
theorem x229_eq : x229.body = x229b ∧ x229.res = [.tmp 2] ∧ x229.np = 1 := ⟨rfl, rfl, rfl⟩
abbrev x230r0 : List XOper := [
⟨some 2, none, .mv (.c (.bool false))⟩]
abbrev x230r1 : List XOper := [
⟨some 3, none, .mv (.t 0)⟩,
⟨some 4, none, .bin .geq (.t 3) (.c (.int .i64 1))⟩,
⟨some 5, none, .mv (.t 4)⟩,
⟨some 6, some (5, true), .mv (.t 0)⟩,
⟨some 7, some (5, true), .bin .leq (.t 6) (.c (.int .i64 1000))⟩,
⟨some 8, none, .pick (.t 5) (.t 7) (.c (.bool false))⟩,
⟨some 2, none, .mv (.t 8)⟩]
abbrev x230b : XCode :=
(.seq (.reg 0 x230r0 none)
(.seq (.reg 1 x230r1 none)
.ret))
def x230 : XFunc := ⟨9, 1, [.tmp 2], x230b⟩
theorem x230_ok : chkF Tryz.prog Tryz.f230 x230 = true := by kernel_rfl
theorem x230_eq : x230.body = x230b ∧ x230.res = [.tmp 2] ∧ x230.np = 1 := ⟨rfl, rfl, rfl⟩
abbrev x231r0 : List XOper := [
⟨some 1, none, .box (.t 0)⟩,
⟨some 2, none, .mv (.c (.int .u64 0))⟩]
abbrev x231r1 : List XOper := [
⟨some 8, none, .mkf (.func 241) [] [(.t 1)]⟩,
⟨some 3, none, .mv (.t 8)⟩]
abbrev x231r2 : List XOper := [
⟨some 4, none, .mv (.c (.int .u64 0))⟩,
⟨some 5, none, .mv (.c (.int .u64 18446744073709551615))⟩]
abbrev x231r3 : List XOper := [
⟨some 9, none, .fa 0 (.t 1)⟩,
⟨some 10, none, .load false 1 (.t 9)⟩,
⟨some 11, none, .call (.c (.fn (.func 172) [] [])) [(.t 10)]⟩,
⟨some 6, none, .mv (.t 11)⟩]
abbrev x231r4 : List XOper := [
⟨some 12, none, .mv (.t 6)⟩,
⟨some 13, none, .bin .eql (.t 12) (.c (.int .i64 0))⟩]
abbrev x231r5 : List XOper := [
⟨some 14, none, .fa 1 (.t 1)⟩,
⟨some 15, none, .load false 1 (.t 14)⟩,
⟨some 16, none, .bin .shr (.t 15) (.c (.int .u64 32))⟩,
⟨some 17, none, .bin .or (.c (.int .u64 4294967295)) (.t 16)⟩,
⟨some 5, none, .mv (.t 17)⟩]
abbrev x231r6 : List XOper := [
⟨some 18, none, .mv (.t 4)⟩,
⟨some 19, none, .mv (.t 5)⟩,
⟨some 20, none, .bin .eql (.t 18) (.t 19)⟩]
abbrev x231r7 : List XOper := [
⟨some 21, none, .mv (.t 5)⟩,
⟨some 22, none, .mv (.t 5)⟩,
⟨some 23, none, .mv (.t 4)⟩,
⟨some 24, none, .bin .sub (.t 22) (.t 23)⟩,
⟨some 25, none, .bin .quo (.t 24) (.c (.int .u64 2))⟩,
⟨some 26, none, .bin .sub (.t 21) (.t 25)⟩,
⟨some 7, none, .mv (.t 26)⟩]
abbrev x231r8 : List XOper := [
⟨some 27, none, .mv (.t 3)⟩,
⟨some 28, none, .mv (.t 7)⟩,
⟨some 29, none, .call (.t 27) [(.t 28)]⟩]
abbrev x231r9 : List XOper := [
⟨some 30, none, .mv (.t 7)⟩,
⟨some 4, none, .mv (.t 30)⟩]
abbrev x231r10 : List XOper := [
⟨some 31, none, .mv (.t 7)⟩,
⟨some 32, none, .bin .sub (.t 31) (.c (.int .u64 1))⟩,
⟨some 5, none, .mv (.t 32)⟩]
abbrev x231l6 : XCode :=
(.block 1
(.seq (.seq (.reg 6 x231r6 none)
(.cond (.t 20)
(.exit 0)
.skip))
(.seq (.reg 7 x231r7 none)
(.seq (.seq (.reg 8 x231r8 none)
(.cond (.t 29)
(.seq (.reg 9 x231r9 none)
(.exit 1))
.skip))
(.reg 10 x231r10 none)))))
abbrev x231r11 : List XOper := [
⟨some 33, none, .mv (.t 4)⟩,
⟨some 2, none, .mv (.t 33)⟩]
abbrev x231b : XCode :=
(.seq (.reg 0 x231r0 none)
(.scope
(.seq (.reg 1 x231r1 none)
(.seq (.reg 2 x231r2 none)
(.seq (.seq (.reg 3 x231r3 none)
(.seq (.reg 4 x231r4 none)
(.cond (.t 13)
(.reg 5 x231r5 none)
.skip)))
(.seq .skip
(.seq (.block 0
(.loop x231l6))
(.seq (.reg 11 x231r11 none)
.ret))))))))
def x231 : XFunc := ⟨34, 1, [.tmp 2], x231b⟩
theorem x231_ok : chkF Tryz.prog Tryz.f231 x231 = true := by kernel_rfl
theorem x231_eq : x231.body = x231b ∧ x231.res = [.tmp 2] ∧ x231.np = 1 := ⟨rfl, rfl, rfl⟩
abbrev x232r0 : List XOper := [
⟨some 1, none, .box (.t 0)⟩,
⟨some 2, none, .alloc [(.int .u64 0), (.int .u64 0)]⟩]
abbrev x232r1 : List XOper := [
⟨some 4, none, .load true 2 (.t 1)⟩,
⟨some 5, none, .call (.c (.fn (.func 231) [] [])) [(.t 4)]⟩,
⟨some 6, none, .build [(.int .u64 0), (.int .u64 0)] [(1, 1, (.t 5))]⟩,
⟨some 3, none, .alloc [(.int .u64 0), (.int .u64 0)]⟩,
⟨none, none, .store 2 (.t 3) (.t 6)⟩]
abbrev x232r2 : List XOper := [
⟨some 7, none, .load true 2 (.t 1)⟩,
⟨some 8, none, .call (.c (.fn (.func 242) [] [])) [(.t 7)]⟩,
⟨some 9, none, .un .not (.t 8)⟩]
abbrev x232r3 : List XOper := [
⟨some 11, none, .load true 2 (.t 3)⟩,
⟨some 12, none, .build [(.int .u64 0), (.int .u64 0)] [(1, 1, (.c (.int .u64 1)))]⟩,
⟨some 13, none, .call (.c (.fn (.func 243) [] [])) [(.t 11), (.t 12)]⟩,
⟨some 10, none, .mv (.t 13)⟩,
⟨some 14, none, .ext (.t 10) 0⟩,
⟨some 15, none, .ext (.t 10) 1⟩,
⟨none, none, .store 2 (.t 3) (.t 14)⟩]
abbrev x232r4 : List XOper := [
⟨some 16, none, .load true 2 (.t 3)⟩,
⟨none, none, .store 2 (.t 2) (.t 16)⟩]
abbrev x232b : XCode :=
(.seq (.reg 0 x232r0 none)
(.seq (.reg 1 x232r1 none)
(.seq (.seq (.reg 2 x232r2 none)
(.cond (.t 9)
(.reg 3 x232r3 none)
.skip))
(.seq (.reg 4 x232r4 none)
.ret))))
def x232 : XFunc := ⟨17, 1, [.cell 2 true 2], x232b⟩
theorem x232_ok : chkF Tryz.prog Tryz.f232 x232 = true := by kernel_rfl
theorem x232_eq : x232.body = x232b ∧ x232.res = [.cell 2 true 2] ∧ x232.np = 1 := ⟨rfl, rfl, rfl⟩
abbrev x233r0 : List XOper := [
⟨some 5, none, .mv (.c (.int .i64 0))⟩]
abbrev x233r1 : List XOper := [
⟨some 9, none, .mv (.t 0)⟩,
⟨some 10, none, .fa 1 (.t 2)⟩,
⟨some 11, none, .load false 1 (.t 10)⟩,
⟨some 12, none, .mv (.t 1)⟩,
⟨some 13, none, .call (.c (.fn (.func 234) [] [])) [(.t 9), (.c (.int .i64 1)), (.t 11), (.t 12)]⟩,
⟨some 8, none, .mv (.t 13)⟩,
⟨some 14, none, .ext (.t 8) 0⟩,
⟨some 15, none, .ext (.t 8) 1⟩,
⟨some 6, none, .mv (.t 14)⟩,
⟨some 7, none, .mv (.t 15)⟩]
abbrev x233r2 : List XOper := [
⟨some 16, none, .mv (.t 6)⟩,
⟨some 5, none, .mv (.t 16)⟩]
abbrev x233b : XCode :=
(.seq (.reg 0 x233r0 none)
(.seq (.reg 1 x233r1 none)
(.seq (.reg 2 x233r2 none)
.ret)))
def x233 : XFunc := ⟨17, 3, [.tmp 5], x233b⟩
theorem x233_ok : chkF Tryz.prog Tryz.f233 x233 = true := by kernel_rfl
theorem x233_eq : x233.body = x233b ∧ x233.res = [.tmp 5] ∧ x233.np = 3 := ⟨rfl, rfl, rfl⟩
abbrev x235r0 : List XOper := [
⟨some 6, none, .alloc [(.int .i64 0), (.int .i64 0)]⟩]
abbrev x235r1 : List XOper := [
⟨some 7, none, .mv (.t 2)⟩,
⟨some 8, none, .mv (.t 0)⟩,
⟨some 9, none, .call (.t 7) [(.t 8), (.c (.int .i64 0))]⟩,
⟨some 10, none, .mv (.t 2)⟩,
⟨some 11, none, .mv (.t 1)⟩,
⟨some 12, none, .call (.t 10) [(.t 11), (.c (.int .i64 1))]⟩,
⟨some 13, none, .build [(.int .i64 0), (.int .i64 0)] [(0, 1, (.t 9)), (1, 1, (.t 12))]⟩,
⟨none, none, .store 2 (.t 6) (.t 13)⟩]
abbrev x235b : XCode :=
(.seq (.reg 0 x235r0 none)
(.seq (.reg 1 x235r1 none)
.ret))
def x235 : XFunc := ⟨14, 3, [.cell 6 true 2], x235b⟩
theorem x235_ok : chkF Tryz.prog Tryz.f235 x235 = true := by kernel_rfl
theorem x235_eq : x235.body = x235b ∧ x235.res = [.cell 6 true 2] ∧ x235.np = 3 := ⟨rfl, rfl, rfl⟩
abbrev x236r0 : List XOper := [
⟨some 3, none, .box (.t 0)⟩,
⟨some 4, none, .box (.t 1)⟩,
⟨some 5, none, .box (.t 2)⟩,
⟨some 6, none, .mv (.c (.int .i64 0))⟩,
⟨some 7, none, .mv (.c (.int .i64 0))⟩]
abbrev x236r1 : List XOper := [
⟨some 10, none, .load true 2 (.t 3)⟩,
⟨some 11, none, .call (.c (.fn (.func 121) [] [])) [(.t 10)]⟩,
⟨some 12, none, .un .not (.t 11)⟩,
⟨some 13, none, .mv (.t 12)⟩,
⟨some 14, some (13, false), .load true 2 (.t 5)⟩,
⟨some 15, some (13, false), .load true 2 (.t 4)⟩,
⟨some 16, some (13, false), .call (.c (.fn (.func 101) [] [])) [(.t 14), (.t 15)]⟩,
⟨some 17, none, .pick (.t 13) (.c (.bool true)) (.t 16)⟩,
⟨some 18, none, .mv (.t 17)⟩,
⟨some 19, some (18, false), .fa 0 (.t 5)⟩,
⟨some 20, some (18, false), .load false 1 (.t 19)⟩,
⟨some 21, some (18, false), .bin .geq (.t 20) (.c (.int .u64 1152921504606846976))⟩,
⟨some 22, none, .pick (.t 18) (.c (.bool true)) (.t 21)⟩]
abbrev x236r2 : List XOper := [
⟨some 6, none, .mv (.c (.int .i64 0))⟩,
⟨some 7, none, .mv (.c (.int .i64 1))⟩]
abbrev x236r3 : List XOper := [
⟨some 23, none, .fa 0 (.t 3)⟩,
⟨some 24, none, .load false 1 (.t 23)⟩,
⟨some 25, none, .load true 2 (.t 4)⟩,
⟨some 26, none, .call (.c (.fn (.func 58) [] [])) [(.t 24), (.t 25)]⟩,
⟨some 27, none, .fa 1 (.t 3)⟩,
⟨some 28, none, .load false 1 (.t 27)⟩,
⟨some 29, none, .load true 2 (.t 4)⟩,
⟨some 30, none, .call (.c (.fn (.func 58) [] [])) [(.t 28), (.t 29)]⟩,
⟨some 8, none, .mv (.t 26)⟩,
⟨some 9, none, .mv (.t 30)⟩]
abbrev x236r4 : List XOper := [
⟨some 31, none, .fa 0 (.t 3)⟩,
⟨some 32, none, .load false 1 (.t 31)⟩,
⟨some 33, none, .bin .gtr (.t 32) (.c (.int .i64 0))⟩]
abbrev x236r5 : List XOper := [
⟨some 34, none, .fa 0 (.t 3)⟩,
⟨some 35, none, .load false 1 (.t 34)⟩,
⟨some 36, none, .load true 2 (.t 5)⟩,
⟨some 37, none, .call (.c (.fn (.func 58) [] [])) [(.t 35), (.t 36)]⟩,
⟨some 8, none, .mv (.t 37)⟩]
abbrev x236r6 : List XOper := [
⟨some 38, none, .fa 1 (.t 3)⟩,
⟨some 39, none, .load false 1 (.t 38)⟩,
⟨some 40, none, .bin .lss (.t 39) (.c (.int .i64 0))⟩]
abbrev x236r7 : List XOper := [
⟨some 41, none, .fa 1 (.t 3)⟩,
⟨some 42, none, .load false 1 (.t 41)⟩,
⟨some 43, none, .load true 2 (.t 5)⟩,
⟨some 44, none, .call (.c (.fn (.func 58) [] [])) [(.t 42), (.t 43)]⟩,
⟨some 9, none, .mv (.t 44)⟩]
abbrev x236r8 : List XOper := [
⟨some 45, none, .mv (.t 9)⟩,
⟨some 46, none, .mv (.t 8)⟩,
⟨some 47, none, .bin .sub (.t 45) (.t 46)⟩,
⟨some 48, none, .bin .add (.t 47) (.c (.int .i64 1))⟩,
⟨some 49, none, .bin .shl (.c (.int .i64 1)) (.t 48)⟩,
⟨some 50, none, .bin .sub (.t 49) (.c (.int .i64 1))⟩,
⟨some 51, none, .mv (.t 8)⟩,
⟨some 52, none, .bin .add (.t 51) (.c (.int .i64 4))⟩,
⟨some 53, none, .bin .shl (.t 50) (.t 52)⟩,
⟨some 6, none, .mv (.t 53)⟩,
⟨some 7, none, .mv (.c (.int .i64 0))⟩]
abbrev x236b : XCode :=
(.seq (.reg 0 x236r0 none)
(.seq (.seq (.reg 1 x236r1 none)
(.cond (.t 22)
(.seq (.reg 2 x236r2 none)
.ret)
.skip))
(.seq (.reg 3 x236r3 (some ⟨[(3, 5), (3, 6)]⟩))
(.seq (.seq (.reg 4 x236r4 none)
(.cond (.t 33)
(.reg 5 x236r5 none)
.skip))
(.seq (.seq (.reg 6 x236r6 none)
(.cond (.t 40)
(.reg 7 x236r7 none)
.skip))
(.seq (.reg 8 x236r8 none)
.ret))))))
def x236 : XFunc := ⟨54, 3, [.tmp 6, .tmp 7], x236b⟩
theorem x236_ok : chkF Tryz.prog Tryz.f236 x236 = true := by kernel_rfl
theorem x236_eq : x236.body = x236b ∧ x236.res = [.tmp 6, .tmp 7] ∧ x236.np = 3 := ⟨rfl, rfl, rfl⟩
abbrev x237r0 : List XOper := [
⟨some 2, none, .mv (.c .nils)⟩]
abbrev x237r1 : List XOper := [
⟨some 3, none, .mv (.t 0)⟩,
⟨some 4, none, .eqN false 0 (.t 3)⟩]
abbrev x237r2 : List XOper := [
⟨some 2, none, .mv (.c .nils)⟩]
abbrev x237r3 : List XOper := [
⟨some 5, none, .mkslice 1 (.int .i64 0) 0 []⟩,
⟨some 6, none, .mv (.t 0)⟩,
⟨some 7, none, .app 1 8 (.t 5) (.t 6)⟩,
⟨some 2, none, .mv (.t 7)⟩]
abbrev x237b : XCode :=
(.seq (.reg 0 x237r0 none)
(.seq (.seq (.reg 1 x237r1 none)
(.cond (.t 4)
(.seq (.reg 2 x237r2 none)
.ret)
.skip))
(.seq (.reg 3 x237r3 none)
.ret)))
def x237 : XFunc := ⟨8, 1, [.tmp 2], x237b⟩
theorem x237_ok : chkF Tryz.prog Tryz.f237 x237 = true := by kernel_rfl
theorem x237_eq : x237.body = x237b ∧ x237.res = [.tmp 2] ∧ x237.np = 1 := ⟨rfl, rfl, rfl⟩
abbrev x240r0 : List XOper := [
⟨some 2, none, .mv (.c (.bool false))⟩]
abbrev x240r1 : List XOper := [
⟨some 3, none, .mv (.t 0)⟩,
⟨some 4, none, .bin .lss (.t 3) (.c (.int .i64 (-100000000000000)))⟩,
⟨some 5, none, .mv (.t 4)⟩,
⟨some 6, some (5, false), .mv (.t 0)⟩,
⟨some 7, some (5, false), .bin .gtr (.t 6) (.c (.int .i64 100000000000000))⟩,
⟨some 8, none, .pick (.t 5) (.c (.bool true)) (.t 7)⟩,
⟨some 2, none, .mv (.t 8)⟩]
abbrev x240b : XCode :=
(.seq (.reg 0 x240r0 none)
(.seq (.reg 1 x240r1 none)
.ret))
def x240 : XFunc := ⟨9, 1, [.tmp 2], x240b⟩
theorem x240_ok : chkF Tryz.prog Tryz.f240 x240 = true := by kernel_rfl
theorem x240_eq : x240.body = x240b ∧ x240.res = [.tmp 2] ∧ x240.np = 1 := ⟨rfl, rfl, rfl⟩
abbrev x241r0 : List XOper := [
⟨some 3, none, .mv (.c (.bool false))⟩]
abbrev x241r1 : List XOper := [
⟨some 4, none, .load true 2 (.t 1)⟩,
⟨some 5, none, .mv (.t 0)⟩,
⟨some 6, none, .mv (.t 0)⟩,
⟨some 7, none, .call (.c (.fn (.func 55) [] [])) [(.t 5), (.t 6)]⟩,
⟨some 8, none, .call (.c (.fn (.func 101) [] [])) [(.t 4), (.t 7)]⟩,
⟨some 9, none, .un .not (.t 8)⟩,
⟨some 3, none, .mv (.t 9)⟩]
abbrev x241b : XCode :=
(.seq (.reg 0 x241r0 none)
(.seq (.reg 1 x241r1 (some ⟨[(0, 3)]⟩))
.ret))
def x241 : XFunc := ⟨10, 2, [.tmp 3], x241b⟩
theorem x241_ok : chkF Tryz.prog Tryz.f241 x241 = true := by kernel_rfl
theorem x241_eq : x241.body = x241b ∧ x241.res = [.tmp 3] ∧ x241.np = 2 := ⟨rfl, rfl, rfl⟩
abbrev x242r0 : List XOper := [
⟨some 1, none, .box (.t 0)⟩,
⟨some 2, none, .mv (.c (.bool false))⟩]
abbrev x242r1 : List XOper := [
⟨some 4, none, .load true 2 (.t 1)⟩,
⟨some 5, none, .call (.c (.fn (.func 231) [] [])) [(.t 4)]⟩,
⟨some 3, none, .mv (.t 5)⟩]
abbrev x242r2 : List XOper := [
⟨some 6, none, .mv (.t 3)⟩,
⟨some 7, none, .mv (.t 3)⟩,
⟨some 8, none, .call (.c (.fn (.func 55) [] [])) [(.t 6), (.t 7)]⟩,
⟨some 9, none, .load true 2 (.t 1)⟩,
⟨some 10, none, .eqA false [0, 0] (.t 8) (.t 9)⟩,
⟨some 2, none, .mv (.t 10)⟩]
abbrev x242b : XCode :=
(.seq (.reg 0 x242r0 none)
(.seq (.reg 1 x242r1 none)
(.seq (.reg 2 x242r2 (some ⟨[(2, 3)]⟩))
.ret)))
def x242 : XFunc := ⟨11, 1, [.tmp 2], x242b⟩
theorem x242_ok : chkF Tryz.prog Tryz.f242 x242 = true := by kernel_rfl
theorem x242_eq : x242.body = x242b ∧ x242.res = [.tmp 2] ∧ x242.np = 1 := ⟨rfl, rfl, rfl⟩
abbrev x243r0 : List XOper := [
⟨some 2, none, .box (.t 0)⟩,
⟨some 3, none, .box (.t 1)⟩,
⟨some 4, none, .alloc [(.int .u64 0), (.int .u64 0)]⟩,
⟨some 5, none, .mv (.c (.bool false))⟩]
abbrev x243r1 : List XOper := [
⟨some 11, none, .load true 2 (.t 2)⟩,
⟨some 12, none, .call (.c (.fn (.func 252) [] [])) [(.t 11)]⟩,
⟨some 13, none, .load true 2 (.t 3)⟩,
⟨some 14, none, .call (.c (.fn (.func 252) [] [])) [(.t 13)]⟩,
⟨some 6, none, .alloc [(.int .u64 0), (.int .u64 0)]⟩,
⟨some 7, none, .alloc [(.int .u64 0), (.int .u64 0)]⟩,
⟨none, none, .store 2 (.t 6) (.t 12)⟩,
⟨none, none, .store 2 (.t 7) (.t 14)⟩]
abbrev x243r2 : List XOper := [
⟨some 8, none, .alloc [(.int .u64 0), (.int .u64 0)]⟩]
abbrev x243r3 : List XOper := [
⟨some 9, none, .mv (.c (.int .u64 0))⟩]
abbrev x243r4 : List XOper := [
⟨some 15, none, .mv (.c (.int .i64 0))⟩]
abbrev x243r5 : List XOper := [
⟨some 16, none, .bin .lss (.t 15) (.c (.int .i64 2))⟩]
abbrev x243r6 : List XOper := [
⟨some 17, none, .mv (.t 15)⟩,
⟨some 10, none, .mv (.t 17)⟩]
abbrev x243r7 : List XOper := [
⟨some 19, none, .mv (.t 10)⟩,
⟨some 20, none, .mv (.t 10)⟩,
⟨some 21, none, .iaA 2 1 (.t 6) (.t 20)⟩,
⟨some 22, none, .load false 1 (.t 21)⟩,
⟨some 23, none, .mv (.t 10)⟩,
⟨some 24, none, .iaA 2 1 (.t 7) (.t 23)⟩,
⟨some 25, none, .load false 1 (.t 24)⟩,
⟨some 26, none, .mv (.t 9)⟩,
⟨some 27, none, .call (.c (.fn (.func 136) [] [])) [(.t 22), (.t 25), (.t 26)]⟩,
⟨some 18, none, .mv (.t 27)⟩,
⟨some 28, none, .ext (.t 18) 0⟩,
⟨some 29, none, .ext (.t 18) 1⟩,
⟨some 30, none, .iaA 2 1 (.t 8) (.t 19)⟩,
⟨none, none, .store 1 (.t 30) (.t 28)⟩,
⟨some 9, none, .mv (.t 29)⟩]
abbrev x243r8 : List XOper := [
⟨some 31, none, .bin .add (.t 15) (.c (.int .i64 1))⟩,
⟨some 15, none, .mv (.t 31)⟩]
abbrev x243l5 : XCode :=
(.seq (.reg 5 x243r5 none)
(.seq (.cond (.t 16)
.skip
(.exit 0))
(.seq (.block 1
(.seq (.reg 6 x243r6 none)
(.reg 7 x243r7 (some ⟨[]⟩))))
(.reg 8 x243r8 none))))
abbrev x243r9 : List XOper := [
⟨some 32, none, .iaA 2 1 (.t 8) (.c (.int .i64 1))⟩,
⟨some 33, none, .load false 1 (.t 32)⟩,
⟨some 34, none, .iaA 2 1 (.t 8) (.c (.int .i64 0))⟩,
⟨some 35, none, .load false 1 (.t 34)⟩,
⟨some 36, none, .build [(.int .u64 0), (.int .u64 0)] [(0, 1, (.t 33)), (1, 1, (.t 35))]⟩,
⟨some 37, none, .mv (.t 9)⟩,
⟨some 38, none, .bin .gtr (.t 37) (.c (.int .u64 0))⟩,
⟨none, none, .store 2 (.t 4) (.t 36)⟩,
⟨some 5, none, .mv (.t 38)⟩]
abbrev x243b : XCode :=
(.seq (.reg 0 x243r0 none)
(.seq (.reg 1 x243r1 (some ⟨[(1, 2), (0, 4), (1, 4), (2, 4), (3, 4), (0, 5), (1, 5), (2, 5), (3, 5), (4, 5)]⟩))
(.seq (.reg 2 x243r2 none)
(.seq (.reg 3 x243r3 none)
(.seq (.seq (.reg 4 x243r4 none)
(.block 0
(.loop x243l5)))
(.seq (.reg 9 x243r9 none)
.ret))))))
def x243 : XFunc := ⟨39, 2, [.cell 4 true 2, .tmp 5], x243b⟩
theorem x243_ok : chkF Tryz.prog Tryz.f243 x243 = true := by kernel_rfl
theorem x243_eq : x243.body = x243b ∧ x243.res = [.cell 4 true 2, .tmp 5] ∧ x243.np = 2 := ⟨rfl, rfl, rfl⟩
abbrev x244r0 : List XOper := [
⟨some 0, none, .alloc [.nilf, .nilf, .nilf]⟩]
abbrev x244r1 : List XOper := [
⟨some 1, none, .build [.nilf, .nilf, .nilf] [(0, 1, (.c (.fn (.func 253) [] []))), (1, 1, (.c (.fn (.func 254) [] []))), (2, 1, (.c (.fn (.func 255) [] [])))]⟩,
⟨none, none, .store 3 (.t 0) (.t 1)⟩]
abbrev x244b : XCode :=
(.seq (.reg 0 x244r0 none)
(.seq (.reg 1 x244r1 none)
.ret))
def x244 : XFunc := ⟨2, 0, [.cell 0 true 3], x244b⟩
theorem x244_ok : chkF Tryz.prog Tryz.f244 x244 = true := by kernel_rfl
theorem x244_eq : x244.body = x244b ∧ x244.res = [.cell 0 true 3] ∧ x244.np = 0 := ⟨rfl, rfl, rfl⟩
abbrev x246r0 : List XOper := [
⟨some 5, none, .mv (.c (.int .i64 0))⟩]
abbrev x246r1 : List XOper := [
⟨some 7, none, .load false 1 (.t 0)⟩,
⟨some 8, none, .call (.c (.fn (.func 247) [] [])) [(.t 7)]⟩,
⟨some 9, none, .build [(.int .u64 0), (.int .u64 0)] [(1, 1, (.t 8))]⟩,
⟨some 10, none, .load false 1 (.t 1)⟩,
⟨some 11, none, .bin .lss (.t 10) (.c (.int .i64 0))⟩,
⟨some 12, none, .load false 1 (.t 2)⟩,
⟨some 13, none, .bin .lss (.t 12) (.c (.int .i64 0))⟩,
⟨some 14, none, .eqB true (.t 11) (.t 13)⟩,
⟨some 15, none, .load false 1 (.t 0)⟩,
⟨some 16, none, .bin .lss (.t 15) (.c (.int .i64 0))⟩,
⟨some 17, none, .eqB true (.t 14) (.t 16)⟩,
⟨some 18, none, .build [(.int .u64 0), (.int .u64 0), (.int .u64 0), (.int .u64 0), (.int .u64 0), (.int .u64 0), (.bool false)] [(4, 2, (.t 9)), (6, 1, (.t 17))]⟩,
⟨some 6, none, .alloc [(.int .u64 0), (.int .u64 0), (.int .u64 0), (.int .u64 0), (.int .u64 0), (.int .u64 0), (.bool false)]⟩,
⟨none, none, .store 7 (.t 6) (.t 18)⟩]
abbrev x246r2 : List XOper := [
⟨some 20, none, .load false 1 (.t 1)⟩,
⟨some 21, none, .call (.c (.fn (.func 247) [] [])) [(.t 20)]⟩,
⟨some 22, none, .load false 1 (.t 2)⟩,
⟨some 23, none, .call (.c (.fn (.func 247) [] [])) [(.t 22)]⟩,
⟨some 24, none, .call (.c (.fn (.func 55) [] [])) [(.t 21), (.t 23)]⟩,
⟨some 25, none, .fa 4 (.t 6)⟩,
⟨some 26, none, .load true 2 (.t 25)⟩,
⟨some 27, none, .call (.c (.fn (.func 248) [] [])) [(.t 24), (.t 26)]⟩,
⟨some 19, none, .mv (.t 27)⟩,
⟨some 28, none, .ext (.t 19) 0⟩,
⟨some 29, none, .ext (.t 19) 1⟩,
⟨some 30, none, .ext (.t 19) 2⟩,
⟨some 31, none, .fa 0 (.t 6)⟩,
⟨none, none, .store 2 (.t 31) (.t 28)⟩,
⟨some 32, none, .fa 2 (.t 6)⟩,
⟨none, none, .store 2 (.t 32) (.t 29)⟩]
abbrev x246r3 : List XOper := [
⟨some 33, none, .load false 1 (.t 1)⟩,
⟨some 34, none, .bin .eql (.t 33) (.c (.int .i64 0))⟩,
⟨some 35, none, .mv (.t 34)⟩,
⟨some 36, some (35, false), .load false 1 (.t 2)⟩,
⟨some 37, some (35, false), .bin .eql (.t 36) (.c (.int .i64 0))⟩,
⟨some 38, none, .pick (.t 35) (.c (.bool true)) (.t 37)⟩]
abbrev x246r4 : List XOper := [
⟨some 5, none, .mv (.c (.int .i64 0))⟩]
abbrev x246r5 : List XOper := [
⟨some 39, none, .load false 1 (.t 4)⟩,
⟨some 40, none, .iaA 3 1 (.t 3) (.t 39)⟩,
⟨some 41, none, .load false 1 (.t 40)⟩,
⟨some 42, none, .load true 7 (.t 6)⟩,
⟨some 43, none, .call (.t 41) [(.t 42)]⟩]
abbrev x246r6 : List XOper := [
⟨some 45, none, .fa 0 (.t 6)⟩,
⟨some 46, none, .load true 2 (.t 45)⟩,
⟨some 47, none, .build [(.int .u64 0), (.int .u64 0)] [(1, 1, (.c (.int .u64 1)))]⟩,
⟨some 48, none, .call (.c (.fn (.func 243) [] [])) [(.t 46), (.t 47)]⟩,
⟨some 44, none, .mv (.t 48)⟩,
⟨some 49, none, .ext (.t 44) 0⟩,
⟨some 50, none, .ext (.t 44) 1⟩,
⟨some 51, none, .fa 0 (.t 6)⟩,
⟨none, none, .store 2 (.t 51) (.t 49)⟩]
abbrev x246r7 : List XOper := [
⟨some 52, none, .fa 0 (.t 6)⟩,
⟨some 53, none, .load true 2 (.t 52)⟩,
⟨some 54, none, .fa 6 (.t 6)⟩,
⟨some 55, none, .load false 1 (.t 54)⟩,
⟨some 56, none, .call (.c (.fn (.func 249) [] [])) [(.t 53), (.t 55)]⟩,
⟨some 5, none, .mv (.t 56)⟩]
abbrev x246b : XCode :=
(.seq (.reg 0 x246r0 none)
(.seq (.reg 1 x246r1 (some ⟨[(1, 3), (1, 5), (1, 8), (0, 12), (1, 12), (3, 12), (5, 12), (8, 12)]⟩))
(.seq (.reg 2 x246r2 (some ⟨[(1, 2), (1, 6), (3, 6), (4, 6)]⟩))
(.seq (.seq (.reg 3 x246r3 none)
(.cond (.t 38)
(.seq (.reg 4 x246r4 none)
.ret)
.skip))
(.seq (.seq (.reg 5 x246r5 (some ⟨[]⟩))
(.cond (.t 43)
(.reg 6 x246r6 none)
.skip))
(.seq (.reg 7 x246r7 none)
.ret))))))
def x246 : XFunc := ⟨57, 5, [.tmp 5], x246b⟩
theorem x246_ok : chkF Tryz.prog Tryz.f246 x246 = true := by kernel_rfl
theorem x246_eq : x246.body = x246b ∧ x246.res = [.tmp 5] ∧ x246.np = 5 := ⟨rfl, rfl, rfl⟩
abbrev x247r0 : List XOper := [
⟨some 2, none, .mv (.c (.int .u64 0))⟩]
abbrev x247r1 : List XOper := [
⟨some 3, none, .mv (.t 0)⟩,
⟨some 4, none, .bin .lss (.t 3) (.c (.int .i64 0))⟩]
abbrev x247r2 : List XOper := [
⟨some 5, none, .mv (.t 0)⟩,
⟨some 6, none, .conv .u64 (.t 5)⟩,
⟨some 7, none, .un .neg (.t 6)⟩,
⟨some 2, none, .mv (.t 7)⟩]
abbrev x247r3 : List XOper := [
⟨some 8, none, .mv (.t 0)⟩,
⟨some 9, none, .conv .u64 (.t 8)⟩,
⟨some 2, none, .mv (.t 9)⟩]
abbrev x247b : XCode :=
(.seq (.reg 0 x247r0 none)
(.seq (.seq (.reg 1 x247r1 none)
(.cond (.t 4)
(.seq (.reg 2 x247r2 none)
.ret)
.skip))
(.seq (.reg 3 x247r3 none)
.ret)))
def x247 : XFunc := ⟨10, 1, [.tmp 2], x247b⟩
theorem x247_ok : chkF Tryz.prog Tryz.f247 x247 = true := by kernel_rfl
theorem x247_eq : x247.body = x247b ∧ x247.res = [.tmp 2] ∧ x247.np = 1 := ⟨rfl, rfl, rfl⟩
abbrev x248r0 : List XOper := [
⟨some 2, none, .box (.t 0)⟩,
⟨some 3, none, .box (.t 1)⟩,
⟨some 4, none, .alloc [(.int .u64 0), (.int .u64 0)]⟩,
⟨some 5, none, .alloc [(.int .u64 0), (.int .u64 0)]⟩,
⟨some 6, none, .mv (.c (.int .i64 0))⟩]
abbrev x248r1 : List XOper := [
⟨some 14, none, .load true 2 (.t 3)⟩,
⟨some 15, none, .build [(.int .u64 0), (.int .u64 0)] []⟩,
⟨some 16, none, .eqA false [0, 0] (.t 14) (.t 15)⟩]
abbrev x248r2 : List XOper := [
⟨some 17, none, .build [(.int .u64 0), (.int .u64 0)] []⟩,
⟨some 18, none, .build [(.int .u64 0), (.int .u64 0)] []⟩,
⟨none, none, .store 2 (.t 4) (.t 17)⟩,
⟨none, none, .store 2 (.t 5) (.t 18)⟩,
⟨some 6, none, .mv (.c (.int .i64 4))⟩]
abbrev x248r3 : List XOper := [
⟨some 19, none, .fa 0 (.t 3)⟩,
⟨some 20, none, .load false 1 (.t 19)⟩,
⟨some 21, none, .bin .eql (.t 20) (.c (.int .u64 0))⟩]
abbrev x248r4 : List XOper := [
⟨some 23, none, .fa 0 (.t 2)⟩,
⟨some 24, none, .load false 1 (.t 23)⟩,
⟨some 25, none, .fa 1 (.t 3)⟩,
⟨some 26, none, .load false 1 (.t 25)⟩,
⟨some 27, none, .call (.c (.fn (.func 258) [] [])) [(.c (.int .u64 0)), (.t 24), (.t 26)]⟩,
⟨some 22, none, .mv (.t 27)⟩,
⟨some 28, none, .ext (.t 22) 0⟩,
⟨some 29, none, .ext (.t 22) 1⟩,
⟨some 7, none, .mv (.t 28)⟩,
⟨some 8, none, .mv (.t 29)⟩]
abbrev x248r5 : List XOper := [
⟨some 31, none, .mv (.t 8)⟩,
⟨some 32, none, .fa 1 (.t 2)⟩,
⟨some 33, none, .load false 1 (.t 32)⟩,
⟨some 34, none, .fa 1 (.t 3)⟩,
⟨some 35, none, .load false 1 (.t 34)⟩,
⟨some 36, none, .call (.c (.fn (.func 258) [] [])) [(.t 31), (.t 33), (.t 35)]⟩,
⟨some 30, none, .mv (.t 36)⟩,
⟨some 37, none, .ext (.t 30) 0⟩,
⟨some 38, none, .ext (.t 30) 1⟩,
⟨some 9, none, .mv (.t 37)⟩,
⟨some 10, none, .mv (.t 38)⟩]
abbrev x248r6 : List XOper := [
⟨some 39, none, .mv (.t 7)⟩,
⟨some 40, none, .mv (.t 9)⟩,
⟨some 41, none, .build [(.int .u64 0), (.int .u64 0)] [(0, 1, (.t 39)), (1, 1, (.t 40))]⟩,
⟨some 42, none, .mv (.t 10)⟩,
⟨some 43, none, .build [(.int .u64 0), (.int .u64 0)] [(1, 1, (.t 42))]⟩,
⟨none, none, .store 2 (.t 4) (.t 41)⟩,
⟨none, none, .store 2 (.t 5) (.t 43)⟩,
⟨some 6, none, .mv (.c (.int .i64 0))⟩]
abbrev x248r7 : List XOper := [
⟨some 44, none, .build [(.int .u64 0), (.int .u64 0)] []⟩,
⟨some 11, none, .alloc [(.int .u64 0), (.int .u64 0)]⟩,
⟨none, none, .store 2 (.t 11) (.t 44)⟩]
abbrev x248r8 : List XOper := [
⟨some 45, none, .fa 0 (.t 3)⟩,
⟨some 46, none, .load false 1 (.t 45)⟩,
⟨some 47, none, .call (.c (.fn (.func 259) [] [])) [(.t 46)]⟩,
⟨some 12, none, .mv (.t 47)⟩]
abbrev x248r9 : List XOper := [
⟨some 48, none, .mv (.t 12)⟩,
⟨some 49, none, .bin .geq (.t 48) (.c (.int .i64 0))⟩]
abbrev x248r11 : List XOper := [
⟨some 52, none, .load true 2 (.t 3)⟩,
⟨some 53, none, .mv (.t 12)⟩,
⟨some 54, none, .call (.c (.fn (.func 260) [] [])) [(.t 52), (.t 53)]⟩,
⟨some 13, none, .alloc [(.int .u64 0), (.int .u64 0)]⟩,
⟨none, none, .store 2 (.t 13) (.t 54)⟩]
abbrev x248r12 : List XOper := [
⟨some 55, none, .load true 2 (.t 2)⟩,
⟨some 56, none, .load true 2 (.t 13)⟩,
⟨some 57, none, .call (.c (.fn (.func 101) [] [])) [(.t 55), (.t 56)]⟩]
abbrev x248r13 : List XOper := [
⟨some 59, none, .load true 2 (.t 2)⟩,
⟨some 60, none, .load true 2 (.t 13)⟩,
⟨some 61, none, .call (.c (.fn (.func 256) [] [])) [(.t 59), (.t 60)]⟩,
⟨some 58, none, .mv (.t 61)⟩,
⟨some 62, none, .ext (.t 58) 0⟩,
⟨some 63, none, .ext (.t 58) 1⟩,
⟨none, none, .store 2 (.t 2) (.t 62)⟩]
abbrev x248r14 : List XOper := [
⟨some 64, none, .fa 1 (.t 11)⟩,
⟨some 65, none, .load false 1 (.t 64)⟩,
⟨some 66, none, .mv (.t 12)⟩,
⟨some 67, none, .bin .shl (.c (.int .u64 1)) (.t 66)⟩,
⟨some 68, none, .bin .or (.t 65) (.t 67)⟩,
⟨some 69, none, .fa 1 (.t 11)⟩,
⟨none, none, .store 1 (.t 69) (.t 68)⟩]
abbrev x248r10 : List XOper := [
⟨some 50, none, .mv (.t 12)⟩,
⟨some 51, none, .bin .sub (.t 50) (.c (.int .i64 1))⟩,
⟨some 12, none, .mv (.t 51)⟩]
abbrev x248l9 : XCode :=
(.seq (.seq (.reg 9 x248r9 none)
(.cond (.t 49)
.skip
(.exit 0)))
(.seq (.block 1
(.seq (.reg 11 x248r11 none)
(.seq (.seq (.reg 12 x248r12 none)
(.cond (.t 57)
(.exit 1)
.skip))
(.seq (.reg 13 x248r13 none)
(.reg 14 x248r14 (some ⟨[]⟩))))))
(.reg 10 x248r10 none)))
abbrev x248r15 : List XOper := [
⟨some 70, none, .load true 2 (.t 11)⟩,
⟨some 71, none, .load true 2 (.t 2)⟩,
⟨none, none, .store 2 (.t 4) (.t 70)⟩,
⟨none, none, .store 2 (.t 5) (.t 71)⟩,
⟨some 6, none, .mv (.c (.int .i64 0))⟩]
abbrev x248b : XCode :=
(.seq (.reg 0 x248r0 none)
(.seq (.seq (.reg 1 x248r1 none)
(.cond (.t 16)
(.seq (.reg 2 x248r2 none)
.ret)
.skip))
(.seq (.seq (.reg 3 x248r3 none)
(.cond (.t 21)
(.seq (.reg 4 x248r4 none)
(.seq (.reg 5 x248r5 none)
(.seq (.reg 6 x248r6 none)
.ret)))
.skip))
(.seq (.reg 7 x248r7 none)
(.seq (.seq (.reg 8 x248r8 none)
(.block 0
(.loop x248l9)))
(.seq (.reg 15 x248r15 (some ⟨[(1, 2)]⟩))
.ret))))))
def x248 : XFunc := ⟨72, 2, [.cell 4 true 2, .cell 5 true 2, .tmp 6], x248b⟩
theorem x248_ok : chkF Tryz.prog Tryz.f248 x248 = true := by kernel_rfl
theorem x248_eq : x248.body = x248b ∧ x248.res = [.cell 4 true 2, .cell 5 true 2, .tmp 6] ∧ x248.np = 2 := ⟨rfl, rfl, rfl⟩
abbrev x249r0 : List XOper := [
⟨some 2, none, .box (.t 0)⟩,
⟨some 4, none, .mv (.c (.int .i64 0))⟩]
abbrev x249r1 : List XOper := [
⟨some 5, none, .fa 0 (.t 2)⟩,
⟨some 6, none, .load false 1 (.t 5)⟩,
⟨some 7, none, .bin .gtr (.t 6) (.c (.int .u64 0))⟩,
⟨some 8, none, .mv (.t 7)⟩,
⟨some 9, some (8, false), .fa 1 (.t 2)⟩,
⟨some 10, some (8, false), .load false 1 (.t 9)⟩,
⟨some 11, some (8, false), .bin .gtr (.t 10) (.c (.int .u64 9223372036854775808))⟩,
⟨some 12, none, .pick (.t 8) (.c (.bool true)) (.t 11)⟩,
⟨some 13, none, .mv (.t 12)⟩,
⟨some 14, some (13, false), .fa 1 (.t 2)⟩,
⟨some 15, some (13, false), .load false 1 (.t 14)⟩,
⟨some 16, some (13, false), .bin .gtr (.t 15) (.c (.int .u64 9223372036854775807))⟩,
⟨some 17, some (13, false), .mv (.t 16)⟩,
⟨some 18, some (17, true), .mv (.t 1)⟩,
⟨some 19, some (17, true), .un .not (.t 18)⟩,
⟨some 20, some (13, false), .pick (.t 17) (.t 19) (.c (.bool false))⟩,
⟨some 21, none, .pick (.t 13) (.c (.bool true)) (.t 20)⟩]
abbrev x249r2 : List XOper := [
⟨some 22, none, .build [] []⟩,
⟨some 23, none, .mki 326 (.t 22)⟩,
⟨none, none, .bad⟩]
abbrev x249r3 : List XOper := [
⟨some 24, none, .mv (.t 1)⟩]
abbrev x249r4 : List XOper := [
⟨some 25, none, .fa 1 (.t 2)⟩,
⟨some 26, none, .load false 1 (.t 25)⟩,
⟨some 27, none, .un .neg (.t 26)⟩,
⟨some 28, none, .conv .i64 (.t 27)⟩,
⟨some 4, none, .mv (.t 28)⟩]
abbrev x249r5 : List XOper := [
⟨some 29, none, .fa 1 (.t 2)⟩,
⟨some 30, none, .load false 1 (.t 29)⟩,
⟨some 31, none, .conv .i64 (.t 30)⟩,
⟨some 4, none, .mv (.t 31)⟩]
abbrev x249b : XCode :=
(.seq (.reg 0 x249r0 none)
(.seq (.seq (.reg 1 x249r1 none)
(.cond (.t 21)
(.reg 2 x249r2 none)
.skip))
(.seq (.seq (.reg 3 x249r3 none)
(.cond (.t 24)
(.seq (.reg 4 x249r4 none)
.ret)
.skip))
(.seq (.reg 5 x249r5 none)
.ret))))
def x249 : XFunc := ⟨32, 2, [.tmp 4], x249b⟩
theorem x249_ok : chkF Tryz.prog Tryz.f249 x249 = true := by kernel_rfl
theorem x249_eq : x249.body = x249b ∧ x249.res = [.tmp 4] ∧ x249.np = 2 := ⟨rfl, rfl, rfl⟩
abbrev x252r0 : List XOper := [
⟨some 1, none, .box (.t 0)⟩,
⟨some 2, none, .alloc [(.int .u64 0), (.int .u64 0)]⟩]
abbrev x252r1 : List XOper := [
⟨some 3, none, .fa 1 (.t 1)⟩,
⟨some 4, none, .load false 1 (.t 3)⟩,
⟨some 5, none, .fa 0 (.t 1)⟩,
⟨some 6, none, .load false 1 (.t 5)⟩,
⟨some 7, none, .build [(.int .u64 0), (.int .u64 0)] [(0, 1, (.t 4)), (1, 1, (.t 6))]⟩,
⟨none, none, .store 2 (.t 2) (.t 7)⟩]
abbrev x252b : XCode :=
(.seq (.reg 0 x252r0 none)
(.seq (.reg 1 x252r1 none)
.ret))
def x252 : XFunc := ⟨8, 1, [.cell 2 true 2], x252b⟩
theorem x252_ok : chkF Tryz.prog Tryz.f252 x252 = true := by kernel_rfl
theorem x252_eq : x252.body = x252b ∧ x252.res = [.cell 2 true 2] ∧ x252.np = 1 := ⟨rfl, rfl, rfl⟩
abbrev x253r0 : List XOper := [
⟨some 1, none, .box (.t 0)⟩,
⟨some 2, none, .mv (.c (.bool false))⟩]
abbrev x253r1 : List XOper := [
⟨some 3, none, .fa 6 (.t 1)⟩,
⟨some 4, none, .load false 1 (.t 3)⟩,
⟨some 5, none, .mv (.t 4)⟩,
⟨some 6, some (5, true), .fa 2 (.t 1)⟩,
⟨some 7, some (5, true), .load true 2 (.t 6)⟩,
⟨some 8, some (5, true), .build [(.int .u64 0), (.int .u64 0)] []⟩,
⟨some 9, some (5, true), .eqA true [0, 0] (.t 7) (.t 8)⟩,
⟨some 10, none, .pick (.t 5) (.t 9) (.c (.bool false))⟩,
⟨some 2, none, .mv (.t 10)⟩]
abbrev x253b : XCode :=
(.seq (.reg 0 x253r0 none)
(.seq (.reg 1 x253r1 none)
.ret))
def x253 : XFunc := ⟨11, 1, [.tmp 2], x253b⟩
theorem x253_ok : chkF Tryz.prog Tryz.f253 x253 = true := by kernel_rfl
theorem x253_eq : x253.body = x253b ∧ x253.res = [.tmp 2] ∧ x253.np = 1 := ⟨rfl, rfl, rfl⟩
abbrev x254r0 : List XOper := [
⟨some 1, none, .box (.t 0)⟩,
⟨some 2, none, .mv (.c (.bool false))⟩]
abbrev x254r1 : List XOper := [
⟨some 3, none, .fa 6 (.t 1)⟩,
⟨some 4, none, .load false 1 (.t 3)⟩,
⟨some 5, none, .un .not (.t 4)⟩,
⟨some 6, none, .mv (.t 5)⟩,
⟨some 7, some (6, true), .fa 2 (.t 1)⟩,
⟨some 8, some (6, true), .load true 2 (.t 7)⟩,
⟨some 9, some (6, true), .build [(.int .u64 0), (.int .u64 0)] []⟩,
⟨some 10, some (6, true), .eqA true [0, 0] (.t 8) (.t 9)⟩,
⟨some 11, none, .pick (.t 6) (.t 10) (.c (.bool false))⟩,
⟨some 2, none, .mv (.t 11)⟩]
abbrev x254b : XCode :=
(.seq (.reg 0 x254r0 none)
(.seq (.reg 1 x254r1 none)
.ret))
def x254 : XFunc := ⟨12, 1, [.tmp 2], x254b⟩
theorem x254_ok : chkF Tryz.prog Tryz.f254 x254 = true := by kernel_rfl
theorem x254_eq : x254.body = x254b ∧ x254.res = [.tmp 2] ∧ x254.np = 1 := ⟨rfl, rfl, rfl⟩
abbrev x255r0 : List XOper := [
⟨some 1, none, .box (.t 0)⟩,
⟨some 2, none, .mv (.c (.bool false))⟩]
abbrev x255r1 : List XOper := [
⟨some 6, none, .fa 4 (.t 1)⟩,
⟨some 7, none, .load true 2 (.t 6)⟩,
⟨some 8, none, .fa 2 (.t 1)⟩,
⟨some 9, none, .load true 2 (.t 8)⟩,
⟨some 10, none, .call (.c (.fn (.func 256) [] [])) [(.t 7), (.t 9)]⟩,
⟨some 5, none, .mv (.t 10)⟩,
⟨some 11, none, .ext (.t 5) 0⟩,
⟨some 12, none, .ext (.t 5) 1⟩,
⟨some 3, none, .alloc [(.int .u64 0), (.int .u64 0)]⟩,
⟨none, none, .store 2 (.t 3) (.t 11)⟩,
⟨some 4, none, .mv (.t 12)⟩]
abbrev x255r2 : List XOper := [
⟨some 13, none, .load true 2 (.t 3)⟩,
⟨some 14, none, .fa 2 (.t 1)⟩,
⟨some 15, none, .load true 2 (.t 14)⟩,
⟨some 16, none, .call (.c (.fn (.func 101) [] [])) [(.t 13), (.t 15)]⟩,
⟨some 17, none, .mv (.t 16)⟩,
⟨some 18, some (17, false), .load true 2 (.t 3)⟩,
⟨some 19, some (17, false), .fa 2 (.t 1)⟩,
⟨some 20, some (17, false), .load true 2 (.t 19)⟩,
⟨some 21, some (17, false), .eqA false [0, 0] (.t 18) (.t 20)⟩,
⟨some 22, some (17, false), .mv (.t 21)⟩,
⟨some 23, some (22, true), .fa 0 (.t 1)⟩,
⟨some 24, some (22, true), .fa 1 (.t 23)⟩,
⟨some 25, some (22, true), .load false 1 (.t 24)⟩,
⟨some 26, some (22, true), .bin .and (.t 25) (.c (.int .u64 1))⟩,
⟨some 27, some (22, true), .bin .eql (.t 26) (.c (.int .u64 1))⟩,
⟨some 28, some (17, false), .pick (.t 22) (.t 27) (.c (.bool false))⟩,
⟨some 29, none, .pick (.t 17) (.c (.bool true)) (.t 28)⟩,
⟨some 2, none, .mv (.t 29)⟩]
abbrev x255b : XCode :=
(.seq (.reg 0 x255r0 none)
(.seq (.reg 1 x255r1 none)
(.seq (.reg 2 x255r2 none)
.ret)))
def x255 : XFunc := ⟨30, 1, [.tmp 2], x255b⟩
theorem x255_ok : chkF Tryz.prog Tryz.f255 x255 = true := by kernel_rfl
abbrev x256r0 : List XOper := [
⟨some 2, none, .box (.t 0)⟩,
⟨some 3, none, .box (.t 1)⟩,
⟨some 4, none, .alloc [(.int .u64 0), (.int .u64 0)]⟩,
⟨some 5, none, .mv (.c (.bool false))⟩]
abbrev x256r1 : List XOper := [
⟨some 11, none, .load true 2 (.t 2)⟩,
⟨some 12, none, .call (.c (.fn (.func 252) [] [])) [(.t 11)]⟩,
⟨some 13, none, .load true 2 (.t 3)⟩,
⟨some 14, none, .call (.c (.fn (.func 252) [] [])) [(.t 13)]⟩,
⟨some 6, none, .alloc [(.int .u64 0), (.int .u64 0)]⟩,
⟨some 7, none, .alloc [(.int .u64 0), (.int .u64 0)]⟩,
⟨none, none, .store 2 (.t 6) (.t 12)⟩,
⟨none, none, .store 2 (.t 7) (.t 14)⟩]
abbrev x256r2 : List XOper := [
⟨some 8, none, .alloc [(.int .u64 0), (.int .u64 0)]⟩]
abbrev x256r3 : List XOper := [
⟨some 9, none, .mv (.c (.int .u64 0))⟩]
abbrev x256r4 : List XOper := [
⟨some 15, none, .mv (.c (.int .i64 0))⟩]
abbrev x256r5 : List XOper := [
⟨some 16, none, .bin .lss (.t 15) (.c (.int .i64 2))⟩]
abbrev x256r6 : List XOper := [
⟨some 17, none, .mv (.t 15)⟩,
⟨some 10, none, .mv (.t 17)⟩]
abbrev x256r7 : List XOper := [
⟨some 19, none, .mv (.t 10)⟩,
⟨some 20, none, .mv (.t 10)⟩,
⟨some 21, none, .iaA 2 1 (.t 6) (.t 20)⟩,
⟨some 22, none, .load false 1 (.t 21)⟩,
⟨some 23, none, .mv (.t 10)⟩,
⟨some 24, none, .iaA 2 1 (.t 7) (.t 23)⟩,
⟨some 25, none, .load false 1 (.t 24)⟩,
⟨some 26, none, .mv (.t 9)⟩,
⟨some 27, none, .call (.c (.fn (.func 265) [] [])) [(.t 22), (.t 25), (.t 26)]⟩,
⟨some 18, none, .mv (.t 27)⟩,
⟨some 28, none, .ext (.t 18) 0⟩,
⟨some 29, none, .ext (.t 18) 1⟩,
⟨some 30, none, .iaA 2 1 (.t 8) (.t 19)⟩,
⟨none, none, .store 1 (.t 30) (.t 28)⟩,
⟨some 9, none, .mv (.t 29)⟩]
abbrev x256r8 : List XOper := [
⟨some 31, none, .bin .add (.t 15) (.c (.int .i64 1))⟩,
⟨some 15, none, .mv (.t 31)⟩]
abbrev x256l5 : XCode :=
(.seq (.reg 5 x256r5 none)
(.seq (.cond (.t 16)
.skip
(.exit 0))
(.seq (.block 1
(.seq (.reg 6 x256r6 none)
(.reg 7 x256r7 (some ⟨[]⟩))))
(.reg 8 x256r8 none))))
abbrev x256r9 : List XOper := [
⟨some 32, none, .iaA 2 1 (.t 8) (.c (.int .i64 1))⟩,
⟨some 33, none, .load false 1 (.t 32)⟩,
⟨some 34, none, .iaA 2 1 (.t 8) (.c (.int .i64 0))⟩,
⟨some 35, none, .load false 1 (.t 34)⟩,
⟨some 36, none, .build [(.int .u64 0), (.int .u64 0)] [(0, 1, (.t 33)), (1, 1, (.t 35))]⟩,
⟨some 37, none, .mv (.t 9)⟩,
⟨some 38, none, .bin .gtr (.t 37) (.c (.int .u64 0))⟩,
⟨none, none, .store 2 (.t 4) (.t 36)⟩,
⟨some 5, none, .mv (.t 38)⟩]
abbrev x256b : XCode :=
(.seq (.reg 0 x256r0 none)
(.seq (.reg 1 x256r1 (some ⟨[(1, 2), (0, 4), (1, 4), (2, 4), (3, 4), (0, 5), (1, 5), (2, 5), (3, 5), (4, 5)]⟩))
(.seq (.reg 2 x256r2 none)
(.seq (.reg 3 x256r3 none)
(.seq (.seq (.reg 4 x256r4 none)
(.block 0
(.loop x256l5)))
(.seq (.reg 9 x256r9 none)
.ret))))))
def x256 : XFunc := ⟨39, 2, [.cell 4 true 2, .tmp 5], x256b⟩
theorem x256_ok : chkF Tryz.prog Tryz.f256 x256 = true := by kernel_rfl
theorem x256_eq : x256.body = x256b ∧ x256.res = [.cell 4 true 2, .tmp 5] ∧ x256.np = 2 := ⟨rfl, rfl, rfl⟩
abbrev x258r0 : List XOper := [
⟨some 6, none, .mv (.c (.int .u64 0))⟩,
⟨some 7, none, .mv (.c (.int .u64 0))⟩]
abbrev x258r1 : List XOper := [
⟨some 19, none, .mv (.t 2)⟩,
⟨some 20, none, .bin .eql (.t 19) (.c (.int .u64 0))⟩]
abbrev x258r2 : List XOper := [
⟨some 21, none, .bad⟩,
⟨none, none, .bad⟩]
abbrev x258r3 : List XOper := [
⟨some 22, none, .mv (.t 2)⟩,
⟨some 23, none, .mv (.t 0)⟩,
⟨some 24, none, .bin .leq (.t 22) (.t 23)⟩]
abbrev x258r4 : List XOper := [
⟨some 25, none, .bad⟩,
⟨none, none, .bad⟩]
abbrev x258r5 : List XOper := [
⟨some 26, none, .mv (.t 0)⟩,
⟨some 27, none, .bin .eql (.t 26) (.c (.int .u64 0))⟩]
abbrev x258r6 : List XOper := [
⟨some 28, none, .mv (.t 1)⟩,
⟨some 29, none, .mv (.t 2)⟩,
⟨some 30, none, .bin .quo (.t 28) (.t 29)⟩,
⟨some 31, none, .mv (.t 1)⟩,
⟨some 32, none, .mv (.t 2)⟩,
⟨some 33, none, .bin .rem (.t 31) (.t 32)⟩,
⟨some 6, none, .mv (.t 30)⟩,
⟨some 7, none, .mv (.t 33)⟩]
abbrev x258r7 : List XOper := [
⟨some 34, none, .mv (.t 2)⟩,
⟨some 35, none, .call (.c (.fn (.func 259) [] [])) [(.t 34)]⟩,
⟨some 36, none, .conv .u64 (.t 35)⟩,
⟨some 8, none, .mv (.t 36)⟩]
abbrev x258r8 : List XOper := [
⟨some 37, none, .mv (.t 2)⟩,
⟨some 38, none, .mv (.t 8)⟩,
⟨some 39, none, .bin .shl (.t 37) (.t 38)⟩,
⟨some 2, none, .mv (.t 39)⟩]
abbrev x258r9 : List XOper := [
⟨some 40, none, .mv (.t 2)⟩,
⟨some 41, none, .bin .shr (.t 40) (.c (.int .u64 32))⟩,
⟨some 9, none, .mv (.t 41)⟩]
abbrev x258r10 : List XOper := [
⟨some 42, none, .mv (.t 2)⟩,
⟨some 43, none, .bin .and (.t 42) (.c (.int .u64 4294967295))⟩,
⟨some 10, none, .mv (.t 43)⟩]
abbrev x258r11 : List XOper := [
⟨some 44, none, .mv (.t 0)⟩,
⟨some 45, none, .mv (.t 8)⟩,
⟨some 46, none, .bin .shl (.t 44) (.t 45)⟩,
⟨some 47, none, .mv (.t 1)⟩,
⟨some 48, none, .mv (.t 8)⟩,
⟨some 49, none, .bin .sub (.c (.int .u64 64)) (.t 48)⟩,
⟨some 50, none, .bin .shr (.t 47) (.t 49)⟩,
⟨some 51, none, .bin .or (.t 46) (.t 50)⟩,
⟨some 11, none, .mv (.t 51)⟩]
abbrev x258r12 : List XOper := [
⟨some 52, none, .mv (.t 1)⟩,
⟨some 53, none, .mv (.t 8)⟩,
⟨some 54, none, .bin .shl (.t 52) (.t 53)⟩,
⟨some 12, none, .mv (.t 54)⟩]
abbrev x258r13 : List XOper := [
⟨some 55, none, .mv (.t 12)⟩,
⟨some 56, none, .bin .shr (.t 55) (.c (.int .u64 32))⟩,
⟨some 13, none, .mv (.t 56)⟩]
abbrev x258r14 : List XOper := [
⟨some 57, none, .mv (.t 12)⟩,
⟨some 58, none, .bin .and (.t 57) (.c (.int .u64 4294967295))⟩,
⟨some 14, none, .mv (.t 58)⟩]
abbrev x258r15 : List XOper := [
⟨some 59, none, .mv (.t 11)⟩,
⟨some 60, none, .mv (.t 9)⟩,
⟨some 61, none, .bin .quo (.t 59) (.t 60)⟩,
⟨some 15, none, .mv (.t 61)⟩]
abbrev x258r16 : List XOper := [
⟨some 62, none, .mv (.t 11)⟩,
⟨some 63, none, .mv (.t 15)⟩,
⟨some 64, none, .mv (.t 9)⟩,
⟨some 65, none, .bin .mul (.t 63) (.t 64)⟩,
⟨some 66, none, .bin .sub (.t 62) (.t 65)⟩,
⟨some 16, none, .mv (.t 66)⟩]
abbrev x258r17 : List XOper := [
⟨some 67, none, .mv (.t 15)⟩,
⟨some 68, none, .bin .geq (.t 67) (.c (.int .u64 4294967296))⟩,
⟨some 69, none, .mv (.t 68)⟩,
⟨some 70, some (69, false), .mv (.t 15)⟩,
⟨some 71, some (69, false), .mv (.t 10)⟩,
⟨some 72, some (69, false), .bin .mul (.t 70) (.t 71)⟩,
⟨some 73, some (69, false), .mv (.t 16)⟩,
⟨some 74, some (69, false), .bin .mul (.c (.int .u64 4294967296)) (.t 73)⟩,
⟨some 75, some (69, false), .mv (.t 13)⟩,
⟨some 76, some (69, false), .bin .add (.t 74) (.t 75)⟩,
⟨some 77, some (69, false), .bin .gtr (.t 72) (.t 76)⟩,
⟨some 78, none, .pick (.t 69) (.c (.bool true)) (.t 77)⟩]
abbrev x258r18 : List XOper := [
⟨some 79, none, .mv (.t 15)⟩,
⟨some 80, none, .bin .sub (.t 79) (.c (.int .u64 1))⟩,
⟨some 15, none, .mv (.t 80)⟩]
abbrev x258r19 : List XOper := [
⟨some 81, none, .mv (.t 16)⟩,
⟨some 82, none, .mv (.t 9)⟩,
⟨some 83, none, .bin .add (.t 81) (.t 82)⟩,
⟨some 16, none, .mv (.t 83)⟩]
abbrev x258r20 : List XOper := [
⟨some 84, none, .mv (.t 16)⟩,
⟨some 85, none, .bin .geq (.t 84) (.c (.int .u64 4294967296))⟩]
abbrev x258l17 : XCode :=
(.seq (.seq (.reg 17 x258r17 none)
(.cond (.t 78)
.skip
(.exit 0)))
(.block 1
(.seq (.reg 18 x258r18 none)
(.seq (.reg 19 x258r19 none)
(.seq (.reg 20 x258r20 none)
(.cond (.t 85)
(.exit 0)
.skip))))))
abbrev x258r21 : List XOper := [
⟨some 86, none, .mv (.t 11)⟩,
⟨some 87, none, .bin .mul (.t 86) (.c (.int .u64 4294967296))⟩,
⟨some 88, none, .mv (.t 13)⟩,
⟨some 89, none, .bin .add (.t 87) (.t 88)⟩,
⟨some 90, none, .mv (.t 15)⟩,
⟨some 91, none, .mv (.t 2)⟩,
⟨some 92, none, .bin .mul (.t 90) (.t 91)⟩,
⟨some 93, none, .bin .sub (.t 89) (.t 92)⟩,
⟨some 17, none, .mv (.t 93)⟩]
abbrev x258r22 : List XOper := [
⟨some 94, none, .mv (.t 17)⟩,
⟨some 95, none, .mv (.t 9)⟩,
⟨some 96, none, .bin .quo (.t 94) (.t 95)⟩,
⟨some 18, none, .mv (.t 96)⟩]
abbrev x258r23 : List XOper := [
⟨some 97, none, .mv (.t 17)⟩,
⟨some 98, none, .mv (.t 18)⟩,
⟨some 99, none, .mv (.t 9)⟩,
⟨some 100, none, .bin .mul (.t 98) (.t 99)⟩,
⟨some 101, none, .bin .sub (.t 97) (.t 100)⟩,
⟨some 16, none, .mv (.t 101)⟩]
abbrev x258r24 : List XOper := [
⟨some 102, none, .mv (.t 18)⟩,
⟨some 103, none, .bin .geq (.t 102) (.c (.int .u64 4294967296))⟩,
⟨some 104, none, .mv (.t 103)⟩,
⟨some 105, some (104, false), .mv (.t 18)⟩,
⟨some 106, some (104, false), .mv (.t 10)⟩,
⟨some 107, some (104, false), .bin .mul (.t 105) (.t 106)⟩,
⟨some 108, some (104, false), .mv (.t 16)⟩,
⟨some 109, some (104, false), .bin .mul (.c (.int .u64 4294967296)) (.t 108)⟩,
⟨some 110, some (104, false), .mv (.t 14)⟩,
⟨some 111, some (104, false), .bin .add (.t 109) (.t 110)⟩,
⟨some 112, some (104, false), .bin .gtr (.t 107) (.t 111)⟩,
⟨some 113, none, .pick (.t 104) (.c (.bool true)) (.t 112)⟩]
abbrev x258r25 : List XOper := [
⟨some 114, none, .mv (.t 18)⟩,
⟨some 115, none, .bin .sub (.t 114) (.c (.int .u64 1))⟩,
⟨some 18, none, .mv (.t 115)⟩]
abbrev x258r26 : List XOper := [
⟨some 116, none, .mv (.t 16)⟩,
⟨some 117, none, .mv (.t 9)⟩,
⟨some 118, none, .bin .add (.t 116) (.t 117)⟩,
⟨some 16, none, .mv (.t 118)⟩]
abbrev x258r27 : List XOper := [
⟨some 119, none, .mv (.t 16)⟩,
⟨some 120, none, .bin .geq (.t 119) (.c (.int .u64 4294967296))⟩]
abbrev x258l25 : XCode :=
(.seq (.seq (.reg 24 x258r24 none)
(.cond (.t 113)
.skip
(.exit 2)))
(.block 3
(.seq (.reg 25 x258r25 none)
(.seq (.reg 26 x258r26 none)
(.seq (.reg 27 x258r27 none)
(.cond (.t 120)
(.exit 2)
.skip))))))
abbrev x258r28 : List XOper := [
⟨some 121, none, .mv (.t 15)⟩,
⟨some 122, none, .bin .mul (.t 121) (.c (.int .u64 4294967296))⟩,
⟨some 123, none, .mv (.t 18)⟩,
⟨some 124, none, .bin .add (.t 122) (.t 123)⟩,
⟨some 125, none, .mv (.t 17)⟩,
⟨some 126, none, .bin .mul (.t 125) (.c (.int .u64 4294967296))⟩,
⟨some 127, none, .mv (.t 14)⟩,
⟨some 128, none, .bin .add (.t 126) (.t 127)⟩,
⟨some 129, none, .mv (.t 18)⟩,
⟨some 130, none, .mv (.t 2)⟩,
⟨some 131, none, .bin .mul (.t 129) (.t 130)⟩,
⟨some 132, none, .bin .sub (.t 128) (.t 131)⟩,
⟨some 133, none, .mv (.t 8)⟩,
⟨some 134, none, .bin .shr (.t 132) (.t 133)⟩,
⟨some 6, none, .mv (.t 124)⟩,
⟨some 7, none, .mv (.t 134)⟩]
abbrev x258b : XCode :=
(.seq (.reg 0 x258r0 none)
(.seq (.seq (.reg 1 x258r1 none)
(.cond (.t 20)
(.reg 2 x258r2 none)
.skip))
(.seq (.seq (.reg 3 x258r3 none)
(.cond (.t 24)
(.reg 4 x258r4 none)
.skip))
(.seq (.seq (.reg 5 x258r5 none)
(.cond (.t 27)
(.seq (.reg 6 x258r6 (some ⟨[]⟩))
.ret)
.skip))
(.seq (.reg 7 x258r7 none)
(.seq (.reg 8 x258r8 none)
(.seq (.reg 9 x258r9 none)
(.seq (.reg 10 x258r10 none)
(.seq (.reg 11 x258r11 none)
(.seq (.reg 12 x258r12 none)
(.seq (.reg 13 x258r13 none)
(.seq (.reg 14 x258r14 none)
(.seq (.reg 15 x258r15 none)
(.seq (.reg 16 x258r16 none)
(.seq (.block 0
(.loop x258l17))
(.seq (.reg 21 x258r21 none)
(.seq (.reg 22 x258r22 none)
(.seq (.reg 23 x258r23 none)
(.seq (.block 2
(.loop x258l25))
(.seq (.reg 28 x258r28 none)
.ret))))))))))))))))))))
def x258 : XFunc := ⟨135, 3, [.tmp 6, .tmp 7], x258b⟩
theorem x258_ok : chkF Tryz.prog Tryz.f258 x258 = true := by kernel_rfl
theorem x258_eq : x258.body = x258b ∧ x258.res = [.tmp 6, .tmp 7] ∧ x258.np = 3 := ⟨rfl, rfl, rfl⟩
abbrev x259r0 : List XOper := [
⟨some 2, none, .mv (.c (.int .i64 0))⟩]
abbrev x259r1 : List XOper := [
⟨some 3, none, .mv (.t 0)⟩,
⟨some 4, none, .call (.c (.fn (.func 172) [] [])) [(.t 3)]⟩,
⟨some 5, none, .bin .sub (.c (.int .i64 64)) (.t 4)⟩,
⟨some 2, none, .mv (.t 5)⟩]
abbrev x259b : XCode :=
(.seq (.reg 0 x259r0 none)
(.seq (.reg 1 x259r1 none)
.ret))
def x259 : XFunc := ⟨6, 1, [.tmp 2], x259b⟩
theorem x259_ok : chkF Tryz.prog Tryz.f259 x259 = true := by kernel_rfl
abbrev x260r0 : List XOper := [
⟨some 2, none, .box (.t 0)⟩,
⟨some 4, none, .alloc [(.int .u64 0), (.int .u64 0)]⟩]
abbrev x260r1 : List XOper := [
⟨some 5, none, .fa 0 (.t 2)⟩,
⟨some 6, none, .load false 1 (.t 5)⟩,
⟨some 7, none, .mv (.t 1)⟩,
⟨some 8, none, .bin .shl (.t 6) (.t 7)⟩,
⟨some 9, none, .fa 1 (.t 2)⟩,
⟨some 10, none, .load false 1 (.t 9)⟩,
⟨some 11, none, .mv (.t 1)⟩,
⟨some 12, none, .bin .sub (.c (.int .i64 64)) (.t 11)⟩,
⟨some 13, none, .bin .shr (.t 10) (.t 12)⟩,
⟨some 14, none, .bin .or (.t 8) (.t 13)⟩,
⟨some 15, none, .fa 1 (.t 2)⟩,
⟨some 16, none, .load false 1 (.t 15)⟩,
⟨some 17, none, .mv (.t 1)⟩,
⟨some 18, none, .bin .shl (.t 16) (.t 17)⟩,
⟨some 19, none, .build [(.int .u64 0), (.int .u64 0)] [(0, 1, (.t 14)), (1, 1, (.t 18))]⟩,
⟨none, none, .store 2 (.t 4) (.t 19)⟩]
abbrev x260b : XCode :=
(.seq (.reg 0 x260r0 none)
(.seq (.reg 1 x260r1 (some ⟨[]⟩))
.ret))
def x260 : XFunc := ⟨20, 2, [.cell 4 true 2], x260b⟩
theorem x260_ok : chkF Tryz.prog Tryz.f260 x260 = true := by kernel_rfl
abbrev x285r0 : List XOper := [
⟨some 2, none, .box (.t 0)⟩,
⟨some 3, none, .box (.t 1)⟩,
⟨some 4, none, .mv (.c (.bool false))⟩]
abbrev x285r1 : List XOper := [
⟨some 5, none, .fa 0 (.t 2)⟩,
⟨some 6, none, .load false 1 (.t 5)⟩,
⟨some 7, none, .call (.c (.fn (.func 211) [] [])) [(.t 6), (.c (.int .i64 1))]⟩,
⟨some 4, none, .mv (.t 7)⟩]
abbrev x285b : XCode :=
(.seq (.reg 0 x285r0 none)
(.seq (.reg 1 x285r1 none)
.ret))
def x285 : XFunc := ⟨8, 2, [.tmp 4], x285b⟩
theorem x285_ok : chkF Tryz.prog Tryz.f285 x285 = true := by kernel_rfl
theorem x285_eq : x285.body = x285b ∧ x285.res = [.tmp 4] ∧ x285.np = 2 := ⟨rfl, rfl, rfl⟩
abbrev x286r0 : List XOper := [
⟨some 3, none, .box (.t 0)⟩,
⟨some 6, none, .alloc [(.int .i64 0), (.int .i64 0), (.int .i64 0), (.int .i64 0), (.int .i64 0), (.int .i64 0), (.int .i64 0), (.int .i64 0), (.int .i64 0), (.int .i64 0), (.int .i64 0), (.int .i64 0)]⟩]
abbrev x286r1 : List XOper := [
⟨some 7, none, .fa 0 (.t 3)⟩,
⟨some 8, none, .load false 1 (.t 7)⟩,
⟨some 9, none, .mv (.t 1)⟩,
⟨some 10, none, .mkslice 1 (.int .i64 0) 1 [(0, (.t 9))]⟩,
⟨some 11, none, .mv (.t 1)⟩,
⟨some 12, none, .mv (.t 2)⟩,
⟨some 13, none, .bin .sub (.t 11) (.t 12)⟩,
⟨some 14, none, .mv (.t 2)⟩,
⟨some 15, none, .mv (.t 1)⟩,
⟨some 16, none, .bin .sub (.t 14) (.t 15)⟩,
⟨some 17, none, .mnx true (.t 13) [(.t 16)]⟩,
⟨some 18, none, .call (.c (.fn (.func 213) [] [])) [(.t 8), (.t 10), (.t 17)]⟩,
⟨none, none, .store 12 (.t 6) (.t 18)⟩]
abbrev x286b : XCode :=
(.seq (.reg 0 x286r0 none)
(.seq (.reg 1 x286r1 none)
.ret))
def x286 : XFunc := ⟨19, 3, [.cell 6 true 12], x286b⟩
theorem x286_ok : chkF Tryz.prog Tryz.f286 x286 = true := by kernel_rfl
theorem x286_eq : x286.body = x286b ∧ x286.res = [.cell 6 true 12] ∧ x286.np = 3 := ⟨rfl, rfl, rfl⟩
abbrev x287r0 : List XOper := [
⟨some 2, none, .box (.t 0)⟩,
⟨some 3, none, .box (.t 1)⟩,
⟨some 4, none, .mv (.c (.bool false))⟩]
abbrev x287r1 : List XOper := [
⟨some 7, none, .fa 0 (.t 2)⟩,
⟨some 8, none, .load false 1 (.t 7)⟩,
⟨some 9, none, .nilChk (.t 8)⟩,
⟨some 10, none, .fa 25 (.t 9)⟩,
⟨some 11, none, .load true 4 (.t 10)⟩,
⟨some 12, none, .fa 25 (.t 3)⟩,
⟨some 13, none, .load true 4 (.t 12)⟩,
⟨some 5, none, .alloc [(.int .i64 0), (.int .i64 0), (.int .i64 0), (.int .i64 0)]⟩,
⟨some 6, none, .alloc [(.int .i64 0), (.int .i64 0), (.int .i64 0), (.int .i64 0)]⟩,
⟨none, none, .store 4 (.t 5) (.t 11)⟩,
⟨none, none, .store 4 (.t 6) (.t 13)⟩]
abbrev x287r2 : List XOper := [
⟨some 14, none, .load true 4 (.t 5)⟩,
⟨some 15, none, .call (.c (.fn (.func 71) [] [])) [(.t 14)]⟩,
⟨some 16, none, .mv (.t 15)⟩,
⟨some 17, some (16, true), .fa 0 (.t 5)⟩,
⟨some 18, some (16, true), .load false 1 (.t 17)⟩,
⟨some 19, some (16, true), .fa 0 (.t 6)⟩,
⟨some 20, some (16, true), .load false 1 (.t 19)⟩,
⟨some 21, some (16, true), .bin .eql (.t 18) (.t 20)⟩,
⟨some 22, none, .pick (.t 16) (.t 21) (.c (.bool false))⟩,
⟨some 23, none, .mv (.t 22)⟩,
⟨some 24, some (23, true), .fa 1 (.t 5)⟩,
⟨some 25, some (23, true), .load false 1 (.t 24)⟩,
⟨some 26, some (23, true), .fa 1 (.t 6)⟩,
⟨some 27, some (23, true), .load false 1 (.t 26)⟩,
⟨some 28, some (23, true), .bin .eql (.t 25) (.t 27)⟩,
⟨some 29, none, .pick (.t 23) (.t 28) (.c (.bool false))⟩,
⟨some 30, none, .mv (.t 29)⟩,
⟨some 31, some (30, true), .fa 2 (.t 5)⟩,
⟨some 32, some (30, true), .load false 1 (.t 31)⟩,
⟨some 33, some (30, true), .fa 0 (.t 2)⟩,
⟨some 34, some (30, true), .load false 1 (.t 33)⟩,
⟨some 35, some (30, true), .nilChk (.t 34)⟩,
⟨some 36, some (30, true), .fa 0 (.t 35)⟩,
⟨some 37, some (30, true), .fa 5 (.t 36)⟩,
⟨some 38, some (30, true), .load false 1 (.t 37)⟩,
⟨some 39, some (30, true), .bin .leq (.t 32) (.t 38)⟩,
⟨some 40, none, .pick (.t 30) (.t 39) (.c (.bool false))⟩,
⟨some 4, none, .mv (.t 40)⟩]
abbrev x287b : XCode :=
(.seq (.reg 0 x287r0 none)
(.seq (.reg 1 x287r1 (some ⟨[(1, 7), (4, 7), (6, 7), (1, 8), (4, 8), (6, 8), (7, 8), (6, 9)]⟩))
(.seq (.reg 2 x287r2 (some ⟨[]⟩))
.ret)))
def x287 : XFunc := ⟨41, 2, [.tmp 4], x287b⟩
theorem x287_ok : chkF Tryz.prog Tryz.f287 x287 = true := by kernel_rfl
theorem x287_eq : x287.body = x287b ∧ x287.res = [.tmp 4] ∧ x287.np = 2 := ⟨rfl, rfl, rfl⟩
abbrev x288r0 : List XOper := [
⟨some 3, none, .box (.t 0)⟩,
⟨some 6, none, .alloc [(.int .i64 0), (.int .i64 0), (.int .i64 0), (.int .i64 0), (.int .i64 0), (.int .i64 0), (.int .i64 0), (.int .i64 0), (.int .i64 0), (.int .i64 0), (.int .i64 0), (.int .i64 0)]⟩]
abbrev x288r1 : List XOper := [
⟨some 9, none, .fa 0 (.t 3)⟩,
⟨some 10, none, .load false 1 (.t 9)⟩,
⟨some 11, none, .nilChk (.t 10)⟩,
⟨some 12, none, .fa 25 (.t 11)⟩,
⟨some 13, none, .fa 2 (.t 12)⟩,
⟨some 14, none, .load false 1 (.t 13)⟩,
⟨some 15, none, .fa 0 (.t 3)⟩,
⟨some 16, none, .load false 1 (.t 15)⟩,
⟨some 17, none, .nilChk (.t 16)⟩,
⟨some 18, none, .fa 0 (.t 17)⟩,
⟨some 19, none, .fa 5 (.t 18)⟩,
⟨some 20, none, .load false 1 (.t 19)⟩,
⟨some 21, none, .bin .lss (.t 14) (.t 20)⟩]
abbrev x288r2 : List XOper := [
⟨some 23, none, .fa 0 (.t 3)⟩,
⟨some 24, none, .load false 1 (.t 23)⟩,
⟨some 25, none, .fa 0 (.t 3)⟩,
⟨some 26, none, .load false 1 (.t 25)⟩,
⟨some 27, none, .nilChk (.t 26)⟩,
⟨some 28, none, .fa 25 (.t 27)⟩,
⟨some 29, none, .load true 4 (.t 28)⟩,
⟨some 30, none, .mv (.t 1)⟩,
⟨some 31, none, .call (.c (.fn (.func 289) [] [])) [(.t 29), (.t 30)]⟩,
⟨some 22, none, .mv (.t 31)⟩,
⟨some 32, none, .ext (.t 22) 0⟩,
⟨some 33, none, .ext (.t 22) 1⟩,
⟨some 34, none, .nilChk (.t 24)⟩,
⟨some 35, none, .fa 25 (.t 34)⟩,
⟨none, none, .store 4 (.t 35) (.t 32)⟩]
abbrev x288r3 : List XOper := [
⟨some 36, none, .build [(.int .i64 0), (.int .i64 0), (.int .i64 0), (.int .i64 0), (.int .i64 0), (.int .i64 0), (.int .i64 0), (.int .i64 0), (.int .i64 0), (.int .i64 0), (.int .i64 0), (.int .i64 0)] [(0, 1, (.c (.int .i64 1)))]⟩,
⟨none, none, .store 12 (.t 6) (.t 36)⟩]
abbrev x288r4 : List XOper := [
⟨some 38, none, .fa 0 (.t 3)⟩,
⟨some 39, none, .load false 1 (.t 38)⟩,
⟨some 40, none, .nilChk (.t 39)⟩,
⟨some 41, none, .fa 25 (.t 40)⟩,
⟨some 42, none, .load true 4 (.t 41)⟩,
⟨some 43, none, .mv (.t 1)⟩,
⟨some 44, none, .call (.c (.fn (.func 22) [] [])) [(.t 42), (.t 43)]⟩,
⟨some 37, none, .mv (.t 44)⟩,
⟨some 45, none, .ext (.t 37) 0⟩,
⟨some 46, none, .ext (.t 37) 1⟩,
⟨some 7, none, .alloc [(.int .i64 0), (.int .i64 0), (.int .i64 0), (.int .u64 0), (.int .u64 0)]⟩,
⟨none, none, .store 5 (.t 7) (.t 45)⟩,
⟨some 8, none, .mv (.t 46)⟩]
abbrev x288r5 : List XOper := [
⟨some 47, none, .fa 0 (.t 3)⟩,
⟨some 48, none, .load false 1 (.t 47)⟩,
⟨some 49, none, .load true 5 (.t 7)⟩,
⟨some 50, none, .call (.c (.fn (.func 219) [] [])) [(.t 48), (.t 49), (.c (.int .i64 0))]⟩,
⟨none, none, .store 12 (.t 6) (.t 50)⟩]
abbrev x288b : XCode :=
(.seq (.reg 0 x288r0 none)
(.seq (.seq (.reg 1 x288r1 (some ⟨[]⟩))
(.cond (.t 21)
(.seq (.reg 2 x288r2 (some ⟨[(1, 8)]⟩))
(.seq (.reg 3 x288r3 none)
.ret))
.skip))
(.seq (.reg 4 x288r4 none)
(.seq (.reg 5 x288r5 none)
.ret))))
def x288 : XFunc := ⟨51, 3, [.cell 6 true 12], x288b⟩
theorem x288_ok : chkF Tryz.prog Tryz.f288 x288 = true := by kernel_rfl
theorem x288_eq : x288.body = x288b ∧ x288.res = [.cell 6 true 12] ∧ x288.np = 3 := ⟨rfl, rfl, rfl⟩
abbrev x289r0 : List XOper := [
⟨some 2, none, .box (.t 0)⟩,
⟨some 4, none, .alloc [(.int .i64 0), (.int .i64 0), (.int .i64 0), (.int .i64 0)]⟩,
⟨some 5, none, .mv (.c (.int .i64 0))⟩]
abbrev x289r1 : List XOper := [
⟨some 7, none, .load true 4 (.t 2)⟩,
⟨some 8, none, .mv (.t 1)⟩,
⟨some 9, none, .call (.c (.fn (.func 56) [] [])) [(.t 7), (.t 8)]⟩,
⟨some 10, none, .un .not (.t 9)⟩,
⟨some 6, none, .mv (.t 10)⟩]
abbrev x289r2 : List XOper := [
⟨some 11, none, .build [(.int .i64 0), (.int .i64 0), (.int .i64 0), (.int .i64 0)] []⟩,
⟨none, none, .store 4 (.t 4) (.t 11)⟩,
⟨some 5, none, .mv (.c (.int .i64 1))⟩]
abbrev x289r3 : List XOper := [
⟨some 13, none, .fa 2 (.t 2)⟩,
⟨some 14, none, .load false 1 (.t 13)⟩,
⟨some 15, none, .bin .eql (.t 14) (.c (.int .i64 25))⟩,
⟨some 12, none, .mv (.t 15)⟩]
abbrev x289r4 : List XOper := [
⟨some 16, none, .build [(.int .i64 0), (.int .i64 0), (.int .i64 0), (.int .i64 0)] []⟩,
⟨none, none, .store 4 (.t 4) (.t 16)⟩,
⟨some 5, none, .mv (.c (.int .i64 11))⟩]
abbrev x289r5 : List XOper := [
⟨some 17, none, .fa 2 (.t 2)⟩,
⟨some 18, none, .load false 1 (.t 17)⟩,
⟨some 19, none, .bin .add (.t 18) (.c (.int .i64 1))⟩,
⟨some 20, none, .fa 2 (.t 2)⟩,
⟨none, none, .store 1 (.t 20) (.t 19)⟩]
abbrev x289r6 : List XOper := [
⟨some 21, none, .fa 3 (.t 2)⟩,
⟨some 22, none, .load false 1 (.t 21)⟩,
⟨some 23, none, .mv (.t 1)⟩,
⟨some 24, none, .bin .add (.t 22) (.t 23)⟩,
⟨some 25, none, .fa 3 (.t 2)⟩,
⟨none, none, .store 1 (.t 25) (.t 24)⟩]
abbrev x289r7 : List XOper := [
⟨some 26, none, .load true 4 (.t 2)⟩,
⟨none, none, .store 4 (.t 4) (.t 26)⟩,
⟨some 5, none, .mv (.c (.int .i64 0))⟩]
abbrev x289b : XCode :=
(.seq (.reg 0 x289r0 none)
(.seq (.block 0
(.seq (.reg 1 x289r1 none)
(.cond (.t 6)
(.seq (.reg 2 x289r2 none)
.ret)
(.seq (.reg 3 x289r3 none)
(.cond (.t 12)
(.seq (.reg 4 x289r4 none)
.ret)
.skip)))))
(.seq (.reg 5 x289r5 none)
(.seq (.reg 6 x289r6 none)
(.seq (.reg 7 x289r7 none)
.ret)))))
def x289 : XFunc := ⟨27, 2, [.cell 4 true 4, .tmp 5], x289b⟩
theorem x289_ok : chkF Tryz.prog Tryz.f289 x289 = true := by kernel_rfl
theorem x289_eq : x289.body = x289b ∧ x289.res = [.cell 4 true 4, .tmp 5] ∧ x289.np = 2 := ⟨rfl, rfl, rfl⟩
abbrev x307r0 : List XOper := [
⟨some 1, none, .box (.t 0)⟩,
⟨some 2, none, .mv (.c (.int .i64 0))⟩,
⟨some 3, none, .mv (.c (.int .i64 0))⟩]
abbrev x307r1 : List XOper := [
⟨some 4, none, .fa 0 (.t 1)⟩,
⟨some 5, none, .fa 1 (.t 4)⟩,
⟨some 6, none, .load false 1 (.t 5)⟩,
⟨some 7, none, .bin .sub (.t 6) (.c (.int .i64 1))⟩,
⟨some 2, none, .mv (.c (.int .i64 2))⟩,
⟨some 3, none, .mv (.t 7)⟩]
abbrev x307b : XCode :=
(.seq (.reg 0 x307r0 none)
(.seq (.reg 1 x307r1 (some ⟨[]⟩))
.ret))
def x307 : XFunc := ⟨8, 1, [.tmp 2, .tmp 3], x307b⟩
theorem x307_ok : chkF Tryz.prog Tryz.f307 x307 = true := by kernel_rfl
theorem x307_eq : x307.body = x307b ∧ x307.res = [.tmp 2, .tmp 3] ∧ x307.np = 1 := ⟨rfl, rfl, rfl⟩
abbrev x308r0 : List XOper := [
⟨some 2, none, .box (.t 0)⟩,
⟨some 4, none, .mv (.c (.int .i64 0))⟩]
abbrev x308r1 : List XOper := [
⟨some 5, none, .fa 0 (.t 2)⟩,
⟨some 6, none, .fa 1 (.t 5)⟩,
⟨some 7, none, .load false 1 (.t 6)⟩,
⟨some 8, none, .bin .eql (.t 7) (.c (.int .i64 0))⟩]
abbrev x308r2 : List XOper := [
⟨some 4, none, .mv (.c (.int .i64 0))⟩]
abbrev x308r3 : List XOper := [
⟨some 9, none, .mv (.t 1)⟩,
⟨some 10, none, .iaS 1 (.t 9) (.c (.int .i64 0))⟩,
⟨some 11, none, .load false 1 (.t 10)⟩,
⟨some 12, none, .fa 0 (.t 2)⟩,
⟨some 13, none, .fa 4 (.t 12)⟩,
⟨some 14, none, .load false 1 (.t 13)⟩,
⟨some 15, none, .bin .sub (.t 11) (.t 14)⟩,
⟨some 16, none, .fa 0 (.t 2)⟩,
⟨some 17, none, .fa 4 (.t 16)⟩,
⟨some 18, none, .load false 1 (.t 17)⟩,
⟨some 19, none, .mv (.t 1)⟩,
⟨some 20, none, .iaS 1 (.t 19) (.c (.int .i64 0))⟩,
⟨some 21, none, .load false 1 (.t 20)⟩,
⟨some 22, none, .bin .sub (.t 18) (.t 21)⟩,
⟨some 23, none, .mnx true (.t 15) [(.t 22)]⟩,
⟨some 4, none, .mv (.t 23)⟩]
abbrev x308b : XCode :=
(.seq (.reg 0 x308r0 none)
(.seq (.seq (.reg 1 x308r1 none)
(.cond (.t 8)
(.seq (.reg 2 x308r2 none)
.ret)
.skip))
(.seq (.reg 3 x308r3 (some ⟨[]⟩))
.ret)))
def x308 : XFunc := ⟨24, 2, [.tmp 4], x308b⟩
theorem x308_ok : chkF Tryz.prog Tryz.f308 x308 = true := by kernel_rfl
theorem x308_eq : x308.body = x308b ∧ x308.res = [.tmp 4] ∧ x308.np = 2 := ⟨rfl, rfl, rfl⟩
abbrev x309r0 : List XOper := [
⟨some 1, none, .box (.t 0)⟩,
⟨some 2, none, .mv (.c (.int .i64 0))⟩,
⟨some 3, none, .mv (.c (.int .i64 0))⟩,
⟨some 4, none, .mv (.c (.int .i64 0))⟩,
⟨some 5, none, .mv (.c (.int .i64 0))⟩]
abbrev x309r1 : List XOper := [
⟨some 9, none, .call (.c (.fn (.func 221) [] [])) [(.c (.int .i64 3)), (.c (.int .i64 2))]⟩,
⟨some 8, none, .mv (.t 9)⟩,
⟨some 10, none, .ext (.t 8) 0⟩,
⟨some 11, none, .ext (.t 8) 1⟩,
⟨some 6, none, .mv (.t 10)⟩,
⟨some 7, none, .mv (.t 11)⟩]
abbrev x309r2 : List XOper := [
⟨some 12, none, .mv (.t 6)⟩,
⟨some 13, none, .fa 0 (.t 1)⟩,
⟨some 14, none, .fa 1 (.t 13)⟩,
⟨some 15, none, .load false 1 (.t 14)⟩,
⟨some 16, none, .bin .sub (.t 15) (.c (.int .i64 1))⟩,
⟨some 17, none, .bin .mul (.t 12) (.t 16)⟩,
⟨some 6, none, .mv (.t 17)⟩]
abbrev x309r3 : List XOper := [
⟨some 18, none, .mv (.t 6)⟩,
⟨some 19, none, .fa 0 (.t 1)⟩,
⟨some 20, none, .fa 1 (.t 19)⟩,
⟨some 21, none, .load false 1 (.t 20)⟩,
⟨some 22, none, .bin .mul (.t 18) (.t 21)⟩,
⟨some 23, none, .mv (.t 6)⟩,
⟨some 24, none, .mv (.t 6)⟩,
⟨some 25, none, .fa 0 (.t 1)⟩,
⟨some 26, none, .fa 1 (.t 25)⟩,
⟨some 27, none, .load false 1 (.t 26)⟩,
⟨some 28, none, .bin .mul (.c (.int .i64 10000)) (.t 27)⟩,
⟨some 29, none, .fa 0 (.t 1)⟩,
⟨some 30, none, .fa 3 (.t 29)⟩,
⟨some 31, none, .load false 1 (.t 30)⟩,
⟨some 32, none, .bin .mul (.t 28) (.t 31)⟩,
⟨some 2, none, .mv (.t 22)⟩,
⟨some 3, none, .mv (.t 23)⟩,
⟨some 4, none, .mv (.t 24)⟩,
⟨some 5, none, .mv (.t 32)⟩]
abbrev x309b : XCode :=
(.seq (.reg 0 x309r0 none)
(.seq (.reg 1 x309r1 none)
(.seq (.reg 2 x309r2 none)
(.seq (.reg 3 x309r3 (some ⟨[]⟩))
.ret))))
def x309 : XFunc := ⟨33, 1, [.tmp 2, .tmp 3, .tmp 4, .tmp 5], x309b⟩
theorem x309_ok : chkF Tryz.prog Tryz.f309 x309 = true := by kernel_rfl
theorem x309_eq : x309.body = x309b ∧ x309.res = [.tmp 2, .tmp 3, .tmp 4, .tmp 5] ∧ x309.np = 1 := ⟨rfl, rfl, rfl⟩
abbrev x310r0 : List XOper := [
⟨some 1, none, .box (.t 0)⟩,
⟨some 2, none, .mv (.c (.int .i64 0))⟩]
abbrev x310r1 : List XOper := [
⟨some 3, none, .fa 0 (.t 1)⟩,
⟨some 4, none, .fa 1 (.t 3)⟩,
⟨some 5, none, .load false 1 (.t 4)⟩,
⟨some 6, none, .bin .sub (.t 5) (.c (.int .i64 1))⟩,
⟨some 7, none, .mnx true (.c (.int .i64 0)) [(.t 6)]⟩,
⟨some 2, none, .mv (.t 7)⟩]
abbrev x310b : XCode :=
(.seq (.reg 0 x310r0 none)
(.seq (.reg 1 x310r1 none)
.ret))
def x310 : XFunc := ⟨8, 1, [.tmp 2], x310b⟩
theorem x310_ok : chkF Tryz.prog Tryz.f310 x310 = true := by kernel_rfl
theorem x310_eq : x310.body = x310b ∧ x310.res = [.tmp 2] ∧ x310.np = 1 := ⟨rfl, rfl, rfl⟩
abbrev x311r0 : List XOper := [
⟨some 1, none, .box (.t 0)⟩,
⟨some 2, none, .mv (.c (.int .i64 0))⟩,
⟨some 3, none, .mv (.c (.int .i64 0))⟩]
abbrev x311r1 : List XOper := [
⟨some 4, none, .fa 0 (.t 1)⟩,
⟨some 5, none, .fa 0 (.t 4)⟩,
⟨some 6, none, .load false 1 (.t 5)⟩,
⟨some 7, none, .fa 0 (.t 1)⟩,
⟨some 8, none, .fa 1 (.t 7)⟩,
⟨some 9, none, .load false 1 (.t 8)⟩,
⟨some 2, none, .mv (.t 6)⟩,
⟨some 3, none, .mv (.t 9)⟩]
abbrev x311b : XCode :=
(.seq (.reg 0 x311r0 none)
(.seq (.reg 1 x311r1 (some ⟨[]⟩))
.ret))
def x311 : XFunc := ⟨10, 1, [.tmp 2, .tmp 3], x311b⟩
theorem x311_ok : chkF Tryz.prog Tryz.f311 x311 = true := by kernel_rfl
theorem x311_eq : x311.body = x311b ∧ x311.res = [.tmp 2, .tmp 3] ∧ x311.np = 1 := ⟨rfl, rfl, rfl⟩
abbrev x312r0 : List XOper := [
⟨some 2, none, .box (.t 0)⟩,
⟨some 4, none, .mv (.c (.int .i64 0))⟩]
abbrev x312r1 : List XOper := [
⟨some 5, none, .mv (.t 1)⟩,
⟨some 6, none, .call (.c (.fn (.func 214) [] [])) [(.t 5)]⟩,
⟨some 7, none, .mv (.t 1)⟩,
⟨some 8, none, .call (.c (.fn (.func 215) [] [])) [(.t 7)]⟩,
⟨some 9, none, .bin .sub (.t 6) (.t 8)⟩,
⟨some 4, none, .mv (.t 9)⟩]
abbrev x312b : XCode :=
(.seq (.reg 0 x312r0 none)
(.seq (.reg 1 x312r1 none)
.ret))
def x312 : XFunc := ⟨10, 2, [.tmp 4], x312b⟩
theorem x312_ok : chkF Tryz.prog Tryz.f312 x312 = true := by kernel_rfl
theorem x312_eq : x312.body = x312b ∧ x312.res = [.tmp 4] ∧ x312.np = 2 := ⟨rfl, rfl, rfl⟩
abbrev x313r0 : List XOper := [
⟨some 1, none, .box (.t 0)⟩,
⟨some 2, none, .mv (.c (.int .i64 0))⟩,
⟨some 3, none, .mv (.c (.int .i64 0))⟩,
⟨some 4, none, .mv (.c (.int .i64 0))⟩,
⟨some 5, none, .mv (.c (.int .i64 0))⟩]
abbrev x313r1 : List XOper := [
⟨some 9, none, .fa 0 (.t 1)⟩,
⟨some 10, none, .fa 0 (.t 9)⟩,
⟨some 11, none, .load false 1 (.t 10)⟩,
⟨some 12, none, .call (.c (.fn (.func 221) [] [])) [(.c (.int .i64 0)), (.t 11)]⟩,
⟨some 8, none, .mv (.t 12)⟩,
⟨some 13, none, .ext (.t 8) 0⟩,
⟨some 14, none, .ext (.t 8) 1⟩,
⟨some 6, none, .mv (.t 13)⟩,
⟨some 7, none, .mv (.t 14)⟩]
abbrev x313r2 : List XOper := [
⟨some 15, none, .fa 0 (.t 1)⟩,
⟨some 16, none, .fa 1 (.t 15)⟩,
⟨some 17, none, .load false 1 (.t 16)⟩,
⟨some 18, none, .bin .mul (.c (.int .i64 30000)) (.t 17)⟩,
⟨some 19, none, .fa 0 (.t 1)⟩,
⟨some 20, none, .fa 0 (.t 19)⟩,
⟨some 21, none, .load false 1 (.t 20)⟩,
⟨some 22, none, .bin .mul (.t 18) (.t 21)⟩,
⟨some 23, none, .mv (.t 6)⟩,
⟨some 24, none, .fa 0 (.t 1)⟩,
⟨some 25, none, .fa 3 (.t 24)⟩,
⟨some 26, none, .load false 1 (.t 25)⟩,
⟨some 27, none, .bin .mul (.t 23) (.t 26)⟩,
⟨some 28, none, .fa 0 (.t 1)⟩,
⟨some 29, none, .fa 0 (.t 28)⟩,
⟨some 30, none, .load false 1 (.t 29)⟩,
⟨some 31, none, .bin .mul (.t 27) (.t 30)⟩,
⟨some 2, none, .mv (.t 22)⟩,
⟨some 3, none, .mv (.c (.int .i64 30000))⟩,
⟨some 4, none, .mv (.c (.int .i64 30000))⟩,
⟨some 5, none, .mv (.t 31)⟩]
abbrev x313b : XCode :=
(.seq (.reg 0 x313r0 none)
(.seq (.reg 1 x313r1 none)
(.seq (.reg 2 x313r2 (some ⟨[]⟩))
.ret)))
def x313 : XFunc := ⟨32, 1, [.tmp 2, .tmp 3, .tmp 4, .tmp 5], x313b⟩
theorem x313_ok : chkF Tryz.prog Tryz.f313 x313 = true := by kernel_rfl
theorem x313_eq : x313.body = x313b ∧ x313.res = [.tmp 2, .tmp 3, .tmp 4, .tmp 5] ∧ x313.np = 1 := ⟨rfl, rfl, rfl⟩
abbrev x314r0 : List XOper := [
⟨some 1, none, .box (.t 0)⟩,
⟨some 2, none, .mv (.c (.int .i64 0))⟩]
abbrev x314r1 : List XOper := [
⟨some 3, none, .fa 0 (.t 1)⟩,
⟨some 4, none, .fa 1 (.t 3)⟩,
⟨some 5, none, .load false 1 (.t 4)⟩,
⟨some 2, none, .mv (.t 5)⟩]
abbrev x314b : XCode :=
(.seq (.reg 0 x314r0 none)
(.seq (.reg 1 x314r1 none)
.ret))
def x314 : XFunc := ⟨6, 1, [.tmp 2], x314b⟩
theorem x314_ok : chkF Tryz.prog Tryz.f314 x314 = true := by kernel_rfl
theorem x314_eq : x314.body = x314b ∧ x314.res = [.tmp 2] ∧ x314.np = 1 := ⟨rfl, rfl, rfl⟩
def xf : FuncId → Option XFunc
  | 3 => some x3
  | 4 => some x4
  | 6 => some x6
  | 8 => some x8
  | 9 => some x9
  | 10 => some x10
  | 11 => some x11
  | 12 => some x12
  | 13 => some x13
  | 14 => some x14
  | 21 => some x21
  | 22 => some x22
  | 23 => some x23
  | 24 => some x24
  | 27 => some x27
  | 29 => some x29
  | 30 => some x30
  | 32 => some x32
  | 33 => some x33
  | 36 => some x36
  | 37 => some x37
  | 53 => some x53
  | 54 => some x54
  | 55 => some x55
  | 56 => some x56
  | 57 => some x57
  | 58 => some x58
  | 59 => some x59
  | 60 => some x60
  | 61 => some x61
  | 69 => some x69
  | 71 => some x71
  | 74 => some x74
  | 76 => some x76
  | 91 => some x91
  | 92 => some x92
  | 93 => some x93
  | 94 => some x94
  | 95 => some x95
  | 96 => some x96
  | 97 => some x97
  | 98 => some x98
  | 99 => some x99
  | 100 => some x100
  | 101 => some x101
  | 102 => some x102
  | 103 => some x103
  | 104 => some x104
  | 105 => some x105
  | 111 => some x111
  | 112 => some x112
  | 113 => some x113
  | 114 => some x114
  | 115 => some x115
  | 116 => some x116
  | 117 => some x117
  | 120 => some x120
  | 121 => some x121
  | 135 => some x135
  | 137 => some x137
  | 138 => some x138
  | 139 => some x139
  | 140 => some x140
  | 141 => some x141
  | 142 => some x142
  | 143 => some x143
  | 144 => some x144
  | 145 => some x145
  | 146 => some x146
  | 147 => some x147
  | 148 => some x148
  | 149 => some x149
  | 150 => some x150
  | 151 => some x151
  | 172 => some x172
  | 173 => some x173
  | 174 => some x174
  | 175 => some x175
  | 176 => some x176
  | 177 => some x177
  | 178 => some x178
  | 179 => some x179
  | 180 => some x180
  | 181 => some x181
  | 182 => some x182
  | 189 => some x189
  | 190 => some x190
  | 211 => some x211
  | 213 => some x213
  | 214 => some x214
  | 215 => some x215
  | 217 => some x217
  | 218 => some x218
  | 219 => some x219
  | 220 => some x220
  | 221 => some x221
  | 222 => some x222
  | 223 => some x223
  | 224 => some x224
  | 225 => some x225
  | 226 => some x226
  | 227 => some x227
  | 229 => some x229
  | 230 => some x230
  | 231 => some x231
  | 232 => some x232
  | 233 => some x233
  | 235 => some x235
  | 236 => some x236
  | 237 => some x237
  | 240 => some x240
  | 241 => some x241
  | 242 => some x242
  | 243 => some x243
  | 244 => some x244
  | 246 => some x246
  | 247 => some x247
  | 248 => some x248
  | 249 => some x249
  | 252 => some x252
  | 253 => some x253
  | 254 => some x254
  | 255 => some x255
  | 256 => some x256
  | 258 => some x258
  | 259 => some x259
  | 260 => some x260
  | 285 => some x285
  | 286 => some x286
  | 287 => some x287
  | 288 => some x288
  | 289 => some x289
  | 307 => some x307
  | 308 => some x308
  | 309 => some x309
  | 310 => some x310
  | 311 => some x311
  | 312 => some x312
  | 313 => some x313
  | 314 => some x314
  | _ => none
def C0 : Cfg := ⟨fun _ => none, xf, fun _ => none, fun _ => none, fun _ => none, fun _ _ => none⟩
set_option maxRecDepth 100000 in
theorem ok0 : CfgOk Tryz.prog C0 := by
  refine ⟨(fun g F h => by cases h), (fun g x h => ?_), by kernel_rfl, (fun g F h => by cases h), (fun g F h => by cases h), (fun g q h => by cases h), (fun t m g h => by cases h)⟩
  change xf g = some x at h
  unfold xf at h
  split at h
  · cases h; exact ⟨Tryz.f3, Tryz.func3, x3_ok⟩
  · cases h; exact ⟨Tryz.f4, Tryz.func4, x4_ok⟩
  · cases h; exact ⟨Tryz.f6, Tryz.func6, x6_ok⟩
  · cases h; exact ⟨Tryz.f8, Tryz.func8, x8_ok⟩
  · cases h; exact ⟨Tryz.f9, Tryz.func9, x9_ok⟩
  · cases h; exact ⟨Tryz.f10, Tryz.func10, x10_ok⟩
  · cases h; exact ⟨Tryz.f11, Tryz.func11, x11_ok⟩
  · cases h; exact ⟨Tryz.f12, Tryz.func12, x12_ok⟩
  · cases h; exact ⟨Tryz.f13, Tryz.func13, x13_ok⟩
  · cases h; exact ⟨Tryz.f14, Tryz.func14, x14_ok⟩
  · cases h; exact ⟨Tryz.f21, Tryz.func21, x21_ok⟩
  · cases h; exact ⟨Tryz.f22, Tryz.func22, x22_ok⟩
  · cases h; exact ⟨Tryz.f23, Tryz.func23, x23_ok⟩
  · cases h; exact ⟨Tryz.f24, Tryz.func24, x24_ok⟩
  · cases h; exact ⟨Tryz.f27, Tryz.func27, x27_ok⟩
  · cases h; exact ⟨Tryz.f29, Tryz.func29, x29_ok⟩
  · cases h; exact ⟨Tryz.f30, Tryz.func30, x30_ok⟩
  · cases h; exact ⟨Tryz.f32, Tryz.func32, x32_ok⟩
  · cases h; exact ⟨Tryz.f33, Tryz.func33, x33_ok⟩
  · cases h; exact ⟨Tryz.f36, Tryz.func36, x36_ok⟩
  · cases h; exact ⟨Tryz.f37, Tryz.func37, x37_ok⟩
  · cases h; exact ⟨Tryz.f53, Tryz.func53, x53_ok⟩
  · cases h; exact ⟨Tryz.f54, Tryz.func54, x54_ok⟩
  · cases h; exact ⟨Tryz.f55, Tryz.func55, x55_ok⟩
  · cases h; exact ⟨Tryz.f56, Tryz.func56, x56_ok⟩
  · cases h; exact ⟨Tryz.f57, Tryz.func57, x57_ok⟩
  · cases h; exact ⟨Tryz.f58, Tryz.func58, x58_ok⟩
  · cases h; exact ⟨Tryz.f59, Tryz.func59, x59_ok⟩
  · cases h; exact ⟨Tryz.f60, Tryz.func60, x60_ok⟩
  · cases h; exact ⟨Tryz.f61, Tryz.func61, x61_ok⟩
  · cases h; exact ⟨Tryz.f69, Tryz.func69, x69_ok⟩
  · cases h; exact ⟨Tryz.f71, Tryz.func71, x71_ok⟩
  · cases h; exact ⟨Tryz.f74, Tryz.func74, x74_ok⟩
  · cases h; exact ⟨Tryz.f76, Tryz.func76, x76_ok⟩
  · cases h; exact ⟨Tryz.f91, Tryz.func91, x91_ok⟩
  · cases h; exact ⟨Tryz.f92, Tryz.func92, x92_ok⟩
  · cases h; exact ⟨Tryz.f93, Tryz.func93, x93_ok⟩
  · cases h; exact ⟨Tryz.f94, Tryz.func94, x94_ok⟩
  · cases h; exact ⟨Tryz.f95, Tryz.func95, x95_ok⟩
  · cases h; exact ⟨Tryz.f96, Tryz.func96, x96_ok⟩
  · cases h; exact ⟨Tryz.f97, Tryz.func97, x97_ok⟩
  · cases h; exact ⟨Tryz.f98, Tryz.func98, x98_ok⟩
  · cases h; exact ⟨Tryz.f99, Tryz.func99, x99_ok⟩
  · cases h; exact ⟨Tryz.f100, Tryz.func100, x100_ok⟩
  · cases h; exact ⟨Tryz.f101, Tryz.func101, x101_ok⟩
  · cases h; exact ⟨Tryz.f102, Tryz.func102, x102_ok⟩
  · cases h; exact ⟨Tryz.f103, Tryz.func103, x103_ok⟩
  · cases h; exact ⟨Tryz.f104, Tryz.func104, x104_ok⟩
  · cases h; exact ⟨Tryz.f105, Tryz.func105, x105_ok⟩
  · cases h; exact ⟨Tryz.f111, Tryz.func111, x111_ok⟩
  · cases h; exact ⟨Tryz.f112, Tryz.func112, x112_ok⟩
  · cases h; exact ⟨Tryz.f113, Tryz.func113, x113_ok⟩
  · cases h; exact ⟨Tryz.f114, Tryz.func114, x114_ok⟩
  · cases h; exact ⟨Tryz.f115, Tryz.func115, x115_ok⟩
  · cases h; exact ⟨Tryz.f116, Tryz.func116, x116_ok⟩
  · cases h; exact ⟨Tryz.f117, Tryz.func117, x117_ok⟩
  · cases h; exact ⟨Tryz.f120, Tryz.func120, x120_ok⟩
  · cases h; exact ⟨Tryz.f121, Tryz.func121, x121_ok⟩
  · cases h; exact ⟨Tryz.f135, Tryz.func135, x135_ok⟩
  · cases h; exact ⟨Tryz.f137, Tryz.func137, x137_ok⟩
  · cases h; exact ⟨Tryz.f138, Tryz.func138, x138_ok⟩
  · cases h; exact ⟨Tryz.f139, Tryz.func139, x139_ok⟩
  · cases h; exact ⟨Tryz.f140, Tryz.func140, x140_ok⟩
  · cases h; exact ⟨Tryz.f141, Tryz.func141, x141_ok⟩
  · cases h; exact ⟨Tryz.f142, Tryz.func142, x142_ok⟩
  · cases h; exact ⟨Tryz.f143, Tryz.func143, x143_ok⟩
  · cases h; exact ⟨Tryz.f144, Tryz.func144, x144_ok⟩
  · cases h; exact ⟨Tryz.f145, Tryz.func145, x145_ok⟩
  · cases h; exact ⟨Tryz.f146, Tryz.func146, x146_ok⟩
  · cases h; exact ⟨Tryz.f147, Tryz.func147, x147_ok⟩
  · cases h; exact ⟨Tryz.f148, Tryz.func148, x148_ok⟩
  · cases h; exact ⟨Tryz.f149, Tryz.func149, x149_ok⟩
  · cases h; exact ⟨Tryz.f150, Tryz.func150, x150_ok⟩
  · cases h; exact ⟨Tryz.f151, Tryz.func151, x151_ok⟩
  · cases h; exact ⟨Tryz.f172, Tryz.func172, x172_ok⟩
  · cases h; exact ⟨Tryz.f173, Tryz.func173, x173_ok⟩
  · cases h; exact ⟨Tryz.f174, Tryz.func174, x174_ok⟩
  · cases h; exact ⟨Tryz.f175, Tryz.func175, x175_ok⟩
  · cases h; exact ⟨Tryz.f176, Tryz.func176, x176_ok⟩
  · cases h; exact ⟨Tryz.f177, Tryz.func177, x177_ok⟩
  · cases h; exact ⟨Tryz.f178, Tryz.func178, x178_ok⟩
  · cases h; exact ⟨Tryz.f179, Tryz.func179, x179_ok⟩
  · cases h; exact ⟨Tryz.f180, Tryz.func180, x180_ok⟩
  · cases h; exact ⟨Tryz.f181, Tryz.func181, x181_ok⟩
  · cases h; exact ⟨Tryz.f182, Tryz.func182, x182_ok⟩
  · cases h; exact ⟨Tryz.f189, Tryz.func189, x189_ok⟩
  · cases h; exact ⟨Tryz.f190, Tryz.func190, x190_ok⟩
  · cases h; exact ⟨Tryz.f211, Tryz.func211, x211_ok⟩
  · cases h; exact ⟨Tryz.f213, Tryz.func213, x213_ok⟩
  · cases h; exact ⟨Tryz.f214, Tryz.func214, x214_ok⟩
  · cases h; exact ⟨Tryz.f215, Tryz.func215, x215_ok⟩
  · cases h; exact ⟨Tryz.f217, Tryz.func217, x217_ok⟩
  · cases h; exact ⟨Tryz.f218, Tryz.func218, x218_ok⟩
  · cases h; exact ⟨Tryz.f219, Tryz.func219, x219_ok⟩
  · cases h; exact ⟨Tryz.f220, Tryz.func220, x220_ok⟩
  · cases h; exact ⟨Tryz.f221, Tryz.func221, x221_ok⟩
  · cases h; exact ⟨Tryz.f222, Tryz.func222, x222_ok⟩
  · cases h; exact ⟨Tryz.f223, Tryz.func223, x223_ok⟩
  · cases h; exact ⟨Tryz.f224, Tryz.func224, x224_ok⟩
  · cases h; exact ⟨Tryz.f225, Tryz.func225, x225_ok⟩
  · cases h; exact ⟨Tryz.f226, Tryz.func226, x226_ok⟩
  · cases h; exact ⟨Tryz.f227, Tryz.func227, x227_ok⟩
  · cases h; exact ⟨Tryz.f229, Tryz.func229, x229_ok⟩
  · cases h; exact ⟨Tryz.f230, Tryz.func230, x230_ok⟩
  · cases h; exact ⟨Tryz.f231, Tryz.func231, x231_ok⟩
  · cases h; exact ⟨Tryz.f232, Tryz.func232, x232_ok⟩
  · cases h; exact ⟨Tryz.f233, Tryz.func233, x233_ok⟩
  · cases h; exact ⟨Tryz.f235, Tryz.func235, x235_ok⟩
  · cases h; exact ⟨Tryz.f236, Tryz.func236, x236_ok⟩
  · cases h; exact ⟨Tryz.f237, Tryz.func237, x237_ok⟩
  · cases h; exact ⟨Tryz.f240, Tryz.func240, x240_ok⟩
  · cases h; exact ⟨Tryz.f241, Tryz.func241, x241_ok⟩
  · cases h; exact ⟨Tryz.f242, Tryz.func242, x242_ok⟩
  · cases h; exact ⟨Tryz.f243, Tryz.func243, x243_ok⟩
  · cases h; exact ⟨Tryz.f244, Tryz.func244, x244_ok⟩
  · cases h; exact ⟨Tryz.f246, Tryz.func246, x246_ok⟩
  · cases h; exact ⟨Tryz.f247, Tryz.func247, x247_ok⟩
  · cases h; exact ⟨Tryz.f248, Tryz.func248, x248_ok⟩
  · cases h; exact ⟨Tryz.f249, Tryz.func249, x249_ok⟩
  · cases h; exact ⟨Tryz.f252, Tryz.func252, x252_ok⟩
  · cases h; exact ⟨Tryz.f253, Tryz.func253, x253_ok⟩
  · cases h; exact ⟨Tryz.f254, Tryz.func254, x254_ok⟩
  · cases h; exact ⟨Tryz.f255, Tryz.func255, x255_ok⟩
  · cases h; exact ⟨Tryz.f256, Tryz.func256, x256_ok⟩
  · cases h; exact ⟨Tryz.f258, Tryz.func258, x258_ok⟩
  · cases h; exact ⟨Tryz.f259, Tryz.func259, x259_ok⟩
  · cases h; exact ⟨Tryz.f260, Tryz.func260, x260_ok⟩
  · cases h; exact ⟨Tryz.f285, Tryz.func285, x285_ok⟩
  · cases h; exact ⟨Tryz.f286, Tryz.func286, x286_ok⟩
  · cases h; exact ⟨Tryz.f287, Tryz.func287, x287_ok⟩
  · cases h; exact ⟨Tryz.f288, Tryz.func288, x288_ok⟩
  · cases h; exact ⟨Tryz.f289, Tryz.func289, x289_ok⟩
  · cases h; exact ⟨Tryz.f307, Tryz.func307, x307_ok⟩
  · cases h; exact ⟨Tryz.f308, Tryz.func308, x308_ok⟩
  · cases h; exact ⟨Tryz.f309, Tryz.func309, x309_ok⟩
  · cases h; exact ⟨Tryz.f310, Tryz.func310, x310_ok⟩
  · cases h; exact ⟨Tryz.f311, Tryz.func311, x311_ok⟩
  · cases h; exact ⟨Tryz.f312, Tryz.func312, x312_ok⟩
  · cases h; exact ⟨Tryz.f313, Tryz.func313, x313_ok⟩
  · cases h; exact ⟨Tryz.f314, Tryz.func314, x314_ok⟩
  · cases h
end Go.Proofs.YtldineoabbodpaaGreatDoor
namespace Go.Proofs.YtldineoabbodpaaGreatDoor
open Go Go.Xec
attribute [local go_sem] tm0 ne_eq not_false_eq_true List.length_append List.length_replicate List.replicate_succ List.replicate_zero Int.cast_ofNat_Int not_true_eq_false decide_true decide_false ite_self beq_self_eq_true Bool.true_beq Bool.false_beq Bool.not_true Bool.not_false
attribute [local go_sem_proc] Nat.reduceAdd Nat.reduceMul Nat.reduceSub Nat.reduceLeDiff Nat.reduceLT Nat.reduceEqDiff Int.reduceLT Int.reduceLE Int.reduceAdd Int.reduceSub Int.reduceMul Int.reduceToNat Int.reducePow Int.reduceNe Int.reduceMod Int.reduceDiv Int.reduceEq Nat.reducePow Int.reduceNeg
abbrev U (n : Int) : Prop := 0 ≤ n ∧ n < 18446744073709551616
abbrev W (h l : Int) : AVal := .agg [.int .u64 h, .int .u64 l]
abbrev val (h l : Int) : Int := h * 18446744073709551616 + l
abbrev enc (n : Int) : AVal := W (n / 18446744073709551616) (n % 18446744073709551616)
abbrev big : Int := 340282366920938463463374607431768211456
noncomputable def F92 : List AVal → Option AVal
  | [.int .u64 a, .int .u64 b] => if U a ∧ U b then some (.tup [.int .u64 (a * b / 18446744073709551616), .int .u64 (a * b % 18446744073709551616)]) else none
  | _ => none
theorem F92_eq {a b : Int} (ha : U a) (hb : U b) : F92 [.int .u64 a, .int .u64 b] = some (.tup [.int .u64 (a * b / 18446744073709551616), .int .u64 (a * b % 18446744073709551616)]) := if_pos ⟨ha, hb⟩
theorem mul_bound {x y m : Int} (h0 : 0 ≤ x) (h1 : x ≤ m) (h2 : 0 ≤ y) (h3 : y ≤ m) : 0 ≤ x * y ∧ x * y ≤ m * m :=
  ⟨Int.mul_nonneg h0 h2, Int.mul_le_mul h1 h3 h2 (by omega)⟩
set_option maxRecDepth 10000
theorem step92 {a b : Int} (ha : U a) (hb : U b) : pureF C0 1 92 [.int .u64 a, .int .u64 b] = some (.tup [.int .u64 (a * b / 18446744073709551616), .int .u64 (a * b % 18446744073709551616)]) := by
  refine pureF_of (x := x92) rfl rfl ?_
  rw [x92_eq.1, x92_eq.2.1]
  simp only [x92b, go_sem, ↓reduceIte, dropK_eq, and_self, Bool.and_self, binA_and32, binA_shr]
  refine Ends_plain rfl ?_
  have e1 : a = a / 4294967296 * 4294967296 + a % 4294967296 := by omega
  have e2 : b = b / 4294967296 * 4294967296 + b % 4294967296 := by omega
  have h1 : 0 ≤ a / 4294967296 ∧ a / 4294967296 ≤ 4294967295 := by omega
  have h2 : 0 ≤ a % 4294967296 ∧ a % 4294967296 ≤ 4294967295 := by omega
  have h3 : 0 ≤ b / 4294967296 ∧ b / 4294967296 ≤ 4294967295 := by omega
  have h4 : 0 ≤ b % 4294967296 ∧ b % 4294967296 ≤ 4294967295 := by omega
  generalize a / 4294967296 = a1 at *
  generalize a % 4294967296 = a0 at *
  generalize b / 4294967296 = b1 at *
  generalize b % 4294967296 = b0 at *
  have p11 := mul_bound h1.1 h1.2 h3.1 h3.2
  have p10 := mul_bound h1.1 h1.2 h4.1 h4.2
  have p01 := mul_bound h2.1 h2.2 h3.1 h3.2
  have p00 := mul_bound h2.1 h2.2 h4.1 h4.2
  have e3 : a * b = a1 * b1 * 18446744073709551616 + (a1 * b0 + a0 * b1) * 4294967296 + a0 * b0 := by
    rw [e1, e2]
    simp only [Int.add_mul, Int.mul_add, Int.mul_comm, Int.mul_left_comm, Int.mul_assoc, Int.reduceMul]
    omega
  rw [e3]
  generalize a1 * b1 = q11 at *
  generalize a1 * b0 = q10 at *
  generalize a0 * b1 = q01 at *
  generalize a0 * b0 = q00 at *
  clear e1 e2 e3 ha hb
  congr 2
  · congr 1
    omega
theorem sound92 : Sound Tryz.prog 92 F92 := sound_at ok0 0 fun xs r h => by
  unfold F92 at h
  split at h
  · split at h
    · rename_i hc
      cases h
      exact step92 hc.1 hc.2
    · cases h
  · cases h
theorem sound136 : Sound Tryz.prog 136 F_add64 := sound_add64 Tryz.func136 (by kernel_rfl) (by kernel_rfl) (by kernel_rfl) (by kernel_rfl)
theorem sound265 : Sound Tryz.prog 265 F_sub64 := sound_sub64 Tryz.func265 (by kernel_rfl) (by kernel_rfl) (by kernel_rfl) (by
  intro x y c hc w
  have : c = 0 ∨ c = 1 := by omega
  rcases this with rfl | rfl <;> rfl)
noncomputable def C1 : Cfg := ((C0.add 92 F92).add 136 F_add64).add 265 F_sub64
theorem ok1 : CfgOk Tryz.prog C1 := ((ok0.add sound92).add sound136).add sound265
theorem C1_92 : C1.Γ 92 = some F92 := rfl
noncomputable def F55 : List AVal → Option AVal
  | [.int .u64 a, .int .u64 b] => if U a ∧ U b then some (enc (a * b)) else none
  | _ => none
theorem F55_eq {a b : Int} (ha : U a) (hb : U b) : F55 [.int .u64 a, .int .u64 b] = some (enc (a * b)) := if_pos ⟨ha, hb⟩
theorem step55 {a b : Int} (ha : U a) (hb : U b) : pureF C1 1 55 [.int .u64 a, .int .u64 b] = some (enc (a * b)) := by
  refine pureF_of (x := x55) rfl rfl ?_
  rw [x55_eq.1, x55_eq.2.1]
  simp only [x55b, go_sem, ↓reduceIte, dropK_eq, callX_known C1_92, F92_eq ha hb]
  exact Ends_plain rfl rfl
theorem sound55 : Sound Tryz.prog 55 F55 := sound_at ok1 0 fun xs r h => by
  unfold F55 at h
  split at h
  · split at h
    · rename_i hc
      cases h
      exact step55 hc.1 hc.2
    · cases h
  · cases h
noncomputable def F252 : List AVal → Option AVal
  | [.agg [.int .u64 h, .int .u64 l]] => some (.agg [.int .u64 l, .int .u64 h])
  | _ => none
theorem F252_eq {h l : Int} : F252 [W h l] = some (.agg [.int .u64 l, .int .u64 h]) := rfl
theorem step252 (h l : Int) : pureF C1 1 252 [W h l] = some (.agg [.int .u64 l, .int .u64 h]) := by
  refine pureF_of (x := x252) rfl rfl ?_
  rw [x252_eq.1, x252_eq.2.1]
  simp only [x252b, go_sem, ↓reduceIte, dropK_eq]
  exact Ends_plain rfl rfl
theorem sound252 : Sound Tryz.prog 252 F252 := sound_at ok1 0 fun xs r h => by
  unfold F252 at h
  split at h
  · cases h
    exact step252 _ _
  · cases h
noncomputable def F101 : List AVal → Option AVal
  | [.agg [.int .u64 ah, .int .u64 al], .agg [.int .u64 bh, .int .u64 bl]] => if U al ∧ U bl then some (.bool (decide (val ah al < val bh bl))) else none
  | _ => none
theorem F101_eq {ah al bh bl : Int} (h1 : U al) (h2 : U bl) : F101 [W ah al, W bh bl] = some (.bool (decide (val ah al < val bh bl))) := if_pos ⟨h1, h2⟩
theorem step101 {ah al bh bl : Int} (h1 : U al) (h2 : U bl) : pureF C1 1 101 [W ah al, W bh bl] = some (.bool (decide (val ah al < val bh bl))) := by
  refine pureF_of (x := x101) rfl rfl ?_
  rw [x101_eq.1, x101_eq.2.1]
  simp only [x101b, go_sem, ↓reduceIte, dropK_eq]
  repeat' (first | refine Ends_plain rfl ?_ | (first | refine Gd_split_t (fun h => ?_) (fun h => ?_) | refine Gd_split_f (fun h => ?_) (fun h => ?_) | refine Cd_split (fun h => ?_) (fun h => ?_)) <;> simp only [*, go_sem, ↓reduceIte, dropK_eq])
  all_goals
    congr 1
    simp only [decide_eq_true_eq, decide_eq_false_iff_not, val] at *
  · exact (decide_eq_true (by omega)).symm
  · exact decide_eq_decide.2 (by omega)
  · exact (decide_eq_false (by omega)).symm
theorem sound101 : Sound Tryz.prog 101 F101 := sound_at ok1 0 fun xs r h => by
  unfold F101 at h
  split at h
  · split at h
    · rename_i hc
      cases h
      exact step101 hc.1 hc.2
    · cases h
  · cases h
noncomputable def C2 : Cfg := ((C1.add 55 F55).add 252 F252).add 101 F101
theorem ok2 : CfgOk Tryz.prog C2 := ((ok1.add sound55).add sound252).add sound101
theorem C2_55 : C2.Γ 55 = some F55 := rfl
theorem C2_252 : C2.Γ 252 = some F252 := rfl
theorem C2_136 : C2.Γ 136 = some F_add64 := rfl
theorem C2_265 : C2.Γ 265 = some F_sub64 := rfl
theorem tWb {h h' l l' : Int} {b b' : Bool} (e1 : h = h') (e2 : l = l') (e3 : b = b') : AVal.tup [W h l, .bool b] = .tup [W h' l', .bool b'] := by
  subst e1; subst e2; subst e3; rfl
noncomputable def F243 : List AVal → Option AVal
  | [.agg [.int .u64 ah, .int .u64 al], .agg [.int .u64 bh, .int .u64 bl]] => if U ah ∧ U al ∧ U bh ∧ U bl then
      some (.tup [enc ((val ah al + val bh bl) % big), .bool (decide (big ≤ val ah al + val bh bl))]) else none
  | _ => none
theorem F243_eq {ah al bh bl : Int} (h1 : U ah) (h2 : U al) (h3 : U bh) (h4 : U bl) : F243 [W ah al, W bh bl] = some (.tup [enc ((val ah al + val bh bl) % big), .bool (decide (big ≤ val ah al + val bh bl))]) := if_pos ⟨h1, h2, h3, h4⟩
theorem step243 {ah al bh bl : Int} (h1 : U ah) (h2 : U al) (h3 : U bh) (h4 : U bl) : pureF C2 1 243 [W ah al, W bh bl] = some (.tup [enc ((val ah al + val bh bl) % big), .bool (decide (big ≤ val ah al + val bh bl))]) := by
  refine pureF_of (x := x243) rfl rfl ?_
  rw [x243_eq.1, x243_eq.2.1]
  simp (disch := first | omega | simp only [go_sem, ↓reduceIte, dropK_eq]) only [x243b, x243l5, go_sem, ↓reduceIte, dropK_eq, callX_known C2_136, callX_known C2_252, ft_call C2_136, ft_call C2_252, F252_eq, F_add64_eq, ↓Ev_loop, ↓EvN_step]
  refine Ends_plain rfl (tWb ?_ ?_ (decide_eq_decide.2 ?_)) <;> simp only [val, big] <;> omega
theorem sound243 : Sound Tryz.prog 243 F243 := sound_at ok2 0 fun xs r h => by
  unfold F243 at h
  split at h
  · split at h
    · rename_i hc
      cases h
      exact step243 hc.1 hc.2.1 hc.2.2.1 hc.2.2.2
    · cases h
  · cases h
noncomputable def F256 : List AVal → Option AVal
  | [.agg [.int .u64 ah, .int .u64 al], .agg [.int .u64 bh, .int .u64 bl]] => if U ah ∧ U al ∧ U bh ∧ U bl then
      some (.tup [enc ((val ah al - val bh bl) % big), .bool (decide (val ah al < val bh bl))]) else none
  | _ => none
theorem step256 {ah al bh bl : Int} (h1 : U ah) (h2 : U al) (h3 : U bh) (h4 : U bl) : pureF C2 1 256 [W ah al, W bh bl] = some (.tup [enc ((val ah al - val bh bl) % big), .bool (decide (val ah al < val bh bl))]) := by
  refine pureF_of (x := x256) rfl rfl ?_
  rw [x256_eq.1, x256_eq.2.1]
  simp (disch := first | omega | simp only [go_sem, ↓reduceIte, dropK_eq]) only [x256b, x256l5, go_sem, ↓reduceIte, dropK_eq, callX_known C2_265, callX_known C2_252, ft_call C2_265, ft_call C2_252, F252_eq, F_sub64_eq, ↓Ev_loop, ↓EvN_step]
  refine Ends_plain rfl (tWb ?_ ?_ (decide_eq_decide.2 ?_)) <;> simp only [val, big] <;> (repeat' split) <;> omega
theorem sound256 : Sound Tryz.prog 256 F256 := sound_at ok2 0 fun xs r h => by
  unfold F256 at h
  split at h
  · split at h
    · rename_i hc
      cases h
      exact step256 hc.1 hc.2.1 hc.2.2.1 hc.2.2.2
    · cases h
  · cases h
noncomputable def F100 : List AVal → Option AVal
  | [.agg [.int .u64 ah, .int .u64 al], .agg [.int .u64 bh, .int .u64 bl]] => if U ah ∧ U al ∧ U bh ∧ U bl then
      some (.tup [enc ((val ah al * val bh bl) % big), .bool (decide (big ≤ val ah al * val bh bl))]) else none
  | _ => none
theorem F100_eq {ah al bh bl : Int} (h1 : U ah) (h2 : U al) (h3 : U bh) (h4 : U bl) : F100 [W ah al, W bh bl] = some (.tup [enc ((val ah al * val bh bl) % big), .bool (decide (big ≤ val ah al * val bh bl))]) := if_pos ⟨h1, h2, h3, h4⟩
theorem mul_pos1 {x y : Int} (h : 0 ≤ x) (h' : 0 ≤ y) : (0 < x ∧ 0 < y ∧ 1 ≤ x * y) ∨ ((x = 0 ∨ y = 0) ∧ x * y = 0) := by
  rcases Int.lt_or_eq_of_le h with h1 | h1
  · rcases Int.lt_or_eq_of_le h' with h2 | h2
    · exact .inl ⟨h1, h2, Int.mul_pos h1 h2⟩
    · subst h2; exact .inr ⟨.inr rfl, by simp⟩
  · subst h1; exact .inr ⟨.inl rfl, by simp⟩
theorem step100 {ah al bh bl : Int} (h1 : U ah) (h2 : U al) (h3 : U bh) (h4 : U bl) : pureF C2 1 100 [W ah al, W bh bl] = some (.tup [enc ((val ah al * val bh bl) % big), .bool (decide (big ≤ val ah al * val bh bl))]) := by
  refine pureF_of (x := x100) rfl rfl ?_
  rw [x100_eq.1, x100_eq.2.1]
  have p11 : 0 ≤ ah * bh ∧ ah * bh ≤ 18446744073709551615 * 18446744073709551615 := mul_bound h1.1 (by omega) h3.1 (by omega)
  have p10 : 0 ≤ ah * bl ∧ ah * bl ≤ 18446744073709551615 * 18446744073709551615 := mul_bound h1.1 (by omega) h4.1 (by omega)
  have p01 : 0 ≤ al * bh ∧ al * bh ≤ 18446744073709551615 * 18446744073709551615 := mul_bound h2.1 (by omega) h3.1 (by omega)
  have p00 : 0 ≤ al * bl ∧ al * bl ≤ 18446744073709551615 * 18446744073709551615 := mul_bound h2.1 (by omega) h4.1 (by omega)
  have pz := mul_pos1 h1.1 h3.1
  simp (disch := first | omega | simp only [go_sem, ↓reduceIte, dropK_eq]) only [x100b, x100l4, go_sem, ↓reduceIte, dropK_eq, callX_known C2_136, callX_known C2_55, ft_call C2_136, ft_call C2_55, F_add64_eq, F55_eq, ↓Ev_loop, ↓EvN_step]
  repeat' (first | refine Ends_plain rfl ?_ | (first | refine Gd_split_t (fun h => ?_) (fun h => ?_) | refine Gd_split_f (fun h => ?_) (fun h => ?_) | refine Cd_split (fun h => ?_) (fun h => ?_)) <;> simp (disch := first | omega | simp only [go_sem, ↓reduceIte, dropK_eq]) only [h, go_sem, ↓reduceIte, dropK_eq, callX_known C2_136, callX_known C2_55, ft_call C2_136, ft_call C2_55, F_add64_eq, F55_eq, ↓Ev_loop, ↓EvN_step])
  all_goals
    have e : val ah al * val bh bl = ah * bh * big + (ah * bl + al * bh) * 18446744073709551616 + al * bl := by
      simp only [val, big, Int.add_mul, Int.mul_add, Int.mul_comm, Int.mul_left_comm, Int.mul_assoc, Int.reduceMul]
      omega
    rw [e]
    generalize ah * bh = q11 at *
    generalize ah * bl = q10 at *
    generalize al * bh = q01 at *
    generalize al * bl = q00 at *
    simp only [decide_eq_true_eq, decide_eq_false_iff_not] at *
    clear e
    refine tWb ?_ ?_ ?_
    · simp only [big]; omega
    · simp only [big]; omega
    · simp only [big]
      first
        | exact (decide_eq_true (by omega)).symm
        | exact (decide_eq_false (by omega)).symm
        | exact decide_eq_decide.2 (by omega)
theorem sound100 : Sound Tryz.prog 100 F100 := sound_at ok2 0 fun xs r h => by
  unfold F100 at h
  split at h
  · split at h
    · rename_i hc
      cases h
      exact step100 hc.1 hc.2.1 hc.2.2.1 hc.2.2.2
    · cases h
  · cases h
set_option maxRecDepth 10000
noncomputable def F60 : List AVal → Option AVal := pureF C2 1 60
theorem sound60 : Sound Tryz.prog 60 F60 := sound_self ok2 1 60
theorem F60_eq {x l h : Int} : F60 [.int .i64 x, .int .i64 l, .int .i64 h] = some (.bool (decide (l ≤ x ∧ x ≤ h))) := by
  unfold F60
  refine pureF_of (x := x60) rfl rfl ?_
  rw [x60_eq.1, x60_eq.2.1]
  simp (disch := first | omega | simp only [go_sem, ↓reduceIte, dropK_eq]) only [x60b, go_sem, ↓reduceIte, dropK_eq]
  repeat' (first | refine Ends_plain rfl ?_ | (first | refine Gd_split_t (fun h => ?_) (fun h => ?_) | refine Gd_split_f (fun h => ?_) (fun h => ?_) | refine Cd_split (fun h => ?_) (fun h => ?_)) <;> (try simp (disch := first | omega | simp only [go_sem, ↓reduceIte, dropK_eq]) only [*, go_sem, ↓reduceIte, dropK_eq]))
  all_goals (congr 1; (try simp only [Bool.not_eq_true', Bool.not_eq_false', decide_eq_true_eq, decide_eq_false_iff_not] at *); first | exact decide_eq_decide.2 (by omega) | exact (decide_eq_false (by omega)).symm | exact (decide_eq_true (by omega)).symm)
noncomputable def F74 : List AVal → Option AVal := pureF C2 1 74
theorem sound74 : Sound Tryz.prog 74 F74 := sound_self ok2 1 74
noncomputable def F120 : List AVal → Option AVal := pureF C2 1 120
theorem sound120 : Sound Tryz.prog 120 F120 := sound_self ok2 1 120
noncomputable def F91 : List AVal → Option AVal := pureF C2 1 91
theorem sound91 : Sound Tryz.prog 91 F91 := sound_self ok2 1 91
theorem F91_eq {x : Int} : F91 [.int .i64 x] = some (.bool (decide (-1000000 ≤ x ∧ x ≤ 1000000))) := by
  unfold F91
  refine pureF_of (x := x91) rfl rfl ?_
  rw [x91_eq.1, x91_eq.2.1]
  simp (disch := first | omega | simp only [go_sem, ↓reduceIte, dropK_eq]) only [x91b, go_sem, ↓reduceIte, dropK_eq]
  repeat' (first | refine Ends_plain rfl ?_ | (first | refine Gd_split_t (fun h => ?_) (fun h => ?_) | refine Gd_split_f (fun h => ?_) (fun h => ?_) | refine Cd_split (fun h => ?_) (fun h => ?_)) <;> (try simp (disch := first | omega | simp only [go_sem, ↓reduceIte, dropK_eq]) only [*, go_sem, ↓reduceIte, dropK_eq]))
  all_goals (congr 1; (try simp only [Bool.not_eq_true', Bool.not_eq_false', decide_eq_true_eq, decide_eq_false_iff_not] at *); first | exact decide_eq_decide.2 (by omega) | exact (decide_eq_false (by omega)).symm | exact (decide_eq_true (by omega)).symm)
noncomputable def F138 : List AVal → Option AVal := pureF C2 1 138
theorem sound138 : Sound Tryz.prog 138 F138 := sound_self ok2 1 138
theorem F138_eq {x : Int} : F138 [.int .i64 x] = some (.bool (decide (0 < x ∧ x < 512))) := by
  unfold F138
  refine pureF_of (x := x138) rfl rfl ?_
  rw [x138_eq.1, x138_eq.2.1]
  simp (disch := first | omega | simp only [go_sem, ↓reduceIte, dropK_eq]) only [x138b, go_sem, ↓reduceIte, dropK_eq]
  repeat' (first | refine Ends_plain rfl ?_ | (first | refine Gd_split_t (fun h => ?_) (fun h => ?_) | refine Gd_split_f (fun h => ?_) (fun h => ?_) | refine Cd_split (fun h => ?_) (fun h => ?_)) <;> (try simp (disch := first | omega | simp only [go_sem, ↓reduceIte, dropK_eq]) only [*, go_sem, ↓reduceIte, dropK_eq]))
  all_goals (congr 1; (try simp only [Bool.not_eq_true', Bool.not_eq_false', decide_eq_true_eq, decide_eq_false_iff_not] at *); first | exact decide_eq_decide.2 (by omega) | exact (decide_eq_false (by omega)).symm | exact (decide_eq_true (by omega)).symm)
noncomputable def F226 : List AVal → Option AVal := pureF C2 1 226
theorem sound226 : Sound Tryz.prog 226 F226 := sound_self ok2 1 226
theorem F226_eq {x : Int} : F226 [.int .i64 x] = some (.bool (decide (0 ≤ x ∧ x < 7))) := by
  unfold F226
  refine pureF_of (x := x226) rfl rfl ?_
  rw [x226_eq.1, x226_eq.2.1]
  simp (disch := first | omega | simp only [go_sem, ↓reduceIte, dropK_eq]) only [x226b, go_sem, ↓reduceIte, dropK_eq]
  repeat' (first | refine Ends_plain rfl ?_ | (first | refine Gd_split_t (fun h => ?_) (fun h => ?_) | refine Gd_split_f (fun h => ?_) (fun h => ?_) | refine Cd_split (fun h => ?_) (fun h => ?_)) <;> (try simp (disch := first | omega | simp only [go_sem, ↓reduceIte, dropK_eq]) only [*, go_sem, ↓reduceIte, dropK_eq]))
  all_goals (congr 1; (try simp only [Bool.not_eq_true', Bool.not_eq_false', decide_eq_true_eq, decide_eq_false_iff_not] at *); first | exact decide_eq_decide.2 (by omega) | exact (decide_eq_false (by omega)).symm | exact (decide_eq_true (by omega)).symm)
noncomputable def F227 : List AVal → Option AVal := pureF C2 1 227
theorem sound227 : Sound Tryz.prog 227 F227 := sound_self ok2 1 227
theorem F227_eq {x : Int} : F227 [.int .i64 x] = some (.bool (decide (2 ≤ x ∧ x ≤ 10))) := by
  unfold F227
  refine pureF_of (x := x227) rfl rfl ?_
  rw [x227_eq.1, x227_eq.2.1]
  simp (disch := first | omega | simp only [go_sem, ↓reduceIte, dropK_eq]) only [x227b, go_sem, ↓reduceIte, dropK_eq]
  repeat' (first | refine Ends_plain rfl ?_ | (first | refine Gd_split_t (fun h => ?_) (fun h => ?_) | refine Gd_split_f (fun h => ?_) (fun h => ?_) | refine Cd_split (fun h => ?_) (fun h => ?_)) <;> (try simp (disch := first | omega | simp only [go_sem, ↓reduceIte, dropK_eq]) only [*, go_sem, ↓reduceIte, dropK_eq]))
  all_goals (congr 1; (try simp only [Bool.not_eq_true', Bool.not_eq_false', decide_eq_true_eq, decide_eq_false_iff_not] at *); first | exact decide_eq_decide.2 (by omega) | exact (decide_eq_false (by omega)).symm | exact (decide_eq_true (by omega)).symm)
noncomputable def F230 : List AVal → Option AVal := pureF C2 1 230
theorem sound230 : Sound Tryz.prog 230 F230 := sound_self ok2 1 230
theorem F230_eq {x : Int} : F230 [.int .i64 x] = some (.bool (decide (1 ≤ x ∧ x ≤ 1000))) := by
  unfold F230
  refine pureF_of (x := x230) rfl rfl ?_
  rw [x230_eq.1, x230_eq.2.1]
  simp (disch := first | omega | simp only [go_sem, ↓reduceIte, dropK_eq]) only [x230b, go_sem, ↓reduceIte, dropK_eq]
  repeat' (first | refine Ends_plain rfl ?_ | (first | refine Gd_split_t (fun h => ?_) (fun h => ?_) | refine Gd_split_f (fun h => ?_) (fun h => ?_) | refine Cd_split (fun h => ?_) (fun h => ?_)) <;> (try simp (disch := first | omega | simp only [go_sem, ↓reduceIte, dropK_eq]) only [*, go_sem, ↓reduceIte, dropK_eq]))
  all_goals (congr 1; (try simp only [Bool.not_eq_true', Bool.not_eq_false', decide_eq_true_eq, decide_eq_false_iff_not] at *); first | exact decide_eq_decide.2 (by omega) | exact (decide_eq_false (by omega)).symm | exact (decide_eq_true (by omega)).symm)
noncomputable def F240 : List AVal → Option AVal := pureF C2 1 240
theorem sound240 : Sound Tryz.prog 240 F240 := sound_self ok2 1 240
theorem F240_eq {x : Int} : F240 [.int .i64 x] = some (.bool (decide (x < -100000000000000 ∨ 100000000000000 < x))) := by
  unfold F240
  refine pureF_of (x := x240) rfl rfl ?_
  rw [x240_eq.1, x240_eq.2.1]
  simp (disch := first | omega | simp only [go_sem, ↓reduceIte, dropK_eq]) only [x240b, go_sem, ↓reduceIte, dropK_eq]
  repeat' (first | refine Ends_plain rfl ?_ | (first | refine Gd_split_t (fun h => ?_) (fun h => ?_) | refine Gd_split_f (fun h => ?_) (fun h => ?_) | refine Cd_split (fun h => ?_) (fun h => ?_)) <;> (try simp (disch := first | omega | simp only [go_sem, ↓reduceIte, dropK_eq]) only [*, go_sem, ↓reduceIte, dropK_eq]))
  all_goals (congr 1; (try simp only [Bool.not_eq_true', Bool.not_eq_false', decide_eq_true_eq, decide_eq_false_iff_not] at *); first | exact decide_eq_decide.2 (by omega) | exact (decide_eq_false (by omega)).symm | exact (decide_eq_true (by omega)).symm)
noncomputable def F121 : List AVal → Option AVal := pureF C2 1 121
theorem sound121 : Sound Tryz.prog 121 F121 := sound_self ok2 1 121
theorem F121_eq {l h : Int} : F121 [.agg [.int .i64 l, .int .i64 h]] = some (.bool (decide (l ≤ h))) := by
  unfold F121
  refine pureF_of (x := x121) rfl rfl ?_
  rw [x121_eq.1, x121_eq.2.1]
  simp (disch := first | omega | simp only [go_sem, ↓reduceIte, dropK_eq]) only [x121b, go_sem, ↓reduceIte, dropK_eq]
  exact Ends_plain rfl rfl
noncomputable def F98 : List AVal → Option AVal := pureF C2 1 98
theorem sound98 : Sound Tryz.prog 98 F98 := sound_self ok2 1 98
theorem F98_eq {x : Int} (h : -9223372036854775808 ≤ x ∧ x ≤ 9223372036854775807) : F98 [.int .i64 x] = some (.int .u64 (x.natAbs : Int)) := by
  unfold F98
  refine pureF_of (x := x98) rfl rfl ?_
  rw [x98_eq.1, x98_eq.2.1]
  by_cases hx : x < 0
  · have d := decide_eq_true hx
    simp (disch := first | omega | simp only [go_sem, ↓reduceIte, dropK_eq]) only [x98b, go_sem, ↓reduceIte, dropK_eq, d]
    refine Ends_plain rfl ?_
    congr 1
    omega
  · have d := decide_eq_false hx
    simp (disch := first | omega | simp only [go_sem, ↓reduceIte, dropK_eq]) only [x98b, go_sem, ↓reduceIte, dropK_eq, d]
    refine Ends_plain rfl ?_
    congr 1
    omega
noncomputable def C3 : Cfg := ((((((((((C2.add 60 F60).add 74 F74).add 120 F120).add 91 F91).add 138 F138).add 226 F226).add 227 F227).add 230 F230).add 240 F240).add 121 F121).add 98 F98 |>.add 243 F243 |>.add 256 F256 |>.add 100 F100
theorem ok3 : CfgOk Tryz.prog C3 := (((((((((((((ok2.add sound60).add sound74).add sound120).add sound91).add sound138).add sound226).add sound227).add sound230).add sound240).add sound121).add sound98).add sound243).add sound256).add sound100
set_option maxRecDepth 10000
theorem enc_w {n : Int} (h : 0 ≤ n ∧ n < big) : U (n / 18446744073709551616) ∧ U (n % 18446744073709551616) := by
  simp only [U, big] at *
  omega
theorem val_enc (n : Int) : val (n / 18446744073709551616) (n % 18446744073709551616) = n := by
  simp only [val]
  omega
noncomputable def F241 : List AVal → Option AVal := pureF C3 1 241
theorem sound241 : Sound Tryz.prog 241 F241 := sound_self ok3 1 241
theorem F241_eq {x h l : Int} (hx : U x) (hl : U l) : F241 [.int .u64 x, .pvo [.int .u64 h, .int .u64 l] 0] = some (.bool (decide (x * x ≤ val h l))) := by
  have hxx : 0 ≤ x * x ∧ x * x ≤ 18446744073709551615 * 18446744073709551615 := mul_bound hx.1 (by omega) hx.1 (by omega)
  have e55 := F55_eq hx hx
  have e101 := F101_eq (ah := h) (al := l) (bh := x * x / 18446744073709551616) (bl := x * x % 18446744073709551616) hl (enc_w (by simp only [big]; omega)).2
  rw [val_enc] at e101
  simp only [enc] at e55
  unfold F241
  refine pureF_of (x := x241) rfl rfl ?_
  rw [x241_eq.1, x241_eq.2.1]
  simp (disch := first | omega | simp only [go_sem, ↓reduceIte, dropK_eq]) only [x241b, go_sem, ↓reduceIte, dropK_eq, callX_known (C := C3) (g := 55) rfl, ft_call (C := C3) (g := 55) rfl, callX_known (C := C3) (g := 101) rfl, ft_call (C := C3) (g := 101) rfl, e55, e101]
  refine Ends_plain rfl ?_
  congr 1
  by_cases h1 : x * x ≤ val h l
  · rw [decide_eq_true h1, decide_eq_false (by omega)]; rfl
  · rw [decide_eq_false h1, decide_eq_true (by omega)]; rfl
noncomputable def C4 : Cfg := C3.add 241 F241
theorem ok4 : CfgOk Tryz.prog C4 := ok3.add sound241
def blen (n : Nat) : Nat := if n = 0 then 0 else Nat.log2 n + 1
theorem blen_spec {n r : Nat} (h : (n = 0 ∧ r = 0) ∨ (1 ≤ r ∧ 2 ^ (r - 1) ≤ n ∧ n < 2 ^ r)) : blen n = r := by
  unfold blen
  rcases h with ⟨rfl, rfl⟩ | ⟨h1, h2, h3⟩
  · rfl
  · have hn : n ≠ 0 := by have : 0 < 2 ^ (r - 1) := Nat.two_pow_pos _; omega
    rw [if_neg hn]
    have h4 : Nat.log2 n < r := (Nat.log2_lt hn).2 h3
    have h5 : r - 1 ≤ Nat.log2 n := (Nat.le_log2 hn).2 h2
    omega
theorem blen_of {n : Nat} (hn : n ≠ 0) : 1 ≤ blen n ∧ 2 ^ (blen n - 1) ≤ n ∧ n < 2 ^ blen n := by
  unfold blen
  rw [if_neg hn]
  exact ⟨by omega, by simpa using Nat.log2_self_le hn, Nat.lt_log2_self⟩
theorem blen_shift {n k : Nat} (h : 2 ^ k ≤ n) : blen n = k + blen (n / 2 ^ k) := by
  have hp : 0 < 2 ^ k := Nat.two_pow_pos k
  have hq : n / 2 ^ k ≠ 0 := by
    have := Nat.div_pos h hp
    omega
  obtain ⟨h1, h2, h3⟩ := blen_of hq
  refine blen_spec (.inr ⟨by omega, ?_, ?_⟩)
  · rw [show k + blen (n / 2 ^ k) - 1 = (blen (n / 2 ^ k) - 1) + k by omega, Nat.pow_add]
    exact (Nat.le_div_iff_mul_le hp).1 h2
  · rw [Nat.add_comm, Nat.pow_add]
    exact (Nat.div_lt_iff_lt_mul hp).1 h3
def len8 : ByteArray := Lib.len8tab
theorem len8_at : ∀ y < 256, len8[y]? = some (UInt8.ofNat (blen y)) := by decide +kernel
theorem ix_len8 {y : Int} (h : 0 ≤ y ∧ y < 256) : ixSA (.str Lib.len8tab) (.int .u8 y) = some (.int .u8 (blen y.toNat)) := by
  have h1 := len8_at y.toNat (by omega)
  have h2 : blen y.toNat ≤ 8 := by
    by_cases h0 : y.toNat = 0
    · rw [h0]; decide
    · obtain ⟨_, h3, _⟩ := blen_of h0
      refine Nat.le_of_not_lt fun h4 => ?_
      have : 2 ^ 8 ≤ 2 ^ (blen y.toNat - 1) := Nat.pow_le_pow_right (by decide) (by omega)
      omega
  show ixSA (.str len8) (.int .u8 y) = _
  simp only [ixSA, h.1, if_true, h1, Option.map_some]
  congr 2
  simp
  omega
noncomputable def F172 : List AVal → Option AVal := pureF C4 1 172
theorem sound172 : Sound Tryz.prog 172 F172 := sound_self ok4 1 172
theorem blen_8 {n : Nat} (h : n < 256) : blen n ≤ 8 := by
  by_cases h0 : n = 0
  · rw [h0]; decide
  · obtain ⟨_, h3, _⟩ := blen_of h0
    refine Nat.le_of_not_lt fun h4 => ?_
    have : 2 ^ 8 ≤ 2 ^ (blen n - 1) := Nat.pow_le_pow_right (by decide) (by omega)
    omega
theorem F172_eq {x : Int} (hx : U x) : F172 [.int .u64 x] = some (.int .i64 (blen x.toNat)) := by
  obtain ⟨m, rfl⟩ : ∃ m : Nat, x = m := ⟨x.toNat, by have := hx.1; omega⟩
  rw [Int.toNat_natCast]
  have hm : m < 18446744073709551616 := by have := hx.2; omega
  have s1 : ∀ a : Nat, binA .shr (.int .u64 (a : Int)) (.int .u64 32) = some (.int .u64 ((a / 4294967296 : Nat) : Int)) := fun a => by rw [binA_shr]; simp
  have s2 : ∀ a : Nat, binA .shr (.int .u64 (a : Int)) (.int .u64 16) = some (.int .u64 ((a / 65536 : Nat) : Int)) := fun a => by rw [binA_shr_u64 _ _ (by decide) (by decide)]; simp
  have s3 : ∀ a : Nat, binA .shr (.int .u64 (a : Int)) (.int .u64 8) = some (.int .u64 ((a / 256 : Nat) : Int)) := fun a => by rw [binA_shr_u64 _ _ (by decide) (by decide)]; simp
  clear hx
  unfold F172
  refine pureF_of (x := x172) rfl rfl ?_
  rw [x172_eq.1, x172_eq.2.1]
  by_cases c1 : 4294967296 ≤ m
  · have d1 : decide ((4294967296 : Int) ≤ ((m : Nat) : Int)) = true := decide_eq_true (by omega)
    have g1 : blen m = 32 + blen (m / 4294967296) := blen_shift (k := 32) c1
    have b1 : (m / 4294967296) < 4294967296 := by omega
    by_cases c2 : 65536 ≤ (m / 4294967296)
    · have d2 : decide ((65536 : Int) ≤ (((m / 4294967296) : Nat) : Int)) = true := decide_eq_true (by omega)
      have g2 : blen (m / 4294967296) = 16 + blen ((m / 4294967296) / 65536) := blen_shift (k := 16) c2
      have b2 : ((m / 4294967296) / 65536) < 65536 := by omega
      by_cases c3 : 256 ≤ ((m / 4294967296) / 65536)
      · have d3 : decide ((256 : Int) ≤ ((((m / 4294967296) / 65536) : Nat) : Int)) = true := decide_eq_true (by omega)
        have g3 : blen ((m / 4294967296) / 65536) = 8 + blen (((m / 4294967296) / 65536) / 256) := blen_shift (k := 8) c3
        have b3 : (((m / 4294967296) / 65536) / 256) < 256 := by omega
        have hc : (((m / 4294967296) / 65536) / 256) < 256 := by omega
        have h8 := blen_8 hc
        have i8 : ixSA (.str Lib.len8tab) (.int .u8 (((((m / 4294967296) / 65536) / 256) : Nat) : Int)) = some (.int .u8 (blen (((m / 4294967296) / 65536) / 256))) := by have := ix_len8 (y := (((((m / 4294967296) / 65536) / 256) : Nat) : Int)) (by omega); rwa [Int.toNat_natCast] at this
        have em : (((((m / 4294967296) / 65536) / 256) : Nat) : Int) % 256 = (((((m / 4294967296) / 65536) / 256) : Nat) : Int) := by omega
        simp (disch := first | omega | simp only [*, go_sem, ↓reduceIte, dropK_eq]) only [x172b, go_sem, ↓reduceIte, dropK_eq, s1, s2, s3, d1, d2, d3, em, i8]
        refine Ends_plain rfl ?_
        congr 1
        rw [g1]
        rw [g2]
        rw [g3]
        omega
      · have d3 : decide ((256 : Int) ≤ ((((m / 4294967296) / 65536) : Nat) : Int)) = false := decide_eq_false (by omega)
        have hc : ((m / 4294967296) / 65536) < 256 := by omega
        have h8 := blen_8 hc
        have i8 : ixSA (.str Lib.len8tab) (.int .u8 ((((m / 4294967296) / 65536) : Nat) : Int)) = some (.int .u8 (blen ((m / 4294967296) / 65536))) := by have := ix_len8 (y := ((((m / 4294967296) / 65536) : Nat) : Int)) (by omega); rwa [Int.toNat_natCast] at this
        have em : ((((m / 4294967296) / 65536) : Nat) : Int) % 256 = ((((m / 4294967296) / 65536) : Nat) : Int) := by omega
        simp (disch := first | omega | simp only [*, go_sem, ↓reduceIte, dropK_eq]) only [x172b, go_sem, ↓reduceIte, dropK_eq, s1, s2, s3, d1, d2, d3, em, i8]
        refine Ends_plain rfl ?_
        congr 1
        rw [g1]
        rw [g2]
        omega
    · have d2 : decide ((65536 : Int) ≤ (((m / 4294967296) : Nat) : Int)) = false := decide_eq_false (by omega)
      by_cases c3 : 256 ≤ (m / 4294967296)
      · have d3 : decide ((256 : Int) ≤ (((m / 4294967296) : Nat) : Int)) = true := decide_eq_true (by omega)
        have g3 : blen (m / 4294967296) = 8 + blen ((m / 4294967296) / 256) := blen_shift (k := 8) c3
        have b3 : ((m / 4294967296) / 256) < 256 := by omega
        have hc : ((m / 4294967296) / 256) < 256 := by omega
        have h8 := blen_8 hc
        have i8 : ixSA (.str Lib.len8tab) (.int .u8 ((((m / 4294967296) / 256) : Nat) : Int)) = some (.int .u8 (blen ((m / 4294967296) / 256))) := by have := ix_len8 (y := ((((m / 4294967296) / 256) : Nat) : Int)) (by omega); rwa [Int.toNat_natCast] at this
        have em : ((((m / 4294967296) / 256) : Nat) : Int) % 256 = ((((m / 4294967296) / 256) : Nat) : Int) := by omega
        simp (disch := first | omega | simp only [*, go_sem, ↓reduceIte, dropK_eq]) only [x172b, go_sem, ↓reduceIte, dropK_eq, s1, s2, s3, d1, d2, d3, em, i8]
        refine Ends_plain rfl ?_
        congr 1
        rw [g1]
        rw [g3]
        omega
      · have d3 : decide ((256 : Int) ≤ (((m / 4294967296) : Nat) : Int)) = false := decide_eq_false (by omega)
        have hc : (m / 4294967296) < 256 := by omega
        have h8 := blen_8 hc
        have i8 : ixSA (.str Lib.len8tab) (.int .u8 (((m / 4294967296) : Nat) : Int)) = some (.int .u8 (blen (m / 4294967296))) := by have := ix_len8 (y := (((m / 4294967296) : Nat) : Int)) (by omega); rwa [Int.toNat_natCast] at this
        have em : (((m / 4294967296) : Nat) : Int) % 256 = (((m / 4294967296) : Nat) : Int) := by omega
        simp (disch := first | omega | simp only [*, go_sem, ↓reduceIte, dropK_eq]) only [x172b, go_sem, ↓reduceIte, dropK_eq, s1, s2, s3, d1, d2, d3, em, i8]
        refine Ends_plain rfl ?_
        congr 1
        rw [g1]
        omega
  · have d1 : decide ((4294967296 : Int) ≤ ((m : Nat) : Int)) = false := decide_eq_false (by omega)
    by_cases c2 : 65536 ≤ m
    · have d2 : decide ((65536 : Int) ≤ ((m : Nat) : Int)) = true := decide_eq_true (by omega)
      have g2 : blen m = 16 + blen (m / 65536) := blen_shift (k := 16) c2
      have b2 : (m / 65536) < 65536 := by omega
      by_cases c3 : 256 ≤ (m / 65536)
      · have d3 : decide ((256 : Int) ≤ (((m / 65536) : Nat) : Int)) = true := decide_eq_true (by omega)
        have g3 : blen (m / 65536) = 8 + blen ((m / 65536) / 256) := blen_shift (k := 8) c3
        have b3 : ((m / 65536) / 256) < 256 := by omega
        have hc : ((m / 65536) / 256) < 256 := by omega
        have h8 := blen_8 hc
        have i8 : ixSA (.str Lib.len8tab) (.int .u8 ((((m / 65536) / 256) : Nat) : Int)) = some (.int .u8 (blen ((m / 65536) / 256))) := by have := ix_len8 (y := ((((m / 65536) / 256) : Nat) : Int)) (by omega); rwa [Int.toNat_natCast] at this
        have em : ((((m / 65536) / 256) : Nat) : Int) % 256 = ((((m / 65536) / 256) : Nat) : Int) := by omega
        simp (disch := first | omega | simp only [*, go_sem, ↓reduceIte, dropK_eq]) only [x172b, go_sem, ↓reduceIte, dropK_eq, s1, s2, s3, d1, d2, d3, em, i8]
        refine Ends_plain rfl ?_
        congr 1
        rw [g2]
        rw [g3]
        omega
      · have d3 : decide ((256 : Int) ≤ (((m / 65536) : Nat) : Int)) = false := decide_eq_false (by omega)
        have hc : (m / 65536) < 256 := by omega
        have h8 := blen_8 hc
        have i8 : ixSA (.str Lib.len8tab) (.int .u8 (((m / 65536) : Nat) : Int)) = some (.int .u8 (blen (m / 65536))) := by have := ix_len8 (y := (((m / 65536) : Nat) : Int)) (by omega); rwa [Int.toNat_natCast] at this
        have em : (((m / 65536) : Nat) : Int) % 256 = (((m / 65536) : Nat) : Int) := by omega
        simp (disch := first | omega | simp only [*, go_sem, ↓reduceIte, dropK_eq]) only [x172b, go_sem, ↓reduceIte, dropK_eq, s1, s2, s3, d1, d2, d3, em, i8]
        refine Ends_plain rfl ?_
        congr 1
        rw [g2]
        omega
    · have d2 : decide ((65536 : Int) ≤ ((m : Nat) : Int)) = false := decide_eq_false (by omega)
      by_cases c3 : 256 ≤ m
      · have d3 : decide ((256 : Int) ≤ ((m : Nat) : Int)) = true := decide_eq_true (by omega)
        have g3 : blen m = 8 + blen (m / 256) := blen_shift (k := 8) c3
        have b3 : (m / 256) < 256 := by omega
        have hc : (m / 256) < 256 := by omega
        have h8 := blen_8 hc
        have i8 : ixSA (.str Lib.len8tab) (.int .u8 (((m / 256) : Nat) : Int)) = some (.int .u8 (blen (m / 256))) := by have := ix_len8 (y := (((m / 256) : Nat) : Int)) (by omega); rwa [Int.toNat_natCast] at this
        have em : (((m / 256) : Nat) : Int) % 256 = (((m / 256) : Nat) : Int) := by omega
        simp (disch := first | omega | simp only [*, go_sem, ↓reduceIte, dropK_eq]) only [x172b, go_sem, ↓reduceIte, dropK_eq, s1, s2, s3, d1, d2, d3, em, i8]
        refine Ends_plain rfl ?_
        congr 1
        rw [g3]
        omega
      · have d3 : decide ((256 : Int) ≤ ((m : Nat) : Int)) = false := decide_eq_false (by omega)
        have hc : m < 256 := by omega
        have h8 := blen_8 hc
        have i8 : ixSA (.str Lib.len8tab) (.int .u8 ((m : Nat) : Int)) = some (.int .u8 (blen m)) := by have := ix_len8 (y := ((m : Nat) : Int)) (by omega); rwa [Int.toNat_natCast] at this
        have em : ((m : Nat) : Int) % 256 = ((m : Nat) : Int) := by omega
        simp (disch := first | omega | simp only [*, go_sem, ↓reduceIte, dropK_eq]) only [x172b, go_sem, ↓reduceIte, dropK_eq, s1, s2, s3, d1, d2, d3, em, i8]
        refine Ends_plain rfl ?_
        congr 1
        omega
set_option maxRecDepth 10000
theorem or_ones {m : Nat} (h : m < 2 ^ 32) : 2 ^ 32 - 1 ||| m = 2 ^ 32 - 1 := by
  apply Nat.eq_of_testBit_eq
  intro i
  rw [Nat.testBit_or, Nat.testBit_two_pow_sub_one]
  by_cases hi : i < 32
  · simp [hi]
  · have : m.testBit i = false := Nat.testBit_lt_two_pow (Nat.lt_of_lt_of_le h (Nat.pow_le_pow_right (by decide) (by omega)))
    simp [hi, this]
theorem binA_or32 {y : Int} (h : 0 ≤ y ∧ y < 4294967296) : binA .or (.int .u64 4294967295) (.int .u64 y) = some (.int .u64 4294967295) := by
  obtain ⟨m, rfl⟩ : ∃ m : Nat, y = m := ⟨y.toNat, by omega⟩
  have e1 : (BitVec.ofInt 64 4294967295 ||| BitVec.ofInt 64 (m : Int)).toNat = 4294967295 := by
    rw [BitVec.toNat_or]
    have e2 : (BitVec.ofInt 64 4294967295).toNat = 2 ^ 32 - 1 := by decide
    have e3 : (BitVec.ofInt 64 (m : Int)).toNat = m := by
      rw [BitVec.toNat_ofInt]
      omega
    rw [e2, e3]
    exact or_ones (by omega)
  simp only [binA, isShift, intBin, Bool.false_eq_true, if_false, if_true]
  rw [show (BitVec.ofInt IntKind.u64.bits 4294967295 ||| BitVec.ofInt IntKind.u64.bits (m : Int)).toNat = 4294967295 from e1]
  rfl
theorem callX_caps {C : Cfg} {inl : Inl} {g : FuncId} {F : List AVal → Option AVal} {fs cs xs : List AVal} {hp : Heap} {nc : Nat} (hg : C.Γ g = some F) :
    callX C inl (.fn (.func g) fs cs) xs hp nc = (lendXL 64 (fs ++ xs ++ cs) hp).bind fun r => (F r.1).map fun v => (v, dropK v r.2 hp, nc) := by
  have h := callX_names (C := C) (inl := inl) (g := g) (F := F) (xs := fs ++ xs ++ cs) (hp := hp) (nc := nc) hg
  rw [← h]
  simp only [callX, target, List.nil_append, List.append_nil]
def isq : Nat → Nat
  | 0 => 0
  | n + 1 => if (isq n + 1) * (isq n + 1) ≤ n + 1 then isq n + 1 else isq n
theorem isq_spec : ∀ n, isq n * isq n ≤ n ∧ n < (isq n + 1) * (isq n + 1)
  | 0 => by decide
  | n + 1 => by
    have ih := isq_spec n
    rw [isq]
    split
    · rename_i h
      refine ⟨h, ?_⟩
      have : (isq n + 1 + 1) * (isq n + 1 + 1) = (isq n + 1) * (isq n + 1) + 2 * isq n + 3 := by
        simp only [Nat.add_mul, Nat.mul_add]; omega
      omega
    · rename_i h
      exact ⟨by omega, by omega⟩
theorem isq_un {n r : Nat} (h1 : r * r ≤ n) (h2 : n < (r + 1) * (r + 1)) : isq n = r := by
  obtain ⟨h3, h4⟩ := isq_spec n
  rcases Nat.lt_trichotomy (isq n) r with h | h | h
  · have := Nat.mul_le_mul (show isq n + 1 ≤ r by omega) (show isq n + 1 ≤ r by omega)
    omega
  · exact h
  · have := Nat.mul_le_mul (show r + 1 ≤ isq n by omega) (show r + 1 ≤ isq n by omega)
    omega
theorem isq_int {v r : Int} (h0 : 0 ≤ r) (h1 : r * r ≤ v) (h2 : v < (r + 1) * (r + 1)) : ((isq v.toNat : Nat) : Int) = r := by
  obtain ⟨k, rfl⟩ : ∃ k : Nat, r = k := ⟨r.toNat, by omega⟩
  have hk : 0 ≤ (k : Int) * k := Int.mul_nonneg h0 h0
  obtain ⟨n, rfl⟩ : ∃ n : Nat, v = n := ⟨v.toNat, by omega⟩
  rw [Int.toNat_natCast]
  congr 1
  refine isq_un ?_ ?_
  · exact_mod_cast h1
  · exact_mod_cast h2
noncomputable def C5 : Cfg := C4.add 172 F172
theorem ok5 : CfgOk Tryz.prog C5 := ok4.add sound172
noncomputable def F231 : List AVal → Option AVal := pureF C5 1 231
theorem sound231 : Sound Tryz.prog 231 F231 := sound_self ok5 1 231
theorem F231_eq {h l : Int} (h1 : U h) (h2 : U l) : F231 [W h l] = some (.int .u64 (isq (val h l).toNat)) := by
  have hv : 0 ≤ val h l ∧ val h l < big := by simp only [val, big, U] at *; omega
  have e172 := F172_eq h1
  have eb : blen h.toNat = 0 ↔ h = 0 := by
    constructor
    · intro e
      refine Classical.byContradiction fun hn => ?_
      have := blen_of (n := h.toNat) (by have := h1.1; omega)
      omega
    · rintro rfl; rfl
  unfold F231
  refine pureF_of (x := x231) rfl rfl ?_
  rw [x231_eq.1, x231_eq.2.1]
  by_cases hh : h = 0
  · have d : decide ((blen h.toNat : Int) = 0) = true := decide_eq_true (by omega)
    have o32 : binA .or (.int .u64 4294967295) (.int .u64 (l / 4294967296)) = some (.int .u64 4294967295) := binA_or32 (by have := h2.1; have := h2.2; omega)
    simp (disch := first | omega | simp only [*, go_sem, ↓reduceIte, dropK_eq]) only [x231b, go_sem, ↓reduceIte, dropK_eq, callX_known (C := C5) (g := 172) rfl, ft_call (C := C5) (g := 172) rfl, e172, d, o32]
    refine Ev_loopW (I := fun n tm hp nc => ∃ lo hi : Int, 0 ≤ lo ∧ lo ≤ hi ∧ hi ≤ 18446744073709551615 ∧ hi - lo < 2 ^ n ∧ lo * lo ≤ val h l ∧ val h l < (hi + 1) * (hi + 1) ∧ tm 4 = .int .u64 lo ∧ tm 5 = .int .u64 hi ∧ hp (231000000, 0) = some (.var [.int .u64 h, .int .u64 l])) (n := 64) ?_ (by decide) ?_
    · refine ⟨0, 4294967295, by decide, by decide, by decide, by decide, by omega, ?_, ?_, ?_, ?_⟩
      · simp only [val, big, U] at *; omega
      · simp only [go_sem, ↓reduceIte, dropK_eq]
      · simp only [go_sem, ↓reduceIte, dropK_eq]
      · simp only [go_sem, ↓reduceIte, dropK_eq]
    · rintro n tm hp nc hc ⟨lo, hi, g0, g1, g2, g3, g4, g5, k4, k5, hv1⟩
      have k3 := hc 3 rfl; simp only [go_sem, ↓reduceIte, dropK_eq] at k3
      by_cases he : lo = hi
      · subst he
        have d1 : decide (lo = lo) = true := decide_eq_true rfl
        have er := isq_int g0 g4 g5
        simp (disch := first | omega | simp only [*, go_sem, ↓reduceIte, dropK_eq]) only [x231l6, go_sem, ↓reduceIte, dropK_eq, k3, k4, k5, d1]
        rw [er]
        exact Ends_plain rfl rfl
      · have d1 : decide (lo = hi) = false := decide_eq_false he
        have hq : (hi - lo).tdiv 2 = (hi - lo) / 2 := Int.tdiv_eq_ediv_of_nonneg (by omega)
        have w1 : (hi - lo) % 18446744073709551616 = hi - lo := by omega
        have w2 : (hi - lo) / 2 % 18446744073709551616 = (hi - lo) / 2 := by omega
        have w3 : (hi - (hi - lo) / 2) % 18446744073709551616 = hi - (hi - lo) / 2 := by omega
        obtain ⟨m, hm⟩ : ∃ m, hi - (hi - lo) / 2 = m := ⟨_, rfl⟩
        rw [hm] at w3
        have m1 : lo < m ∧ m ≤ hi := by omega
        have hmU : U m := by simp only [U]; omega
        have e241 := F241_eq (x := m) (h := h) (l := l) hmU h2
        cases n with
        | zero => simp at g3; omega
        | succ n =>
          have g3' : hi - lo < 2 * 2 ^ n := by rw [Int.pow_succ] at g3; omega
          by_cases hb : m * m ≤ val h l
          · rw [decide_eq_true hb] at e241
            simp (disch := first | omega | simp only [*, go_sem, ↓reduceIte, dropK_eq]) only [x231l6, go_sem, ↓reduceIte, dropK_eq, k3, k4, k5, d1, w1, hq, w2, hm, w3, hv1, callX_caps (C := C5) (g := 241) rfl, List.nil_append, List.cons_append, e241]
            exact ⟨n, by omega, m, hi, by omega, by omega, by omega, by omega, hb, g5, rfl, rfl⟩
          · rw [decide_eq_false hb] at e241
            simp (disch := first | omega | simp only [*, go_sem, ↓reduceIte, dropK_eq]) only [x231l6, go_sem, ↓reduceIte, dropK_eq, k3, k4, k5, d1, w1, hq, w2, hm, w3, hv1, callX_caps (C := C5) (g := 241) rfl, List.nil_append, List.cons_append, e241]
            exact ⟨n, by omega, lo, m - 1, g0, by omega, by omega, by omega, g4, by rw [show m - 1 + 1 = m by omega]; omega, rfl, by rw [show (m - 1) % 18446744073709551616 = m - 1 by omega]⟩
  · have d : decide ((blen h.toNat : Int) = 0) = false := decide_eq_false (by omega)
    simp (disch := first | omega | simp only [*, go_sem, ↓reduceIte, dropK_eq]) only [x231b, go_sem, ↓reduceIte, dropK_eq, callX_known (C := C5) (g := 172) rfl, ft_call (C := C5) (g := 172) rfl, e172, d]
    refine Ev_loopW (I := fun n tm hp nc => ∃ lo hi : Int, 0 ≤ lo ∧ lo ≤ hi ∧ hi ≤ 18446744073709551615 ∧ hi - lo < 2 ^ n ∧ lo * lo ≤ val h l ∧ val h l < (hi + 1) * (hi + 1) ∧ tm 4 = .int .u64 lo ∧ tm 5 = .int .u64 hi ∧ hp (231000000, 0) = some (.var [.int .u64 h, .int .u64 l])) (n := 64) ?_ (by decide) ?_
    · refine ⟨0, 18446744073709551615, by decide, by decide, by decide, by decide, by omega, ?_, ?_, ?_, ?_⟩
      · simp only [val, big, U] at *; omega
      · simp only [go_sem, ↓reduceIte, dropK_eq]
      · simp only [go_sem, ↓reduceIte, dropK_eq]
      · simp only [go_sem, ↓reduceIte, dropK_eq]
    · rintro n tm hp nc hc ⟨lo, hi, g0, g1, g2, g3, g4, g5, k4, k5, hv1⟩
      have k3 := hc 3 rfl; simp only [go_sem, ↓reduceIte, dropK_eq] at k3
      by_cases he : lo = hi
      · subst he
        have d1 : decide (lo = lo) = true := decide_eq_true rfl
        have er := isq_int g0 g4 g5
        simp (disch := first | omega | simp only [*, go_sem, ↓reduceIte, dropK_eq]) only [x231l6, go_sem, ↓reduceIte, dropK_eq, k3, k4, k5, d1]
        rw [er]
        exact Ends_plain rfl rfl
      · have d1 : decide (lo = hi) = false := decide_eq_false he
        have hq : (hi - lo).tdiv 2 = (hi - lo) / 2 := Int.tdiv_eq_ediv_of_nonneg (by omega)
        have w1 : (hi - lo) % 18446744073709551616 = hi - lo := by omega
        have w2 : (hi - lo) / 2 % 18446744073709551616 = (hi - lo) / 2 := by omega
        have w3 : (hi - (hi - lo) / 2) % 18446744073709551616 = hi - (hi - lo) / 2 := by omega
        obtain ⟨m, hm⟩ : ∃ m, hi - (hi - lo) / 2 = m := ⟨_, rfl⟩
        rw [hm] at w3
        have m1 : lo < m ∧ m ≤ hi := by omega
        have hmU : U m := by simp only [U]; omega
        have e241 := F241_eq (x := m) (h := h) (l := l) hmU h2
        cases n with
        | zero => simp at g3; omega
        | succ n =>
          have g3' : hi - lo < 2 * 2 ^ n := by rw [Int.pow_succ] at g3; omega
          by_cases hb : m * m ≤ val h l
          · rw [decide_eq_true hb] at e241
            simp (disch := first | omega | simp only [*, go_sem, ↓reduceIte, dropK_eq]) only [x231l6, go_sem, ↓reduceIte, dropK_eq, k3, k4, k5, d1, w1, hq, w2, hm, w3, hv1, callX_caps (C := C5) (g := 241) rfl, List.nil_append, List.cons_append, e241]
            exact ⟨n, by omega, m, hi, by omega, by omega, by omega, by omega, hb, g5, rfl, rfl⟩
          · rw [decide_eq_false hb] at e241
            simp (disch := first | omega | simp only [*, go_sem, ↓reduceIte, dropK_eq]) only [x231l6, go_sem, ↓reduceIte, dropK_eq, k3, k4, k5, d1, w1, hq, w2, hm, w3, hv1, callX_caps (C := C5) (g := 241) rfl, List.nil_append, List.cons_append, e241]
            exact ⟨n, by omega, lo, m - 1, g0, by omega, by omega, by omega, g4, by rw [show m - 1 + 1 = m by omega]; omega, rfl, by rw [show (m - 1) % 18446744073709551616 = m - 1 by omega]⟩
set_option maxRecDepth 10000
noncomputable def C6 : Cfg := C5.add 231 F231
theorem ok6 : CfgOk Tryz.prog C6 := ok5.add sound231
abbrev isqI (v : Int) : Int := (isq v.toNat : Nat)
theorem isqI_spec {v : Int} (h : 0 ≤ v) : 0 ≤ isqI v ∧ isqI v * isqI v ≤ v ∧ v < (isqI v + 1) * (isqI v + 1) := by
  obtain ⟨n, rfl⟩ : ∃ n : Nat, v = n := ⟨v.toNat, by omega⟩
  obtain ⟨h1, h2⟩ := isq_spec n
  simp only [isqI, Int.toNat_natCast]
  refine ⟨by omega, ?_, ?_⟩
  · exact_mod_cast h1
  · exact_mod_cast h2
theorem isqI_u {v : Int} (h : 0 ≤ v ∧ v < big) : U (isqI v) := by
  obtain ⟨h0, h1, h2⟩ := isqI_spec h.1
  refine ⟨h0, ?_⟩
  refine Int.not_le.1 fun hc => ?_
  have := Int.mul_le_mul hc hc (by decide) h0
  simp only [big] at h
  omega
theorem val_bnd {h l : Int} (h1 : U h) (h2 : U l) : 0 ≤ val h l ∧ val h l < big := by simp only [val, big, U] at *; omega
theorem pair_eq {h l : Int} (hl : U l) (q : Int) : (q / 18446744073709551616 = h ∧ q % 18446744073709551616 = l) ↔ q = val h l := by
  simp only [U] at hl
  simp only [val]
  omega
noncomputable def F242 : List AVal → Option AVal := pureF C6 1 242
theorem sound242 : Sound Tryz.prog 242 F242 := sound_self ok6 1 242
theorem F242_eq {h l : Int} (h1 : U h) (h2 : U l) : F242 [W h l] = some (.bool (decide (isqI (val h l) * isqI (val h l) = val h l))) := by
  have e231 := F231_eq h1 h2
  have hu := isqI_u (val_bnd h1 h2)
  have e55 := F55_eq hu hu
  have hv := val_bnd h1 h2
  have hs := isqI_spec hv.1
  simp only [enc] at e55
  unfold F242
  refine pureF_of (x := x242) rfl rfl ?_
  rw [x242_eq.1, x242_eq.2.1]
  simp (disch := first | omega | simp only [go_sem, ↓reduceIte, dropK_eq]) only [x242b, go_sem, ↓reduceIte, dropK_eq, callX_known (C := C6) (g := 55) rfl, ft_call (C := C6) (g := 55) rfl, callX_known (C := C6) (g := 231) rfl, ft_call (C := C6) (g := 231) rfl, e231, e55, eqAA_agg, eqCells_cons, eqCells_nil]
  refine Ends_plain rfl ?_
  refine congrArg AVal.bool ?_
  rw [← Bool.decide_and]
  refine decide_eq_decide.2 ?_
  exact pair_eq h2 _
noncomputable def C7 : Cfg := C6.add 242 F242
theorem ok7 : CfgOk Tryz.prog C7 := ok6.add sound242
def upI (v : Int) : Int := if isqI v * isqI v = v then isqI v else isqI v + 1
theorem upI_spec {v : Int} (h : 0 ≤ v) : isqI v ≤ upI v ∧ v ≤ upI v * upI v := by
  obtain ⟨h0, h1, h2⟩ := isqI_spec h
  unfold upI
  split
  · omega
  · omega
noncomputable def F232 : List AVal → Option AVal := pureF C7 1 232
theorem sound232 : Sound Tryz.prog 232 F232 := sound_self ok7 1 232
theorem F232_eq {h l : Int} (h1 : U h) (h2 : U l) : F232 [W h l] = some (enc (upI (val h l))) := by
  have e231 := F231_eq h1 h2
  have hv := val_bnd h1 h2
  have hu := isqI_u hv
  have e242 := F242_eq h1 h2
  have e243 := F243_eq (ah := 0) (al := isqI (val h l)) (bh := 0) (bl := 1) (by decide) hu (by decide) (by decide)
  have hs := isqI_spec hv.1
  unfold F232 upI
  refine pureF_of (x := x232) rfl rfl ?_
  rw [x232_eq.1, x232_eq.2.1]
  by_cases hq : isqI (val h l) * isqI (val h l) = val h l
  · rw [decide_eq_true hq] at e242
    rw [if_pos hq]
    simp (disch := first | omega | simp only [go_sem, ↓reduceIte, dropK_eq]) only [x232b, go_sem, ↓reduceIte, dropK_eq, callX_known (C := C7) (g := 231) rfl, ft_call (C := C7) (g := 231) rfl, callX_known (C := C7) (g := 242) rfl, ft_call (C := C7) (g := 242) rfl, callX_known (C := C7) (g := 243) rfl, ft_call (C := C7) (g := 243) rfl, e231, e242]
    refine Ends_plain rfl ?_
    simp only [U] at hu
    simp only [enc]
    rw [show isqI (val h l) / 18446744073709551616 = 0 by omega, show isqI (val h l) % 18446744073709551616 = isqI (val h l) by omega]
  · rw [decide_eq_false hq] at e242
    rw [if_neg hq]
    simp only [enc] at e243
    simp (disch := first | omega | simp only [go_sem, ↓reduceIte, dropK_eq]) only [x232b, go_sem, ↓reduceIte, dropK_eq, callX_known (C := C7) (g := 231) rfl, ft_call (C := C7) (g := 231) rfl, callX_known (C := C7) (g := 242) rfl, ft_call (C := C7) (g := 242) rfl, callX_known (C := C7) (g := 243) rfl, ft_call (C := C7) (g := 243) rfl, e231, e242, e243]
    refine Ends_plain rfl ?_
    have e : (val 0 (isqI (val h l)) + val 0 1) % big = isqI (val h l) + 1 := by
      have := hu
      simp only [U] at this
      clear e231 e242 e243 hv hs hu hq
      generalize isqI (val h l) = r at *
      simp only [val, big]
      omega
    rw [e]
set_option maxRecDepth 10000
theorem enc_u {n : Int} : U (n % big / 18446744073709551616) ∧ U (n % big % 18446744073709551616) := by
  simp only [U, big]
  omega
noncomputable def F99 : List AVal → Option AVal := pureF C3 1 99
theorem sound99 : Sound Tryz.prog 99 F99 := sound_self ok3 1 99
theorem F99_eq {k vh vl sh sl : Int} (hk : 0 ≤ k ∧ k ≤ 3) (h1 : U vh) (h2 : U vl) (h3 : U sl) :
    F99 [.int .u64 k, .pvo [.int .u64 vh, .int .u64 vl] 0, .pvo [.int .u64 sh, .int .u64 sl] 0] = some (.bool (decide (k * k * val vh vl % big < val sh sl))) := by
  have hkk : 0 ≤ k * k ∧ k * k ≤ 3 * 3 := mul_bound hk.1 hk.2 hk.1 hk.2
  have w1 : k * k % 18446744073709551616 = k * k := by omega
  have e100 := F100_eq (ah := 0) (al := k * k) (bh := vh) (bl := vl) (by decide) (by simp only [U]; omega) h1 h2
  rw [show val 0 (k * k) = k * k by simp only [val]; omega] at e100
  generalize hn : k * k * val vh vl = n at *
  have e101 := F101_eq (ah := n % big / 18446744073709551616) (al := n % big % 18446744073709551616) (bh := sh) (bl := sl) (enc_u (n := n)).2 h3
  rw [val_enc] at e101
  simp only [enc] at e100
  unfold F99
  refine pureF_of (x := x99) rfl rfl ?_
  rw [x99_eq.1, x99_eq.2.1]
  simp (disch := first | omega | simp only [go_sem, ↓reduceIte, dropK_eq]) only [x99b, go_sem, ↓reduceIte, dropK_eq, callX_known (C := C3) (g := 100) rfl, ft_call (C := C3) (g := 100) rfl, callX_known (C := C3) (g := 101) rfl, ft_call (C := C3) (g := 101) rfl, w1, e100, e101]
  exact Ends_plain rfl rfl
noncomputable def C8 : Cfg := C7.add 99 F99
theorem ok8 : CfgOk Tryz.prog C8 := ok7.add sound99
abbrev b01 (b : Bool) : Int := if b then 1 else 0
def clsI (dev v : Int) : Int :=
  let n := 1 + b01 (decide (v < dev * dev)) + b01 (decide (4 * v < dev * dev)) + b01 (decide (9 * v < dev * dev))
  if dev = 0 then 0 else if dev < 0 then -n else n
noncomputable def F58 : List AVal → Option AVal := pureF C8 1 58
theorem sound58 : Sound Tryz.prog 58 F58 := sound_self ok8 1 58
theorem F58_eq {dev vh vl : Int} (hd : -9223372036854775808 ≤ dev ∧ dev ≤ 9223372036854775807) (h1 : 0 ≤ vh ∧ vh < 1152921504606846976) (h2 : U vl) : F58 [.int .i64 dev, W vh vl] = some (.int .i64 (clsI dev (val vh vl))) := by
  have e98 := F98_eq hd
  have hq : U (dev.natAbs : Int) := by simp only [U]; omega
  have e55 := F55_eq hq hq
  have hsq : ((dev.natAbs : Int)) * (dev.natAbs : Int) = dev * dev := Int.natAbs_mul_self' dev
  rw [hsq] at e55
  have hv : 0 ≤ val vh vl ∧ val vh vl < 21267647932558653966460912964485513216 := by simp only [val, U] at *; omega
  have hvh : U vh := by simp only [U]; omega
  have g1 := F99_eq (k := 1) (sh := dev * dev / 18446744073709551616) (sl := dev * dev % 18446744073709551616) (by decide) hvh h2 (by simp only [U]; omega)
  have g2 := F99_eq (k := 2) (sh := dev * dev / 18446744073709551616) (sl := dev * dev % 18446744073709551616) (by decide) hvh h2 (by simp only [U]; omega)
  have g3 := F99_eq (k := 3) (sh := dev * dev / 18446744073709551616) (sl := dev * dev % 18446744073709551616) (by decide) hvh h2 (by simp only [U]; omega)
  rw [val_enc] at g1 g2 g3
  have m1 : (1 : Int) * 1 * val vh vl % big = val vh vl := by simp only [big]; omega
  have m2 : (2 : Int) * 2 * val vh vl % big = 4 * val vh vl := by simp only [big]; omega
  have m3 : (3 : Int) * 3 * val vh vl % big = 9 * val vh vl := by simp only [big]; omega
  rw [m1] at g1
  rw [m2] at g2
  rw [m3] at g3
  clear hsq hq m1 m2 m3
  simp only [enc] at e55
  unfold F58 clsI
  generalize val vh vl = v at *
  generalize hs : dev * dev = s at *
  clear hs
  refine pureF_of (x := x58) rfl rfl ?_
  rw [x58_eq.1, x58_eq.2.1]
  generalize decide (v < s) = b1 at *
  generalize decide (4 * v < s) = b2 at *
  generalize decide (9 * v < s) = b3 at *
  have hdd : dev = 0 ∨ (¬ dev = 0 ∧ dev < 0) ∨ (¬ dev = 0 ∧ ¬ dev < 0) := by omega
  rcases hdd with hz | ⟨hz, hn⟩ | ⟨hz, hn⟩
  · have dz : decide (dev = 0) = true := decide_eq_true hz
    rw [if_pos hz]
    clear hz
    cases b1 <;> cases b2 <;> cases b3 <;>
      (simp (disch := first | omega | simp only [go_sem, ↓reduceIte, dropK_eq]) only [x58b, x58l5, go_sem, ↓reduceIte, dropK_eq, callX_known (C := C8) (g := 98) rfl, ft_call (C := C8) (g := 98) rfl, callX_known (C := C8) (g := 55) rfl, ft_call (C := C8) (g := 55) rfl, e98, e55, ↓Ev_loop, ↓EvN_step, callX_caps (C := C8) (g := 99) rfl, List.nil_append, List.cons_append, g1, g2, g3, dz]; exact Ends_plain rfl rfl)
  · have dz : decide (dev = 0) = false := decide_eq_false hz
    have dn : decide (dev < 0) = true := decide_eq_true hn
    rw [if_neg hz, if_pos hn]
    cases b1 <;> cases b2 <;> cases b3 <;>
      (simp (disch := first | omega | simp only [go_sem, ↓reduceIte, dropK_eq]) only [x58b, x58l5, go_sem, ↓reduceIte, dropK_eq, callX_known (C := C8) (g := 98) rfl, ft_call (C := C8) (g := 98) rfl, callX_known (C := C8) (g := 55) rfl, ft_call (C := C8) (g := 55) rfl, e98, e55, ↓Ev_loop, ↓EvN_step, callX_caps (C := C8) (g := 99) rfl, List.nil_append, List.cons_append, g1, g2, g3, dz, dn]; exact Ends_plain rfl rfl)
  · have dz : decide (dev = 0) = false := decide_eq_false hz
    have dn : decide (dev < 0) = false := decide_eq_false hn
    rw [if_neg hz, if_neg hn]
    cases b1 <;> cases b2 <;> cases b3 <;>
      (simp (disch := first | omega | simp only [go_sem, ↓reduceIte, dropK_eq]) only [x58b, x58l5, go_sem, ↓reduceIte, dropK_eq, callX_known (C := C8) (g := 98) rfl, ft_call (C := C8) (g := 98) rfl, callX_known (C := C8) (g := 55) rfl, ft_call (C := C8) (g := 55) rfl, e98, e55, ↓Ev_loop, ↓EvN_step, callX_caps (C := C8) (g := 99) rfl, List.nil_append, List.cons_append, g1, g2, g3, dz, dn]; exact Ends_plain rfl rfl)
end Go.Proofs.YtldineoabbodpaaGreatDoor
namespace Go.Proofs.YtldineoabbodpaaGreatDoor
open Go Go.Xec
theorem b01_rng (b : Bool) : 0 ≤ b01 b ∧ b01 b ≤ 1 := by cases b <;> decide
theorem b01_mono {p q : Prop} [Decidable p] [Decidable q] (h : p → q) : b01 (decide p) ≤ b01 (decide q) := by
  by_cases hp : p
  · rw [decide_eq_true hp, decide_eq_true (h hp)]
    exact Int.le_refl _
  · rw [decide_eq_false hp]
    exact (b01_rng _).1
def nI (dev v : Int) : Int := 1 + b01 (decide (v < dev * dev)) + b01 (decide (4 * v < dev * dev)) + b01 (decide (9 * v < dev * dev))
theorem nI_rng (dev v : Int) : 1 ≤ nI dev v ∧ nI dev v ≤ 4 := by
  have h1 := b01_rng (decide (v < dev * dev))
  have h2 := b01_rng (decide (4 * v < dev * dev))
  have h3 := b01_rng (decide (9 * v < dev * dev))
  unfold nI
  omega
theorem nI_mono {a b v : Int} (h : a * a ≤ b * b) : nI a v ≤ nI b v := by
  have h1 := b01_mono (p := v < a * a) (q := v < b * b) (by omega)
  have h2 := b01_mono (p := 4 * v < a * a) (q := 4 * v < b * b) (by omega)
  have h3 := b01_mono (p := 9 * v < a * a) (q := 9 * v < b * b) (by omega)
  unfold nI
  omega
theorem clsI_eq (dev v : Int) : clsI dev v = if dev = 0 then 0 else if dev < 0 then -nI dev v else nI dev v := rfl
theorem clsI_rng (dev v : Int) : -4 ≤ clsI dev v ∧ clsI dev v ≤ 4 := by
  have := nI_rng dev v
  rw [clsI_eq]
  split
  · omega
  · split <;> omega
theorem clsI_mono {a b v : Int} (h : a ≤ b) : clsI a v ≤ clsI b v := by
  have ha := nI_rng a v
  have hb := nI_rng b v
  rw [clsI_eq, clsI_eq]
  by_cases h0 : 0 < a
  · have h1 : a * a ≤ b * b := Int.mul_le_mul h h (by omega) (by omega)
    have := nI_mono (v := v) h1
    rw [if_neg (by omega), if_neg (by omega), if_neg (by omega), if_neg (by omega)]
    exact this
  · by_cases h1 : b < 0
    · have h2 : -b * -b ≤ -a * -a := Int.mul_le_mul (by omega) (by omega) (by omega) (by omega)
      rw [Int.neg_mul_neg, Int.neg_mul_neg] at h2
      have := nI_mono (v := v) h2
      rw [if_neg (by omega), if_pos (by omega), if_neg (by omega), if_pos (by omega)]
      omega
    · split
      · split
        · omega
        · omega
      · rw [if_pos (by omega)]
        split
        · omega
        · omega
end Go.Proofs.YtldineoabbodpaaGreatDoor
namespace Go.Proofs.YtldineoabbodpaaGreatDoor
open Go Go.Xec
attribute [local go_sem] tm0 ne_eq not_false_eq_true List.length_append List.length_replicate List.replicate_succ List.replicate_zero Int.cast_ofNat_Int not_true_eq_false decide_true decide_false ite_self beq_self_eq_true Bool.true_beq Bool.false_beq Bool.not_true Bool.not_false
attribute [local go_sem_proc] Nat.reduceAdd Nat.reduceMul Nat.reduceSub Nat.reduceLeDiff Nat.reduceLT Nat.reduceEqDiff Int.reduceLT Int.reduceLE Int.reduceAdd Int.reduceSub Int.reduceMul Int.reduceToNat Int.reducePow Int.reduceNe Int.reduceMod Int.reduceDiv Int.reduceEq Nat.reducePow Int.reduceNeg
set_option maxRecDepth 10000
theorem binA_shl_i {a b c : Int} (h0 : 0 ≤ b ∧ b < 64) (hc : a * 2 ^ b.toNat = c) (h2 : -9223372036854775808 ≤ c ∧ c ≤ 9223372036854775807) : binA .shl (.int .i64 a) (.int .i64 b) = some (.int .i64 c) := by
  have e : min b.toNat IntKind.i64.bits = b.toNat := by
    have : IntKind.i64.bits = 64 := rfl
    omega
  simp only [binA, isShift, if_true, shiftBin, if_neg (Int.not_lt.2 h0.1), e, hc]
  rw [wrap_i64 h2.1 (by omega)]
def maskI (a b : Int) : Int := (2 ^ (b - a + 1).toNat - 1) * 2 ^ (a + 4).toNat
theorem pow_rng {n : Nat} (h : n ≤ 9) : (1 : Int) ≤ 2 ^ n ∧ (2 : Int) ^ n ≤ 512 := by
  have h1 : 1 ≤ 2 ^ n := Nat.one_le_two_pow
  have h2 : 2 ^ n ≤ 2 ^ 9 := Nat.pow_le_pow_right (by decide) h
  constructor
  · exact_mod_cast h1
  · exact_mod_cast h2
theorem maskI_rng {a b : Int} (h1 : -4 ≤ a) (h2 : a ≤ b) (h3 : b ≤ 4) : 0 < maskI a b ∧ maskI a b < 512 := by
  have e : maskI a b = 2 ^ (b + 5).toNat - 2 ^ (a + 4).toNat := by
    unfold maskI
    rw [Int.sub_mul, Int.one_mul, ← Int.pow_add, show (b - a + 1).toNat + (a + 4).toNat = (b + 5).toNat by omega]
  have g1 := pow_rng (n := (b + 5).toNat) (by omega)
  have g2 := pow_rng (n := (a + 4).toNat) (by omega)
  have g3 : (2 : Int) ^ (a + 4).toNat < 2 ^ (b + 5).toNat := by
    have : 2 ^ (a + 4).toNat < 2 ^ (b + 5).toNat := Nat.pow_lt_pow_right (by decide) (by omega)
    exact_mod_cast this
  rw [e]
  omega
noncomputable def C9 : Cfg := C8.add 58 F58
theorem ok9 : CfgOk Tryz.prog C9 := ok8.add sound58
noncomputable def F236 : List AVal → Option AVal := pureF C9 1 236
theorem sound236 : Sound Tryz.prog 236 F236 := sound_self ok9 1 236
theorem F236_eq {lo hi vh vl : Int} (h : lo ≤ hi) (hl : -9223372036854775808 ≤ lo) (hh : hi ≤ 9223372036854775807) (h1 : 0 ≤ vh ∧ vh < 1152921504606846976) (h2 : U vl) :
    F236 [.agg [.int .i64 lo, .int .i64 hi], W vh vl, W vh vl] = some (.tup [.int .i64 (maskI (clsI lo (val vh vl)) (clsI hi (val vh vl))), .int .i64 0]) := by
  have hU : U vh := by simp only [U]; omega
  have e121 := F121_eq (l := lo) (h := hi)
  rw [decide_eq_true h] at e121
  have e101 := F101_eq (ah := vh) (al := vl) (bh := vh) (bl := vl) h2 h2
  rw [decide_eq_false (Int.lt_irrefl _)] at e101
  have a1 := F58_eq (dev := lo) ⟨hl, by omega⟩ h1 h2
  have a2 := F58_eq (dev := hi) ⟨by omega, hh⟩ h1 h2
  have r1 := clsI_rng lo (val vh vl)
  have r2 := clsI_rng hi (val vh vl)
  have hm := clsI_mono (v := val vh vl) h
  have dv : decide (1152921504606846976 ≤ vh) = false := decide_eq_false (by omega)
  generalize clsI lo (val vh vl) = a at *
  generalize clsI hi (val vh vl) = b at *
  have g1 := pow_rng (n := (b - a + 1).toNat) (by omega)
  have mr := maskI_rng r1.1 hm r2.2
  have s1 : binA .shl (.int .i64 1) (.int .i64 (b - a + 1)) = some (.int .i64 (2 ^ (b - a + 1).toNat)) := binA_shl_i (by omega) (by omega) (by omega)
  have s2 : binA .shl (.int .i64 (2 ^ (b - a + 1).toNat - 1)) (.int .i64 (a + 4)) = some (.int .i64 (maskI a b)) := binA_shl_i (by omega) rfl (by omega)
  generalize (2 : Int) ^ (b - a + 1).toNat = p at *
  generalize maskI a b = m at *
  unfold F236
  refine pureF_of (x := x236) rfl rfl ?_
  rw [x236_eq.1, x236_eq.2.1]
  by_cases hp : 0 < lo
  · have d1 := decide_eq_true hp
    have d2 : decide (hi < 0) = false := decide_eq_false (by omega)
    simp (disch := first | omega | simp only [*, go_sem, ↓reduceIte, dropK_eq]) only [x236b, go_sem, ↓reduceIte, dropK_eq, callX_known (C := C9) (g := 58) rfl, ft_call (C := C9) (g := 58) rfl, callX_known (C := C9) (g := 101) rfl, ft_call (C := C9) (g := 101) rfl, callX_known (C := C9) (g := 121) rfl, ft_call (C := C9) (g := 121) rfl, e121, e101, a1, a2, d1, d2, dv, s1, s2]
    exact Ends_plain rfl rfl
  · have d1 := decide_eq_false hp
    by_cases hn : hi < 0
    · have d2 := decide_eq_true hn
      simp (disch := first | omega | simp only [*, go_sem, ↓reduceIte, dropK_eq]) only [x236b, go_sem, ↓reduceIte, dropK_eq, callX_known (C := C9) (g := 58) rfl, ft_call (C := C9) (g := 58) rfl, callX_known (C := C9) (g := 101) rfl, ft_call (C := C9) (g := 101) rfl, callX_known (C := C9) (g := 121) rfl, ft_call (C := C9) (g := 121) rfl, e121, e101, a1, a2, d1, d2, dv, s1, s2]
      exact Ends_plain rfl rfl
    · have d2 := decide_eq_false hn
      simp (disch := first | omega | simp only [*, go_sem, ↓reduceIte, dropK_eq]) only [x236b, go_sem, ↓reduceIte, dropK_eq, callX_known (C := C9) (g := 58) rfl, ft_call (C := C9) (g := 58) rfl, callX_known (C := C9) (g := 101) rfl, ft_call (C := C9) (g := 101) rfl, callX_known (C := C9) (g := 121) rfl, ft_call (C := C9) (g := 121) rfl, e121, e101, a1, a2, d1, d2, dv, s1, s2]
      exact Ends_plain rfl rfl
set_option maxRecDepth 10000
noncomputable def F140 : List AVal → Option AVal := pureF C5 1 140
theorem sound140 : Sound Tryz.prog 140 F140 := sound_self ok5 1 140
theorem F140_eq {x : Int} (hx : U x) : F140 [.int .u64 x] = some (.int .i64 (blen x.toNat)) := by
  have e172 := F172_eq hx
  have w1 : x % 18446744073709551616 = x := by simp only [U] at hx; omega
  unfold F140
  refine pureF_of (x := x140) rfl rfl ?_
  rw [x140_eq.1, x140_eq.2.1]
  simp (disch := first | omega | simp only [go_sem, ↓reduceIte, dropK_eq]) only [x140b, go_sem, ↓reduceIte, dropK_eq, callX_known (C := C5) (g := 172) rfl, ft_call (C := C5) (g := 172) rfl, w1, e172]
  exact Ends_plain rfl rfl
end Go.Proofs.YtldineoabbodpaaGreatDoor
namespace Go.Proofs.YtldineoabbodpaaGreatDoor
open Go Go.Xec
set_option maxRecDepth 10000
theorem bv_ofInt (a : Nat) : BitVec.ofInt 64 (a : Int) = BitVec.ofNat 64 a := BitVec.ofInt_natCast ..
theorem bv_toNat {a : Nat} (h : a < 9223372036854775808) : (BitVec.ofNat 64 a).toNat = a := by
  rw [BitVec.toNat_ofNat]; omega
theorem wrap_nat {a : Nat} (h : a < 9223372036854775808) : IntKind.i64.wrap (a : Int) = (a : Int) := wrap_i64 (by omega) (by omega)
section
variable {a b : Nat}
theorem and_lt (h : a < 9223372036854775808) : a &&& b < 9223372036854775808 := Nat.lt_of_le_of_lt Nat.and_le_left h
theorem binA_and_i64 (ha : a < 9223372036854775808) (hb : b < 9223372036854775808) : binA .and (.int .i64 (a : Int)) (.int .i64 (b : Int)) = some (.int .i64 ((a &&& b : Nat) : Int)) := by
  have e : (BitVec.ofInt 64 (a : Int) &&& BitVec.ofInt 64 (b : Int)).toNat = a &&& b := by rw [bv_ofInt, bv_ofInt, BitVec.toNat_and, bv_toNat ha, bv_toNat hb]
  simp only [binA, isShift, intBin, Bool.false_eq_true, if_false, if_true]
  refine congrArg (fun n => some (AVal.int .i64 n)) ?_
  exact (congrArg (fun n : Nat => IntKind.i64.wrap (n : Int)) e).trans (wrap_nat (and_lt ha))
theorem binA_or_i64 (ha : a < 4611686018427387904) (hb : b < 4611686018427387904) : binA .or (.int .i64 (a : Int)) (.int .i64 (b : Int)) = some (.int .i64 ((a ||| b : Nat) : Int)) := by
  have h : a ||| b < 2 ^ 62 := Nat.or_lt_two_pow (by omega) (by omega)
  have e : (BitVec.ofInt 64 (a : Int) ||| BitVec.ofInt 64 (b : Int)).toNat = a ||| b := by rw [bv_ofInt, bv_ofInt, BitVec.toNat_or, bv_toNat (by omega), bv_toNat (by omega)]
  simp only [binA, isShift, intBin, Bool.false_eq_true, if_false, if_true]
  refine congrArg (fun n => some (AVal.int .i64 n)) ?_
  exact (congrArg (fun n : Nat => IntKind.i64.wrap (n : Int)) e).trans (wrap_nat (by omega))
def adn (a b : Nat) : Nat := a ^^^ (a &&& b)
theorem adn_bit (i : Nat) : (adn a b).testBit i = (a.testBit i && !b.testBit i) := by
  unfold adn
  rw [Nat.testBit_xor, Nat.testBit_and]
  cases a.testBit i <;> cases b.testBit i <;> rfl
theorem adn_le : adn a b ≤ a := by
  refine Nat.le_of_testBit ?_
  intro i h
  rw [adn_bit] at h
  simp only [Bool.and_eq_true] at h
  exact h.1
theorem binA_andNot_i64 (ha : a < 9223372036854775808) (hb : b < 9223372036854775808) : binA .andNot (.int .i64 (a : Int)) (.int .i64 (b : Int)) = some (.int .i64 ((adn a b : Nat) : Int)) := by
  have e : (BitVec.ofInt 64 (a : Int) &&& ~~~BitVec.ofInt 64 (b : Int)).toNat = adn a b := by
    rw [bv_ofInt, bv_ofInt]
    refine Nat.eq_of_testBit_eq fun i => ?_
    rw [adn_bit]
    by_cases hi : i < 64
    · rw [← BitVec.getLsbD, BitVec.getLsbD_and, BitVec.getLsbD_not, BitVec.getLsbD_ofNat, BitVec.getLsbD_ofNat]
      simp [hi]
    · have h1 : a.testBit i = false := Nat.testBit_lt_two_pow (Nat.lt_of_lt_of_le ha (by
        have : 2 ^ 63 ≤ 2 ^ i := Nat.pow_le_pow_right (by decide) (by omega)
        omega))
      rw [h1, ← BitVec.getLsbD, BitVec.getLsbD_of_ge _ _ (by omega)]
      rfl
  simp only [binA, isShift, intBin, Bool.false_eq_true, if_false, if_true]
  refine congrArg (fun n => some (AVal.int .i64 n)) ?_
  exact (congrArg (fun n : Nat => IntKind.i64.wrap (n : Int)) e).trans (wrap_nat (Nat.lt_of_le_of_lt adn_le ha))
end
abbrev Mk (m : Nat) : Prop := 1 ≤ m ∧ m ≤ 511
theorem mk_bit {m i : Nat} (h : Mk m) (hi : m.testBit i = true) : i < 9 := by
  refine Nat.lt_of_not_le fun h9 => ?_
  have : m.testBit i = false := Nat.testBit_lt_two_pow (Nat.lt_of_le_of_lt h.2 (by
    have : 2 ^ 9 ≤ 2 ^ i := Nat.pow_le_pow_right (by decide) h9
    omega))
  rw [this] at hi
  cases hi
def loB (m : Nat) : Nat := if m % 2 = 1 then 0 else if m / 2 % 2 = 1 then 1 else if m / 4 % 2 = 1 then 2 else if m / 8 % 2 = 1 then 3 else if m / 16 % 2 = 1 then 4 else if m / 32 % 2 = 1 then 5 else if m / 64 % 2 = 1 then 6 else if m / 128 % 2 = 1 then 7 else 8
def hiB (m : Nat) : Nat := if 256 ≤ m then 8 else if 128 ≤ m then 7 else if 64 ≤ m then 6 else if 32 ≤ m then 5 else if 16 ≤ m then 4 else if 8 ≤ m then 3 else if 4 ≤ m then 2 else if 2 ≤ m then 1 else 0
theorem loB_all : ∀ m < 512, 1 ≤ m → m.testBit (loB m) = true ∧ loB m < 9 ∧ ∀ i < 9, m.testBit i = true → loB m ≤ i := by decide +kernel
theorem hiB_all : ∀ m < 512, 1 ≤ m → m.testBit (hiB m) = true ∧ hiB m < 9 ∧ ∀ i < 9, m.testBit i = true → i ≤ hiB m := by decide +kernel
theorem loB_spec {m : Nat} (h : Mk m) : m.testBit (loB m) = true ∧ loB m < 9 ∧ ∀ i, m.testBit i = true → loB m ≤ i := by
  obtain ⟨h1, h2, h3⟩ := loB_all m (by omega) h.1
  exact ⟨h1, h2, fun i hi => h3 i (mk_bit h hi) hi⟩
theorem hiB_spec {m : Nat} (h : Mk m) : m.testBit (hiB m) = true ∧ hiB m < 9 ∧ ∀ i, m.testBit i = true → i ≤ hiB m := by
  obtain ⟨h1, h2, h3⟩ := hiB_all m (by omega) h.1
  exact ⟨h1, h2, fun i hi => h3 i (mk_bit h hi) hi⟩
theorem lo_tz : ∀ m < 512, 1 ≤ m → Lib.ctz 64 m = loB m := by decide +kernel
theorem hi_len : ∀ m < 512, 1 ≤ m → blen m = hiB m + 1 := by decide +kernel
theorem cellsOf_fn (f : Fn) (a b : List AVal) : cellsOf (.fn f a b) = [.fn f a b] := rfl
theorem isSc_fn (f : Fn) (a b : List AVal) : isSc (.fn f a b) = true := rfl
theorem cellsOf_ifc (t : TypeId) (v : AVal) : cellsOf (.ifc t v) = [.ifc t v] := rfl
theorem isSc_ifc (t : TypeId) (v : AVal) : isSc (.ifc t v) = true := rfl
theorem cellsOf_mp (k : Key) : cellsOf (.mp k) = [.mp k] := rfl
theorem isSc_mp (k : Key) : isSc (.mp k) = true := rfl
theorem lendV_fn0 (d : Nat) (f : Fn) (hp : Heap) : lendV (d + 1) (.fn f [] []) hp = some (.fn f [] []) := by
  simp [lendV, lend, lendL, Rd.run, Rd.bind]
theorem iaAA_pvo (n es : Nat) (cs : List AVal) (o : Nat) (kd : IntKind) (j : Int) : iaAA n es (.pvo cs o) (.int kd j) = if 0 ≤ j ∧ j < n then some (.pvo cs (o + j.toNat * es)) else none := rfl
attribute [go_sem] iaAA_pvo cellsOf_fn isSc_fn cellsOf_ifc isSc_ifc cellsOf_mp isSc_mp lendV_fn0
end Go.Proofs.YtldineoabbodpaaGreatDoor
namespace Go.Proofs.YtldineoabbodpaaGreatDoor
open Go
def Tryz.lays7x29_ren : Go.Shelf.Ren := ⟨fun | 29 => 170 | n => n, fun | 22 => 64 | 3 => 3 | 4 => 4 | 25 => 220 | 54 => 255 | 0 => 0 | 5 => 5 | n => n, fun | 1 => 1 | n => n⟩
theorem Tryz.lays7x29 : Go.Proofs.Lays7.n29 Tryz.prog Tryz.lays7x29_ren := {
  mixed := by kernel_rfl
  f29 := Tryz.func170.trans (congrArg some (by kernel_rfl))
  t0 := Tryz.underlying0
  a0 := Tryz.isAgg0
  z0 := Tryz.sizeOf0
  v0 := Tryz.zeroValue0
  i0 := by kernel_rfl
  t3 := Tryz.underlying3
  a3 := Tryz.isAgg3
  z3 := Tryz.sizeOf3
  v3 := Tryz.zeroValue3
  i3 := by kernel_rfl
  t4 := Tryz.underlying4
  a4 := Tryz.isAgg4
  z4 := Tryz.sizeOf4
  v4 := Tryz.zeroValue4
  i4 := by kernel_rfl
  t5 := Tryz.underlying5
  a5 := Tryz.isAgg5
  z5 := Tryz.sizeOf5
  v5 := Tryz.zeroValue5
  i5 := by kernel_rfl
  t22 := Tryz.underlying64
  a22 := Tryz.isAgg64
  z22 := Tryz.sizeOf64
  v22 := Tryz.zeroValue64
  i22 := by kernel_rfl
  t25 := Tryz.underlying220
  a25 := Tryz.isAgg220
  z25 := Tryz.sizeOf220
  v25 := Tryz.zeroValue220
  i25 := by kernel_rfl
  t54 := Tryz.underlying255
  a54 := Tryz.isAgg255
  z54 := Tryz.sizeOf255
  g1 := by kernel_rfl }
end Go.Proofs.YtldineoabbodpaaGreatDoor
namespace Go.Proofs.YtldineoabbodpaaGreatDoor
open Go Go.Xec
attribute [local go_sem] tm0 ne_eq not_false_eq_true List.length_append List.length_replicate List.replicate_succ List.replicate_zero Int.cast_ofNat_Int not_true_eq_false decide_true decide_false ite_self beq_self_eq_true Bool.true_beq Bool.false_beq Bool.not_true Bool.not_false
attribute [local go_sem_proc] Nat.reduceAdd Nat.reduceMul Nat.reduceSub Nat.reduceLeDiff Nat.reduceLT Nat.reduceEqDiff Int.reduceLT Int.reduceLE Int.reduceAdd Int.reduceSub Int.reduceMul Int.reduceToNat Int.reducePow Int.reduceNe Int.reduceMod Int.reduceDiv Int.reduceEq Nat.reducePow Int.reduceNeg
set_option maxRecDepth 10000
theorem any_getD {p : Int → Bool} {l : List Int} {i : Nat} (hi : i < l.length) (h : p (l.getD i 0) = true) : l.any p = true := by
  rw [List.any_eq_true]
  refine ⟨l.getD i 0, ?_, h⟩
  rw [List.getD_eq_getElem?_getD, List.getElem?_eq_getElem hi]
  exact List.getElem_mem hi
theorem any_none {p : Int → Bool} {l : List Int} (h : ∀ j, j < l.length → p (l.getD j 0) = false) : l.any p = false := by
  rw [List.any_eq_false]
  intro x hx
  obtain ⟨i, hi, rfl⟩ := List.getElem_of_mem hx
  have := h i hi
  rw [List.getD_eq_getElem?_getD, List.getElem?_eq_getElem hi] at this
  simpa using this
abbrev Lg (l : List Int) : Prop := l.length ≤ 140737488355328
section
variable {C : Cfg}
theorem index151 (hC : C.xf = xf) {d : Nat} {a f : AVal} {l : List Int} {p : Int → Bool} {hp : Heap} {nc : Nat} {K : AVal × Heap × Nat → Prop} (ha : Rw a l) (hl : Lg l)
    (hf : ∀ x ∈ l, ∀ nc (K : AVal × Heap × Nat → Prop), (∀ nc', K (.bool (p x), hp, nc')) → Bd (callX C (inlD C d) f [.int .i64 x] hp nc) K)
    (hK : ∀ nc' (r : Int), decide (0 ≤ r) = l.any p → K (.int .i64 r, hp, nc')) : Bd (inlD C (d + 1) 151 [a, f] hp nc) K := by
  refine inl_of (x := x151) (by rw [hC]; rfl) rfl ?_
  rw [x151_eq.1, x151_eq.2.1]
  simp (disch := first | omega | simp only [go_sem, ↓reduceIte, dropK_eq]) only [x151b, go_sem, ↓reduceIte, dropK_eq, ha.len]
  refine Ev_loop_inv (I := fun n st => ∃ (i : Nat) (tm : Nat → AVal) (nc : Nat), st = ⟨tm, hp, nc⟩ ∧ i ≤ l.length ∧ n = l.length - i ∧ tm 0 = a ∧ tm 1 = f ∧ tm 7 = .int .i64 l.length ∧ tm 8 = .int .i64 i ∧
      ∀ j, j < i → p (l.getD j 0) = false) (n := l.length) ?_ (by omega) ?_
  · refine ⟨0, _, _, rfl, by omega, rfl, ?_⟩
    simp only [go_sem, ↓reduceIte, dropK_eq, List.getD_cons_zero]
    exact fun j hj => absurd hj (Nat.not_lt_zero j)
  · rintro n st ⟨i, tm, nc, rfl, hi, rfl, k0, k1, k7, k8, hj⟩
    rcases Nat.lt_or_ge i l.length with hlt | hge
    · have d1 : decide ((i : Int) < (l.length : Int)) = true := decide_eq_true (by omega)
      have ia := ha.ia hlt
      have hm : l.getD i 0 ∈ l := by
        rw [List.getD_eq_getElem?_getD, List.getElem?_eq_getElem hlt]
        exact List.getElem_mem hlt
      simp (disch := first | omega | simp only [go_sem, ↓reduceIte, dropK_eq]) only [x151l2, go_sem, ↓reduceIte, dropK_eq, k0, k1, k7, k8, d1, ia]
      refine hf _ hm _ _ fun nc' => ?_
      cases hp' : p (l.getD i 0) with
      | true =>
        simp (disch := first | omega | simp only [go_sem, ↓reduceIte, dropK_eq]) only [go_sem, ↓reduceIte, dropK_eq, k0, k1, k7, k8]
        exact hK _ _ (by rw [any_getD hlt hp']; exact decide_eq_true (by omega))
      | false =>
        simp (disch := first | omega | simp only [go_sem, ↓reduceIte, dropK_eq]) only [go_sem, ↓reduceIte, dropK_eq, k0, k1, k7, k8]
        refine ⟨l.length - (i + 1), by omega, i + 1, _, _, rfl, by omega, rfl, ?_⟩
        simp (disch := first | omega | simp only [go_sem, ↓reduceIte, dropK_eq]) only [go_sem, ↓reduceIte, dropK_eq, k0, k1, k7, k8]
        refine ⟨by simp, fun j hj' => ?_⟩
        by_cases e : j = i
        · subst e; exact hp'
        · exact hj j (by omega)
    · obtain rfl : i = l.length := by omega
      have d1 : decide ((l.length : Int) < (l.length : Int)) = false := decide_eq_false (by omega)
      simp (disch := first | omega | simp only [go_sem, ↓reduceIte, dropK_eq]) only [x151l2, go_sem, ↓reduceIte, dropK_eq, k0, k1, k7, k8, d1]
      exact hK _ _ (by rw [any_none hj]; rfl)
theorem contains117 (hC : C.xf = xf) (hn : C.Γ 151 = none) {d : Nat} {a f : AVal} {l : List Int} {p : Int → Bool} {hp : Heap} {nc : Nat} {K : AVal × Heap × Nat → Prop} (ha : Rw a l) (hl : Lg l)
    (hf : ∀ x ∈ l, ∀ nc (K : AVal × Heap × Nat → Prop), (∀ nc', K (.bool (p x), hp, nc')) → Bd (callX C (inlD C d) f [.int .i64 x] hp nc) K)
    (hK : ∀ nc', K (.bool (l.any p), hp, nc')) : Bd (inlD C (d + 2) 117 [a, f] hp nc) K := by
  refine inl_of (x := x117) (by rw [hC]; rfl) rfl ?_
  rw [x117_eq.1, x117_eq.2.1]
  simp (disch := first | omega | simp only [go_sem, ↓reduceIte, dropK_eq]) only [x117b, go_sem, ↓reduceIte, dropK_eq, call_inl (C := C) (g := 151) hn]
  refine index151 hC ha hl hf fun nc' r hr => ?_
  simp (disch := first | omega | simp only [go_sem, ↓reduceIte, dropK_eq]) only [go_sem, ↓reduceIte, dropK_eq, hr]
  exact hK _
end
theorem named_db : Tryz.prog.globalNamed "math/bits.deBruijn64tab" = some 1 := by kernel_rfl
def F_tz : List AVal → Option AVal
  | [.int .u64 x] => if 0 ≤ x ∧ x < 18446744073709551616 then some (.int .i64 (Lib.ctz 64 x.toNat : Nat)) else none
  | _ => none
theorem sound170 : Sound Tryz.prog 170 F_tz := by
  refine sound_calls Tryz.func170 (by kernel_rfl) (by kernel_rfl) ?_
  intro ys r hr w S vs hS hL hl
  unfold F_tz at hr
  split at hr
  · rename_i x
    split at hr
    · rename_i hx
      cases hr
      obtain ⟨u, rfl, hu⟩ := VL_1 hl
      have hu := V_int hu
      subst hu
      obtain ⟨n, rfl⟩ : ∃ n : Nat, x = n := ⟨x.toNat, by omega⟩
      have hT : TabAt 1 Lib.deBruijn64tab w := by
        intro j hj
        have h := hL.1 ("math/bits.deBruijn64tab", .u8, Lib.deBruijn64tab.map Int.ofNat) (by simp [tabs]) (by rw [named_db]; simp)
        rw [h.cell named_db j (by simpa using hj)]
        simp [List.getD_eq_getElem?_getD, List.getElem?_map, List.getElem?_eq_getElem hj]
      refine (Any7.bits_TrailingZeros64 Tryz.lays7x29 n (by omega) w (fun _ => hT)).mono ?_
      rintro e w' ⟨rfl, rfl⟩
      exact ⟨_, rfl, Nat.le_refl _, fun _ _ => rfl, SameEnv.refl _, by simp only [V, Int.toNat_natCast]⟩
    · cases hr
  · cases hr
noncomputable def C10 : Cfg := (C9.add 170 F_tz).add 140 F140
theorem ok10 : CfgOk Tryz.prog C10 := (ok9.add sound170).add sound140
noncomputable def F139 : List AVal → Option AVal := pureF C10 1 139
theorem sound139 : Sound Tryz.prog 139 F139 := sound_self ok10 1 139
theorem F139_eq {n : Nat} (h : n < 512) : F139 [.int .u64 (n : Int)] = some (.int .i64 (Lib.ctz 64 n : Nat)) := by
  have e170 : F_tz [.int .u64 (n : Int)] = some (.int .i64 (Lib.ctz 64 n : Nat)) := by
    simp only [F_tz]
    rw [if_pos (by omega), Int.toNat_natCast]
  have w1 : (n : Int) % 18446744073709551616 = n := by omega
  unfold F139
  refine pureF_of (x := x139) rfl rfl ?_
  rw [x139_eq.1, x139_eq.2.1]
  simp (disch := first | omega | simp only [go_sem, ↓reduceIte, dropK_eq]) only [x139b, go_sem, ↓reduceIte, dropK_eq, callX_known (C := C10) (g := 170) rfl, ft_call (C := C10) (g := 170) rfl, w1, e170]
  exact Ends_plain rfl rfl
noncomputable def C11 : Cfg := C10.add 139 F139
theorem ok11 : CfgOk Tryz.prog C11 := ok10.add sound139
noncomputable def F103 : List AVal → Option AVal := pureF C11 1 103
theorem sound103 : Sound Tryz.prog 103 F103 := sound_self ok11 1 103
theorem F103_eq {m : Nat} (h : Mk m) : F103 [.int .i64 (m : Int)] = some (.tup [.int .i64 ((loB m : Int) - 4), .int .i64 ((hiB m : Int) - 4), .int .i64 0]) := by
  have e138 := F138_eq (x := m)
  rw [decide_eq_true (by omega)] at e138
  have e139 := F139_eq (n := m) (by omega)
  have e140 := F140_eq (x := m) (by simp only [U]; omega)
  rw [lo_tz m (by omega) h.1] at e139
  rw [Int.toNat_natCast, hi_len m (by omega) h.1] at e140
  have w1 : (m : Int) % 18446744073709551616 = m := by omega
  have h1 := (loB_spec h).2.1
  have h2 := (hiB_spec h).2.1
  unfold F103
  refine pureF_of (x := x103) rfl rfl ?_
  rw [x103_eq.1, x103_eq.2.1]
  have w2 : ((hiB m + 1 : Nat) : Int) - 1 = hiB m := by omega
  simp (disch := first | omega | simp only [*, go_sem, ↓reduceIte, dropK_eq]) only [x103b, go_sem, ↓reduceIte, dropK_eq, callX_known (C := C11) (g := 138) rfl, ft_call (C := C11) (g := 138) rfl, callX_known (C := C11) (g := 139) rfl, ft_call (C := C11) (g := 139) rfl, callX_known (C := C11) (g := 140) rfl, ft_call (C := C11) (g := 140) rfl, w1, e138, e139, e140, w2]
  exact Ends_plain rfl rfl
theorem F103_no {x : Int} (h : ¬ (0 < x ∧ x < 512)) : F103 [.int .i64 x] = some (.tup [.int .i64 0, .int .i64 0, .int .i64 1]) := by
  have e138 := F138_eq (x := x)
  rw [decide_eq_false h] at e138
  unfold F103
  refine pureF_of (x := x103) rfl rfl ?_
  rw [x103_eq.1, x103_eq.2.1]
  simp (disch := first | omega | simp only [go_sem, ↓reduceIte, dropK_eq]) only [x103b, go_sem, ↓reduceIte, dropK_eq, callX_known (C := C11) (g := 138) rfl, ft_call (C := C11) (g := 138) rfl, e138]
  exact Ends_plain rfl rfl
noncomputable def C12 : Cfg := C11.add 103 F103
theorem ok12 : CfgOk Tryz.prog C12 := ok11.add sound103
noncomputable def F137 : List AVal → Option AVal := pureF C12 1 137
theorem sound137 : Sound Tryz.prog 137 F137 := sound_self ok12 1 137
theorem F137_eq {x : Int} : F137 [.int .i64 x] = some (.bool (!decide (0 < x ∧ x < 512))) := by
  unfold F137
  refine pureF_of (x := x137) rfl rfl ?_
  rw [x137_eq.1, x137_eq.2.1]
  by_cases h : 0 < x ∧ x < 512
  · obtain ⟨m, rfl⟩ : ∃ m : Nat, x = m := ⟨x.toNat, by omega⟩
    have e103 := F103_eq (m := m) ⟨by omega, by omega⟩
    simp (disch := first | omega | simp only [go_sem, ↓reduceIte, dropK_eq]) only [x137b, go_sem, ↓reduceIte, dropK_eq, callX_known (C := C12) (g := 103) rfl, ft_call (C := C12) (g := 103) rfl, e103]
    refine Ends_plain rfl ?_
    rw [decide_eq_true h]; rfl
  · have e103 := F103_no h
    simp (disch := first | omega | simp only [go_sem, ↓reduceIte, dropK_eq]) only [x137b, go_sem, ↓reduceIte, dropK_eq, callX_known (C := C12) (g := 103) rfl, ft_call (C := C12) (g := 103) rfl, e103]
    refine Ends_plain rfl ?_
    rw [decide_eq_false h]; rfl
noncomputable def C13 : Cfg := C12.add 137 F137
theorem ok13 : CfgOk Tryz.prog C13 := ok12.add sound137
abbrev mksOk (l : List Int) : Prop := l.length ≤ 15 ∧ ∀ m ∈ l, 0 < m ∧ m < 512
noncomputable def F102 : List AVal → Option AVal := pureF C13 4 102
theorem sound102 : Sound Tryz.prog 102 F102 := sound_self ok13 4 102
theorem F102_eq {a : AVal} {l : List Int} (ha : Rw a l) (hl : Lg l) : F102 [a] = some (.bool (decide (mksOk l))) := by
  unfold F102
  refine pureF_of (x := x102) rfl rfl ?_
  rw [x102_eq.1, x102_eq.2.1]
  by_cases h : l.length ≤ 15
  · have d1 : decide ((l.length : Int) ≤ 15) = true := decide_eq_true (by omega)
    simp (disch := first | omega | simp only [go_sem, ↓reduceIte, dropK_eq]) only [x102b, go_sem, ↓reduceIte, dropK_eq, ha.len, d1, call_inl (C := C13) (g := 117) rfl, ft_inl (C := C13) (g := 117) rfl]
    refine contains117 (C := C13) rfl rfl (p := fun x => !decide (0 < x ∧ x < 512)) ha hl (fun x hx nc K hK => ?_) fun nc' => ?_
    · rw [callX_known (C := C13) (g := 137) rfl (by simp only [go_sem, ↓reduceIte, dropK_eq]), F137_eq]
      simp only [go_sem, ↓reduceIte, dropK_eq]
      exact hK _
    · simp (disch := first | omega | simp only [go_sem, ↓reduceIte, dropK_eq]) only [go_sem, ↓reduceIte, dropK_eq]
      refine Ends_plain rfl ?_
      congr 1
      rw [Bool.eq_iff_iff]
      simp only [Bool.not_eq_true', List.any_eq_false, Bool.not_eq_true', Bool.not_eq_false, decide_eq_true_eq, mksOk, h, true_and]
  · have d1 : decide ((l.length : Int) ≤ 15) = false := decide_eq_false (by omega)
    simp (disch := first | omega | simp only [go_sem, ↓reduceIte, dropK_eq]) only [x102b, go_sem, ↓reduceIte, dropK_eq, ha.len, d1]
    refine Ends_plain rfl ?_
    rw [decide_eq_false (fun e => h e.1)]
set_option maxRecDepth 10000
abbrev PK (m : Nat) : AVal := .agg [.int .i64 (m : Int), .int .i64 ((loB m : Int) - 4), .int .i64 ((hiB m : Int) - 4)]
theorem PK_plain (d m : Nat) : plain (d + 1) (PK m) = true := by simp only [PK, plain_agg, plainL_cons, plainL_nil, plain_int]; rfl
theorem PK_sc (m : Nat) : (cellsOf (PK m)).all isSc = true := rfl
def aboveN (k : Nat) : Nat := 512 - 2 ^ k
def belowN (k : Nat) : Nat := 2 ^ (9 - k) - 1
theorem pow_9 : ∀ k ≤ 9, (2 : Nat) ^ k ≤ 512 ∧ 1 ≤ (2 : Nat) ^ k := by decide
noncomputable def F173 : List AVal → Option AVal := pureF C13 1 173
theorem sound173 : Sound Tryz.prog 173 F173 := sound_self ok13 1 173
theorem F173_eq {c : Int} {k : Nat} (hk : k ≤ 9) (hc : c = (k : Int) - 4) : F173 [.int .i64 c] = some (.tup [.int .i64 (aboveN k : Nat), .int .i64 (belowN k : Nat)]) := by
  subst hc
  obtain ⟨p1, p2⟩ := pow_9 k hk
  obtain ⟨p3, p4⟩ := pow_9 (9 - k) (by omega)
  have s1 : binA .shl (.int .i64 1) (.int .i64 (k : Int)) = some (.int .i64 ((2 ^ k : Nat) : Int)) := binA_shl_i (by omega) (by simp) (by omega)
  have s2 : binA .shl (.int .i64 1) (.int .i64 (9 - (k : Int))) = some (.int .i64 ((2 ^ (9 - k) : Nat) : Int)) := by
    refine binA_shl_i (by omega) ?_ (by omega)
    rw [show (9 - (k : Int)).toNat = 9 - k by omega]
    simp
  have e1 : ((aboveN k : Nat) : Int) = 512 - ((2 ^ k : Nat) : Int) := by unfold aboveN; omega
  have e2 : ((belowN k : Nat) : Int) = ((2 ^ (9 - k) : Nat) : Int) - 1 := by unfold belowN; omega
  rw [e1, e2]
  generalize (2 : Nat) ^ k = p at *
  generalize (2 : Nat) ^ (9 - k) = q at *
  have w1 : (k : Int) - 4 + 4 = k := by omega
  have w2 : 4 - ((k : Int) - 4) + 1 = 9 - k := by omega
  unfold F173
  refine pureF_of (x := x173) rfl rfl ?_
  rw [x173_eq.1, x173_eq.2.1]
  simp (disch := first | omega | simp only [*, go_sem, ↓reduceIte, dropK_eq]) only [x173b, go_sem, ↓reduceIte, dropK_eq, w1, w2, s1, s2]
  exact Ends_plain rfl rfl
theorem F173_4 : F173 [.int .i64 4] = some (.tup [.int .i64 256, .int .i64 1]) := F173_eq (k := 8) (by decide) (by decide)
theorem F173_3 : F173 [.int .i64 3] = some (.tup [.int .i64 384, .int .i64 3]) := F173_eq (k := 7) (by decide) (by decide)
theorem F173_2 : F173 [.int .i64 2] = some (.tup [.int .i64 448, .int .i64 7]) := F173_eq (k := 6) (by decide) (by decide)
theorem F173_1 : F173 [.int .i64 1] = some (.tup [.int .i64 480, .int .i64 15]) := F173_eq (k := 5) (by decide) (by decide)
def sureI (e s : Bool) : Int := if e = true then 2 else if s = true then 1 else 0
noncomputable def F189 : List AVal → Option AVal := pureF C13 1 189
theorem sound189 : Sound Tryz.prog 189 F189 := sound_self ok13 1 189
theorem F189_eq {e s : Bool} : F189 [.bool e, .bool s] = some (.int .i64 (sureI e s)) := by
  unfold F189
  refine pureF_of (x := x189) rfl rfl ?_
  rw [x189_eq.1, x189_eq.2.1]
  cases e <;> cases s <;> (simp (disch := first | omega | simp only [go_sem, ↓reduceIte, dropK_eq]) only [x189b, go_sem, ↓reduceIte, dropK_eq]; exact Ends_plain rfl rfl)
noncomputable def F176 : List AVal → Option AVal := pureF C13 1 176
theorem sound176 : Sound Tryz.prog 176 F176 := sound_self ok13 1 176
def maxI (a b : Int) : Int := if a < b then b else a
theorem mnx_maxI (a b : Int) : mnxA true (.int .i64 a) [.int .i64 b] = some (.int .i64 (maxI a b)) := by
  simp only [mnxA, if_true, maxI]
theorem F176_eq {a b : Int} : F176 [.int .i64 a, .int .i64 b] = some (.int .i64 (maxI a b)) := by
  unfold F176
  refine pureF_of (x := x176) rfl rfl ?_
  rw [x176_eq.1, x176_eq.2.1]
  simp (disch := first | omega | simp only [go_sem, ↓reduceIte, dropK_eq]) only [x176b, go_sem, ↓reduceIte, dropK_eq, mnx_maxI]
  exact Ends_plain rfl rfl
def lastA (a : AVal) (l : List Nat) (n : Nat) : AVal := if l.length < n then .nils else rwDrop (l.length - n) a
def lastN (l : List Nat) (n : Nat) : List Nat := if l.length < n then [] else l.drop (l.length - n)
theorem Rg.last {a : AVal} {l : List Nat} (h : Rg 3 PK a l) (n : Nat) : Rg 3 PK (lastA a l n) (lastN l n) := by
  unfold lastA lastN
  split
  · exact Rg.nils
  · exact h.drop _
noncomputable def F174 : List AVal → Option AVal := pureF C13 1 174
theorem sound174 : Sound Tryz.prog 174 F174 := sound_self ok13 1 174
theorem F174_eq {a : AVal} {l : List Nat} {c : Int} {n : Nat} (ha : Rg 3 PK a l) (hl : l.length ≤ 15) (hc : c = n) (hn : n ≤ 100) : F174 [a, .int .i64 c] = some (lastA a l n) := by
  subst hc
  unfold F174 lastA
  refine pureF_of (x := x174) rfl rfl ?_
  rw [x174_eq.1, x174_eq.2.1]
  by_cases h : l.length < n
  · have d1 : decide ((l.length : Int) < (n : Int)) = true := decide_eq_true (by omega)
    rw [if_pos h]
    simp (disch := first | omega | simp only [go_sem, ↓reduceIte, dropK_eq]) only [x174b, go_sem, ↓reduceIte, dropK_eq, ha.len, d1]
    exact Ends_plain rfl rfl
  · have d1 : decide ((l.length : Int) < (n : Int)) = false := decide_eq_false (by omega)
    have hs := ha.sliceFrom (n := l.length - n) (by omega)
    have w1 : (l.length : Int) - (n : Int) = ((l.length - n : Nat) : Int) := by omega
    have hp := (ha.drop (l.length - n)).plain
    rw [if_neg h]
    simp (disch := first | omega | simp only [*, go_sem, ↓reduceIte, dropK_eq]) only [x174b, go_sem, ↓reduceIte, dropK_eq, ha.len, d1, w1, hs]
    exact Ends_plain (hp _) rfl
noncomputable def C14 : Cfg := (((C13.add 173 F173).add 189 F189).add 176 F176).add 174 F174
theorem ok14 : CfgOk Tryz.prog C14 := (((ok13.add sound173).add sound189).add sound176).add sound174
def subT (w m : Nat) : Bool := decide (((adn m w : Nat) : Int) = 0)
def metT (w m : Nat) : Bool := decide (¬ ((m &&& w : Nat) : Int) = 0)
def eachE (l : List Nat) (w : Nat) : Bool := decide ((0 : Int) < (l.length : Int)) && l.all (subT w)
def eachS (l : List Nat) (w : Nat) : Bool := decide ((0 : Int) < (l.length : Int)) && l.all (metT w)
noncomputable def F175 : List AVal → Option AVal := pureF C14 1 175
theorem sound175 : Sound Tryz.prog 175 F175 := sound_self ok14 1 175
theorem F175_eq {a : AVal} {l : List Nat} {c : Int} {w : Nat} (ha : Rg 3 PK a l) (hl : l.length ≤ 15) (hm : ∀ m ∈ l, Mk m) (hc : c = w) (hw : w < 512) : F175 [a, .int .i64 c] = some (.int .i64 (sureI (eachE l w) (eachS l w))) := by
  subst hc
  unfold F175
  refine pureF_of (x := x175) rfl rfl ?_
  rw [x175_eq.1, x175_eq.2.1]
  simp (disch := first | omega | simp only [go_sem, ↓reduceIte, dropK_eq]) only [x175b, go_sem, ↓reduceIte, dropK_eq, ha.len]
  refine Ev_range (ti := 17) (len := l.length) (J := fun i tm hp nc => tm 5 = .bool (decide ((0 : Int) < (l.length : Int)) && (l.take i).all (subT w)) ∧ tm 6 = .bool (decide ((0 : Int) < (l.length : Int)) && (l.take i).all (metT w))) (by omega) (by simp only [go_sem, ↓reduceIte, dropK_eq]) (by simp only [go_sem, ↓reduceIte, dropK_eq, List.take_zero, List.all_nil]) ?_
  rintro i tm hp nc hi hc k17 ⟨k5, k6⟩
  have k0 := hc 0 rfl; have k1 := hc 1 rfl; have k15 := hc 15 rfl; have k16 := hc 16 rfl; simp only [go_sem, ↓reduceIte, dropK_eq] at k0 k1 k15 k16
  rcases Nat.lt_or_ge i l.length with hlt | hge
  · have d1 : decide ((i : Int) < (l.length : Int)) = true := decide_eq_true (by omega)
    have d0 : decide ((0 : Int) < (l.length : Int)) = true := decide_eq_true (by omega)
    have ia := ha.ia hlt
    have hmi := hm _ (List.getElem_mem hlt)
    have hand := binA_and_i64 (a := l[i]) (b := w) (by omega) (by omega)
    have hadn := binA_andNot_i64 (a := l[i]) (b := w) (by omega) (by omega)
    rw [d0, Bool.true_and] at k5 k6
    rw [take_next hlt, List.all_append, List.all_append, List.all_cons, List.all_nil, Bool.and_true, List.all_cons, List.all_nil, Bool.and_true]
    generalize (l.take i).all (subT w) = e at *
    generalize (l.take i).all (metT w) = s at *
    rw [d0, Bool.true_and, Bool.true_and]
    have hE : subT w l[i] = decide (((adn l[i] w : Nat) : Int) = 0) := rfl
    have hS : metT w l[i] = decide (¬ ((l[i] &&& w : Nat) : Int) = 0) := rfl
    rw [hE, hS]
    cases e <;> cases s <;>
    · simp (disch := first | omega | simp only [*, go_sem, ↓reduceIte, dropK_eq]) only [x175l3, go_sem, ↓reduceIte, dropK_eq, k0, k1, k15, k16, k17, k5, k6, d1, ia, hand, hadn]
      exact ⟨hlt, by simp⟩
  · obtain rfl : i = l.length := by omega
    have d1 : decide ((l.length : Int) < (l.length : Int)) = false := decide_eq_false (by omega)
    rw [List.take_length] at k5 k6
    have e189 := F189_eq (e := eachE l w) (s := eachS l w)
    rw [show (decide ((0 : Int) < (l.length : Int)) && l.all (subT w)) = eachE l w from rfl] at k5
    rw [show (decide ((0 : Int) < (l.length : Int)) && l.all (metT w)) = eachS l w from rfl] at k6
    simp (disch := first | omega | simp only [go_sem, ↓reduceIte, dropK_eq]) only [x175l3, go_sem, ↓reduceIte, dropK_eq, k0, k1, k15, k16, k17, k5, k6, d1, callX_known (C := C14) (g := 189) rfl, ft_call (C := C14) (g := 189) rfl, e189]
    exact Ends_plain rfl rfl
set_option maxRecDepth 10000
noncomputable def F178 : List AVal → Option AVal := pureF C14 1 178
theorem sound178 : Sound Tryz.prog 178 F178 := sound_self ok14 1 178
theorem F178_eq {i : Nat} : F178 [.int .i64 (i : Int)] = some (.bool true) := by
  unfold F178
  refine pureF_of (x := x178) rfl rfl ?_
  rw [x178_eq.1, x178_eq.2.1]
  simp (disch := first | omega | simp only [go_sem, ↓reduceIte, dropK_eq]) only [x178b, go_sem, ↓reduceIte, dropK_eq]
  exact Ends_plain rfl rfl
noncomputable def F179 : List AVal → Option AVal := pureF C14 1 179
theorem sound179 : Sound Tryz.prog 179 F179 := sound_self ok14 1 179
theorem F179_eq {i : Nat} : F179 [.int .i64 (i : Int)] = some (.bool false) := by
  unfold F179
  refine pureF_of (x := x179) rfl rfl ?_
  rw [x179_eq.1, x179_eq.2.1]
  simp (disch := first | omega | simp only [go_sem, ↓reduceIte, dropK_eq]) only [x179b, go_sem, ↓reduceIte, dropK_eq]
  exact Ends_plain rfl rfl
def upA (i : Nat) : Bool := decide (((i : Int)).tmod 2 = 0)
def upB (i : Nat) : Bool := decide (((i : Int)).tmod 2 = 1)
noncomputable def F180 : List AVal → Option AVal := pureF C14 1 180
theorem sound180 : Sound Tryz.prog 180 F180 := sound_self ok14 1 180
theorem F180_eq {i : Nat} : F180 [.int .i64 (i : Int)] = some (.bool (upA i)) := by
  unfold F180
  refine pureF_of (x := x180) rfl rfl ?_
  rw [x180_eq.1, x180_eq.2.1]
  simp (disch := first | omega | simp only [go_sem, ↓reduceIte, dropK_eq]) only [x180b, go_sem, ↓reduceIte, dropK_eq]
  exact Ends_plain rfl rfl
noncomputable def F181 : List AVal → Option AVal := pureF C14 1 181
theorem sound181 : Sound Tryz.prog 181 F181 := sound_self ok14 1 181
theorem F181_eq {i : Nat} : F181 [.int .i64 (i : Int)] = some (.bool (upB i)) := by
  unfold F181
  refine pureF_of (x := x181) rfl rfl ?_
  rw [x181_eq.1, x181_eq.2.1]
  simp (disch := first | omega | simp only [go_sem, ↓reduceIte, dropK_eq]) only [x181b, go_sem, ↓reduceIte, dropK_eq]
  exact Ends_plain rfl rfl
noncomputable def C15 : Cfg := ((((C14.add 175 F175).add 178 F178).add 179 F179).add 180 F180).add 181 F181
theorem ok15 : CfgOk Tryz.prog C15 := ((((ok14.add sound175).add sound178).add sound179).add sound180).add sound181
def stpS (up : Bool) (h x r : Nat) : Nat × Bool :=
  if up = true then (x &&& aboveN (loB (max r 1) + 1), decide (((hiB h : Nat) : Int) - 4 < ((loB x : Nat) : Int) - 4))
  else (x &&& (2 ^ hiB (max r 1) - 1), decide (((hiB x : Nat) : Int) - 4 < ((loB h : Nat) : Int) - 4))
def stp (up : Nat → Bool) (l : List Nat) : Nat → Nat × Bool × Bool
  | 0 => (0, decide ((0 : Int) < (l.length : Int)), decide ((0 : Int) < (l.length : Int)))
  | i + 1 => if i = 0 then (l.getD 0 0, (stp up l i).2.1, (stp up l i).2.2) else
    let s := stp up l i
    let n := stpS (up i) (l.getD (i - 1) 0) (l.getD i 0) s.1
    (n.1, (s.2.1 && n.2), (s.2.2 && decide (¬ ((n.1 : Nat) : Int) = 0)))
theorem aboveN_le (k : Nat) : aboveN k ≤ 512 := Nat.sub_le _ _
theorem getD_nat {l : List Nat} {i : Nat} (h : i < l.length) : l.getD i 0 = l[i] := by rw [List.getD_eq_getElem?_getD, List.getElem?_eq_getElem h]; rfl
noncomputable def F177 : List AVal → Option AVal := pureF C15 1 177
theorem sound177 : Sound Tryz.prog 177 F177 := sound_self ok15 1 177
theorem F177_eq {a : AVal} {l : List Nat} {g : FuncId} {up : Nat → Bool} {Fu : List AVal → Option AVal} (ha : Rg 3 PK a l) (hl : l.length ≤ 15) (hm : ∀ m ∈ l, Mk m) (hg : C15.Γ g = some Fu) (hu : ∀ i : Nat, Fu [.int .i64 (i : Int)] = some (.bool (up i))) :
    F177 [a, .fn (.func g) [] []] = some (.int .i64 (sureI (stp up l l.length).2.1 (stp up l l.length).2.2)) := by
  unfold F177
  refine pureF_of (x := x177) rfl rfl ?_
  rw [x177_eq.1, x177_eq.2.1]
  simp (disch := first | omega | simp only [go_sem, ↓reduceIte, dropK_eq]) only [x177b, go_sem, ↓reduceIte, dropK_eq, ha.len]
  refine Ev_range (ti := 25) (len := l.length) (J := fun i tm hp nc => tm 5 = .bool (stp up l i).2.1 ∧ tm 6 = .bool (stp up l i).2.2 ∧ tm 7 = .int .i64 ((stp up l i).1 : Nat) ∧ (stp up l i).1 ≤ 511) (by omega) (by simp only [go_sem, ↓reduceIte, dropK_eq]) (by simp only [go_sem, ↓reduceIte, dropK_eq, stp, Int.natCast_zero]; try decide) ?_
  rintro i tm hp nc hi hc k25 ⟨k5, k6, k7, hr⟩
  have k0 := hc 0 rfl; have k1 := hc 1 rfl; have k23 := hc 23 rfl; have k24 := hc 24 rfl; simp only [go_sem, ↓reduceIte, dropK_eq] at k0 k1 k23 k24
  rcases Nat.lt_or_ge i l.length with hlt | hge
  · have d1 : decide ((i : Int) < (l.length : Int)) = true := decide_eq_true (by omega)
    have ia := ha.ia hlt
    have hmi := hm _ (List.getElem_mem hlt)
    by_cases h0 : i = 0
    · have d2 : decide ((i : Int) = 0) = true := decide_eq_true (by omega)
      have e1 : stp up l (i + 1) = (l[i], (stp up l i).2.1, (stp up l i).2.2) := by
        rw [stp, if_pos h0]
        subst h0
        rw [getD_nat hlt]
      rw [e1]
      simp (disch := first | omega | simp only [*, go_sem, ↓reduceIte, dropK_eq]) only [x177l4, go_sem, ↓reduceIte, dropK_eq, k0, k1, k23, k24, k25, k5, k6, k7, d1, d2, ia]
      exact ⟨hlt, by simp, hmi.2⟩
    · have d2 : decide ((i : Int) = 0) = false := decide_eq_false (by omega)
      have w1 : (i : Int) - 1 = ((i - 1 : Nat) : Int) := by omega
      have hlp : i - 1 < l.length := by omega
      have ip := ha.ia hlp
      have hmp := hm _ (List.getElem_mem hlp)
      have e1 : stp up l (i + 1) = ((stpS (up i) l[i - 1] l[i] (stp up l i).1).1, ((stp up l i).2.1 && (stpS (up i) l[i - 1] l[i] (stp up l i).1).2), ((stp up l i).2.2 && decide (¬ (((stpS (up i) l[i - 1] l[i] (stp up l i).1).1 : Nat) : Int) = 0))) := by
        rw [stp, if_neg h0]
        simp only [getD_nat hlt, getD_nat hlp]
      rw [e1]
      have hui := hu i
      generalize hsi : stp up l i = s at *
      obtain ⟨r, e, b⟩ := s
      simp only at k5 k6 k7 hr ⊢
      unfold stpS
      have hq : Mk (max r 1) := ⟨by omega, by omega⟩
      have hx : mnxA true (.int .i64 (r : Int)) [.int .i64 1] = some (.int .i64 ((max r 1 : Nat) : Int)) := by
        simp only [mnxA, if_true]
        congr 2
        split <;> omega
      have e103 := F103_eq hq
      have ql := (loB_spec hq).2.1
      have qh := (hiB_spec hq).2.1
      generalize max r 1 = q at *
      have ple := (pow_9 (hiB q) (by omega)).1
      have ple1 := (pow_9 (hiB q) (by omega)).2
      have al := aboveN_le (loB q + 1)
      have w2 : ((loB q : Nat) : Int) - 4 + 1 = ((loB q + 1 : Nat) : Int) - 4 := by omega
      have e173 := F173_eq (c := ((loB q + 1 : Nat) : Int) - 4) (k := loB q + 1) (by omega) rfl
      have hand1 := binA_and_i64 (a := l[i]) (b := aboveN (loB q + 1)) (by omega) (by omega)
      have hand2 := binA_and_i64 (a := l[i]) (b := 2 ^ hiB q - 1) (by omega) (by omega)
      have w3 : ((hiB q : Nat) : Int) - 4 + 4 = ((hiB q : Nat) : Int) := by omega
      have s1 : binA .shl (.int .i64 1) (.int .i64 ((hiB q : Nat) : Int)) = some (.int .i64 ((2 ^ hiB q : Nat) : Int)) := binA_shl_i (by omega) (by simp) (by omega)
      have w4 : ((2 ^ hiB q : Nat) : Int) - 1 = ((2 ^ hiB q - 1 : Nat) : Int) := by omega
      have hle1 : l[i] &&& aboveN (loB q + 1) ≤ 511 := Nat.le_trans Nat.and_le_left hmi.2
      have hle2 : l[i] &&& (2 ^ hiB q - 1) ≤ 511 := Nat.le_trans Nat.and_le_left hmi.2
      generalize hw5 : l[i] &&& aboveN (loB q + 1) = y1 at *
      generalize hw6 : l[i] &&& (2 ^ hiB q - 1) = y2 at *
      generalize (2 : Nat) ^ hiB q = pw at *
      have lb1 := (loB_spec hmi).2.1
      have lb2 := (loB_spec hmp).2.1
      have lb3 := (hiB_spec hmi).2.1
      have lb4 := (hiB_spec hmp).2.1
      generalize hup : up i = u at *
      cases u <;> cases e <;> cases b
      all_goals
        simp (disch := first | omega | simp only [*, go_sem, ↓reduceIte, dropK_eq]) only [x177l4, go_sem, ↓reduceIte, dropK_eq, k0, k1, k23, k24, k25, k5, k6, k7, d1, d2, ia, ip, w1, hx, callX_known (C := C15) (g := 103) rfl, ft_call (C := C15) (g := 103) rfl, callX_known (C := C15) (g := 173) rfl, ft_call (C := C15) (g := 173) rfl, e103, e173, callX_known (C := C15) (g := g) hg, hui, w2, w3, w4, s1, hand1, hand2]
        refine ⟨hlt, ?_⟩
        repeat' refine And.intro ?_ ?_
        all_goals first | exact hle1 | exact hle2 | rfl | simp
  · obtain rfl : i = l.length := by omega
    have d1 : decide ((l.length : Int) < (l.length : Int)) = false := decide_eq_false (by omega)
    have e189 := F189_eq (e := (stp up l l.length).2.1) (s := (stp up l l.length).2.2)
    simp (disch := first | omega | simp only [go_sem, ↓reduceIte, dropK_eq]) only [x177l4, go_sem, ↓reduceIte, dropK_eq, k0, k1, k23, k24, k25, k5, k6, d1, callX_known (C := C15) (g := 189) rfl, ft_call (C := C15) (g := 189) rfl, e189]
    exact Ends_plain rfl rfl
set_option maxRecDepth 10000
noncomputable def C16 : Cfg := C15.add 177 F177
theorem ok16 : CfgOk Tryz.prog C16 := ok15.add sound177
def chs (need : Int) (A B : Nat) : List Nat → Int → Int → Bool × Bool → Bool × Bool
  | [], h, l, s => ((s.1 && (decide (need ≤ h) || decide (need ≤ l))), (s.2 || (decide (need ≤ h) || decide (need ≤ l))))
  | m :: ms, h, l, s =>
    let s1 := if decide (¬ ((m &&& A : Nat) : Int) = 0) = true then chs need A B ms (h + 1) l s else s
    let s2 := if decide (¬ ((m &&& B : Nat) : Int) = 0) = true then chs need A B ms h (l + 1) s1 else s1
    if decide (¬ ((adn m (A ||| B) : Nat) : Int) = 0) = true then chs need A B ms h l s2 else s2
def CW (need : Int) (A B : Nat) (hp : Heap) (s : Bool × Bool) : Prop :=
  hp (182000000, 0) = some (.var [.int .i64 need]) ∧ hp (182000001, 0) = some (.var [.int .i64 (A : Int)]) ∧ hp (182000002, 0) = some (.var [.int .i64 (B : Int)]) ∧
  hp (182001003, 1) = some (.var [.bool s.1]) ∧ hp (182001004, 1) = some (.var [.bool s.2]) ∧
  hp (182002000, 2) = some (.var [.fn (.func 190) [] [.ptr (182000000, 0) 0 0 0 0, .ptr (182001003, 1) 0 0 0 0, .ptr (182001004, 1) 0 0 0 0, .ptr (182000001, 0) 0 0 0 0, .ptr (182002000, 2) 0 0 0 0, .ptr (182000002, 0) 0 0 0 0]])
theorem chs190 {need : Int} {A B : Nat} (hA : A < 512) (hB : B < 512) : ∀ (l : List Nat) (a : AVal) (h lo : Int) (s : Bool × Bool) (d : Nat) (hp : Heap) (nc : Nat) (K : AVal × Heap × Nat → Prop), Rg 3 PK a l → (∀ m ∈ l, Mk m) →
    0 ≤ h → 0 ≤ lo → h + l.length ≤ 100 → lo + l.length ≤ 100 → CW need A B hp s → (∀ hp' nc', CW need A B hp' (chs need A B l h lo s) → K (.tup [], hp', nc')) →
    Bd (inlD C16 (d + l.length + 1) 190 [a, .int .i64 h, .int .i64 lo, .ptr (182000000, 0) 0 0 0 0, .ptr (182001003, 1) 0 0 0 0, .ptr (182001004, 1) 0 0 0 0, .ptr (182000001, 0) 0 0 0 0, .ptr (182002000, 2) 0 0 0 0, .ptr (182000002, 0) 0 0 0 0] hp nc) K
  | [], a, h, lo, (e, b), d, hp, nc, K, ha, hm, h0, l0, h1, l1, ⟨k1, k2, k3, k4, k5, k6⟩, hK => by
    refine inl_of (x := x190) rfl rfl ?_
    rw [x190_eq.1, x190_eq.2.1]
    simp only at k4 k5
    simp only [chs] at hK
    generalize hd1 : decide (need ≤ h) = d1 at *
    generalize hd2 : decide (need ≤ lo) = d2 at *
    cases e <;> cases b <;> cases d1 <;> cases d2
    all_goals
      simp (disch := first | omega | simp only [*, go_sem, ↓reduceIte, dropK_eq]) only [x190b, go_sem, ↓reduceIte, dropK_eq, ha.len, k1, k2, k3, k4, k5, k6, hd1, hd2]
      refine hK _ _ ?_
      simp only [CW, go_sem, ↓reduceIte, dropK_eq, k1, k2, k3, k4, k5, k6]
  | m :: ms, a, h, lo, s, d, hp, nc, K, ha, hm, h0, l0, h1, l1, hw, hK => by
    have hmm := hm m (by simp)
    have hms : ∀ x ∈ ms, Mk x := fun x hx => hm x (by simp [hx])
    have ia := ha.ia (i := 0) (by simp)
    have hs := ha.sliceFrom (n := 1) (by simp)
    have hr := ha.drop 1
    have iw : (((0 : Nat) : Int)) = 0 := rfl
    have iw1 : (((1 : Nat) : Int)) = 1 := rfl
    rw [iw] at ia
    rw [iw1] at hs
    simp only [List.getElem_cons_zero] at ia
    rw [List.drop_succ_cons, List.drop_zero] at hr
    simp only [List.length_cons, Int.natCast_add, Int.natCast_one] at h1 l1
    have w1 : h + 1 ≤ 9223372036854775807 := by omega
    have hor : A ||| B < 2 ^ 9 := Nat.or_lt_two_pow (by omega) (by omega)
    have b1 := binA_and_i64 (a := m) (b := A) (by omega) (by omega)
    have b2 := binA_and_i64 (a := m) (b := B) (by omega) (by omega)
    have b3 := binA_or_i64 (a := A) (b := B) (by omega) (by omega)
    have b4 := binA_andNot_i64 (a := m) (b := A ||| B) (by omega) (by omega)
    have hl0 : decide (((ms.length + 1 : Nat) : Int) = 0) = false := decide_eq_false (by omega)
    have ih := chs190 (need := need) hA hB ms (rwDrop 1 a)
    simp only [chs] at hK
    generalize hc1 : decide (¬ ((m &&& A : Nat) : Int) = 0) = c1 at *
    generalize hc2 : decide (¬ ((m &&& B : Nat) : Int) = 0) = c2 at *
    generalize hc3 : decide (¬ ((adn m (A ||| B) : Nat) : Int) = 0) = c3 at *
    have hcall : ∀ (h' lo' : Int) (s' : Bool × Bool) (hp' : Heap) (nc' : Nat) (K' : AVal × Heap × Nat → Prop), 0 ≤ h' → 0 ≤ lo' → h' + ms.length ≤ 100 → lo' + ms.length ≤ 100 → CW need A B hp' s' → (∀ hp'' nc'', CW need A B hp'' (chs need A B ms h' lo' s') → K' (.tup [], hp'', nc'')) →
        Bd (callX C16 (inlD C16 (d + (m :: ms).length)) (.fn (.func 190) [] [.ptr (182000000, 0) 0 0 0 0, .ptr (182001003, 1) 0 0 0 0, .ptr (182001004, 1) 0 0 0 0, .ptr (182000001, 0) 0 0 0 0, .ptr (182002000, 2) 0 0 0 0, .ptr (182000002, 0) 0 0 0 0]) [rwDrop 1 a, .int .i64 h', .int .i64 lo'] hp' nc') K' := by
      intro h' lo' s' hp' nc' K' q1 q2 q3 q4 q5 q6
      rw [call_inl (C := C16) (g := 190) rfl]
      exact ih h' lo' s' d hp' nc' K' hr hms q1 q2 q3 q4 q5 q6
    clear ih
    refine inl_of (x := x190) rfl rfl ?_
    rw [x190_eq.1, x190_eq.2.1]
    obtain ⟨k1, k2, k3, k4, k5, k6⟩ := id hw
    cases c1 with
    | true =>
      cases c2 with
      | true =>
        cases c3 with
        | true =>
          simp only [if_true, if_false, Bool.false_eq_true] at hK
          simp (disch := first | omega | simp only [*, go_sem, ↓reduceIte, dropK_eq]) only [x190b, go_sem, ↓reduceIte, dropK_eq, ha.len, hl0, ia, k1, k2, k3, k4, k5, k6, b1, b2, b3, b4, hc1, hc2, hc3, hs]
          refine hcall (h + 1) lo _ _ _ _ (by omega) (by omega) (by omega) (by omega) hw fun hp1 nc1 q1 => ?_
          clear k1 k2 k3 k4 k5 k6
          obtain ⟨k1, k2, k3, k4, k5, k6⟩ := id q1
          simp (disch := first | omega | simp only [*, go_sem, ↓reduceIte, dropK_eq]) only [go_sem, ↓reduceIte, dropK_eq, k1, k2, k3, k4, k5, k6, b1, b2, b3, b4, hc1, hc2, hc3, hs]
          refine hcall h (lo + 1) _ _ _ _ (by omega) (by omega) (by omega) (by omega) q1 fun hp2 nc2 q2 => ?_
          clear k1 k2 k3 k4 k5 k6
          obtain ⟨k1, k2, k3, k4, k5, k6⟩ := id q2
          simp (disch := first | omega | simp only [*, go_sem, ↓reduceIte, dropK_eq]) only [go_sem, ↓reduceIte, dropK_eq, k1, k2, k3, k4, k5, k6, b1, b2, b3, b4, hc1, hc2, hc3, hs]
          refine hcall h lo _ _ _ _ (by omega) (by omega) (by omega) (by omega) q2 fun hp3 nc3 q3 => ?_
          clear k1 k2 k3 k4 k5 k6
          obtain ⟨k1, k2, k3, k4, k5, k6⟩ := id q3
          simp (disch := first | omega | simp only [*, go_sem, ↓reduceIte, dropK_eq]) only [go_sem, ↓reduceIte, dropK_eq, k1, k2, k3, k4, k5, k6, b1, b2, b3, b4, hc1, hc2, hc3, hs]
          exact hK _ _ q3
        | false =>
          simp only [if_true, if_false, Bool.false_eq_true] at hK
          simp (disch := first | omega | simp only [*, go_sem, ↓reduceIte, dropK_eq]) only [x190b, go_sem, ↓reduceIte, dropK_eq, ha.len, hl0, ia, k1, k2, k3, k4, k5, k6, b1, b2, b3, b4, hc1, hc2, hc3, hs]
          refine hcall (h + 1) lo _ _ _ _ (by omega) (by omega) (by omega) (by omega) hw fun hp1 nc1 q1 => ?_
          clear k1 k2 k3 k4 k5 k6
          obtain ⟨k1, k2, k3, k4, k5, k6⟩ := id q1
          simp (disch := first | omega | simp only [*, go_sem, ↓reduceIte, dropK_eq]) only [go_sem, ↓reduceIte, dropK_eq, k1, k2, k3, k4, k5, k6, b1, b2, b3, b4, hc1, hc2, hc3, hs]
          refine hcall h (lo + 1) _ _ _ _ (by omega) (by omega) (by omega) (by omega) q1 fun hp2 nc2 q2 => ?_
          clear k1 k2 k3 k4 k5 k6
          obtain ⟨k1, k2, k3, k4, k5, k6⟩ := id q2
          simp (disch := first | omega | simp only [*, go_sem, ↓reduceIte, dropK_eq]) only [go_sem, ↓reduceIte, dropK_eq, k1, k2, k3, k4, k5, k6, b1, b2, b3, b4, hc1, hc2, hc3, hs]
          exact hK _ _ q2
      | false =>
        cases c3 with
        | true =>
          simp only [if_true, if_false, Bool.false_eq_true] at hK
          simp (disch := first | omega | simp only [*, go_sem, ↓reduceIte, dropK_eq]) only [x190b, go_sem, ↓reduceIte, dropK_eq, ha.len, hl0, ia, k1, k2, k3, k4, k5, k6, b1, b2, b3, b4, hc1, hc2, hc3, hs]
          refine hcall (h + 1) lo _ _ _ _ (by omega) (by omega) (by omega) (by omega) hw fun hp1 nc1 q1 => ?_
          clear k1 k2 k3 k4 k5 k6
          obtain ⟨k1, k2, k3, k4, k5, k6⟩ := id q1
          simp (disch := first | omega | simp only [*, go_sem, ↓reduceIte, dropK_eq]) only [go_sem, ↓reduceIte, dropK_eq, k1, k2, k3, k4, k5, k6, b1, b2, b3, b4, hc1, hc2, hc3, hs]
          refine hcall h lo _ _ _ _ (by omega) (by omega) (by omega) (by omega) q1 fun hp2 nc2 q2 => ?_
          clear k1 k2 k3 k4 k5 k6
          obtain ⟨k1, k2, k3, k4, k5, k6⟩ := id q2
          simp (disch := first | omega | simp only [*, go_sem, ↓reduceIte, dropK_eq]) only [go_sem, ↓reduceIte, dropK_eq, k1, k2, k3, k4, k5, k6, b1, b2, b3, b4, hc1, hc2, hc3, hs]
          exact hK _ _ q2
        | false =>
          simp only [if_true, if_false, Bool.false_eq_true] at hK
          simp (disch := first | omega | simp only [*, go_sem, ↓reduceIte, dropK_eq]) only [x190b, go_sem, ↓reduceIte, dropK_eq, ha.len, hl0, ia, k1, k2, k3, k4, k5, k6, b1, b2, b3, b4, hc1, hc2, hc3, hs]
          refine hcall (h + 1) lo _ _ _ _ (by omega) (by omega) (by omega) (by omega) hw fun hp1 nc1 q1 => ?_
          clear k1 k2 k3 k4 k5 k6
          obtain ⟨k1, k2, k3, k4, k5, k6⟩ := id q1
          simp (disch := first | omega | simp only [*, go_sem, ↓reduceIte, dropK_eq]) only [go_sem, ↓reduceIte, dropK_eq, k1, k2, k3, k4, k5, k6, b1, b2, b3, b4, hc1, hc2, hc3, hs]
          exact hK _ _ q1
    | false =>
      cases c2 with
      | true =>
        cases c3 with
        | true =>
          simp only [if_true, if_false, Bool.false_eq_true] at hK
          simp (disch := first | omega | simp only [*, go_sem, ↓reduceIte, dropK_eq]) only [x190b, go_sem, ↓reduceIte, dropK_eq, ha.len, hl0, ia, k1, k2, k3, k4, k5, k6, b1, b2, b3, b4, hc1, hc2, hc3, hs]
          refine hcall h (lo + 1) _ _ _ _ (by omega) (by omega) (by omega) (by omega) hw fun hp1 nc1 q1 => ?_
          clear k1 k2 k3 k4 k5 k6
          obtain ⟨k1, k2, k3, k4, k5, k6⟩ := id q1
          simp (disch := first | omega | simp only [*, go_sem, ↓reduceIte, dropK_eq]) only [go_sem, ↓reduceIte, dropK_eq, k1, k2, k3, k4, k5, k6, b1, b2, b3, b4, hc1, hc2, hc3, hs]
          refine hcall h lo _ _ _ _ (by omega) (by omega) (by omega) (by omega) q1 fun hp2 nc2 q2 => ?_
          clear k1 k2 k3 k4 k5 k6
          obtain ⟨k1, k2, k3, k4, k5, k6⟩ := id q2
          simp (disch := first | omega | simp only [*, go_sem, ↓reduceIte, dropK_eq]) only [go_sem, ↓reduceIte, dropK_eq, k1, k2, k3, k4, k5, k6, b1, b2, b3, b4, hc1, hc2, hc3, hs]
          exact hK _ _ q2
        | false =>
          simp only [if_true, if_false, Bool.false_eq_true] at hK
          simp (disch := first | omega | simp only [*, go_sem, ↓reduceIte, dropK_eq]) only [x190b, go_sem, ↓reduceIte, dropK_eq, ha.len, hl0, ia, k1, k2, k3, k4, k5, k6, b1, b2, b3, b4, hc1, hc2, hc3, hs]
          refine hcall h (lo + 1) _ _ _ _ (by omega) (by omega) (by omega) (by omega) hw fun hp1 nc1 q1 => ?_
          clear k1 k2 k3 k4 k5 k6
          obtain ⟨k1, k2, k3, k4, k5, k6⟩ := id q1
          simp (disch := first | omega | simp only [*, go_sem, ↓reduceIte, dropK_eq]) only [go_sem, ↓reduceIte, dropK_eq, k1, k2, k3, k4, k5, k6, b1, b2, b3, b4, hc1, hc2, hc3, hs]
          exact hK _ _ q1
      | false =>
        cases c3 with
        | true =>
          simp only [if_true, if_false, Bool.false_eq_true] at hK
          simp (disch := first | omega | simp only [*, go_sem, ↓reduceIte, dropK_eq]) only [x190b, go_sem, ↓reduceIte, dropK_eq, ha.len, hl0, ia, k1, k2, k3, k4, k5, k6, b1, b2, b3, b4, hc1, hc2, hc3, hs]
          refine hcall h lo _ _ _ _ (by omega) (by omega) (by omega) (by omega) hw fun hp1 nc1 q1 => ?_
          clear k1 k2 k3 k4 k5 k6
          obtain ⟨k1, k2, k3, k4, k5, k6⟩ := id q1
          simp (disch := first | omega | simp only [*, go_sem, ↓reduceIte, dropK_eq]) only [go_sem, ↓reduceIte, dropK_eq, k1, k2, k3, k4, k5, k6, b1, b2, b3, b4, hc1, hc2, hc3, hs]
          exact hK _ _ q1
        | false =>
          simp only [if_true, if_false, Bool.false_eq_true] at hK
          simp (disch := first | omega | simp only [*, go_sem, ↓reduceIte, dropK_eq]) only [x190b, go_sem, ↓reduceIte, dropK_eq, ha.len, hl0, ia, k1, k2, k3, k4, k5, k6, b1, b2, b3, b4, hc1, hc2, hc3, hs]
          exact hK _ _ hw
theorem chs190' {need : Int} {A B : Nat} (hA : A < 512) (hB : B < 512) {l : List Nat} {a : AVal} {s : Bool × Bool} {n : Nat} {hp : Heap} {nc : Nat} {K : AVal × Heap × Nat → Prop} (hn : l.length < n) (ha : Rg 3 PK a l) (hm : ∀ m ∈ l, Mk m) (hl : l.length ≤ 50)
    (hw : CW need A B hp s) (hK : ∀ hp' nc', CW need A B hp' (chs need A B l 0 0 s) → K (.tup [], hp', nc')) :
    Bd (inlD C16 n 190 [a, .int .i64 0, .int .i64 0, .ptr (182000000, 0) 0 0 0 0, .ptr (182001003, 1) 0 0 0 0, .ptr (182001004, 1) 0 0 0 0, .ptr (182000001, 0) 0 0 0 0, .ptr (182002000, 2) 0 0 0 0, .ptr (182000002, 0) 0 0 0 0] hp nc) K := by
  obtain ⟨d, rfl⟩ : ∃ d, n = d + l.length + 1 := ⟨n - (l.length + 1), by omega⟩
  exact chs190 hA hB l a 0 0 s d hp nc K ha hm (by decide) (by decide) (by omega) (by omega) hw hK
noncomputable def F182 : List AVal → Option AVal := pureF C16 17 182
theorem sound182 : Sound Tryz.prog 182 F182 := sound_self ok16 17 182
theorem F182_eq {a : AVal} {l : List Nat} {need x y : Int} {A B : Nat} (ha : Rg 3 PK a l) (hl : l.length ≤ 15) (hm : ∀ m ∈ l, Mk m) (hx : x = A) (hy : y = B) (hA : A < 512) (hB : B < 512) :
    F182 [a, .int .i64 need, .int .i64 x, .int .i64 y] = some (.int .i64 (sureI (if 0 < l.length then (chs need A B l 0 0 (true, false)).1 else false) (if 0 < l.length then (chs need A B l 0 0 (true, false)).2 else false))) := by
  subst hx hy
  unfold F182
  refine pureF_of (x := x182) rfl rfl ?_
  rw [x182_eq.1, x182_eq.2.1]
  by_cases h : 0 < l.length
  · have d1 : decide ((0 : Int) < (l.length : Int)) = true := decide_eq_true (by omega)
    have e189 := F189_eq (e := (chs need A B l 0 0 (true, false)).1) (s := (chs need A B l 0 0 (true, false)).2)
    rw [if_pos h, if_pos h]
    simp (disch := first | omega | simp only [*, go_sem, ↓reduceIte, dropK_eq]) only [x182b, go_sem, ↓reduceIte, dropK_eq, ha.len, d1, call_inl (C := C16) (g := 190) rfl, ft_inl (C := C16) (g := 190) rfl]
    refine chs190' (need := need) (s := (true, false)) hA hB (by omega) ha hm (by omega) ?_ fun hp' nc' hw => ?_
    · simp only [CW, go_sem, ↓reduceIte, dropK_eq]
    · obtain ⟨k1, k2, k3, k4, k5, k6⟩ := hw
      simp (disch := first | omega | simp only [*, go_sem, ↓reduceIte, dropK_eq]) only [go_sem, ↓reduceIte, dropK_eq, k4, k5, callX_known (C := C16) (g := 189) rfl, ft_call (C := C16) (g := 189) rfl, e189]
      exact Ends_plain rfl rfl
  · have d1 : decide ((0 : Int) < (l.length : Int)) = false := decide_eq_false (by omega)
    have e189 := F189_eq (e := false) (s := false)
    rw [if_neg h, if_neg h]
    simp (disch := first | omega | simp only [*, go_sem, ↓reduceIte, dropK_eq]) only [x182b, go_sem, ↓reduceIte, dropK_eq, ha.len, d1, callX_known (C := C16) (g := 189) rfl, ft_call (C := C16) (g := 189) rfl, e189]
    exact Ends_plain rfl rfl
set_option maxRecDepth 10000
noncomputable def C17 : Cfg := C16.add 182 F182
theorem ok17 : CfgOk Tryz.prog C17 := ok16.add sound182
theorem lastN_len (l : List Nat) (n : Nat) : (lastN l n).length ≤ l.length := by
  unfold lastN; split <;> simp
theorem lastN_mem {l : List Nat} {n m : Nat} (h : m ∈ lastN l n) : m ∈ l := by
  unfold lastN at h
  split at h
  · cases h
  · exact List.mem_of_mem_drop h
def eachI (w : Nat) (q : List Nat) : Int := sureI (eachE q w) (eachS q w)
def stpI (up : Nat → Bool) (q : List Nat) : Int := sureI (stp up q q.length).2.1 (stp up q q.length).2.2
def cntI (need : Int) (A B : Nat) (q : List Nat) : Int := sureI (if 0 < q.length then (chs need A B q 0 0 (true, false)).1 else false) (if 0 < q.length then (chs need A B q 0 0 (true, false)).2 else false)
def ruleI (l : List Nat) : Nat → Int
  | 0 => eachI 257 (lastN l 1)
  | 1 => maxI (eachI 480 (lastN l 9)) (eachI 15 (lastN l 9))
  | 2 => maxI (stpI (fun _ => true) (lastN l 6)) (stpI (fun _ => false) (lastN l 6))
  | 3 => maxI (stpI upA (lastN l 14)) (stpI upB (lastN l 14))
  | 4 => cntI 2 384 3 (lastN l 3)
  | 5 => cntI 4 448 7 (lastN l 5)
  | 6 => eachI 56 (lastN l 15)
  | _ => eachI 455 (lastN l 8)
noncomputable def F141 : List AVal → Option AVal := pureF C17 1 141
theorem sound141 : Sound Tryz.prog 141 F141 := sound_self ok17 1 141
theorem F141_eq {a : AVal} {l : List Nat} (ha : Rg 3 PK a l) (hl : l.length ≤ 15) (hm : ∀ m ∈ l, Mk m) : F141 [a] = some (.int .i64 (ruleI l 0)) := by
  have hpa := ha.plain
  have hpq := (Rg.last ha 1).plain
  have e174 := F174_eq (c := 1) (n := 1) ha hl rfl (by decide)
  have hq := Rg.last ha 1
  have hql := Nat.le_trans (lastN_len l 1) hl
  have hqm : ∀ m ∈ lastN l 1, Mk m := fun m h => hm m (lastN_mem h)
  have e := F175_eq (c := 257) (w := 257) hq hql hqm rfl (by decide)
  unfold F141
  refine pureF_of (x := x141) rfl rfl ?_
  rw [x141_eq.1, x141_eq.2.1]
  simp (disch := first | omega | simp only [*, go_sem, ↓reduceIte, dropK_eq]) only [x141b, go_sem, ↓reduceIte, dropK_eq, callX_known (C := C17) (g := 174) rfl, ft_call (C := C17) (g := 174) rfl, callX_known (C := C17) (g := 173) rfl, ft_call (C := C17) (g := 173) rfl, callX_known (C := C17) (g := 175) rfl, ft_call (C := C17) (g := 175) rfl, callX_known (C := C17) (g := 176) rfl, ft_call (C := C17) (g := 176) rfl, callX_known (C := C17) (g := 182) rfl, ft_call (C := C17) (g := 182) rfl, callX_names (C := C17) (g := 177) rfl, ftC_names (C := C17) (g := 177) rfl, F173_1, F173_2, F173_3, F173_4, e174, F176_eq, e, show binA .or (.int .i64 256) (.int .i64 1) = some (.int .i64 257) from rfl]
  exact Ends_plain rfl rfl
noncomputable def F142 : List AVal → Option AVal := pureF C17 1 142
theorem sound142 : Sound Tryz.prog 142 F142 := sound_self ok17 1 142
theorem F142_eq {a : AVal} {l : List Nat} (ha : Rg 3 PK a l) (hl : l.length ≤ 15) (hm : ∀ m ∈ l, Mk m) : F142 [a] = some (.int .i64 (ruleI l 1)) := by
  have hpa := ha.plain
  have hpq := (Rg.last ha 9).plain
  have e174 := F174_eq (c := 9) (n := 9) ha hl rfl (by decide)
  have hq := Rg.last ha 9
  have hql := Nat.le_trans (lastN_len l 9) hl
  have hqm : ∀ m ∈ lastN l 9, Mk m := fun m h => hm m (lastN_mem h)
  have e := F175_eq (c := 480) (w := 480) hq hql hqm rfl (by decide); have e' := F175_eq (c := 15) (w := 15) hq hql hqm rfl (by decide)
  unfold F142
  refine pureF_of (x := x142) rfl rfl ?_
  rw [x142_eq.1, x142_eq.2.1]
  simp (disch := first | omega | simp only [*, go_sem, ↓reduceIte, dropK_eq]) only [x142b, go_sem, ↓reduceIte, dropK_eq, callX_known (C := C17) (g := 174) rfl, ft_call (C := C17) (g := 174) rfl, callX_known (C := C17) (g := 173) rfl, ft_call (C := C17) (g := 173) rfl, callX_known (C := C17) (g := 175) rfl, ft_call (C := C17) (g := 175) rfl, callX_known (C := C17) (g := 176) rfl, ft_call (C := C17) (g := 176) rfl, callX_known (C := C17) (g := 182) rfl, ft_call (C := C17) (g := 182) rfl, callX_names (C := C17) (g := 177) rfl, ftC_names (C := C17) (g := 177) rfl, F173_1, F173_2, F173_3, F173_4, e174, F176_eq, e, e']
  exact Ends_plain rfl rfl
noncomputable def F143 : List AVal → Option AVal := pureF C17 1 143
theorem sound143 : Sound Tryz.prog 143 F143 := sound_self ok17 1 143
theorem F143_eq {a : AVal} {l : List Nat} (ha : Rg 3 PK a l) (hl : l.length ≤ 15) (hm : ∀ m ∈ l, Mk m) : F143 [a] = some (.int .i64 (ruleI l 2)) := by
  have hpa := ha.plain
  have hpq := (Rg.last ha 6).plain
  have e174 := F174_eq (c := 6) (n := 6) ha hl rfl (by decide)
  have hq := Rg.last ha 6
  have hql := Nat.le_trans (lastN_len l 6) hl
  have hqm : ∀ m ∈ lastN l 6, Mk m := fun m h => hm m (lastN_mem h)
  have e := F177_eq (g := 178) hq hql hqm rfl (fun i => F178_eq); have e' := F177_eq (g := 179) hq hql hqm rfl (fun i => F179_eq)
  unfold F143
  refine pureF_of (x := x143) rfl rfl ?_
  rw [x143_eq.1, x143_eq.2.1]
  simp (disch := first | omega | simp only [*, go_sem, ↓reduceIte, dropK_eq]) only [x143b, go_sem, ↓reduceIte, dropK_eq, callX_known (C := C17) (g := 174) rfl, ft_call (C := C17) (g := 174) rfl, callX_known (C := C17) (g := 173) rfl, ft_call (C := C17) (g := 173) rfl, callX_known (C := C17) (g := 175) rfl, ft_call (C := C17) (g := 175) rfl, callX_known (C := C17) (g := 176) rfl, ft_call (C := C17) (g := 176) rfl, callX_known (C := C17) (g := 182) rfl, ft_call (C := C17) (g := 182) rfl, callX_names (C := C17) (g := 177) rfl, ftC_names (C := C17) (g := 177) rfl, F173_1, F173_2, F173_3, F173_4, e174, F176_eq, e, e']
  exact Ends_plain rfl rfl
noncomputable def F144 : List AVal → Option AVal := pureF C17 1 144
theorem sound144 : Sound Tryz.prog 144 F144 := sound_self ok17 1 144
theorem F144_eq {a : AVal} {l : List Nat} (ha : Rg 3 PK a l) (hl : l.length ≤ 15) (hm : ∀ m ∈ l, Mk m) : F144 [a] = some (.int .i64 (ruleI l 3)) := by
  have hpa := ha.plain
  have hpq := (Rg.last ha 14).plain
  have e174 := F174_eq (c := 14) (n := 14) ha hl rfl (by decide)
  have hq := Rg.last ha 14
  have hql := Nat.le_trans (lastN_len l 14) hl
  have hqm : ∀ m ∈ lastN l 14, Mk m := fun m h => hm m (lastN_mem h)
  have e := F177_eq (g := 180) hq hql hqm rfl (fun i => F180_eq); have e' := F177_eq (g := 181) hq hql hqm rfl (fun i => F181_eq)
  unfold F144
  refine pureF_of (x := x144) rfl rfl ?_
  rw [x144_eq.1, x144_eq.2.1]
  simp (disch := first | omega | simp only [*, go_sem, ↓reduceIte, dropK_eq]) only [x144b, go_sem, ↓reduceIte, dropK_eq, callX_known (C := C17) (g := 174) rfl, ft_call (C := C17) (g := 174) rfl, callX_known (C := C17) (g := 173) rfl, ft_call (C := C17) (g := 173) rfl, callX_known (C := C17) (g := 175) rfl, ft_call (C := C17) (g := 175) rfl, callX_known (C := C17) (g := 176) rfl, ft_call (C := C17) (g := 176) rfl, callX_known (C := C17) (g := 182) rfl, ft_call (C := C17) (g := 182) rfl, callX_names (C := C17) (g := 177) rfl, ftC_names (C := C17) (g := 177) rfl, F173_1, F173_2, F173_3, F173_4, e174, F176_eq, e, e']
  exact Ends_plain rfl rfl
noncomputable def F145 : List AVal → Option AVal := pureF C17 1 145
theorem sound145 : Sound Tryz.prog 145 F145 := sound_self ok17 1 145
theorem F145_eq {a : AVal} {l : List Nat} (ha : Rg 3 PK a l) (hl : l.length ≤ 15) (hm : ∀ m ∈ l, Mk m) : F145 [a] = some (.int .i64 (ruleI l 4)) := by
  have hpa := ha.plain
  have hpq := (Rg.last ha 3).plain
  have e174 := F174_eq (c := 3) (n := 3) ha hl rfl (by decide)
  have hq := Rg.last ha 3
  have hql := Nat.le_trans (lastN_len l 3) hl
  have hqm : ∀ m ∈ lastN l 3, Mk m := fun m h => hm m (lastN_mem h)
  have e := F182_eq (need := 2) (x := 384) (y := 3) (A := 384) (B := 3) hq hql hqm rfl rfl (by decide) (by decide)
  unfold F145
  refine pureF_of (x := x145) rfl rfl ?_
  rw [x145_eq.1, x145_eq.2.1]
  simp (disch := first | omega | simp only [*, go_sem, ↓reduceIte, dropK_eq]) only [x145b, go_sem, ↓reduceIte, dropK_eq, callX_known (C := C17) (g := 174) rfl, ft_call (C := C17) (g := 174) rfl, callX_known (C := C17) (g := 173) rfl, ft_call (C := C17) (g := 173) rfl, callX_known (C := C17) (g := 175) rfl, ft_call (C := C17) (g := 175) rfl, callX_known (C := C17) (g := 176) rfl, ft_call (C := C17) (g := 176) rfl, callX_known (C := C17) (g := 182) rfl, ft_call (C := C17) (g := 182) rfl, callX_names (C := C17) (g := 177) rfl, ftC_names (C := C17) (g := 177) rfl, F173_1, F173_2, F173_3, F173_4, e174, F176_eq, e]
  exact Ends_plain rfl rfl
noncomputable def F146 : List AVal → Option AVal := pureF C17 1 146
theorem sound146 : Sound Tryz.prog 146 F146 := sound_self ok17 1 146
theorem F146_eq {a : AVal} {l : List Nat} (ha : Rg 3 PK a l) (hl : l.length ≤ 15) (hm : ∀ m ∈ l, Mk m) : F146 [a] = some (.int .i64 (ruleI l 5)) := by
  have hpa := ha.plain
  have hpq := (Rg.last ha 5).plain
  have e174 := F174_eq (c := 5) (n := 5) ha hl rfl (by decide)
  have hq := Rg.last ha 5
  have hql := Nat.le_trans (lastN_len l 5) hl
  have hqm : ∀ m ∈ lastN l 5, Mk m := fun m h => hm m (lastN_mem h)
  have e := F182_eq (need := 4) (x := 448) (y := 7) (A := 448) (B := 7) hq hql hqm rfl rfl (by decide) (by decide)
  unfold F146
  refine pureF_of (x := x146) rfl rfl ?_
  rw [x146_eq.1, x146_eq.2.1]
  simp (disch := first | omega | simp only [*, go_sem, ↓reduceIte, dropK_eq]) only [x146b, go_sem, ↓reduceIte, dropK_eq, callX_known (C := C17) (g := 174) rfl, ft_call (C := C17) (g := 174) rfl, callX_known (C := C17) (g := 173) rfl, ft_call (C := C17) (g := 173) rfl, callX_known (C := C17) (g := 175) rfl, ft_call (C := C17) (g := 175) rfl, callX_known (C := C17) (g := 176) rfl, ft_call (C := C17) (g := 176) rfl, callX_known (C := C17) (g := 182) rfl, ft_call (C := C17) (g := 182) rfl, callX_names (C := C17) (g := 177) rfl, ftC_names (C := C17) (g := 177) rfl, F173_1, F173_2, F173_3, F173_4, e174, F176_eq, e]
  exact Ends_plain rfl rfl
noncomputable def F147 : List AVal → Option AVal := pureF C17 1 147
theorem sound147 : Sound Tryz.prog 147 F147 := sound_self ok17 1 147
theorem F147_eq {a : AVal} {l : List Nat} (ha : Rg 3 PK a l) (hl : l.length ≤ 15) (hm : ∀ m ∈ l, Mk m) : F147 [a] = some (.int .i64 (ruleI l 6)) := by
  have hpa := ha.plain
  have hpq := (Rg.last ha 15).plain
  have e174 := F174_eq (c := 15) (n := 15) ha hl rfl (by decide)
  have hq := Rg.last ha 15
  have hql := Nat.le_trans (lastN_len l 15) hl
  have hqm : ∀ m ∈ lastN l 15, Mk m := fun m h => hm m (lastN_mem h)
  have e := F175_eq (c := 56) (w := 56) hq hql hqm rfl (by decide)
  unfold F147
  refine pureF_of (x := x147) rfl rfl ?_
  rw [x147_eq.1, x147_eq.2.1]
  simp (disch := first | omega | simp only [*, go_sem, ↓reduceIte, dropK_eq]) only [x147b, go_sem, ↓reduceIte, dropK_eq, callX_known (C := C17) (g := 174) rfl, ft_call (C := C17) (g := 174) rfl, callX_known (C := C17) (g := 173) rfl, ft_call (C := C17) (g := 173) rfl, callX_known (C := C17) (g := 175) rfl, ft_call (C := C17) (g := 175) rfl, callX_known (C := C17) (g := 176) rfl, ft_call (C := C17) (g := 176) rfl, callX_known (C := C17) (g := 182) rfl, ft_call (C := C17) (g := 182) rfl, callX_names (C := C17) (g := 177) rfl, ftC_names (C := C17) (g := 177) rfl, F173_1, F173_2, F173_3, F173_4, e174, F176_eq, e]
  exact Ends_plain rfl rfl
noncomputable def F148 : List AVal → Option AVal := pureF C17 1 148
theorem sound148 : Sound Tryz.prog 148 F148 := sound_self ok17 1 148
theorem F148_eq {a : AVal} {l : List Nat} (ha : Rg 3 PK a l) (hl : l.length ≤ 15) (hm : ∀ m ∈ l, Mk m) : F148 [a] = some (.int .i64 (ruleI l 7)) := by
  have hpa := ha.plain
  have hpq := (Rg.last ha 8).plain
  have e174 := F174_eq (c := 8) (n := 8) ha hl rfl (by decide)
  have hq := Rg.last ha 8
  have hql := Nat.le_trans (lastN_len l 8) hl
  have hqm : ∀ m ∈ lastN l 8, Mk m := fun m h => hm m (lastN_mem h)
  have e := F175_eq (c := 455) (w := 455) hq hql hqm rfl (by decide)
  unfold F148
  refine pureF_of (x := x148) rfl rfl ?_
  rw [x148_eq.1, x148_eq.2.1]
  simp (disch := first | omega | simp only [*, go_sem, ↓reduceIte, dropK_eq]) only [x148b, go_sem, ↓reduceIte, dropK_eq, callX_known (C := C17) (g := 174) rfl, ft_call (C := C17) (g := 174) rfl, callX_known (C := C17) (g := 173) rfl, ft_call (C := C17) (g := 173) rfl, callX_known (C := C17) (g := 175) rfl, ft_call (C := C17) (g := 175) rfl, callX_known (C := C17) (g := 176) rfl, ft_call (C := C17) (g := 176) rfl, callX_known (C := C17) (g := 182) rfl, ft_call (C := C17) (g := 182) rfl, callX_names (C := C17) (g := 177) rfl, ftC_names (C := C17) (g := 177) rfl, F173_1, F173_2, F173_3, F173_4, e174, F176_eq, e, show binA .or (.int .i64 448) (.int .i64 7) = some (.int .i64 455) from rfl]
  exact Ends_plain rfl rfl
noncomputable def F104 : List AVal → Option AVal := pureF C17 1 104
theorem sound104 : Sound Tryz.prog 104 F104 := sound_self ok17 1 104
def ruleFs : List AVal := [.fn (.func 141) [] [], .fn (.func 142) [] [], .fn (.func 143) [] [], .fn (.func 144) [] [], .fn (.func 145) [] [], .fn (.func 146) [] [], .fn (.func 147) [] [], .fn (.func 148) [] []]
theorem F104_eq : F104 [] = some (.agg ruleFs) := by
  unfold F104
  refine pureF_of (x := x104) rfl rfl ?_
  rw [x104_eq.1, x104_eq.2.1]
  simp (disch := first | omega | simp only [go_sem, ↓reduceIte, dropK_eq]) only [x104b, go_sem, ↓reduceIte, dropK_eq]
  rw [Ends_eq]
  simp (disch := first | omega | simp only [go_sem, ↓reduceIte, dropK_eq]) only [go_sem, ↓reduceIte, dropK_eq]
  rfl
noncomputable def C18 : Cfg := ((((((((C17.add 141 F141).add 142 F142).add 143 F143).add 144 F144).add 145 F145).add 146 F146).add 147 F147).add 148 F148) |>.add 104 F104 |>.add 102 F102
theorem ok18 : CfgOk Tryz.prog C18 := (((((((((ok17.add sound141).add sound142).add sound143).add sound144).add sound145).add sound146).add sound147).add sound148).add sound104).add sound102
end Go.Proofs.YtldineoabbodpaaGreatDoor
