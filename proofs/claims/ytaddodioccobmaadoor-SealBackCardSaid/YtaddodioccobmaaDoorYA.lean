/-
  The functions that the statements reach, as the interpreter's texts, each checked against the translation.
-/
import Derived.Test.YtaddodioccobmaaDoorXZ
import Derived.Test.YtaddodioccobmaaDoorRows
set_option linter.unusedVariables false
namespace Go.Proofs.YtaddodioccobmaaDoor
open Go Go.Xec

abbrev x3r0 : List XOper := [
  ⟨(some 2), none, .mv (.c (.bool false))⟩]
abbrev x3r1 : List XOper := [
  ⟨(some 5), none, .mv (.t 0)⟩,
  ⟨(some 6), none, .call (.c (.fn (.func 7) [] [])) [(.t 5)]⟩,
  ⟨(some 0), none, .mv (.t 6)⟩]
abbrev x3r2 : List XOper := [
  ⟨(some 8), none, .mv (.t 0)⟩,
  ⟨(some 9), none, .call (.c (.fn (.func 8) [] [])) [(.t 8)]⟩,
  ⟨(some 7), none, .mv (.t 9)⟩,
  ⟨(some 10), none, .ext (.t 7) 0⟩,
  ⟨(some 11), none, .ext (.t 7) 1⟩,
  ⟨(some 3), none, .mv (.t 10)⟩,
  ⟨(some 4), none, .mv (.t 11)⟩]
abbrev x3r3 : List XOper := [
  ⟨(some 12), none, .mv (.t 0)⟩,
  ⟨(some 13), none, .call (.c (.fn (.func 9) [] [])) [(.t 12)]⟩,
  ⟨(some 14), none, .mv (.t 0)⟩,
  ⟨(some 15), none, .call (.c (.fn (.func 10) [] [])) [(.t 14)]⟩,
  ⟨(some 16), none, .bin .neq (.t 13) (.t 15)⟩,
  ⟨(some 17), none, .mv (.t 16)⟩,
  ⟨(some 18), (some (17, false)), .call (.c (.fn (.func 11) [] [])) []⟩,
  ⟨(some 19), (some (17, false)), .un .not (.t 18)⟩,
  ⟨(some 20), none, .pick (.t 17) (.c (.bool true)) (.t 19)⟩]
abbrev x3r4 : List XOper := [
  ⟨(some 2), none, .mv (.c (.bool false))⟩]
abbrev x3r5 : List XOper := [
  ⟨(some 21), none, .mv (.t 0)⟩,
  ⟨(some 22), none, .call (.c (.fn (.func 12) [] [])) [(.t 21)]⟩,
  ⟨(some 23), none, .un .not (.t 22)⟩]
abbrev x3r6 : List XOper := [
  ⟨(some 24), none, .mv (.t 4)⟩,
  ⟨(some 25), none, .bin .eql (.t 24) (.c (.int .i64 1))⟩,
  ⟨(some 26), none, .mv (.t 25)⟩,
  ⟨(some 27), (some (26, true)), .mv (.t 3)⟩,
  ⟨(some 28), (some (26, true)), .bin .eql (.t 27) (.c (.str ⟨#[]⟩))⟩,
  ⟨(some 29), none, .pick (.t 26) (.t 28) (.c (.bool false))⟩,
  ⟨(some 2), none, .mv (.t 29)⟩]
abbrev x3r7 : List XOper := [
  ⟨(some 30), none, .mv (.t 4)⟩,
  ⟨(some 31), none, .bin .eql (.t 30) (.c (.int .i64 0))⟩,
  ⟨(some 32), none, .mv (.t 31)⟩,
  ⟨(some 33), (some (32, true)), .mv (.t 3)⟩,
  ⟨(some 34), (some (32, true)), .mv (.t 0)⟩,
  ⟨(some 35), (some (32, true)), .call (.c (.fn (.func 13) [] [])) [(.t 34)]⟩,
  ⟨(some 36), (some (32, true)), .bin .eql (.t 33) (.t 35)⟩,
  ⟨(some 37), none, .pick (.t 32) (.t 36) (.c (.bool false))⟩,
  ⟨(some 2), none, .mv (.t 37)⟩]
/-- datum/datumlaw22.SealTells -/
abbrev x3b : XCode :=
  (.seq (.reg 0 x3r0 none)
  (.seq (.reg 1 x3r1 none)
  (.seq (.reg 2 x3r2 none)
  (.seq (.seq (.reg 3 x3r3 none)
  (.cond (.t 20)
    (.seq (.reg 4 x3r4 none)
    .ret)
    .skip))
  (.seq (.seq (.reg 5 x3r5 none)
  (.cond (.t 23)
    (.seq (.reg 6 x3r6 none)
    .ret)
    .skip))
  (.seq (.reg 7 x3r7 none)
  .ret))))))
def x3 : XFunc := ⟨38, 1, [.tmp 2], x3b⟩
theorem x3_ok : chkF Tryd.prog Tryd.f3 x3 = true := by kernel_rfl
theorem x3_eq : x3.body = x3b ∧ x3.res = [.tmp 2] ∧ x3.np = 1 := ⟨rfl, rfl, rfl⟩

abbrev x4r0 : List XOper := [
  ⟨(some 2), none, .mv (.c (.bool false))⟩]
abbrev x4r1 : List XOper := [
  ⟨(some 7), none, .mv (.t 0)⟩,
  ⟨(some 8), none, .call (.c (.fn (.func 7) [] [])) [(.t 7)]⟩,
  ⟨(some 0), none, .mv (.t 8)⟩]
abbrev x4r2 : List XOper := [
  ⟨(some 10), none, .mv (.t 0)⟩,
  ⟨(some 11), none, .call (.c (.fn (.func 14) [] [])) [(.t 10)]⟩,
  ⟨(some 9), none, .mv (.t 11)⟩,
  ⟨(some 12), none, .ext (.t 9) 0⟩,
  ⟨(some 13), none, .ext (.t 9) 1⟩,
  ⟨(some 3), none, .mv (.t 12)⟩,
  ⟨(some 4), none, .mv (.t 13)⟩]
abbrev x4r3 : List XOper := [
  ⟨(some 15), none, .mv (.t 0)⟩,
  ⟨(some 16), none, .call (.c (.fn (.func 15) [] [])) [(.t 15)]⟩,
  ⟨(some 14), none, .mv (.t 16)⟩,
  ⟨(some 17), none, .ext (.t 14) 0⟩,
  ⟨(some 18), none, .ext (.t 14) 1⟩,
  ⟨(some 5), none, .mv (.t 17)⟩,
  ⟨(some 6), none, .mv (.t 18)⟩]
abbrev x4r4 : List XOper := [
  ⟨(some 19), none, .call (.c (.fn (.func 11) [] [])) []⟩,
  ⟨(some 20), none, .mv (.t 19)⟩,
  ⟨(some 21), (some (20, true)), .mv (.t 4)⟩,
  ⟨(some 22), (some (20, true)), .mv (.t 6)⟩,
  ⟨(some 23), (some (20, true)), .bin .eql (.t 21) (.t 22)⟩,
  ⟨(some 24), none, .pick (.t 20) (.t 23) (.c (.bool false))⟩,
  ⟨(some 25), none, .mv (.t 24)⟩,
  ⟨(some 26), (some (25, true)), .mv (.t 3)⟩,
  ⟨(some 27), (some (25, true)), .mv (.t 5)⟩,
  ⟨(some 28), (some (25, true)), .bin .eql (.t 26) (.t 27)⟩,
  ⟨(some 29), none, .pick (.t 25) (.t 28) (.c (.bool false))⟩,
  ⟨(some 2), none, .mv (.t 29)⟩]
/-- datum/datumlaw22.SealOpens -/
abbrev x4b : XCode :=
  (.seq (.reg 0 x4r0 none)
  (.seq (.reg 1 x4r1 none)
  (.seq (.reg 2 x4r2 none)
  (.seq (.reg 3 x4r3 none)
  (.seq (.reg 4 x4r4 none)
  .ret)))))
def x4 : XFunc := ⟨30, 1, [.tmp 2], x4b⟩
theorem x4_ok : chkF Tryd.prog Tryd.f4 x4 = true := by kernel_rfl
theorem x4_eq : x4.body = x4b ∧ x4.res = [.tmp 2] ∧ x4.np = 1 := ⟨rfl, rfl, rfl⟩

abbrev x5r0 : List XOper := [
  ⟨(some 4), none, .mv (.c (.bool false))⟩]
abbrev x5r1 : List XOper := [
  ⟨(some 11), none, .mv (.t 0)⟩,
  ⟨(some 12), none, .call (.c (.fn (.func 7) [] [])) [(.t 11)]⟩,
  ⟨(some 13), none, .mv (.t 1)⟩,
  ⟨(some 14), none, .call (.c (.fn (.func 7) [] [])) [(.t 13)]⟩,
  ⟨(some 0), none, .mv (.t 12)⟩,
  ⟨(some 1), none, .mv (.t 14)⟩]
abbrev x5r2 : List XOper := [
  ⟨(some 16), none, .mv (.t 0)⟩,
  ⟨(some 17), none, .call (.c (.fn (.func 8) [] [])) [(.t 16)]⟩,
  ⟨(some 15), none, .mv (.t 17)⟩,
  ⟨(some 18), none, .ext (.t 15) 0⟩,
  ⟨(some 19), none, .ext (.t 15) 1⟩,
  ⟨(some 5), none, .mv (.t 18)⟩,
  ⟨(some 6), none, .mv (.t 19)⟩]
abbrev x5r3 : List XOper := [
  ⟨(some 20), none, .mv (.t 6)⟩,
  ⟨(some 21), none, .bin .eql (.t 20) (.c (.int .i64 0))⟩]
abbrev x5r4 : List XOper := [
  ⟨(some 23), none, .mv (.t 5)⟩,
  ⟨(some 24), none, .call (.c (.fn (.func 14) [] [])) [(.t 23)]⟩,
  ⟨(some 22), none, .mv (.t 24)⟩,
  ⟨(some 25), none, .ext (.t 22) 0⟩,
  ⟨(some 26), none, .ext (.t 22) 1⟩,
  ⟨(some 7), none, .mv (.t 25)⟩,
  ⟨(some 8), none, .mv (.t 26)⟩]
abbrev x5r5 : List XOper := [
  ⟨(some 27), none, .mv (.t 8)⟩,
  ⟨(some 28), none, .bin .neq (.t 27) (.c (.int .i64 0))⟩,
  ⟨(some 29), none, .mv (.t 28)⟩,
  ⟨(some 30), (some (29, false)), .mv (.t 7)⟩,
  ⟨(some 31), (some (29, false)), .mv (.t 0)⟩,
  ⟨(some 32), (some (29, false)), .bin .neq (.t 30) (.t 31)⟩,
  ⟨(some 33), none, .pick (.t 29) (.c (.bool true)) (.t 32)⟩,
  ⟨(some 34), none, .mv (.t 33)⟩,
  ⟨(some 35), (some (34, false)), .mv (.t 5)⟩,
  ⟨(some 36), (some (34, false)), .lenS (.t 35)⟩,
  ⟨(some 37), (some (34, false)), .mv (.t 0)⟩,
  ⟨(some 38), (some (34, false)), .lenS (.t 37)⟩,
  ⟨(some 39), (some (34, false)), .bin .add (.t 38) (.c (.int .i64 9))⟩,
  ⟨(some 40), (some (34, false)), .bin .neq (.t 36) (.t 39)⟩,
  ⟨(some 41), none, .pick (.t 34) (.c (.bool true)) (.t 40)⟩]
abbrev x5r6 : List XOper := [
  ⟨(some 4), none, .mv (.c (.bool false))⟩]
abbrev x5r7 : List XOper := [
  ⟨(some 43), none, .mv (.t 1)⟩,
  ⟨(some 44), none, .call (.c (.fn (.func 14) [] [])) [(.t 43)]⟩,
  ⟨(some 42), none, .mv (.t 44)⟩,
  ⟨(some 45), none, .ext (.t 42) 0⟩,
  ⟨(some 46), none, .ext (.t 42) 1⟩,
  ⟨(some 9), none, .mv (.t 45)⟩,
  ⟨(some 10), none, .mv (.t 46)⟩]
abbrev x5r8 : List XOper := [
  ⟨(some 47), none, .mv (.t 10)⟩,
  ⟨(some 48), none, .bin .neq (.t 47) (.c (.int .i64 0))⟩]
abbrev x5r9 : List XOper := [
  ⟨(some 49), none, .call (.c (.fn (.func 11) [] [])) []⟩,
  ⟨(some 50), none, .mv (.t 49)⟩,
  ⟨(some 51), (some (50, true)), .mv (.t 9)⟩,
  ⟨(some 52), (some (50, true)), .bin .eql (.t 51) (.c (.str ⟨#[]⟩))⟩,
  ⟨(some 53), none, .pick (.t 50) (.t 52) (.c (.bool false))⟩,
  ⟨(some 4), none, .mv (.t 53)⟩]
abbrev x5r10 : List XOper := [
  ⟨(some 55), none, .mv (.t 9)⟩,
  ⟨(some 56), none, .call (.c (.fn (.func 8) [] [])) [(.t 55)]⟩,
  ⟨(some 54), none, .mv (.t 56)⟩,
  ⟨(some 57), none, .ext (.t 54) 0⟩,
  ⟨(some 58), none, .ext (.t 54) 1⟩,
  ⟨(some 5), none, .mv (.t 57)⟩,
  ⟨(some 6), none, .mv (.t 58)⟩]
abbrev x5r11 : List XOper := [
  ⟨(some 59), none, .call (.c (.fn (.func 11) [] [])) []⟩,
  ⟨(some 60), none, .mv (.t 59)⟩,
  ⟨(some 61), (some (60, true)), .mv (.t 6)⟩,
  ⟨(some 62), (some (60, true)), .bin .eql (.t 61) (.c (.int .i64 0))⟩,
  ⟨(some 63), none, .pick (.t 60) (.t 62) (.c (.bool false))⟩,
  ⟨(some 64), none, .mv (.t 63)⟩,
  ⟨(some 65), (some (64, true)), .mv (.t 5)⟩,
  ⟨(some 66), (some (64, true)), .mv (.t 1)⟩,
  ⟨(some 67), (some (64, true)), .bin .eql (.t 65) (.t 66)⟩,
  ⟨(some 68), none, .pick (.t 64) (.t 67) (.c (.bool false))⟩,
  ⟨(some 4), none, .mv (.t 68)⟩]
/-- datum/datumlaw22.SealBack -/
abbrev x5b : XCode :=
  (.seq (.reg 0 x5r0 none)
  (.seq (.reg 1 x5r1 none)
  (.seq (.reg 2 x5r2 none)
  (.seq (.seq (.reg 3 x5r3 none)
  (.cond (.t 21)
    (.seq (.reg 4 x5r4 none)
    (.seq (.reg 5 x5r5 none)
    (.cond (.t 41)
      (.seq (.reg 6 x5r6 none)
      .ret)
      .skip)))
    .skip))
  (.seq (.reg 7 x5r7 none)
  (.seq (.seq (.reg 8 x5r8 none)
  (.cond (.t 48)
    (.seq (.reg 9 x5r9 none)
    .ret)
    .skip))
  (.seq (.reg 10 x5r10 none)
  (.seq (.reg 11 x5r11 none)
  .ret))))))))
def x5 : XFunc := ⟨69, 2, [.tmp 4], x5b⟩
theorem x5_ok : chkF Tryd.prog Tryd.f5 x5 = true := by kernel_rfl
theorem x5_eq : x5.body = x5b ∧ x5.res = [.tmp 4] ∧ x5.np = 2 := ⟨rfl, rfl, rfl⟩

abbrev x6r0 : List XOper := [
  ⟨(some 6), none, .mv (.c (.bool false))⟩]
abbrev x6r1 : List XOper := [
  ⟨(some 15), none, .mv (.t 0)⟩,
  ⟨(some 16), none, .call (.c (.fn (.func 7) [] [])) [(.t 15)]⟩,
  ⟨(some 0), none, .mv (.t 16)⟩]
abbrev x6r2 : List XOper := [
  ⟨(some 18), none, .mv (.t 0)⟩,
  ⟨(some 19), none, .call (.c (.fn (.func 8) [] [])) [(.t 18)]⟩,
  ⟨(some 17), none, .mv (.t 19)⟩,
  ⟨(some 20), none, .ext (.t 17) 0⟩,
  ⟨(some 21), none, .ext (.t 17) 1⟩,
  ⟨(some 7), none, .mv (.t 20)⟩,
  ⟨(some 8), none, .mv (.t 21)⟩]
abbrev x6r3 : List XOper := [
  ⟨(some 22), none, .mv (.t 8)⟩,
  ⟨(some 23), none, .bin .neq (.t 22) (.c (.int .i64 0))⟩,
  ⟨(some 24), none, .mv (.t 23)⟩,
  ⟨(some 25), (some (24, false)), .mv (.t 0)⟩,
  ⟨(some 26), (some (24, false)), .bin .eql (.t 25) (.c (.str ⟨#[]⟩))⟩,
  ⟨(some 27), none, .pick (.t 24) (.c (.bool true)) (.t 26)⟩]
abbrev x6r4 : List XOper := [
  ⟨(some 28), none, .call (.c (.fn (.func 11) [] [])) []⟩,
  ⟨(some 6), none, .mv (.t 28)⟩]
abbrev x6r5 : List XOper := [
  ⟨(some 29), none, .mv (.t 7)⟩,
  ⟨(some 30), none, .lenS (.t 29)⟩,
  ⟨(some 31), none, .mv (.t 0)⟩,
  ⟨(some 32), none, .lenS (.t 31)⟩,
  ⟨(some 33), none, .bin .add (.t 32) (.c (.int .i64 9))⟩,
  ⟨(some 34), none, .bin .neq (.t 30) (.t 33)⟩]
abbrev x6r6 : List XOper := [
  ⟨(some 6), none, .mv (.c (.bool false))⟩]
abbrev x6r7 : List XOper := [
  ⟨(some 35), none, .mv (.t 1)⟩,
  ⟨(some 36), none, .mv (.t 0)⟩,
  ⟨(some 37), none, .lenS (.t 36)⟩,
  ⟨(some 38), none, .bin .rem (.t 35) (.t 37)⟩,
  ⟨(some 39), none, .mv (.t 0)⟩,
  ⟨(some 40), none, .lenS (.t 39)⟩,
  ⟨(some 41), none, .bin .add (.t 38) (.t 40)⟩,
  ⟨(some 42), none, .mv (.t 0)⟩,
  ⟨(some 43), none, .lenS (.t 42)⟩,
  ⟨(some 44), none, .bin .rem (.t 41) (.t 43)⟩,
  ⟨(some 1), none, .mv (.t 44)⟩]
abbrev x6r8 : List XOper := [
  ⟨(some 45), none, .mv (.t 2)⟩,
  ⟨(some 46), none, .bin .eql (.t 45) (.c (.int .u8 10))⟩]
abbrev x6r9 : List XOper := [
  ⟨(some 2), none, .mv (.c (.int .u8 11))⟩]
abbrev x6r10 : List XOper := [
  ⟨(some 47), none, .mv (.t 0)⟩,
  ⟨(some 48), none, .mv (.t 1)⟩,
  ⟨(some 49), none, .slS (.t 47) none (some (.t 48))⟩,
  ⟨(some 50), none, .mv (.t 2)⟩,
  ⟨(some 51), none, .mkslice 1 (.int .u8 0) 1 [(0, (.t 50))]⟩,
  ⟨(some 52), none, .b2s (.t 51)⟩,
  ⟨(some 53), none, .bin .add (.t 49) (.t 52)⟩,
  ⟨(some 54), none, .mv (.t 0)⟩,
  ⟨(some 55), none, .mv (.t 1)⟩,
  ⟨(some 56), none, .bin .add (.t 55) (.c (.int .i64 1))⟩,
  ⟨(some 57), none, .slS (.t 54) (some (.t 56)) none⟩,
  ⟨(some 58), none, .bin .add (.t 53) (.t 57)⟩,
  ⟨(some 9), none, .mv (.t 58)⟩]
abbrev x6r11 : List XOper := [
  ⟨(some 59), none, .mv (.t 9)⟩,
  ⟨(some 60), none, .mv (.t 0)⟩,
  ⟨(some 61), none, .bin .neq (.t 59) (.t 60)⟩]
abbrev x6r12 : List XOper := [
  ⟨(some 63), none, .mv (.t 9)⟩,
  ⟨(some 64), none, .mv (.t 7)⟩,
  ⟨(some 65), none, .mv (.t 0)⟩,
  ⟨(some 66), none, .lenS (.t 65)⟩,
  ⟨(some 67), none, .slS (.t 64) (some (.t 66)) none⟩,
  ⟨(some 68), none, .bin .add (.t 63) (.t 67)⟩,
  ⟨(some 69), none, .call (.c (.fn (.func 14) [] [])) [(.t 68)]⟩,
  ⟨(some 62), none, .mv (.t 69)⟩,
  ⟨(some 70), none, .ext (.t 62) 0⟩,
  ⟨(some 71), none, .ext (.t 62) 1⟩,
  ⟨(some 10), none, .mv (.t 70)⟩,
  ⟨(some 11), none, .mv (.t 71)⟩]
abbrev x6r13 : List XOper := [
  ⟨(some 72), none, .mv (.t 9)⟩,
  ⟨(some 73), none, .call (.c (.fn (.func 9) [] [])) [(.t 72)]⟩,
  ⟨(some 74), none, .mv (.t 0)⟩,
  ⟨(some 75), none, .call (.c (.fn (.func 9) [] [])) [(.t 74)]⟩,
  ⟨(some 76), none, .bin .eql (.t 73) (.t 75)⟩,
  ⟨(some 77), none, .mv (.t 76)⟩,
  ⟨(some 78), (some (77, false)), .mv (.t 11)⟩,
  ⟨(some 79), (some (77, false)), .bin .neq (.t 78) (.c (.int .i64 13))⟩,
  ⟨(some 80), none, .pick (.t 77) (.c (.bool true)) (.t 79)⟩,
  ⟨(some 81), none, .mv (.t 80)⟩,
  ⟨(some 82), (some (81, false)), .mv (.t 10)⟩,
  ⟨(some 83), (some (81, false)), .bin .neq (.t 82) (.c (.str ⟨#[]⟩))⟩,
  ⟨(some 84), none, .pick (.t 81) (.c (.bool true)) (.t 83)⟩]
abbrev x6r14 : List XOper := [
  ⟨(some 6), none, .mv (.c (.bool false))⟩]
abbrev x6r15 : List XOper := [
  ⟨(some 85), none, .mv (.t 1)⟩,
  ⟨(some 86), none, .bin .add (.t 85) (.c (.int .i64 1))⟩,
  ⟨(some 87), none, .mv (.t 0)⟩,
  ⟨(some 88), none, .lenS (.t 87)⟩,
  ⟨(some 89), none, .bin .lss (.t 86) (.t 88)⟩,
  ⟨(some 90), none, .mv (.t 89)⟩,
  ⟨(some 91), (some (90, true)), .mv (.t 0)⟩,
  ⟨(some 92), (some (90, true)), .mv (.t 1)⟩,
  ⟨(some 93), (some (90, true)), .ixS (.t 91) (.t 92)⟩,
  ⟨(some 94), (some (90, true)), .mv (.t 0)⟩,
  ⟨(some 95), (some (90, true)), .mv (.t 1)⟩,
  ⟨(some 96), (some (90, true)), .bin .add (.t 95) (.c (.int .i64 1))⟩,
  ⟨(some 97), (some (90, true)), .ixS (.t 94) (.t 96)⟩,
  ⟨(some 98), (some (90, true)), .bin .neq (.t 93) (.t 97)⟩,
  ⟨(some 99), none, .pick (.t 90) (.t 98) (.c (.bool false))⟩]
abbrev x6r16 : List XOper := [
  ⟨(some 100), none, .mv (.t 0)⟩,
  ⟨(some 101), none, .mv (.t 1)⟩,
  ⟨(some 102), none, .slS (.t 100) none (some (.t 101))⟩,
  ⟨(some 103), none, .mv (.t 0)⟩,
  ⟨(some 104), none, .mv (.t 1)⟩,
  ⟨(some 105), none, .bin .add (.t 104) (.c (.int .i64 1))⟩,
  ⟨(some 106), none, .ixS (.t 103) (.t 105)⟩,
  ⟨(some 107), none, .mv (.t 0)⟩,
  ⟨(some 108), none, .mv (.t 1)⟩,
  ⟨(some 109), none, .ixS (.t 107) (.t 108)⟩,
  ⟨(some 110), none, .mkslice 1 (.int .u8 0) 2 [(0, (.t 106)), (1, (.t 109))]⟩,
  ⟨(some 111), none, .b2s (.t 110)⟩,
  ⟨(some 112), none, .bin .add (.t 102) (.t 111)⟩,
  ⟨(some 113), none, .mv (.t 0)⟩,
  ⟨(some 114), none, .mv (.t 1)⟩,
  ⟨(some 115), none, .bin .add (.t 114) (.c (.int .i64 2))⟩,
  ⟨(some 116), none, .slS (.t 113) (some (.t 115)) none⟩,
  ⟨(some 117), none, .bin .add (.t 112) (.t 116)⟩,
  ⟨(some 12), none, .mv (.t 117)⟩]
abbrev x6r17 : List XOper := [
  ⟨(some 119), none, .mv (.t 12)⟩,
  ⟨(some 120), none, .mv (.t 7)⟩,
  ⟨(some 121), none, .mv (.t 0)⟩,
  ⟨(some 122), none, .lenS (.t 121)⟩,
  ⟨(some 123), none, .slS (.t 120) (some (.t 122)) none⟩,
  ⟨(some 124), none, .bin .add (.t 119) (.t 123)⟩,
  ⟨(some 125), none, .call (.c (.fn (.func 14) [] [])) [(.t 124)]⟩,
  ⟨(some 118), none, .mv (.t 125)⟩,
  ⟨(some 126), none, .ext (.t 118) 0⟩,
  ⟨(some 127), none, .ext (.t 118) 1⟩,
  ⟨(some 13), none, .mv (.t 126)⟩,
  ⟨(some 14), none, .mv (.t 127)⟩]
abbrev x6r18 : List XOper := [
  ⟨(some 128), none, .mv (.t 12)⟩,
  ⟨(some 129), none, .call (.c (.fn (.func 9) [] [])) [(.t 128)]⟩,
  ⟨(some 130), none, .mv (.t 0)⟩,
  ⟨(some 131), none, .call (.c (.fn (.func 9) [] [])) [(.t 130)]⟩,
  ⟨(some 132), none, .bin .eql (.t 129) (.t 131)⟩,
  ⟨(some 133), none, .mv (.t 132)⟩,
  ⟨(some 134), (some (133, false)), .mv (.t 14)⟩,
  ⟨(some 135), (some (133, false)), .bin .neq (.t 134) (.c (.int .i64 13))⟩,
  ⟨(some 136), none, .pick (.t 133) (.c (.bool true)) (.t 135)⟩,
  ⟨(some 137), none, .mv (.t 136)⟩,
  ⟨(some 138), (some (137, false)), .mv (.t 13)⟩,
  ⟨(some 139), (some (137, false)), .bin .neq (.t 138) (.c (.str ⟨#[]⟩))⟩,
  ⟨(some 140), none, .pick (.t 137) (.c (.bool true)) (.t 139)⟩]
abbrev x6r19 : List XOper := [
  ⟨(some 6), none, .mv (.c (.bool false))⟩]
abbrev x6r20 : List XOper := [
  ⟨(some 141), none, .call (.c (.fn (.func 11) [] [])) []⟩,
  ⟨(some 6), none, .mv (.t 141)⟩]
/-- datum/datumlaw22.SealTurns -/
abbrev x6b : XCode :=
  (.seq (.reg 0 x6r0 none)
  (.seq (.reg 1 x6r1 none)
  (.seq (.reg 2 x6r2 none)
  (.seq (.seq (.reg 3 x6r3 none)
  (.cond (.t 27)
    (.seq (.reg 4 x6r4 none)
    .ret)
    .skip))
  (.seq (.seq (.reg 5 x6r5 none)
  (.cond (.t 34)
    (.seq (.reg 6 x6r6 none)
    .ret)
    .skip))
  (.seq (.reg 7 x6r7 none)
  (.seq (.seq (.reg 8 x6r8 none)
  (.cond (.t 46)
    (.reg 9 x6r9 none)
    .skip))
  (.seq (.reg 10 x6r10 (some ⟨[]⟩))
  (.seq (.seq (.reg 11 x6r11 none)
  (.cond (.t 61)
    (.seq (.reg 12 x6r12 none)
    (.seq (.reg 13 x6r13 none)
    (.cond (.t 84)
      (.seq (.reg 14 x6r14 none)
      .ret)
      .skip)))
    .skip))
  (.seq (.seq (.reg 15 x6r15 (some ⟨[]⟩))
  (.cond (.t 99)
    (.seq (.reg 16 x6r16 (some ⟨[]⟩))
    (.seq (.reg 17 x6r17 none)
    (.seq (.reg 18 x6r18 none)
    (.cond (.t 140)
      (.seq (.reg 19 x6r19 none)
      .ret)
      .skip))))
    .skip))
  (.seq (.reg 20 x6r20 none)
  .ret)))))))))))
def x6 : XFunc := ⟨142, 3, [.tmp 6], x6b⟩
theorem x6_ok : chkF Tryd.prog Tryd.f6 x6 = true := by kernel_rfl
theorem x6_eq : x6.body = x6b ∧ x6.res = [.tmp 6] ∧ x6.np = 3 := ⟨rfl, rfl, rfl⟩

abbrev x7r0 : List XOper := [
  ⟨(some 2), none, .mv (.c (.str ⟨#[]⟩))⟩]
abbrev x7r1 : List XOper := [
  ⟨(some 3), none, .mv (.t 0)⟩,
  ⟨(some 4), none, .mv (.t 0)⟩,
  ⟨(some 5), none, .lenS (.t 4)⟩,
  ⟨(some 6), none, .mnx false (.t 5) [(.c (.int .i64 230))]⟩,
  ⟨(some 7), none, .slS (.t 3) none (some (.t 6))⟩,
  ⟨(some 2), none, .mv (.t 7)⟩]
/-- datum/datumlaw22.few -/
abbrev x7b : XCode :=
  (.seq (.reg 0 x7r0 none)
  (.seq (.reg 1 x7r1 none)
  .ret))
def x7 : XFunc := ⟨8, 1, [.tmp 2], x7b⟩
theorem x7_ok : chkF Tryd.prog Tryd.f7 x7 = true := by kernel_rfl
theorem x7_eq : x7.body = x7b ∧ x7.res = [.tmp 2] ∧ x7.np = 1 := ⟨rfl, rfl, rfl⟩

abbrev x8r0 : List XOper := [
  ⟨(some 2), none, .mv (.c (.str ⟨#[]⟩))⟩,
  ⟨(some 3), none, .mv (.c (.int .i64 0))⟩]
abbrev x8r1 : List XOper := [
  ⟨(some 4), none, .mv (.t 0)⟩,
  ⟨(some 5), none, .call (.c (.fn (.func 16) [] [])) [(.t 4)]⟩,
  ⟨(some 6), none, .un .not (.t 5)⟩]
abbrev x8r2 : List XOper := [
  ⟨(some 2), none, .mv (.c (.str ⟨#[]⟩))⟩,
  ⟨(some 3), none, .mv (.c (.int .i64 1))⟩]
abbrev x8r3 : List XOper := [
  ⟨(some 7), none, .mv (.t 0)⟩,
  ⟨(some 8), none, .call (.c (.fn (.func 17) [] [])) [(.t 7)]⟩,
  ⟨(some 2), none, .mv (.t 8)⟩,
  ⟨(some 3), none, .mv (.c (.int .i64 0))⟩]
/-- datum/seal.Seal -/
abbrev x8b : XCode :=
  (.seq (.reg 0 x8r0 none)
  (.seq (.seq (.reg 1 x8r1 none)
  (.cond (.t 6)
    (.seq (.reg 2 x8r2 none)
    .ret)
    .skip))
  (.seq (.reg 3 x8r3 none)
  .ret)))
def x8 : XFunc := ⟨9, 1, [.tmp 2, .tmp 3], x8b⟩
theorem x8_ok : chkF Tryd.prog Tryd.f8 x8 = true := by kernel_rfl
theorem x8_eq : x8.body = x8b ∧ x8.res = [.tmp 2, .tmp 3] ∧ x8.np = 1 := ⟨rfl, rfl, rfl⟩

abbrev x9r0 : List XOper := [
  ⟨(some 2), none, .mv (.c (.int .i64 0))⟩]
abbrev x9r1 : List XOper := [
  ⟨(some 4), none, .build [(.int .i64 0), (.int .i64 0)] [(0, 1, (.c (.int .i64 1)))]⟩,
  ⟨(some 5), none, .mv (.t 0)⟩,
  ⟨(some 6), none, .build [(.int .i64 0), (.int .i64 0), (.str ⟨#[]⟩)] [(0, 2, (.t 4)), (2, 1, (.t 5))]⟩,
  ⟨(some 7), none, .box (.t 6)⟩,
  ⟨(some 3), none, .mv (.t 7)⟩]
abbrev x9r2 : List XOper := [
  ⟨(some 8), none, .mv (.t 3)⟩,
  ⟨(some 9), none, .call (.c (.fn (.func 18) [] [])) [(.t 8)]⟩,
  ⟨(some 2), none, .mv (.t 9)⟩]
/-- datum/seal.Sum -/
abbrev x9b : XCode :=
  (.seq (.reg 0 x9r0 none)
  (.seq (.reg 1 x9r1 none)
  (.seq (.reg 2 x9r2 none)
  .ret)))
def x9 : XFunc := ⟨10, 1, [.tmp 2], x9b⟩
theorem x9_ok : chkF Tryd.prog Tryd.f9 x9 = true := by kernel_rfl
theorem x9_eq : x9.body = x9b ∧ x9.res = [.tmp 2] ∧ x9.np = 1 := ⟨rfl, rfl, rfl⟩

abbrev x10r0 : List XOper := [
  ⟨(some 2), none, .mv (.c (.int .i64 0))⟩]
abbrev x10r1 : List XOper := [
  ⟨(some 3), none, .mv (.c (.int .i64 1))⟩]
abbrev x10r2 : List XOper := [
  ⟨(some 4), none, .mv (.c (.int .i64 0))⟩]
abbrev x10r3 : List XOper := [
  ⟨(some 5), none, .mv (.c (.int .i64 0))⟩]
abbrev x10r4 : List XOper := [
  ⟨(some 6), none, .mv (.t 5)⟩,
  ⟨(some 7), none, .mv (.t 0)⟩,
  ⟨(some 8), none, .lenS (.t 7)⟩,
  ⟨(some 9), none, .bin .lss (.t 6) (.t 8)⟩]
abbrev x10r6 : List XOper := [
  ⟨(some 12), none, .mv (.t 3)⟩,
  ⟨(some 13), none, .mv (.t 0)⟩,
  ⟨(some 14), none, .mv (.t 5)⟩,
  ⟨(some 15), none, .ixS (.t 13) (.t 14)⟩,
  ⟨(some 16), none, .conv .i64 (.t 15)⟩,
  ⟨(some 17), none, .bin .add (.t 12) (.t 16)⟩,
  ⟨(some 18), none, .bin .rem (.t 17) (.c (.int .i64 65521))⟩,
  ⟨(some 3), none, .mv (.t 18)⟩]
abbrev x10r7 : List XOper := [
  ⟨(some 19), none, .mv (.t 4)⟩,
  ⟨(some 20), none, .mv (.t 3)⟩,
  ⟨(some 21), none, .bin .add (.t 19) (.t 20)⟩,
  ⟨(some 22), none, .bin .rem (.t 21) (.c (.int .i64 65521))⟩,
  ⟨(some 4), none, .mv (.t 22)⟩]
abbrev x10r5 : List XOper := [
  ⟨(some 10), none, .mv (.t 5)⟩,
  ⟨(some 11), none, .bin .add (.t 10) (.c (.int .i64 1))⟩,
  ⟨(some 5), none, .mv (.t 11)⟩]
abbrev x10l4 : XCode :=
  (.seq (.seq (.reg 4 x10r4 none)
  (.cond (.t 9)
    .skip
    (.exit 0)))
  (.seq (.block 1
    (.seq (.reg 6 x10r6 none)
    (.reg 7 x10r7 none)))
  (.reg 5 x10r5 none)))
abbrev x10r8 : List XOper := [
  ⟨(some 23), none, .mv (.t 4)⟩,
  ⟨(some 24), none, .bin .mul (.c (.int .i64 65536)) (.t 23)⟩,
  ⟨(some 25), none, .mv (.t 3)⟩,
  ⟨(some 26), none, .bin .add (.t 24) (.t 25)⟩,
  ⟨(some 2), none, .mv (.t 26)⟩]
/-- datum/datumref22.Sum -/
abbrev x10b : XCode :=
  (.seq (.reg 0 x10r0 none)
  (.seq (.reg 1 x10r1 none)
  (.seq (.reg 2 x10r2 none)
  (.seq (.seq (.reg 3 x10r3 none)
  (.block 0
    (.loop x10l4)))
  (.seq (.reg 8 x10r8 none)
  .ret)))))
def x10 : XFunc := ⟨27, 1, [.tmp 2], x10b⟩
theorem x10_ok : chkF Tryd.prog Tryd.f10 x10 = true := by kernel_rfl
theorem x10_eq : x10.body = x10b ∧ x10.res = [.tmp 2] ∧ x10.np = 1 := ⟨rfl, rfl, rfl⟩

abbrev x11r0 : List XOper := [
  ⟨(some 0), none, .mv (.c (.bool false))⟩]
abbrev x11r1 : List XOper := [
  ⟨(some 4), none, .call (.c (.fn (.func 8) [] [])) [(.c (.str ⟨#[97, 98, 99]⟩))]⟩,
  ⟨(some 3), none, .mv (.t 4)⟩,
  ⟨(some 5), none, .ext (.t 3) 0⟩,
  ⟨(some 6), none, .ext (.t 3) 1⟩,
  ⟨(some 1), none, .mv (.t 5)⟩,
  ⟨(some 2), none, .mv (.t 6)⟩]
abbrev x11r2 : List XOper := [
  ⟨(some 7), none, .mv (.t 2)⟩,
  ⟨(some 8), none, .bin .eql (.t 7) (.c (.int .i64 0))⟩,
  ⟨(some 9), none, .mv (.t 8)⟩,
  ⟨(some 10), (some (9, true)), .mv (.t 1)⟩,
  ⟨(some 11), (some (9, true)), .bin .eql (.t 10) (.c (.str ⟨#[97, 98, 99, 32, 48, 50, 52, 100, 48, 49, 50, 55]⟩))⟩,
  ⟨(some 12), none, .pick (.t 9) (.t 11) (.c (.bool false))⟩,
  ⟨(some 13), none, .mv (.t 12)⟩,
  ⟨(some 14), (some (13, true)), .call (.c (.fn (.func 9) [] [])) [(.c (.str ⟨#[97, 98, 99]⟩))]⟩,
  ⟨(some 15), (some (13, true)), .bin .eql (.t 14) (.c (.int .i64 38600999))⟩,
  ⟨(some 16), none, .pick (.t 13) (.t 15) (.c (.bool false))⟩,
  ⟨(some 0), none, .mv (.t 16)⟩]
/-- datum/datumlaw22.alive -/
abbrev x11b : XCode :=
  (.seq (.reg 0 x11r0 none)
  (.seq (.reg 1 x11r1 none)
  (.seq (.reg 2 x11r2 none)
  .ret)))
def x11 : XFunc := ⟨17, 0, [.tmp 0], x11b⟩
theorem x11_ok : chkF Tryd.prog Tryd.f11 x11 = true := by kernel_rfl
theorem x11_eq : x11.body = x11b ∧ x11.res = [.tmp 0] ∧ x11.np = 0 := ⟨rfl, rfl, rfl⟩

abbrev x12r0 : List XOper := [
  ⟨(some 2), none, .mv (.c (.bool false))⟩]
abbrev x12r1 : List XOper := [
  ⟨(some 3), none, .mv (.c (.int .i64 0))⟩]
abbrev x12r2 : List XOper := [
  ⟨(some 4), none, .mv (.t 3)⟩,
  ⟨(some 5), none, .mv (.t 0)⟩,
  ⟨(some 6), none, .lenS (.t 5)⟩,
  ⟨(some 7), none, .bin .lss (.t 4) (.t 6)⟩]
abbrev x12r4 : List XOper := [
  ⟨(some 10), none, .mv (.t 0)⟩,
  ⟨(some 11), none, .mv (.t 3)⟩,
  ⟨(some 12), none, .ixS (.t 10) (.t 11)⟩,
  ⟨(some 13), none, .bin .eql (.t 12) (.c (.int .u8 10))⟩]
abbrev x12r5 : List XOper := [
  ⟨(some 2), none, .mv (.c (.bool false))⟩]
abbrev x12r3 : List XOper := [
  ⟨(some 8), none, .mv (.t 3)⟩,
  ⟨(some 9), none, .bin .add (.t 8) (.c (.int .i64 1))⟩,
  ⟨(some 3), none, .mv (.t 9)⟩]
abbrev x12l2 : XCode :=
  (.seq (.seq (.reg 2 x12r2 none)
  (.cond (.t 7)
    .skip
    (.exit 0)))
  (.seq (.block 1
    (.seq (.reg 4 x12r4 none)
    (.cond (.t 13)
      (.seq (.reg 5 x12r5 none)
      .ret)
      .skip)))
  (.reg 3 x12r3 none)))
abbrev x12r6 : List XOper := [
  ⟨(some 14), none, .mv (.t 0)⟩,
  ⟨(some 15), none, .lenS (.t 14)⟩,
  ⟨(some 16), none, .bin .leq (.t 15) (.c (.int .i64 200))⟩,
  ⟨(some 2), none, .mv (.t 16)⟩]
/-- datum/datumref22.Line -/
abbrev x12b : XCode :=
  (.seq (.reg 0 x12r0 none)
  (.seq (.seq (.reg 1 x12r1 none)
  (.block 0
    (.loop x12l2)))
  (.seq (.reg 6 x12r6 none)
  .ret)))
def x12 : XFunc := ⟨17, 1, [.tmp 2], x12b⟩
theorem x12_ok : chkF Tryd.prog Tryd.f12 x12 = true := by kernel_rfl
theorem x12_eq : x12.body = x12b ∧ x12.res = [.tmp 2] ∧ x12.np = 1 := ⟨rfl, rfl, rfl⟩

abbrev x13r0 : List XOper := [
  ⟨(some 2), none, .mv (.c (.str ⟨#[]⟩))⟩]
abbrev x13r1 : List XOper := [
  ⟨(some 3), none, .mv (.t 0)⟩,
  ⟨(some 4), none, .bin .add (.t 3) (.c (.str ⟨#[32]⟩))⟩,
  ⟨(some 5), none, .mv (.t 0)⟩,
  ⟨(some 6), none, .call (.c (.fn (.func 10) [] [])) [(.t 5)]⟩,
  ⟨(some 7), none, .call (.c (.fn (.func 19) [] [])) [(.t 6)]⟩,
  ⟨(some 8), none, .bin .add (.t 4) (.t 7)⟩,
  ⟨(some 2), none, .mv (.t 8)⟩]
/-- datum/datumref22.Seal -/
abbrev x13b : XCode :=
  (.seq (.reg 0 x13r0 none)
  (.seq (.reg 1 x13r1 none)
  .ret))
def x13 : XFunc := ⟨9, 1, [.tmp 2], x13b⟩
theorem x13_ok : chkF Tryd.prog Tryd.f13 x13 = true := by kernel_rfl
theorem x13_eq : x13.body = x13b ∧ x13.res = [.tmp 2] ∧ x13.np = 1 := ⟨rfl, rfl, rfl⟩

abbrev x14r0 : List XOper := [
  ⟨(some 2), none, .mv (.c (.str ⟨#[]⟩))⟩,
  ⟨(some 3), none, .mv (.c (.int .i64 0))⟩]
abbrev x14r1 : List XOper := [
  ⟨(some 5), none, .mv (.t 0)⟩,
  ⟨(some 6), none, .lenS (.t 5)⟩,
  ⟨(some 7), none, .bin .sub (.t 6) (.c (.int .i64 9))⟩,
  ⟨(some 4), none, .mv (.t 7)⟩]
abbrev x14r2 : List XOper := [
  ⟨(some 8), none, .mv (.t 4)⟩,
  ⟨(some 9), none, .bin .lss (.t 8) (.c (.int .i64 0))⟩,
  ⟨(some 10), none, .mv (.t 9)⟩,
  ⟨(some 11), (some (10, false)), .mv (.t 0)⟩,
  ⟨(some 12), (some (10, false)), .mv (.t 4)⟩,
  ⟨(some 13), (some (10, false)), .ixS (.t 11) (.t 12)⟩,
  ⟨(some 14), (some (10, false)), .bin .neq (.t 13) (.c (.int .u8 32))⟩,
  ⟨(some 15), none, .pick (.t 10) (.c (.bool true)) (.t 14)⟩,
  ⟨(some 16), none, .mv (.t 15)⟩,
  ⟨(some 17), (some (16, false)), .mv (.t 0)⟩,
  ⟨(some 18), (some (16, false)), .mv (.t 4)⟩,
  ⟨(some 19), (some (16, false)), .slS (.t 17) none (some (.t 18))⟩,
  ⟨(some 20), (some (16, false)), .call (.c (.fn (.func 16) [] [])) [(.t 19)]⟩,
  ⟨(some 21), (some (16, false)), .un .not (.t 20)⟩,
  ⟨(some 22), none, .pick (.t 16) (.c (.bool true)) (.t 21)⟩,
  ⟨(some 23), none, .mv (.t 22)⟩,
  ⟨(some 24), (some (23, false)), .mv (.t 0)⟩,
  ⟨(some 25), (some (23, false)), .mv (.t 4)⟩,
  ⟨(some 26), (some (23, false)), .bin .add (.t 25) (.c (.int .i64 1))⟩,
  ⟨(some 27), (some (23, false)), .slS (.t 24) (some (.t 26)) none⟩,
  ⟨(some 28), (some (23, false)), .call (.c (.fn (.func 20) [] [])) [(.t 27), (.c (.str ⟨#[48, 49, 50, 51, 52, 53, 54, 55, 56, 57, 97, 98, 99, 100, 101, 102]⟩))]⟩,
  ⟨(some 29), (some (23, false)), .bin .neq (.t 28) (.c (.str ⟨#[]⟩))⟩,
  ⟨(some 30), none, .pick (.t 23) (.c (.bool true)) (.t 29)⟩]
abbrev x14r3 : List XOper := [
  ⟨(some 2), none, .mv (.c (.str ⟨#[]⟩))⟩,
  ⟨(some 3), none, .mv (.c (.int .i64 14))⟩]
abbrev x14r4 : List XOper := [
  ⟨(some 31), none, .mv (.t 0)⟩,
  ⟨(some 32), none, .mv (.t 4)⟩,
  ⟨(some 33), none, .slS (.t 31) none (some (.t 32))⟩,
  ⟨(some 34), none, .call (.c (.fn (.func 17) [] [])) [(.t 33)]⟩,
  ⟨(some 35), none, .mv (.t 0)⟩,
  ⟨(some 36), none, .bin .neq (.t 34) (.t 35)⟩]
abbrev x14r5 : List XOper := [
  ⟨(some 2), none, .mv (.c (.str ⟨#[]⟩))⟩,
  ⟨(some 3), none, .mv (.c (.int .i64 13))⟩]
abbrev x14r6 : List XOper := [
  ⟨(some 37), none, .mv (.t 0)⟩,
  ⟨(some 38), none, .mv (.t 4)⟩,
  ⟨(some 39), none, .slS (.t 37) none (some (.t 38))⟩,
  ⟨(some 2), none, .mv (.t 39)⟩,
  ⟨(some 3), none, .mv (.c (.int .i64 0))⟩]
/-- datum/seal.Open -/
abbrev x14b : XCode :=
  (.seq (.reg 0 x14r0 none)
  (.seq (.reg 1 x14r1 none)
  (.seq (.seq (.reg 2 x14r2 none)
  (.cond (.t 30)
    (.seq (.reg 3 x14r3 none)
    .ret)
    .skip))
  (.seq (.seq (.reg 4 x14r4 none)
  (.cond (.t 36)
    (.seq (.reg 5 x14r5 none)
    .ret)
    .skip))
  (.seq (.reg 6 x14r6 none)
  .ret)))))
def x14 : XFunc := ⟨40, 1, [.tmp 2, .tmp 3], x14b⟩
theorem x14_ok : chkF Tryd.prog Tryd.f14 x14 = true := by kernel_rfl
theorem x14_eq : x14.body = x14b ∧ x14.res = [.tmp 2, .tmp 3] ∧ x14.np = 1 := ⟨rfl, rfl, rfl⟩

abbrev x15r0 : List XOper := [
  ⟨(some 2), none, .mv (.c (.str ⟨#[]⟩))⟩,
  ⟨(some 3), none, .mv (.c (.int .i64 0))⟩]
abbrev x15r1 : List XOper := [
  ⟨(some 7), none, .mv (.t 0)⟩,
  ⟨(some 8), none, .lenS (.t 7)⟩,
  ⟨(some 9), none, .bin .sub (.t 8) (.c (.int .i64 9))⟩,
  ⟨(some 4), none, .mv (.t 9)⟩]
abbrev x15r2 : List XOper := [
  ⟨(some 10), none, .mv (.t 4)⟩,
  ⟨(some 11), none, .bin .lss (.t 10) (.c (.int .i64 0))⟩,
  ⟨(some 12), none, .mv (.t 11)⟩,
  ⟨(some 13), (some (12, false)), .mv (.t 0)⟩,
  ⟨(some 14), (some (12, false)), .mv (.t 4)⟩,
  ⟨(some 15), (some (12, false)), .ixS (.t 13) (.t 14)⟩,
  ⟨(some 16), (some (12, false)), .bin .neq (.t 15) (.c (.int .u8 32))⟩,
  ⟨(some 17), none, .pick (.t 12) (.c (.bool true)) (.t 16)⟩,
  ⟨(some 18), none, .mv (.t 17)⟩,
  ⟨(some 19), (some (18, false)), .mv (.t 0)⟩,
  ⟨(some 20), (some (18, false)), .mv (.t 4)⟩,
  ⟨(some 21), (some (18, false)), .slS (.t 19) none (some (.t 20))⟩,
  ⟨(some 22), (some (18, false)), .call (.c (.fn (.func 12) [] [])) [(.t 21)]⟩,
  ⟨(some 23), (some (18, false)), .un .not (.t 22)⟩,
  ⟨(some 24), none, .pick (.t 18) (.c (.bool true)) (.t 23)⟩]
abbrev x15r3 : List XOper := [
  ⟨(some 2), none, .mv (.c (.str ⟨#[]⟩))⟩,
  ⟨(some 3), none, .mv (.c (.int .i64 14))⟩]
abbrev x15r4 : List XOper := [
  ⟨(some 25), none, .mv (.t 4)⟩,
  ⟨(some 26), none, .bin .add (.t 25) (.c (.int .i64 1))⟩,
  ⟨(some 5), none, .mv (.t 26)⟩]
abbrev x15r5 : List XOper := [
  ⟨(some 27), none, .mv (.t 5)⟩,
  ⟨(some 28), none, .mv (.t 0)⟩,
  ⟨(some 29), none, .lenS (.t 28)⟩,
  ⟨(some 30), none, .bin .lss (.t 27) (.t 29)⟩]
abbrev x15r7 : List XOper := [
  ⟨(some 33), none, .mv (.t 0)⟩,
  ⟨(some 34), none, .mv (.t 5)⟩,
  ⟨(some 35), none, .ixS (.t 33) (.t 34)⟩,
  ⟨(some 6), none, .mv (.t 35)⟩]
abbrev x15r8 : List XOper := [
  ⟨(some 36), none, .mv (.t 6)⟩,
  ⟨(some 37), none, .bin .geq (.t 36) (.c (.int .u8 48))⟩,
  ⟨(some 38), none, .mv (.t 37)⟩,
  ⟨(some 39), (some (38, true)), .mv (.t 6)⟩,
  ⟨(some 40), (some (38, true)), .bin .leq (.t 39) (.c (.int .u8 57))⟩,
  ⟨(some 41), none, .pick (.t 38) (.t 40) (.c (.bool false))⟩,
  ⟨(some 42), none, .mv (.t 41)⟩,
  ⟨(some 43), (some (42, false)), .mv (.t 6)⟩,
  ⟨(some 44), (some (42, false)), .bin .geq (.t 43) (.c (.int .u8 97))⟩,
  ⟨(some 45), (some (42, false)), .mv (.t 44)⟩,
  ⟨(some 46), (some (45, true)), .mv (.t 6)⟩,
  ⟨(some 47), (some (45, true)), .bin .leq (.t 46) (.c (.int .u8 102))⟩,
  ⟨(some 48), (some (42, false)), .pick (.t 45) (.t 47) (.c (.bool false))⟩,
  ⟨(some 49), none, .pick (.t 42) (.c (.bool true)) (.t 48)⟩,
  ⟨(some 50), none, .un .not (.t 49)⟩]
abbrev x15r9 : List XOper := [
  ⟨(some 2), none, .mv (.c (.str ⟨#[]⟩))⟩,
  ⟨(some 3), none, .mv (.c (.int .i64 14))⟩]
abbrev x15r6 : List XOper := [
  ⟨(some 31), none, .mv (.t 5)⟩,
  ⟨(some 32), none, .bin .add (.t 31) (.c (.int .i64 1))⟩,
  ⟨(some 5), none, .mv (.t 32)⟩]
abbrev x15l5 : XCode :=
  (.seq (.seq (.reg 5 x15r5 none)
  (.cond (.t 30)
    .skip
    (.exit 0)))
  (.seq (.block 1
    (.seq (.reg 7 x15r7 none)
    (.seq (.reg 8 x15r8 none)
    (.cond (.t 50)
      (.seq (.reg 9 x15r9 none)
      .ret)
      .skip))))
  (.reg 6 x15r6 none)))
abbrev x15r10 : List XOper := [
  ⟨(some 51), none, .mv (.t 0)⟩,
  ⟨(some 52), none, .mv (.t 4)⟩,
  ⟨(some 53), none, .slS (.t 51) none (some (.t 52))⟩,
  ⟨(some 54), none, .call (.c (.fn (.func 13) [] [])) [(.t 53)]⟩,
  ⟨(some 55), none, .mv (.t 0)⟩,
  ⟨(some 56), none, .bin .neq (.t 54) (.t 55)⟩]
abbrev x15r11 : List XOper := [
  ⟨(some 2), none, .mv (.c (.str ⟨#[]⟩))⟩,
  ⟨(some 3), none, .mv (.c (.int .i64 13))⟩]
abbrev x15r12 : List XOper := [
  ⟨(some 57), none, .mv (.t 0)⟩,
  ⟨(some 58), none, .mv (.t 4)⟩,
  ⟨(some 59), none, .slS (.t 57) none (some (.t 58))⟩,
  ⟨(some 2), none, .mv (.t 59)⟩,
  ⟨(some 3), none, .mv (.c (.int .i64 0))⟩]
/-- datum/datumref22.Open -/
abbrev x15b : XCode :=
  (.seq (.reg 0 x15r0 none)
  (.seq (.reg 1 x15r1 none)
  (.seq (.seq (.reg 2 x15r2 none)
  (.cond (.t 24)
    (.seq (.reg 3 x15r3 none)
    .ret)
    .skip))
  (.seq (.seq (.reg 4 x15r4 none)
  (.block 0
    (.loop x15l5)))
  (.seq (.seq (.reg 10 x15r10 none)
  (.cond (.t 56)
    (.seq (.reg 11 x15r11 none)
    .ret)
    .skip))
  (.seq (.reg 12 x15r12 none)
  .ret))))))
def x15 : XFunc := ⟨60, 1, [.tmp 2, .tmp 3], x15b⟩
theorem x15_ok : chkF Tryd.prog Tryd.f15 x15 = true := by kernel_rfl
theorem x15_eq : x15.body = x15b ∧ x15.res = [.tmp 2, .tmp 3] ∧ x15.np = 1 := ⟨rfl, rfl, rfl⟩

abbrev x16r0 : List XOper := [
  ⟨(some 2), none, .mv (.c (.bool false))⟩]
abbrev x16r1 : List XOper := [
  ⟨(some 3), none, .mv (.t 0)⟩,
  ⟨(some 4), none, .lenS (.t 3)⟩,
  ⟨(some 5), none, .bin .leq (.t 4) (.c (.int .i64 200))⟩,
  ⟨(some 6), none, .mv (.t 5)⟩,
  ⟨(some 7), (some (6, true)), .mv (.t 0)⟩,
  ⟨(some 8), (some (6, true)), .call (.c (.fn (.func 21) [] [])) [(.t 7), (.c (.str ⟨#[10]⟩))]⟩,
  ⟨(some 9), (some (6, true)), .un .not (.t 8)⟩,
  ⟨(some 10), none, .pick (.t 6) (.t 9) (.c (.bool false))⟩,
  ⟨(some 2), none, .mv (.t 10)⟩]
/-- datum/seal.isLine -/
abbrev x16b : XCode :=
  (.seq (.reg 0 x16r0 none)
  (.seq (.reg 1 x16r1 none)
  .ret))
def x16 : XFunc := ⟨11, 1, [.tmp 2], x16b⟩
theorem x16_ok : chkF Tryd.prog Tryd.f16 x16 = true := by kernel_rfl
theorem x16_eq : x16.body = x16b ∧ x16.res = [.tmp 2] ∧ x16.np = 1 := ⟨rfl, rfl, rfl⟩

abbrev x17r0 : List XOper := [
  ⟨(some 2), none, .mv (.c (.str ⟨#[]⟩))⟩]
abbrev x17r1 : List XOper := [
  ⟨(some 4), none, .mv (.t 0)⟩,
  ⟨(some 5), none, .call (.c (.fn (.func 9) [] [])) [(.t 4)]⟩,
  ⟨(some 6), none, .call (.c (.fn (.func 22) [] [])) [(.t 5), (.c (.int .i64 16))]⟩,
  ⟨(some 3), none, .mv (.t 6)⟩]
abbrev x17r2 : List XOper := [
  ⟨(some 7), none, .mv (.t 0)⟩,
  ⟨(some 8), none, .bin .add (.t 7) (.c (.str ⟨#[32]⟩))⟩,
  ⟨(some 9), none, .mv (.t 3)⟩,
  ⟨(some 10), none, .lenS (.t 9)⟩,
  ⟨(some 11), none, .bin .sub (.c (.int .i64 8)) (.t 10)⟩,
  ⟨(some 12), none, .call (.c (.fn (.func 23) [] [])) [(.c (.str ⟨#[48]⟩)), (.t 11)]⟩,
  ⟨(some 13), none, .bin .add (.t 8) (.t 12)⟩,
  ⟨(some 14), none, .mv (.t 3)⟩,
  ⟨(some 15), none, .bin .add (.t 13) (.t 14)⟩,
  ⟨(some 2), none, .mv (.t 15)⟩]
/-- datum/seal.sealed -/
abbrev x17b : XCode :=
  (.seq (.reg 0 x17r0 none)
  (.seq (.reg 1 x17r1 none)
  (.seq (.reg 2 x17r2 none)
  .ret)))
def x17 : XFunc := ⟨16, 1, [.tmp 2], x17b⟩
theorem x17_ok : chkF Tryd.prog Tryd.f17 x17 = true := by kernel_rfl
theorem x17_eq : x17.body = x17b ∧ x17.res = [.tmp 2] ∧ x17.np = 1 := ⟨rfl, rfl, rfl⟩

abbrev x18r0 : List XOper := [
  ⟨(some 2), none, .mv (.c (.int .i64 0))⟩]
abbrev x18r1 : List XOper := [
  ⟨(some 3), none, .alloc [(.int .u8 0), (.int .u8 0), (.int .u8 0), (.int .u8 0), (.int .u8 0), (.int .u8 0), (.int .u8 0), (.int .u8 0), (.int .u8 0), (.int .u8 0), (.int .u8 0), (.int .u8 0), (.int .u8 0), (.int .u8 0), (.int .u8 0), (.int .u8 0), (.int .u8 0), (.int .u8 0), (.int .u8 0), (.int .u8 0), (.int .u8 0), (.int .u8 0), (.int .u8 0), (.int .u8 0), (.int .u8 0), (.int .u8 0), (.int .u8 0), (.int .u8 0), (.int .u8 0), (.int .u8 0), (.int .u8 0), (.int .u8 0), (.int .u8 0), (.int .u8 0), (.int .u8 0), (.int .u8 0), (.int .u8 0), (.int .u8 0), (.int .u8 0), (.int .u8 0), (.int .u8 0), (.int .u8 0), (.int .u8 0), (.int .u8 0), (.int .u8 0), (.int .u8 0), (.int .u8 0), (.int .u8 0), (.int .u8 0), (.int .u8 0), (.int .u8 0), (.int .u8 0), (.int .u8 0), (.int .u8 0), (.int .u8 0), (.int .u8 0), (.int .u8 0), (.int .u8 0), (.int .u8 0), (.int .u8 0), (.int .u8 0), (.int .u8 0), (.int .u8 0), (.int .u8 0)]⟩]
abbrev x18r2 : List XOper := [
  ⟨(some 7), none, .mv (.t 0)⟩,
  ⟨(some 8), none, .nilChk (.t 7)⟩,
  ⟨(some 9), none, .fa 2 (.t 8)⟩,
  ⟨(some 10), none, .load false 1 (.t 9)⟩,
  ⟨(some 11), none, .bin .neq (.t 10) (.c (.str ⟨#[]⟩))⟩]
abbrev x18r3 : List XOper := [
  ⟨(some 12), none, .slA 64 1 (.t 3) none none⟩,
  ⟨(some 13), none, .mv (.t 0)⟩,
  ⟨(some 14), none, .nilChk (.t 13)⟩,
  ⟨(some 15), none, .fa 2 (.t 14)⟩,
  ⟨(some 16), none, .load false 1 (.t 15)⟩,
  ⟨(some 17), none, .cpy 1 (.t 12) (.t 16)⟩,
  ⟨(some 4), none, .mv (.t 17)⟩]
abbrev x18r4 : List XOper := [
  ⟨(some 18), none, .mv (.t 4)⟩,
  ⟨(some 19), none, .slA 64 1 (.t 3) none (some (.t 18))⟩,
  ⟨(some 20), none, .lenV (.t 19)⟩,
  ⟨(some 21), none, .mv (.c (.int .i64 0))⟩]
abbrev x18r5 : List XOper := [
  ⟨(some 22), none, .bin .lss (.t 21) (.t 20)⟩]
abbrev x18r6 : List XOper := [
  ⟨(some 23), none, .iaS 1 (.t 19) (.t 21)⟩,
  ⟨(some 24), none, .load false 1 (.t 23)⟩,
  ⟨(some 6), none, .mv (.t 24)⟩]
abbrev x18r7 : List XOper := [
  ⟨(some 25), none, .mv (.t 0)⟩,
  ⟨(some 26), none, .nilChk (.t 25)⟩,
  ⟨(some 27), none, .fa 0 (.t 26)⟩,
  ⟨(some 28), none, .mv (.t 6)⟩,
  ⟨(some 29), none, .call (.c (.fn (.func 24) [] [])) [(.t 27), (.t 28)]⟩]
abbrev x18r8 : List XOper := [
  ⟨(some 30), none, .bin .add (.t 21) (.c (.int .i64 1))⟩,
  ⟨(some 21), none, .mv (.t 30)⟩]
abbrev x18l5 : XCode :=
  (.seq (.reg 5 x18r5 none)
  (.seq (.cond (.t 22)
    .skip
    (.exit 2))
  (.seq (.block 3
    (.seq (.reg 6 x18r6 none)
    (.reg 7 x18r7 none)))
  (.reg 8 x18r8 none))))
abbrev x18r9 : List XOper := [
  ⟨(some 31), none, .mv (.t 0)⟩,
  ⟨(some 32), none, .mv (.t 0)⟩,
  ⟨(some 33), none, .nilChk (.t 32)⟩,
  ⟨(some 34), none, .fa 2 (.t 33)⟩,
  ⟨(some 35), none, .load false 1 (.t 34)⟩,
  ⟨(some 36), none, .mv (.t 4)⟩,
  ⟨(some 37), none, .slS (.t 35) (some (.t 36)) none⟩,
  ⟨(some 38), none, .nilChk (.t 31)⟩,
  ⟨(some 39), none, .fa 2 (.t 38)⟩,
  ⟨none, none, .store 1 (.t 39) (.t 37)⟩]
abbrev x18l2 : XCode :=
  (.seq (.seq (.reg 2 x18r2 none)
  (.cond (.t 11)
    .skip
    (.exit 0)))
  (.block 1
    (.seq (.reg 3 x18r3 (some ⟨[(0, 4)]⟩))
    (.seq (.seq (.reg 4 x18r4 none)
    (.block 2
      (.loop x18l5)))
    (.reg 9 x18r9 none)))))
abbrev x18r10 : List XOper := [
  ⟨(some 40), none, .mv (.t 0)⟩,
  ⟨(some 41), none, .nilChk (.t 40)⟩,
  ⟨(some 42), none, .fa 0 (.t 41)⟩,
  ⟨(some 43), none, .call (.c (.fn (.func 25) [] [])) [(.t 42)]⟩,
  ⟨(some 2), none, .mv (.t 43)⟩]
/-- (*datum/seal.sum).all -/
abbrev x18b : XCode :=
  (.seq (.reg 0 x18r0 none)
  (.seq (.reg 1 x18r1 none)
  (.seq (.block 0
    (.loop x18l2))
  (.seq (.reg 10 x18r10 none)
  .ret))))
def x18 : XFunc := ⟨44, 1, [.tmp 2], x18b⟩
theorem x18_ok : chkF Tryd.prog Tryd.f18 x18 = true := by kernel_rfl
theorem x18_eq : x18.body = x18b ∧ x18.res = [.tmp 2] ∧ x18.np = 1 := ⟨rfl, rfl, rfl⟩

abbrev x19r0 : List XOper := [
  ⟨(some 2), none, .mv (.c (.str ⟨#[]⟩))⟩]
abbrev x19r1 : List XOper := [
  ⟨(some 3), none, .mv (.c (.str ⟨#[]⟩))⟩]
abbrev x19r2 : List XOper := [
  ⟨(some 4), none, .mv (.c (.int .i64 0))⟩]
abbrev x19r3 : List XOper := [
  ⟨(some 5), none, .mv (.t 4)⟩,
  ⟨(some 6), none, .bin .lss (.t 5) (.c (.int .i64 8))⟩]
abbrev x19r5 : List XOper := [
  ⟨(some 9), none, .mv (.t 0)⟩,
  ⟨(some 10), none, .bin .rem (.t 9) (.c (.int .i64 16))⟩,
  ⟨(some 11), none, .mv (.t 0)⟩,
  ⟨(some 12), none, .bin .rem (.t 11) (.c (.int .i64 16))⟩,
  ⟨(some 13), none, .bin .add (.t 12) (.c (.int .i64 1))⟩,
  ⟨(some 14), none, .slS (.c (.str ⟨#[48, 49, 50, 51, 52, 53, 54, 55, 56, 57, 97, 98, 99, 100, 101, 102]⟩)) (some (.t 10)) (some (.t 13))⟩,
  ⟨(some 15), none, .mv (.t 3)⟩,
  ⟨(some 16), none, .bin .add (.t 14) (.t 15)⟩,
  ⟨(some 3), none, .mv (.t 16)⟩]
abbrev x19r6 : List XOper := [
  ⟨(some 17), none, .mv (.t 0)⟩,
  ⟨(some 18), none, .bin .quo (.t 17) (.c (.int .i64 16))⟩,
  ⟨(some 0), none, .mv (.t 18)⟩]
abbrev x19r4 : List XOper := [
  ⟨(some 7), none, .mv (.t 4)⟩,
  ⟨(some 8), none, .bin .add (.t 7) (.c (.int .i64 1))⟩,
  ⟨(some 4), none, .mv (.t 8)⟩]
abbrev x19l3 : XCode :=
  (.seq (.seq (.reg 3 x19r3 none)
  (.cond (.t 6)
    .skip
    (.exit 0)))
  (.seq (.block 1
    (.seq (.reg 5 x19r5 none)
    (.reg 6 x19r6 none)))
  (.reg 4 x19r4 none)))
abbrev x19r7 : List XOper := [
  ⟨(some 19), none, .mv (.t 3)⟩,
  ⟨(some 2), none, .mv (.t 19)⟩]
/-- datum/datumref22.digits -/
abbrev x19b : XCode :=
  (.seq (.reg 0 x19r0 none)
  (.seq (.reg 1 x19r1 none)
  (.seq (.seq (.reg 2 x19r2 none)
  (.block 0
    (.loop x19l3)))
  (.seq (.reg 7 x19r7 none)
  .ret))))
def x19 : XFunc := ⟨20, 1, [.tmp 2], x19b⟩
theorem x19_ok : chkF Tryd.prog Tryd.f19 x19 = true := by kernel_rfl
theorem x19_eq : x19.body = x19b ∧ x19.res = [.tmp 2] ∧ x19.np = 1 := ⟨rfl, rfl, rfl⟩

abbrev x22r0 : List XOper := [
  ⟨(some 4), none, .mv (.c (.str ⟨#[]⟩))⟩]
abbrev x22r1 : List XOper := [
  ⟨(some 5), none, .mv (.t 0)⟩,
  ⟨(some 6), none, .mv (.t 1)⟩,
  ⟨(some 7), none, .call (.c (.fn (.func 34) [] [])) [(.t 5), (.t 6)]⟩,
  ⟨(some 4), none, .mv (.t 7)⟩]
/-- strconv.FormatInt -/
abbrev x22b : XCode :=
  (.seq (.reg 0 x22r0 none)
  (.seq (.reg 1 x22r1 none)
  .ret))
def x22 : XFunc := ⟨8, 2, [.tmp 4], x22b⟩
theorem x22_ok : chkF Tryd.prog Tryd.f22 x22 = true := by kernel_rfl
theorem x22_eq : x22.body = x22b ∧ x22.res = [.tmp 4] ∧ x22.np = 2 := ⟨rfl, rfl, rfl⟩

abbrev x24r0 : List XOper := [
  ⟨(some 4), none, .mv (.t 0)⟩,
  ⟨(some 5), none, .mv (.t 0)⟩,
  ⟨(some 6), none, .nilChk (.t 5)⟩,
  ⟨(some 7), none, .fa 0 (.t 6)⟩,
  ⟨(some 8), none, .load false 1 (.t 7)⟩,
  ⟨(some 9), none, .mv (.t 1)⟩,
  ⟨(some 10), none, .conv .i64 (.t 9)⟩,
  ⟨(some 11), none, .bin .add (.t 8) (.t 10)⟩,
  ⟨(some 12), none, .bin .rem (.t 11) (.c (.int .i64 65521))⟩,
  ⟨(some 13), none, .nilChk (.t 4)⟩,
  ⟨(some 14), none, .fa 0 (.t 13)⟩,
  ⟨none, none, .store 1 (.t 14) (.t 12)⟩]
abbrev x24r1 : List XOper := [
  ⟨(some 15), none, .mv (.t 0)⟩,
  ⟨(some 16), none, .mv (.t 0)⟩,
  ⟨(some 17), none, .nilChk (.t 16)⟩,
  ⟨(some 18), none, .fa 1 (.t 17)⟩,
  ⟨(some 19), none, .load false 1 (.t 18)⟩,
  ⟨(some 20), none, .mv (.t 0)⟩,
  ⟨(some 21), none, .nilChk (.t 20)⟩,
  ⟨(some 22), none, .fa 0 (.t 21)⟩,
  ⟨(some 23), none, .load false 1 (.t 22)⟩,
  ⟨(some 24), none, .bin .add (.t 19) (.t 23)⟩,
  ⟨(some 25), none, .bin .rem (.t 24) (.c (.int .i64 65521))⟩,
  ⟨(some 26), none, .nilChk (.t 15)⟩,
  ⟨(some 27), none, .fa 1 (.t 26)⟩,
  ⟨none, none, .store 1 (.t 27) (.t 25)⟩]
/-- (*datum/seal.pair).add -/
abbrev x24b : XCode :=
  (.seq (.reg 0 x24r0 none)
  (.reg 1 x24r1 (some ⟨[]⟩)))
def x24 : XFunc := ⟨28, 2, [], x24b⟩
theorem x24_ok : chkF Tryd.prog Tryd.f24 x24 = true := by kernel_rfl
theorem x24_eq : x24.body = x24b ∧ x24.res = [] ∧ x24.np = 2 := ⟨rfl, rfl, rfl⟩

abbrev x25r0 : List XOper := [
  ⟨(some 2), none, .mv (.c (.int .i64 0))⟩]
abbrev x25r1 : List XOper := [
  ⟨(some 3), none, .mv (.t 0)⟩,
  ⟨(some 4), none, .nilChk (.t 3)⟩,
  ⟨(some 5), none, .fa 1 (.t 4)⟩,
  ⟨(some 6), none, .load false 1 (.t 5)⟩,
  ⟨(some 7), none, .bin .shl (.t 6) (.c (.int .u64 16))⟩,
  ⟨(some 8), none, .mv (.t 0)⟩,
  ⟨(some 9), none, .nilChk (.t 8)⟩,
  ⟨(some 10), none, .fa 0 (.t 9)⟩,
  ⟨(some 11), none, .load false 1 (.t 10)⟩,
  ⟨(some 12), none, .bin .or (.t 7) (.t 11)⟩,
  ⟨(some 2), none, .mv (.t 12)⟩]
/-- (*datum/seal.pair).whole -/
abbrev x25b : XCode :=
  (.seq (.reg 0 x25r0 none)
  (.seq (.reg 1 x25r1 (some ⟨[]⟩))
  .ret))
def x25 : XFunc := ⟨13, 1, [.tmp 2], x25b⟩
theorem x25_ok : chkF Tryd.prog Tryd.f25 x25 = true := by kernel_rfl
theorem x25_eq : x25.body = x25b ∧ x25.res = [.tmp 2] ∧ x25.np = 1 := ⟨rfl, rfl, rfl⟩

abbrev x34r0 : List XOper := [
  ⟨(some 4), none, .mv (.c (.str ⟨#[]⟩))⟩]
abbrev x34r1 : List XOper := [
  ⟨(some 10), none, .mv (.t 1)⟩,
  ⟨(some 11), none, .bin .eql (.t 10) (.c (.int .i64 10))⟩]
abbrev x34r2 : List XOper := [
  ⟨(some 12), none, .mv (.t 0)⟩,
  ⟨(some 13), none, .bin .leq (.c (.int .i64 0)) (.t 12)⟩,
  ⟨(some 14), none, .mv (.t 13)⟩,
  ⟨(some 15), (some (14, true)), .mv (.t 0)⟩,
  ⟨(some 16), (some (14, true)), .bin .lss (.t 15) (.c (.int .i64 100))⟩,
  ⟨(some 17), none, .pick (.t 14) (.t 16) (.c (.bool false))⟩]
abbrev x34r3 : List XOper := [
  ⟨(some 18), none, .mv (.t 0)⟩,
  ⟨(some 19), none, .call (.c (.fn (.func 46) [] [])) [(.t 18)]⟩,
  ⟨(some 4), none, .mv (.t 19)⟩]
abbrev x34r4 : List XOper := [
  ⟨(some 5), none, .alloc [(.int .u8 0), (.int .u8 0), (.int .u8 0), (.int .u8 0), (.int .u8 0), (.int .u8 0), (.int .u8 0), (.int .u8 0), (.int .u8 0), (.int .u8 0), (.int .u8 0), (.int .u8 0), (.int .u8 0), (.int .u8 0), (.int .u8 0), (.int .u8 0), (.int .u8 0), (.int .u8 0), (.int .u8 0), (.int .u8 0), (.int .u8 0), (.int .u8 0), (.int .u8 0), (.int .u8 0)]⟩]
abbrev x34r5 : List XOper := [
  ⟨(some 20), none, .mv (.t 0)⟩,
  ⟨(some 21), none, .conv .u64 (.t 20)⟩,
  ⟨(some 6), none, .mv (.t 21)⟩]
abbrev x34r6 : List XOper := [
  ⟨(some 22), none, .mv (.t 0)⟩,
  ⟨(some 23), none, .bin .lss (.t 22) (.c (.int .i64 0))⟩]
abbrev x34r7 : List XOper := [
  ⟨(some 24), none, .mv (.t 6)⟩,
  ⟨(some 25), none, .un .neg (.t 24)⟩,
  ⟨(some 6), none, .mv (.t 25)⟩]
abbrev x34r8 : List XOper := [
  ⟨(some 26), none, .mv (.t 6)⟩,
  ⟨(some 27), none, .call (.c (.fn (.func 47) [] [])) [(.t 26)]⟩,
  ⟨(some 7), none, .mv (.t 27)⟩]
abbrev x34r9 : List XOper := [
  ⟨(some 28), none, .mv (.t 7)⟩,
  ⟨(some 29), none, .bin .add (.c (.int .i64 1)) (.t 28)⟩,
  ⟨(some 30), none, .slA 24 1 (.t 5) (some (.c (.int .i64 1))) (some (.t 29))⟩,
  ⟨(some 31), none, .mv (.t 6)⟩,
  ⟨(some 32), none, .call (.c (.fn (.func 48) [] [])) [(.t 30), (.t 31)]⟩]
abbrev x34r10 : List XOper := [
  ⟨(some 33), none, .mv (.t 0)⟩,
  ⟨(some 34), none, .bin .lss (.t 33) (.c (.int .i64 0))⟩]
abbrev x34r11 : List XOper := [
  ⟨(some 35), none, .iaA 24 1 (.t 5) (.c (.int .i64 0))⟩,
  ⟨none, none, .store 1 (.t 35) (.c (.int .u8 45))⟩]
abbrev x34r12 : List XOper := [
  ⟨(some 36), none, .mv (.t 7)⟩,
  ⟨(some 37), none, .bin .add (.c (.int .i64 1)) (.t 36)⟩,
  ⟨(some 38), none, .slA 24 1 (.t 5) none (some (.t 37))⟩,
  ⟨(some 39), none, .b2s (.t 38)⟩,
  ⟨(some 4), none, .mv (.t 39)⟩]
abbrev x34r13 : List XOper := [
  ⟨(some 40), none, .mv (.t 7)⟩,
  ⟨(some 41), none, .bin .add (.c (.int .i64 1)) (.t 40)⟩,
  ⟨(some 42), none, .slA 24 1 (.t 5) (some (.c (.int .i64 1))) (some (.t 41))⟩,
  ⟨(some 43), none, .b2s (.t 42)⟩,
  ⟨(some 4), none, .mv (.t 43)⟩]
abbrev x34r14 : List XOper := [
  ⟨(some 45), none, .mv (.t 0)⟩,
  ⟨(some 46), none, .conv .u64 (.t 45)⟩,
  ⟨(some 47), none, .mv (.t 1)⟩,
  ⟨(some 48), none, .mv (.t 0)⟩,
  ⟨(some 49), none, .bin .lss (.t 48) (.c (.int .i64 0))⟩,
  ⟨(some 50), none, .call (.c (.fn (.func 49) [] [])) [(.c .nils), (.t 46), (.t 47), (.t 49), (.c (.bool false))]⟩,
  ⟨(some 44), none, .mv (.t 50)⟩,
  ⟨(some 51), none, .ext (.t 44) 0⟩,
  ⟨(some 52), none, .ext (.t 44) 1⟩,
  ⟨(some 8), none, .mv (.t 51)⟩,
  ⟨(some 9), none, .mv (.t 52)⟩]
abbrev x34r15 : List XOper := [
  ⟨(some 53), none, .mv (.t 9)⟩,
  ⟨(some 4), none, .mv (.t 53)⟩]
/-- internal/strconv.FormatInt -/
abbrev x34b : XCode :=
  (.seq (.reg 0 x34r0 none)
  (.seq (.seq (.reg 1 x34r1 none)
  (.cond (.t 11)
    (.seq (.seq (.reg 2 x34r2 none)
    (.cond (.t 17)
      (.seq (.reg 3 x34r3 none)
      .ret)
      .skip))
    (.seq (.reg 4 x34r4 none)
    (.seq (.reg 5 x34r5 none)
    (.seq (.seq (.reg 6 x34r6 none)
    (.cond (.t 23)
      (.reg 7 x34r7 none)
      .skip))
    (.seq (.reg 8 x34r8 none)
    (.seq (.reg 9 x34r9 none)
    (.seq (.seq (.reg 10 x34r10 none)
    (.cond (.t 34)
      (.seq (.reg 11 x34r11 none)
      (.seq (.reg 12 x34r12 none)
      .ret))
      .skip))
    (.seq (.reg 13 x34r13 none)
    .ret))))))))
    .skip))
  (.seq (.reg 14 x34r14 none)
  (.seq (.reg 15 x34r15 none)
  .ret))))
def x34 : XFunc := ⟨54, 2, [.tmp 4], x34b⟩
theorem x34_ok : chkF Tryd.prog Tryd.f34 x34 = true := by kernel_rfl
theorem x34_eq : x34.body = x34b ∧ x34.res = [.tmp 4] ∧ x34.np = 2 := ⟨rfl, rfl, rfl⟩

abbrev x46r0 : List XOper := [
  ⟨(some 2), none, .mv (.c (.str ⟨#[]⟩))⟩]
abbrev x46r1 : List XOper := [
  ⟨(some 3), none, .mv (.t 0)⟩,
  ⟨(some 4), none, .bin .lss (.t 3) (.c (.int .i64 10))⟩]
abbrev x46r2 : List XOper := [
  ⟨(some 5), none, .mv (.t 0)⟩,
  ⟨(some 6), none, .mv (.t 0)⟩,
  ⟨(some 7), none, .bin .add (.t 6) (.c (.int .i64 1))⟩,
  ⟨(some 8), none, .slS (.c (.str ⟨#[48, 49, 50, 51, 52, 53, 54, 55, 56, 57, 97, 98, 99, 100, 101, 102, 103, 104, 105, 106, 107, 108, 109, 110, 111, 112, 113, 114, 115, 116, 117, 118, 119, 120, 121, 122]⟩)) (some (.t 5)) (some (.t 7))⟩,
  ⟨(some 2), none, .mv (.t 8)⟩]
abbrev x46r3 : List XOper := [
  ⟨(some 9), none, .mv (.t 0)⟩,
  ⟨(some 10), none, .bin .mul (.t 9) (.c (.int .i64 2))⟩,
  ⟨(some 11), none, .mv (.t 0)⟩,
  ⟨(some 12), none, .bin .mul (.t 11) (.c (.int .i64 2))⟩,
  ⟨(some 13), none, .bin .add (.t 12) (.c (.int .i64 2))⟩,
  ⟨(some 14), none, .slS (.c (.str ⟨#[48, 48, 48, 49, 48, 50, 48, 51, 48, 52, 48, 53, 48, 54, 48, 55, 48, 56, 48, 57, 49, 48, 49, 49, 49, 50, 49, 51, 49, 52, 49, 53, 49, 54, 49, 55, 49, 56, 49, 57, 50, 48, 50, 49, 50, 50, 50, 51, 50, 52, 50, 53, 50, 54, 50, 55, 50, 56, 50, 57, 51, 48, 51, 49, 51, 50, 51, 51, 51, 52, 51, 53, 51, 54, 51, 55, 51, 56, 51, 57, 52, 48, 52, 49, 52, 50, 52, 51, 52, 52, 52, 53, 52, 54, 52, 55, 52, 56, 52, 57, 53, 48, 53, 49, 53, 50, 53, 51, 53, 52, 53, 53, 53, 54, 53, 55, 53, 56, 53, 57, 54, 48, 54, 49, 54, 50, 54, 51, 54, 52, 54, 53, 54, 54, 54, 55, 54, 56, 54, 57, 55, 48, 55, 49, 55, 50, 55, 51, 55, 52, 55, 53, 55, 54, 55, 55, 55, 56, 55, 57, 56, 48, 56, 49, 56, 50, 56, 51, 56, 52, 56, 53, 56, 54, 56, 55, 56, 56, 56, 57, 57, 48, 57, 49, 57, 50, 57, 51, 57, 52, 57, 53, 57, 54, 57, 55, 57, 56, 57, 57]⟩)) (some (.t 10)) (some (.t 13))⟩,
  ⟨(some 2), none, .mv (.t 14)⟩]
/-- internal/strconv.small -/
abbrev x46b : XCode :=
  (.seq (.reg 0 x46r0 none)
  (.seq (.seq (.reg 1 x46r1 none)
  (.cond (.t 4)
    (.seq (.reg 2 x46r2 none)
    .ret)
    .skip))
  (.seq (.reg 3 x46r3 none)
  .ret)))
def x46 : XFunc := ⟨15, 1, [.tmp 2], x46b⟩
theorem x46_ok : chkF Tryd.prog Tryd.f46 x46 = true := by kernel_rfl
theorem x46_eq : x46.body = x46b ∧ x46.res = [.tmp 2] ∧ x46.np = 1 := ⟨rfl, rfl, rfl⟩

abbrev x48r0 : List XOper := [
  ⟨(some 17), none, .mv (.t 0)⟩,
  ⟨(some 18), none, .lenV (.t 17)⟩,
  ⟨(some 4), none, .mv (.t 18)⟩]
abbrev x48r1 : List XOper := [
  ⟨(some 19), none, .mv (.t 4)⟩,
  ⟨(some 20), none, .bin .geq (.t 19) (.c (.int .i64 8))⟩]
abbrev x48r2 : List XOper := [
  ⟨(some 21), none, .mv (.t 1)⟩,
  ⟨(some 22), none, .bin .rem (.t 21) (.c (.int .u64 100000000))⟩,
  ⟨(some 23), none, .conv .u32 (.t 22)⟩,
  ⟨(some 5), none, .mv (.t 23)⟩]
abbrev x48r3 : List XOper := [
  ⟨(some 24), none, .mv (.t 1)⟩,
  ⟨(some 25), none, .bin .quo (.t 24) (.c (.int .u64 100000000))⟩,
  ⟨(some 1), none, .mv (.t 25)⟩]
abbrev x48r4 : List XOper := [
  ⟨(some 26), none, .mv (.t 5)⟩,
  ⟨(some 27), none, .bin .quo (.t 26) (.c (.int .u32 10000))⟩,
  ⟨(some 28), none, .mv (.t 5)⟩,
  ⟨(some 29), none, .bin .rem (.t 28) (.c (.int .u32 10000))⟩,
  ⟨(some 6), none, .mv (.t 27)⟩,
  ⟨(some 7), none, .mv (.t 29)⟩]
abbrev x48r5 : List XOper := [
  ⟨(some 30), none, .mv (.t 7)⟩,
  ⟨(some 31), none, .bin .quo (.t 30) (.c (.int .u32 100))⟩,
  ⟨(some 32), none, .bin .mul (.t 31) (.c (.int .u32 2))⟩,
  ⟨(some 33), none, .mv (.t 7)⟩,
  ⟨(some 34), none, .bin .rem (.t 33) (.c (.int .u32 100))⟩,
  ⟨(some 35), none, .bin .mul (.t 34) (.c (.int .u32 2))⟩,
  ⟨(some 8), none, .mv (.t 32)⟩,
  ⟨(some 9), none, .mv (.t 35)⟩]
abbrev x48r6 : List XOper := [
  ⟨(some 36), none, .mv (.t 6)⟩,
  ⟨(some 37), none, .bin .quo (.t 36) (.c (.int .u32 100))⟩,
  ⟨(some 38), none, .bin .mul (.t 37) (.c (.int .u32 2))⟩,
  ⟨(some 39), none, .mv (.t 6)⟩,
  ⟨(some 40), none, .bin .rem (.t 39) (.c (.int .u32 100))⟩,
  ⟨(some 41), none, .bin .mul (.t 40) (.c (.int .u32 2))⟩,
  ⟨(some 10), none, .mv (.t 38)⟩,
  ⟨(some 11), none, .mv (.t 41)⟩]
abbrev x48r7 : List XOper := [
  ⟨(some 42), none, .mv (.t 0)⟩,
  ⟨(some 43), none, .mv (.t 4)⟩,
  ⟨(some 44), none, .bin .sub (.t 43) (.c (.int .i64 1))⟩,
  ⟨(some 45), none, .mv (.t 0)⟩,
  ⟨(some 46), none, .mv (.t 4)⟩,
  ⟨(some 47), none, .bin .sub (.t 46) (.c (.int .i64 2))⟩,
  ⟨(some 48), none, .mv (.t 9)⟩,
  ⟨(some 49), none, .bin .add (.t 48) (.c (.int .u32 1))⟩,
  ⟨(some 50), none, .ixS (.c (.str ⟨#[48, 48, 48, 49, 48, 50, 48, 51, 48, 52, 48, 53, 48, 54, 48, 55, 48, 56, 48, 57, 49, 48, 49, 49, 49, 50, 49, 51, 49, 52, 49, 53, 49, 54, 49, 55, 49, 56, 49, 57, 50, 48, 50, 49, 50, 50, 50, 51, 50, 52, 50, 53, 50, 54, 50, 55, 50, 56, 50, 57, 51, 48, 51, 49, 51, 50, 51, 51, 51, 52, 51, 53, 51, 54, 51, 55, 51, 56, 51, 57, 52, 48, 52, 49, 52, 50, 52, 51, 52, 52, 52, 53, 52, 54, 52, 55, 52, 56, 52, 57, 53, 48, 53, 49, 53, 50, 53, 51, 53, 52, 53, 53, 53, 54, 53, 55, 53, 56, 53, 57, 54, 48, 54, 49, 54, 50, 54, 51, 54, 52, 54, 53, 54, 54, 54, 55, 54, 56, 54, 57, 55, 48, 55, 49, 55, 50, 55, 51, 55, 52, 55, 53, 55, 54, 55, 55, 55, 56, 55, 57, 56, 48, 56, 49, 56, 50, 56, 51, 56, 52, 56, 53, 56, 54, 56, 55, 56, 56, 56, 57, 57, 48, 57, 49, 57, 50, 57, 51, 57, 52, 57, 53, 57, 54, 57, 55, 57, 56, 57, 57]⟩)) (.t 49)⟩,
  ⟨(some 51), none, .mv (.t 9)⟩,
  ⟨(some 52), none, .ixS (.c (.str ⟨#[48, 48, 48, 49, 48, 50, 48, 51, 48, 52, 48, 53, 48, 54, 48, 55, 48, 56, 48, 57, 49, 48, 49, 49, 49, 50, 49, 51, 49, 52, 49, 53, 49, 54, 49, 55, 49, 56, 49, 57, 50, 48, 50, 49, 50, 50, 50, 51, 50, 52, 50, 53, 50, 54, 50, 55, 50, 56, 50, 57, 51, 48, 51, 49, 51, 50, 51, 51, 51, 52, 51, 53, 51, 54, 51, 55, 51, 56, 51, 57, 52, 48, 52, 49, 52, 50, 52, 51, 52, 52, 52, 53, 52, 54, 52, 55, 52, 56, 52, 57, 53, 48, 53, 49, 53, 50, 53, 51, 53, 52, 53, 53, 53, 54, 53, 55, 53, 56, 53, 57, 54, 48, 54, 49, 54, 50, 54, 51, 54, 52, 54, 53, 54, 54, 54, 55, 54, 56, 54, 57, 55, 48, 55, 49, 55, 50, 55, 51, 55, 52, 55, 53, 55, 54, 55, 55, 55, 56, 55, 57, 56, 48, 56, 49, 56, 50, 56, 51, 56, 52, 56, 53, 56, 54, 56, 55, 56, 56, 56, 57, 57, 48, 57, 49, 57, 50, 57, 51, 57, 52, 57, 53, 57, 54, 57, 55, 57, 56, 57, 57]⟩)) (.t 51)⟩,
  ⟨(some 53), none, .iaS 1 (.t 42) (.t 44)⟩,
  ⟨none, none, .store 1 (.t 53) (.t 50)⟩,
  ⟨(some 54), none, .iaS 1 (.t 45) (.t 47)⟩,
  ⟨none, none, .store 1 (.t 54) (.t 52)⟩]
abbrev x48r8 : List XOper := [
  ⟨(some 55), none, .mv (.t 0)⟩,
  ⟨(some 56), none, .mv (.t 4)⟩,
  ⟨(some 57), none, .bin .sub (.t 56) (.c (.int .i64 3))⟩,
  ⟨(some 58), none, .mv (.t 0)⟩,
  ⟨(some 59), none, .mv (.t 4)⟩,
  ⟨(some 60), none, .bin .sub (.t 59) (.c (.int .i64 4))⟩,
  ⟨(some 61), none, .mv (.t 8)⟩,
  ⟨(some 62), none, .bin .add (.t 61) (.c (.int .u32 1))⟩,
  ⟨(some 63), none, .ixS (.c (.str ⟨#[48, 48, 48, 49, 48, 50, 48, 51, 48, 52, 48, 53, 48, 54, 48, 55, 48, 56, 48, 57, 49, 48, 49, 49, 49, 50, 49, 51, 49, 52, 49, 53, 49, 54, 49, 55, 49, 56, 49, 57, 50, 48, 50, 49, 50, 50, 50, 51, 50, 52, 50, 53, 50, 54, 50, 55, 50, 56, 50, 57, 51, 48, 51, 49, 51, 50, 51, 51, 51, 52, 51, 53, 51, 54, 51, 55, 51, 56, 51, 57, 52, 48, 52, 49, 52, 50, 52, 51, 52, 52, 52, 53, 52, 54, 52, 55, 52, 56, 52, 57, 53, 48, 53, 49, 53, 50, 53, 51, 53, 52, 53, 53, 53, 54, 53, 55, 53, 56, 53, 57, 54, 48, 54, 49, 54, 50, 54, 51, 54, 52, 54, 53, 54, 54, 54, 55, 54, 56, 54, 57, 55, 48, 55, 49, 55, 50, 55, 51, 55, 52, 55, 53, 55, 54, 55, 55, 55, 56, 55, 57, 56, 48, 56, 49, 56, 50, 56, 51, 56, 52, 56, 53, 56, 54, 56, 55, 56, 56, 56, 57, 57, 48, 57, 49, 57, 50, 57, 51, 57, 52, 57, 53, 57, 54, 57, 55, 57, 56, 57, 57]⟩)) (.t 62)⟩,
  ⟨(some 64), none, .mv (.t 8)⟩,
  ⟨(some 65), none, .ixS (.c (.str ⟨#[48, 48, 48, 49, 48, 50, 48, 51, 48, 52, 48, 53, 48, 54, 48, 55, 48, 56, 48, 57, 49, 48, 49, 49, 49, 50, 49, 51, 49, 52, 49, 53, 49, 54, 49, 55, 49, 56, 49, 57, 50, 48, 50, 49, 50, 50, 50, 51, 50, 52, 50, 53, 50, 54, 50, 55, 50, 56, 50, 57, 51, 48, 51, 49, 51, 50, 51, 51, 51, 52, 51, 53, 51, 54, 51, 55, 51, 56, 51, 57, 52, 48, 52, 49, 52, 50, 52, 51, 52, 52, 52, 53, 52, 54, 52, 55, 52, 56, 52, 57, 53, 48, 53, 49, 53, 50, 53, 51, 53, 52, 53, 53, 53, 54, 53, 55, 53, 56, 53, 57, 54, 48, 54, 49, 54, 50, 54, 51, 54, 52, 54, 53, 54, 54, 54, 55, 54, 56, 54, 57, 55, 48, 55, 49, 55, 50, 55, 51, 55, 52, 55, 53, 55, 54, 55, 55, 55, 56, 55, 57, 56, 48, 56, 49, 56, 50, 56, 51, 56, 52, 56, 53, 56, 54, 56, 55, 56, 56, 56, 57, 57, 48, 57, 49, 57, 50, 57, 51, 57, 52, 57, 53, 57, 54, 57, 55, 57, 56, 57, 57]⟩)) (.t 64)⟩,
  ⟨(some 66), none, .iaS 1 (.t 55) (.t 57)⟩,
  ⟨none, none, .store 1 (.t 66) (.t 63)⟩,
  ⟨(some 67), none, .iaS 1 (.t 58) (.t 60)⟩,
  ⟨none, none, .store 1 (.t 67) (.t 65)⟩]
abbrev x48r9 : List XOper := [
  ⟨(some 68), none, .mv (.t 0)⟩,
  ⟨(some 69), none, .mv (.t 4)⟩,
  ⟨(some 70), none, .bin .sub (.t 69) (.c (.int .i64 5))⟩,
  ⟨(some 71), none, .mv (.t 0)⟩,
  ⟨(some 72), none, .mv (.t 4)⟩,
  ⟨(some 73), none, .bin .sub (.t 72) (.c (.int .i64 6))⟩,
  ⟨(some 74), none, .mv (.t 11)⟩,
  ⟨(some 75), none, .bin .add (.t 74) (.c (.int .u32 1))⟩,
  ⟨(some 76), none, .ixS (.c (.str ⟨#[48, 48, 48, 49, 48, 50, 48, 51, 48, 52, 48, 53, 48, 54, 48, 55, 48, 56, 48, 57, 49, 48, 49, 49, 49, 50, 49, 51, 49, 52, 49, 53, 49, 54, 49, 55, 49, 56, 49, 57, 50, 48, 50, 49, 50, 50, 50, 51, 50, 52, 50, 53, 50, 54, 50, 55, 50, 56, 50, 57, 51, 48, 51, 49, 51, 50, 51, 51, 51, 52, 51, 53, 51, 54, 51, 55, 51, 56, 51, 57, 52, 48, 52, 49, 52, 50, 52, 51, 52, 52, 52, 53, 52, 54, 52, 55, 52, 56, 52, 57, 53, 48, 53, 49, 53, 50, 53, 51, 53, 52, 53, 53, 53, 54, 53, 55, 53, 56, 53, 57, 54, 48, 54, 49, 54, 50, 54, 51, 54, 52, 54, 53, 54, 54, 54, 55, 54, 56, 54, 57, 55, 48, 55, 49, 55, 50, 55, 51, 55, 52, 55, 53, 55, 54, 55, 55, 55, 56, 55, 57, 56, 48, 56, 49, 56, 50, 56, 51, 56, 52, 56, 53, 56, 54, 56, 55, 56, 56, 56, 57, 57, 48, 57, 49, 57, 50, 57, 51, 57, 52, 57, 53, 57, 54, 57, 55, 57, 56, 57, 57]⟩)) (.t 75)⟩,
  ⟨(some 77), none, .mv (.t 11)⟩,
  ⟨(some 78), none, .ixS (.c (.str ⟨#[48, 48, 48, 49, 48, 50, 48, 51, 48, 52, 48, 53, 48, 54, 48, 55, 48, 56, 48, 57, 49, 48, 49, 49, 49, 50, 49, 51, 49, 52, 49, 53, 49, 54, 49, 55, 49, 56, 49, 57, 50, 48, 50, 49, 50, 50, 50, 51, 50, 52, 50, 53, 50, 54, 50, 55, 50, 56, 50, 57, 51, 48, 51, 49, 51, 50, 51, 51, 51, 52, 51, 53, 51, 54, 51, 55, 51, 56, 51, 57, 52, 48, 52, 49, 52, 50, 52, 51, 52, 52, 52, 53, 52, 54, 52, 55, 52, 56, 52, 57, 53, 48, 53, 49, 53, 50, 53, 51, 53, 52, 53, 53, 53, 54, 53, 55, 53, 56, 53, 57, 54, 48, 54, 49, 54, 50, 54, 51, 54, 52, 54, 53, 54, 54, 54, 55, 54, 56, 54, 57, 55, 48, 55, 49, 55, 50, 55, 51, 55, 52, 55, 53, 55, 54, 55, 55, 55, 56, 55, 57, 56, 48, 56, 49, 56, 50, 56, 51, 56, 52, 56, 53, 56, 54, 56, 55, 56, 56, 56, 57, 57, 48, 57, 49, 57, 50, 57, 51, 57, 52, 57, 53, 57, 54, 57, 55, 57, 56, 57, 57]⟩)) (.t 77)⟩,
  ⟨(some 79), none, .iaS 1 (.t 68) (.t 70)⟩,
  ⟨none, none, .store 1 (.t 79) (.t 76)⟩,
  ⟨(some 80), none, .iaS 1 (.t 71) (.t 73)⟩,
  ⟨none, none, .store 1 (.t 80) (.t 78)⟩]
abbrev x48r10 : List XOper := [
  ⟨(some 81), none, .mv (.t 0)⟩,
  ⟨(some 82), none, .mv (.t 4)⟩,
  ⟨(some 83), none, .bin .sub (.t 82) (.c (.int .i64 7))⟩,
  ⟨(some 84), none, .mv (.t 0)⟩,
  ⟨(some 85), none, .mv (.t 4)⟩,
  ⟨(some 86), none, .bin .sub (.t 85) (.c (.int .i64 8))⟩,
  ⟨(some 87), none, .mv (.t 10)⟩,
  ⟨(some 88), none, .bin .add (.t 87) (.c (.int .u32 1))⟩,
  ⟨(some 89), none, .ixS (.c (.str ⟨#[48, 48, 48, 49, 48, 50, 48, 51, 48, 52, 48, 53, 48, 54, 48, 55, 48, 56, 48, 57, 49, 48, 49, 49, 49, 50, 49, 51, 49, 52, 49, 53, 49, 54, 49, 55, 49, 56, 49, 57, 50, 48, 50, 49, 50, 50, 50, 51, 50, 52, 50, 53, 50, 54, 50, 55, 50, 56, 50, 57, 51, 48, 51, 49, 51, 50, 51, 51, 51, 52, 51, 53, 51, 54, 51, 55, 51, 56, 51, 57, 52, 48, 52, 49, 52, 50, 52, 51, 52, 52, 52, 53, 52, 54, 52, 55, 52, 56, 52, 57, 53, 48, 53, 49, 53, 50, 53, 51, 53, 52, 53, 53, 53, 54, 53, 55, 53, 56, 53, 57, 54, 48, 54, 49, 54, 50, 54, 51, 54, 52, 54, 53, 54, 54, 54, 55, 54, 56, 54, 57, 55, 48, 55, 49, 55, 50, 55, 51, 55, 52, 55, 53, 55, 54, 55, 55, 55, 56, 55, 57, 56, 48, 56, 49, 56, 50, 56, 51, 56, 52, 56, 53, 56, 54, 56, 55, 56, 56, 56, 57, 57, 48, 57, 49, 57, 50, 57, 51, 57, 52, 57, 53, 57, 54, 57, 55, 57, 56, 57, 57]⟩)) (.t 88)⟩,
  ⟨(some 90), none, .mv (.t 10)⟩,
  ⟨(some 91), none, .ixS (.c (.str ⟨#[48, 48, 48, 49, 48, 50, 48, 51, 48, 52, 48, 53, 48, 54, 48, 55, 48, 56, 48, 57, 49, 48, 49, 49, 49, 50, 49, 51, 49, 52, 49, 53, 49, 54, 49, 55, 49, 56, 49, 57, 50, 48, 50, 49, 50, 50, 50, 51, 50, 52, 50, 53, 50, 54, 50, 55, 50, 56, 50, 57, 51, 48, 51, 49, 51, 50, 51, 51, 51, 52, 51, 53, 51, 54, 51, 55, 51, 56, 51, 57, 52, 48, 52, 49, 52, 50, 52, 51, 52, 52, 52, 53, 52, 54, 52, 55, 52, 56, 52, 57, 53, 48, 53, 49, 53, 50, 53, 51, 53, 52, 53, 53, 53, 54, 53, 55, 53, 56, 53, 57, 54, 48, 54, 49, 54, 50, 54, 51, 54, 52, 54, 53, 54, 54, 54, 55, 54, 56, 54, 57, 55, 48, 55, 49, 55, 50, 55, 51, 55, 52, 55, 53, 55, 54, 55, 55, 55, 56, 55, 57, 56, 48, 56, 49, 56, 50, 56, 51, 56, 52, 56, 53, 56, 54, 56, 55, 56, 56, 56, 57, 57, 48, 57, 49, 57, 50, 57, 51, 57, 52, 57, 53, 57, 54, 57, 55, 57, 56, 57, 57]⟩)) (.t 90)⟩,
  ⟨(some 92), none, .iaS 1 (.t 81) (.t 83)⟩,
  ⟨none, none, .store 1 (.t 92) (.t 89)⟩,
  ⟨(some 93), none, .iaS 1 (.t 84) (.t 86)⟩,
  ⟨none, none, .store 1 (.t 93) (.t 91)⟩]
abbrev x48r11 : List XOper := [
  ⟨(some 94), none, .mv (.t 4)⟩,
  ⟨(some 95), none, .bin .sub (.t 94) (.c (.int .i64 8))⟩,
  ⟨(some 4), none, .mv (.t 95)⟩]
abbrev x48l1 : XCode :=
  (.seq (.seq (.reg 1 x48r1 none)
  (.cond (.t 20)
    .skip
    (.exit 0)))
  (.block 1
    (.seq (.reg 2 x48r2 none)
    (.seq (.reg 3 x48r3 none)
    (.seq (.reg 4 x48r4 none)
    (.seq (.reg 5 x48r5 none)
    (.seq (.reg 6 x48r6 none)
    (.seq (.reg 7 x48r7 (some ⟨[]⟩))
    (.seq (.reg 8 x48r8 (some ⟨[]⟩))
    (.seq (.reg 9 x48r9 (some ⟨[]⟩))
    (.seq (.reg 10 x48r10 (some ⟨[]⟩))
    (.reg 11 x48r11 none))))))))))))
abbrev x48r12 : List XOper := [
  ⟨(some 96), none, .mv (.t 1)⟩,
  ⟨(some 97), none, .conv .u32 (.t 96)⟩,
  ⟨(some 12), none, .mv (.t 97)⟩]
abbrev x48r13 : List XOper := [
  ⟨(some 98), none, .mv (.t 4)⟩,
  ⟨(some 99), none, .bin .geq (.t 98) (.c (.int .i64 4))⟩]
abbrev x48r14 : List XOper := [
  ⟨(some 100), none, .mv (.t 12)⟩,
  ⟨(some 101), none, .bin .rem (.t 100) (.c (.int .u32 10000))⟩,
  ⟨(some 13), none, .mv (.t 101)⟩]
abbrev x48r15 : List XOper := [
  ⟨(some 102), none, .mv (.t 12)⟩,
  ⟨(some 103), none, .bin .quo (.t 102) (.c (.int .u32 10000))⟩,
  ⟨(some 12), none, .mv (.t 103)⟩]
abbrev x48r16 : List XOper := [
  ⟨(some 104), none, .mv (.t 13)⟩,
  ⟨(some 105), none, .bin .quo (.t 104) (.c (.int .u32 100))⟩,
  ⟨(some 106), none, .bin .mul (.t 105) (.c (.int .u32 2))⟩,
  ⟨(some 107), none, .mv (.t 13)⟩,
  ⟨(some 108), none, .bin .rem (.t 107) (.c (.int .u32 100))⟩,
  ⟨(some 109), none, .bin .mul (.t 108) (.c (.int .u32 2))⟩,
  ⟨(some 14), none, .mv (.t 106)⟩,
  ⟨(some 15), none, .mv (.t 109)⟩]
abbrev x48r17 : List XOper := [
  ⟨(some 110), none, .mv (.t 0)⟩,
  ⟨(some 111), none, .mv (.t 4)⟩,
  ⟨(some 112), none, .bin .sub (.t 111) (.c (.int .i64 1))⟩,
  ⟨(some 113), none, .mv (.t 0)⟩,
  ⟨(some 114), none, .mv (.t 4)⟩,
  ⟨(some 115), none, .bin .sub (.t 114) (.c (.int .i64 2))⟩,
  ⟨(some 116), none, .mv (.t 15)⟩,
  ⟨(some 117), none, .bin .add (.t 116) (.c (.int .u32 1))⟩,
  ⟨(some 118), none, .ixS (.c (.str ⟨#[48, 48, 48, 49, 48, 50, 48, 51, 48, 52, 48, 53, 48, 54, 48, 55, 48, 56, 48, 57, 49, 48, 49, 49, 49, 50, 49, 51, 49, 52, 49, 53, 49, 54, 49, 55, 49, 56, 49, 57, 50, 48, 50, 49, 50, 50, 50, 51, 50, 52, 50, 53, 50, 54, 50, 55, 50, 56, 50, 57, 51, 48, 51, 49, 51, 50, 51, 51, 51, 52, 51, 53, 51, 54, 51, 55, 51, 56, 51, 57, 52, 48, 52, 49, 52, 50, 52, 51, 52, 52, 52, 53, 52, 54, 52, 55, 52, 56, 52, 57, 53, 48, 53, 49, 53, 50, 53, 51, 53, 52, 53, 53, 53, 54, 53, 55, 53, 56, 53, 57, 54, 48, 54, 49, 54, 50, 54, 51, 54, 52, 54, 53, 54, 54, 54, 55, 54, 56, 54, 57, 55, 48, 55, 49, 55, 50, 55, 51, 55, 52, 55, 53, 55, 54, 55, 55, 55, 56, 55, 57, 56, 48, 56, 49, 56, 50, 56, 51, 56, 52, 56, 53, 56, 54, 56, 55, 56, 56, 56, 57, 57, 48, 57, 49, 57, 50, 57, 51, 57, 52, 57, 53, 57, 54, 57, 55, 57, 56, 57, 57]⟩)) (.t 117)⟩,
  ⟨(some 119), none, .mv (.t 15)⟩,
  ⟨(some 120), none, .ixS (.c (.str ⟨#[48, 48, 48, 49, 48, 50, 48, 51, 48, 52, 48, 53, 48, 54, 48, 55, 48, 56, 48, 57, 49, 48, 49, 49, 49, 50, 49, 51, 49, 52, 49, 53, 49, 54, 49, 55, 49, 56, 49, 57, 50, 48, 50, 49, 50, 50, 50, 51, 50, 52, 50, 53, 50, 54, 50, 55, 50, 56, 50, 57, 51, 48, 51, 49, 51, 50, 51, 51, 51, 52, 51, 53, 51, 54, 51, 55, 51, 56, 51, 57, 52, 48, 52, 49, 52, 50, 52, 51, 52, 52, 52, 53, 52, 54, 52, 55, 52, 56, 52, 57, 53, 48, 53, 49, 53, 50, 53, 51, 53, 52, 53, 53, 53, 54, 53, 55, 53, 56, 53, 57, 54, 48, 54, 49, 54, 50, 54, 51, 54, 52, 54, 53, 54, 54, 54, 55, 54, 56, 54, 57, 55, 48, 55, 49, 55, 50, 55, 51, 55, 52, 55, 53, 55, 54, 55, 55, 55, 56, 55, 57, 56, 48, 56, 49, 56, 50, 56, 51, 56, 52, 56, 53, 56, 54, 56, 55, 56, 56, 56, 57, 57, 48, 57, 49, 57, 50, 57, 51, 57, 52, 57, 53, 57, 54, 57, 55, 57, 56, 57, 57]⟩)) (.t 119)⟩,
  ⟨(some 121), none, .iaS 1 (.t 110) (.t 112)⟩,
  ⟨none, none, .store 1 (.t 121) (.t 118)⟩,
  ⟨(some 122), none, .iaS 1 (.t 113) (.t 115)⟩,
  ⟨none, none, .store 1 (.t 122) (.t 120)⟩]
abbrev x48r18 : List XOper := [
  ⟨(some 123), none, .mv (.t 0)⟩,
  ⟨(some 124), none, .mv (.t 4)⟩,
  ⟨(some 125), none, .bin .sub (.t 124) (.c (.int .i64 3))⟩,
  ⟨(some 126), none, .mv (.t 0)⟩,
  ⟨(some 127), none, .mv (.t 4)⟩,
  ⟨(some 128), none, .bin .sub (.t 127) (.c (.int .i64 4))⟩,
  ⟨(some 129), none, .mv (.t 14)⟩,
  ⟨(some 130), none, .bin .add (.t 129) (.c (.int .u32 1))⟩,
  ⟨(some 131), none, .ixS (.c (.str ⟨#[48, 48, 48, 49, 48, 50, 48, 51, 48, 52, 48, 53, 48, 54, 48, 55, 48, 56, 48, 57, 49, 48, 49, 49, 49, 50, 49, 51, 49, 52, 49, 53, 49, 54, 49, 55, 49, 56, 49, 57, 50, 48, 50, 49, 50, 50, 50, 51, 50, 52, 50, 53, 50, 54, 50, 55, 50, 56, 50, 57, 51, 48, 51, 49, 51, 50, 51, 51, 51, 52, 51, 53, 51, 54, 51, 55, 51, 56, 51, 57, 52, 48, 52, 49, 52, 50, 52, 51, 52, 52, 52, 53, 52, 54, 52, 55, 52, 56, 52, 57, 53, 48, 53, 49, 53, 50, 53, 51, 53, 52, 53, 53, 53, 54, 53, 55, 53, 56, 53, 57, 54, 48, 54, 49, 54, 50, 54, 51, 54, 52, 54, 53, 54, 54, 54, 55, 54, 56, 54, 57, 55, 48, 55, 49, 55, 50, 55, 51, 55, 52, 55, 53, 55, 54, 55, 55, 55, 56, 55, 57, 56, 48, 56, 49, 56, 50, 56, 51, 56, 52, 56, 53, 56, 54, 56, 55, 56, 56, 56, 57, 57, 48, 57, 49, 57, 50, 57, 51, 57, 52, 57, 53, 57, 54, 57, 55, 57, 56, 57, 57]⟩)) (.t 130)⟩,
  ⟨(some 132), none, .mv (.t 14)⟩,
  ⟨(some 133), none, .ixS (.c (.str ⟨#[48, 48, 48, 49, 48, 50, 48, 51, 48, 52, 48, 53, 48, 54, 48, 55, 48, 56, 48, 57, 49, 48, 49, 49, 49, 50, 49, 51, 49, 52, 49, 53, 49, 54, 49, 55, 49, 56, 49, 57, 50, 48, 50, 49, 50, 50, 50, 51, 50, 52, 50, 53, 50, 54, 50, 55, 50, 56, 50, 57, 51, 48, 51, 49, 51, 50, 51, 51, 51, 52, 51, 53, 51, 54, 51, 55, 51, 56, 51, 57, 52, 48, 52, 49, 52, 50, 52, 51, 52, 52, 52, 53, 52, 54, 52, 55, 52, 56, 52, 57, 53, 48, 53, 49, 53, 50, 53, 51, 53, 52, 53, 53, 53, 54, 53, 55, 53, 56, 53, 57, 54, 48, 54, 49, 54, 50, 54, 51, 54, 52, 54, 53, 54, 54, 54, 55, 54, 56, 54, 57, 55, 48, 55, 49, 55, 50, 55, 51, 55, 52, 55, 53, 55, 54, 55, 55, 55, 56, 55, 57, 56, 48, 56, 49, 56, 50, 56, 51, 56, 52, 56, 53, 56, 54, 56, 55, 56, 56, 56, 57, 57, 48, 57, 49, 57, 50, 57, 51, 57, 52, 57, 53, 57, 54, 57, 55, 57, 56, 57, 57]⟩)) (.t 132)⟩,
  ⟨(some 134), none, .iaS 1 (.t 123) (.t 125)⟩,
  ⟨none, none, .store 1 (.t 134) (.t 131)⟩,
  ⟨(some 135), none, .iaS 1 (.t 126) (.t 128)⟩,
  ⟨none, none, .store 1 (.t 135) (.t 133)⟩]
abbrev x48r19 : List XOper := [
  ⟨(some 136), none, .mv (.t 4)⟩,
  ⟨(some 137), none, .bin .sub (.t 136) (.c (.int .i64 4))⟩,
  ⟨(some 4), none, .mv (.t 137)⟩]
abbrev x48r20 : List XOper := [
  ⟨(some 138), none, .mv (.t 4)⟩,
  ⟨(some 139), none, .bin .geq (.t 138) (.c (.int .i64 2))⟩]
abbrev x48r21 : List XOper := [
  ⟨(some 140), none, .mv (.t 12)⟩,
  ⟨(some 141), none, .bin .rem (.t 140) (.c (.int .u32 100))⟩,
  ⟨(some 142), none, .bin .mul (.t 141) (.c (.int .u32 2))⟩,
  ⟨(some 16), none, .mv (.t 142)⟩]
abbrev x48r22 : List XOper := [
  ⟨(some 143), none, .mv (.t 12)⟩,
  ⟨(some 144), none, .bin .quo (.t 143) (.c (.int .u32 100))⟩,
  ⟨(some 12), none, .mv (.t 144)⟩]
abbrev x48r23 : List XOper := [
  ⟨(some 145), none, .mv (.t 0)⟩,
  ⟨(some 146), none, .mv (.t 4)⟩,
  ⟨(some 147), none, .bin .sub (.t 146) (.c (.int .i64 1))⟩,
  ⟨(some 148), none, .mv (.t 0)⟩,
  ⟨(some 149), none, .mv (.t 4)⟩,
  ⟨(some 150), none, .bin .sub (.t 149) (.c (.int .i64 2))⟩,
  ⟨(some 151), none, .mv (.t 16)⟩,
  ⟨(some 152), none, .bin .add (.t 151) (.c (.int .u32 1))⟩,
  ⟨(some 153), none, .ixS (.c (.str ⟨#[48, 48, 48, 49, 48, 50, 48, 51, 48, 52, 48, 53, 48, 54, 48, 55, 48, 56, 48, 57, 49, 48, 49, 49, 49, 50, 49, 51, 49, 52, 49, 53, 49, 54, 49, 55, 49, 56, 49, 57, 50, 48, 50, 49, 50, 50, 50, 51, 50, 52, 50, 53, 50, 54, 50, 55, 50, 56, 50, 57, 51, 48, 51, 49, 51, 50, 51, 51, 51, 52, 51, 53, 51, 54, 51, 55, 51, 56, 51, 57, 52, 48, 52, 49, 52, 50, 52, 51, 52, 52, 52, 53, 52, 54, 52, 55, 52, 56, 52, 57, 53, 48, 53, 49, 53, 50, 53, 51, 53, 52, 53, 53, 53, 54, 53, 55, 53, 56, 53, 57, 54, 48, 54, 49, 54, 50, 54, 51, 54, 52, 54, 53, 54, 54, 54, 55, 54, 56, 54, 57, 55, 48, 55, 49, 55, 50, 55, 51, 55, 52, 55, 53, 55, 54, 55, 55, 55, 56, 55, 57, 56, 48, 56, 49, 56, 50, 56, 51, 56, 52, 56, 53, 56, 54, 56, 55, 56, 56, 56, 57, 57, 48, 57, 49, 57, 50, 57, 51, 57, 52, 57, 53, 57, 54, 57, 55, 57, 56, 57, 57]⟩)) (.t 152)⟩,
  ⟨(some 154), none, .mv (.t 16)⟩,
  ⟨(some 155), none, .ixS (.c (.str ⟨#[48, 48, 48, 49, 48, 50, 48, 51, 48, 52, 48, 53, 48, 54, 48, 55, 48, 56, 48, 57, 49, 48, 49, 49, 49, 50, 49, 51, 49, 52, 49, 53, 49, 54, 49, 55, 49, 56, 49, 57, 50, 48, 50, 49, 50, 50, 50, 51, 50, 52, 50, 53, 50, 54, 50, 55, 50, 56, 50, 57, 51, 48, 51, 49, 51, 50, 51, 51, 51, 52, 51, 53, 51, 54, 51, 55, 51, 56, 51, 57, 52, 48, 52, 49, 52, 50, 52, 51, 52, 52, 52, 53, 52, 54, 52, 55, 52, 56, 52, 57, 53, 48, 53, 49, 53, 50, 53, 51, 53, 52, 53, 53, 53, 54, 53, 55, 53, 56, 53, 57, 54, 48, 54, 49, 54, 50, 54, 51, 54, 52, 54, 53, 54, 54, 54, 55, 54, 56, 54, 57, 55, 48, 55, 49, 55, 50, 55, 51, 55, 52, 55, 53, 55, 54, 55, 55, 55, 56, 55, 57, 56, 48, 56, 49, 56, 50, 56, 51, 56, 52, 56, 53, 56, 54, 56, 55, 56, 56, 56, 57, 57, 48, 57, 49, 57, 50, 57, 51, 57, 52, 57, 53, 57, 54, 57, 55, 57, 56, 57, 57]⟩)) (.t 154)⟩,
  ⟨(some 156), none, .iaS 1 (.t 145) (.t 147)⟩,
  ⟨none, none, .store 1 (.t 156) (.t 153)⟩,
  ⟨(some 157), none, .iaS 1 (.t 148) (.t 150)⟩,
  ⟨none, none, .store 1 (.t 157) (.t 155)⟩]
abbrev x48r24 : List XOper := [
  ⟨(some 158), none, .mv (.t 4)⟩,
  ⟨(some 159), none, .bin .sub (.t 158) (.c (.int .i64 2))⟩,
  ⟨(some 4), none, .mv (.t 159)⟩]
abbrev x48r25 : List XOper := [
  ⟨(some 160), none, .mv (.t 4)⟩,
  ⟨(some 161), none, .bin .gtr (.t 160) (.c (.int .i64 0))⟩]
abbrev x48r26 : List XOper := [
  ⟨(some 162), none, .mv (.t 0)⟩,
  ⟨(some 163), none, .mv (.t 12)⟩,
  ⟨(some 164), none, .bin .add (.c (.int .u32 48)) (.t 163)⟩,
  ⟨(some 165), none, .conv .u8 (.t 164)⟩,
  ⟨(some 166), none, .iaS 1 (.t 162) (.c (.int .i64 0))⟩,
  ⟨none, none, .store 1 (.t 166) (.t 165)⟩]
/-- internal/strconv.formatBase10 -/
abbrev x48b : XCode :=
  (.seq (.reg 0 x48r0 none)
  (.seq (.block 0
    (.loop x48l1))
  (.seq (.reg 12 x48r12 none)
  (.seq (.seq (.reg 13 x48r13 none)
  (.cond (.t 99)
    (.seq (.reg 14 x48r14 none)
    (.seq (.reg 15 x48r15 none)
    (.seq (.reg 16 x48r16 none)
    (.seq (.reg 17 x48r17 (some ⟨[]⟩))
    (.seq (.reg 18 x48r18 (some ⟨[]⟩))
    (.reg 19 x48r19 none))))))
    .skip))
  (.seq (.seq (.reg 20 x48r20 none)
  (.cond (.t 139)
    (.seq (.reg 21 x48r21 none)
    (.seq (.reg 22 x48r22 none)
    (.seq (.reg 23 x48r23 (some ⟨[]⟩))
    (.reg 24 x48r24 none))))
    .skip))
  (.seq (.reg 25 x48r25 none)
  (.cond (.t 161)
    (.reg 26 x48r26 none)
    .skip)))))))
def x48 : XFunc := ⟨167, 2, [], x48b⟩
theorem x48_ok : chkF Tryd.prog Tryd.f48 x48 = true := by kernel_rfl
theorem x48_eq : x48.body = x48b ∧ x48.res = [] ∧ x48.np = 2 := ⟨rfl, rfl, rfl⟩

abbrev x49r0 : List XOper := [
  ⟨(some 10), none, .mv (.c .nils)⟩,
  ⟨(some 11), none, .mv (.c (.str ⟨#[]⟩))⟩]
abbrev x49r1 : List XOper := [
  ⟨(some 19), none, .mv (.t 2)⟩,
  ⟨(some 20), none, .bin .lss (.t 19) (.c (.int .i64 2))⟩,
  ⟨(some 21), none, .mv (.t 20)⟩,
  ⟨(some 22), (some (21, false)), .mv (.t 2)⟩,
  ⟨(some 23), (some (21, false)), .bin .eql (.t 22) (.c (.int .i64 10))⟩,
  ⟨(some 24), none, .pick (.t 21) (.c (.bool true)) (.t 23)⟩,
  ⟨(some 25), none, .mv (.t 24)⟩,
  ⟨(some 26), (some (25, false)), .mv (.t 2)⟩,
  ⟨(some 27), (some (25, false)), .bin .gtr (.t 26) (.c (.int .i64 36))⟩,
  ⟨(some 28), none, .pick (.t 25) (.c (.bool true)) (.t 27)⟩]
abbrev x49r2 : List XOper := [
  ⟨(some 29), none, .mki 9 (.c (.str ⟨#[115, 116, 114, 99, 111, 110, 118, 58, 32, 105, 108, 108, 101, 103, 97, 108, 32, 65, 112, 112, 101, 110, 100, 73, 110, 116, 47, 70, 111, 114, 109, 97, 116, 73, 110, 116, 32, 98, 97, 115, 101]⟩))⟩,
  ⟨none, none, .bad⟩]
abbrev x49r3 : List XOper := [
  ⟨(some 12), none, .alloc [(.int .u8 0), (.int .u8 0), (.int .u8 0), (.int .u8 0), (.int .u8 0), (.int .u8 0), (.int .u8 0), (.int .u8 0), (.int .u8 0), (.int .u8 0), (.int .u8 0), (.int .u8 0), (.int .u8 0), (.int .u8 0), (.int .u8 0), (.int .u8 0), (.int .u8 0), (.int .u8 0), (.int .u8 0), (.int .u8 0), (.int .u8 0), (.int .u8 0), (.int .u8 0), (.int .u8 0), (.int .u8 0), (.int .u8 0), (.int .u8 0), (.int .u8 0), (.int .u8 0), (.int .u8 0), (.int .u8 0), (.int .u8 0), (.int .u8 0), (.int .u8 0), (.int .u8 0), (.int .u8 0), (.int .u8 0), (.int .u8 0), (.int .u8 0), (.int .u8 0), (.int .u8 0), (.int .u8 0), (.int .u8 0), (.int .u8 0), (.int .u8 0), (.int .u8 0), (.int .u8 0), (.int .u8 0), (.int .u8 0), (.int .u8 0), (.int .u8 0), (.int .u8 0), (.int .u8 0), (.int .u8 0), (.int .u8 0), (.int .u8 0), (.int .u8 0), (.int .u8 0), (.int .u8 0), (.int .u8 0), (.int .u8 0), (.int .u8 0), (.int .u8 0), (.int .u8 0), (.int .u8 0)]⟩]
abbrev x49r4 : List XOper := [
  ⟨(some 13), none, .mv (.c (.int .i64 65))⟩]
abbrev x49r5 : List XOper := [
  ⟨(some 30), none, .mv (.t 3)⟩]
abbrev x49r6 : List XOper := [
  ⟨(some 31), none, .mv (.t 1)⟩,
  ⟨(some 32), none, .un .neg (.t 31)⟩,
  ⟨(some 1), none, .mv (.t 32)⟩]
abbrev x49r7 : List XOper := [
  ⟨(some 33), none, .mv (.t 2)⟩,
  ⟨(some 34), none, .call (.c (.fn (.func 65) [] [])) [(.t 33)]⟩]
abbrev x49r8 : List XOper := [
  ⟨(some 35), none, .mv (.t 2)⟩,
  ⟨(some 36), none, .conv .u64 (.t 35)⟩,
  ⟨(some 37), none, .call (.c (.fn (.func 66) [] [])) [(.t 36)]⟩,
  ⟨(some 38), none, .conv .u64 (.t 37)⟩,
  ⟨(some 14), none, .mv (.t 38)⟩]
abbrev x49r9 : List XOper := [
  ⟨(some 39), none, .mv (.t 2)⟩,
  ⟨(some 40), none, .conv .u64 (.t 39)⟩,
  ⟨(some 15), none, .mv (.t 40)⟩]
abbrev x49r10 : List XOper := [
  ⟨(some 41), none, .mv (.t 2)⟩,
  ⟨(some 42), none, .conv .u64 (.t 41)⟩,
  ⟨(some 43), none, .bin .sub (.t 42) (.c (.int .u64 1))⟩,
  ⟨(some 16), none, .mv (.t 43)⟩]
abbrev x49r11 : List XOper := [
  ⟨(some 44), none, .mv (.t 1)⟩,
  ⟨(some 45), none, .mv (.t 15)⟩,
  ⟨(some 46), none, .bin .geq (.t 44) (.t 45)⟩]
abbrev x49r12 : List XOper := [
  ⟨(some 47), none, .mv (.t 13)⟩,
  ⟨(some 48), none, .bin .sub (.t 47) (.c (.int .i64 1))⟩,
  ⟨(some 13), none, .mv (.t 48)⟩]
abbrev x49r13 : List XOper := [
  ⟨(some 49), none, .mv (.t 13)⟩,
  ⟨(some 50), none, .mv (.t 1)⟩,
  ⟨(some 51), none, .mv (.t 16)⟩,
  ⟨(some 52), none, .bin .and (.t 50) (.t 51)⟩,
  ⟨(some 53), none, .ixS (.c (.str ⟨#[48, 49, 50, 51, 52, 53, 54, 55, 56, 57, 97, 98, 99, 100, 101, 102, 103, 104, 105, 106, 107, 108, 109, 110, 111, 112, 113, 114, 115, 116, 117, 118, 119, 120, 121, 122]⟩)) (.t 52)⟩,
  ⟨(some 54), none, .iaA 65 1 (.t 12) (.t 49)⟩,
  ⟨none, none, .store 1 (.t 54) (.t 53)⟩]
abbrev x49r14 : List XOper := [
  ⟨(some 55), none, .mv (.t 1)⟩,
  ⟨(some 56), none, .mv (.t 14)⟩,
  ⟨(some 57), none, .bin .shr (.t 55) (.t 56)⟩,
  ⟨(some 1), none, .mv (.t 57)⟩]
abbrev x49l11 : XCode :=
  (.seq (.seq (.reg 11 x49r11 none)
  (.cond (.t 46)
    .skip
    (.exit 0)))
  (.block 1
    (.seq (.reg 12 x49r12 none)
    (.seq (.reg 13 x49r13 none)
    (.reg 14 x49r14 none)))))
abbrev x49r15 : List XOper := [
  ⟨(some 58), none, .mv (.t 13)⟩,
  ⟨(some 59), none, .bin .sub (.t 58) (.c (.int .i64 1))⟩,
  ⟨(some 13), none, .mv (.t 59)⟩]
abbrev x49r16 : List XOper := [
  ⟨(some 60), none, .mv (.t 13)⟩,
  ⟨(some 61), none, .mv (.t 1)⟩,
  ⟨(some 62), none, .ixS (.c (.str ⟨#[48, 49, 50, 51, 52, 53, 54, 55, 56, 57, 97, 98, 99, 100, 101, 102, 103, 104, 105, 106, 107, 108, 109, 110, 111, 112, 113, 114, 115, 116, 117, 118, 119, 120, 121, 122]⟩)) (.t 61)⟩,
  ⟨(some 63), none, .iaA 65 1 (.t 12) (.t 60)⟩,
  ⟨none, none, .store 1 (.t 63) (.t 62)⟩]
abbrev x49r17 : List XOper := [
  ⟨(some 64), none, .mv (.t 2)⟩,
  ⟨(some 65), none, .conv .u64 (.t 64)⟩,
  ⟨(some 17), none, .mv (.t 65)⟩]
abbrev x49r18 : List XOper := [
  ⟨(some 66), none, .mv (.t 1)⟩,
  ⟨(some 67), none, .mv (.t 17)⟩,
  ⟨(some 68), none, .bin .geq (.t 66) (.t 67)⟩]
abbrev x49r19 : List XOper := [
  ⟨(some 69), none, .mv (.t 13)⟩,
  ⟨(some 70), none, .bin .sub (.t 69) (.c (.int .i64 1))⟩,
  ⟨(some 13), none, .mv (.t 70)⟩]
abbrev x49r20 : List XOper := [
  ⟨(some 71), none, .mv (.t 1)⟩,
  ⟨(some 72), none, .mv (.t 17)⟩,
  ⟨(some 73), none, .bin .quo (.t 71) (.t 72)⟩,
  ⟨(some 18), none, .mv (.t 73)⟩]
abbrev x49r21 : List XOper := [
  ⟨(some 74), none, .mv (.t 13)⟩,
  ⟨(some 75), none, .mv (.t 1)⟩,
  ⟨(some 76), none, .mv (.t 18)⟩,
  ⟨(some 77), none, .mv (.t 17)⟩,
  ⟨(some 78), none, .bin .mul (.t 76) (.t 77)⟩,
  ⟨(some 79), none, .bin .sub (.t 75) (.t 78)⟩,
  ⟨(some 80), none, .ixS (.c (.str ⟨#[48, 49, 50, 51, 52, 53, 54, 55, 56, 57, 97, 98, 99, 100, 101, 102, 103, 104, 105, 106, 107, 108, 109, 110, 111, 112, 113, 114, 115, 116, 117, 118, 119, 120, 121, 122]⟩)) (.t 79)⟩,
  ⟨(some 81), none, .iaA 65 1 (.t 12) (.t 74)⟩,
  ⟨none, none, .store 1 (.t 81) (.t 80)⟩]
abbrev x49r22 : List XOper := [
  ⟨(some 82), none, .mv (.t 18)⟩,
  ⟨(some 1), none, .mv (.t 82)⟩]
abbrev x49l19 : XCode :=
  (.seq (.seq (.reg 18 x49r18 none)
  (.cond (.t 68)
    .skip
    (.exit 2)))
  (.block 3
    (.seq (.reg 19 x49r19 none)
    (.seq (.reg 20 x49r20 none)
    (.seq (.reg 21 x49r21 none)
    (.reg 22 x49r22 none))))))
abbrev x49r23 : List XOper := [
  ⟨(some 83), none, .mv (.t 13)⟩,
  ⟨(some 84), none, .bin .sub (.t 83) (.c (.int .i64 1))⟩,
  ⟨(some 13), none, .mv (.t 84)⟩]
abbrev x49r24 : List XOper := [
  ⟨(some 85), none, .mv (.t 13)⟩,
  ⟨(some 86), none, .mv (.t 1)⟩,
  ⟨(some 87), none, .ixS (.c (.str ⟨#[48, 49, 50, 51, 52, 53, 54, 55, 56, 57, 97, 98, 99, 100, 101, 102, 103, 104, 105, 106, 107, 108, 109, 110, 111, 112, 113, 114, 115, 116, 117, 118, 119, 120, 121, 122]⟩)) (.t 86)⟩,
  ⟨(some 88), none, .iaA 65 1 (.t 12) (.t 85)⟩,
  ⟨none, none, .store 1 (.t 88) (.t 87)⟩]
abbrev x49r25 : List XOper := [
  ⟨(some 89), none, .mv (.t 3)⟩]
abbrev x49r26 : List XOper := [
  ⟨(some 90), none, .mv (.t 13)⟩,
  ⟨(some 91), none, .bin .sub (.t 90) (.c (.int .i64 1))⟩,
  ⟨(some 13), none, .mv (.t 91)⟩]
abbrev x49r27 : List XOper := [
  ⟨(some 92), none, .mv (.t 13)⟩,
  ⟨(some 93), none, .iaA 65 1 (.t 12) (.t 92)⟩,
  ⟨none, none, .store 1 (.t 93) (.c (.int .u8 45))⟩]
abbrev x49r28 : List XOper := [
  ⟨(some 94), none, .mv (.t 4)⟩]
abbrev x49r29 : List XOper := [
  ⟨(some 95), none, .mv (.t 0)⟩,
  ⟨(some 96), none, .mv (.t 13)⟩,
  ⟨(some 97), none, .slA 65 1 (.t 12) (some (.t 96)) none⟩,
  ⟨(some 98), none, .app 1 1 (.t 95) (.t 97)⟩,
  ⟨(some 10), none, .mv (.t 98)⟩]
abbrev x49r30 : List XOper := [
  ⟨(some 99), none, .mv (.t 13)⟩,
  ⟨(some 100), none, .slA 65 1 (.t 12) (some (.t 99)) none⟩,
  ⟨(some 101), none, .b2s (.t 100)⟩,
  ⟨(some 11), none, .mv (.t 101)⟩]
/-- internal/strconv.formatBits -/
abbrev x49b : XCode :=
  (.seq (.reg 0 x49r0 none)
  (.seq (.seq (.reg 1 x49r1 none)
  (.cond (.t 28)
    (.reg 2 x49r2 none)
    .skip))
  (.seq (.reg 3 x49r3 none)
  (.seq (.reg 4 x49r4 none)
  (.seq (.seq (.reg 5 x49r5 none)
  (.cond (.t 30)
    (.reg 6 x49r6 none)
    .skip))
  (.seq (.seq (.reg 7 x49r7 none)
  (.cond (.t 34)
    (.seq (.reg 8 x49r8 none)
    (.seq (.reg 9 x49r9 none)
    (.seq (.reg 10 x49r10 none)
    (.seq (.block 0
      (.loop x49l11))
    (.seq (.reg 15 x49r15 none)
    (.reg 16 x49r16 none))))))
    (.seq (.reg 17 x49r17 none)
    (.seq (.block 2
      (.loop x49l19))
    (.seq (.reg 23 x49r23 none)
    (.reg 24 x49r24 none))))))
  (.seq (.seq (.reg 25 x49r25 none)
  (.cond (.t 89)
    (.seq (.reg 26 x49r26 none)
    (.reg 27 x49r27 none))
    .skip))
  (.seq (.seq (.reg 28 x49r28 none)
  (.cond (.t 94)
    (.seq (.reg 29 x49r29 none)
    .ret)
    .skip))
  (.seq (.reg 30 x49r30 none)
  .ret)))))))))
def x49 : XFunc := ⟨102, 5, [.tmp 10, .tmp 11], x49b⟩
theorem x49_ok : chkF Tryd.prog Tryd.f49 x49 = true := by kernel_rfl
theorem x49_eq : x49.body = x49b ∧ x49.res = [.tmp 10, .tmp 11] ∧ x49.np = 5 := ⟨rfl, rfl, rfl⟩

abbrev x65r0 : List XOper := [
  ⟨(some 2), none, .mv (.c (.bool false))⟩]
abbrev x65r1 : List XOper := [
  ⟨(some 3), none, .mv (.t 0)⟩,
  ⟨(some 4), none, .mv (.t 0)⟩,
  ⟨(some 5), none, .bin .sub (.t 4) (.c (.int .i64 1))⟩,
  ⟨(some 6), none, .bin .and (.t 3) (.t 5)⟩,
  ⟨(some 7), none, .bin .eql (.t 6) (.c (.int .i64 0))⟩,
  ⟨(some 2), none, .mv (.t 7)⟩]
/-- internal/strconv.isPowerOfTwo -/
abbrev x65b : XCode :=
  (.seq (.reg 0 x65r0 none)
  (.seq (.reg 1 x65r1 none)
  .ret))
def x65 : XFunc := ⟨8, 1, [.tmp 2], x65b⟩
theorem x65_ok : chkF Tryd.prog Tryd.f65 x65 = true := by kernel_rfl
theorem x65_eq : x65.body = x65b ∧ x65.res = [.tmp 2] ∧ x65.np = 1 := ⟨rfl, rfl, rfl⟩

abbrev x66r0 : List XOper := [
  ⟨(some 2), none, .mv (.c (.int .i64 0))⟩]
abbrev x66r1 : List XOper := [
  ⟨(some 3), none, .mv (.t 0)⟩,
  ⟨(some 4), none, .conv .u32 (.t 3)⟩,
  ⟨(some 5), none, .call (.c (.fn (.func 73) [] [])) [(.t 4)]⟩,
  ⟨(some 2), none, .mv (.t 5)⟩]
abbrev x66r2 : List XOper := [
  ⟨(some 6), none, .mv (.t 0)⟩,
  ⟨(some 7), none, .call (.c (.fn (.func 74) [] [])) [(.t 6)]⟩,
  ⟨(some 2), none, .mv (.t 7)⟩]
/-- math/bits.TrailingZeros -/
abbrev x66b : XCode :=
  (.seq (.reg 0 x66r0 none)
  (.seq (.cond (.c (.bool false))
    (.seq (.reg 1 x66r1 none)
    .ret)
    .skip)
  (.seq (.reg 2 x66r2 none)
  .ret)))
def x66 : XFunc := ⟨8, 1, [.tmp 2], x66b⟩
theorem x66_ok : chkF Tryd.prog Tryd.f66 x66 = true := by kernel_rfl
theorem x66_eq : x66.body = x66b ∧ x66.res = [.tmp 2] ∧ x66.np = 1 := ⟨rfl, rfl, rfl⟩

abbrev x74r0 : List XOper := [
  ⟨(some 2), none, .mv (.c (.int .i64 0))⟩]
abbrev x74r1 : List XOper := [
  ⟨(some 3), none, .mv (.t 0)⟩,
  ⟨(some 4), none, .bin .eql (.t 3) (.c (.int .u64 0))⟩]
abbrev x74r2 : List XOper := [
  ⟨(some 2), none, .mv (.c (.int .i64 64))⟩]
abbrev x74r3 : List XOper := [
  ⟨(some 5), none, .mv (.t 0)⟩,
  ⟨(some 6), none, .mv (.t 0)⟩,
  ⟨(some 7), none, .un .neg (.t 6)⟩,
  ⟨(some 8), none, .bin .and (.t 5) (.t 7)⟩,
  ⟨(some 9), none, .bin .mul (.t 8) (.c (.int .u64 285870213051353865))⟩,
  ⟨(some 10), none, .bin .shr (.t 9) (.c (.int .u64 58))⟩,
  ⟨(some 11), none, .bad⟩,
  ⟨(some 12), none, .load false 1 (.t 11)⟩,
  ⟨(some 13), none, .conv .i64 (.t 12)⟩,
  ⟨(some 2), none, .mv (.t 13)⟩]
/-- math/bits.TrailingZeros64 -/
abbrev x74b : XCode :=
  (.seq (.reg 0 x74r0 none)
  (.seq (.seq (.reg 1 x74r1 none)
  (.cond (.t 4)
    (.seq (.reg 2 x74r2 none)
    .ret)
    .skip))
  (.seq (.reg 3 x74r3 none)
  .ret)))
def x74 : XFunc := ⟨14, 1, [.tmp 2], x74b⟩
theorem x74_ok : chkF Tryd.prog Tryd.f74 x74 = true := by kernel_rfl
theorem x74_eq : x74.body = x74b ∧ x74.res = [.tmp 2] ∧ x74.np = 1 := ⟨rfl, rfl, rfl⟩


def xf : FuncId → Option XFunc
  | 3 => some x3
  | 4 => some x4
  | 5 => some x5
  | 6 => some x6
  | 7 => some x7
  | 8 => some x8
  | 9 => some x9
  | 10 => some x10
  | 11 => some x11
  | 12 => some x12
  | 13 => some x13
  | 14 => some x14
  | 15 => some x15
  | 16 => some x16
  | 17 => some x17
  | 18 => some x18
  | 19 => some x19
  | 22 => some x22
  | 24 => some x24
  | 25 => some x25
  | 34 => some x34
  | 46 => some x46
  | 48 => some x48
  | 49 => some x49
  | 65 => some x65
  | 66 => some x66
  | 74 => some x74
  | _ => none
def C0 : Cfg := ⟨fun _ => none, xf⟩
theorem ok0 : CfgOk Tryd.prog C0 := by
  refine ⟨(fun g F h => by cases h), (fun g x h => ?_), by kernel_rfl⟩
  simp only [C0, xf] at h
  split at h
  · cases h; exact ⟨Tryd.f3, Tryd.func3, x3_ok⟩
  · cases h; exact ⟨Tryd.f4, Tryd.func4, x4_ok⟩
  · cases h; exact ⟨Tryd.f5, Tryd.func5, x5_ok⟩
  · cases h; exact ⟨Tryd.f6, Tryd.func6, x6_ok⟩
  · cases h; exact ⟨Tryd.f7, Tryd.func7, x7_ok⟩
  · cases h; exact ⟨Tryd.f8, Tryd.func8, x8_ok⟩
  · cases h; exact ⟨Tryd.f9, Tryd.func9, x9_ok⟩
  · cases h; exact ⟨Tryd.f10, Tryd.func10, x10_ok⟩
  · cases h; exact ⟨Tryd.f11, Tryd.func11, x11_ok⟩
  · cases h; exact ⟨Tryd.f12, Tryd.func12, x12_ok⟩
  · cases h; exact ⟨Tryd.f13, Tryd.func13, x13_ok⟩
  · cases h; exact ⟨Tryd.f14, Tryd.func14, x14_ok⟩
  · cases h; exact ⟨Tryd.f15, Tryd.func15, x15_ok⟩
  · cases h; exact ⟨Tryd.f16, Tryd.func16, x16_ok⟩
  · cases h; exact ⟨Tryd.f17, Tryd.func17, x17_ok⟩
  · cases h; exact ⟨Tryd.f18, Tryd.func18, x18_ok⟩
  · cases h; exact ⟨Tryd.f19, Tryd.func19, x19_ok⟩
  · cases h; exact ⟨Tryd.f22, Tryd.func22, x22_ok⟩
  · cases h; exact ⟨Tryd.f24, Tryd.func24, x24_ok⟩
  · cases h; exact ⟨Tryd.f25, Tryd.func25, x25_ok⟩
  · cases h; exact ⟨Tryd.f34, Tryd.func34, x34_ok⟩
  · cases h; exact ⟨Tryd.f46, Tryd.func46, x46_ok⟩
  · cases h; exact ⟨Tryd.f48, Tryd.func48, x48_ok⟩
  · cases h; exact ⟨Tryd.f49, Tryd.func49, x49_ok⟩
  · cases h; exact ⟨Tryd.f65, Tryd.func65, x65_ok⟩
  · cases h; exact ⟨Tryd.f66, Tryd.func66, x66_ok⟩
  · cases h; exact ⟨Tryd.f74, Tryd.func74, x74_ok⟩
  · cases h
end Go.Proofs.YtaddodioccobmaaDoor
