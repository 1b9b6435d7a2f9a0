/-
  The functions that the statements reach, as the interpreter's texts, each checked against the translation.
-/
import Derived.Test.YtjcjlgiigjckeaaDoorXZ
import Derived.Test.YtjcjlgiigjckeaaDoorRows
set_option linter.unusedVariables false
namespace Go.Proofs.YtjcjlgiigjckeaaDoor
open Go Go.Xec

abbrev x3r0 : List XOper := [
  ⟨(some 2), none, .mv (.c (.bool false))⟩]
abbrev x3r1 : List XOper := [
  ⟨(some 9), none, .mv (.t 0)⟩,
  ⟨(some 10), none, .mv (.t 0)⟩,
  ⟨(some 11), none, .lenS (.t 10)⟩,
  ⟨(some 12), none, .mnx false (.t 11) [(.c (.int .i64 4100))]⟩,
  ⟨(some 13), none, .slS (.t 9) none (some (.t 12))⟩,
  ⟨(some 0), none, .mv (.t 13)⟩]
abbrev x3r2 : List XOper := [
  ⟨(some 15), none, .mv (.t 0)⟩,
  ⟨(some 16), none, .call (.c (.fn (.func 7) [] [])) [(.t 15)]⟩,
  ⟨(some 14), none, .mv (.t 16)⟩,
  ⟨(some 17), none, .ext (.t 14) 0⟩,
  ⟨(some 18), none, .ext (.t 14) 1⟩,
  ⟨(some 19), none, .ext (.t 14) 2⟩,
  ⟨(some 3), none, .mv (.t 17)⟩,
  ⟨(some 4), none, .mv (.t 18)⟩,
  ⟨(some 5), none, .mv (.t 19)⟩]
abbrev x3r3 : List XOper := [
  ⟨(some 21), none, .mv (.t 0)⟩,
  ⟨(some 22), none, .call (.c (.fn (.func 8) [] [])) [(.t 21)]⟩,
  ⟨(some 20), none, .mv (.t 22)⟩,
  ⟨(some 23), none, .ext (.t 20) 0⟩,
  ⟨(some 24), none, .ext (.t 20) 1⟩,
  ⟨(some 25), none, .ext (.t 20) 2⟩,
  ⟨(some 6), none, .mv (.t 23)⟩,
  ⟨(some 7), none, .mv (.t 24)⟩,
  ⟨(some 8), none, .mv (.t 25)⟩]
abbrev x3r4 : List XOper := [
  ⟨(some 26), none, .call (.c (.fn (.func 9) [] [])) []⟩,
  ⟨(some 27), none, .mv (.t 26)⟩,
  ⟨(some 28), (some (27, true)), .mv (.t 5)⟩,
  ⟨(some 29), (some (27, true)), .mv (.t 8)⟩,
  ⟨(some 30), (some (27, true)), .bin .eql (.t 28) (.t 29)⟩,
  ⟨(some 31), none, .pick (.t 27) (.t 30) (.c (.bool false))⟩,
  ⟨(some 32), none, .mv (.t 31)⟩,
  ⟨(some 33), (some (32, true)), .mv (.t 4)⟩,
  ⟨(some 34), (some (32, true)), .mv (.t 7)⟩,
  ⟨(some 35), (some (32, true)), .bin .eql (.t 33) (.t 34)⟩,
  ⟨(some 36), none, .pick (.t 32) (.t 35) (.c (.bool false))⟩,
  ⟨(some 37), none, .mv (.t 36)⟩,
  ⟨(some 38), (some (37, true)), .mv (.t 3)⟩,
  ⟨(some 39), (some (37, true)), .mv (.t 6)⟩,
  ⟨(some 40), (some (37, true)), .call (.c (.fn (.func 10) [] [])) [(.t 38), (.t 39)]⟩,
  ⟨(some 41), none, .pick (.t 37) (.t 40) (.c (.bool false))⟩,
  ⟨(some 2), none, .mv (.t 41)⟩]
/-- datum/datumlaw07.TokenScans -/
abbrev x3b : XCode :=
  (.seq (.reg 0 x3r0 none)
  (.seq (.reg 1 x3r1 none)
  (.seq (.reg 2 x3r2 none)
  (.seq (.reg 3 x3r3 none)
  (.seq (.reg 4 x3r4 none)
  .ret)))))
def x3 : XFunc := ⟨42, 1, [.tmp 2], x3b⟩
theorem x3_ok : chkF Tryd.prog Tryd.f3 x3 = true := by kernel_rfl
theorem x3_eq : x3.body = x3b ∧ x3.res = [.tmp 2] ∧ x3.np = 1 := ⟨rfl, rfl, rfl⟩

abbrev x4r0 : List XOper := [
  ⟨(some 3), none, .box (.t 1)⟩,
  ⟨(some 4), none, .mv (.c (.bool false))⟩]
abbrev x4r1 : List XOper := [
  ⟨(some 8), none, .mv (.t 0)⟩,
  ⟨(some 9), none, .call (.c (.fn (.func 11) [] [])) [(.t 8)]⟩,
  ⟨(some 0), none, .mv (.t 9)⟩]
abbrev x4r2 : List XOper := [
  ⟨(some 10), none, .fa 1 (.t 3)⟩,
  ⟨(some 11), none, .load false 1 (.t 10)⟩,
  ⟨(some 12), none, .fa 1 (.t 3)⟩,
  ⟨(some 13), none, .load false 1 (.t 12)⟩,
  ⟨(some 14), none, .lenS (.t 13)⟩,
  ⟨(some 15), none, .mnx false (.t 14) [(.c (.int .i64 20))]⟩,
  ⟨(some 16), none, .slS (.t 11) none (some (.t 15))⟩,
  ⟨(some 17), none, .fa 1 (.t 3)⟩,
  ⟨none, none, .store 1 (.t 17) (.t 16)⟩]
abbrev x4r3 : List XOper := [
  ⟨(some 19), none, .mv (.t 0)⟩,
  ⟨(some 20), none, .call (.c (.fn (.func 12) [] [])) [(.t 19)]⟩,
  ⟨(some 18), none, .mv (.t 20)⟩,
  ⟨(some 21), none, .ext (.t 18) 0⟩,
  ⟨(some 22), none, .ext (.t 18) 1⟩,
  ⟨(some 5), none, .mv (.t 21)⟩,
  ⟨(some 6), none, .mv (.t 22)⟩]
abbrev x4r4 : List XOper := [
  ⟨(some 23), none, .load true 4 (.t 3)⟩,
  ⟨(some 24), none, .call (.c (.fn (.func 13) [] [])) [(.t 23)]⟩,
  ⟨(some 25), none, .load true 4 (.t 3)⟩,
  ⟨(some 26), none, .call (.c (.fn (.func 14) [] [])) [(.t 25)]⟩,
  ⟨(some 27), none, .eqB true (.t 24) (.t 26)⟩,
  ⟨(some 28), none, .mv (.t 27)⟩,
  ⟨(some 29), (some (28, false)), .call (.c (.fn (.func 9) [] [])) []⟩,
  ⟨(some 30), (some (28, false)), .un .not (.t 29)⟩,
  ⟨(some 31), none, .pick (.t 28) (.c (.bool true)) (.t 30)⟩]
abbrev x4r5 : List XOper := [
  ⟨(some 4), none, .mv (.c (.bool false))⟩]
abbrev x4r6 : List XOper := [
  ⟨(some 32), none, .mv (.t 0)⟩,
  ⟨(some 33), none, .call (.c (.fn (.func 15) [] [])) [(.t 32)]⟩,
  ⟨(some 34), none, .un .not (.t 33)⟩]
abbrev x4r7 : List XOper := [
  ⟨(some 35), none, .mv (.t 6)⟩,
  ⟨(some 36), none, .bin .eql (.t 35) (.c (.int .i64 1))⟩,
  ⟨(some 37), none, .mv (.t 36)⟩,
  ⟨(some 38), (some (37, true)), .mv (.t 5)⟩,
  ⟨(some 39), (some (37, true)), .bin .eql (.t 38) (.c (.str ⟨#[]⟩))⟩,
  ⟨(some 40), none, .pick (.t 37) (.t 39) (.c (.bool false))⟩,
  ⟨(some 4), none, .mv (.t 40)⟩]
abbrev x4r8 : List XOper := [
  ⟨(some 41), none, .mv (.t 0)⟩,
  ⟨(some 42), none, .call (.c (.fn (.func 16) [] [])) [(.t 41)]⟩,
  ⟨(some 7), none, .mv (.t 42)⟩]
abbrev x4r9 : List XOper := [
  ⟨(some 43), none, .mv (.t 7)⟩,
  ⟨(some 44), none, .lenS (.t 43)⟩,
  ⟨(some 45), none, .bin .leq (.t 44) (.c (.int .i64 4000))⟩]
abbrev x4r10 : List XOper := [
  ⟨(some 46), none, .mv (.t 6)⟩,
  ⟨(some 47), none, .bin .eql (.t 46) (.c (.int .i64 0))⟩,
  ⟨(some 48), none, .mv (.t 47)⟩,
  ⟨(some 49), (some (48, true)), .mv (.t 5)⟩,
  ⟨(some 50), (some (48, true)), .mv (.t 7)⟩,
  ⟨(some 51), (some (48, true)), .bin .eql (.t 49) (.t 50)⟩,
  ⟨(some 52), none, .pick (.t 48) (.t 51) (.c (.bool false))⟩,
  ⟨(some 4), none, .mv (.t 52)⟩]
abbrev x4r11 : List XOper := [
  ⟨(some 53), none, .mv (.t 6)⟩,
  ⟨(some 54), none, .bin .eql (.t 53) (.c (.int .i64 2))⟩,
  ⟨(some 55), none, .mv (.t 54)⟩,
  ⟨(some 56), (some (55, true)), .mv (.t 5)⟩,
  ⟨(some 57), (some (55, true)), .bin .eql (.t 56) (.c (.str ⟨#[]⟩))⟩,
  ⟨(some 58), none, .pick (.t 55) (.t 57) (.c (.bool false))⟩,
  ⟨(some 4), none, .mv (.t 58)⟩]
/-- datum/datumlaw07.TokenPrints -/
abbrev x4b : XCode :=
  (.seq (.reg 0 x4r0 none)
  (.seq (.reg 1 x4r1 none)
  (.seq (.reg 2 x4r2 none)
  (.seq (.reg 3 x4r3 none)
  (.seq (.seq (.reg 4 x4r4 (some ⟨[(1, 2)]⟩))
  (.cond (.t 31)
    (.seq (.reg 5 x4r5 none)
    .ret)
    .skip))
  (.seq (.seq (.reg 6 x4r6 none)
  (.cond (.t 34)
    (.seq (.reg 7 x4r7 none)
    .ret)
    .skip))
  (.seq (.seq (.reg 8 x4r8 none)
  (.seq (.reg 9 x4r9 none)
  (.cond (.t 45)
    (.seq (.reg 10 x4r10 none)
    .ret)
    .skip)))
  (.seq (.reg 11 x4r11 none)
  .ret))))))))
def x4 : XFunc := ⟨59, 2, [.tmp 4], x4b⟩
theorem x4_ok : chkF Tryd.prog Tryd.f4 x4 = true := by kernel_rfl
theorem x4_eq : x4.body = x4b ∧ x4.res = [.tmp 4] ∧ x4.np = 2 := ⟨rfl, rfl, rfl⟩

abbrev x5r0 : List XOper := [
  ⟨(some 2), none, .mv (.c (.bool false))⟩]
abbrev x5r1 : List XOper := [
  ⟨(some 12), none, .mv (.t 0)⟩,
  ⟨(some 13), none, .call (.c (.fn (.func 11) [] [])) [(.t 12)]⟩,
  ⟨(some 0), none, .mv (.t 13)⟩]
abbrev x5r2 : List XOper := [
  ⟨(some 15), none, .mv (.t 0)⟩,
  ⟨(some 16), none, .call (.c (.fn (.func 12) [] [])) [(.t 15)]⟩,
  ⟨(some 14), none, .mv (.t 16)⟩,
  ⟨(some 17), none, .ext (.t 14) 0⟩,
  ⟨(some 18), none, .ext (.t 14) 1⟩,
  ⟨(some 3), none, .mv (.t 17)⟩,
  ⟨(some 4), none, .mv (.t 18)⟩]
abbrev x5r3 : List XOper := [
  ⟨(some 19), none, .mv (.t 4)⟩,
  ⟨(some 20), none, .bin .neq (.t 19) (.c (.int .i64 0))⟩]
abbrev x5r4 : List XOper := [
  ⟨(some 21), none, .call (.c (.fn (.func 9) [] [])) []⟩,
  ⟨(some 22), none, .mv (.t 21)⟩,
  ⟨(some 23), (some (22, true)), .mv (.t 3)⟩,
  ⟨(some 24), (some (22, true)), .bin .eql (.t 23) (.c (.str ⟨#[]⟩))⟩,
  ⟨(some 25), none, .pick (.t 22) (.t 24) (.c (.bool false))⟩,
  ⟨(some 2), none, .mv (.t 25)⟩]
abbrev x5r5 : List XOper := [
  ⟨(some 27), none, .mv (.t 3)⟩,
  ⟨(some 28), none, .call (.c (.fn (.func 7) [] [])) [(.t 27)]⟩,
  ⟨(some 26), none, .mv (.t 28)⟩,
  ⟨(some 29), none, .ext (.t 26) 0⟩,
  ⟨(some 30), none, .ext (.t 26) 1⟩,
  ⟨(some 31), none, .ext (.t 26) 2⟩,
  ⟨(some 5), none, .mv (.t 29)⟩,
  ⟨(some 6), none, .mv (.t 30)⟩,
  ⟨(some 7), none, .mv (.t 31)⟩]
abbrev x5r6 : List XOper := [
  ⟨(some 32), none, .mv (.t 7)⟩,
  ⟨(some 33), none, .bin .neq (.t 32) (.c (.int .i64 0))⟩,
  ⟨(some 34), none, .mv (.t 33)⟩,
  ⟨(some 35), (some (34, false)), .mv (.t 6)⟩,
  ⟨(some 36), (some (34, false)), .bin .neq (.t 35) (.c (.int .i64 0))⟩,
  ⟨(some 37), none, .pick (.t 34) (.c (.bool true)) (.t 36)⟩,
  ⟨(some 38), none, .mv (.t 37)⟩,
  ⟨(some 39), (some (38, false)), .mv (.t 5)⟩,
  ⟨(some 40), (some (38, false)), .mv (.t 0)⟩,
  ⟨(some 41), (some (38, false)), .call (.c (.fn (.func 17) [] [])) [(.t 39), (.t 40)]⟩,
  ⟨(some 42), (some (38, false)), .un .not (.t 41)⟩,
  ⟨(some 43), none, .pick (.t 38) (.c (.bool true)) (.t 42)⟩,
  ⟨(some 44), none, .mv (.t 43)⟩,
  ⟨(some 45), (some (44, false)), .call (.c (.fn (.func 9) [] [])) []⟩,
  ⟨(some 46), (some (44, false)), .un .not (.t 45)⟩,
  ⟨(some 47), none, .pick (.t 44) (.c (.bool true)) (.t 46)⟩]
abbrev x5r7 : List XOper := [
  ⟨(some 2), none, .mv (.c (.bool false))⟩]
abbrev x5r8 : List XOper := [
  ⟨(some 48), none, .mv (.t 5)⟩,
  ⟨(some 49), none, .lenV (.t 48)⟩,
  ⟨(some 50), none, .mv (.c (.int .i64 0))⟩]
abbrev x5r9 : List XOper := [
  ⟨(some 51), none, .bin .lss (.t 50) (.t 49)⟩]
abbrev x5r10 : List XOper := [
  ⟨(some 52), none, .mv (.t 50)⟩,
  ⟨(some 53), none, .iaS 4 (.t 48) (.t 50)⟩,
  ⟨(some 54), none, .load true 4 (.t 53)⟩,
  ⟨(some 9), none, .alloc [(.int .i64 0), (.str ⟨#[]⟩), (.int .i64 0), (.int .i64 0)]⟩,
  ⟨(some 8), none, .mv (.t 52)⟩,
  ⟨none, none, .store 4 (.t 9) (.t 54)⟩]
abbrev x5r11 : List XOper := [
  ⟨(some 55), none, .fa 3 (.t 9)⟩,
  ⟨(some 56), none, .load false 1 (.t 55)⟩,
  ⟨(some 57), none, .bin .lss (.t 56) (.c (.int .i64 0))⟩,
  ⟨(some 58), none, .mv (.t 57)⟩,
  ⟨(some 59), (some (58, false)), .fa 3 (.t 9)⟩,
  ⟨(some 60), (some (58, false)), .load false 1 (.t 59)⟩,
  ⟨(some 61), (some (58, false)), .mv (.t 3)⟩,
  ⟨(some 62), (some (58, false)), .lenS (.t 61)⟩,
  ⟨(some 63), (some (58, false)), .bin .geq (.t 60) (.t 62)⟩,
  ⟨(some 64), none, .pick (.t 58) (.c (.bool true)) (.t 63)⟩,
  ⟨(some 65), none, .mv (.t 64)⟩,
  ⟨(some 66), (some (65, false)), .mv (.t 8)⟩,
  ⟨(some 67), (some (65, false)), .bin .gtr (.t 66) (.c (.int .i64 0))⟩,
  ⟨(some 68), (some (65, false)), .mv (.t 67)⟩,
  ⟨(some 69), (some (68, true)), .fa 3 (.t 9)⟩,
  ⟨(some 70), (some (68, true)), .load false 1 (.t 69)⟩,
  ⟨(some 71), (some (68, true)), .mv (.t 5)⟩,
  ⟨(some 72), (some (68, true)), .mv (.t 8)⟩,
  ⟨(some 73), (some (68, true)), .bin .sub (.t 72) (.c (.int .i64 1))⟩,
  ⟨(some 74), (some (68, true)), .iaS 4 (.t 71) (.t 73)⟩,
  ⟨(some 75), (some (68, true)), .fa 3 (.t 74)⟩,
  ⟨(some 76), (some (68, true)), .load false 1 (.t 75)⟩,
  ⟨(some 77), (some (68, true)), .bin .add (.t 76) (.c (.int .i64 2))⟩,
  ⟨(some 78), (some (68, true)), .bin .lss (.t 70) (.t 77)⟩,
  ⟨(some 79), (some (65, false)), .pick (.t 68) (.t 78) (.c (.bool false))⟩,
  ⟨(some 80), none, .pick (.t 65) (.c (.bool true)) (.t 79)⟩]
abbrev x5r12 : List XOper := [
  ⟨(some 2), none, .mv (.c (.bool false))⟩]
abbrev x5r13 : List XOper := [
  ⟨(some 81), none, .bin .add (.t 50) (.c (.int .i64 1))⟩,
  ⟨(some 50), none, .mv (.t 81)⟩]
abbrev x5l9 : XCode :=
  (.seq (.reg 9 x5r9 none)
  (.seq (.cond (.t 51)
    .skip
    (.exit 0))
  (.seq (.block 1
    (.seq (.reg 10 x5r10 none)
    (.seq (.reg 11 x5r11 (some ⟨[]⟩))
    (.cond (.t 80)
      (.seq (.reg 12 x5r12 none)
      .ret)
      .skip))))
  (.reg 13 x5r13 none))))
abbrev x5r14 : List XOper := [
  ⟨(some 83), none, .mv (.t 5)⟩,
  ⟨(some 84), none, .call (.c (.fn (.func 12) [] [])) [(.t 83)]⟩,
  ⟨(some 82), none, .mv (.t 84)⟩,
  ⟨(some 85), none, .ext (.t 82) 0⟩,
  ⟨(some 86), none, .ext (.t 82) 1⟩,
  ⟨(some 10), none, .mv (.t 85)⟩,
  ⟨(some 11), none, .mv (.t 86)⟩]
abbrev x5r15 : List XOper := [
  ⟨(some 87), none, .mv (.t 11)⟩,
  ⟨(some 88), none, .bin .eql (.t 87) (.c (.int .i64 0))⟩,
  ⟨(some 89), none, .mv (.t 88)⟩,
  ⟨(some 90), (some (89, true)), .mv (.t 10)⟩,
  ⟨(some 91), (some (89, true)), .mv (.t 3)⟩,
  ⟨(some 92), (some (89, true)), .bin .eql (.t 90) (.t 91)⟩,
  ⟨(some 93), none, .pick (.t 89) (.t 92) (.c (.bool false))⟩,
  ⟨(some 2), none, .mv (.t 93)⟩]
/-- datum/datumlaw07.TokenBack -/
abbrev x5b : XCode :=
  (.seq (.reg 0 x5r0 none)
  (.seq (.reg 1 x5r1 none)
  (.seq (.reg 2 x5r2 none)
  (.seq (.seq (.reg 3 x5r3 none)
  (.cond (.t 20)
    (.seq (.reg 4 x5r4 none)
    .ret)
    .skip))
  (.seq (.reg 5 x5r5 none)
  (.seq (.seq (.reg 6 x5r6 none)
  (.cond (.t 47)
    (.seq (.reg 7 x5r7 none)
    .ret)
    .skip))
  (.seq (.seq (.reg 8 x5r8 none)
  (.block 0
    (.loop x5l9)))
  (.seq (.reg 14 x5r14 none)
  (.seq (.reg 15 x5r15 none)
  .ret)))))))))
def x5 : XFunc := ⟨94, 1, [.tmp 2], x5b⟩
theorem x5_ok : chkF Tryd.prog Tryd.f5 x5 = true := by kernel_rfl
theorem x5_eq : x5.body = x5b ∧ x5.res = [.tmp 2] ∧ x5.np = 1 := ⟨rfl, rfl, rfl⟩

abbrev x6r0 : List XOper := [
  ⟨(some 4), none, .box (.t 1)⟩,
  ⟨(some 5), none, .box (.t 2)⟩,
  ⟨(some 6), none, .mv (.c (.bool false))⟩]
abbrev x6r1 : List XOper := [
  ⟨(some 19), none, .mv (.t 0)⟩,
  ⟨(some 20), none, .call (.c (.fn (.func 11) [] [])) [(.t 19)]⟩,
  ⟨(some 0), none, .mv (.t 20)⟩]
abbrev x6r2 : List XOper := [
  ⟨(some 21), none, .mv (.t 0)⟩,
  ⟨(some 22), none, .mv (.t 0)⟩,
  ⟨(some 23), none, .lenV (.t 22)⟩,
  ⟨(some 24), none, .mnx false (.t 23) [(.c (.int .i64 100))]⟩,
  ⟨(some 25), none, .slV 4 (.t 21) none (some (.t 24)) none⟩,
  ⟨(some 0), none, .mv (.t 25)⟩]
abbrev x6r3 : List XOper := [
  ⟨(some 27), none, .mv (.t 0)⟩,
  ⟨(some 28), none, .call (.c (.fn (.func 12) [] [])) [(.t 27)]⟩,
  ⟨(some 26), none, .mv (.t 28)⟩,
  ⟨(some 29), none, .ext (.t 26) 0⟩,
  ⟨(some 30), none, .ext (.t 26) 1⟩,
  ⟨(some 7), none, .mv (.t 29)⟩,
  ⟨(some 8), none, .mv (.t 30)⟩]
abbrev x6r4 : List XOper := [
  ⟨(some 31), none, .mv (.t 8)⟩,
  ⟨(some 32), none, .bin .neq (.t 31) (.c (.int .i64 0))⟩]
abbrev x6r5 : List XOper := [
  ⟨(some 33), none, .call (.c (.fn (.func 9) [] [])) []⟩,
  ⟨(some 34), none, .mv (.t 33)⟩,
  ⟨(some 35), (some (34, true)), .mv (.t 7)⟩,
  ⟨(some 36), (some (34, true)), .bin .eql (.t 35) (.c (.str ⟨#[]⟩))⟩,
  ⟨(some 37), none, .pick (.t 34) (.t 36) (.c (.bool false))⟩,
  ⟨(some 6), none, .mv (.t 37)⟩]
abbrev x6r6 : List XOper := [
  ⟨(some 38), none, .load false 1 (.t 5)⟩,
  ⟨(some 39), none, .load false 1 (.t 5)⟩,
  ⟨(some 40), none, .lenS (.t 39)⟩,
  ⟨(some 41), none, .mnx false (.t 40) [(.c (.int .i64 10))]⟩,
  ⟨(some 42), none, .slS (.t 38) none (some (.t 41))⟩,
  ⟨none, none, .store 1 (.t 5) (.t 42)⟩]
abbrev x6r7 : List XOper := [
  ⟨(some 9), none, .mv (.c (.int .i64 0))⟩]
abbrev x6r8 : List XOper := [
  ⟨(some 43), none, .mv (.t 9)⟩,
  ⟨(some 44), none, .load false 1 (.t 5)⟩,
  ⟨(some 45), none, .lenS (.t 44)⟩,
  ⟨(some 46), none, .bin .lss (.t 43) (.t 45)⟩]
abbrev x6r10 : List XOper := [
  ⟨(some 49), none, .load false 1 (.t 5)⟩,
  ⟨(some 50), none, .mv (.t 9)⟩,
  ⟨(some 51), none, .ixS (.t 49) (.t 50)⟩,
  ⟨(some 52), none, .bin .eql (.t 51) (.c (.int .u8 10))⟩]
abbrev x6r11 : List XOper := [
  ⟨(some 53), none, .call (.c (.fn (.func 9) [] [])) []⟩,
  ⟨(some 6), none, .mv (.t 53)⟩]
abbrev x6r9 : List XOper := [
  ⟨(some 47), none, .mv (.t 9)⟩,
  ⟨(some 48), none, .bin .add (.t 47) (.c (.int .i64 1))⟩,
  ⟨(some 9), none, .mv (.t 48)⟩]
abbrev x6l8 : XCode :=
  (.seq (.seq (.reg 8 x6r8 none)
  (.cond (.t 46)
    .skip
    (.exit 0)))
  (.seq (.block 1
    (.seq (.reg 10 x6r10 none)
    (.cond (.t 52)
      (.seq (.reg 11 x6r11 none)
      .ret)
      .skip)))
  (.reg 9 x6r9 none)))
abbrev x6r12 : List XOper := [
  ⟨(some 54), none, .mkf (.func 18) [] [(.t 4), (.t 5)]⟩,
  ⟨(some 10), none, .mv (.t 54)⟩]
abbrev x6r13 : List XOper := [
  ⟨(some 55), none, .mv (.t 10)⟩,
  ⟨(some 56), none, .call (.t 55) [(.c (.int .i64 0))]⟩,
  ⟨(some 11), none, .mv (.t 56)⟩]
abbrev x6r14 : List XOper := [
  ⟨(some 57), none, .mv (.t 0)⟩,
  ⟨(some 58), none, .lenV (.t 57)⟩,
  ⟨(some 59), none, .mv (.c (.int .i64 0))⟩]
abbrev x6r15 : List XOper := [
  ⟨(some 60), none, .bin .lss (.t 59) (.t 58)⟩]
abbrev x6r16 : List XOper := [
  ⟨(some 61), none, .mv (.t 59)⟩,
  ⟨(some 62), none, .iaS 4 (.t 57) (.t 59)⟩,
  ⟨(some 63), none, .load true 4 (.t 62)⟩,
  ⟨(some 13), none, .alloc [(.int .i64 0), (.str ⟨#[]⟩), (.int .i64 0), (.int .i64 0)]⟩,
  ⟨(some 12), none, .mv (.t 61)⟩,
  ⟨none, none, .store 4 (.t 13) (.t 63)⟩]
abbrev x6r17 : List XOper := [
  ⟨(some 65), none, .load true 4 (.t 13)⟩,
  ⟨(some 66), none, .mkslice 4 (.agg [(.int .i64 0), (.str ⟨#[]⟩), (.int .i64 0), (.int .i64 0)]) 1 [(0, (.t 65))]⟩,
  ⟨(some 67), none, .call (.c (.fn (.func 12) [] [])) [(.t 66)]⟩,
  ⟨(some 64), none, .mv (.t 67)⟩,
  ⟨(some 68), none, .ext (.t 64) 0⟩,
  ⟨(some 69), none, .ext (.t 64) 1⟩,
  ⟨(some 14), none, .mv (.t 68)⟩,
  ⟨(some 15), none, .mv (.t 69)⟩]
abbrev x6r18 : List XOper := [
  ⟨(some 70), none, .mv (.t 15)⟩,
  ⟨(some 71), none, .bin .neq (.t 70) (.c (.int .i64 0))⟩]
abbrev x6r19 : List XOper := [
  ⟨(some 6), none, .mv (.c (.bool false))⟩]
abbrev x6r20 : List XOper := [
  ⟨(some 72), none, .mv (.t 11)⟩,
  ⟨(some 73), none, .mv (.t 14)⟩,
  ⟨(some 74), none, .mv (.t 10)⟩,
  ⟨(some 75), none, .mv (.t 12)⟩,
  ⟨(some 76), none, .bin .add (.t 75) (.c (.int .i64 1))⟩,
  ⟨(some 77), none, .call (.t 74) [(.t 76)]⟩,
  ⟨(some 78), none, .bin .add (.t 73) (.t 77)⟩,
  ⟨(some 79), none, .bin .add (.t 72) (.t 78)⟩,
  ⟨(some 11), none, .mv (.t 79)⟩]
abbrev x6r21 : List XOper := [
  ⟨(some 80), none, .bin .add (.t 59) (.c (.int .i64 1))⟩,
  ⟨(some 59), none, .mv (.t 80)⟩]
abbrev x6l16 : XCode :=
  (.seq (.reg 15 x6r15 none)
  (.seq (.cond (.t 60)
    .skip
    (.exit 2))
  (.seq (.block 3
    (.seq (.reg 16 x6r16 none)
    (.seq (.reg 17 x6r17 none)
    (.seq (.seq (.reg 18 x6r18 none)
    (.cond (.t 71)
      (.seq (.reg 19 x6r19 none)
      .ret)
      .skip))
    (.reg 20 x6r20 none)))))
  (.reg 21 x6r21 none))))
abbrev x6r22 : List XOper := [
  ⟨(some 81), none, .mv (.t 11)⟩,
  ⟨(some 82), none, .lenS (.t 81)⟩,
  ⟨(some 83), none, .bin .gtr (.t 82) (.c (.int .i64 4000))⟩]
abbrev x6r23 : List XOper := [
  ⟨(some 84), none, .call (.c (.fn (.func 9) [] [])) []⟩,
  ⟨(some 6), none, .mv (.t 84)⟩]
abbrev x6r24 : List XOper := [
  ⟨(some 86), none, .mv (.t 11)⟩,
  ⟨(some 87), none, .call (.c (.fn (.func 7) [] [])) [(.t 86)]⟩,
  ⟨(some 85), none, .mv (.t 87)⟩,
  ⟨(some 88), none, .ext (.t 85) 0⟩,
  ⟨(some 89), none, .ext (.t 85) 1⟩,
  ⟨(some 90), none, .ext (.t 85) 2⟩,
  ⟨(some 16), none, .mv (.t 88)⟩,
  ⟨(some 17), none, .mv (.t 89)⟩,
  ⟨(some 18), none, .mv (.t 90)⟩]
abbrev x6r25 : List XOper := [
  ⟨(some 91), none, .call (.c (.fn (.func 9) [] [])) []⟩,
  ⟨(some 92), none, .mv (.t 91)⟩,
  ⟨(some 93), (some (92, true)), .mv (.t 18)⟩,
  ⟨(some 94), (some (92, true)), .bin .eql (.t 93) (.c (.int .i64 0))⟩,
  ⟨(some 95), none, .pick (.t 92) (.t 94) (.c (.bool false))⟩,
  ⟨(some 96), none, .mv (.t 95)⟩,
  ⟨(some 97), (some (96, true)), .mv (.t 17)⟩,
  ⟨(some 98), (some (96, true)), .bin .eql (.t 97) (.c (.int .i64 0))⟩,
  ⟨(some 99), none, .pick (.t 96) (.t 98) (.c (.bool false))⟩,
  ⟨(some 100), none, .mv (.t 99)⟩,
  ⟨(some 101), (some (100, true)), .mv (.t 16)⟩,
  ⟨(some 102), (some (100, true)), .mv (.t 0)⟩,
  ⟨(some 103), (some (100, true)), .call (.c (.fn (.func 17) [] [])) [(.t 101), (.t 102)]⟩,
  ⟨(some 104), none, .pick (.t 100) (.t 103) (.c (.bool false))⟩,
  ⟨(some 6), none, .mv (.t 104)⟩]
/-- datum/datumlaw07.TokenBlanks -/
abbrev x6b : XCode :=
  (.seq (.reg 0 x6r0 none)
  (.seq (.reg 1 x6r1 none)
  (.seq (.reg 2 x6r2 none)
  (.seq (.reg 3 x6r3 none)
  (.seq (.seq (.reg 4 x6r4 none)
  (.cond (.t 32)
    (.seq (.reg 5 x6r5 none)
    .ret)
    .skip))
  (.seq (.reg 6 x6r6 none)
  (.seq (.seq (.reg 7 x6r7 none)
  (.block 0
    (.loop x6l8)))
  (.seq (.reg 12 x6r12 none)
  (.seq (.reg 13 x6r13 none)
  (.seq (.seq (.reg 14 x6r14 none)
  (.block 2
    (.loop x6l16)))
  (.seq (.seq (.reg 22 x6r22 none)
  (.cond (.t 83)
    (.seq (.reg 23 x6r23 none)
    .ret)
    .skip))
  (.seq (.reg 24 x6r24 none)
  (.seq (.reg 25 x6r25 none)
  .ret)))))))))))))
def x6 : XFunc := ⟨105, 3, [.tmp 6], x6b⟩
theorem x6_ok : chkF Tryd.prog Tryd.f6 x6 = true := by kernel_rfl
theorem x6_eq : x6.body = x6b ∧ x6.res = [.tmp 6] ∧ x6.np = 3 := ⟨rfl, rfl, rfl⟩

abbrev x7r0 : List XOper := [
  ⟨(some 2), none, .mv (.c .nils)⟩,
  ⟨(some 3), none, .mv (.c (.int .i64 0))⟩,
  ⟨(some 4), none, .mv (.c (.int .i64 0))⟩]
abbrev x7r1 : List XOper := [
  ⟨(some 10), none, .mv (.t 0)⟩,
  ⟨(some 11), none, .lenS (.t 10)⟩,
  ⟨(some 12), none, .bin .gtr (.t 11) (.c (.int .i64 4000))⟩]
abbrev x7r2 : List XOper := [
  ⟨(some 2), none, .mv (.c .nils)⟩,
  ⟨(some 3), none, .mv (.c (.int .i64 0))⟩,
  ⟨(some 4), none, .mv (.c (.int .i64 2))⟩]
abbrev x7r3 : List XOper := [
  ⟨(some 13), none, .mv (.t 0)⟩,
  ⟨(some 14), none, .build [(.str ⟨#[]⟩), (.int .i64 0)] [(0, 1, (.t 13))]⟩,
  ⟨(some 15), none, .box (.t 14)⟩,
  ⟨(some 5), none, .mv (.t 15)⟩]
abbrev x7r4 : List XOper := [
  ⟨(some 6), none, .mv (.c .nils)⟩]
abbrev x7r5 : List XOper := [
  ⟨(some 16), none, .mv (.t 5)⟩,
  ⟨(some 17), none, .call (.c (.fn (.func 19) [] [])) [(.t 16)]⟩]
abbrev x7r6 : List XOper := [
  ⟨(some 18), none, .mv (.t 5)⟩,
  ⟨(some 19), none, .nilChk (.t 18)⟩,
  ⟨(some 20), none, .fa 1 (.t 19)⟩,
  ⟨(some 21), none, .load false 1 (.t 20)⟩,
  ⟨(some 22), none, .mv (.t 0)⟩,
  ⟨(some 23), none, .lenS (.t 22)⟩,
  ⟨(some 24), none, .bin .lss (.t 21) (.t 23)⟩]
abbrev x7r8 : List XOper := [
  ⟨(some 27), none, .mv (.t 5)⟩,
  ⟨(some 28), none, .nilChk (.t 27)⟩,
  ⟨(some 29), none, .fa 1 (.t 28)⟩,
  ⟨(some 30), none, .load false 1 (.t 29)⟩,
  ⟨(some 7), none, .mv (.t 30)⟩]
abbrev x7r9 : List XOper := [
  ⟨(some 32), none, .mv (.t 5)⟩,
  ⟨(some 33), none, .call (.c (.fn (.func 20) [] [])) [(.t 32)]⟩,
  ⟨(some 31), none, .mv (.t 33)⟩,
  ⟨(some 34), none, .ext (.t 31) 0⟩,
  ⟨(some 35), none, .ext (.t 31) 1⟩,
  ⟨(some 8), none, .alloc [(.int .i64 0), (.str ⟨#[]⟩), (.int .i64 0), (.int .i64 0)]⟩,
  ⟨none, none, .store 4 (.t 8) (.t 34)⟩,
  ⟨(some 9), none, .mv (.t 35)⟩]
abbrev x7r10 : List XOper := [
  ⟨(some 36), none, .mv (.t 9)⟩,
  ⟨(some 37), none, .bin .neq (.t 36) (.c (.int .i64 0))⟩]
abbrev x7r11 : List XOper := [
  ⟨(some 38), none, .mv (.t 7)⟩,
  ⟨(some 39), none, .mv (.t 9)⟩,
  ⟨(some 2), none, .mv (.c .nils)⟩,
  ⟨(some 3), none, .mv (.t 38)⟩,
  ⟨(some 4), none, .mv (.t 39)⟩]
abbrev x7r12 : List XOper := [
  ⟨(some 40), none, .mv (.t 7)⟩,
  ⟨(some 41), none, .fa 3 (.t 8)⟩,
  ⟨none, none, .store 1 (.t 41) (.t 40)⟩]
abbrev x7r13 : List XOper := [
  ⟨(some 42), none, .mv (.t 6)⟩,
  ⟨(some 43), none, .load true 4 (.t 8)⟩,
  ⟨(some 44), none, .mkslice 4 (.agg [(.int .i64 0), (.str ⟨#[]⟩), (.int .i64 0), (.int .i64 0)]) 1 [(0, (.t 43))]⟩,
  ⟨(some 45), none, .app 4 40 (.t 42) (.t 44)⟩,
  ⟨(some 6), none, .mv (.t 45)⟩]
abbrev x7r7 : List XOper := [
  ⟨(some 25), none, .mv (.t 5)⟩,
  ⟨(some 26), none, .call (.c (.fn (.func 19) [] [])) [(.t 25)]⟩]
abbrev x7l6 : XCode :=
  (.seq (.seq (.reg 6 x7r6 none)
  (.cond (.t 24)
    .skip
    (.exit 0)))
  (.seq (.block 1
    (.seq (.reg 8 x7r8 none)
    (.seq (.reg 9 x7r9 none)
    (.seq (.seq (.reg 10 x7r10 none)
    (.cond (.t 37)
      (.seq (.reg 11 x7r11 none)
      .ret)
      .skip))
    (.seq (.reg 12 x7r12 none)
    (.reg 13 x7r13 none))))))
  (.reg 7 x7r7 none)))
abbrev x7r14 : List XOper := [
  ⟨(some 46), none, .mv (.t 6)⟩,
  ⟨(some 2), none, .mv (.t 46)⟩,
  ⟨(some 3), none, .mv (.c (.int .i64 0))⟩,
  ⟨(some 4), none, .mv (.c (.int .i64 0))⟩]
/-- datum/token.Scan -/
abbrev x7b : XCode :=
  (.seq (.reg 0 x7r0 none)
  (.seq (.seq (.reg 1 x7r1 none)
  (.cond (.t 12)
    (.seq (.reg 2 x7r2 none)
    .ret)
    .skip))
  (.seq (.reg 3 x7r3 none)
  (.seq (.reg 4 x7r4 none)
  (.seq (.seq (.reg 5 x7r5 none)
  (.block 0
    (.loop x7l6)))
  (.seq (.reg 14 x7r14 none)
  .ret))))))
def x7 : XFunc := ⟨47, 1, [.tmp 2, .tmp 3, .tmp 4], x7b⟩
theorem x7_ok : chkF Tryd.prog Tryd.f7 x7 = true := by kernel_rfl
theorem x7_eq : x7.body = x7b ∧ x7.res = [.tmp 2, .tmp 3, .tmp 4] ∧ x7.np = 1 := ⟨rfl, rfl, rfl⟩

abbrev x8r0 : List XOper := [
  ⟨(some 2), none, .mv (.c .nils)⟩,
  ⟨(some 3), none, .mv (.c (.int .i64 0))⟩,
  ⟨(some 4), none, .mv (.c (.int .i64 0))⟩]
abbrev x8r1 : List XOper := [
  ⟨(some 11), none, .mv (.t 0)⟩,
  ⟨(some 12), none, .lenS (.t 11)⟩,
  ⟨(some 13), none, .bin .gtr (.t 12) (.c (.int .i64 4000))⟩]
abbrev x8r2 : List XOper := [
  ⟨(some 2), none, .mv (.c .nils)⟩,
  ⟨(some 3), none, .mv (.c (.int .i64 0))⟩,
  ⟨(some 4), none, .mv (.c (.int .i64 2))⟩]
abbrev x8r3 : List XOper := [
  ⟨(some 14), none, .mkslice 4 (.agg [(.int .i64 0), (.str ⟨#[]⟩), (.int .i64 0), (.int .i64 0)]) 0 []⟩,
  ⟨(some 5), none, .mv (.t 14)⟩]
abbrev x8r4 : List XOper := [
  ⟨(some 6), none, .mv (.c (.int .i64 0))⟩]
abbrev x8r5 : List XOper := [
  ⟨(some 15), none, .mv (.t 6)⟩,
  ⟨(some 16), none, .mv (.t 0)⟩,
  ⟨(some 17), none, .lenS (.t 16)⟩,
  ⟨(some 18), none, .bin .lss (.t 15) (.t 17)⟩]
abbrev x8r6 : List XOper := [
  ⟨(some 19), none, .mv (.t 0)⟩,
  ⟨(some 20), none, .mv (.t 6)⟩,
  ⟨(some 21), none, .call (.c (.fn (.func 21) [] [])) [(.t 19), (.t 20)]⟩,
  ⟨(some 7), none, .mv (.t 21)⟩]
abbrev x8r7 : List XOper := [
  ⟨(some 22), none, .mv (.t 7)⟩,
  ⟨(some 23), none, .bin .gtr (.t 22) (.c (.int .i64 0))⟩]
abbrev x8r8 : List XOper := [
  ⟨(some 24), none, .mv (.t 6)⟩,
  ⟨(some 25), none, .mv (.t 7)⟩,
  ⟨(some 26), none, .bin .add (.t 24) (.t 25)⟩,
  ⟨(some 6), none, .mv (.t 26)⟩]
abbrev x8r9 : List XOper := [
  ⟨(some 28), none, .mv (.t 0)⟩,
  ⟨(some 29), none, .mv (.t 6)⟩,
  ⟨(some 30), none, .call (.c (.fn (.func 22) [] [])) [(.t 28), (.t 29)]⟩,
  ⟨(some 27), none, .mv (.t 30)⟩,
  ⟨(some 31), none, .ext (.t 27) 0⟩,
  ⟨(some 32), none, .ext (.t 27) 1⟩,
  ⟨(some 33), none, .ext (.t 27) 2⟩,
  ⟨(some 8), none, .alloc [(.int .i64 0), (.str ⟨#[]⟩), (.int .i64 0), (.int .i64 0)]⟩,
  ⟨none, none, .store 4 (.t 8) (.t 31)⟩,
  ⟨(some 9), none, .mv (.t 32)⟩,
  ⟨(some 10), none, .mv (.t 33)⟩]
abbrev x8r10 : List XOper := [
  ⟨(some 34), none, .mv (.t 10)⟩,
  ⟨(some 35), none, .bin .neq (.t 34) (.c (.int .i64 0))⟩]
abbrev x8r11 : List XOper := [
  ⟨(some 36), none, .mv (.t 6)⟩,
  ⟨(some 37), none, .mv (.t 10)⟩,
  ⟨(some 2), none, .mv (.c .nils)⟩,
  ⟨(some 3), none, .mv (.t 36)⟩,
  ⟨(some 4), none, .mv (.t 37)⟩]
abbrev x8r12 : List XOper := [
  ⟨(some 38), none, .mv (.t 5)⟩,
  ⟨(some 39), none, .load true 4 (.t 8)⟩,
  ⟨(some 40), none, .mkslice 4 (.agg [(.int .i64 0), (.str ⟨#[]⟩), (.int .i64 0), (.int .i64 0)]) 1 [(0, (.t 39))]⟩,
  ⟨(some 41), none, .app 4 40 (.t 38) (.t 40)⟩,
  ⟨(some 5), none, .mv (.t 41)⟩]
abbrev x8r13 : List XOper := [
  ⟨(some 42), none, .mv (.t 6)⟩,
  ⟨(some 43), none, .mv (.t 9)⟩,
  ⟨(some 44), none, .bin .add (.t 42) (.t 43)⟩,
  ⟨(some 6), none, .mv (.t 44)⟩]
abbrev x8l5 : XCode :=
  (.seq (.seq (.reg 5 x8r5 none)
  (.cond (.t 18)
    .skip
    (.exit 0)))
  (.block 1
    (.seq (.reg 6 x8r6 none)
    (.seq (.seq (.reg 7 x8r7 none)
    (.cond (.t 23)
      (.seq (.reg 8 x8r8 none)
      (.exit 1))
      .skip))
    (.seq (.reg 9 x8r9 none)
    (.seq (.seq (.reg 10 x8r10 none)
    (.cond (.t 35)
      (.seq (.reg 11 x8r11 none)
      .ret)
      .skip))
    (.seq (.reg 12 x8r12 none)
    (.reg 13 x8r13 none))))))))
abbrev x8r14 : List XOper := [
  ⟨(some 45), none, .mv (.t 5)⟩,
  ⟨(some 2), none, .mv (.t 45)⟩,
  ⟨(some 3), none, .mv (.c (.int .i64 0))⟩,
  ⟨(some 4), none, .mv (.c (.int .i64 0))⟩]
/-- datum/datumref07.Scan -/
abbrev x8b : XCode :=
  (.seq (.reg 0 x8r0 none)
  (.seq (.seq (.reg 1 x8r1 none)
  (.cond (.t 13)
    (.seq (.reg 2 x8r2 none)
    .ret)
    .skip))
  (.seq (.reg 3 x8r3 none)
  (.seq (.reg 4 x8r4 none)
  (.seq (.block 0
    (.loop x8l5))
  (.seq (.reg 14 x8r14 none)
  .ret))))))
def x8 : XFunc := ⟨46, 1, [.tmp 2, .tmp 3, .tmp 4], x8b⟩
theorem x8_ok : chkF Tryd.prog Tryd.f8 x8 = true := by kernel_rfl
theorem x8_eq : x8.body = x8b ∧ x8.res = [.tmp 2, .tmp 3, .tmp 4] ∧ x8.np = 1 := ⟨rfl, rfl, rfl⟩

abbrev x9r0 : List XOper := [
  ⟨(some 0), none, .mv (.c (.bool false))⟩]
abbrev x9r1 : List XOper := [
  ⟨(some 5), none, .call (.c (.fn (.func 7) [] [])) [(.c (.str ⟨#[108, 111, 119, 45, 53, 59, 35, 32, 120]⟩))]⟩,
  ⟨(some 4), none, .mv (.t 5)⟩,
  ⟨(some 6), none, .ext (.t 4) 0⟩,
  ⟨(some 7), none, .ext (.t 4) 1⟩,
  ⟨(some 8), none, .ext (.t 4) 2⟩,
  ⟨(some 1), none, .mv (.t 6)⟩,
  ⟨(some 2), none, .mv (.t 7)⟩,
  ⟨(some 3), none, .mv (.t 8)⟩]
abbrev x9r2 : List XOper := [
  ⟨(some 9), none, .mv (.t 3)⟩,
  ⟨(some 10), none, .bin .eql (.t 9) (.c (.int .i64 0))⟩,
  ⟨(some 11), none, .mv (.t 10)⟩,
  ⟨(some 12), (some (11, true)), .mv (.t 2)⟩,
  ⟨(some 13), (some (11, true)), .bin .eql (.t 12) (.c (.int .i64 0))⟩,
  ⟨(some 14), none, .pick (.t 11) (.t 13) (.c (.bool false))⟩,
  ⟨(some 15), none, .mv (.t 14)⟩,
  ⟨(some 16), (some (15, true)), .mv (.t 1)⟩,
  ⟨(some 17), (some (15, true)), .lenV (.t 16)⟩,
  ⟨(some 18), (some (15, true)), .bin .eql (.t 17) (.c (.int .i64 3))⟩,
  ⟨(some 19), none, .pick (.t 15) (.t 18) (.c (.bool false))⟩,
  ⟨(some 20), none, .mv (.t 19)⟩,
  ⟨(some 21), (some (20, true)), .mv (.t 1)⟩,
  ⟨(some 22), (some (20, true)), .iaS 4 (.t 21) (.c (.int .i64 0))⟩,
  ⟨(some 23), (some (20, true)), .fa 1 (.t 22)⟩,
  ⟨(some 24), (some (20, true)), .load false 1 (.t 23)⟩,
  ⟨(some 25), (some (20, true)), .bin .eql (.t 24) (.c (.str ⟨#[108, 111, 119]⟩))⟩,
  ⟨(some 26), none, .pick (.t 20) (.t 25) (.c (.bool false))⟩,
  ⟨(some 27), none, .mv (.t 26)⟩,
  ⟨(some 28), (some (27, true)), .mv (.t 1)⟩,
  ⟨(some 29), (some (27, true)), .iaS 4 (.t 28) (.c (.int .i64 1))⟩,
  ⟨(some 30), (some (27, true)), .fa 2 (.t 29)⟩,
  ⟨(some 31), (some (27, true)), .load false 1 (.t 30)⟩,
  ⟨(some 32), (some (27, true)), .bin .eql (.t 31) (.c (.int .i64 (-5)))⟩,
  ⟨(some 33), none, .pick (.t 27) (.t 32) (.c (.bool false))⟩,
  ⟨(some 34), none, .mv (.t 33)⟩,
  ⟨(some 35), (some (34, true)), .mv (.t 1)⟩,
  ⟨(some 36), (some (34, true)), .iaS 4 (.t 35) (.c (.int .i64 2))⟩,
  ⟨(some 37), (some (34, true)), .fa 3 (.t 36)⟩,
  ⟨(some 38), (some (34, true)), .load false 1 (.t 37)⟩,
  ⟨(some 39), (some (34, true)), .bin .eql (.t 38) (.c (.int .i64 5))⟩,
  ⟨(some 40), none, .pick (.t 34) (.t 39) (.c (.bool false))⟩,
  ⟨(some 0), none, .mv (.t 40)⟩]
/-- datum/datumlaw07.alive -/
abbrev x9b : XCode :=
  (.seq (.reg 0 x9r0 none)
  (.seq (.reg 1 x9r1 none)
  (.seq (.reg 2 x9r2 none)
  .ret)))
def x9 : XFunc := ⟨41, 0, [.tmp 0], x9b⟩
theorem x9_ok : chkF Tryd.prog Tryd.f9 x9 = true := by kernel_rfl
theorem x9_eq : x9.body = x9b ∧ x9.res = [.tmp 0] ∧ x9.np = 0 := ⟨rfl, rfl, rfl⟩

abbrev x10r0 : List XOper := [
  ⟨(some 4), none, .mv (.c (.bool false))⟩]
abbrev x10r1 : List XOper := [
  ⟨(some 6), none, .mv (.t 0)⟩,
  ⟨(some 7), none, .lenV (.t 6)⟩,
  ⟨(some 8), none, .mv (.t 1)⟩,
  ⟨(some 9), none, .lenV (.t 8)⟩,
  ⟨(some 10), none, .bin .neq (.t 7) (.t 9)⟩]
abbrev x10r2 : List XOper := [
  ⟨(some 4), none, .mv (.c (.bool false))⟩]
abbrev x10r3 : List XOper := [
  ⟨(some 11), none, .mv (.t 0)⟩,
  ⟨(some 12), none, .lenV (.t 11)⟩,
  ⟨(some 13), none, .mv (.c (.int .i64 0))⟩]
abbrev x10r4 : List XOper := [
  ⟨(some 14), none, .bin .lss (.t 13) (.t 12)⟩]
abbrev x10r5 : List XOper := [
  ⟨(some 15), none, .mv (.t 13)⟩,
  ⟨(some 5), none, .mv (.t 15)⟩]
abbrev x10r6 : List XOper := [
  ⟨(some 16), none, .mv (.t 0)⟩,
  ⟨(some 17), none, .mv (.t 5)⟩,
  ⟨(some 18), none, .iaS 4 (.t 16) (.t 17)⟩,
  ⟨(some 19), none, .load true 4 (.t 18)⟩,
  ⟨(some 20), none, .mv (.t 1)⟩,
  ⟨(some 21), none, .mv (.t 5)⟩,
  ⟨(some 22), none, .iaS 4 (.t 20) (.t 21)⟩,
  ⟨(some 23), none, .load true 4 (.t 22)⟩,
  ⟨(some 24), none, .eqA true [0, 2, 0, 0] (.t 19) (.t 23)⟩]
abbrev x10r7 : List XOper := [
  ⟨(some 4), none, .mv (.c (.bool false))⟩]
abbrev x10r8 : List XOper := [
  ⟨(some 25), none, .bin .add (.t 13) (.c (.int .i64 1))⟩,
  ⟨(some 13), none, .mv (.t 25)⟩]
abbrev x10l4 : XCode :=
  (.seq (.reg 4 x10r4 none)
  (.seq (.cond (.t 14)
    .skip
    (.exit 0))
  (.seq (.block 1
    (.seq (.reg 5 x10r5 none)
    (.seq (.reg 6 x10r6 (some ⟨[]⟩))
    (.cond (.t 24)
      (.seq (.reg 7 x10r7 none)
      .ret)
      .skip))))
  (.reg 8 x10r8 none))))
abbrev x10r9 : List XOper := [
  ⟨(some 4), none, .mv (.c (.bool true))⟩]
/-- datum/datumref07.Same -/
abbrev x10b : XCode :=
  (.seq (.reg 0 x10r0 none)
  (.seq (.seq (.reg 1 x10r1 none)
  (.cond (.t 10)
    (.seq (.reg 2 x10r2 none)
    .ret)
    .skip))
  (.seq (.seq (.reg 3 x10r3 none)
  (.block 0
    (.loop x10l4)))
  (.seq (.reg 9 x10r9 none)
  .ret))))
def x10 : XFunc := ⟨26, 2, [.tmp 4], x10b⟩
theorem x10_ok : chkF Tryd.prog Tryd.f10 x10 = true := by kernel_rfl
theorem x10_eq : x10.body = x10b ∧ x10.res = [.tmp 4] ∧ x10.np = 2 := ⟨rfl, rfl, rfl⟩

abbrev x11r0 : List XOper := [
  ⟨(some 2), none, .mv (.c .nils)⟩]
abbrev x11r1 : List XOper := [
  ⟨(some 3), none, .mv (.c .nils)⟩]
abbrev x11r2 : List XOper := [
  ⟨(some 6), none, .mv (.t 0)⟩,
  ⟨(some 7), none, .mv (.t 0)⟩,
  ⟨(some 8), none, .lenV (.t 7)⟩,
  ⟨(some 9), none, .mnx false (.t 8) [(.c (.int .i64 400))]⟩,
  ⟨(some 10), none, .slV 4 (.t 6) none (some (.t 9)) none⟩,
  ⟨(some 11), none, .lenV (.t 10)⟩,
  ⟨(some 12), none, .mv (.c (.int .i64 0))⟩]
abbrev x11r3 : List XOper := [
  ⟨(some 13), none, .bin .lss (.t 12) (.t 11)⟩]
abbrev x11r4 : List XOper := [
  ⟨(some 14), none, .iaS 4 (.t 10) (.t 12)⟩,
  ⟨(some 15), none, .load true 4 (.t 14)⟩,
  ⟨(some 5), none, .alloc [(.int .i64 0), (.str ⟨#[]⟩), (.int .i64 0), (.int .i64 0)]⟩,
  ⟨none, none, .store 4 (.t 5) (.t 15)⟩]
abbrev x11r5 : List XOper := [
  ⟨(some 16), none, .fa 1 (.t 5)⟩,
  ⟨(some 17), none, .load false 1 (.t 16)⟩,
  ⟨(some 18), none, .fa 1 (.t 5)⟩,
  ⟨(some 19), none, .load false 1 (.t 18)⟩,
  ⟨(some 20), none, .lenS (.t 19)⟩,
  ⟨(some 21), none, .mnx false (.t 20) [(.c (.int .i64 20))]⟩,
  ⟨(some 22), none, .slS (.t 17) none (some (.t 21))⟩,
  ⟨(some 23), none, .fa 1 (.t 5)⟩,
  ⟨none, none, .store 1 (.t 23) (.t 22)⟩]
abbrev x11r6 : List XOper := [
  ⟨(some 24), none, .mv (.t 3)⟩,
  ⟨(some 25), none, .load true 4 (.t 5)⟩,
  ⟨(some 26), none, .mkslice 4 (.agg [(.int .i64 0), (.str ⟨#[]⟩), (.int .i64 0), (.int .i64 0)]) 1 [(0, (.t 25))]⟩,
  ⟨(some 27), none, .app 4 40 (.t 24) (.t 26)⟩,
  ⟨(some 3), none, .mv (.t 27)⟩]
abbrev x11r7 : List XOper := [
  ⟨(some 28), none, .bin .add (.t 12) (.c (.int .i64 1))⟩,
  ⟨(some 12), none, .mv (.t 28)⟩]
abbrev x11l3 : XCode :=
  (.seq (.reg 3 x11r3 none)
  (.seq (.cond (.t 13)
    .skip
    (.exit 0))
  (.seq (.block 1
    (.seq (.reg 4 x11r4 none)
    (.seq (.reg 5 x11r5 none)
    (.reg 6 x11r6 none))))
  (.reg 7 x11r7 none))))
abbrev x11r8 : List XOper := [
  ⟨(some 29), none, .mv (.t 3)⟩,
  ⟨(some 2), none, .mv (.t 29)⟩]
/-- datum/datumlaw07.few -/
abbrev x11b : XCode :=
  (.seq (.reg 0 x11r0 none)
  (.seq (.reg 1 x11r1 none)
  (.seq (.seq (.reg 2 x11r2 none)
  (.block 0
    (.loop x11l3)))
  (.seq (.reg 8 x11r8 none)
  .ret))))
def x11 : XFunc := ⟨30, 1, [.tmp 2], x11b⟩
theorem x11_ok : chkF Tryd.prog Tryd.f11 x11 = true := by kernel_rfl
theorem x11_eq : x11.body = x11b ∧ x11.res = [.tmp 2] ∧ x11.np = 1 := ⟨rfl, rfl, rfl⟩

abbrev x12r0 : List XOper := [
  ⟨(some 2), none, .mv (.c (.str ⟨#[]⟩))⟩,
  ⟨(some 3), none, .mv (.c (.int .i64 0))⟩]
abbrev x12r1 : List XOper := [
  ⟨(some 4), none, .mv (.c .nils)⟩]
abbrev x12r2 : List XOper := [
  ⟨(some 8), none, .mv (.t 0)⟩,
  ⟨(some 9), none, .lenV (.t 8)⟩,
  ⟨(some 10), none, .mv (.c (.int .i64 0))⟩]
abbrev x12r3 : List XOper := [
  ⟨(some 11), none, .bin .lss (.t 10) (.t 9)⟩]
abbrev x12r4 : List XOper := [
  ⟨(some 12), none, .iaS 4 (.t 8) (.t 10)⟩,
  ⟨(some 13), none, .load true 4 (.t 12)⟩,
  ⟨(some 6), none, .alloc [(.int .i64 0), (.str ⟨#[]⟩), (.int .i64 0), (.int .i64 0)]⟩,
  ⟨none, none, .store 4 (.t 6) (.t 13)⟩]
abbrev x12r6 : List XOper := [
  ⟨(some 23), none, .load true 4 (.t 6)⟩,
  ⟨(some 24), none, .call (.c (.fn (.func 13) [] [])) [(.t 23)]⟩,
  ⟨(some 25), none, .un .not (.t 24)⟩,
  ⟨(some 22), none, .mv (.t 25)⟩]
abbrev x12r7 : List XOper := [
  ⟨(some 2), none, .mv (.c (.str ⟨#[]⟩))⟩,
  ⟨(some 3), none, .mv (.c (.int .i64 1))⟩]
abbrev x12r8 : List XOper := [
  ⟨(some 27), none, .fa 0 (.t 6)⟩,
  ⟨(some 28), none, .load false 1 (.t 27)⟩,
  ⟨(some 29), none, .bin .eql (.t 28) (.c (.int .i64 1))⟩,
  ⟨(some 26), none, .mv (.t 29)⟩]
abbrev x12r9 : List XOper := [
  ⟨(some 30), none, .mv (.t 4)⟩,
  ⟨(some 31), none, .fa 1 (.t 6)⟩,
  ⟨(some 32), none, .load false 1 (.t 31)⟩,
  ⟨(some 33), none, .mkslice 1 (.str ⟨#[]⟩) 1 [(0, (.t 32))]⟩,
  ⟨(some 34), none, .app 1 16 (.t 30) (.t 33)⟩,
  ⟨(some 4), none, .mv (.t 34)⟩]
abbrev x12r10 : List XOper := [
  ⟨(some 36), none, .fa 0 (.t 6)⟩,
  ⟨(some 37), none, .load false 1 (.t 36)⟩,
  ⟨(some 38), none, .bin .eql (.t 37) (.c (.int .i64 2))⟩,
  ⟨(some 35), none, .mv (.t 38)⟩]
abbrev x12r11 : List XOper := [
  ⟨(some 39), none, .mv (.t 4)⟩,
  ⟨(some 40), none, .fa 2 (.t 6)⟩,
  ⟨(some 41), none, .load false 1 (.t 40)⟩,
  ⟨(some 42), none, .call (.c (.fn (.func 23) [] [])) [(.t 41)]⟩,
  ⟨(some 43), none, .mkslice 1 (.str ⟨#[]⟩) 1 [(0, (.t 42))]⟩,
  ⟨(some 44), none, .app 1 16 (.t 39) (.t 43)⟩,
  ⟨(some 4), none, .mv (.t 44)⟩]
abbrev x12r5 : List XOper := [
  ⟨(some 14), none, .mv (.t 4)⟩,
  ⟨(some 15), none, .fa 0 (.t 6)⟩,
  ⟨(some 16), none, .load false 1 (.t 15)⟩,
  ⟨(some 17), none, .bin .sub (.t 16) (.c (.int .i64 3))⟩,
  ⟨(some 18), none, .slS (.c (.str ⟨#[123, 125, 59]⟩)) (some (.t 17)) none⟩,
  ⟨(some 19), none, .slS (.t 18) none (some (.c (.int .i64 1)))⟩,
  ⟨(some 20), none, .mkslice 1 (.str ⟨#[]⟩) 1 [(0, (.t 19))]⟩,
  ⟨(some 21), none, .app 1 16 (.t 14) (.t 20)⟩,
  ⟨(some 4), none, .mv (.t 21)⟩]
abbrev x12r12 : List XOper := [
  ⟨(some 45), none, .bin .add (.t 10) (.c (.int .i64 1))⟩,
  ⟨(some 10), none, .mv (.t 45)⟩]
abbrev x12l3 : XCode :=
  (.seq (.reg 3 x12r3 none)
  (.seq (.cond (.t 11)
    .skip
    (.exit 0))
  (.seq (.block 1
    (.seq (.reg 4 x12r4 none)
    (.block 2
      (.seq (.reg 6 x12r6 none)
      (.cond (.t 22)
        (.seq (.reg 7 x12r7 none)
        .ret)
        (.seq (.reg 8 x12r8 none)
        (.cond (.t 26)
          (.reg 9 x12r9 none)
          (.seq (.reg 10 x12r10 none)
          (.cond (.t 35)
            (.reg 11 x12r11 none)
            (.reg 5 x12r5 none))))))))))
  (.reg 12 x12r12 none))))
abbrev x12r13 : List XOper := [
  ⟨(some 46), none, .mv (.t 4)⟩,
  ⟨(some 47), none, .call (.c (.fn (.func 24) [] [])) [(.t 46), (.c (.str ⟨#[32]⟩))]⟩,
  ⟨(some 7), none, .mv (.t 47)⟩]
abbrev x12r14 : List XOper := [
  ⟨(some 48), none, .mv (.t 7)⟩,
  ⟨(some 49), none, .lenS (.t 48)⟩,
  ⟨(some 50), none, .bin .gtr (.t 49) (.c (.int .i64 4000))⟩]
abbrev x12r15 : List XOper := [
  ⟨(some 2), none, .mv (.c (.str ⟨#[]⟩))⟩,
  ⟨(some 3), none, .mv (.c (.int .i64 2))⟩]
abbrev x12r16 : List XOper := [
  ⟨(some 51), none, .mv (.t 7)⟩,
  ⟨(some 2), none, .mv (.t 51)⟩,
  ⟨(some 3), none, .mv (.c (.int .i64 0))⟩]
/-- datum/token.Print -/
abbrev x12b : XCode :=
  (.seq (.reg 0 x12r0 none)
  (.seq (.reg 1 x12r1 none)
  (.seq (.seq (.reg 2 x12r2 none)
  (.block 0
    (.loop x12l3)))
  (.seq (.reg 13 x12r13 none)
  (.seq (.seq (.reg 14 x12r14 none)
  (.cond (.t 50)
    (.seq (.reg 15 x12r15 none)
    .ret)
    .skip))
  (.seq (.reg 16 x12r16 none)
  .ret))))))
def x12 : XFunc := ⟨52, 1, [.tmp 2, .tmp 3], x12b⟩
theorem x12_ok : chkF Tryd.prog Tryd.f12 x12 = true := by kernel_rfl
theorem x12_eq : x12.body = x12b ∧ x12.res = [.tmp 2, .tmp 3] ∧ x12.np = 1 := ⟨rfl, rfl, rfl⟩

abbrev x13r0 : List XOper := [
  ⟨(some 1), none, .box (.t 0)⟩,
  ⟨(some 2), none, .mv (.c (.bool false))⟩]
abbrev x13r1 : List XOper := [
  ⟨(some 3), none, .fa 0 (.t 1)⟩,
  ⟨(some 4), none, .load false 1 (.t 3)⟩]
abbrev x13r2 : List XOper := [
  ⟨(some 6), none, .bin .eql (.t 4) (.c (.int .i64 1))⟩,
  ⟨(some 5), none, .mv (.t 6)⟩]
abbrev x13r3 : List XOper := [
  ⟨(some 7), none, .fa 1 (.t 1)⟩,
  ⟨(some 8), none, .load false 1 (.t 7)⟩,
  ⟨(some 9), none, .call (.c (.fn (.func 25) [] [])) [(.t 8)]⟩,
  ⟨(some 10), none, .mv (.t 9)⟩,
  ⟨(some 11), (some (10, true)), .fa 2 (.t 1)⟩,
  ⟨(some 12), (some (10, true)), .load false 1 (.t 11)⟩,
  ⟨(some 13), (some (10, true)), .bin .eql (.t 12) (.c (.int .i64 0))⟩,
  ⟨(some 14), none, .pick (.t 10) (.t 13) (.c (.bool false))⟩,
  ⟨(some 2), none, .mv (.t 14)⟩]
abbrev x13r4 : List XOper := [
  ⟨(some 16), none, .bin .eql (.t 4) (.c (.int .i64 2))⟩,
  ⟨(some 15), none, .mv (.t 16)⟩]
abbrev x13r5 : List XOper := [
  ⟨(some 17), none, .fa 1 (.t 1)⟩,
  ⟨(some 18), none, .load false 1 (.t 17)⟩,
  ⟨(some 19), none, .bin .eql (.t 18) (.c (.str ⟨#[]⟩))⟩,
  ⟨(some 20), none, .mv (.t 19)⟩,
  ⟨(some 21), (some (20, true)), .fa 2 (.t 1)⟩,
  ⟨(some 22), (some (20, true)), .load false 1 (.t 21)⟩,
  ⟨(some 23), (some (20, true)), .call (.c (.fn (.func 26) [] [])) [(.t 22)]⟩,
  ⟨(some 24), none, .pick (.t 20) (.t 23) (.c (.bool false))⟩,
  ⟨(some 2), none, .mv (.t 24)⟩]
abbrev x13r6 : List XOper := [
  ⟨(some 26), none, .bin .eql (.t 4) (.c (.int .i64 3))⟩,
  ⟨(some 25), none, .mv (.t 26)⟩]
abbrev x13r7 : List XOper := [
  ⟨(some 27), none, .bin .eql (.t 4) (.c (.int .i64 4))⟩,
  ⟨(some 25), none, .mv (.t 27)⟩]
abbrev x13r8 : List XOper := [
  ⟨(some 28), none, .bin .eql (.t 4) (.c (.int .i64 5))⟩,
  ⟨(some 25), none, .mv (.t 28)⟩]
abbrev x13r9 : List XOper := [
  ⟨(some 29), none, .fa 1 (.t 1)⟩,
  ⟨(some 30), none, .load false 1 (.t 29)⟩,
  ⟨(some 31), none, .bin .eql (.t 30) (.c (.str ⟨#[]⟩))⟩,
  ⟨(some 32), none, .mv (.t 31)⟩,
  ⟨(some 33), (some (32, true)), .fa 2 (.t 1)⟩,
  ⟨(some 34), (some (32, true)), .load false 1 (.t 33)⟩,
  ⟨(some 35), (some (32, true)), .bin .eql (.t 34) (.c (.int .i64 0))⟩,
  ⟨(some 36), none, .pick (.t 32) (.t 35) (.c (.bool false))⟩,
  ⟨(some 2), none, .mv (.t 36)⟩]
abbrev x13r10 : List XOper := [
  ⟨(some 2), none, .mv (.c (.bool false))⟩]
/-- datum/token.Right -/
abbrev x13b : XCode :=
  (.seq (.reg 0 x13r0 none)
  (.seq (.seq (.reg 1 x13r1 none)
  (.block 0
    (.seq (.reg 2 x13r2 none)
    (.cond (.t 5)
      (.seq (.reg 3 x13r3 none)
      .ret)
      (.seq (.reg 4 x13r4 none)
      (.cond (.t 15)
        (.seq (.reg 5 x13r5 none)
        .ret)
        (.seq (.seq (.reg 6 x13r6 none)
        (.cond (.t 25)
          .skip
          (.seq (.reg 7 x13r7 none)
          (.cond (.t 25)
            .skip
            (.reg 8 x13r8 none)))))
        (.cond (.t 25)
          (.seq (.reg 9 x13r9 none)
          .ret)
          .skip))))))))
  (.seq (.reg 10 x13r10 none)
  .ret)))
def x13 : XFunc := ⟨37, 1, [.tmp 2], x13b⟩
theorem x13_ok : chkF Tryd.prog Tryd.f13 x13 = true := by kernel_rfl
theorem x13_eq : x13.body = x13b ∧ x13.res = [.tmp 2] ∧ x13.np = 1 := ⟨rfl, rfl, rfl⟩

abbrev x14r0 : List XOper := [
  ⟨(some 1), none, .box (.t 0)⟩,
  ⟨(some 2), none, .mv (.c (.bool false))⟩]
abbrev x14r1 : List XOper := [
  ⟨(some 3), none, .fa 0 (.t 1)⟩,
  ⟨(some 4), none, .load false 1 (.t 3)⟩,
  ⟨(some 5), none, .bin .eql (.t 4) (.c (.int .i64 1))⟩]
abbrev x14r2 : List XOper := [
  ⟨(some 6), none, .fa 1 (.t 1)⟩,
  ⟨(some 7), none, .load false 1 (.t 6)⟩,
  ⟨(some 8), none, .call (.c (.fn (.func 27) [] [])) [(.t 7)]⟩,
  ⟨(some 9), none, .mv (.t 8)⟩,
  ⟨(some 10), (some (9, true)), .fa 2 (.t 1)⟩,
  ⟨(some 11), (some (9, true)), .load false 1 (.t 10)⟩,
  ⟨(some 12), (some (9, true)), .bin .eql (.t 11) (.c (.int .i64 0))⟩,
  ⟨(some 13), none, .pick (.t 9) (.t 12) (.c (.bool false))⟩,
  ⟨(some 2), none, .mv (.t 13)⟩]
abbrev x14r3 : List XOper := [
  ⟨(some 14), none, .fa 0 (.t 1)⟩,
  ⟨(some 15), none, .load false 1 (.t 14)⟩,
  ⟨(some 16), none, .bin .eql (.t 15) (.c (.int .i64 2))⟩]
abbrev x14r4 : List XOper := [
  ⟨(some 17), none, .fa 1 (.t 1)⟩,
  ⟨(some 18), none, .load false 1 (.t 17)⟩,
  ⟨(some 19), none, .bin .eql (.t 18) (.c (.str ⟨#[]⟩))⟩,
  ⟨(some 20), none, .mv (.t 19)⟩,
  ⟨(some 21), (some (20, true)), .fa 2 (.t 1)⟩,
  ⟨(some 22), (some (20, true)), .load false 1 (.t 21)⟩,
  ⟨(some 23), (some (20, true)), .bin .geq (.t 22) (.c (.int .i64 (-1000000000)))⟩,
  ⟨(some 24), none, .pick (.t 20) (.t 23) (.c (.bool false))⟩,
  ⟨(some 25), none, .mv (.t 24)⟩,
  ⟨(some 26), (some (25, true)), .fa 2 (.t 1)⟩,
  ⟨(some 27), (some (25, true)), .load false 1 (.t 26)⟩,
  ⟨(some 28), (some (25, true)), .bin .leq (.t 27) (.c (.int .i64 1000000000))⟩,
  ⟨(some 29), none, .pick (.t 25) (.t 28) (.c (.bool false))⟩,
  ⟨(some 2), none, .mv (.t 29)⟩]
abbrev x14r5 : List XOper := [
  ⟨(some 30), none, .fa 0 (.t 1)⟩,
  ⟨(some 31), none, .load false 1 (.t 30)⟩,
  ⟨(some 32), none, .bin .geq (.t 31) (.c (.int .i64 3))⟩,
  ⟨(some 33), none, .mv (.t 32)⟩,
  ⟨(some 34), (some (33, true)), .fa 0 (.t 1)⟩,
  ⟨(some 35), (some (33, true)), .load false 1 (.t 34)⟩,
  ⟨(some 36), (some (33, true)), .bin .leq (.t 35) (.c (.int .i64 5))⟩,
  ⟨(some 37), none, .pick (.t 33) (.t 36) (.c (.bool false))⟩,
  ⟨(some 38), none, .mv (.t 37)⟩,
  ⟨(some 39), (some (38, true)), .fa 1 (.t 1)⟩,
  ⟨(some 40), (some (38, true)), .load false 1 (.t 39)⟩,
  ⟨(some 41), (some (38, true)), .bin .eql (.t 40) (.c (.str ⟨#[]⟩))⟩,
  ⟨(some 42), none, .pick (.t 38) (.t 41) (.c (.bool false))⟩,
  ⟨(some 43), none, .mv (.t 42)⟩,
  ⟨(some 44), (some (43, true)), .fa 2 (.t 1)⟩,
  ⟨(some 45), (some (43, true)), .load false 1 (.t 44)⟩,
  ⟨(some 46), (some (43, true)), .bin .eql (.t 45) (.c (.int .i64 0))⟩,
  ⟨(some 47), none, .pick (.t 43) (.t 46) (.c (.bool false))⟩,
  ⟨(some 2), none, .mv (.t 47)⟩]
/-- datum/datumref07.Right -/
abbrev x14b : XCode :=
  (.seq (.reg 0 x14r0 none)
  (.seq (.seq (.reg 1 x14r1 none)
  (.cond (.t 5)
    (.seq (.reg 2 x14r2 none)
    .ret)
    .skip))
  (.seq (.seq (.reg 3 x14r3 none)
  (.cond (.t 16)
    (.seq (.reg 4 x14r4 none)
    .ret)
    .skip))
  (.seq (.reg 5 x14r5 none)
  .ret))))
def x14 : XFunc := ⟨48, 1, [.tmp 2], x14b⟩
theorem x14_ok : chkF Tryd.prog Tryd.f14 x14 = true := by kernel_rfl
theorem x14_eq : x14.body = x14b ∧ x14.res = [.tmp 2] ∧ x14.np = 1 := ⟨rfl, rfl, rfl⟩

abbrev x15r0 : List XOper := [
  ⟨(some 2), none, .mv (.c (.bool false))⟩]
abbrev x15r1 : List XOper := [
  ⟨(some 5), none, .mv (.t 0)⟩,
  ⟨(some 6), none, .lenV (.t 5)⟩,
  ⟨(some 7), none, .mv (.c (.int .i64 0))⟩]
abbrev x15r2 : List XOper := [
  ⟨(some 8), none, .bin .lss (.t 7) (.t 6)⟩]
abbrev x15r3 : List XOper := [
  ⟨(some 9), none, .iaS 4 (.t 5) (.t 7)⟩,
  ⟨(some 10), none, .load true 4 (.t 9)⟩,
  ⟨(some 4), none, .alloc [(.int .i64 0), (.str ⟨#[]⟩), (.int .i64 0), (.int .i64 0)]⟩,
  ⟨none, none, .store 4 (.t 4) (.t 10)⟩]
abbrev x15r4 : List XOper := [
  ⟨(some 11), none, .load true 4 (.t 4)⟩,
  ⟨(some 12), none, .call (.c (.fn (.func 14) [] [])) [(.t 11)]⟩,
  ⟨(some 13), none, .un .not (.t 12)⟩]
abbrev x15r5 : List XOper := [
  ⟨(some 2), none, .mv (.c (.bool false))⟩]
abbrev x15r6 : List XOper := [
  ⟨(some 14), none, .bin .add (.t 7) (.c (.int .i64 1))⟩,
  ⟨(some 7), none, .mv (.t 14)⟩]
abbrev x15l2 : XCode :=
  (.seq (.reg 2 x15r2 none)
  (.seq (.cond (.t 8)
    .skip
    (.exit 0))
  (.seq (.block 1
    (.seq (.reg 3 x15r3 none)
    (.seq (.reg 4 x15r4 none)
    (.cond (.t 13)
      (.seq (.reg 5 x15r5 none)
      .ret)
      .skip))))
  (.reg 6 x15r6 none))))
abbrev x15r7 : List XOper := [
  ⟨(some 2), none, .mv (.c (.bool true))⟩]
/-- datum/datumref07.Tokens -/
abbrev x15b : XCode :=
  (.seq (.reg 0 x15r0 none)
  (.seq (.seq (.reg 1 x15r1 none)
  (.block 0
    (.loop x15l2)))
  (.seq (.reg 7 x15r7 none)
  .ret)))
def x15 : XFunc := ⟨15, 1, [.tmp 2], x15b⟩
theorem x15_ok : chkF Tryd.prog Tryd.f15 x15 = true := by kernel_rfl
theorem x15_eq : x15.body = x15b ∧ x15.res = [.tmp 2] ∧ x15.np = 1 := ⟨rfl, rfl, rfl⟩

abbrev x16r0 : List XOper := [
  ⟨(some 2), none, .mv (.c (.str ⟨#[]⟩))⟩]
abbrev x16r1 : List XOper := [
  ⟨(some 3), none, .mv (.c (.str ⟨#[]⟩))⟩]
abbrev x16r2 : List XOper := [
  ⟨(some 6), none, .mv (.t 0)⟩,
  ⟨(some 7), none, .lenV (.t 6)⟩,
  ⟨(some 8), none, .mv (.c (.int .i64 0))⟩]
abbrev x16r3 : List XOper := [
  ⟨(some 9), none, .bin .lss (.t 8) (.t 7)⟩]
abbrev x16r4 : List XOper := [
  ⟨(some 10), none, .mv (.t 8)⟩,
  ⟨(some 11), none, .iaS 4 (.t 6) (.t 8)⟩,
  ⟨(some 12), none, .load true 4 (.t 11)⟩,
  ⟨(some 5), none, .alloc [(.int .i64 0), (.str ⟨#[]⟩), (.int .i64 0), (.int .i64 0)]⟩,
  ⟨(some 4), none, .mv (.t 10)⟩,
  ⟨none, none, .store 4 (.t 5) (.t 12)⟩]
abbrev x16r5 : List XOper := [
  ⟨(some 13), none, .mv (.t 4)⟩,
  ⟨(some 14), none, .bin .gtr (.t 13) (.c (.int .i64 0))⟩]
abbrev x16r6 : List XOper := [
  ⟨(some 15), none, .mv (.t 3)⟩,
  ⟨(some 16), none, .bin .add (.t 15) (.c (.str ⟨#[32]⟩))⟩,
  ⟨(some 3), none, .mv (.t 16)⟩]
abbrev x16r7 : List XOper := [
  ⟨(some 17), none, .mv (.t 3)⟩,
  ⟨(some 18), none, .load true 4 (.t 5)⟩,
  ⟨(some 19), none, .call (.c (.fn (.func 28) [] [])) [(.t 18)]⟩,
  ⟨(some 20), none, .bin .add (.t 17) (.t 19)⟩,
  ⟨(some 3), none, .mv (.t 20)⟩]
abbrev x16r8 : List XOper := [
  ⟨(some 21), none, .bin .add (.t 8) (.c (.int .i64 1))⟩,
  ⟨(some 8), none, .mv (.t 21)⟩]
abbrev x16l3 : XCode :=
  (.seq (.reg 3 x16r3 none)
  (.seq (.cond (.t 9)
    .skip
    (.exit 0))
  (.seq (.block 1
    (.seq (.reg 4 x16r4 none)
    (.seq (.seq (.reg 5 x16r5 none)
    (.cond (.t 14)
      (.reg 6 x16r6 none)
      .skip))
    (.reg 7 x16r7 none))))
  (.reg 8 x16r8 none))))
abbrev x16r9 : List XOper := [
  ⟨(some 22), none, .mv (.t 3)⟩,
  ⟨(some 2), none, .mv (.t 22)⟩]
/-- datum/datumref07.Print -/
abbrev x16b : XCode :=
  (.seq (.reg 0 x16r0 none)
  (.seq (.reg 1 x16r1 none)
  (.seq (.seq (.reg 2 x16r2 none)
  (.block 0
    (.loop x16l3)))
  (.seq (.reg 9 x16r9 none)
  .ret))))
def x16 : XFunc := ⟨23, 1, [.tmp 2], x16b⟩
theorem x16_ok : chkF Tryd.prog Tryd.f16 x16 = true := by kernel_rfl
theorem x16_eq : x16.body = x16b ∧ x16.res = [.tmp 2] ∧ x16.np = 1 := ⟨rfl, rfl, rfl⟩

abbrev x17r0 : List XOper := [
  ⟨(some 4), none, .mv (.c (.bool false))⟩]
abbrev x17r1 : List XOper := [
  ⟨(some 7), none, .mv (.t 0)⟩,
  ⟨(some 8), none, .lenV (.t 7)⟩,
  ⟨(some 9), none, .mv (.t 1)⟩,
  ⟨(some 10), none, .lenV (.t 9)⟩,
  ⟨(some 11), none, .bin .neq (.t 8) (.t 10)⟩]
abbrev x17r2 : List XOper := [
  ⟨(some 4), none, .mv (.c (.bool false))⟩]
abbrev x17r3 : List XOper := [
  ⟨(some 12), none, .mv (.t 0)⟩,
  ⟨(some 13), none, .lenV (.t 12)⟩,
  ⟨(some 14), none, .mv (.c (.int .i64 0))⟩]
abbrev x17r4 : List XOper := [
  ⟨(some 15), none, .bin .lss (.t 14) (.t 13)⟩]
abbrev x17r5 : List XOper := [
  ⟨(some 16), none, .mv (.t 14)⟩,
  ⟨(some 5), none, .mv (.t 16)⟩]
abbrev x17r6 : List XOper := [
  ⟨(some 17), none, .mv (.t 0)⟩,
  ⟨(some 18), none, .mv (.t 5)⟩,
  ⟨(some 19), none, .iaS 4 (.t 17) (.t 18)⟩,
  ⟨(some 20), none, .load true 4 (.t 19)⟩,
  ⟨(some 6), none, .alloc [(.int .i64 0), (.str ⟨#[]⟩), (.int .i64 0), (.int .i64 0)]⟩,
  ⟨none, none, .store 4 (.t 6) (.t 20)⟩]
abbrev x17r7 : List XOper := [
  ⟨(some 21), none, .mv (.t 1)⟩,
  ⟨(some 22), none, .mv (.t 5)⟩,
  ⟨(some 23), none, .iaS 4 (.t 21) (.t 22)⟩,
  ⟨(some 24), none, .fa 3 (.t 23)⟩,
  ⟨(some 25), none, .load false 1 (.t 24)⟩,
  ⟨(some 26), none, .fa 3 (.t 6)⟩,
  ⟨none, none, .store 1 (.t 26) (.t 25)⟩]
abbrev x17r8 : List XOper := [
  ⟨(some 27), none, .load true 4 (.t 6)⟩,
  ⟨(some 28), none, .mv (.t 1)⟩,
  ⟨(some 29), none, .mv (.t 5)⟩,
  ⟨(some 30), none, .iaS 4 (.t 28) (.t 29)⟩,
  ⟨(some 31), none, .load true 4 (.t 30)⟩,
  ⟨(some 32), none, .eqA true [0, 2, 0, 0] (.t 27) (.t 31)⟩]
abbrev x17r9 : List XOper := [
  ⟨(some 4), none, .mv (.c (.bool false))⟩]
abbrev x17r10 : List XOper := [
  ⟨(some 33), none, .bin .add (.t 14) (.c (.int .i64 1))⟩,
  ⟨(some 14), none, .mv (.t 33)⟩]
abbrev x17l4 : XCode :=
  (.seq (.reg 4 x17r4 none)
  (.seq (.cond (.t 15)
    .skip
    (.exit 0))
  (.seq (.block 1
    (.seq (.reg 5 x17r5 none)
    (.seq (.reg 6 x17r6 none)
    (.seq (.reg 7 x17r7 none)
    (.seq (.reg 8 x17r8 (some ⟨[]⟩))
    (.cond (.t 32)
      (.seq (.reg 9 x17r9 none)
      .ret)
      .skip))))))
  (.reg 10 x17r10 none))))
abbrev x17r11 : List XOper := [
  ⟨(some 4), none, .mv (.c (.bool true))⟩]
/-- datum/datumref07.Like -/
abbrev x17b : XCode :=
  (.seq (.reg 0 x17r0 none)
  (.seq (.seq (.reg 1 x17r1 none)
  (.cond (.t 11)
    (.seq (.reg 2 x17r2 none)
    .ret)
    .skip))
  (.seq (.seq (.reg 3 x17r3 none)
  (.block 0
    (.loop x17l4)))
  (.seq (.reg 11 x17r11 none)
  .ret))))
def x17 : XFunc := ⟨34, 2, [.tmp 4], x17b⟩
theorem x17_ok : chkF Tryd.prog Tryd.f17 x17 = true := by kernel_rfl
theorem x17_eq : x17.body = x17b ∧ x17.res = [.tmp 4] ∧ x17.np = 2 := ⟨rfl, rfl, rfl⟩

abbrev x18r0 : List XOper := [
  ⟨(some 4), none, .mv (.c (.str ⟨#[]⟩))⟩]
abbrev x18r1 : List XOper := [
  ⟨(some 6), none, .load false 1 (.t 1)⟩,
  ⟨(some 7), none, .lenV (.t 6)⟩,
  ⟨(some 8), none, .bin .eql (.t 7) (.c (.int .i64 0))⟩]
abbrev x18r2 : List XOper := [
  ⟨(some 4), none, .mv (.c (.str ⟨#[32]⟩))⟩]
abbrev x18r3 : List XOper := [
  ⟨(some 9), none, .load false 1 (.t 1)⟩,
  ⟨(some 10), none, .mv (.t 0)⟩,
  ⟨(some 11), none, .load false 1 (.t 1)⟩,
  ⟨(some 12), none, .lenV (.t 11)⟩,
  ⟨(some 13), none, .bin .rem (.t 10) (.t 12)⟩,
  ⟨(some 14), none, .iaS 1 (.t 9) (.t 13)⟩,
  ⟨(some 15), none, .load false 1 (.t 14)⟩,
  ⟨(some 5), none, .mv (.t 15)⟩]
abbrev x18r4 : List XOper := [
  ⟨(some 16), none, .mv (.t 5)⟩,
  ⟨(some 17), none, .bin .rem (.t 16) (.c (.int .i64 5))⟩,
  ⟨(some 18), none, .bin .add (.t 17) (.c (.int .i64 5))⟩,
  ⟨(some 19), none, .bin .rem (.t 18) (.c (.int .i64 5))⟩]
abbrev x18r5 : List XOper := [
  ⟨(some 21), none, .bin .eql (.t 19) (.c (.int .i64 0))⟩,
  ⟨(some 20), none, .mv (.t 21)⟩]
abbrev x18r6 : List XOper := [
  ⟨(some 4), none, .mv (.c (.str ⟨#[9]⟩))⟩]
abbrev x18r7 : List XOper := [
  ⟨(some 23), none, .bin .eql (.t 19) (.c (.int .i64 1))⟩,
  ⟨(some 22), none, .mv (.t 23)⟩]
abbrev x18r8 : List XOper := [
  ⟨(some 4), none, .mv (.c (.str ⟨#[10, 13, 32]⟩))⟩]
abbrev x18r9 : List XOper := [
  ⟨(some 25), none, .bin .eql (.t 19) (.c (.int .i64 2))⟩,
  ⟨(some 24), none, .mv (.t 25)⟩]
abbrev x18r10 : List XOper := [
  ⟨(some 26), none, .load false 1 (.t 2)⟩,
  ⟨(some 27), none, .bin .add (.c (.str ⟨#[35]⟩)) (.t 26)⟩,
  ⟨(some 28), none, .bin .add (.t 27) (.c (.str ⟨#[10]⟩))⟩,
  ⟨(some 4), none, .mv (.t 28)⟩]
abbrev x18r11 : List XOper := [
  ⟨(some 30), none, .bin .eql (.t 19) (.c (.int .i64 3))⟩,
  ⟨(some 29), none, .mv (.t 30)⟩]
abbrev x18r12 : List XOper := [
  ⟨(some 4), none, .mv (.c (.str ⟨#[32, 35, 32, 123, 59, 32, 10, 10]⟩))⟩]
abbrev x18r13 : List XOper := [
  ⟨(some 4), none, .mv (.c (.str ⟨#[32, 32]⟩))⟩]
/-- datum/datumlaw07.TokenBlanks$1 -/
abbrev x18b : XCode :=
  (.seq (.reg 0 x18r0 none)
  (.seq (.seq (.reg 1 x18r1 none)
  (.cond (.t 8)
    (.seq (.reg 2 x18r2 none)
    .ret)
    .skip))
  (.seq (.seq (.reg 3 x18r3 (some ⟨[]⟩))
  (.seq (.reg 4 x18r4 none)
  (.block 0
    (.seq (.reg 5 x18r5 none)
    (.cond (.t 20)
      (.seq (.reg 6 x18r6 none)
      .ret)
      (.seq (.reg 7 x18r7 none)
      (.cond (.t 22)
        (.seq (.reg 8 x18r8 none)
        .ret)
        (.seq (.reg 9 x18r9 none)
        (.cond (.t 24)
          (.seq (.reg 10 x18r10 none)
          .ret)
          (.seq (.reg 11 x18r11 none)
          (.cond (.t 29)
            (.seq (.reg 12 x18r12 none)
            .ret)
            .skip)))))))))))
  (.seq (.reg 13 x18r13 none)
  .ret))))
def x18 : XFunc := ⟨31, 3, [.tmp 4], x18b⟩
theorem x18_ok : chkF Tryd.prog Tryd.f18 x18 = true := by kernel_rfl
theorem x18_eq : x18.body = x18b ∧ x18.res = [.tmp 4] ∧ x18.np = 3 := ⟨rfl, rfl, rfl⟩

abbrev x19r0 : List XOper := [
  ⟨(some 3), none, .mv (.t 0)⟩,
  ⟨(some 4), none, .mkf (.func 29) [(.t 3)] []⟩,
  ⟨(some 2), none, .mv (.t 4)⟩]
abbrev x19r1 : List XOper := [
  ⟨(some 5), none, .mv (.t 0)⟩,
  ⟨(some 6), none, .nilChk (.t 5)⟩,
  ⟨(some 7), none, .fa 1 (.t 6)⟩,
  ⟨(some 8), none, .load false 1 (.t 7)⟩,
  ⟨(some 9), none, .mv (.t 0)⟩,
  ⟨(some 10), none, .nilChk (.t 9)⟩,
  ⟨(some 11), none, .fa 0 (.t 10)⟩,
  ⟨(some 12), none, .load false 1 (.t 11)⟩,
  ⟨(some 13), none, .lenS (.t 12)⟩,
  ⟨(some 14), none, .bin .lss (.t 8) (.t 13)⟩]
abbrev x19r2 : List XOper := [
  ⟨(some 15), none, .mv (.t 0)⟩,
  ⟨(some 16), none, .nilChk (.t 15)⟩,
  ⟨(some 17), none, .fa 0 (.t 16)⟩,
  ⟨(some 18), none, .load false 1 (.t 17)⟩,
  ⟨(some 19), none, .mv (.t 0)⟩,
  ⟨(some 20), none, .nilChk (.t 19)⟩,
  ⟨(some 21), none, .fa 1 (.t 20)⟩,
  ⟨(some 22), none, .load false 1 (.t 21)⟩,
  ⟨(some 23), none, .ixS (.t 18) (.t 22)⟩]
abbrev x19r3 : List XOper := [
  ⟨(some 25), none, .bin .eql (.t 23) (.c (.int .u8 32))⟩,
  ⟨(some 24), none, .mv (.t 25)⟩]
abbrev x19r4 : List XOper := [
  ⟨(some 26), none, .bin .eql (.t 23) (.c (.int .u8 9))⟩,
  ⟨(some 24), none, .mv (.t 26)⟩]
abbrev x19r5 : List XOper := [
  ⟨(some 27), none, .bin .eql (.t 23) (.c (.int .u8 10))⟩,
  ⟨(some 24), none, .mv (.t 27)⟩]
abbrev x19r6 : List XOper := [
  ⟨(some 28), none, .bin .eql (.t 23) (.c (.int .u8 13))⟩,
  ⟨(some 24), none, .mv (.t 28)⟩]
abbrev x19r7 : List XOper := [
  ⟨(some 29), none, .mv (.t 0)⟩,
  ⟨(some 30), none, .nilChk (.t 29)⟩,
  ⟨(some 31), none, .fa 1 (.t 30)⟩,
  ⟨(some 32), none, .load false 1 (.t 31)⟩,
  ⟨(some 33), none, .bin .add (.t 32) (.c (.int .i64 1))⟩,
  ⟨(some 34), none, .nilChk (.t 29)⟩,
  ⟨(some 35), none, .fa 1 (.t 34)⟩,
  ⟨none, none, .store 1 (.t 35) (.t 33)⟩]
abbrev x19r8 : List XOper := [
  ⟨(some 37), none, .bin .eql (.t 23) (.c (.int .u8 35))⟩,
  ⟨(some 36), none, .mv (.t 37)⟩]
abbrev x19r9 : List XOper := [
  ⟨(some 38), none, .mv (.t 0)⟩,
  ⟨(some 39), none, .mv (.t 2)⟩,
  ⟨(some 40), none, .call (.c (.fn (.func 30) [] [])) [(.t 38), (.t 39)]⟩]
abbrev x19l1 : XCode :=
  (.seq (.seq (.reg 1 x19r1 (some ⟨[]⟩))
  (.cond (.t 14)
    .skip
    (.exit 0)))
  (.block 1
    (.seq (.reg 2 x19r2 (some ⟨[]⟩))
    (.block 2
      (.seq (.seq (.reg 3 x19r3 none)
      (.cond (.t 24)
        .skip
        (.seq (.reg 4 x19r4 none)
        (.cond (.t 24)
          .skip
          (.seq (.reg 5 x19r5 none)
          (.cond (.t 24)
            .skip
            (.reg 6 x19r6 none)))))))
      (.cond (.t 24)
        (.reg 7 x19r7 none)
        (.seq (.reg 8 x19r8 none)
        (.cond (.t 36)
          (.reg 9 x19r9 none)
          .ret))))))))
/-- (*datum/token.text).blanks -/
abbrev x19b : XCode :=
  (.seq (.reg 0 x19r0 none)
  (.block 0
    (.loop x19l1)))
def x19 : XFunc := ⟨41, 1, [], x19b⟩
theorem x19_ok : chkF Tryd.prog Tryd.f19 x19 = true := by kernel_rfl
theorem x19_eq : x19.body = x19b ∧ x19.res = [] ∧ x19.np = 1 := ⟨rfl, rfl, rfl⟩

abbrev x20r0 : List XOper := [
  ⟨(some 2), none, .alloc [(.int .i64 0), (.str ⟨#[]⟩), (.int .i64 0), (.int .i64 0)]⟩,
  ⟨(some 3), none, .mv (.c (.int .i64 0))⟩]
abbrev x20r1 : List XOper := [
  ⟨(some 7), none, .mv (.t 0)⟩,
  ⟨(some 8), none, .nilChk (.t 7)⟩,
  ⟨(some 9), none, .fa 0 (.t 8)⟩,
  ⟨(some 10), none, .load false 1 (.t 9)⟩,
  ⟨(some 11), none, .mv (.t 0)⟩,
  ⟨(some 12), none, .nilChk (.t 11)⟩,
  ⟨(some 13), none, .fa 1 (.t 12)⟩,
  ⟨(some 14), none, .load false 1 (.t 13)⟩,
  ⟨(some 15), none, .ixS (.t 10) (.t 14)⟩,
  ⟨(some 4), none, .mv (.t 15)⟩]
abbrev x20r2 : List XOper := [
  ⟨(some 16), none, .mv (.t 4)⟩,
  ⟨(some 17), none, .call (.c (.fn (.func 31) [] [])) [(.c (.str ⟨#[123, 125, 59]⟩)), (.t 16)]⟩,
  ⟨(some 5), none, .mv (.t 17)⟩]
abbrev x20r3 : List XOper := [
  ⟨(some 18), none, .mv (.t 5)⟩,
  ⟨(some 19), none, .bin .geq (.t 18) (.c (.int .i64 0))⟩]
abbrev x20r4 : List XOper := [
  ⟨(some 20), none, .mv (.t 0)⟩,
  ⟨(some 21), none, .nilChk (.t 20)⟩,
  ⟨(some 22), none, .fa 1 (.t 21)⟩,
  ⟨(some 23), none, .load false 1 (.t 22)⟩,
  ⟨(some 24), none, .bin .add (.t 23) (.c (.int .i64 1))⟩,
  ⟨(some 25), none, .nilChk (.t 20)⟩,
  ⟨(some 26), none, .fa 1 (.t 25)⟩,
  ⟨none, none, .store 1 (.t 26) (.t 24)⟩]
abbrev x20r5 : List XOper := [
  ⟨(some 27), none, .mv (.t 5)⟩,
  ⟨(some 28), none, .bin .add (.c (.int .i64 3)) (.t 27)⟩,
  ⟨(some 29), none, .build [(.int .i64 0), (.str ⟨#[]⟩), (.int .i64 0), (.int .i64 0)] [(0, 1, (.t 28))]⟩,
  ⟨none, none, .store 4 (.t 2) (.t 29)⟩,
  ⟨(some 3), none, .mv (.c (.int .i64 0))⟩]
abbrev x20r6 : List XOper := [
  ⟨(some 30), none, .mv (.t 4)⟩,
  ⟨(some 31), none, .bin .eql (.t 30) (.c (.int .u8 45))⟩,
  ⟨(some 32), none, .mv (.t 31)⟩,
  ⟨(some 33), (some (32, false)), .mv (.t 4)⟩,
  ⟨(some 34), (some (32, false)), .call (.c (.fn (.func 32) [] [])) [(.t 33)]⟩,
  ⟨(some 35), none, .pick (.t 32) (.c (.bool true)) (.t 34)⟩]
abbrev x20r7 : List XOper := [
  ⟨(some 36), none, .mv (.t 0)⟩,
  ⟨(some 37), none, .call (.c (.fn (.func 33) [] [])) [(.t 36)]⟩,
  ⟨(some 38), none, .ext (.t 37) 0⟩,
  ⟨(some 39), none, .ext (.t 37) 1⟩,
  ⟨none, none, .store 4 (.t 2) (.t 38)⟩,
  ⟨(some 3), none, .mv (.t 39)⟩]
abbrev x20r8 : List XOper := [
  ⟨(some 40), none, .mv (.t 0)⟩,
  ⟨(some 41), none, .call (.c (.fn (.func 30) [] [])) [(.t 40), (.c (.fn (.func 34) [] []))]⟩,
  ⟨(some 6), none, .mv (.t 41)⟩]
abbrev x20r9 : List XOper := [
  ⟨(some 43), none, .mv (.t 6)⟩,
  ⟨(some 44), none, .bin .eql (.t 43) (.c (.str ⟨#[]⟩))⟩,
  ⟨(some 42), none, .mv (.t 44)⟩]
abbrev x20r10 : List XOper := [
  ⟨(some 45), none, .build [(.int .i64 0), (.str ⟨#[]⟩), (.int .i64 0), (.int .i64 0)] []⟩,
  ⟨none, none, .store 4 (.t 2) (.t 45)⟩,
  ⟨(some 3), none, .mv (.c (.int .i64 7))⟩]
abbrev x20r11 : List XOper := [
  ⟨(some 47), none, .mv (.t 6)⟩,
  ⟨(some 48), none, .lenS (.t 47)⟩,
  ⟨(some 49), none, .bin .gtr (.t 48) (.c (.int .i64 12))⟩,
  ⟨(some 46), none, .mv (.t 49)⟩]
abbrev x20r12 : List XOper := [
  ⟨(some 50), none, .build [(.int .i64 0), (.str ⟨#[]⟩), (.int .i64 0), (.int .i64 0)] []⟩,
  ⟨none, none, .store 4 (.t 2) (.t 50)⟩,
  ⟨(some 3), none, .mv (.c (.int .i64 2))⟩]
abbrev x20r13 : List XOper := [
  ⟨(some 51), none, .mv (.t 6)⟩,
  ⟨(some 52), none, .build [(.int .i64 0), (.str ⟨#[]⟩), (.int .i64 0), (.int .i64 0)] [(0, 1, (.c (.int .i64 1))), (1, 1, (.t 51))]⟩,
  ⟨none, none, .store 4 (.t 2) (.t 52)⟩,
  ⟨(some 3), none, .mv (.c (.int .i64 0))⟩]
/-- (*datum/token.text).token -/
abbrev x20b : XCode :=
  (.seq (.reg 0 x20r0 none)
  (.seq (.reg 1 x20r1 (some ⟨[]⟩))
  (.seq (.seq (.reg 2 x20r2 none)
  (.seq (.reg 3 x20r3 none)
  (.cond (.t 19)
    (.seq (.reg 4 x20r4 none)
    (.seq (.reg 5 x20r5 none)
    .ret))
    .skip)))
  (.seq (.seq (.reg 6 x20r6 none)
  (.cond (.t 35)
    (.seq (.reg 7 x20r7 none)
    .ret)
    .skip))
  (.seq (.reg 8 x20r8 none)
  (.seq (.block 0
    (.seq (.reg 9 x20r9 none)
    (.cond (.t 42)
      (.seq (.reg 10 x20r10 none)
      .ret)
      (.seq (.reg 11 x20r11 none)
      (.cond (.t 46)
        (.seq (.reg 12 x20r12 none)
        .ret)
        .skip)))))
  (.seq (.reg 13 x20r13 none)
  .ret)))))))
def x20 : XFunc := ⟨53, 1, [.cell 2 true 4, .tmp 3], x20b⟩
theorem x20_ok : chkF Tryd.prog Tryd.f20 x20 = true := by kernel_rfl
theorem x20_eq : x20.body = x20b ∧ x20.res = [.cell 2 true 4, .tmp 3] ∧ x20.np = 1 := ⟨rfl, rfl, rfl⟩

abbrev x21r0 : List XOper := [
  ⟨(some 4), none, .mv (.c (.int .i64 0))⟩]
abbrev x21r1 : List XOper := [
  ⟨(some 7), none, .mv (.t 0)⟩,
  ⟨(some 8), none, .mv (.t 1)⟩,
  ⟨(some 9), none, .ixS (.t 7) (.t 8)⟩,
  ⟨(some 5), none, .mv (.t 9)⟩]
abbrev x21r2 : List XOper := [
  ⟨(some 10), none, .mv (.t 5)⟩,
  ⟨(some 11), none, .bin .eql (.t 10) (.c (.int .u8 32))⟩,
  ⟨(some 12), none, .mv (.t 11)⟩,
  ⟨(some 13), (some (12, false)), .mv (.t 5)⟩,
  ⟨(some 14), (some (12, false)), .bin .eql (.t 13) (.c (.int .u8 9))⟩,
  ⟨(some 15), none, .pick (.t 12) (.c (.bool true)) (.t 14)⟩,
  ⟨(some 16), none, .mv (.t 15)⟩,
  ⟨(some 17), (some (16, false)), .mv (.t 5)⟩,
  ⟨(some 18), (some (16, false)), .bin .eql (.t 17) (.c (.int .u8 10))⟩,
  ⟨(some 19), none, .pick (.t 16) (.c (.bool true)) (.t 18)⟩,
  ⟨(some 20), none, .mv (.t 19)⟩,
  ⟨(some 21), (some (20, false)), .mv (.t 5)⟩,
  ⟨(some 22), (some (20, false)), .bin .eql (.t 21) (.c (.int .u8 13))⟩,
  ⟨(some 23), none, .pick (.t 20) (.c (.bool true)) (.t 22)⟩]
abbrev x21r3 : List XOper := [
  ⟨(some 4), none, .mv (.c (.int .i64 1))⟩]
abbrev x21r4 : List XOper := [
  ⟨(some 24), none, .mv (.t 5)⟩,
  ⟨(some 25), none, .bin .neq (.t 24) (.c (.int .u8 35))⟩]
abbrev x21r5 : List XOper := [
  ⟨(some 4), none, .mv (.c (.int .i64 0))⟩]
abbrev x21r6 : List XOper := [
  ⟨(some 6), none, .mv (.c (.int .i64 0))⟩]
abbrev x21r7 : List XOper := [
  ⟨(some 26), none, .mv (.t 1)⟩,
  ⟨(some 27), none, .mv (.t 6)⟩,
  ⟨(some 28), none, .bin .add (.t 26) (.t 27)⟩,
  ⟨(some 29), none, .mv (.t 0)⟩,
  ⟨(some 30), none, .lenS (.t 29)⟩,
  ⟨(some 31), none, .bin .lss (.t 28) (.t 30)⟩,
  ⟨(some 32), none, .mv (.t 31)⟩,
  ⟨(some 33), (some (32, true)), .mv (.t 0)⟩,
  ⟨(some 34), (some (32, true)), .mv (.t 1)⟩,
  ⟨(some 35), (some (32, true)), .mv (.t 6)⟩,
  ⟨(some 36), (some (32, true)), .bin .add (.t 34) (.t 35)⟩,
  ⟨(some 37), (some (32, true)), .ixS (.t 33) (.t 36)⟩,
  ⟨(some 38), (some (32, true)), .bin .neq (.t 37) (.c (.int .u8 10))⟩,
  ⟨(some 39), none, .pick (.t 32) (.t 38) (.c (.bool false))⟩]
abbrev x21r8 : List XOper := [
  ⟨(some 40), none, .mv (.t 6)⟩,
  ⟨(some 41), none, .bin .add (.t 40) (.c (.int .i64 1))⟩,
  ⟨(some 6), none, .mv (.t 41)⟩]
abbrev x21l7 : XCode :=
  (.seq (.seq (.reg 7 x21r7 none)
  (.cond (.t 39)
    .skip
    (.exit 0)))
  (.block 1
    (.reg 8 x21r8 none)))
abbrev x21r9 : List XOper := [
  ⟨(some 42), none, .mv (.t 6)⟩,
  ⟨(some 4), none, .mv (.t 42)⟩]
/-- datum/datumref07.blank -/
abbrev x21b : XCode :=
  (.seq (.reg 0 x21r0 none)
  (.seq (.reg 1 x21r1 none)
  (.seq (.seq (.reg 2 x21r2 none)
  (.cond (.t 23)
    (.seq (.reg 3 x21r3 none)
    .ret)
    .skip))
  (.seq (.seq (.reg 4 x21r4 none)
  (.cond (.t 25)
    (.seq (.reg 5 x21r5 none)
    .ret)
    .skip))
  (.seq (.reg 6 x21r6 none)
  (.seq (.block 0
    (.loop x21l7))
  (.seq (.reg 9 x21r9 none)
  .ret)))))))
def x21 : XFunc := ⟨43, 2, [.tmp 4], x21b⟩
theorem x21_ok : chkF Tryd.prog Tryd.f21 x21 = true := by kernel_rfl
theorem x21_eq : x21.body = x21b ∧ x21.res = [.tmp 4] ∧ x21.np = 2 := ⟨rfl, rfl, rfl⟩

abbrev x22r0 : List XOper := [
  ⟨(some 4), none, .alloc [(.int .i64 0), (.str ⟨#[]⟩), (.int .i64 0), (.int .i64 0)]⟩,
  ⟨(some 5), none, .mv (.c (.int .i64 0))⟩,
  ⟨(some 6), none, .mv (.c (.int .i64 0))⟩]
abbrev x22r1 : List XOper := [
  ⟨(some 13), none, .mv (.t 0)⟩,
  ⟨(some 14), none, .mv (.t 1)⟩,
  ⟨(some 15), none, .ixS (.t 13) (.t 14)⟩,
  ⟨(some 7), none, .mv (.t 15)⟩]
abbrev x22r2 : List XOper := [
  ⟨(some 16), none, .mv (.t 7)⟩,
  ⟨(some 17), none, .bin .eql (.t 16) (.c (.int .u8 123))⟩,
  ⟨(some 18), none, .mv (.t 17)⟩,
  ⟨(some 19), (some (18, false)), .mv (.t 7)⟩,
  ⟨(some 20), (some (18, false)), .bin .eql (.t 19) (.c (.int .u8 125))⟩,
  ⟨(some 21), none, .pick (.t 18) (.c (.bool true)) (.t 20)⟩,
  ⟨(some 22), none, .mv (.t 21)⟩,
  ⟨(some 23), (some (22, false)), .mv (.t 7)⟩,
  ⟨(some 24), (some (22, false)), .bin .eql (.t 23) (.c (.int .u8 59))⟩,
  ⟨(some 25), none, .pick (.t 22) (.c (.bool true)) (.t 24)⟩]
abbrev x22r3 : List XOper := [
  ⟨(some 8), none, .mv (.c (.int .i64 5))⟩]
abbrev x22r4 : List XOper := [
  ⟨(some 26), none, .mv (.t 7)⟩,
  ⟨(some 27), none, .bin .eql (.t 26) (.c (.int .u8 123))⟩]
abbrev x22r5 : List XOper := [
  ⟨(some 8), none, .mv (.c (.int .i64 3))⟩]
abbrev x22r6 : List XOper := [
  ⟨(some 28), none, .mv (.t 7)⟩,
  ⟨(some 29), none, .bin .eql (.t 28) (.c (.int .u8 125))⟩]
abbrev x22r7 : List XOper := [
  ⟨(some 8), none, .mv (.c (.int .i64 4))⟩]
abbrev x22r8 : List XOper := [
  ⟨(some 30), none, .mv (.t 8)⟩,
  ⟨(some 31), none, .mv (.t 1)⟩,
  ⟨(some 32), none, .build [(.int .i64 0), (.str ⟨#[]⟩), (.int .i64 0), (.int .i64 0)] [(0, 1, (.t 30)), (3, 1, (.t 31))]⟩,
  ⟨none, none, .store 4 (.t 4) (.t 32)⟩,
  ⟨(some 5), none, .mv (.c (.int .i64 1))⟩,
  ⟨(some 6), none, .mv (.c (.int .i64 0))⟩]
abbrev x22r9 : List XOper := [
  ⟨(some 33), none, .mv (.t 7)⟩,
  ⟨(some 34), none, .bin .eql (.t 33) (.c (.int .u8 45))⟩,
  ⟨(some 35), none, .mv (.t 34)⟩,
  ⟨(some 36), (some (35, false)), .mv (.t 7)⟩,
  ⟨(some 37), (some (35, false)), .call (.c (.fn (.func 35) [] [])) [(.t 36)]⟩,
  ⟨(some 38), none, .pick (.t 35) (.c (.bool true)) (.t 37)⟩]
abbrev x22r10 : List XOper := [
  ⟨(some 40), none, .mv (.t 0)⟩,
  ⟨(some 41), none, .mv (.t 1)⟩,
  ⟨(some 42), none, .call (.c (.fn (.func 36) [] [])) [(.t 40), (.t 41)]⟩,
  ⟨(some 39), none, .mv (.t 42)⟩,
  ⟨(some 43), none, .ext (.t 39) 0⟩,
  ⟨(some 44), none, .ext (.t 39) 1⟩,
  ⟨(some 45), none, .ext (.t 39) 2⟩,
  ⟨(some 9), none, .mv (.t 43)⟩,
  ⟨(some 10), none, .mv (.t 44)⟩,
  ⟨(some 11), none, .mv (.t 45)⟩]
abbrev x22r11 : List XOper := [
  ⟨(some 46), none, .mv (.t 11)⟩,
  ⟨(some 47), none, .bin .neq (.t 46) (.c (.int .i64 0))⟩]
abbrev x22r12 : List XOper := [
  ⟨(some 48), none, .build [(.int .i64 0), (.str ⟨#[]⟩), (.int .i64 0), (.int .i64 0)] []⟩,
  ⟨(some 49), none, .mv (.t 11)⟩,
  ⟨none, none, .store 4 (.t 4) (.t 48)⟩,
  ⟨(some 5), none, .mv (.c (.int .i64 0))⟩,
  ⟨(some 6), none, .mv (.t 49)⟩]
abbrev x22r13 : List XOper := [
  ⟨(some 50), none, .mv (.t 9)⟩,
  ⟨(some 51), none, .mv (.t 1)⟩,
  ⟨(some 52), none, .build [(.int .i64 0), (.str ⟨#[]⟩), (.int .i64 0), (.int .i64 0)] [(0, 1, (.c (.int .i64 2))), (2, 1, (.t 50)), (3, 1, (.t 51))]⟩,
  ⟨(some 53), none, .mv (.t 10)⟩,
  ⟨none, none, .store 4 (.t 4) (.t 52)⟩,
  ⟨(some 5), none, .mv (.t 53)⟩,
  ⟨(some 6), none, .mv (.c (.int .i64 0))⟩]
abbrev x22r14 : List XOper := [
  ⟨(some 54), none, .mv (.t 1)⟩,
  ⟨(some 12), none, .mv (.t 54)⟩]
abbrev x22r15 : List XOper := [
  ⟨(some 55), none, .mv (.t 12)⟩,
  ⟨(some 56), none, .mv (.t 0)⟩,
  ⟨(some 57), none, .lenS (.t 56)⟩,
  ⟨(some 58), none, .bin .lss (.t 55) (.t 57)⟩,
  ⟨(some 59), none, .mv (.t 58)⟩,
  ⟨(some 60), (some (59, true)), .mv (.t 0)⟩,
  ⟨(some 61), (some (59, true)), .mv (.t 12)⟩,
  ⟨(some 62), (some (59, true)), .ixS (.t 60) (.t 61)⟩,
  ⟨(some 63), (some (59, true)), .call (.c (.fn (.func 37) [] [])) [(.t 62)]⟩,
  ⟨(some 64), none, .pick (.t 59) (.t 63) (.c (.bool false))⟩]
abbrev x22r16 : List XOper := [
  ⟨(some 65), none, .mv (.t 12)⟩,
  ⟨(some 66), none, .bin .add (.t 65) (.c (.int .i64 1))⟩,
  ⟨(some 12), none, .mv (.t 66)⟩]
abbrev x22l15 : XCode :=
  (.seq (.seq (.reg 15 x22r15 none)
  (.cond (.t 64)
    .skip
    (.exit 0)))
  (.block 1
    (.reg 16 x22r16 none)))
abbrev x22r17 : List XOper := [
  ⟨(some 67), none, .mv (.t 12)⟩,
  ⟨(some 68), none, .mv (.t 1)⟩,
  ⟨(some 69), none, .bin .eql (.t 67) (.t 68)⟩]
abbrev x22r18 : List XOper := [
  ⟨(some 70), none, .build [(.int .i64 0), (.str ⟨#[]⟩), (.int .i64 0), (.int .i64 0)] []⟩,
  ⟨none, none, .store 4 (.t 4) (.t 70)⟩,
  ⟨(some 5), none, .mv (.c (.int .i64 0))⟩,
  ⟨(some 6), none, .mv (.c (.int .i64 7))⟩]
abbrev x22r19 : List XOper := [
  ⟨(some 71), none, .mv (.t 12)⟩,
  ⟨(some 72), none, .mv (.t 1)⟩,
  ⟨(some 73), none, .bin .add (.t 72) (.c (.int .i64 12))⟩,
  ⟨(some 74), none, .bin .gtr (.t 71) (.t 73)⟩]
abbrev x22r20 : List XOper := [
  ⟨(some 75), none, .build [(.int .i64 0), (.str ⟨#[]⟩), (.int .i64 0), (.int .i64 0)] []⟩,
  ⟨none, none, .store 4 (.t 4) (.t 75)⟩,
  ⟨(some 5), none, .mv (.c (.int .i64 0))⟩,
  ⟨(some 6), none, .mv (.c (.int .i64 2))⟩]
abbrev x22r21 : List XOper := [
  ⟨(some 76), none, .mv (.t 0)⟩,
  ⟨(some 77), none, .mv (.t 1)⟩,
  ⟨(some 78), none, .mv (.t 12)⟩,
  ⟨(some 79), none, .slS (.t 76) (some (.t 77)) (some (.t 78))⟩,
  ⟨(some 80), none, .mv (.t 1)⟩,
  ⟨(some 81), none, .build [(.int .i64 0), (.str ⟨#[]⟩), (.int .i64 0), (.int .i64 0)] [(0, 1, (.c (.int .i64 1))), (1, 1, (.t 79)), (3, 1, (.t 80))]⟩,
  ⟨(some 82), none, .mv (.t 12)⟩,
  ⟨(some 83), none, .mv (.t 1)⟩,
  ⟨(some 84), none, .bin .sub (.t 82) (.t 83)⟩,
  ⟨none, none, .store 4 (.t 4) (.t 81)⟩,
  ⟨(some 5), none, .mv (.t 84)⟩,
  ⟨(some 6), none, .mv (.c (.int .i64 0))⟩]
/-- datum/datumref07.one -/
abbrev x22b : XCode :=
  (.seq (.reg 0 x22r0 none)
  (.seq (.reg 1 x22r1 none)
  (.seq (.seq (.reg 2 x22r2 none)
  (.cond (.t 25)
    (.seq (.reg 3 x22r3 none)
    (.seq (.seq (.reg 4 x22r4 none)
    (.cond (.t 27)
      (.reg 5 x22r5 none)
      .skip))
    (.seq (.seq (.reg 6 x22r6 none)
    (.cond (.t 29)
      (.reg 7 x22r7 none)
      .skip))
    (.seq (.reg 8 x22r8 none)
    .ret))))
    .skip))
  (.seq (.seq (.reg 9 x22r9 none)
  (.cond (.t 38)
    (.seq (.reg 10 x22r10 none)
    (.seq (.seq (.reg 11 x22r11 none)
    (.cond (.t 47)
      (.seq (.reg 12 x22r12 none)
      .ret)
      .skip))
    (.seq (.reg 13 x22r13 none)
    .ret)))
    .skip))
  (.seq (.reg 14 x22r14 none)
  (.seq (.block 0
    (.loop x22l15))
  (.seq (.seq (.reg 17 x22r17 none)
  (.cond (.t 69)
    (.seq (.reg 18 x22r18 none)
    .ret)
    .skip))
  (.seq (.seq (.reg 19 x22r19 none)
  (.cond (.t 74)
    (.seq (.reg 20 x22r20 none)
    .ret)
    .skip))
  (.seq (.reg 21 x22r21 none)
  .ret)))))))))
def x22 : XFunc := ⟨85, 2, [.cell 4 true 4, .tmp 5, .tmp 6], x22b⟩
theorem x22_ok : chkF Tryd.prog Tryd.f22 x22 = true := by kernel_rfl
theorem x22_eq : x22.body = x22b ∧ x22.res = [.cell 4 true 4, .tmp 5, .tmp 6] ∧ x22.np = 2 := ⟨rfl, rfl, rfl⟩

abbrev x25r0 : List XOper := [
  ⟨(some 2), none, .mv (.c (.bool false))⟩]
abbrev x25r1 : List XOper := [
  ⟨(some 5), none, .mv (.t 0)⟩,
  ⟨(some 6), none, .rngS (.t 5)⟩]
abbrev x25r2 : List XOper := [
  ⟨(some 7), none, .nxtS (.t 6)⟩,
  ⟨(some 8), none, .ext (.t 7) 0⟩]
abbrev x25r3 : List XOper := [
  ⟨(some 9), none, .ext (.t 7) 2⟩,
  ⟨(some 4), none, .mv (.t 9)⟩]
abbrev x25r4 : List XOper := [
  ⟨(some 10), none, .mv (.t 4)⟩,
  ⟨(some 11), none, .bin .lss (.t 10) (.c (.int .i32 97))⟩,
  ⟨(some 12), none, .mv (.t 11)⟩,
  ⟨(some 13), (some (12, false)), .mv (.t 4)⟩,
  ⟨(some 14), (some (12, false)), .bin .gtr (.t 13) (.c (.int .i32 122))⟩,
  ⟨(some 15), none, .pick (.t 12) (.c (.bool true)) (.t 14)⟩]
abbrev x25r5 : List XOper := [
  ⟨(some 2), none, .mv (.c (.bool false))⟩]
abbrev x25l2 : XCode :=
  (.seq (.reg 2 x25r2 none)
  (.seq (.cond (.t 8)
    .skip
    (.exit 0))
  (.block 1
    (.seq (.reg 3 x25r3 none)
    (.seq (.reg 4 x25r4 none)
    (.cond (.t 15)
      (.seq (.reg 5 x25r5 none)
      .ret)
      .skip))))))
abbrev x25r6 : List XOper := [
  ⟨(some 16), none, .mv (.t 0)⟩,
  ⟨(some 17), none, .bin .neq (.t 16) (.c (.str ⟨#[]⟩))⟩,
  ⟨(some 18), none, .mv (.t 17)⟩,
  ⟨(some 19), (some (18, true)), .mv (.t 0)⟩,
  ⟨(some 20), (some (18, true)), .lenS (.t 19)⟩,
  ⟨(some 21), (some (18, true)), .bin .leq (.t 20) (.c (.int .i64 12))⟩,
  ⟨(some 22), none, .pick (.t 18) (.t 21) (.c (.bool false))⟩,
  ⟨(some 2), none, .mv (.t 22)⟩]
/-- datum/token.word -/
abbrev x25b : XCode :=
  (.seq (.reg 0 x25r0 none)
  (.seq (.seq (.reg 1 x25r1 none)
  (.block 0
    (.loop x25l2)))
  (.seq (.reg 6 x25r6 none)
  .ret)))
def x25 : XFunc := ⟨23, 1, [.tmp 2], x25b⟩
theorem x25_ok : chkF Tryd.prog Tryd.f25 x25 = true := by kernel_rfl
theorem x25_eq : x25.body = x25b ∧ x25.res = [.tmp 2] ∧ x25.np = 1 := ⟨rfl, rfl, rfl⟩

abbrev x26r0 : List XOper := [
  ⟨(some 2), none, .mv (.c (.bool false))⟩]
abbrev x26r1 : List XOper := [
  ⟨(some 3), none, .mv (.t 0)⟩,
  ⟨(some 4), none, .bin .geq (.t 3) (.c (.int .i64 (-1000000000)))⟩,
  ⟨(some 5), none, .mv (.t 4)⟩,
  ⟨(some 6), (some (5, true)), .mv (.t 0)⟩,
  ⟨(some 7), (some (5, true)), .bin .leq (.t 6) (.c (.int .i64 1000000000))⟩,
  ⟨(some 8), none, .pick (.t 5) (.t 7) (.c (.bool false))⟩,
  ⟨(some 2), none, .mv (.t 8)⟩]
/-- datum/token.num -/
abbrev x26b : XCode :=
  (.seq (.reg 0 x26r0 none)
  (.seq (.reg 1 x26r1 none)
  .ret))
def x26 : XFunc := ⟨9, 1, [.tmp 2], x26b⟩
theorem x26_ok : chkF Tryd.prog Tryd.f26 x26 = true := by kernel_rfl
theorem x26_eq : x26.body = x26b ∧ x26.res = [.tmp 2] ∧ x26.np = 1 := ⟨rfl, rfl, rfl⟩

abbrev x27r0 : List XOper := [
  ⟨(some 2), none, .mv (.c (.bool false))⟩]
abbrev x27r1 : List XOper := [
  ⟨(some 3), none, .mv (.c (.int .i64 0))⟩]
abbrev x27r2 : List XOper := [
  ⟨(some 4), none, .mv (.t 3)⟩,
  ⟨(some 5), none, .mv (.t 0)⟩,
  ⟨(some 6), none, .lenS (.t 5)⟩,
  ⟨(some 7), none, .bin .lss (.t 4) (.t 6)⟩]
abbrev x27r4 : List XOper := [
  ⟨(some 10), none, .mv (.t 0)⟩,
  ⟨(some 11), none, .mv (.t 3)⟩,
  ⟨(some 12), none, .ixS (.t 10) (.t 11)⟩,
  ⟨(some 13), none, .call (.c (.fn (.func 37) [] [])) [(.t 12)]⟩,
  ⟨(some 14), none, .un .not (.t 13)⟩]
abbrev x27r5 : List XOper := [
  ⟨(some 2), none, .mv (.c (.bool false))⟩]
abbrev x27r3 : List XOper := [
  ⟨(some 8), none, .mv (.t 3)⟩,
  ⟨(some 9), none, .bin .add (.t 8) (.c (.int .i64 1))⟩,
  ⟨(some 3), none, .mv (.t 9)⟩]
abbrev x27l2 : XCode :=
  (.seq (.seq (.reg 2 x27r2 none)
  (.cond (.t 7)
    .skip
    (.exit 0)))
  (.seq (.block 1
    (.seq (.reg 4 x27r4 none)
    (.cond (.t 14)
      (.seq (.reg 5 x27r5 none)
      .ret)
      .skip)))
  (.reg 3 x27r3 none)))
abbrev x27r6 : List XOper := [
  ⟨(some 15), none, .mv (.t 0)⟩,
  ⟨(some 16), none, .lenS (.t 15)⟩,
  ⟨(some 17), none, .bin .geq (.t 16) (.c (.int .i64 1))⟩,
  ⟨(some 18), none, .mv (.t 17)⟩,
  ⟨(some 19), (some (18, true)), .mv (.t 0)⟩,
  ⟨(some 20), (some (18, true)), .lenS (.t 19)⟩,
  ⟨(some 21), (some (18, true)), .bin .leq (.t 20) (.c (.int .i64 12))⟩,
  ⟨(some 22), none, .pick (.t 18) (.t 21) (.c (.bool false))⟩,
  ⟨(some 2), none, .mv (.t 22)⟩]
/-- datum/datumref07.Word -/
abbrev x27b : XCode :=
  (.seq (.reg 0 x27r0 none)
  (.seq (.seq (.reg 1 x27r1 none)
  (.block 0
    (.loop x27l2)))
  (.seq (.reg 6 x27r6 none)
  .ret)))
def x27 : XFunc := ⟨23, 1, [.tmp 2], x27b⟩
theorem x27_ok : chkF Tryd.prog Tryd.f27 x27 = true := by kernel_rfl
theorem x27_eq : x27.body = x27b ∧ x27.res = [.tmp 2] ∧ x27.np = 1 := ⟨rfl, rfl, rfl⟩

abbrev x28r0 : List XOper := [
  ⟨(some 1), none, .box (.t 0)⟩,
  ⟨(some 2), none, .mv (.c (.str ⟨#[]⟩))⟩]
abbrev x28r1 : List XOper := [
  ⟨(some 3), none, .fa 0 (.t 1)⟩,
  ⟨(some 4), none, .load false 1 (.t 3)⟩,
  ⟨(some 5), none, .bin .eql (.t 4) (.c (.int .i64 1))⟩]
abbrev x28r2 : List XOper := [
  ⟨(some 6), none, .fa 1 (.t 1)⟩,
  ⟨(some 7), none, .load false 1 (.t 6)⟩,
  ⟨(some 2), none, .mv (.t 7)⟩]
abbrev x28r3 : List XOper := [
  ⟨(some 8), none, .fa 0 (.t 1)⟩,
  ⟨(some 9), none, .load false 1 (.t 8)⟩,
  ⟨(some 10), none, .bin .eql (.t 9) (.c (.int .i64 2))⟩]
abbrev x28r4 : List XOper := [
  ⟨(some 11), none, .fa 2 (.t 1)⟩,
  ⟨(some 12), none, .load false 1 (.t 11)⟩,
  ⟨(some 13), none, .call (.c (.fn (.func 42) [] [])) [(.t 12)]⟩,
  ⟨(some 2), none, .mv (.t 13)⟩]
abbrev x28r5 : List XOper := [
  ⟨(some 14), none, .fa 0 (.t 1)⟩,
  ⟨(some 15), none, .load false 1 (.t 14)⟩,
  ⟨(some 16), none, .bin .sub (.t 15) (.c (.int .i64 3))⟩,
  ⟨(some 17), none, .fa 0 (.t 1)⟩,
  ⟨(some 18), none, .load false 1 (.t 17)⟩,
  ⟨(some 19), none, .bin .sub (.t 18) (.c (.int .i64 2))⟩,
  ⟨(some 20), none, .slS (.c (.str ⟨#[123, 125, 59]⟩)) (some (.t 16)) (some (.t 19))⟩,
  ⟨(some 2), none, .mv (.t 20)⟩]
/-- datum/datumref07.text -/
abbrev x28b : XCode :=
  (.seq (.reg 0 x28r0 none)
  (.seq (.seq (.reg 1 x28r1 none)
  (.cond (.t 5)
    (.seq (.reg 2 x28r2 none)
    .ret)
    .skip))
  (.seq (.seq (.reg 3 x28r3 none)
  (.cond (.t 10)
    (.seq (.reg 4 x28r4 none)
    .ret)
    .skip))
  (.seq (.reg 5 x28r5 none)
  .ret))))
def x28 : XFunc := ⟨21, 1, [.tmp 2], x28b⟩
theorem x28_ok : chkF Tryd.prog Tryd.f28 x28 = true := by kernel_rfl
theorem x28_eq : x28.body = x28b ∧ x28.res = [.tmp 2] ∧ x28.np = 1 := ⟨rfl, rfl, rfl⟩

abbrev x29r0 : List XOper := [
  ⟨(some 4), none, .mv (.c (.bool false))⟩]
abbrev x29r1 : List XOper := [
  ⟨(some 5), none, .mv (.t 1)⟩,
  ⟨(some 6), none, .bin .neq (.t 5) (.c (.int .u8 10))⟩,
  ⟨(some 4), none, .mv (.t 6)⟩]
/-- (*datum/token.text).inLine -/
abbrev x29b : XCode :=
  (.seq (.reg 0 x29r0 none)
  (.seq (.reg 1 x29r1 none)
  .ret))
def x29 : XFunc := ⟨7, 2, [.tmp 4], x29b⟩
theorem x29_ok : chkF Tryd.prog Tryd.f29 x29 = true := by kernel_rfl
theorem x29_eq : x29.body = x29b ∧ x29.res = [.tmp 4] ∧ x29.np = 2 := ⟨rfl, rfl, rfl⟩

abbrev x30r0 : List XOper := [
  ⟨(some 4), none, .mv (.c (.str ⟨#[]⟩))⟩]
abbrev x30r1 : List XOper := [
  ⟨(some 6), none, .mv (.t 0)⟩,
  ⟨(some 7), none, .nilChk (.t 6)⟩,
  ⟨(some 8), none, .fa 1 (.t 7)⟩,
  ⟨(some 9), none, .load false 1 (.t 8)⟩,
  ⟨(some 5), none, .mv (.t 9)⟩]
abbrev x30r2 : List XOper := [
  ⟨(some 10), none, .mv (.t 0)⟩,
  ⟨(some 11), none, .nilChk (.t 10)⟩,
  ⟨(some 12), none, .fa 1 (.t 11)⟩,
  ⟨(some 13), none, .load false 1 (.t 12)⟩,
  ⟨(some 14), none, .mv (.t 0)⟩,
  ⟨(some 15), none, .nilChk (.t 14)⟩,
  ⟨(some 16), none, .fa 0 (.t 15)⟩,
  ⟨(some 17), none, .load false 1 (.t 16)⟩,
  ⟨(some 18), none, .lenS (.t 17)⟩,
  ⟨(some 19), none, .bin .lss (.t 13) (.t 18)⟩,
  ⟨(some 20), none, .mv (.t 19)⟩,
  ⟨(some 21), (some (20, true)), .mv (.t 1)⟩,
  ⟨(some 22), (some (20, true)), .mv (.t 0)⟩,
  ⟨(some 23), (some (20, true)), .nilChk (.t 22)⟩,
  ⟨(some 24), (some (20, true)), .fa 0 (.t 23)⟩,
  ⟨(some 25), (some (20, true)), .load false 1 (.t 24)⟩,
  ⟨(some 26), (some (20, true)), .mv (.t 0)⟩,
  ⟨(some 27), (some (20, true)), .nilChk (.t 26)⟩,
  ⟨(some 28), (some (20, true)), .fa 1 (.t 27)⟩,
  ⟨(some 29), (some (20, true)), .load false 1 (.t 28)⟩,
  ⟨(some 30), (some (20, true)), .ixS (.t 25) (.t 29)⟩,
  ⟨(some 31), (some (20, true)), .call (.t 21) [(.t 30)]⟩,
  ⟨(some 32), none, .pick (.t 20) (.t 31) (.c (.bool false))⟩]
abbrev x30r3 : List XOper := [
  ⟨(some 33), none, .mv (.t 0)⟩,
  ⟨(some 34), none, .nilChk (.t 33)⟩,
  ⟨(some 35), none, .fa 1 (.t 34)⟩,
  ⟨(some 36), none, .load false 1 (.t 35)⟩,
  ⟨(some 37), none, .bin .add (.t 36) (.c (.int .i64 1))⟩,
  ⟨(some 38), none, .nilChk (.t 33)⟩,
  ⟨(some 39), none, .fa 1 (.t 38)⟩,
  ⟨none, none, .store 1 (.t 39) (.t 37)⟩]
abbrev x30l2 : XCode :=
  (.seq (.seq (.reg 2 x30r2 (some ⟨[]⟩))
  (.cond (.t 32)
    .skip
    (.exit 0)))
  (.block 1
    (.reg 3 x30r3 none)))
abbrev x30r4 : List XOper := [
  ⟨(some 40), none, .mv (.t 0)⟩,
  ⟨(some 41), none, .nilChk (.t 40)⟩,
  ⟨(some 42), none, .fa 0 (.t 41)⟩,
  ⟨(some 43), none, .load false 1 (.t 42)⟩,
  ⟨(some 44), none, .mv (.t 5)⟩,
  ⟨(some 45), none, .mv (.t 0)⟩,
  ⟨(some 46), none, .nilChk (.t 45)⟩,
  ⟨(some 47), none, .fa 1 (.t 46)⟩,
  ⟨(some 48), none, .load false 1 (.t 47)⟩,
  ⟨(some 49), none, .slS (.t 43) (some (.t 44)) (some (.t 48))⟩,
  ⟨(some 4), none, .mv (.t 49)⟩]
/-- (*datum/token.text).while -/
abbrev x30b : XCode :=
  (.seq (.reg 0 x30r0 none)
  (.seq (.reg 1 x30r1 none)
  (.seq (.block 0
    (.loop x30l2))
  (.seq (.reg 4 x30r4 (some ⟨[]⟩))
  .ret))))
def x30 : XFunc := ⟨50, 2, [.tmp 4], x30b⟩
theorem x30_ok : chkF Tryd.prog Tryd.f30 x30 = true := by kernel_rfl
theorem x30_eq : x30.body = x30b ∧ x30.res = [.tmp 4] ∧ x30.np = 2 := ⟨rfl, rfl, rfl⟩

abbrev x32r0 : List XOper := [
  ⟨(some 2), none, .mv (.c (.bool false))⟩]
abbrev x32r1 : List XOper := [
  ⟨(some 3), none, .mv (.t 0)⟩,
  ⟨(some 4), none, .bin .geq (.t 3) (.c (.int .u8 48))⟩,
  ⟨(some 5), none, .mv (.t 4)⟩,
  ⟨(some 6), (some (5, true)), .mv (.t 0)⟩,
  ⟨(some 7), (some (5, true)), .bin .leq (.t 6) (.c (.int .u8 57))⟩,
  ⟨(some 8), none, .pick (.t 5) (.t 7) (.c (.bool false))⟩,
  ⟨(some 2), none, .mv (.t 8)⟩]
/-- datum/token.digit -/
abbrev x32b : XCode :=
  (.seq (.reg 0 x32r0 none)
  (.seq (.reg 1 x32r1 none)
  .ret))
def x32 : XFunc := ⟨9, 1, [.tmp 2], x32b⟩
theorem x32_ok : chkF Tryd.prog Tryd.f32 x32 = true := by kernel_rfl
theorem x32_eq : x32.body = x32b ∧ x32.res = [.tmp 2] ∧ x32.np = 1 := ⟨rfl, rfl, rfl⟩

abbrev x33r0 : List XOper := [
  ⟨(some 2), none, .alloc [(.int .i64 0), (.str ⟨#[]⟩), (.int .i64 0), (.int .i64 0)]⟩,
  ⟨(some 3), none, .mv (.c (.int .i64 0))⟩]
abbrev x33r1 : List XOper := [
  ⟨(some 8), none, .mv (.t 0)⟩,
  ⟨(some 9), none, .call (.c (.fn (.func 30) [] [])) [(.t 8), (.c (.fn (.func 44) [] []))]⟩,
  ⟨(some 4), none, .mv (.t 9)⟩]
abbrev x33r2 : List XOper := [
  ⟨(some 10), none, .mv (.t 0)⟩,
  ⟨(some 11), none, .call (.c (.fn (.func 30) [] [])) [(.t 10), (.c (.fn (.func 32) [] []))]⟩,
  ⟨(some 5), none, .mv (.t 11)⟩]
abbrev x33r3 : List XOper := [
  ⟨(some 12), none, .mv (.t 5)⟩,
  ⟨(some 13), none, .bin .eql (.t 12) (.c (.str ⟨#[]⟩))⟩,
  ⟨(some 14), none, .mv (.t 13)⟩,
  ⟨(some 15), (some (14, false)), .mv (.t 4)⟩,
  ⟨(some 16), (some (14, false)), .lenS (.t 15)⟩,
  ⟨(some 17), (some (14, false)), .bin .gtr (.t 16) (.c (.int .i64 1))⟩,
  ⟨(some 18), none, .pick (.t 14) (.c (.bool true)) (.t 17)⟩]
abbrev x33r4 : List XOper := [
  ⟨(some 19), none, .build [(.int .i64 0), (.str ⟨#[]⟩), (.int .i64 0), (.int .i64 0)] []⟩,
  ⟨none, none, .store 4 (.t 2) (.t 19)⟩,
  ⟨(some 3), none, .mv (.c (.int .i64 7))⟩]
abbrev x33r5 : List XOper := [
  ⟨(some 21), none, .mv (.t 4)⟩,
  ⟨(some 22), none, .mv (.t 5)⟩,
  ⟨(some 23), none, .bin .add (.t 21) (.t 22)⟩,
  ⟨(some 24), none, .call (.c (.fn (.func 45) [] [])) [(.t 23)]⟩,
  ⟨(some 20), none, .mv (.t 24)⟩,
  ⟨(some 25), none, .ext (.t 20) 0⟩,
  ⟨(some 26), none, .ext (.t 20) 1⟩,
  ⟨(some 6), none, .mv (.t 25)⟩,
  ⟨(some 7), none, .mv (.t 26)⟩]
abbrev x33r6 : List XOper := [
  ⟨(some 27), none, .mv (.t 7)⟩,
  ⟨(some 28), none, .eqN true 1 (.t 27)⟩,
  ⟨(some 29), none, .mv (.t 28)⟩,
  ⟨(some 30), (some (29, false)), .mv (.t 6)⟩,
  ⟨(some 31), (some (29, false)), .call (.c (.fn (.func 26) [] [])) [(.t 30)]⟩,
  ⟨(some 32), (some (29, false)), .un .not (.t 31)⟩,
  ⟨(some 33), none, .pick (.t 29) (.c (.bool true)) (.t 32)⟩,
  ⟨(some 34), none, .mv (.t 33)⟩,
  ⟨(some 35), (some (34, false)), .mv (.t 6)⟩,
  ⟨(some 36), (some (34, false)), .call (.c (.fn (.func 23) [] [])) [(.t 35)]⟩,
  ⟨(some 37), (some (34, false)), .mv (.t 4)⟩,
  ⟨(some 38), (some (34, false)), .mv (.t 5)⟩,
  ⟨(some 39), (some (34, false)), .bin .add (.t 37) (.t 38)⟩,
  ⟨(some 40), (some (34, false)), .bin .neq (.t 36) (.t 39)⟩,
  ⟨(some 41), none, .pick (.t 34) (.c (.bool true)) (.t 40)⟩]
abbrev x33r7 : List XOper := [
  ⟨(some 42), none, .build [(.int .i64 0), (.str ⟨#[]⟩), (.int .i64 0), (.int .i64 0)] []⟩,
  ⟨none, none, .store 4 (.t 2) (.t 42)⟩,
  ⟨(some 3), none, .mv (.c (.int .i64 3))⟩]
abbrev x33r8 : List XOper := [
  ⟨(some 43), none, .mv (.t 6)⟩,
  ⟨(some 44), none, .build [(.int .i64 0), (.str ⟨#[]⟩), (.int .i64 0), (.int .i64 0)] [(0, 1, (.c (.int .i64 2))), (2, 1, (.t 43))]⟩,
  ⟨none, none, .store 4 (.t 2) (.t 44)⟩,
  ⟨(some 3), none, .mv (.c (.int .i64 0))⟩]
/-- (*datum/token.text).number -/
abbrev x33b : XCode :=
  (.seq (.reg 0 x33r0 none)
  (.seq (.reg 1 x33r1 none)
  (.seq (.reg 2 x33r2 none)
  (.seq (.seq (.reg 3 x33r3 none)
  (.cond (.t 18)
    (.seq (.reg 4 x33r4 none)
    .ret)
    .skip))
  (.seq (.reg 5 x33r5 none)
  (.seq (.seq (.reg 6 x33r6 none)
  (.cond (.t 41)
    (.seq (.reg 7 x33r7 none)
    .ret)
    .skip))
  (.seq (.reg 8 x33r8 none)
  .ret)))))))
def x33 : XFunc := ⟨45, 1, [.cell 2 true 4, .tmp 3], x33b⟩
theorem x33_ok : chkF Tryd.prog Tryd.f33 x33 = true := by kernel_rfl
theorem x33_eq : x33.body = x33b ∧ x33.res = [.cell 2 true 4, .tmp 3] ∧ x33.np = 1 := ⟨rfl, rfl, rfl⟩

abbrev x34r0 : List XOper := [
  ⟨(some 2), none, .mv (.c (.bool false))⟩]
abbrev x34r1 : List XOper := [
  ⟨(some 3), none, .mv (.t 0)⟩,
  ⟨(some 4), none, .bin .geq (.t 3) (.c (.int .u8 97))⟩,
  ⟨(some 5), none, .mv (.t 4)⟩,
  ⟨(some 6), (some (5, true)), .mv (.t 0)⟩,
  ⟨(some 7), (some (5, true)), .bin .leq (.t 6) (.c (.int .u8 122))⟩,
  ⟨(some 8), none, .pick (.t 5) (.t 7) (.c (.bool false))⟩,
  ⟨(some 2), none, .mv (.t 8)⟩]
/-- datum/token.letter -/
abbrev x34b : XCode :=
  (.seq (.reg 0 x34r0 none)
  (.seq (.reg 1 x34r1 none)
  .ret))
def x34 : XFunc := ⟨9, 1, [.tmp 2], x34b⟩
theorem x34_ok : chkF Tryd.prog Tryd.f34 x34 = true := by kernel_rfl
theorem x34_eq : x34.body = x34b ∧ x34.res = [.tmp 2] ∧ x34.np = 1 := ⟨rfl, rfl, rfl⟩

abbrev x35r0 : List XOper := [
  ⟨(some 2), none, .mv (.c (.bool false))⟩]
abbrev x35r1 : List XOper := [
  ⟨(some 3), none, .mv (.t 0)⟩,
  ⟨(some 4), none, .bin .geq (.t 3) (.c (.int .u8 48))⟩,
  ⟨(some 5), none, .mv (.t 4)⟩,
  ⟨(some 6), (some (5, true)), .mv (.t 0)⟩,
  ⟨(some 7), (some (5, true)), .bin .leq (.t 6) (.c (.int .u8 57))⟩,
  ⟨(some 8), none, .pick (.t 5) (.t 7) (.c (.bool false))⟩,
  ⟨(some 2), none, .mv (.t 8)⟩]
/-- datum/datumref07.digit -/
abbrev x35b : XCode :=
  (.seq (.reg 0 x35r0 none)
  (.seq (.reg 1 x35r1 none)
  .ret))
def x35 : XFunc := ⟨9, 1, [.tmp 2], x35b⟩
theorem x35_ok : chkF Tryd.prog Tryd.f35 x35 = true := by kernel_rfl
theorem x35_eq : x35.body = x35b ∧ x35.res = [.tmp 2] ∧ x35.np = 1 := ⟨rfl, rfl, rfl⟩

abbrev x36r0 : List XOper := [
  ⟨(some 4), none, .mv (.c (.int .i64 0))⟩,
  ⟨(some 5), none, .mv (.c (.int .i64 0))⟩,
  ⟨(some 6), none, .mv (.c (.int .i64 0))⟩]
abbrev x36r1 : List XOper := [
  ⟨(some 11), none, .mv (.t 0)⟩,
  ⟨(some 12), none, .mv (.t 1)⟩,
  ⟨(some 13), none, .ixS (.t 11) (.t 12)⟩,
  ⟨(some 14), none, .bin .eql (.t 13) (.c (.int .u8 45))⟩,
  ⟨(some 7), none, .mv (.t 14)⟩]
abbrev x36r2 : List XOper := [
  ⟨(some 15), none, .mv (.t 1)⟩,
  ⟨(some 8), none, .mv (.t 15)⟩]
abbrev x36r3 : List XOper := [
  ⟨(some 16), none, .mv (.t 7)⟩]
abbrev x36r4 : List XOper := [
  ⟨(some 17), none, .mv (.t 1)⟩,
  ⟨(some 18), none, .bin .add (.t 17) (.c (.int .i64 1))⟩,
  ⟨(some 8), none, .mv (.t 18)⟩]
abbrev x36r5 : List XOper := [
  ⟨(some 19), none, .mv (.t 8)⟩,
  ⟨(some 9), none, .mv (.t 19)⟩]
abbrev x36r6 : List XOper := [
  ⟨(some 10), none, .mv (.c (.int .i64 0))⟩]
abbrev x36r7 : List XOper := [
  ⟨(some 20), none, .mv (.t 9)⟩,
  ⟨(some 21), none, .mv (.t 0)⟩,
  ⟨(some 22), none, .lenS (.t 21)⟩,
  ⟨(some 23), none, .bin .lss (.t 20) (.t 22)⟩,
  ⟨(some 24), none, .mv (.t 23)⟩,
  ⟨(some 25), (some (24, true)), .mv (.t 0)⟩,
  ⟨(some 26), (some (24, true)), .mv (.t 9)⟩,
  ⟨(some 27), (some (24, true)), .ixS (.t 25) (.t 26)⟩,
  ⟨(some 28), (some (24, true)), .call (.c (.fn (.func 35) [] [])) [(.t 27)]⟩,
  ⟨(some 29), none, .pick (.t 24) (.t 28) (.c (.bool false))⟩]
abbrev x36r8 : List XOper := [
  ⟨(some 30), none, .mv (.t 10)⟩,
  ⟨(some 31), none, .bin .mul (.c (.int .i64 10)) (.t 30)⟩,
  ⟨(some 32), none, .mv (.t 0)⟩,
  ⟨(some 33), none, .mv (.t 9)⟩,
  ⟨(some 34), none, .ixS (.t 32) (.t 33)⟩,
  ⟨(some 35), none, .bin .sub (.t 34) (.c (.int .u8 48))⟩,
  ⟨(some 36), none, .conv .i64 (.t 35)⟩,
  ⟨(some 37), none, .bin .add (.t 31) (.t 36)⟩,
  ⟨(some 38), none, .mnx false (.t 37) [(.c (.int .i64 10000000000))]⟩,
  ⟨(some 10), none, .mv (.t 38)⟩]
abbrev x36r9 : List XOper := [
  ⟨(some 39), none, .mv (.t 9)⟩,
  ⟨(some 40), none, .bin .add (.t 39) (.c (.int .i64 1))⟩,
  ⟨(some 9), none, .mv (.t 40)⟩]
abbrev x36l7 : XCode :=
  (.seq (.seq (.reg 7 x36r7 none)
  (.cond (.t 29)
    .skip
    (.exit 0)))
  (.block 1
    (.seq (.reg 8 x36r8 none)
    (.reg 9 x36r9 none))))
abbrev x36r10 : List XOper := [
  ⟨(some 41), none, .mv (.t 9)⟩,
  ⟨(some 42), none, .mv (.t 8)⟩,
  ⟨(some 43), none, .bin .eql (.t 41) (.t 42)⟩]
abbrev x36r11 : List XOper := [
  ⟨(some 4), none, .mv (.c (.int .i64 0))⟩,
  ⟨(some 5), none, .mv (.c (.int .i64 0))⟩,
  ⟨(some 6), none, .mv (.c (.int .i64 7))⟩]
abbrev x36r12 : List XOper := [
  ⟨(some 44), none, .mv (.t 0)⟩,
  ⟨(some 45), none, .mv (.t 8)⟩,
  ⟨(some 46), none, .ixS (.t 44) (.t 45)⟩,
  ⟨(some 47), none, .bin .eql (.t 46) (.c (.int .u8 48))⟩,
  ⟨(some 48), none, .mv (.t 47)⟩,
  ⟨(some 49), (some (48, true)), .mv (.t 9)⟩,
  ⟨(some 50), (some (48, true)), .mv (.t 8)⟩,
  ⟨(some 51), (some (48, true)), .bin .add (.t 50) (.c (.int .i64 1))⟩,
  ⟨(some 52), (some (48, true)), .bin .gtr (.t 49) (.t 51)⟩,
  ⟨(some 53), (some (48, true)), .mv (.t 52)⟩,
  ⟨(some 54), (some (53, false)), .mv (.t 7)⟩,
  ⟨(some 55), (some (48, true)), .pick (.t 53) (.c (.bool true)) (.t 54)⟩,
  ⟨(some 56), none, .pick (.t 48) (.t 55) (.c (.bool false))⟩,
  ⟨(some 57), none, .mv (.t 56)⟩,
  ⟨(some 58), (some (57, false)), .mv (.t 10)⟩,
  ⟨(some 59), (some (57, false)), .bin .gtr (.t 58) (.c (.int .i64 1000000000))⟩,
  ⟨(some 60), none, .pick (.t 57) (.c (.bool true)) (.t 59)⟩]
abbrev x36r13 : List XOper := [
  ⟨(some 4), none, .mv (.c (.int .i64 0))⟩,
  ⟨(some 5), none, .mv (.c (.int .i64 0))⟩,
  ⟨(some 6), none, .mv (.c (.int .i64 3))⟩]
abbrev x36r14 : List XOper := [
  ⟨(some 61), none, .mv (.t 7)⟩]
abbrev x36r15 : List XOper := [
  ⟨(some 62), none, .mv (.t 10)⟩,
  ⟨(some 63), none, .bin .sub (.c (.int .i64 0)) (.t 62)⟩,
  ⟨(some 10), none, .mv (.t 63)⟩]
abbrev x36r16 : List XOper := [
  ⟨(some 64), none, .mv (.t 10)⟩,
  ⟨(some 65), none, .mv (.t 9)⟩,
  ⟨(some 66), none, .mv (.t 1)⟩,
  ⟨(some 67), none, .bin .sub (.t 65) (.t 66)⟩,
  ⟨(some 4), none, .mv (.t 64)⟩,
  ⟨(some 5), none, .mv (.t 67)⟩,
  ⟨(some 6), none, .mv (.c (.int .i64 0))⟩]
/-- datum/datumref07.number -/
abbrev x36b : XCode :=
  (.seq (.reg 0 x36r0 none)
  (.seq (.reg 1 x36r1 none)
  (.seq (.reg 2 x36r2 none)
  (.seq (.seq (.reg 3 x36r3 none)
  (.cond (.t 16)
    (.reg 4 x36r4 none)
    .skip))
  (.seq (.reg 5 x36r5 none)
  (.seq (.reg 6 x36r6 none)
  (.seq (.block 0
    (.loop x36l7))
  (.seq (.seq (.reg 10 x36r10 none)
  (.cond (.t 43)
    (.seq (.reg 11 x36r11 none)
    .ret)
    .skip))
  (.seq (.seq (.reg 12 x36r12 none)
  (.cond (.t 60)
    (.seq (.reg 13 x36r13 none)
    .ret)
    .skip))
  (.seq (.seq (.reg 14 x36r14 none)
  (.cond (.t 61)
    (.reg 15 x36r15 none)
    .skip))
  (.seq (.reg 16 x36r16 none)
  .ret)))))))))))
def x36 : XFunc := ⟨68, 2, [.tmp 4, .tmp 5, .tmp 6], x36b⟩
theorem x36_ok : chkF Tryd.prog Tryd.f36 x36 = true := by kernel_rfl
theorem x36_eq : x36.body = x36b ∧ x36.res = [.tmp 4, .tmp 5, .tmp 6] ∧ x36.np = 2 := ⟨rfl, rfl, rfl⟩

abbrev x37r0 : List XOper := [
  ⟨(some 2), none, .mv (.c (.bool false))⟩]
abbrev x37r1 : List XOper := [
  ⟨(some 3), none, .mv (.t 0)⟩,
  ⟨(some 4), none, .bin .geq (.t 3) (.c (.int .u8 97))⟩,
  ⟨(some 5), none, .mv (.t 4)⟩,
  ⟨(some 6), (some (5, true)), .mv (.t 0)⟩,
  ⟨(some 7), (some (5, true)), .bin .leq (.t 6) (.c (.int .u8 122))⟩,
  ⟨(some 8), none, .pick (.t 5) (.t 7) (.c (.bool false))⟩,
  ⟨(some 2), none, .mv (.t 8)⟩]
/-- datum/datumref07.letter -/
abbrev x37b : XCode :=
  (.seq (.reg 0 x37r0 none)
  (.seq (.reg 1 x37r1 none)
  .ret))
def x37 : XFunc := ⟨9, 1, [.tmp 2], x37b⟩
theorem x37_ok : chkF Tryd.prog Tryd.f37 x37 = true := by kernel_rfl
theorem x37_eq : x37.body = x37b ∧ x37.res = [.tmp 2] ∧ x37.np = 1 := ⟨rfl, rfl, rfl⟩

abbrev x42r0 : List XOper := [
  ⟨(some 2), none, .mv (.c (.str ⟨#[]⟩))⟩]
abbrev x42r1 : List XOper := [
  ⟨(some 3), none, .mv (.t 0)⟩,
  ⟨(some 4), none, .bin .lss (.t 3) (.c (.int .i64 0))⟩]
abbrev x42r2 : List XOper := [
  ⟨(some 5), none, .mv (.t 0)⟩,
  ⟨(some 6), none, .conv .u64 (.t 5)⟩,
  ⟨(some 7), none, .bin .sub (.c (.int .u64 0)) (.t 6)⟩,
  ⟨(some 8), none, .call (.c (.fn (.func 49) [] [])) [(.t 7)]⟩,
  ⟨(some 9), none, .bin .add (.c (.str ⟨#[45]⟩)) (.t 8)⟩,
  ⟨(some 2), none, .mv (.t 9)⟩]
abbrev x42r3 : List XOper := [
  ⟨(some 10), none, .mv (.t 0)⟩,
  ⟨(some 11), none, .conv .u64 (.t 10)⟩,
  ⟨(some 12), none, .call (.c (.fn (.func 49) [] [])) [(.t 11)]⟩,
  ⟨(some 2), none, .mv (.t 12)⟩]
/-- datum/datumref07.Digits -/
abbrev x42b : XCode :=
  (.seq (.reg 0 x42r0 none)
  (.seq (.seq (.reg 1 x42r1 none)
  (.cond (.t 4)
    (.seq (.reg 2 x42r2 none)
    .ret)
    .skip))
  (.seq (.reg 3 x42r3 none)
  .ret)))
def x42 : XFunc := ⟨13, 1, [.tmp 2], x42b⟩
theorem x42_ok : chkF Tryd.prog Tryd.f42 x42 = true := by kernel_rfl
theorem x42_eq : x42.body = x42b ∧ x42.res = [.tmp 2] ∧ x42.np = 1 := ⟨rfl, rfl, rfl⟩

abbrev x44r0 : List XOper := [
  ⟨(some 2), none, .mv (.c (.bool false))⟩]
abbrev x44r1 : List XOper := [
  ⟨(some 3), none, .mv (.t 0)⟩,
  ⟨(some 4), none, .bin .eql (.t 3) (.c (.int .u8 45))⟩,
  ⟨(some 2), none, .mv (.t 4)⟩]
/-- (*datum/token.text).number$1 -/
abbrev x44b : XCode :=
  (.seq (.reg 0 x44r0 none)
  (.seq (.reg 1 x44r1 none)
  .ret))
def x44 : XFunc := ⟨5, 1, [.tmp 2], x44b⟩
theorem x44_ok : chkF Tryd.prog Tryd.f44 x44 = true := by kernel_rfl
theorem x44_eq : x44.body = x44b ∧ x44.res = [.tmp 2] ∧ x44.np = 1 := ⟨rfl, rfl, rfl⟩

abbrev x49r0 : List XOper := [
  ⟨(some 2), none, .mv (.c (.str ⟨#[]⟩))⟩]
abbrev x49r1 : List XOper := [
  ⟨(some 3), none, .mv (.t 0)⟩,
  ⟨(some 4), none, .bin .lss (.t 3) (.c (.int .u64 10))⟩]
abbrev x49r2 : List XOper := [
  ⟨(some 5), none, .mv (.t 0)⟩,
  ⟨(some 6), none, .bin .add (.c (.int .u64 48)) (.t 5)⟩,
  ⟨(some 7), none, .conv .u8 (.t 6)⟩,
  ⟨(some 8), none, .mkslice 1 (.int .u8 0) 1 [(0, (.t 7))]⟩,
  ⟨(some 9), none, .b2s (.t 8)⟩,
  ⟨(some 2), none, .mv (.t 9)⟩]
abbrev x49r3 : List XOper := [
  ⟨(some 10), none, .mv (.t 0)⟩,
  ⟨(some 11), none, .bin .quo (.t 10) (.c (.int .u64 10))⟩,
  ⟨(some 12), none, .call (.c (.fn (.func 49) [] [])) [(.t 11)]⟩,
  ⟨(some 13), none, .mv (.t 0)⟩,
  ⟨(some 14), none, .bin .rem (.t 13) (.c (.int .u64 10))⟩,
  ⟨(some 15), none, .call (.c (.fn (.func 49) [] [])) [(.t 14)]⟩,
  ⟨(some 16), none, .bin .add (.t 12) (.t 15)⟩,
  ⟨(some 2), none, .mv (.t 16)⟩]
/-- datum/datumref07.natural -/
abbrev x49b : XCode :=
  (.seq (.reg 0 x49r0 none)
  (.seq (.seq (.reg 1 x49r1 none)
  (.cond (.t 4)
    (.seq (.reg 2 x49r2 none)
    .ret)
    .skip))
  (.seq (.reg 3 x49r3 none)
  .ret)))
def x49 : XFunc := ⟨17, 1, [.tmp 2], x49b⟩
theorem x49_ok : chkF Tryd.prog Tryd.f49 x49 = true := by kernel_rfl
theorem x49_eq : x49.body = x49b ∧ x49.res = [.tmp 2] ∧ x49.np = 1 := ⟨rfl, rfl, rfl⟩


def xf : FuncId → Option XFunc
  | 3 => some x3
  | 4 => some x4
  | 5 => some x5
  | 6 => some x6
  | 7 => some x7
  | 8 => some x8
  | 9 => some x9
  | 10 => some x10
  | 11 => some x11
  | 12 => some x12
  | 13 => some x13
  | 14 => some x14
  | 15 => some x15
  | 16 => some x16
  | 17 => some x17
  | 18 => some x18
  | 19 => some x19
  | 20 => some x20
  | 21 => some x21
  | 22 => some x22
  | 25 => some x25
  | 26 => some x26
  | 27 => some x27
  | 28 => some x28
  | 29 => some x29
  | 30 => some x30
  | 32 => some x32
  | 33 => some x33
  | 34 => some x34
  | 35 => some x35
  | 36 => some x36
  | 37 => some x37
  | 42 => some x42
  | 44 => some x44
  | 49 => some x49
  | _ => none
def C0 : Cfg := ⟨fun _ => none, xf⟩
theorem ok0 : CfgOk Tryd.prog C0 := by
  refine ⟨(fun g F h => by cases h), (fun g x h => ?_), by kernel_rfl⟩
  simp only [C0, xf] at h
  split at h
  · cases h; exact ⟨Tryd.f3, Tryd.func3, x3_ok⟩
  · cases h; exact ⟨Tryd.f4, Tryd.func4, x4_ok⟩
  · cases h; exact ⟨Tryd.f5, Tryd.func5, x5_ok⟩
  · cases h; exact ⟨Tryd.f6, Tryd.func6, x6_ok⟩
  · cases h; exact ⟨Tryd.f7, Tryd.func7, x7_ok⟩
  · cases h; exact ⟨Tryd.f8, Tryd.func8, x8_ok⟩
  · cases h; exact ⟨Tryd.f9, Tryd.func9, x9_ok⟩
  · cases h; exact ⟨Tryd.f10, Tryd.func10, x10_ok⟩
  · cases h; exact ⟨Tryd.f11, Tryd.func11, x11_ok⟩
  · cases h; exact ⟨Tryd.f12, Tryd.func12, x12_ok⟩
  · cases h; exact ⟨Tryd.f13, Tryd.func13, x13_ok⟩
  · cases h; exact ⟨Tryd.f14, Tryd.func14, x14_ok⟩
  · cases h; exact ⟨Tryd.f15, Tryd.func15, x15_ok⟩
  · cases h; exact ⟨Tryd.f16, Tryd.func16, x16_ok⟩
  · cases h; exact ⟨Tryd.f17, Tryd.func17, x17_ok⟩
  · cases h; exact ⟨Tryd.f18, Tryd.func18, x18_ok⟩
  · cases h; exact ⟨Tryd.f19, Tryd.func19, x19_ok⟩
  · cases h; exact ⟨Tryd.f20, Tryd.func20, x20_ok⟩
  · cases h; exact ⟨Tryd.f21, Tryd.func21, x21_ok⟩
  · cases h; exact ⟨Tryd.f22, Tryd.func22, x22_ok⟩
  · cases h; exact ⟨Tryd.f25, Tryd.func25, x25_ok⟩
  · cases h; exact ⟨Tryd.f26, Tryd.func26, x26_ok⟩
  · cases h; exact ⟨Tryd.f27, Tryd.func27, x27_ok⟩
  · cases h; exact ⟨Tryd.f28, Tryd.func28, x28_ok⟩
  · cases h; exact ⟨Tryd.f29, Tryd.func29, x29_ok⟩
  · cases h; exact ⟨Tryd.f30, Tryd.func30, x30_ok⟩
  · cases h; exact ⟨Tryd.f32, Tryd.func32, x32_ok⟩
  · cases h; exact ⟨Tryd.f33, Tryd.func33, x33_ok⟩
  · cases h; exact ⟨Tryd.f34, Tryd.func34, x34_ok⟩
  · cases h; exact ⟨Tryd.f35, Tryd.func35, x35_ok⟩
  · cases h; exact ⟨Tryd.f36, Tryd.func36, x36_ok⟩
  · cases h; exact ⟨Tryd.f37, Tryd.func37, x37_ok⟩
  · cases h; exact ⟨Tryd.f42, Tryd.func42, x42_ok⟩
  · cases h; exact ⟨Tryd.f44, Tryd.func44, x44_ok⟩
  · cases h; exact ⟨Tryd.f49, Tryd.func49, x49_ok⟩
  · cases h
end Go.Proofs.YtjcjlgiigjckeaaDoor
