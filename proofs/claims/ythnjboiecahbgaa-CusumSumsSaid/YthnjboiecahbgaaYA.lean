/-
  The functions that the statements reach, as the interpreter's texts, each checked against the translation.
-/
import Derived.Test.YthnjboiecahbgaaXY
import Derived.Test.YthnjboiecahbgaaRows
set_option linter.unusedVariables false
namespace Go.Proofs.Ythnjboiecahbgaa
open Go Go.Xec

abbrev x3r0 : List XOper := [
  ⟨(some 2), none, .box (.t 0)⟩,
  ⟨(some 4), none, .mv (.c (.bool false))⟩]
abbrev x3r1 : List XOper := [
  ⟨(some 11), none, .mv (.t 1)⟩,
  ⟨(some 12), none, .mv (.t 1)⟩,
  ⟨(some 13), none, .lenV (.t 12)⟩,
  ⟨(some 14), none, .mnx false (.t 13) [(.c (.int .i64 200))]⟩,
  ⟨(some 15), none, .slV 1 (.t 11) none (some (.t 14)) none⟩,
  ⟨(some 1), none, .mv (.t 15)⟩]
abbrev x3r2 : List XOper := [
  ⟨(some 17), none, .load true 6 (.t 2)⟩,
  ⟨(some 18), none, .mv (.t 1)⟩,
  ⟨(some 19), none, .call (.c (.fn (.func 6) [] [])) [(.t 17), (.t 18)]⟩,
  ⟨(some 16), none, .mv (.t 19)⟩,
  ⟨(some 20), none, .ext (.t 16) 0⟩,
  ⟨(some 21), none, .ext (.t 16) 1⟩,
  ⟨(some 22), none, .ext (.t 16) 2⟩,
  ⟨(some 5), none, .alloc [(.int .i64 0), (.int .i64 0), (.int .i64 0), (.int .i64 0), (.int .i64 0), (.int .i64 0)]⟩,
  ⟨none, none, .store 6 (.t 5) (.t 20)⟩,
  ⟨(some 6), none, .mv (.t 21)⟩,
  ⟨(some 7), none, .mv (.t 22)⟩]
abbrev x3r3 : List XOper := [
  ⟨(some 23), none, .build [(.int .i64 0), (.int .i64 0), (.int .i64 0), (.int .i64 0), (.int .i64 0), (.int .i64 0)] []⟩,
  ⟨(some 8), none, .alloc [(.int .i64 0), (.int .i64 0), (.int .i64 0), (.int .i64 0), (.int .i64 0), (.int .i64 0)]⟩,
  ⟨none, none, .store 6 (.t 8) (.t 23)⟩]
abbrev x3r4 : List XOper := [
  ⟨(some 25), none, .load true 6 (.t 2)⟩,
  ⟨(some 26), none, .call (.c (.fn (.func 7) [] [])) [(.t 25)]⟩,
  ⟨(some 27), none, .un .not (.t 26)⟩,
  ⟨(some 24), none, .mv (.t 27)⟩]
abbrev x3r5 : List XOper := [
  ⟨(some 28), none, .call (.c (.fn (.func 8) [] [])) []⟩,
  ⟨(some 29), none, .mv (.t 28)⟩,
  ⟨(some 30), (some (29, true)), .mv (.t 7)⟩,
  ⟨(some 31), (some (29, true)), .bin .eql (.t 30) (.c (.int .i64 1))⟩,
  ⟨(some 32), none, .pick (.t 29) (.t 31) (.c (.bool false))⟩,
  ⟨(some 33), none, .mv (.t 32)⟩,
  ⟨(some 34), (some (33, true)), .mv (.t 6)⟩,
  ⟨(some 35), (some (33, true)), .lenV (.t 34)⟩,
  ⟨(some 36), (some (33, true)), .bin .eql (.t 35) (.c (.int .i64 0))⟩,
  ⟨(some 37), none, .pick (.t 33) (.t 36) (.c (.bool false))⟩,
  ⟨(some 38), none, .mv (.t 37)⟩,
  ⟨(some 39), (some (38, true)), .load true 6 (.t 5)⟩,
  ⟨(some 40), (some (38, true)), .load true 6 (.t 8)⟩,
  ⟨(some 41), (some (38, true)), .eqA false [0, 0, 0, 0, 0, 0] (.t 39) (.t 40)⟩,
  ⟨(some 42), none, .pick (.t 38) (.t 41) (.c (.bool false))⟩,
  ⟨(some 4), none, .mv (.t 42)⟩]
abbrev x3r6 : List XOper := [
  ⟨(some 44), none, .mv (.t 1)⟩,
  ⟨(some 45), none, .call (.c (.fn (.func 9) [] [])) [(.t 44)]⟩,
  ⟨(some 46), none, .un .not (.t 45)⟩,
  ⟨(some 43), none, .mv (.t 46)⟩]
abbrev x3r7 : List XOper := [
  ⟨(some 47), none, .call (.c (.fn (.func 8) [] [])) []⟩,
  ⟨(some 48), none, .mv (.t 47)⟩,
  ⟨(some 49), (some (48, true)), .mv (.t 7)⟩,
  ⟨(some 50), (some (48, true)), .bin .eql (.t 49) (.c (.int .i64 3))⟩,
  ⟨(some 51), none, .pick (.t 48) (.t 50) (.c (.bool false))⟩,
  ⟨(some 52), none, .mv (.t 51)⟩,
  ⟨(some 53), (some (52, true)), .mv (.t 6)⟩,
  ⟨(some 54), (some (52, true)), .lenV (.t 53)⟩,
  ⟨(some 55), (some (52, true)), .bin .eql (.t 54) (.c (.int .i64 0))⟩,
  ⟨(some 56), none, .pick (.t 52) (.t 55) (.c (.bool false))⟩,
  ⟨(some 57), none, .mv (.t 56)⟩,
  ⟨(some 58), (some (57, true)), .load true 6 (.t 5)⟩,
  ⟨(some 59), (some (57, true)), .load true 6 (.t 8)⟩,
  ⟨(some 60), (some (57, true)), .eqA false [0, 0, 0, 0, 0, 0] (.t 58) (.t 59)⟩,
  ⟨(some 61), none, .pick (.t 57) (.t 60) (.c (.bool false))⟩,
  ⟨(some 4), none, .mv (.t 61)⟩]
abbrev x3r8 : List XOper := [
  ⟨(some 63), none, .fa 3 (.t 2)⟩,
  ⟨(some 64), none, .load false 1 (.t 63)⟩,
  ⟨(some 65), none, .mv (.t 1)⟩,
  ⟨(some 66), none, .lenV (.t 65)⟩,
  ⟨(some 67), none, .bin .add (.t 64) (.t 66)⟩,
  ⟨(some 68), none, .bin .gtr (.t 67) (.c (.int .i64 1000000000))⟩,
  ⟨(some 62), none, .mv (.t 68)⟩]
abbrev x3r9 : List XOper := [
  ⟨(some 69), none, .call (.c (.fn (.func 8) [] [])) []⟩,
  ⟨(some 70), none, .mv (.t 69)⟩,
  ⟨(some 71), (some (70, true)), .mv (.t 7)⟩,
  ⟨(some 72), (some (70, true)), .bin .eql (.t 71) (.c (.int .i64 11))⟩,
  ⟨(some 73), none, .pick (.t 70) (.t 72) (.c (.bool false))⟩,
  ⟨(some 74), none, .mv (.t 73)⟩,
  ⟨(some 75), (some (74, true)), .mv (.t 6)⟩,
  ⟨(some 76), (some (74, true)), .lenV (.t 75)⟩,
  ⟨(some 77), (some (74, true)), .bin .eql (.t 76) (.c (.int .i64 0))⟩,
  ⟨(some 78), none, .pick (.t 74) (.t 77) (.c (.bool false))⟩,
  ⟨(some 79), none, .mv (.t 78)⟩,
  ⟨(some 80), (some (79, true)), .load true 6 (.t 5)⟩,
  ⟨(some 81), (some (79, true)), .load true 6 (.t 8)⟩,
  ⟨(some 82), (some (79, true)), .eqA false [0, 0, 0, 0, 0, 0] (.t 80) (.t 81)⟩,
  ⟨(some 83), none, .pick (.t 79) (.t 82) (.c (.bool false))⟩,
  ⟨(some 4), none, .mv (.t 83)⟩]
abbrev x3r10 : List XOper := [
  ⟨(some 85), none, .load true 6 (.t 2)⟩,
  ⟨(some 86), none, .mv (.t 1)⟩,
  ⟨(some 87), none, .call (.c (.fn (.func 10) [] [])) [(.t 85), (.t 86)]⟩,
  ⟨(some 84), none, .mv (.t 87)⟩,
  ⟨(some 88), none, .ext (.t 84) 0⟩,
  ⟨(some 89), none, .ext (.t 84) 1⟩,
  ⟨(some 9), none, .alloc [(.int .i64 0), (.int .i64 0), (.int .i64 0), (.int .i64 0), (.int .i64 0), (.int .i64 0)]⟩,
  ⟨none, none, .store 6 (.t 9) (.t 88)⟩,
  ⟨(some 10), none, .mv (.t 89)⟩]
abbrev x3r11 : List XOper := [
  ⟨(some 90), none, .call (.c (.fn (.func 8) [] [])) []⟩,
  ⟨(some 91), none, .mv (.t 90)⟩,
  ⟨(some 92), (some (91, true)), .mv (.t 7)⟩,
  ⟨(some 93), (some (91, true)), .bin .eql (.t 92) (.c (.int .i64 0))⟩,
  ⟨(some 94), none, .pick (.t 91) (.t 93) (.c (.bool false))⟩,
  ⟨(some 95), none, .mv (.t 94)⟩,
  ⟨(some 96), (some (95, true)), .load true 6 (.t 5)⟩,
  ⟨(some 97), (some (95, true)), .load true 6 (.t 9)⟩,
  ⟨(some 98), (some (95, true)), .eqA false [0, 0, 0, 0, 0, 0] (.t 96) (.t 97)⟩,
  ⟨(some 99), none, .pick (.t 95) (.t 98) (.c (.bool false))⟩,
  ⟨(some 100), none, .mv (.t 99)⟩,
  ⟨(some 101), (some (100, true)), .mv (.t 6)⟩,
  ⟨(some 102), (some (100, true)), .mv (.t 10)⟩,
  ⟨(some 103), (some (100, true)), .call (.c (.fn (.func 11) [] [])) [(.t 101), (.t 102)]⟩,
  ⟨(some 104), none, .pick (.t 100) (.t 103) (.c (.bool false))⟩,
  ⟨(some 4), none, .mv (.t 104)⟩]
/-- datum/datumlaw18.CusumRuns -/
abbrev x3b : XCode :=
  (.seq (.reg 0 x3r0 none)
  (.seq (.reg 1 x3r1 none)
  (.seq (.reg 2 x3r2 none)
  (.seq (.reg 3 x3r3 none)
  (.seq (.block 0
    (.seq (.reg 4 x3r4 none)
    (.cond (.t 24)
      (.seq (.reg 5 x3r5 none)
      .ret)
      (.seq (.reg 6 x3r6 none)
      (.cond (.t 43)
        (.seq (.reg 7 x3r7 none)
        .ret)
        (.seq (.reg 8 x3r8 none)
        (.cond (.t 62)
          (.seq (.reg 9 x3r9 none)
          .ret)
          .skip)))))))
  (.seq (.reg 10 x3r10 none)
  (.seq (.reg 11 x3r11 none)
  .ret)))))))
def x3 : XFunc := ⟨105, 2, [.tmp 4], x3b⟩
theorem x3_ok : chkF Try.prog Try.f3 x3 = true := by kernel_rfl
theorem x3_eq : x3.body = x3b ∧ x3.res = [.tmp 4] ∧ x3.np = 2 := ⟨rfl, rfl, rfl⟩

abbrev x4r0 : List XOper := [
  ⟨(some 8), none, .mv (.c (.bool false))⟩]
abbrev x4r1 : List XOper := [
  ⟨(some 22), none, .mv (.t 0)⟩,
  ⟨(some 23), none, .mv (.t 1)⟩,
  ⟨(some 24), none, .mv (.t 2)⟩,
  ⟨(some 25), none, .mv (.t 3)⟩,
  ⟨(some 26), none, .call (.c (.fn (.func 12) [] [])) [(.t 22), (.t 23), (.t 24), (.t 25)]⟩,
  ⟨(some 21), none, .mv (.t 26)⟩,
  ⟨(some 27), none, .ext (.t 21) 0⟩,
  ⟨(some 28), none, .ext (.t 21) 1⟩,
  ⟨(some 29), none, .ext (.t 21) 2⟩,
  ⟨(some 9), none, .alloc [(.int .i64 0), (.int .i64 0), (.int .i64 0), (.int .i64 0), (.int .i64 0), (.int .i64 0)]⟩,
  ⟨none, none, .store 6 (.t 9) (.t 27)⟩,
  ⟨(some 3), none, .mv (.t 28)⟩,
  ⟨(some 10), none, .mv (.t 29)⟩]
abbrev x4r2 : List XOper := [
  ⟨(some 30), none, .mv (.t 10)⟩,
  ⟨(some 31), none, .un .not (.t 30)⟩,
  ⟨(some 32), none, .mv (.t 31)⟩,
  ⟨(some 33), (some (32, false)), .call (.c (.fn (.func 8) [] [])) []⟩,
  ⟨(some 34), (some (32, false)), .un .not (.t 33)⟩,
  ⟨(some 35), none, .pick (.t 32) (.c (.bool true)) (.t 34)⟩]
abbrev x4r3 : List XOper := [
  ⟨(some 8), none, .mv (.c (.bool false))⟩]
abbrev x4r4 : List XOper := [
  ⟨(some 36), none, .mv (.t 3)⟩,
  ⟨(some 37), none, .lenV (.t 36)⟩,
  ⟨(some 38), none, .mv (.c (.int .i64 0))⟩]
abbrev x4r5 : List XOper := [
  ⟨(some 39), none, .bin .lss (.t 38) (.t 37)⟩]
abbrev x4r6 : List XOper := [
  ⟨(some 40), none, .mv (.t 38)⟩,
  ⟨(some 11), none, .mv (.t 40)⟩]
abbrev x4r7 : List XOper := [
  ⟨(some 12), none, .mv (.c (.int .i64 0))⟩,
  ⟨(some 13), none, .mv (.c (.int .i64 0))⟩,
  ⟨(some 14), none, .mv (.c (.int .i64 0))⟩,
  ⟨(some 15), none, .mv (.c (.int .i64 0))⟩]
abbrev x4r8 : List XOper := [
  ⟨(some 41), none, .mv (.t 11)⟩,
  ⟨(some 16), none, .mv (.t 41)⟩]
abbrev x4r9 : List XOper := [
  ⟨(some 42), none, .mv (.t 16)⟩,
  ⟨(some 43), none, .bin .geq (.t 42) (.c (.int .i64 0))⟩]
abbrev x4r11 : List XOper := [
  ⟨(some 46), none, .mv (.t 14)⟩,
  ⟨(some 47), none, .mv (.t 3)⟩,
  ⟨(some 48), none, .mv (.t 16)⟩,
  ⟨(some 49), none, .iaS 1 (.t 47) (.t 48)⟩,
  ⟨(some 50), none, .load false 1 (.t 49)⟩,
  ⟨(some 51), none, .fa 0 (.t 9)⟩,
  ⟨(some 52), none, .load false 1 (.t 51)⟩,
  ⟨(some 53), none, .bin .sub (.t 50) (.t 52)⟩,
  ⟨(some 54), none, .fa 1 (.t 9)⟩,
  ⟨(some 55), none, .load false 1 (.t 54)⟩,
  ⟨(some 56), none, .bin .sub (.t 53) (.t 55)⟩,
  ⟨(some 57), none, .bin .add (.t 46) (.t 56)⟩,
  ⟨(some 14), none, .mv (.t 57)⟩]
abbrev x4r12 : List XOper := [
  ⟨(some 58), none, .mv (.t 15)⟩,
  ⟨(some 59), none, .fa 0 (.t 9)⟩,
  ⟨(some 60), none, .load false 1 (.t 59)⟩,
  ⟨(some 61), none, .fa 1 (.t 9)⟩,
  ⟨(some 62), none, .load false 1 (.t 61)⟩,
  ⟨(some 63), none, .bin .sub (.t 60) (.t 62)⟩,
  ⟨(some 64), none, .mv (.t 3)⟩,
  ⟨(some 65), none, .mv (.t 16)⟩,
  ⟨(some 66), none, .iaS 1 (.t 64) (.t 65)⟩,
  ⟨(some 67), none, .load false 1 (.t 66)⟩,
  ⟨(some 68), none, .bin .sub (.t 63) (.t 67)⟩,
  ⟨(some 69), none, .bin .add (.t 58) (.t 68)⟩,
  ⟨(some 15), none, .mv (.t 69)⟩]
abbrev x4r13 : List XOper := [
  ⟨(some 70), none, .mv (.t 12)⟩,
  ⟨(some 71), none, .mv (.t 14)⟩,
  ⟨(some 72), none, .mnx true (.t 70) [(.t 71)]⟩,
  ⟨(some 73), none, .mv (.t 13)⟩,
  ⟨(some 74), none, .mv (.t 15)⟩,
  ⟨(some 75), none, .mnx true (.t 73) [(.t 74)]⟩,
  ⟨(some 12), none, .mv (.t 72)⟩,
  ⟨(some 13), none, .mv (.t 75)⟩]
abbrev x4r10 : List XOper := [
  ⟨(some 44), none, .mv (.t 16)⟩,
  ⟨(some 45), none, .bin .sub (.t 44) (.c (.int .i64 1))⟩,
  ⟨(some 16), none, .mv (.t 45)⟩]
abbrev x4l9 : XCode :=
  (.seq (.seq (.reg 9 x4r9 none)
  (.cond (.t 43)
    .skip
    (.exit 2)))
  (.seq (.block 3
    (.seq (.reg 11 x4r11 (some ⟨[]⟩))
    (.seq (.reg 12 x4r12 (some ⟨[]⟩))
    (.reg 13 x4r13 none))))
  (.reg 10 x4r10 none)))
abbrev x4r14 : List XOper := [
  ⟨(some 77), none, .load true 6 (.t 9)⟩,
  ⟨(some 78), none, .mv (.t 3)⟩,
  ⟨(some 79), none, .mv (.t 11)⟩,
  ⟨(some 80), none, .bin .add (.t 79) (.c (.int .i64 1))⟩,
  ⟨(some 81), none, .slV 1 (.t 78) none (some (.t 80)) none⟩,
  ⟨(some 82), none, .call (.c (.fn (.func 6) [] [])) [(.t 77), (.t 81)]⟩,
  ⟨(some 76), none, .mv (.t 82)⟩,
  ⟨(some 83), none, .ext (.t 76) 0⟩,
  ⟨(some 84), none, .ext (.t 76) 1⟩,
  ⟨(some 85), none, .ext (.t 76) 2⟩,
  ⟨(some 17), none, .alloc [(.int .i64 0), (.int .i64 0), (.int .i64 0), (.int .i64 0), (.int .i64 0), (.int .i64 0)]⟩,
  ⟨none, none, .store 6 (.t 17) (.t 83)⟩,
  ⟨(some 18), none, .mv (.t 84)⟩,
  ⟨(some 19), none, .mv (.t 85)⟩]
abbrev x4r15 : List XOper := [
  ⟨(some 86), none, .mv (.t 19)⟩,
  ⟨(some 87), none, .bin .neq (.t 86) (.c (.int .i64 0))⟩,
  ⟨(some 88), none, .mv (.t 87)⟩,
  ⟨(some 89), (some (88, false)), .mv (.t 18)⟩,
  ⟨(some 90), (some (88, false)), .lenV (.t 89)⟩,
  ⟨(some 91), (some (88, false)), .mv (.t 11)⟩,
  ⟨(some 92), (some (88, false)), .bin .add (.t 91) (.c (.int .i64 1))⟩,
  ⟨(some 93), (some (88, false)), .bin .neq (.t 90) (.t 92)⟩,
  ⟨(some 94), none, .pick (.t 88) (.c (.bool true)) (.t 93)⟩,
  ⟨(some 95), none, .mv (.t 94)⟩,
  ⟨(some 96), (some (95, false)), .fa 3 (.t 17)⟩,
  ⟨(some 97), (some (95, false)), .load false 1 (.t 96)⟩,
  ⟨(some 98), (some (95, false)), .mv (.t 11)⟩,
  ⟨(some 99), (some (95, false)), .bin .add (.t 98) (.c (.int .i64 1))⟩,
  ⟨(some 100), (some (95, false)), .bin .neq (.t 97) (.t 99)⟩,
  ⟨(some 101), none, .pick (.t 95) (.c (.bool true)) (.t 100)⟩]
abbrev x4r16 : List XOper := [
  ⟨(some 8), none, .mv (.c (.bool false))⟩]
abbrev x4r17 : List XOper := [
  ⟨(some 102), none, .mv (.t 18)⟩,
  ⟨(some 103), none, .mv (.t 11)⟩,
  ⟨(some 104), none, .iaS 1 (.t 102) (.t 103)⟩,
  ⟨(some 105), none, .load false 1 (.t 104)⟩,
  ⟨(some 20), none, .mv (.t 105)⟩]
abbrev x4r18 : List XOper := [
  ⟨(some 106), none, .mv (.t 12)⟩,
  ⟨(some 107), none, .fa 2 (.t 9)⟩,
  ⟨(some 108), none, .load false 1 (.t 107)⟩,
  ⟨(some 109), none, .bin .gtr (.t 106) (.t 108)⟩,
  ⟨(some 110), none, .mv (.t 109)⟩,
  ⟨(some 111), (some (110, false)), .mv (.t 13)⟩,
  ⟨(some 112), (some (110, false)), .fa 2 (.t 9)⟩,
  ⟨(some 113), (some (110, false)), .load false 1 (.t 112)⟩,
  ⟨(some 114), (some (110, false)), .bin .gtr (.t 111) (.t 113)⟩,
  ⟨(some 115), none, .pick (.t 110) (.c (.bool true)) (.t 114)⟩]
abbrev x4r19 : List XOper := [
  ⟨(some 116), none, .mv (.t 20)⟩,
  ⟨(some 117), none, .bin .eql (.t 116) (.c (.int .i64 1))⟩,
  ⟨(some 118), none, .mv (.t 12)⟩,
  ⟨(some 119), none, .fa 2 (.t 9)⟩,
  ⟨(some 120), none, .load false 1 (.t 119)⟩,
  ⟨(some 121), none, .bin .gtr (.t 118) (.t 120)⟩,
  ⟨(some 122), none, .eqB false (.t 117) (.t 121)⟩,
  ⟨(some 123), none, .mv (.t 122)⟩,
  ⟨(some 124), (some (123, true)), .mv (.t 20)⟩,
  ⟨(some 125), (some (123, true)), .bin .eql (.t 124) (.c (.int .i64 (-1)))⟩,
  ⟨(some 126), (some (123, true)), .mv (.t 13)⟩,
  ⟨(some 127), (some (123, true)), .fa 2 (.t 9)⟩,
  ⟨(some 128), (some (123, true)), .load false 1 (.t 127)⟩,
  ⟨(some 129), (some (123, true)), .bin .gtr (.t 126) (.t 128)⟩,
  ⟨(some 130), (some (123, true)), .eqB false (.t 125) (.t 129)⟩,
  ⟨(some 131), none, .pick (.t 123) (.t 130) (.c (.bool false))⟩,
  ⟨(some 132), none, .mv (.t 131)⟩,
  ⟨(some 133), (some (132, true)), .fa 4 (.t 17)⟩,
  ⟨(some 134), (some (132, true)), .load false 1 (.t 133)⟩,
  ⟨(some 135), (some (132, true)), .bin .eql (.t 134) (.c (.int .i64 0))⟩,
  ⟨(some 136), none, .pick (.t 132) (.t 135) (.c (.bool false))⟩,
  ⟨(some 137), none, .mv (.t 136)⟩,
  ⟨(some 138), (some (137, true)), .fa 5 (.t 17)⟩,
  ⟨(some 139), (some (137, true)), .load false 1 (.t 138)⟩,
  ⟨(some 140), (some (137, true)), .bin .eql (.t 139) (.c (.int .i64 0))⟩,
  ⟨(some 141), none, .pick (.t 137) (.t 140) (.c (.bool false))⟩,
  ⟨(some 8), none, .mv (.t 141)⟩]
abbrev x4r20 : List XOper := [
  ⟨(some 142), none, .mv (.t 20)⟩,
  ⟨(some 143), none, .bin .neq (.t 142) (.c (.int .i64 0))⟩,
  ⟨(some 144), none, .mv (.t 143)⟩,
  ⟨(some 145), (some (144, false)), .fa 4 (.t 17)⟩,
  ⟨(some 146), (some (144, false)), .load false 1 (.t 145)⟩,
  ⟨(some 147), (some (144, false)), .mv (.t 12)⟩,
  ⟨(some 148), (some (144, false)), .bin .neq (.t 146) (.t 147)⟩,
  ⟨(some 149), none, .pick (.t 144) (.c (.bool true)) (.t 148)⟩,
  ⟨(some 150), none, .mv (.t 149)⟩,
  ⟨(some 151), (some (150, false)), .fa 5 (.t 17)⟩,
  ⟨(some 152), (some (150, false)), .load false 1 (.t 151)⟩,
  ⟨(some 153), (some (150, false)), .mv (.t 13)⟩,
  ⟨(some 154), (some (150, false)), .bin .neq (.t 152) (.t 153)⟩,
  ⟨(some 155), none, .pick (.t 150) (.c (.bool true)) (.t 154)⟩]
abbrev x4r21 : List XOper := [
  ⟨(some 8), none, .mv (.c (.bool false))⟩]
abbrev x4r22 : List XOper := [
  ⟨(some 156), none, .bin .add (.t 38) (.c (.int .i64 1))⟩,
  ⟨(some 38), none, .mv (.t 156)⟩]
abbrev x4l5 : XCode :=
  (.seq (.reg 5 x4r5 none)
  (.seq (.cond (.t 39)
    .skip
    (.exit 0))
  (.seq (.block 1
    (.seq (.reg 6 x4r6 none)
    (.seq (.reg 7 x4r7 none)
    (.seq (.seq (.reg 8 x4r8 none)
    (.block 2
      (.loop x4l9)))
    (.seq (.reg 14 x4r14 (some ⟨[(0, 10), (5, 10)]⟩))
    (.seq (.seq (.reg 15 x4r15 none)
    (.cond (.t 101)
      (.seq (.reg 16 x4r16 none)
      .ret)
      .skip))
    (.seq (.reg 17 x4r17 none)
    (.seq (.seq (.reg 18 x4r18 none)
    (.cond (.t 115)
      (.seq (.reg 19 x4r19 none)
      .ret)
      .skip))
    (.seq (.reg 20 x4r20 none)
    (.cond (.t 155)
      (.seq (.reg 21 x4r21 none)
      .ret)
      .skip))))))))))
  (.reg 22 x4r22 none))))
abbrev x4r23 : List XOper := [
  ⟨(some 8), none, .mv (.c (.bool true))⟩]
/-- datum/datumlaw18.CusumSums -/
abbrev x4b : XCode :=
  (.seq (.reg 0 x4r0 none)
  (.seq (.reg 1 x4r1 none)
  (.seq (.seq (.reg 2 x4r2 none)
  (.cond (.t 35)
    (.seq (.reg 3 x4r3 none)
    .ret)
    .skip))
  (.seq (.seq (.reg 4 x4r4 none)
  (.block 0
    (.loop x4l5)))
  (.seq (.reg 23 x4r23 none)
  .ret)))))
def x4 : XFunc := ⟨157, 4, [.tmp 8], x4b⟩
theorem x4_ok : chkF Try.prog Try.f4 x4 = true := by kernel_rfl
theorem x4_eq : x4.body = x4b ∧ x4.res = [.tmp 8] ∧ x4.np = 4 := ⟨rfl, rfl, rfl⟩

abbrev x5r0 : List XOper := [
  ⟨(some 10), none, .mv (.c (.bool false))⟩]
abbrev x5r1 : List XOper := [
  ⟨(some 33), none, .mv (.t 0)⟩,
  ⟨(some 34), none, .mv (.t 1)⟩,
  ⟨(some 35), none, .mv (.t 2)⟩,
  ⟨(some 36), none, .mv (.t 3)⟩,
  ⟨(some 37), none, .call (.c (.fn (.func 12) [] [])) [(.t 33), (.t 34), (.t 35), (.t 36)]⟩,
  ⟨(some 32), none, .mv (.t 37)⟩,
  ⟨(some 38), none, .ext (.t 32) 0⟩,
  ⟨(some 39), none, .ext (.t 32) 1⟩,
  ⟨(some 40), none, .ext (.t 32) 2⟩,
  ⟨(some 11), none, .alloc [(.int .i64 0), (.int .i64 0), (.int .i64 0), (.int .i64 0), (.int .i64 0), (.int .i64 0)]⟩,
  ⟨none, none, .store 6 (.t 11) (.t 38)⟩,
  ⟨(some 3), none, .mv (.t 39)⟩,
  ⟨(some 12), none, .mv (.t 40)⟩]
abbrev x5r2 : List XOper := [
  ⟨(some 42), none, .mv (.t 0)⟩,
  ⟨(some 43), none, .bin .rem (.t 42) (.c (.int .i64 1000001))⟩,
  ⟨(some 44), none, .un .neg (.t 43)⟩,
  ⟨(some 45), none, .mv (.t 1)⟩,
  ⟨(some 46), none, .mv (.t 2)⟩,
  ⟨(some 47), none, .call (.c (.fn (.func 12) [] [])) [(.t 44), (.t 45), (.t 46), (.c .nils)]⟩,
  ⟨(some 41), none, .mv (.t 47)⟩,
  ⟨(some 48), none, .ext (.t 41) 0⟩,
  ⟨(some 49), none, .ext (.t 41) 1⟩,
  ⟨(some 50), none, .ext (.t 41) 2⟩,
  ⟨(some 13), none, .alloc [(.int .i64 0), (.int .i64 0), (.int .i64 0), (.int .i64 0), (.int .i64 0), (.int .i64 0)]⟩,
  ⟨none, none, .store 6 (.t 13) (.t 48)⟩,
  ⟨(some 14), none, .mv (.t 49)⟩,
  ⟨(some 15), none, .mv (.t 50)⟩]
abbrev x5r3 : List XOper := [
  ⟨(some 51), none, .mv (.t 12)⟩,
  ⟨(some 52), none, .un .not (.t 51)⟩,
  ⟨(some 53), none, .mv (.t 52)⟩,
  ⟨(some 54), (some (53, false)), .mv (.t 15)⟩,
  ⟨(some 55), (some (53, false)), .un .not (.t 54)⟩,
  ⟨(some 56), none, .pick (.t 53) (.c (.bool true)) (.t 55)⟩,
  ⟨(some 57), none, .mv (.t 56)⟩,
  ⟨(some 58), (some (57, false)), .fa 0 (.t 13)⟩,
  ⟨(some 59), (some (57, false)), .load false 1 (.t 58)⟩,
  ⟨(some 60), (some (57, false)), .fa 0 (.t 11)⟩,
  ⟨(some 61), (some (57, false)), .load false 1 (.t 60)⟩,
  ⟨(some 62), (some (57, false)), .un .neg (.t 61)⟩,
  ⟨(some 63), (some (57, false)), .bin .neq (.t 59) (.t 62)⟩,
  ⟨(some 64), none, .pick (.t 57) (.c (.bool true)) (.t 63)⟩,
  ⟨(some 65), none, .mv (.t 64)⟩,
  ⟨(some 66), (some (65, false)), .call (.c (.fn (.func 8) [] [])) []⟩,
  ⟨(some 67), (some (65, false)), .un .not (.t 66)⟩,
  ⟨(some 68), none, .pick (.t 65) (.c (.bool true)) (.t 67)⟩]
abbrev x5r4 : List XOper := [
  ⟨(some 10), none, .mv (.c (.bool false))⟩]
abbrev x5r5 : List XOper := [
  ⟨(some 16), none, .mv (.c .nils)⟩]
abbrev x5r6 : List XOper := [
  ⟨(some 69), none, .mv (.t 3)⟩,
  ⟨(some 70), none, .lenV (.t 69)⟩,
  ⟨(some 71), none, .mv (.c (.int .i64 0))⟩]
abbrev x5r7 : List XOper := [
  ⟨(some 72), none, .bin .lss (.t 71) (.t 70)⟩]
abbrev x5r8 : List XOper := [
  ⟨(some 73), none, .iaS 1 (.t 69) (.t 71)⟩,
  ⟨(some 74), none, .load false 1 (.t 73)⟩,
  ⟨(some 18), none, .mv (.t 74)⟩]
abbrev x5r9 : List XOper := [
  ⟨(some 75), none, .mv (.t 16)⟩,
  ⟨(some 76), none, .mv (.t 18)⟩,
  ⟨(some 77), none, .un .neg (.t 76)⟩,
  ⟨(some 78), none, .mkslice 1 (.int .i64 0) 1 [(0, (.t 77))]⟩,
  ⟨(some 79), none, .app 1 8 (.t 75) (.t 78)⟩,
  ⟨(some 16), none, .mv (.t 79)⟩]
abbrev x5r10 : List XOper := [
  ⟨(some 80), none, .bin .add (.t 71) (.c (.int .i64 1))⟩,
  ⟨(some 71), none, .mv (.t 80)⟩]
abbrev x5l7 : XCode :=
  (.seq (.reg 7 x5r7 none)
  (.seq (.cond (.t 72)
    .skip
    (.exit 0))
  (.seq (.block 1
    (.seq (.reg 8 x5r8 none)
    (.reg 9 x5r9 none)))
  (.reg 10 x5r10 none))))
abbrev x5r11 : List XOper := [
  ⟨(some 82), none, .load true 6 (.t 11)⟩,
  ⟨(some 83), none, .mv (.t 3)⟩,
  ⟨(some 84), none, .call (.c (.fn (.func 6) [] [])) [(.t 82), (.t 83)]⟩,
  ⟨(some 81), none, .mv (.t 84)⟩,
  ⟨(some 85), none, .ext (.t 81) 0⟩,
  ⟨(some 86), none, .ext (.t 81) 1⟩,
  ⟨(some 87), none, .ext (.t 81) 2⟩,
  ⟨(some 19), none, .alloc [(.int .i64 0), (.int .i64 0), (.int .i64 0), (.int .i64 0), (.int .i64 0), (.int .i64 0)]⟩,
  ⟨none, none, .store 6 (.t 19) (.t 85)⟩,
  ⟨(some 20), none, .mv (.t 86)⟩,
  ⟨(some 21), none, .mv (.t 87)⟩]
abbrev x5r12 : List XOper := [
  ⟨(some 89), none, .load true 6 (.t 13)⟩,
  ⟨(some 90), none, .mv (.t 16)⟩,
  ⟨(some 91), none, .call (.c (.fn (.func 6) [] [])) [(.t 89), (.t 90)]⟩,
  ⟨(some 88), none, .mv (.t 91)⟩,
  ⟨(some 92), none, .ext (.t 88) 0⟩,
  ⟨(some 93), none, .ext (.t 88) 1⟩,
  ⟨(some 94), none, .ext (.t 88) 2⟩,
  ⟨(some 22), none, .alloc [(.int .i64 0), (.int .i64 0), (.int .i64 0), (.int .i64 0), (.int .i64 0), (.int .i64 0)]⟩,
  ⟨none, none, .store 6 (.t 22) (.t 92)⟩,
  ⟨(some 23), none, .mv (.t 93)⟩,
  ⟨(some 24), none, .mv (.t 94)⟩]
abbrev x5r13 : List XOper := [
  ⟨(some 95), none, .mv (.t 21)⟩,
  ⟨(some 96), none, .bin .neq (.t 95) (.c (.int .i64 0))⟩,
  ⟨(some 97), none, .mv (.t 96)⟩,
  ⟨(some 98), (some (97, false)), .mv (.t 24)⟩,
  ⟨(some 99), (some (97, false)), .bin .neq (.t 98) (.c (.int .i64 0))⟩,
  ⟨(some 100), none, .pick (.t 97) (.c (.bool true)) (.t 99)⟩,
  ⟨(some 101), none, .mv (.t 100)⟩,
  ⟨(some 102), (some (101, false)), .fa 4 (.t 19)⟩,
  ⟨(some 103), (some (101, false)), .load false 1 (.t 102)⟩,
  ⟨(some 104), (some (101, false)), .fa 5 (.t 22)⟩,
  ⟨(some 105), (some (101, false)), .load false 1 (.t 104)⟩,
  ⟨(some 106), (some (101, false)), .bin .neq (.t 103) (.t 105)⟩,
  ⟨(some 107), none, .pick (.t 101) (.c (.bool true)) (.t 106)⟩,
  ⟨(some 108), none, .mv (.t 107)⟩,
  ⟨(some 109), (some (108, false)), .fa 5 (.t 19)⟩,
  ⟨(some 110), (some (108, false)), .load false 1 (.t 109)⟩,
  ⟨(some 111), (some (108, false)), .fa 4 (.t 22)⟩,
  ⟨(some 112), (some (108, false)), .load false 1 (.t 111)⟩,
  ⟨(some 113), (some (108, false)), .bin .neq (.t 110) (.t 112)⟩,
  ⟨(some 114), none, .pick (.t 108) (.c (.bool true)) (.t 113)⟩,
  ⟨(some 115), none, .mv (.t 114)⟩,
  ⟨(some 116), (some (115, false)), .mv (.t 20)⟩,
  ⟨(some 117), (some (115, false)), .lenV (.t 116)⟩,
  ⟨(some 118), (some (115, false)), .mv (.t 3)⟩,
  ⟨(some 119), (some (115, false)), .lenV (.t 118)⟩,
  ⟨(some 120), (some (115, false)), .bin .neq (.t 117) (.t 119)⟩,
  ⟨(some 121), none, .pick (.t 115) (.c (.bool true)) (.t 120)⟩,
  ⟨(some 122), none, .mv (.t 121)⟩,
  ⟨(some 123), (some (122, false)), .mv (.t 23)⟩,
  ⟨(some 124), (some (122, false)), .lenV (.t 123)⟩,
  ⟨(some 125), (some (122, false)), .mv (.t 3)⟩,
  ⟨(some 126), (some (122, false)), .lenV (.t 125)⟩,
  ⟨(some 127), (some (122, false)), .bin .neq (.t 124) (.t 126)⟩,
  ⟨(some 128), none, .pick (.t 122) (.c (.bool true)) (.t 127)⟩]
abbrev x5r14 : List XOper := [
  ⟨(some 10), none, .mv (.c (.bool false))⟩]
abbrev x5r15 : List XOper := [
  ⟨(some 129), none, .mv (.t 20)⟩,
  ⟨(some 130), none, .lenV (.t 129)⟩,
  ⟨(some 131), none, .mv (.c (.int .i64 0))⟩]
abbrev x5r16 : List XOper := [
  ⟨(some 132), none, .bin .lss (.t 131) (.t 130)⟩]
abbrev x5r17 : List XOper := [
  ⟨(some 133), none, .mv (.t 131)⟩,
  ⟨(some 25), none, .mv (.t 133)⟩]
abbrev x5r18 : List XOper := [
  ⟨(some 134), none, .mv (.t 20)⟩,
  ⟨(some 135), none, .mv (.t 25)⟩,
  ⟨(some 136), none, .iaS 1 (.t 134) (.t 135)⟩,
  ⟨(some 137), none, .load false 1 (.t 136)⟩,
  ⟨(some 138), none, .mv (.t 23)⟩,
  ⟨(some 139), none, .mv (.t 25)⟩,
  ⟨(some 140), none, .iaS 1 (.t 138) (.t 139)⟩,
  ⟨(some 141), none, .load false 1 (.t 140)⟩,
  ⟨(some 142), none, .un .neg (.t 141)⟩,
  ⟨(some 143), none, .bin .neq (.t 137) (.t 142)⟩,
  ⟨(some 144), none, .mv (.t 143)⟩,
  ⟨(some 145), (some (144, false)), .mv (.t 20)⟩,
  ⟨(some 146), (some (144, false)), .mv (.t 25)⟩,
  ⟨(some 147), (some (144, false)), .iaS 1 (.t 145) (.t 146)⟩,
  ⟨(some 148), (some (144, false)), .load false 1 (.t 147)⟩,
  ⟨(some 149), (some (144, false)), .bin .lss (.t 148) (.c (.int .i64 (-1)))⟩,
  ⟨(some 150), none, .pick (.t 144) (.c (.bool true)) (.t 149)⟩,
  ⟨(some 151), none, .mv (.t 150)⟩,
  ⟨(some 152), (some (151, false)), .mv (.t 20)⟩,
  ⟨(some 153), (some (151, false)), .mv (.t 25)⟩,
  ⟨(some 154), (some (151, false)), .iaS 1 (.t 152) (.t 153)⟩,
  ⟨(some 155), (some (151, false)), .load false 1 (.t 154)⟩,
  ⟨(some 156), (some (151, false)), .bin .gtr (.t 155) (.c (.int .i64 1))⟩,
  ⟨(some 157), none, .pick (.t 151) (.c (.bool true)) (.t 156)⟩]
abbrev x5r19 : List XOper := [
  ⟨(some 10), none, .mv (.c (.bool false))⟩]
abbrev x5r20 : List XOper := [
  ⟨(some 158), none, .bin .add (.t 131) (.c (.int .i64 1))⟩,
  ⟨(some 131), none, .mv (.t 158)⟩]
abbrev x5l17 : XCode :=
  (.seq (.reg 16 x5r16 none)
  (.seq (.cond (.t 132)
    .skip
    (.exit 2))
  (.seq (.block 3
    (.seq (.reg 17 x5r17 none)
    (.seq (.reg 18 x5r18 (some ⟨[]⟩))
    (.cond (.t 157)
      (.seq (.reg 19 x5r19 none)
      .ret)
      .skip))))
  (.reg 20 x5r20 none))))
abbrev x5r21 : List XOper := [
  ⟨(some 159), none, .mv (.t 4)⟩,
  ⟨(some 160), none, .mv (.t 3)⟩,
  ⟨(some 161), none, .lenV (.t 160)⟩,
  ⟨(some 162), none, .bin .add (.t 161) (.c (.int .i64 1))⟩,
  ⟨(some 163), none, .bin .rem (.t 159) (.t 162)⟩,
  ⟨(some 164), none, .mv (.t 3)⟩,
  ⟨(some 165), none, .lenV (.t 164)⟩,
  ⟨(some 166), none, .bin .add (.t 163) (.t 165)⟩,
  ⟨(some 167), none, .bin .add (.t 166) (.c (.int .i64 1))⟩,
  ⟨(some 168), none, .mv (.t 3)⟩,
  ⟨(some 169), none, .lenV (.t 168)⟩,
  ⟨(some 170), none, .bin .add (.t 169) (.c (.int .i64 1))⟩,
  ⟨(some 171), none, .bin .rem (.t 167) (.t 170)⟩,
  ⟨(some 4), none, .mv (.t 171)⟩]
abbrev x5r22 : List XOper := [
  ⟨(some 173), none, .load true 6 (.t 11)⟩,
  ⟨(some 174), none, .mv (.t 3)⟩,
  ⟨(some 175), none, .mv (.t 4)⟩,
  ⟨(some 176), none, .slV 1 (.t 174) none (some (.t 175)) none⟩,
  ⟨(some 177), none, .call (.c (.fn (.func 6) [] [])) [(.t 173), (.t 176)]⟩,
  ⟨(some 172), none, .mv (.t 177)⟩,
  ⟨(some 178), none, .ext (.t 172) 0⟩,
  ⟨(some 179), none, .ext (.t 172) 1⟩,
  ⟨(some 180), none, .ext (.t 172) 2⟩,
  ⟨(some 26), none, .alloc [(.int .i64 0), (.int .i64 0), (.int .i64 0), (.int .i64 0), (.int .i64 0), (.int .i64 0)]⟩,
  ⟨none, none, .store 6 (.t 26) (.t 178)⟩,
  ⟨(some 27), none, .mv (.t 179)⟩,
  ⟨(some 28), none, .mv (.t 180)⟩]
abbrev x5r23 : List XOper := [
  ⟨(some 182), none, .load true 6 (.t 26)⟩,
  ⟨(some 183), none, .mv (.t 3)⟩,
  ⟨(some 184), none, .mv (.t 4)⟩,
  ⟨(some 185), none, .slV 1 (.t 183) (some (.t 184)) none none⟩,
  ⟨(some 186), none, .call (.c (.fn (.func 6) [] [])) [(.t 182), (.t 185)]⟩,
  ⟨(some 181), none, .mv (.t 186)⟩,
  ⟨(some 187), none, .ext (.t 181) 0⟩,
  ⟨(some 188), none, .ext (.t 181) 1⟩,
  ⟨(some 189), none, .ext (.t 181) 2⟩,
  ⟨(some 29), none, .alloc [(.int .i64 0), (.int .i64 0), (.int .i64 0), (.int .i64 0), (.int .i64 0), (.int .i64 0)]⟩,
  ⟨none, none, .store 6 (.t 29) (.t 187)⟩,
  ⟨(some 30), none, .mv (.t 188)⟩,
  ⟨(some 31), none, .mv (.t 189)⟩]
abbrev x5r24 : List XOper := [
  ⟨(some 190), none, .mv (.t 28)⟩,
  ⟨(some 191), none, .bin .eql (.t 190) (.c (.int .i64 0))⟩,
  ⟨(some 192), none, .mv (.t 191)⟩,
  ⟨(some 193), (some (192, true)), .mv (.t 31)⟩,
  ⟨(some 194), (some (192, true)), .bin .eql (.t 193) (.c (.int .i64 0))⟩,
  ⟨(some 195), none, .pick (.t 192) (.t 194) (.c (.bool false))⟩,
  ⟨(some 196), none, .mv (.t 195)⟩,
  ⟨(some 197), (some (196, true)), .load true 6 (.t 29)⟩,
  ⟨(some 198), (some (196, true)), .load true 6 (.t 19)⟩,
  ⟨(some 199), (some (196, true)), .eqA false [0, 0, 0, 0, 0, 0] (.t 197) (.t 198)⟩,
  ⟨(some 200), none, .pick (.t 196) (.t 199) (.c (.bool false))⟩,
  ⟨(some 201), none, .mv (.t 200)⟩,
  ⟨(some 202), (some (201, true)), .mkslice 1 (.int .i64 0) 0 []⟩,
  ⟨(some 203), (some (201, true)), .mv (.t 27)⟩,
  ⟨(some 204), (some (201, true)), .app 1 8 (.t 202) (.t 203)⟩,
  ⟨(some 205), (some (201, true)), .mv (.t 30)⟩,
  ⟨(some 206), (some (201, true)), .app 1 8 (.t 204) (.t 205)⟩,
  ⟨(some 207), (some (201, true)), .mv (.t 20)⟩,
  ⟨(some 208), (some (201, true)), .call (.c (.fn (.func 11) [] [])) [(.t 206), (.t 207)]⟩,
  ⟨(some 209), none, .pick (.t 201) (.t 208) (.c (.bool false))⟩,
  ⟨(some 10), none, .mv (.t 209)⟩]
/-- datum/datumlaw18.CusumTurns -/
abbrev x5b : XCode :=
  (.seq (.reg 0 x5r0 none)
  (.seq (.reg 1 x5r1 none)
  (.seq (.reg 2 x5r2 none)
  (.seq (.seq (.reg 3 x5r3 none)
  (.cond (.t 68)
    (.seq (.reg 4 x5r4 none)
    .ret)
    .skip))
  (.seq (.reg 5 x5r5 none)
  (.seq (.seq (.reg 6 x5r6 none)
  (.block 0
    (.loop x5l7)))
  (.seq (.reg 11 x5r11 none)
  (.seq (.reg 12 x5r12 none)
  (.seq (.seq (.reg 13 x5r13 none)
  (.cond (.t 128)
    (.seq (.reg 14 x5r14 none)
    .ret)
    .skip))
  (.seq (.seq (.reg 15 x5r15 none)
  (.block 2
    (.loop x5l17)))
  (.seq (.reg 21 x5r21 none)
  (.seq (.reg 22 x5r22 (some ⟨[(0, 9), (4, 9)]⟩))
  (.seq (.reg 23 x5r23 (some ⟨[(0, 9), (4, 9)]⟩))
  (.seq (.reg 24 x5r24 none)
  .ret))))))))))))))
def x5 : XFunc := ⟨210, 5, [.tmp 10], x5b⟩
theorem x5_ok : chkF Try.prog Try.f5 x5 = true := by kernel_rfl
theorem x5_eq : x5.body = x5b ∧ x5.res = [.tmp 10] ∧ x5.np = 5 := ⟨rfl, rfl, rfl⟩

abbrev x6r0 : List XOper := [
  ⟨(some 2), none, .box (.t 0)⟩,
  ⟨(some 4), none, .alloc [(.int .i64 0), (.int .i64 0), (.int .i64 0), (.int .i64 0), (.int .i64 0), (.int .i64 0)]⟩,
  ⟨(some 5), none, .mv (.c .nils)⟩,
  ⟨(some 6), none, .mv (.c (.int .i64 0))⟩]
abbrev x6r1 : List XOper := [
  ⟨(some 11), none, .load true 6 (.t 2)⟩,
  ⟨(some 12), none, .call (.c (.fn (.func 13) [] [])) [(.t 11)]⟩,
  ⟨(some 13), none, .un .not (.t 12)⟩,
  ⟨(some 10), none, .mv (.t 13)⟩]
abbrev x6r2 : List XOper := [
  ⟨(some 14), none, .build [(.int .i64 0), (.int .i64 0), (.int .i64 0), (.int .i64 0), (.int .i64 0), (.int .i64 0)] []⟩,
  ⟨none, none, .store 6 (.t 4) (.t 14)⟩,
  ⟨(some 5), none, .mv (.c .nils)⟩,
  ⟨(some 6), none, .mv (.c (.int .i64 1))⟩]
abbrev x6r3 : List XOper := [
  ⟨(some 16), none, .mv (.t 1)⟩,
  ⟨(some 17), none, .call (.c (.fn (.func 14) [] [])) [(.t 16), (.c (.fn (.func 15) [] []))]⟩,
  ⟨(some 15), none, .mv (.t 17)⟩]
abbrev x6r4 : List XOper := [
  ⟨(some 18), none, .build [(.int .i64 0), (.int .i64 0), (.int .i64 0), (.int .i64 0), (.int .i64 0), (.int .i64 0)] []⟩,
  ⟨none, none, .store 6 (.t 4) (.t 18)⟩,
  ⟨(some 5), none, .mv (.c .nils)⟩,
  ⟨(some 6), none, .mv (.c (.int .i64 3))⟩]
abbrev x6r5 : List XOper := [
  ⟨(some 20), none, .mv (.t 1)⟩,
  ⟨(some 21), none, .lenV (.t 20)⟩,
  ⟨(some 22), none, .fa 3 (.t 2)⟩,
  ⟨(some 23), none, .load false 1 (.t 22)⟩,
  ⟨(some 24), none, .bin .sub (.c (.int .i64 1000000000)) (.t 23)⟩,
  ⟨(some 25), none, .bin .gtr (.t 21) (.t 24)⟩,
  ⟨(some 19), none, .mv (.t 25)⟩]
abbrev x6r6 : List XOper := [
  ⟨(some 26), none, .build [(.int .i64 0), (.int .i64 0), (.int .i64 0), (.int .i64 0), (.int .i64 0), (.int .i64 0)] []⟩,
  ⟨none, none, .store 6 (.t 4) (.t 26)⟩,
  ⟨(some 5), none, .mv (.c .nils)⟩,
  ⟨(some 6), none, .mv (.c (.int .i64 11))⟩]
abbrev x6r7 : List XOper := [
  ⟨(some 7), none, .mv (.c .nils)⟩]
abbrev x6r8 : List XOper := [
  ⟨(some 27), none, .mv (.t 1)⟩,
  ⟨(some 28), none, .lenV (.t 27)⟩,
  ⟨(some 29), none, .mv (.c (.int .i64 0))⟩]
abbrev x6r9 : List XOper := [
  ⟨(some 30), none, .bin .lss (.t 29) (.t 28)⟩]
abbrev x6r10 : List XOper := [
  ⟨(some 31), none, .iaS 1 (.t 27) (.t 29)⟩,
  ⟨(some 32), none, .load false 1 (.t 31)⟩,
  ⟨(some 9), none, .mv (.t 32)⟩]
abbrev x6r11 : List XOper := [
  ⟨(some 33), none, .mv (.t 7)⟩,
  ⟨(some 34), none, .mv (.t 9)⟩,
  ⟨(some 35), none, .call (.c (.fn (.func 17) [] [])) [(.t 2), (.t 34)]⟩,
  ⟨(some 36), none, .mkslice 1 (.int .i64 0) 1 [(0, (.t 35))]⟩,
  ⟨(some 37), none, .app 1 8 (.t 33) (.t 36)⟩,
  ⟨(some 7), none, .mv (.t 37)⟩]
abbrev x6r12 : List XOper := [
  ⟨(some 38), none, .bin .add (.t 29) (.c (.int .i64 1))⟩,
  ⟨(some 29), none, .mv (.t 38)⟩]
abbrev x6l9 : XCode :=
  (.seq (.reg 9 x6r9 none)
  (.seq (.cond (.t 30)
    .skip
    (.exit 1))
  (.seq (.block 2
    (.seq (.reg 10 x6r10 none)
    (.reg 11 x6r11 none)))
  (.reg 12 x6r12 none))))
abbrev x6r13 : List XOper := [
  ⟨(some 39), none, .load true 6 (.t 2)⟩,
  ⟨(some 40), none, .mv (.t 7)⟩,
  ⟨none, none, .store 6 (.t 4) (.t 39)⟩,
  ⟨(some 5), none, .mv (.t 40)⟩,
  ⟨(some 6), none, .mv (.c (.int .i64 0))⟩]
/-- datum/cusum.Run -/
abbrev x6b : XCode :=
  (.seq (.reg 0 x6r0 none)
  (.seq (.block 0
    (.seq (.reg 1 x6r1 none)
    (.cond (.t 10)
      (.seq (.reg 2 x6r2 none)
      .ret)
      (.seq (.reg 3 x6r3 none)
      (.cond (.t 15)
        (.seq (.reg 4 x6r4 none)
        .ret)
        (.seq (.reg 5 x6r5 none)
        (.cond (.t 19)
          (.seq (.reg 6 x6r6 none)
          .ret)
          .skip)))))))
  (.seq (.reg 7 x6r7 none)
  (.seq (.seq (.reg 8 x6r8 none)
  (.block 1
    (.loop x6l9)))
  (.seq (.reg 13 x6r13 none)
  .ret)))))
def x6 : XFunc := ⟨41, 2, [.cell 4 true 6, .tmp 5, .tmp 6], x6b⟩
theorem x6_ok : chkF Try.prog Try.f6 x6 = true := by kernel_rfl
theorem x6_eq : x6.body = x6b ∧ x6.res = [.cell 4 true 6, .tmp 5, .tmp 6] ∧ x6.np = 2 := ⟨rfl, rfl, rfl⟩

abbrev x7r0 : List XOper := [
  ⟨(some 1), none, .box (.t 0)⟩,
  ⟨(some 2), none, .mv (.c (.bool false))⟩]
abbrev x7r1 : List XOper := [
  ⟨(some 3), none, .fa 0 (.t 1)⟩,
  ⟨(some 4), none, .load false 1 (.t 3)⟩,
  ⟨(some 5), none, .bin .lss (.t 4) (.c (.int .i64 (-1000000)))⟩,
  ⟨(some 6), none, .mv (.t 5)⟩,
  ⟨(some 7), (some (6, false)), .fa 0 (.t 1)⟩,
  ⟨(some 8), (some (6, false)), .load false 1 (.t 7)⟩,
  ⟨(some 9), (some (6, false)), .bin .gtr (.t 8) (.c (.int .i64 1000000))⟩,
  ⟨(some 10), none, .pick (.t 6) (.c (.bool true)) (.t 9)⟩,
  ⟨(some 11), none, .mv (.t 10)⟩,
  ⟨(some 12), (some (11, false)), .fa 1 (.t 1)⟩,
  ⟨(some 13), (some (11, false)), .load false 1 (.t 12)⟩,
  ⟨(some 14), (some (11, false)), .bin .lss (.t 13) (.c (.int .i64 0))⟩,
  ⟨(some 15), none, .pick (.t 11) (.c (.bool true)) (.t 14)⟩,
  ⟨(some 16), none, .mv (.t 15)⟩,
  ⟨(some 17), (some (16, false)), .fa 1 (.t 1)⟩,
  ⟨(some 18), (some (16, false)), .load false 1 (.t 17)⟩,
  ⟨(some 19), (some (16, false)), .bin .gtr (.t 18) (.c (.int .i64 1000000))⟩,
  ⟨(some 20), none, .pick (.t 16) (.c (.bool true)) (.t 19)⟩,
  ⟨(some 21), none, .mv (.t 20)⟩,
  ⟨(some 22), (some (21, false)), .fa 2 (.t 1)⟩,
  ⟨(some 23), (some (21, false)), .load false 1 (.t 22)⟩,
  ⟨(some 24), (some (21, false)), .bin .lss (.t 23) (.c (.int .i64 1))⟩,
  ⟨(some 25), none, .pick (.t 21) (.c (.bool true)) (.t 24)⟩,
  ⟨(some 26), none, .mv (.t 25)⟩,
  ⟨(some 27), (some (26, false)), .fa 2 (.t 1)⟩,
  ⟨(some 28), (some (26, false)), .load false 1 (.t 27)⟩,
  ⟨(some 29), (some (26, false)), .bin .gtr (.t 28) (.c (.int .i64 1000000000))⟩,
  ⟨(some 30), none, .pick (.t 26) (.c (.bool true)) (.t 29)⟩]
abbrev x7r2 : List XOper := [
  ⟨(some 2), none, .mv (.c (.bool false))⟩]
abbrev x7r3 : List XOper := [
  ⟨(some 31), none, .fa 3 (.t 1)⟩,
  ⟨(some 32), none, .load false 1 (.t 31)⟩,
  ⟨(some 33), none, .bin .lss (.t 32) (.c (.int .i64 0))⟩,
  ⟨(some 34), none, .mv (.t 33)⟩,
  ⟨(some 35), (some (34, false)), .fa 3 (.t 1)⟩,
  ⟨(some 36), (some (34, false)), .load false 1 (.t 35)⟩,
  ⟨(some 37), (some (34, false)), .bin .gtr (.t 36) (.c (.int .i64 1000000000))⟩,
  ⟨(some 38), none, .pick (.t 34) (.c (.bool true)) (.t 37)⟩,
  ⟨(some 39), none, .mv (.t 38)⟩,
  ⟨(some 40), (some (39, false)), .fa 4 (.t 1)⟩,
  ⟨(some 41), (some (39, false)), .load false 1 (.t 40)⟩,
  ⟨(some 42), (some (39, false)), .bin .lss (.t 41) (.c (.int .i64 0))⟩,
  ⟨(some 43), none, .pick (.t 39) (.c (.bool true)) (.t 42)⟩,
  ⟨(some 44), none, .mv (.t 43)⟩,
  ⟨(some 45), (some (44, false)), .fa 4 (.t 1)⟩,
  ⟨(some 46), (some (44, false)), .load false 1 (.t 45)⟩,
  ⟨(some 47), (some (44, false)), .fa 2 (.t 1)⟩,
  ⟨(some 48), (some (44, false)), .load false 1 (.t 47)⟩,
  ⟨(some 49), (some (44, false)), .bin .gtr (.t 46) (.t 48)⟩,
  ⟨(some 50), none, .pick (.t 44) (.c (.bool true)) (.t 49)⟩,
  ⟨(some 51), none, .mv (.t 50)⟩,
  ⟨(some 52), (some (51, false)), .fa 5 (.t 1)⟩,
  ⟨(some 53), (some (51, false)), .load false 1 (.t 52)⟩,
  ⟨(some 54), (some (51, false)), .bin .lss (.t 53) (.c (.int .i64 0))⟩,
  ⟨(some 55), none, .pick (.t 51) (.c (.bool true)) (.t 54)⟩,
  ⟨(some 56), none, .mv (.t 55)⟩,
  ⟨(some 57), (some (56, false)), .fa 5 (.t 1)⟩,
  ⟨(some 58), (some (56, false)), .load false 1 (.t 57)⟩,
  ⟨(some 59), (some (56, false)), .fa 2 (.t 1)⟩,
  ⟨(some 60), (some (56, false)), .load false 1 (.t 59)⟩,
  ⟨(some 61), (some (56, false)), .bin .gtr (.t 58) (.t 60)⟩,
  ⟨(some 62), none, .pick (.t 56) (.c (.bool true)) (.t 61)⟩]
abbrev x7r4 : List XOper := [
  ⟨(some 2), none, .mv (.c (.bool false))⟩]
abbrev x7r5 : List XOper := [
  ⟨(some 63), none, .fa 3 (.t 1)⟩,
  ⟨(some 64), none, .load false 1 (.t 63)⟩,
  ⟨(some 65), none, .bin .gtr (.t 64) (.c (.int .i64 0))⟩,
  ⟨(some 66), none, .mv (.t 65)⟩,
  ⟨(some 67), (some (66, false)), .fa 4 (.t 1)⟩,
  ⟨(some 68), (some (66, false)), .load false 1 (.t 67)⟩,
  ⟨(some 69), (some (66, false)), .bin .eql (.t 68) (.c (.int .i64 0))⟩,
  ⟨(some 70), (some (66, false)), .mv (.t 69)⟩,
  ⟨(some 71), (some (70, true)), .fa 5 (.t 1)⟩,
  ⟨(some 72), (some (70, true)), .load false 1 (.t 71)⟩,
  ⟨(some 73), (some (70, true)), .bin .eql (.t 72) (.c (.int .i64 0))⟩,
  ⟨(some 74), (some (66, false)), .pick (.t 70) (.t 73) (.c (.bool false))⟩,
  ⟨(some 75), none, .pick (.t 66) (.c (.bool true)) (.t 74)⟩,
  ⟨(some 2), none, .mv (.t 75)⟩]
/-- datum/datumref18.Right -/
abbrev x7b : XCode :=
  (.seq (.reg 0 x7r0 none)
  (.seq (.seq (.reg 1 x7r1 none)
  (.cond (.t 30)
    (.seq (.reg 2 x7r2 none)
    .ret)
    .skip))
  (.seq (.seq (.reg 3 x7r3 none)
  (.cond (.t 62)
    (.seq (.reg 4 x7r4 none)
    .ret)
    .skip))
  (.seq (.reg 5 x7r5 none)
  .ret))))
def x7 : XFunc := ⟨76, 1, [.tmp 2], x7b⟩
theorem x7_ok : chkF Try.prog Try.f7 x7 = true := by kernel_rfl
theorem x7_eq : x7.body = x7b ∧ x7.res = [.tmp 2] ∧ x7.np = 1 := ⟨rfl, rfl, rfl⟩

abbrev x8r0 : List XOper := [
  ⟨(some 0), none, .mv (.c (.bool false))⟩]
abbrev x8r1 : List XOper := [
  ⟨(some 7), none, .call (.c (.fn (.func 18) [] [])) [(.c (.int .i64 10)), (.c (.int .i64 1)), (.c (.int .i64 4))]⟩,
  ⟨(some 6), none, .mv (.t 7)⟩,
  ⟨(some 8), none, .ext (.t 6) 0⟩,
  ⟨(some 9), none, .ext (.t 6) 1⟩,
  ⟨(some 1), none, .alloc [(.int .i64 0), (.int .i64 0), (.int .i64 0), (.int .i64 0), (.int .i64 0), (.int .i64 0)]⟩,
  ⟨none, none, .store 6 (.t 1) (.t 8)⟩,
  ⟨(some 2), none, .mv (.t 9)⟩]
abbrev x8r2 : List XOper := [
  ⟨(some 11), none, .load true 6 (.t 1)⟩,
  ⟨(some 12), none, .mkslice 1 (.int .i64 0) 3 [(0, (.c (.int .i64 13))), (1, (.c (.int .i64 14))), (2, (.c (.int .i64 10)))]⟩,
  ⟨(some 13), none, .call (.c (.fn (.func 6) [] [])) [(.t 11), (.t 12)]⟩,
  ⟨(some 10), none, .mv (.t 13)⟩,
  ⟨(some 14), none, .ext (.t 10) 0⟩,
  ⟨(some 15), none, .ext (.t 10) 1⟩,
  ⟨(some 16), none, .ext (.t 10) 2⟩,
  ⟨(some 3), none, .alloc [(.int .i64 0), (.int .i64 0), (.int .i64 0), (.int .i64 0), (.int .i64 0), (.int .i64 0)]⟩,
  ⟨none, none, .store 6 (.t 3) (.t 14)⟩,
  ⟨(some 4), none, .mv (.t 15)⟩,
  ⟨(some 5), none, .mv (.t 16)⟩]
abbrev x8r3 : List XOper := [
  ⟨(some 17), none, .mv (.t 2)⟩,
  ⟨(some 18), none, .bin .eql (.t 17) (.c (.int .i64 0))⟩,
  ⟨(some 19), none, .mv (.t 18)⟩,
  ⟨(some 20), (some (19, true)), .mv (.t 5)⟩,
  ⟨(some 21), (some (19, true)), .bin .eql (.t 20) (.c (.int .i64 0))⟩,
  ⟨(some 22), none, .pick (.t 19) (.t 21) (.c (.bool false))⟩,
  ⟨(some 23), none, .mv (.t 22)⟩,
  ⟨(some 24), (some (23, true)), .mv (.t 4)⟩,
  ⟨(some 25), (some (23, true)), .lenV (.t 24)⟩,
  ⟨(some 26), (some (23, true)), .bin .eql (.t 25) (.c (.int .i64 3))⟩,
  ⟨(some 27), none, .pick (.t 23) (.t 26) (.c (.bool false))⟩,
  ⟨(some 28), none, .mv (.t 27)⟩,
  ⟨(some 29), (some (28, true)), .mv (.t 4)⟩,
  ⟨(some 30), (some (28, true)), .iaS 1 (.t 29) (.c (.int .i64 0))⟩,
  ⟨(some 31), (some (28, true)), .load false 1 (.t 30)⟩,
  ⟨(some 32), (some (28, true)), .bin .eql (.t 31) (.c (.int .i64 0))⟩,
  ⟨(some 33), none, .pick (.t 28) (.t 32) (.c (.bool false))⟩,
  ⟨(some 34), none, .mv (.t 33)⟩,
  ⟨(some 35), (some (34, true)), .mv (.t 4)⟩,
  ⟨(some 36), (some (34, true)), .iaS 1 (.t 35) (.c (.int .i64 1))⟩,
  ⟨(some 37), (some (34, true)), .load false 1 (.t 36)⟩,
  ⟨(some 38), (some (34, true)), .bin .eql (.t 37) (.c (.int .i64 1))⟩,
  ⟨(some 39), none, .pick (.t 34) (.t 38) (.c (.bool false))⟩,
  ⟨(some 40), none, .mv (.t 39)⟩,
  ⟨(some 41), (some (40, true)), .mv (.t 4)⟩,
  ⟨(some 42), (some (40, true)), .iaS 1 (.t 41) (.c (.int .i64 2))⟩,
  ⟨(some 43), (some (40, true)), .load false 1 (.t 42)⟩,
  ⟨(some 44), (some (40, true)), .bin .eql (.t 43) (.c (.int .i64 0))⟩,
  ⟨(some 45), none, .pick (.t 40) (.t 44) (.c (.bool false))⟩,
  ⟨(some 0), none, .mv (.t 45)⟩]
/-- datum/datumlaw18.alive -/
abbrev x8b : XCode :=
  (.seq (.reg 0 x8r0 none)
  (.seq (.reg 1 x8r1 none)
  (.seq (.reg 2 x8r2 none)
  (.seq (.reg 3 x8r3 none)
  .ret))))
def x8 : XFunc := ⟨46, 0, [.tmp 0], x8b⟩
theorem x8_ok : chkF Try.prog Try.f8 x8 = true := by kernel_rfl
theorem x8_eq : x8.body = x8b ∧ x8.res = [.tmp 0] ∧ x8.np = 0 := ⟨rfl, rfl, rfl⟩

abbrev x9r0 : List XOper := [
  ⟨(some 2), none, .mv (.c (.bool false))⟩]
abbrev x9r1 : List XOper := [
  ⟨(some 5), none, .mv (.t 0)⟩,
  ⟨(some 6), none, .lenV (.t 5)⟩,
  ⟨(some 7), none, .mv (.c (.int .i64 0))⟩]
abbrev x9r2 : List XOper := [
  ⟨(some 8), none, .bin .lss (.t 7) (.t 6)⟩]
abbrev x9r3 : List XOper := [
  ⟨(some 9), none, .iaS 1 (.t 5) (.t 7)⟩,
  ⟨(some 10), none, .load false 1 (.t 9)⟩,
  ⟨(some 4), none, .mv (.t 10)⟩]
abbrev x9r4 : List XOper := [
  ⟨(some 11), none, .mv (.t 4)⟩,
  ⟨(some 12), none, .bin .lss (.t 11) (.c (.int .i64 (-1000000)))⟩,
  ⟨(some 13), none, .mv (.t 12)⟩,
  ⟨(some 14), (some (13, false)), .mv (.t 4)⟩,
  ⟨(some 15), (some (13, false)), .bin .gtr (.t 14) (.c (.int .i64 1000000))⟩,
  ⟨(some 16), none, .pick (.t 13) (.c (.bool true)) (.t 15)⟩]
abbrev x9r5 : List XOper := [
  ⟨(some 2), none, .mv (.c (.bool false))⟩]
abbrev x9r6 : List XOper := [
  ⟨(some 17), none, .bin .add (.t 7) (.c (.int .i64 1))⟩,
  ⟨(some 7), none, .mv (.t 17)⟩]
abbrev x9l2 : XCode :=
  (.seq (.reg 2 x9r2 none)
  (.seq (.cond (.t 8)
    .skip
    (.exit 0))
  (.seq (.block 1
    (.seq (.reg 3 x9r3 none)
    (.seq (.reg 4 x9r4 none)
    (.cond (.t 16)
      (.seq (.reg 5 x9r5 none)
      .ret)
      .skip))))
  (.reg 6 x9r6 none))))
abbrev x9r7 : List XOper := [
  ⟨(some 2), none, .mv (.c (.bool true))⟩]
/-- datum/datumref11.In -/
abbrev x9b : XCode :=
  (.seq (.reg 0 x9r0 none)
  (.seq (.seq (.reg 1 x9r1 none)
  (.block 0
    (.loop x9l2)))
  (.seq (.reg 7 x9r7 none)
  .ret)))
def x9 : XFunc := ⟨18, 1, [.tmp 2], x9b⟩
theorem x9_ok : chkF Try.prog Try.f9 x9 = true := by kernel_rfl
theorem x9_eq : x9.body = x9b ∧ x9.res = [.tmp 2] ∧ x9.np = 1 := ⟨rfl, rfl, rfl⟩

abbrev x10r0 : List XOper := [
  ⟨(some 2), none, .box (.t 0)⟩,
  ⟨(some 4), none, .alloc [(.int .i64 0), (.int .i64 0), (.int .i64 0), (.int .i64 0), (.int .i64 0), (.int .i64 0)]⟩,
  ⟨(some 5), none, .mv (.c .nils)⟩]
abbrev x10r1 : List XOper := [
  ⟨(some 11), none, .mkslice 1 (.int .i64 0) 0 []⟩,
  ⟨(some 6), none, .mv (.t 11)⟩]
abbrev x10r2 : List XOper := [
  ⟨(some 12), none, .mv (.t 1)⟩,
  ⟨(some 13), none, .lenV (.t 12)⟩,
  ⟨(some 14), none, .mv (.c (.int .i64 0))⟩]
abbrev x10r3 : List XOper := [
  ⟨(some 15), none, .bin .lss (.t 14) (.t 13)⟩]
abbrev x10r4 : List XOper := [
  ⟨(some 16), none, .iaS 1 (.t 12) (.t 14)⟩,
  ⟨(some 17), none, .load false 1 (.t 16)⟩,
  ⟨(some 8), none, .mv (.t 17)⟩]
abbrev x10r5 : List XOper := [
  ⟨(some 19), none, .load true 6 (.t 2)⟩,
  ⟨(some 20), none, .mv (.t 8)⟩,
  ⟨(some 21), none, .call (.c (.fn (.func 19) [] [])) [(.t 19), (.t 20)]⟩,
  ⟨(some 18), none, .mv (.t 21)⟩,
  ⟨(some 22), none, .ext (.t 18) 0⟩,
  ⟨(some 23), none, .ext (.t 18) 1⟩,
  ⟨(some 9), none, .alloc [(.int .i64 0), (.int .i64 0), (.int .i64 0), (.int .i64 0), (.int .i64 0), (.int .i64 0)]⟩,
  ⟨none, none, .store 6 (.t 9) (.t 22)⟩,
  ⟨(some 10), none, .mv (.t 23)⟩]
abbrev x10r6 : List XOper := [
  ⟨(some 24), none, .load true 6 (.t 9)⟩,
  ⟨none, none, .store 6 (.t 2) (.t 24)⟩]
abbrev x10r7 : List XOper := [
  ⟨(some 25), none, .mv (.t 6)⟩,
  ⟨(some 26), none, .mv (.t 10)⟩,
  ⟨(some 27), none, .mkslice 1 (.int .i64 0) 1 [(0, (.t 26))]⟩,
  ⟨(some 28), none, .app 1 8 (.t 25) (.t 27)⟩,
  ⟨(some 6), none, .mv (.t 28)⟩]
abbrev x10r8 : List XOper := [
  ⟨(some 29), none, .bin .add (.t 14) (.c (.int .i64 1))⟩,
  ⟨(some 14), none, .mv (.t 29)⟩]
abbrev x10l3 : XCode :=
  (.seq (.reg 3 x10r3 none)
  (.seq (.cond (.t 15)
    .skip
    (.exit 0))
  (.seq (.block 1
    (.seq (.reg 4 x10r4 none)
    (.seq (.reg 5 x10r5 none)
    (.seq (.reg 6 x10r6 none)
    (.reg 7 x10r7 none)))))
  (.reg 8 x10r8 none))))
abbrev x10r9 : List XOper := [
  ⟨(some 30), none, .load true 6 (.t 2)⟩,
  ⟨(some 31), none, .mv (.t 6)⟩,
  ⟨none, none, .store 6 (.t 4) (.t 30)⟩,
  ⟨(some 5), none, .mv (.t 31)⟩]
/-- datum/datumref18.Run -/
abbrev x10b : XCode :=
  (.seq (.reg 0 x10r0 none)
  (.seq (.reg 1 x10r1 none)
  (.seq (.seq (.reg 2 x10r2 none)
  (.block 0
    (.loop x10l3)))
  (.seq (.reg 9 x10r9 none)
  .ret))))
def x10 : XFunc := ⟨32, 2, [.cell 4 true 6, .tmp 5], x10b⟩
theorem x10_ok : chkF Try.prog Try.f10 x10 = true := by kernel_rfl
theorem x10_eq : x10.body = x10b ∧ x10.res = [.cell 4 true 6, .tmp 5] ∧ x10.np = 2 := ⟨rfl, rfl, rfl⟩

abbrev x11r0 : List XOper := [
  ⟨(some 4), none, .mv (.c (.bool false))⟩]
abbrev x11r1 : List XOper := [
  ⟨(some 6), none, .mv (.t 0)⟩,
  ⟨(some 7), none, .lenV (.t 6)⟩,
  ⟨(some 8), none, .mv (.t 1)⟩,
  ⟨(some 9), none, .lenV (.t 8)⟩,
  ⟨(some 10), none, .bin .neq (.t 7) (.t 9)⟩]
abbrev x11r2 : List XOper := [
  ⟨(some 4), none, .mv (.c (.bool false))⟩]
abbrev x11r3 : List XOper := [
  ⟨(some 11), none, .mv (.t 0)⟩,
  ⟨(some 12), none, .lenV (.t 11)⟩,
  ⟨(some 13), none, .mv (.c (.int .i64 0))⟩]
abbrev x11r4 : List XOper := [
  ⟨(some 14), none, .bin .lss (.t 13) (.t 12)⟩]
abbrev x11r5 : List XOper := [
  ⟨(some 15), none, .mv (.t 13)⟩,
  ⟨(some 5), none, .mv (.t 15)⟩]
abbrev x11r6 : List XOper := [
  ⟨(some 16), none, .mv (.t 0)⟩,
  ⟨(some 17), none, .mv (.t 5)⟩,
  ⟨(some 18), none, .iaS 1 (.t 16) (.t 17)⟩,
  ⟨(some 19), none, .load false 1 (.t 18)⟩,
  ⟨(some 20), none, .mv (.t 1)⟩,
  ⟨(some 21), none, .mv (.t 5)⟩,
  ⟨(some 22), none, .iaS 1 (.t 20) (.t 21)⟩,
  ⟨(some 23), none, .load false 1 (.t 22)⟩,
  ⟨(some 24), none, .bin .neq (.t 19) (.t 23)⟩]
abbrev x11r7 : List XOper := [
  ⟨(some 4), none, .mv (.c (.bool false))⟩]
abbrev x11r8 : List XOper := [
  ⟨(some 25), none, .bin .add (.t 13) (.c (.int .i64 1))⟩,
  ⟨(some 13), none, .mv (.t 25)⟩]
abbrev x11l4 : XCode :=
  (.seq (.reg 4 x11r4 none)
  (.seq (.cond (.t 14)
    .skip
    (.exit 0))
  (.seq (.block 1
    (.seq (.reg 5 x11r5 none)
    (.seq (.reg 6 x11r6 (some ⟨[]⟩))
    (.cond (.t 24)
      (.seq (.reg 7 x11r7 none)
      .ret)
      .skip))))
  (.reg 8 x11r8 none))))
abbrev x11r9 : List XOper := [
  ⟨(some 4), none, .mv (.c (.bool true))⟩]
/-- datum/datumref10.Ints -/
abbrev x11b : XCode :=
  (.seq (.reg 0 x11r0 none)
  (.seq (.seq (.reg 1 x11r1 none)
  (.cond (.t 10)
    (.seq (.reg 2 x11r2 none)
    .ret)
    .skip))
  (.seq (.seq (.reg 3 x11r3 none)
  (.block 0
    (.loop x11l4)))
  (.seq (.reg 9 x11r9 none)
  .ret))))
def x11 : XFunc := ⟨26, 2, [.tmp 4], x11b⟩
theorem x11_ok : chkF Try.prog Try.f11 x11 = true := by kernel_rfl
theorem x11_eq : x11.body = x11b ∧ x11.res = [.tmp 4] ∧ x11.np = 2 := ⟨rfl, rfl, rfl⟩

abbrev x12r0 : List XOper := [
  ⟨(some 8), none, .alloc [(.int .i64 0), (.int .i64 0), (.int .i64 0), (.int .i64 0), (.int .i64 0), (.int .i64 0)]⟩,
  ⟨(some 9), none, .mv (.c .nils)⟩,
  ⟨(some 10), none, .mv (.c (.bool false))⟩]
abbrev x12r1 : List XOper := [
  ⟨(some 11), none, .mv (.c .nils)⟩]
abbrev x12r2 : List XOper := [
  ⟨(some 16), none, .mv (.t 3)⟩,
  ⟨(some 17), none, .mv (.t 3)⟩,
  ⟨(some 18), none, .lenV (.t 17)⟩,
  ⟨(some 19), none, .mnx false (.t 18) [(.c (.int .i64 100))]⟩,
  ⟨(some 20), none, .slV 1 (.t 16) none (some (.t 19)) none⟩,
  ⟨(some 21), none, .lenV (.t 20)⟩,
  ⟨(some 22), none, .mv (.c (.int .i64 0))⟩]
abbrev x12r3 : List XOper := [
  ⟨(some 23), none, .bin .lss (.t 22) (.t 21)⟩]
abbrev x12r4 : List XOper := [
  ⟨(some 24), none, .iaS 1 (.t 20) (.t 22)⟩,
  ⟨(some 25), none, .load false 1 (.t 24)⟩,
  ⟨(some 13), none, .mv (.t 25)⟩]
abbrev x12r5 : List XOper := [
  ⟨(some 26), none, .mv (.t 11)⟩,
  ⟨(some 27), none, .mv (.t 13)⟩,
  ⟨(some 28), none, .mnx true (.t 27) [(.c (.int .i64 (-1000000)))]⟩,
  ⟨(some 29), none, .mnx false (.t 28) [(.c (.int .i64 1000000))]⟩,
  ⟨(some 30), none, .mkslice 1 (.int .i64 0) 1 [(0, (.t 29))]⟩,
  ⟨(some 31), none, .app 1 8 (.t 26) (.t 30)⟩,
  ⟨(some 11), none, .mv (.t 31)⟩]
abbrev x12r6 : List XOper := [
  ⟨(some 32), none, .bin .add (.t 22) (.c (.int .i64 1))⟩,
  ⟨(some 22), none, .mv (.t 32)⟩]
abbrev x12l3 : XCode :=
  (.seq (.reg 3 x12r3 none)
  (.seq (.cond (.t 23)
    .skip
    (.exit 0))
  (.seq (.block 1
    (.seq (.reg 4 x12r4 none)
    (.reg 5 x12r5 none)))
  (.reg 6 x12r6 none))))
abbrev x12r7 : List XOper := [
  ⟨(some 34), none, .mv (.t 0)⟩,
  ⟨(some 35), none, .bin .rem (.t 34) (.c (.int .i64 1000001))⟩,
  ⟨(some 36), none, .mv (.t 1)⟩,
  ⟨(some 37), none, .bin .rem (.t 36) (.c (.int .i64 1000001))⟩,
  ⟨(some 38), none, .bin .add (.t 37) (.c (.int .i64 1000001))⟩,
  ⟨(some 39), none, .bin .rem (.t 38) (.c (.int .i64 1000001))⟩,
  ⟨(some 40), none, .mv (.t 2)⟩,
  ⟨(some 41), none, .bin .rem (.t 40) (.c (.int .i64 1000000000))⟩,
  ⟨(some 42), none, .bin .add (.t 41) (.c (.int .i64 1000000000))⟩,
  ⟨(some 43), none, .bin .rem (.t 42) (.c (.int .i64 1000000000))⟩,
  ⟨(some 44), none, .bin .add (.c (.int .i64 1)) (.t 43)⟩,
  ⟨(some 45), none, .call (.c (.fn (.func 18) [] [])) [(.t 35), (.t 39), (.t 44)]⟩,
  ⟨(some 33), none, .mv (.t 45)⟩,
  ⟨(some 46), none, .ext (.t 33) 0⟩,
  ⟨(some 47), none, .ext (.t 33) 1⟩,
  ⟨(some 14), none, .alloc [(.int .i64 0), (.int .i64 0), (.int .i64 0), (.int .i64 0), (.int .i64 0), (.int .i64 0)]⟩,
  ⟨none, none, .store 6 (.t 14) (.t 46)⟩,
  ⟨(some 15), none, .mv (.t 47)⟩]
abbrev x12r8 : List XOper := [
  ⟨(some 48), none, .load true 6 (.t 14)⟩,
  ⟨(some 49), none, .mv (.t 11)⟩,
  ⟨(some 50), none, .mv (.t 15)⟩,
  ⟨(some 51), none, .bin .eql (.t 50) (.c (.int .i64 0))⟩,
  ⟨none, none, .store 6 (.t 8) (.t 48)⟩,
  ⟨(some 9), none, .mv (.t 49)⟩,
  ⟨(some 10), none, .mv (.t 51)⟩]
/-- datum/datumlaw18.some -/
abbrev x12b : XCode :=
  (.seq (.reg 0 x12r0 none)
  (.seq (.reg 1 x12r1 none)
  (.seq (.seq (.reg 2 x12r2 none)
  (.block 0
    (.loop x12l3)))
  (.seq (.reg 7 x12r7 none)
  (.seq (.reg 8 x12r8 none)
  .ret)))))
def x12 : XFunc := ⟨52, 4, [.cell 8 true 6, .tmp 9, .tmp 10], x12b⟩
theorem x12_ok : chkF Try.prog Try.f12 x12 = true := by kernel_rfl
theorem x12_eq : x12.body = x12b ∧ x12.res = [.cell 8 true 6, .tmp 9, .tmp 10] ∧ x12.np = 4 := ⟨rfl, rfl, rfl⟩

abbrev x13r0 : List XOper := [
  ⟨(some 1), none, .box (.t 0)⟩,
  ⟨(some 2), none, .mv (.c (.bool false))⟩]
abbrev x13r1 : List XOper := [
  ⟨(some 3), none, .fa 0 (.t 1)⟩,
  ⟨(some 4), none, .load false 1 (.t 3)⟩,
  ⟨(some 5), none, .call (.c (.fn (.func 16) [] [])) [(.t 4), (.c (.int .i64 (-1000000))), (.c (.int .i64 1000000))]⟩,
  ⟨(some 6), none, .un .not (.t 5)⟩,
  ⟨(some 7), none, .mv (.t 6)⟩,
  ⟨(some 8), (some (7, false)), .fa 1 (.t 1)⟩,
  ⟨(some 9), (some (7, false)), .load false 1 (.t 8)⟩,
  ⟨(some 10), (some (7, false)), .call (.c (.fn (.func 16) [] [])) [(.t 9), (.c (.int .i64 0)), (.c (.int .i64 1000000))]⟩,
  ⟨(some 11), (some (7, false)), .un .not (.t 10)⟩,
  ⟨(some 12), none, .pick (.t 7) (.c (.bool true)) (.t 11)⟩,
  ⟨(some 13), none, .mv (.t 12)⟩,
  ⟨(some 14), (some (13, false)), .fa 2 (.t 1)⟩,
  ⟨(some 15), (some (13, false)), .load false 1 (.t 14)⟩,
  ⟨(some 16), (some (13, false)), .call (.c (.fn (.func 16) [] [])) [(.t 15), (.c (.int .i64 1)), (.c (.int .i64 1000000000))]⟩,
  ⟨(some 17), (some (13, false)), .un .not (.t 16)⟩,
  ⟨(some 18), none, .pick (.t 13) (.c (.bool true)) (.t 17)⟩,
  ⟨(some 19), none, .mv (.t 18)⟩,
  ⟨(some 20), (some (19, false)), .fa 3 (.t 1)⟩,
  ⟨(some 21), (some (19, false)), .load false 1 (.t 20)⟩,
  ⟨(some 22), (some (19, false)), .call (.c (.fn (.func 16) [] [])) [(.t 21), (.c (.int .i64 0)), (.c (.int .i64 1000000000))]⟩,
  ⟨(some 23), (some (19, false)), .un .not (.t 22)⟩,
  ⟨(some 24), none, .pick (.t 19) (.c (.bool true)) (.t 23)⟩]
abbrev x13r2 : List XOper := [
  ⟨(some 2), none, .mv (.c (.bool false))⟩]
abbrev x13r3 : List XOper := [
  ⟨(some 25), none, .fa 4 (.t 1)⟩,
  ⟨(some 26), none, .load false 1 (.t 25)⟩,
  ⟨(some 27), none, .fa 2 (.t 1)⟩,
  ⟨(some 28), none, .load false 1 (.t 27)⟩,
  ⟨(some 29), none, .call (.c (.fn (.func 16) [] [])) [(.t 26), (.c (.int .i64 0)), (.t 28)]⟩,
  ⟨(some 30), none, .mv (.t 29)⟩,
  ⟨(some 31), (some (30, true)), .fa 5 (.t 1)⟩,
  ⟨(some 32), (some (30, true)), .load false 1 (.t 31)⟩,
  ⟨(some 33), (some (30, true)), .fa 2 (.t 1)⟩,
  ⟨(some 34), (some (30, true)), .load false 1 (.t 33)⟩,
  ⟨(some 35), (some (30, true)), .call (.c (.fn (.func 16) [] [])) [(.t 32), (.c (.int .i64 0)), (.t 34)]⟩,
  ⟨(some 36), none, .pick (.t 30) (.t 35) (.c (.bool false))⟩,
  ⟨(some 37), none, .mv (.t 36)⟩,
  ⟨(some 38), (some (37, true)), .fa 3 (.t 1)⟩,
  ⟨(some 39), (some (37, true)), .load false 1 (.t 38)⟩,
  ⟨(some 40), (some (37, true)), .bin .gtr (.t 39) (.c (.int .i64 0))⟩,
  ⟨(some 41), (some (37, true)), .mv (.t 40)⟩,
  ⟨(some 42), (some (41, false)), .fa 4 (.t 1)⟩,
  ⟨(some 43), (some (41, false)), .load false 1 (.t 42)⟩,
  ⟨(some 44), (some (41, false)), .bin .eql (.t 43) (.c (.int .i64 0))⟩,
  ⟨(some 45), (some (41, false)), .mv (.t 44)⟩,
  ⟨(some 46), (some (45, true)), .fa 5 (.t 1)⟩,
  ⟨(some 47), (some (45, true)), .load false 1 (.t 46)⟩,
  ⟨(some 48), (some (45, true)), .bin .eql (.t 47) (.c (.int .i64 0))⟩,
  ⟨(some 49), (some (41, false)), .pick (.t 45) (.t 48) (.c (.bool false))⟩,
  ⟨(some 50), (some (37, true)), .pick (.t 41) (.c (.bool true)) (.t 49)⟩,
  ⟨(some 51), none, .pick (.t 37) (.t 50) (.c (.bool false))⟩,
  ⟨(some 2), none, .mv (.t 51)⟩]
/-- datum/cusum.Right -/
abbrev x13b : XCode :=
  (.seq (.reg 0 x13r0 none)
  (.seq (.seq (.reg 1 x13r1 none)
  (.cond (.t 24)
    (.seq (.reg 2 x13r2 none)
    .ret)
    .skip))
  (.seq (.reg 3 x13r3 none)
  .ret)))
def x13 : XFunc := ⟨52, 1, [.tmp 2], x13b⟩
theorem x13_ok : chkF Try.prog Try.f13 x13 = true := by kernel_rfl
theorem x13_eq : x13.body = x13b ∧ x13.res = [.tmp 2] ∧ x13.np = 1 := ⟨rfl, rfl, rfl⟩

abbrev x14r0 : List XOper := [
  ⟨(some 4), none, .mv (.c (.bool false))⟩]
abbrev x14r1 : List XOper := [
  ⟨(some 5), none, .mv (.t 0)⟩,
  ⟨(some 6), none, .mv (.t 1)⟩,
  ⟨(some 7), none, .call (.c (.fn (.func 20) [] [])) [(.t 5), (.t 6)]⟩,
  ⟨(some 8), none, .bin .geq (.t 7) (.c (.int .i64 0))⟩,
  ⟨(some 4), none, .mv (.t 8)⟩]
/-- slices.ContainsFunc[[]int,int] -/
abbrev x14b : XCode :=
  (.seq (.reg 0 x14r0 none)
  (.seq (.reg 1 x14r1 none)
  .ret))
def x14 : XFunc := ⟨9, 2, [.tmp 4], x14b⟩
theorem x14_ok : chkF Try.prog Try.f14 x14 = true := by kernel_rfl
theorem x14_eq : x14.body = x14b ∧ x14.res = [.tmp 4] ∧ x14.np = 2 := ⟨rfl, rfl, rfl⟩

abbrev x15r0 : List XOper := [
  ⟨(some 2), none, .mv (.c (.bool false))⟩]
abbrev x15r1 : List XOper := [
  ⟨(some 3), none, .mv (.t 0)⟩,
  ⟨(some 4), none, .call (.c (.fn (.func 16) [] [])) [(.t 3), (.c (.int .i64 (-1000000))), (.c (.int .i64 1000000))]⟩,
  ⟨(some 5), none, .un .not (.t 4)⟩,
  ⟨(some 2), none, .mv (.t 5)⟩]
/-- datum/cusum.Run$1 -/
abbrev x15b : XCode :=
  (.seq (.reg 0 x15r0 none)
  (.seq (.reg 1 x15r1 none)
  .ret))
def x15 : XFunc := ⟨6, 1, [.tmp 2], x15b⟩
theorem x15_ok : chkF Try.prog Try.f15 x15 = true := by kernel_rfl
theorem x15_eq : x15.body = x15b ∧ x15.res = [.tmp 2] ∧ x15.np = 1 := ⟨rfl, rfl, rfl⟩

abbrev x16r0 : List XOper := [
  ⟨(some 6), none, .mv (.c (.bool false))⟩]
abbrev x16r1 : List XOper := [
  ⟨(some 7), none, .mv (.t 0)⟩,
  ⟨(some 8), none, .mv (.t 1)⟩,
  ⟨(some 9), none, .bin .geq (.t 7) (.t 8)⟩,
  ⟨(some 10), none, .mv (.t 9)⟩,
  ⟨(some 11), (some (10, true)), .mv (.t 0)⟩,
  ⟨(some 12), (some (10, true)), .mv (.t 2)⟩,
  ⟨(some 13), (some (10, true)), .bin .leq (.t 11) (.t 12)⟩,
  ⟨(some 14), none, .pick (.t 10) (.t 13) (.c (.bool false))⟩,
  ⟨(some 6), none, .mv (.t 14)⟩]
/-- datum/cusum.in -/
abbrev x16b : XCode :=
  (.seq (.reg 0 x16r0 none)
  (.seq (.reg 1 x16r1 none)
  .ret))
def x16 : XFunc := ⟨15, 3, [.tmp 6], x16b⟩
theorem x16_ok : chkF Try.prog Try.f16 x16 = true := by kernel_rfl
theorem x16_eq : x16.body = x16b ∧ x16.res = [.tmp 6] ∧ x16.np = 3 := ⟨rfl, rfl, rfl⟩

abbrev x17r0 : List XOper := [
  ⟨(some 4), none, .mv (.c (.int .i64 0))⟩]
abbrev x17r1 : List XOper := [
  ⟨(some 5), none, .mv (.t 0)⟩,
  ⟨(some 6), none, .nilChk (.t 5)⟩,
  ⟨(some 7), none, .fa 3 (.t 6)⟩,
  ⟨(some 8), none, .load false 1 (.t 7)⟩,
  ⟨(some 9), none, .bin .add (.t 8) (.c (.int .i64 1))⟩,
  ⟨(some 10), none, .nilChk (.t 5)⟩,
  ⟨(some 11), none, .fa 3 (.t 10)⟩,
  ⟨none, none, .store 1 (.t 11) (.t 9)⟩]
abbrev x17r2 : List XOper := [
  ⟨(some 12), none, .mv (.t 0)⟩,
  ⟨(some 13), none, .nilChk (.t 12)⟩,
  ⟨(some 14), none, .fa 2 (.t 13)⟩,
  ⟨(some 15), none, .load false 1 (.t 14)⟩,
  ⟨(some 16), none, .mv (.t 0)⟩,
  ⟨(some 17), none, .nilChk (.t 16)⟩,
  ⟨(some 18), none, .fa 4 (.t 17)⟩,
  ⟨(some 19), none, .mv (.t 1)⟩,
  ⟨(some 20), none, .mv (.t 0)⟩,
  ⟨(some 21), none, .nilChk (.t 20)⟩,
  ⟨(some 22), none, .fa 0 (.t 21)⟩,
  ⟨(some 23), none, .load false 1 (.t 22)⟩,
  ⟨(some 24), none, .bin .sub (.t 19) (.t 23)⟩,
  ⟨(some 25), none, .mv (.t 0)⟩,
  ⟨(some 26), none, .nilChk (.t 25)⟩,
  ⟨(some 27), none, .fa 1 (.t 26)⟩,
  ⟨(some 28), none, .load false 1 (.t 27)⟩,
  ⟨(some 29), none, .bin .sub (.t 24) (.t 28)⟩,
  ⟨(some 30), none, .build [.nilp, (.int .i64 0), (.int .i64 0)] [(0, 1, (.t 18)), (1, 1, (.t 29)), (2, 1, (.c (.int .i64 1)))]⟩,
  ⟨(some 31), none, .mv (.t 0)⟩,
  ⟨(some 32), none, .nilChk (.t 31)⟩,
  ⟨(some 33), none, .fa 5 (.t 32)⟩,
  ⟨(some 34), none, .mv (.t 0)⟩,
  ⟨(some 35), none, .nilChk (.t 34)⟩,
  ⟨(some 36), none, .fa 0 (.t 35)⟩,
  ⟨(some 37), none, .load false 1 (.t 36)⟩,
  ⟨(some 38), none, .mv (.t 0)⟩,
  ⟨(some 39), none, .nilChk (.t 38)⟩,
  ⟨(some 40), none, .fa 1 (.t 39)⟩,
  ⟨(some 41), none, .load false 1 (.t 40)⟩,
  ⟨(some 42), none, .bin .sub (.t 37) (.t 41)⟩,
  ⟨(some 43), none, .mv (.t 1)⟩,
  ⟨(some 44), none, .bin .sub (.t 42) (.t 43)⟩,
  ⟨(some 45), none, .build [.nilp, (.int .i64 0), (.int .i64 0)] [(0, 1, (.t 33)), (1, 1, (.t 44)), (2, 1, (.c (.int .i64 (-1))))]⟩,
  ⟨(some 46), none, .mkslice 3 (.agg [.nilp, (.int .i64 0), (.int .i64 0)]) 2 [(0, (.t 30)), (1, (.t 45))]⟩,
  ⟨(some 47), none, .call (.c (.fn (.func 21) [] [])) [(.t 15), (.t 46)]⟩,
  ⟨(some 4), none, .mv (.t 47)⟩]
/-- datum/cusum.next -/
abbrev x17b : XCode :=
  (.seq (.reg 0 x17r0 none)
  (.seq (.reg 1 x17r1 none)
  (.seq (.reg 2 x17r2 (some ⟨[(3, 34)]⟩))
  .ret)))
def x17 : XFunc := ⟨48, 2, [.tmp 4], x17b⟩
theorem x17_ok : chkF Try.prog Try.f17 x17 = true := by kernel_rfl
theorem x17_eq : x17.body = x17b ∧ x17.res = [.tmp 4] ∧ x17.np = 2 := ⟨rfl, rfl, rfl⟩

abbrev x18r0 : List XOper := [
  ⟨(some 6), none, .alloc [(.int .i64 0), (.int .i64 0), (.int .i64 0), (.int .i64 0), (.int .i64 0), (.int .i64 0)]⟩,
  ⟨(some 7), none, .mv (.c (.int .i64 0))⟩]
abbrev x18r1 : List XOper := [
  ⟨(some 9), none, .mv (.t 0)⟩,
  ⟨(some 10), none, .mv (.t 1)⟩,
  ⟨(some 11), none, .mv (.t 2)⟩,
  ⟨(some 12), none, .build [(.int .i64 0), (.int .i64 0), (.int .i64 0), (.int .i64 0), (.int .i64 0), (.int .i64 0)] [(0, 1, (.t 9)), (1, 1, (.t 10)), (2, 1, (.t 11))]⟩,
  ⟨(some 8), none, .alloc [(.int .i64 0), (.int .i64 0), (.int .i64 0), (.int .i64 0), (.int .i64 0), (.int .i64 0)]⟩,
  ⟨none, none, .store 6 (.t 8) (.t 12)⟩]
abbrev x18r2 : List XOper := [
  ⟨(some 13), none, .load true 6 (.t 8)⟩,
  ⟨(some 14), none, .call (.c (.fn (.func 13) [] [])) [(.t 13)]⟩,
  ⟨(some 15), none, .un .not (.t 14)⟩]
abbrev x18r3 : List XOper := [
  ⟨(some 16), none, .build [(.int .i64 0), (.int .i64 0), (.int .i64 0), (.int .i64 0), (.int .i64 0), (.int .i64 0)] []⟩,
  ⟨none, none, .store 6 (.t 6) (.t 16)⟩,
  ⟨(some 7), none, .mv (.c (.int .i64 1))⟩]
abbrev x18r4 : List XOper := [
  ⟨(some 17), none, .load true 6 (.t 8)⟩,
  ⟨none, none, .store 6 (.t 6) (.t 17)⟩,
  ⟨(some 7), none, .mv (.c (.int .i64 0))⟩]
/-- datum/cusum.New -/
abbrev x18b : XCode :=
  (.seq (.reg 0 x18r0 none)
  (.seq (.reg 1 x18r1 none)
  (.seq (.seq (.reg 2 x18r2 none)
  (.cond (.t 15)
    (.seq (.reg 3 x18r3 none)
    .ret)
    .skip))
  (.seq (.reg 4 x18r4 none)
  .ret))))
def x18 : XFunc := ⟨18, 3, [.cell 6 true 6, .tmp 7], x18b⟩
theorem x18_ok : chkF Try.prog Try.f18 x18 = true := by kernel_rfl
theorem x18_eq : x18.body = x18b ∧ x18.res = [.cell 6 true 6, .tmp 7] ∧ x18.np = 3 := ⟨rfl, rfl, rfl⟩

abbrev x19r0 : List XOper := [
  ⟨(some 2), none, .box (.t 0)⟩,
  ⟨(some 4), none, .alloc [(.int .i64 0), (.int .i64 0), (.int .i64 0), (.int .i64 0), (.int .i64 0), (.int .i64 0)]⟩,
  ⟨(some 5), none, .mv (.c (.int .i64 0))⟩]
abbrev x19r1 : List XOper := [
  ⟨(some 7), none, .fa 3 (.t 2)⟩,
  ⟨(some 8), none, .load false 1 (.t 7)⟩,
  ⟨(some 9), none, .bin .add (.t 8) (.c (.int .i64 1))⟩,
  ⟨(some 10), none, .fa 3 (.t 2)⟩,
  ⟨none, none, .store 1 (.t 10) (.t 9)⟩]
abbrev x19r2 : List XOper := [
  ⟨(some 11), none, .fa 4 (.t 2)⟩,
  ⟨(some 12), none, .load false 1 (.t 11)⟩,
  ⟨(some 13), none, .mv (.t 1)⟩,
  ⟨(some 14), none, .bin .add (.t 12) (.t 13)⟩,
  ⟨(some 15), none, .fa 0 (.t 2)⟩,
  ⟨(some 16), none, .load false 1 (.t 15)⟩,
  ⟨(some 17), none, .bin .sub (.t 14) (.t 16)⟩,
  ⟨(some 18), none, .fa 1 (.t 2)⟩,
  ⟨(some 19), none, .load false 1 (.t 18)⟩,
  ⟨(some 20), none, .bin .sub (.t 17) (.t 19)⟩,
  ⟨(some 21), none, .mnx true (.c (.int .i64 0)) [(.t 20)]⟩,
  ⟨(some 22), none, .fa 4 (.t 2)⟩,
  ⟨none, none, .store 1 (.t 22) (.t 21)⟩]
abbrev x19r3 : List XOper := [
  ⟨(some 23), none, .fa 5 (.t 2)⟩,
  ⟨(some 24), none, .load false 1 (.t 23)⟩,
  ⟨(some 25), none, .fa 0 (.t 2)⟩,
  ⟨(some 26), none, .load false 1 (.t 25)⟩,
  ⟨(some 27), none, .bin .add (.t 24) (.t 26)⟩,
  ⟨(some 28), none, .fa 1 (.t 2)⟩,
  ⟨(some 29), none, .load false 1 (.t 28)⟩,
  ⟨(some 30), none, .bin .sub (.t 27) (.t 29)⟩,
  ⟨(some 31), none, .mv (.t 1)⟩,
  ⟨(some 32), none, .bin .sub (.t 30) (.t 31)⟩,
  ⟨(some 33), none, .mnx true (.c (.int .i64 0)) [(.t 32)]⟩,
  ⟨(some 34), none, .fa 5 (.t 2)⟩,
  ⟨none, none, .store 1 (.t 34) (.t 33)⟩]
abbrev x19r4 : List XOper := [
  ⟨(some 6), none, .mv (.c (.int .i64 0))⟩]
abbrev x19r5 : List XOper := [
  ⟨(some 35), none, .fa 4 (.t 2)⟩,
  ⟨(some 36), none, .load false 1 (.t 35)⟩,
  ⟨(some 37), none, .fa 2 (.t 2)⟩,
  ⟨(some 38), none, .load false 1 (.t 37)⟩,
  ⟨(some 39), none, .bin .gtr (.t 36) (.t 38)⟩]
abbrev x19r6 : List XOper := [
  ⟨(some 6), none, .mv (.c (.int .i64 1))⟩]
abbrev x19r7 : List XOper := [
  ⟨(some 40), none, .fa 5 (.t 2)⟩,
  ⟨(some 41), none, .load false 1 (.t 40)⟩,
  ⟨(some 42), none, .fa 2 (.t 2)⟩,
  ⟨(some 43), none, .load false 1 (.t 42)⟩,
  ⟨(some 44), none, .bin .gtr (.t 41) (.t 43)⟩]
abbrev x19r8 : List XOper := [
  ⟨(some 6), none, .mv (.c (.int .i64 (-1)))⟩]
abbrev x19r9 : List XOper := [
  ⟨(some 45), none, .mv (.t 6)⟩,
  ⟨(some 46), none, .bin .neq (.t 45) (.c (.int .i64 0))⟩]
abbrev x19r10 : List XOper := [
  ⟨(some 47), none, .fa 4 (.t 2)⟩,
  ⟨none, none, .store 1 (.t 47) (.c (.int .i64 0))⟩]
abbrev x19r11 : List XOper := [
  ⟨(some 48), none, .fa 5 (.t 2)⟩,
  ⟨none, none, .store 1 (.t 48) (.c (.int .i64 0))⟩]
abbrev x19r12 : List XOper := [
  ⟨(some 49), none, .load true 6 (.t 2)⟩,
  ⟨(some 50), none, .mv (.t 6)⟩,
  ⟨none, none, .store 6 (.t 4) (.t 49)⟩,
  ⟨(some 5), none, .mv (.t 50)⟩]
/-- datum/datumref18.Next -/
abbrev x19b : XCode :=
  (.seq (.reg 0 x19r0 none)
  (.seq (.reg 1 x19r1 none)
  (.seq (.reg 2 x19r2 none)
  (.seq (.reg 3 x19r3 none)
  (.seq (.reg 4 x19r4 none)
  (.seq (.seq (.reg 5 x19r5 none)
  (.cond (.t 39)
    (.reg 6 x19r6 none)
    .skip))
  (.seq (.seq (.reg 7 x19r7 none)
  (.cond (.t 44)
    (.reg 8 x19r8 none)
    .skip))
  (.seq (.seq (.reg 9 x19r9 none)
  (.cond (.t 46)
    (.seq (.reg 10 x19r10 none)
    (.reg 11 x19r11 none))
    .skip))
  (.seq (.reg 12 x19r12 none)
  .ret)))))))))
def x19 : XFunc := ⟨51, 2, [.cell 4 true 6, .tmp 5], x19b⟩
theorem x19_ok : chkF Try.prog Try.f19 x19 = true := by kernel_rfl
theorem x19_eq : x19.body = x19b ∧ x19.res = [.cell 4 true 6, .tmp 5] ∧ x19.np = 2 := ⟨rfl, rfl, rfl⟩

abbrev x20r0 : List XOper := [
  ⟨(some 4), none, .mv (.c (.int .i64 0))⟩]
abbrev x20r1 : List XOper := [
  ⟨(some 6), none, .mv (.t 0)⟩,
  ⟨(some 7), none, .lenV (.t 6)⟩,
  ⟨(some 8), none, .mv (.c (.int .i64 0))⟩]
abbrev x20r2 : List XOper := [
  ⟨(some 9), none, .bin .lss (.t 8) (.t 7)⟩]
abbrev x20r3 : List XOper := [
  ⟨(some 10), none, .mv (.t 8)⟩,
  ⟨(some 5), none, .mv (.t 10)⟩]
abbrev x20r4 : List XOper := [
  ⟨(some 11), none, .mv (.t 1)⟩,
  ⟨(some 12), none, .mv (.t 0)⟩,
  ⟨(some 13), none, .mv (.t 5)⟩,
  ⟨(some 14), none, .iaS 1 (.t 12) (.t 13)⟩,
  ⟨(some 15), none, .load false 1 (.t 14)⟩,
  ⟨(some 16), none, .call (.t 11) [(.t 15)]⟩]
abbrev x20r5 : List XOper := [
  ⟨(some 17), none, .mv (.t 5)⟩,
  ⟨(some 4), none, .mv (.t 17)⟩]
abbrev x20r6 : List XOper := [
  ⟨(some 18), none, .bin .add (.t 8) (.c (.int .i64 1))⟩,
  ⟨(some 8), none, .mv (.t 18)⟩]
abbrev x20l2 : XCode :=
  (.seq (.reg 2 x20r2 none)
  (.seq (.cond (.t 9)
    .skip
    (.exit 0))
  (.seq (.block 1
    (.seq (.reg 3 x20r3 none)
    (.seq (.reg 4 x20r4 none)
    (.cond (.t 16)
      (.seq (.reg 5 x20r5 none)
      .ret)
      .skip))))
  (.reg 6 x20r6 none))))
abbrev x20r7 : List XOper := [
  ⟨(some 4), none, .mv (.c (.int .i64 (-1)))⟩]
/-- slices.IndexFunc[[]int,int] -/
abbrev x20b : XCode :=
  (.seq (.reg 0 x20r0 none)
  (.seq (.seq (.reg 1 x20r1 none)
  (.block 0
    (.loop x20l2)))
  (.seq (.reg 7 x20r7 none)
  .ret)))
def x20 : XFunc := ⟨19, 2, [.tmp 4], x20b⟩
theorem x20_ok : chkF Try.prog Try.f20 x20 = true := by kernel_rfl
theorem x20_eq : x20.body = x20b ∧ x20.res = [.tmp 4] ∧ x20.np = 2 := ⟨rfl, rfl, rfl⟩

abbrev x21r0 : List XOper := [
  ⟨(some 4), none, .mv (.c (.int .i64 0))⟩]
abbrev x21r1 : List XOper := [
  ⟨(some 5), none, .mv (.c (.int .i64 0))⟩]
abbrev x21r2 : List XOper := [
  ⟨(some 10), none, .mv (.t 1)⟩,
  ⟨(some 11), none, .lenV (.t 10)⟩,
  ⟨(some 12), none, .mv (.c (.int .i64 0))⟩]
abbrev x21r3 : List XOper := [
  ⟨(some 13), none, .bin .lss (.t 12) (.t 11)⟩]
abbrev x21r4 : List XOper := [
  ⟨(some 14), none, .iaS 3 (.t 10) (.t 12)⟩,
  ⟨(some 15), none, .load true 3 (.t 14)⟩,
  ⟨(some 7), none, .alloc [.nilp, (.int .i64 0), (.int .i64 0)]⟩,
  ⟨none, none, .store 3 (.t 7) (.t 15)⟩]
abbrev x21r5 : List XOper := [
  ⟨(some 16), none, .fa 0 (.t 7)⟩,
  ⟨(some 17), none, .load false 1 (.t 16)⟩,
  ⟨(some 18), none, .fa 0 (.t 7)⟩,
  ⟨(some 19), none, .load false 1 (.t 18)⟩,
  ⟨(some 20), none, .nilChk (.t 19)⟩,
  ⟨(some 21), none, .load false 1 (.t 20)⟩,
  ⟨(some 22), none, .fa 1 (.t 7)⟩,
  ⟨(some 23), none, .load false 1 (.t 22)⟩,
  ⟨(some 24), none, .bin .add (.t 21) (.t 23)⟩,
  ⟨(some 25), none, .mnx true (.c (.int .i64 0)) [(.t 24)]⟩,
  ⟨(some 26), none, .nilChk (.t 17)⟩,
  ⟨none, none, .store 1 (.t 26) (.t 25)⟩]
abbrev x21r6 : List XOper := [
  ⟨(some 27), none, .fa 0 (.t 7)⟩,
  ⟨(some 28), none, .load false 1 (.t 27)⟩,
  ⟨(some 29), none, .nilChk (.t 28)⟩,
  ⟨(some 30), none, .load false 1 (.t 29)⟩,
  ⟨(some 31), none, .mv (.t 0)⟩,
  ⟨(some 32), none, .bin .gtr (.t 30) (.t 31)⟩]
abbrev x21r7 : List XOper := [
  ⟨(some 33), none, .fa 2 (.t 7)⟩,
  ⟨(some 34), none, .load false 1 (.t 33)⟩,
  ⟨(some 5), none, .mv (.t 34)⟩]
abbrev x21r8 : List XOper := [
  ⟨(some 35), none, .bin .add (.t 12) (.c (.int .i64 1))⟩,
  ⟨(some 12), none, .mv (.t 35)⟩]
abbrev x21l3 : XCode :=
  (.seq (.reg 3 x21r3 none)
  (.seq (.cond (.t 13)
    .skip
    (.exit 0))
  (.seq (.block 1
    (.seq (.reg 4 x21r4 none)
    (.seq (.reg 5 x21r5 (some ⟨[]⟩))
    (.seq (.reg 6 x21r6 none)
    (.cond (.t 32)
      (.reg 7 x21r7 none)
      .skip)))))
  (.reg 8 x21r8 none))))
abbrev x21r9 : List XOper := [
  ⟨(some 36), none, .mv (.t 5)⟩,
  ⟨(some 37), none, .bin .neq (.t 36) (.c (.int .i64 0))⟩]
abbrev x21r10 : List XOper := [
  ⟨(some 38), none, .mv (.t 1)⟩,
  ⟨(some 39), none, .lenV (.t 38)⟩,
  ⟨(some 40), none, .mv (.c (.int .i64 0))⟩]
abbrev x21r11 : List XOper := [
  ⟨(some 41), none, .bin .lss (.t 40) (.t 39)⟩]
abbrev x21r12 : List XOper := [
  ⟨(some 42), none, .iaS 3 (.t 38) (.t 40)⟩,
  ⟨(some 43), none, .load true 3 (.t 42)⟩,
  ⟨(some 9), none, .alloc [.nilp, (.int .i64 0), (.int .i64 0)]⟩,
  ⟨none, none, .store 3 (.t 9) (.t 43)⟩]
abbrev x21r13 : List XOper := [
  ⟨(some 44), none, .fa 0 (.t 9)⟩,
  ⟨(some 45), none, .load false 1 (.t 44)⟩,
  ⟨(some 46), none, .nilChk (.t 45)⟩,
  ⟨none, none, .store 1 (.t 46) (.c (.int .i64 0))⟩]
abbrev x21r14 : List XOper := [
  ⟨(some 47), none, .bin .add (.t 40) (.c (.int .i64 1))⟩,
  ⟨(some 40), none, .mv (.t 47)⟩]
abbrev x21l12 : XCode :=
  (.seq (.reg 11 x21r11 none)
  (.seq (.cond (.t 41)
    .skip
    (.exit 2))
  (.seq (.block 3
    (.seq (.reg 12 x21r12 none)
    (.reg 13 x21r13 none)))
  (.reg 14 x21r14 none))))
abbrev x21r15 : List XOper := [
  ⟨(some 48), none, .mv (.t 5)⟩,
  ⟨(some 4), none, .mv (.t 48)⟩]
/-- datum/cusum.grow -/
abbrev x21b : XCode :=
  (.seq (.reg 0 x21r0 none)
  (.seq (.reg 1 x21r1 none)
  (.seq (.seq (.reg 2 x21r2 none)
  (.block 0
    (.loop x21l3)))
  (.seq (.seq (.reg 9 x21r9 none)
  (.cond (.t 37)
    (.seq (.reg 10 x21r10 none)
    (.block 2
      (.loop x21l12)))
    .skip))
  (.seq (.reg 15 x21r15 none)
  .ret)))))
def x21 : XFunc := ⟨49, 2, [.tmp 4], x21b⟩
theorem x21_ok : chkF Try.prog Try.f21 x21 = true := by kernel_rfl
theorem x21_eq : x21.body = x21b ∧ x21.res = [.tmp 4] ∧ x21.np = 2 := ⟨rfl, rfl, rfl⟩


def xf : FuncId → Option XFunc
  | 3 => some x3
  | 4 => some x4
  | 5 => some x5
  | 6 => some x6
  | 7 => some x7
  | 8 => some x8
  | 9 => some x9
  | 10 => some x10
  | 11 => some x11
  | 12 => some x12
  | 13 => some x13
  | 14 => some x14
  | 15 => some x15
  | 16 => some x16
  | 17 => some x17
  | 18 => some x18
  | 19 => some x19
  | 20 => some x20
  | 21 => some x21
  | _ => none
def C0 : Cfg := ⟨fun _ => none, xf⟩
theorem ok0 : CfgOk Try.prog C0 := by
  refine ⟨(fun g F h => by cases h), (fun g x h => ?_), by kernel_rfl⟩
  simp only [C0, xf] at h
  split at h
  · cases h; exact ⟨Try.f3, Try.func3, x3_ok⟩
  · cases h; exact ⟨Try.f4, Try.func4, x4_ok⟩
  · cases h; exact ⟨Try.f5, Try.func5, x5_ok⟩
  · cases h; exact ⟨Try.f6, Try.func6, x6_ok⟩
  · cases h; exact ⟨Try.f7, Try.func7, x7_ok⟩
  · cases h; exact ⟨Try.f8, Try.func8, x8_ok⟩
  · cases h; exact ⟨Try.f9, Try.func9, x9_ok⟩
  · cases h; exact ⟨Try.f10, Try.func10, x10_ok⟩
  · cases h; exact ⟨Try.f11, Try.func11, x11_ok⟩
  · cases h; exact ⟨Try.f12, Try.func12, x12_ok⟩
  · cases h; exact ⟨Try.f13, Try.func13, x13_ok⟩
  · cases h; exact ⟨Try.f14, Try.func14, x14_ok⟩
  · cases h; exact ⟨Try.f15, Try.func15, x15_ok⟩
  · cases h; exact ⟨Try.f16, Try.func16, x16_ok⟩
  · cases h; exact ⟨Try.f17, Try.func17, x17_ok⟩
  · cases h; exact ⟨Try.f18, Try.func18, x18_ok⟩
  · cases h; exact ⟨Try.f19, Try.func19, x19_ok⟩
  · cases h; exact ⟨Try.f20, Try.func20, x20_ok⟩
  · cases h; exact ⟨Try.f21, Try.func21, x21_ok⟩
  · cases h
end Go.Proofs.Ythnjboiecahbgaa
