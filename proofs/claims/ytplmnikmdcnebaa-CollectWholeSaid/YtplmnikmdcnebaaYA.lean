/-
  The functions that the statements reach, as the interpreter's texts, each checked against the translation.
-/
import Derived.Test.YtplmnikmdcnebaaXW
import Derived.Test.YtplmnikmdcnebaaRows
set_option linter.unusedVariables false
namespace Go.Proofs.Ytplmnikmdcnebaa
open Go Go.Xec

abbrev x3r0 : List XOper := [
  ⟨(some 2), none, .box (.t 0)⟩,
  ⟨(some 4), none, .mv (.c (.bool false))⟩]
abbrev x3r1 : List XOper := [
  ⟨(some 12), none, .load true 4 (.t 2)⟩,
  ⟨(some 13), none, .call (.c (.fn (.func 7) [] [])) [(.t 12)]⟩,
  ⟨(some 14), none, .mv (.t 1)⟩,
  ⟨(some 15), none, .mv (.t 1)⟩,
  ⟨(some 16), none, .lenV (.t 15)⟩,
  ⟨(some 17), none, .mnx false (.t 16) [(.c (.int .i64 200))]⟩,
  ⟨(some 18), none, .slV 1 (.t 14) none (some (.t 17)) none⟩,
  ⟨none, none, .store 4 (.t 2) (.t 13)⟩,
  ⟨(some 1), none, .mv (.t 18)⟩]
abbrev x3r2 : List XOper := [
  ⟨(some 20), none, .load true 4 (.t 2)⟩,
  ⟨(some 21), none, .mv (.t 1)⟩,
  ⟨(some 22), none, .call (.c (.fn (.func 8) [] [])) [(.t 20), (.t 21)]⟩,
  ⟨(some 19), none, .mv (.t 22)⟩,
  ⟨(some 23), none, .ext (.t 19) 0⟩,
  ⟨(some 24), none, .ext (.t 19) 1⟩,
  ⟨(some 25), none, .ext (.t 19) 2⟩,
  ⟨(some 26), none, .ext (.t 19) 3⟩,
  ⟨(some 5), none, .alloc [(.int .i64 0), (.int .i64 0), (.int .i64 0), .nils]⟩,
  ⟨none, none, .store 4 (.t 5) (.t 23)⟩,
  ⟨(some 6), none, .mv (.t 24)⟩,
  ⟨(some 7), none, .mv (.t 25)⟩,
  ⟨(some 8), none, .mv (.t 26)⟩]
abbrev x3r3 : List XOper := [
  ⟨(some 27), none, .load true 4 (.t 2)⟩,
  ⟨(some 28), none, .call (.c (.fn (.func 9) [] [])) [(.t 27)]⟩,
  ⟨(some 29), none, .un .not (.t 28)⟩]
abbrev x3r4 : List XOper := [
  ⟨(some 30), none, .call (.c (.fn (.func 10) [] [])) []⟩,
  ⟨(some 31), none, .mv (.t 30)⟩,
  ⟨(some 32), (some (31, true)), .mv (.t 8)⟩,
  ⟨(some 33), (some (31, true)), .bin .eql (.t 32) (.c (.int .i64 1))⟩,
  ⟨(some 34), none, .pick (.t 31) (.t 33) (.c (.bool false))⟩,
  ⟨(some 35), none, .mv (.t 34)⟩,
  ⟨(some 36), (some (35, true)), .mv (.t 7)⟩,
  ⟨(some 37), (some (35, true)), .bin .eql (.t 36) (.c (.int .i64 0))⟩,
  ⟨(some 38), none, .pick (.t 35) (.t 37) (.c (.bool false))⟩,
  ⟨(some 39), none, .mv (.t 38)⟩,
  ⟨(some 40), (some (39, true)), .mv (.t 6)⟩,
  ⟨(some 41), (some (39, true)), .lenV (.t 40)⟩,
  ⟨(some 42), (some (39, true)), .bin .eql (.t 41) (.c (.int .i64 0))⟩,
  ⟨(some 43), none, .pick (.t 39) (.t 42) (.c (.bool false))⟩,
  ⟨(some 44), none, .mv (.t 43)⟩,
  ⟨(some 45), (some (44, true)), .load true 4 (.t 5)⟩,
  ⟨(some 46), (some (44, true)), .build [(.int .i64 0), (.int .i64 0), (.int .i64 0), .nils] []⟩,
  ⟨(some 47), (some (44, true)), .call (.c (.fn (.func 11) [] [])) [(.t 45), (.t 46)]⟩,
  ⟨(some 48), none, .pick (.t 44) (.t 47) (.c (.bool false))⟩,
  ⟨(some 4), none, .mv (.t 48)⟩]
abbrev x3r5 : List XOper := [
  ⟨(some 50), none, .load true 4 (.t 2)⟩,
  ⟨(some 51), none, .mv (.t 1)⟩,
  ⟨(some 52), none, .call (.c (.fn (.func 12) [] [])) [(.t 50), (.t 51)]⟩,
  ⟨(some 49), none, .mv (.t 52)⟩,
  ⟨(some 53), none, .ext (.t 49) 0⟩,
  ⟨(some 54), none, .ext (.t 49) 1⟩,
  ⟨(some 55), none, .ext (.t 49) 2⟩,
  ⟨(some 9), none, .alloc [(.int .i64 0), (.int .i64 0), (.int .i64 0), .nils]⟩,
  ⟨none, none, .store 4 (.t 9) (.t 53)⟩,
  ⟨(some 10), none, .mv (.t 54)⟩,
  ⟨(some 11), none, .mv (.t 55)⟩]
abbrev x3r6 : List XOper := [
  ⟨(some 56), none, .call (.c (.fn (.func 10) [] [])) []⟩,
  ⟨(some 57), none, .mv (.t 56)⟩,
  ⟨(some 58), (some (57, true)), .mv (.t 8)⟩,
  ⟨(some 59), (some (57, true)), .bin .eql (.t 58) (.c (.int .i64 0))⟩,
  ⟨(some 60), none, .pick (.t 57) (.t 59) (.c (.bool false))⟩,
  ⟨(some 61), none, .mv (.t 60)⟩,
  ⟨(some 62), (some (61, true)), .mv (.t 7)⟩,
  ⟨(some 63), (some (61, true)), .mv (.t 11)⟩,
  ⟨(some 64), (some (61, true)), .bin .eql (.t 62) (.t 63)⟩,
  ⟨(some 65), none, .pick (.t 61) (.t 64) (.c (.bool false))⟩,
  ⟨(some 66), none, .mv (.t 65)⟩,
  ⟨(some 67), (some (66, true)), .load true 4 (.t 5)⟩,
  ⟨(some 68), (some (66, true)), .load true 4 (.t 9)⟩,
  ⟨(some 69), (some (66, true)), .call (.c (.fn (.func 11) [] [])) [(.t 67), (.t 68)]⟩,
  ⟨(some 70), none, .pick (.t 66) (.t 69) (.c (.bool false))⟩,
  ⟨(some 71), none, .mv (.t 70)⟩,
  ⟨(some 72), (some (71, true)), .mv (.t 6)⟩,
  ⟨(some 73), (some (71, true)), .mv (.t 10)⟩,
  ⟨(some 74), (some (71, true)), .call (.c (.fn (.func 13) [] [])) [(.t 72), (.t 73)]⟩,
  ⟨(some 75), none, .pick (.t 71) (.t 74) (.c (.bool false))⟩,
  ⟨(some 4), none, .mv (.t 75)⟩]
/-- datum/datumlaw10.CollectFeeds -/
abbrev x3b : XCode :=
  (.seq (.reg 0 x3r0 none)
  (.seq (.reg 1 x3r1 (some ⟨[]⟩))
  (.seq (.reg 2 x3r2 none)
  (.seq (.seq (.reg 3 x3r3 none)
  (.cond (.t 29)
    (.seq (.reg 4 x3r4 none)
    .ret)
    .skip))
  (.seq (.reg 5 x3r5 none)
  (.seq (.reg 6 x3r6 none)
  .ret))))))
def x3 : XFunc := ⟨76, 2, [.tmp 4], x3b⟩
theorem x3_ok : chkF Try.prog Try.f3 x3 = true := by kernel_rfl
theorem x3_eq : x3.body = x3b ∧ x3.res = [.tmp 4] ∧ x3.np = 2 := ⟨rfl, rfl, rfl⟩

abbrev x4r0 : List XOper := [
  ⟨(some 2), none, .box (.t 0)⟩,
  ⟨(some 4), none, .mv (.c (.bool false))⟩]
abbrev x4r1 : List XOper := [
  ⟨(some 15), none, .load true 4 (.t 2)⟩,
  ⟨(some 16), none, .call (.c (.fn (.func 7) [] [])) [(.t 15)]⟩,
  ⟨(some 17), none, .mv (.t 1)⟩,
  ⟨(some 18), none, .mv (.t 1)⟩,
  ⟨(some 19), none, .lenV (.t 18)⟩,
  ⟨(some 20), none, .mnx false (.t 19) [(.c (.int .i64 200))]⟩,
  ⟨(some 21), none, .slV 1 (.t 17) none (some (.t 20)) none⟩,
  ⟨none, none, .store 4 (.t 2) (.t 16)⟩,
  ⟨(some 1), none, .mv (.t 21)⟩]
abbrev x4r2 : List XOper := [
  ⟨(some 23), none, .load true 4 (.t 2)⟩,
  ⟨(some 24), none, .mv (.t 1)⟩,
  ⟨(some 25), none, .call (.c (.fn (.func 8) [] [])) [(.t 23), (.t 24)]⟩,
  ⟨(some 22), none, .mv (.t 25)⟩,
  ⟨(some 26), none, .ext (.t 22) 0⟩,
  ⟨(some 27), none, .ext (.t 22) 1⟩,
  ⟨(some 28), none, .ext (.t 22) 2⟩,
  ⟨(some 29), none, .ext (.t 22) 3⟩,
  ⟨(some 5), none, .alloc [(.int .i64 0), (.int .i64 0), (.int .i64 0), .nils]⟩,
  ⟨none, none, .store 4 (.t 5) (.t 26)⟩,
  ⟨(some 6), none, .mv (.t 27)⟩,
  ⟨(some 7), none, .mv (.t 28)⟩,
  ⟨(some 8), none, .mv (.t 29)⟩]
abbrev x4r3 : List XOper := [
  ⟨(some 30), none, .mv (.t 8)⟩,
  ⟨(some 31), none, .bin .neq (.t 30) (.c (.int .i64 0))⟩]
abbrev x4r4 : List XOper := [
  ⟨(some 32), none, .call (.c (.fn (.func 10) [] [])) []⟩,
  ⟨(some 33), none, .mv (.t 32)⟩,
  ⟨(some 34), (some (33, true)), .mv (.t 6)⟩,
  ⟨(some 35), (some (33, true)), .lenV (.t 34)⟩,
  ⟨(some 36), (some (33, true)), .bin .eql (.t 35) (.c (.int .i64 0))⟩,
  ⟨(some 37), none, .pick (.t 33) (.t 36) (.c (.bool false))⟩,
  ⟨(some 38), none, .mv (.t 37)⟩,
  ⟨(some 39), (some (38, true)), .mv (.t 7)⟩,
  ⟨(some 40), (some (38, true)), .bin .eql (.t 39) (.c (.int .i64 0))⟩,
  ⟨(some 41), none, .pick (.t 38) (.t 40) (.c (.bool false))⟩,
  ⟨(some 4), none, .mv (.t 41)⟩]
abbrev x4r5 : List XOper := [
  ⟨(some 9), none, .mv (.c .nils)⟩]
abbrev x4r6 : List XOper := [
  ⟨(some 42), none, .mv (.t 6)⟩,
  ⟨(some 43), none, .lenV (.t 42)⟩,
  ⟨(some 44), none, .mv (.c (.int .i64 0))⟩]
abbrev x4r7 : List XOper := [
  ⟨(some 45), none, .bin .lss (.t 44) (.t 43)⟩]
abbrev x4r8 : List XOper := [
  ⟨(some 46), none, .iaS 1 (.t 42) (.t 44)⟩,
  ⟨(some 47), none, .load false 1 (.t 46)⟩,
  ⟨(some 11), none, .mv (.t 47)⟩]
abbrev x4r9 : List XOper := [
  ⟨(some 48), none, .mv (.t 11)⟩,
  ⟨(some 49), none, .lenV (.t 48)⟩,
  ⟨(some 50), none, .fa 0 (.t 2)⟩,
  ⟨(some 51), none, .load false 1 (.t 50)⟩,
  ⟨(some 52), none, .bin .neq (.t 49) (.t 51)⟩]
abbrev x4r10 : List XOper := [
  ⟨(some 4), none, .mv (.c (.bool false))⟩]
abbrev x4r11 : List XOper := [
  ⟨(some 53), none, .mv (.t 9)⟩,
  ⟨(some 54), none, .mv (.t 11)⟩,
  ⟨(some 55), none, .app 1 8 (.t 53) (.t 54)⟩,
  ⟨(some 9), none, .mv (.t 55)⟩]
abbrev x4r12 : List XOper := [
  ⟨(some 56), none, .bin .add (.t 44) (.c (.int .i64 1))⟩,
  ⟨(some 44), none, .mv (.t 56)⟩]
abbrev x4l7 : XCode :=
  (.seq (.reg 7 x4r7 none)
  (.seq (.cond (.t 45)
    .skip
    (.exit 0))
  (.seq (.block 1
    (.seq (.reg 8 x4r8 none)
    (.seq (.seq (.reg 9 x4r9 none)
    (.cond (.t 52)
      (.seq (.reg 10 x4r10 none)
      .ret)
      .skip))
    (.reg 11 x4r11 none))))
  (.reg 12 x4r12 none))))
abbrev x4r13 : List XOper := [
  ⟨(some 57), none, .mv (.t 9)⟩,
  ⟨(some 58), none, .fa 3 (.t 5)⟩,
  ⟨(some 59), none, .load false 1 (.t 58)⟩,
  ⟨(some 60), none, .app 1 8 (.t 57) (.t 59)⟩,
  ⟨(some 9), none, .mv (.t 60)⟩]
abbrev x4r14 : List XOper := [
  ⟨(some 61), none, .mkslice 1 (.int .i64 0) 0 []⟩,
  ⟨(some 62), none, .fa 3 (.t 2)⟩,
  ⟨(some 63), none, .load false 1 (.t 62)⟩,
  ⟨(some 64), none, .app 1 8 (.t 61) (.t 63)⟩,
  ⟨(some 12), none, .mv (.t 64)⟩]
abbrev x4r15 : List XOper := [
  ⟨(some 65), none, .mv (.t 1)⟩,
  ⟨(some 66), none, .lenV (.t 65)⟩,
  ⟨(some 67), none, .mv (.c (.int .i64 0))⟩]
abbrev x4r16 : List XOper := [
  ⟨(some 68), none, .bin .lss (.t 67) (.t 66)⟩]
abbrev x4r17 : List XOper := [
  ⟨(some 69), none, .iaS 1 (.t 65) (.t 67)⟩,
  ⟨(some 70), none, .load false 1 (.t 69)⟩,
  ⟨(some 14), none, .mv (.t 70)⟩]
abbrev x4r18 : List XOper := [
  ⟨(some 71), none, .mv (.t 14)⟩,
  ⟨(some 72), none, .fa 1 (.t 2)⟩,
  ⟨(some 73), none, .load false 1 (.t 72)⟩,
  ⟨(some 74), none, .bin .geq (.t 71) (.t 73)⟩,
  ⟨(some 75), none, .mv (.t 74)⟩,
  ⟨(some 76), (some (75, true)), .mv (.t 14)⟩,
  ⟨(some 77), (some (75, true)), .fa 2 (.t 2)⟩,
  ⟨(some 78), (some (75, true)), .load false 1 (.t 77)⟩,
  ⟨(some 79), (some (75, true)), .bin .leq (.t 76) (.t 78)⟩,
  ⟨(some 80), none, .pick (.t 75) (.t 79) (.c (.bool false))⟩]
abbrev x4r19 : List XOper := [
  ⟨(some 81), none, .mv (.t 12)⟩,
  ⟨(some 82), none, .mv (.t 14)⟩,
  ⟨(some 83), none, .mkslice 1 (.int .i64 0) 1 [(0, (.t 82))]⟩,
  ⟨(some 84), none, .app 1 8 (.t 81) (.t 83)⟩,
  ⟨(some 12), none, .mv (.t 84)⟩]
abbrev x4r20 : List XOper := [
  ⟨(some 85), none, .bin .add (.t 67) (.c (.int .i64 1))⟩,
  ⟨(some 67), none, .mv (.t 85)⟩]
abbrev x4l17 : XCode :=
  (.seq (.reg 16 x4r16 none)
  (.seq (.cond (.t 68)
    .skip
    (.exit 2))
  (.seq (.block 3
    (.seq (.reg 17 x4r17 none)
    (.seq (.reg 18 x4r18 none)
    (.cond (.t 80)
      (.reg 19 x4r19 none)
      .skip))))
  (.reg 20 x4r20 none))))
abbrev x4r21 : List XOper := [
  ⟨(some 86), none, .call (.c (.fn (.func 10) [] [])) []⟩,
  ⟨(some 87), none, .mv (.t 86)⟩,
  ⟨(some 88), (some (87, true)), .fa 3 (.t 5)⟩,
  ⟨(some 89), (some (87, true)), .load false 1 (.t 88)⟩,
  ⟨(some 90), (some (87, true)), .lenV (.t 89)⟩,
  ⟨(some 91), (some (87, true)), .fa 0 (.t 2)⟩,
  ⟨(some 92), (some (87, true)), .load false 1 (.t 91)⟩,
  ⟨(some 93), (some (87, true)), .bin .lss (.t 90) (.t 92)⟩,
  ⟨(some 94), none, .pick (.t 87) (.t 93) (.c (.bool false))⟩,
  ⟨(some 95), none, .mv (.t 94)⟩,
  ⟨(some 96), (some (95, true)), .fa 0 (.t 5)⟩,
  ⟨(some 97), (some (95, true)), .load false 1 (.t 96)⟩,
  ⟨(some 98), (some (95, true)), .fa 0 (.t 2)⟩,
  ⟨(some 99), (some (95, true)), .load false 1 (.t 98)⟩,
  ⟨(some 100), (some (95, true)), .bin .eql (.t 97) (.t 99)⟩,
  ⟨(some 101), none, .pick (.t 95) (.t 100) (.c (.bool false))⟩,
  ⟨(some 102), none, .mv (.t 101)⟩,
  ⟨(some 103), (some (102, true)), .fa 1 (.t 5)⟩,
  ⟨(some 104), (some (102, true)), .load false 1 (.t 103)⟩,
  ⟨(some 105), (some (102, true)), .fa 1 (.t 2)⟩,
  ⟨(some 106), (some (102, true)), .load false 1 (.t 105)⟩,
  ⟨(some 107), (some (102, true)), .bin .eql (.t 104) (.t 106)⟩,
  ⟨(some 108), none, .pick (.t 102) (.t 107) (.c (.bool false))⟩,
  ⟨(some 109), none, .mv (.t 108)⟩,
  ⟨(some 110), (some (109, true)), .fa 2 (.t 5)⟩,
  ⟨(some 111), (some (109, true)), .load false 1 (.t 110)⟩,
  ⟨(some 112), (some (109, true)), .fa 2 (.t 2)⟩,
  ⟨(some 113), (some (109, true)), .load false 1 (.t 112)⟩,
  ⟨(some 114), (some (109, true)), .bin .eql (.t 111) (.t 113)⟩,
  ⟨(some 115), none, .pick (.t 109) (.t 114) (.c (.bool false))⟩,
  ⟨(some 116), none, .mv (.t 115)⟩,
  ⟨(some 117), (some (116, true)), .mv (.t 9)⟩,
  ⟨(some 118), (some (116, true)), .mv (.t 12)⟩,
  ⟨(some 119), (some (116, true)), .call (.c (.fn (.func 14) [] [])) [(.t 117), (.t 118)]⟩,
  ⟨(some 120), none, .pick (.t 116) (.t 119) (.c (.bool false))⟩,
  ⟨(some 121), none, .mv (.t 120)⟩,
  ⟨(some 122), (some (121, true)), .mv (.t 7)⟩,
  ⟨(some 123), (some (121, true)), .fa 3 (.t 2)⟩,
  ⟨(some 124), (some (121, true)), .load false 1 (.t 123)⟩,
  ⟨(some 125), (some (121, true)), .lenV (.t 124)⟩,
  ⟨(some 126), (some (121, true)), .mv (.t 1)⟩,
  ⟨(some 127), (some (121, true)), .lenV (.t 126)⟩,
  ⟨(some 128), (some (121, true)), .bin .add (.t 125) (.t 127)⟩,
  ⟨(some 129), (some (121, true)), .mv (.t 12)⟩,
  ⟨(some 130), (some (121, true)), .lenV (.t 129)⟩,
  ⟨(some 131), (some (121, true)), .bin .sub (.t 128) (.t 130)⟩,
  ⟨(some 132), (some (121, true)), .bin .eql (.t 122) (.t 131)⟩,
  ⟨(some 133), none, .pick (.t 121) (.t 132) (.c (.bool false))⟩,
  ⟨(some 4), none, .mv (.t 133)⟩]
/-- datum/datumlaw10.CollectWhole -/
abbrev x4b : XCode :=
  (.seq (.reg 0 x4r0 none)
  (.seq (.reg 1 x4r1 (some ⟨[]⟩))
  (.seq (.reg 2 x4r2 none)
  (.seq (.seq (.reg 3 x4r3 none)
  (.cond (.t 31)
    (.seq (.reg 4 x4r4 none)
    .ret)
    .skip))
  (.seq (.reg 5 x4r5 none)
  (.seq (.seq (.reg 6 x4r6 none)
  (.block 0
    (.loop x4l7)))
  (.seq (.reg 13 x4r13 none)
  (.seq (.reg 14 x4r14 none)
  (.seq (.seq (.reg 15 x4r15 none)
  (.block 2
    (.loop x4l17)))
  (.seq (.reg 21 x4r21 none)
  .ret))))))))))
def x4 : XFunc := ⟨134, 2, [.tmp 4], x4b⟩
theorem x4_ok : chkF Try.prog Try.f4 x4 = true := by kernel_rfl
theorem x4_eq : x4.body = x4b ∧ x4.res = [.tmp 4] ∧ x4.np = 2 := ⟨rfl, rfl, rfl⟩

abbrev x5r0 : List XOper := [
  ⟨(some 3), none, .box (.t 0)⟩,
  ⟨(some 6), none, .mv (.c (.bool false))⟩]
abbrev x5r1 : List XOper := [
  ⟨(some 24), none, .load true 4 (.t 3)⟩,
  ⟨(some 25), none, .call (.c (.fn (.func 7) [] [])) [(.t 24)]⟩,
  ⟨(some 26), none, .mv (.t 1)⟩,
  ⟨(some 27), none, .mv (.t 1)⟩,
  ⟨(some 28), none, .lenV (.t 27)⟩,
  ⟨(some 29), none, .mnx false (.t 28) [(.c (.int .i64 200))]⟩,
  ⟨(some 30), none, .slV 1 (.t 26) none (some (.t 29)) none⟩,
  ⟨none, none, .store 4 (.t 3) (.t 25)⟩,
  ⟨(some 1), none, .mv (.t 30)⟩]
abbrev x5r2 : List XOper := [
  ⟨(some 31), none, .mv (.t 2)⟩,
  ⟨(some 32), none, .mv (.t 1)⟩,
  ⟨(some 33), none, .lenV (.t 32)⟩,
  ⟨(some 34), none, .bin .add (.t 33) (.c (.int .i64 1))⟩,
  ⟨(some 35), none, .bin .rem (.t 31) (.t 34)⟩,
  ⟨(some 36), none, .mv (.t 1)⟩,
  ⟨(some 37), none, .lenV (.t 36)⟩,
  ⟨(some 38), none, .bin .add (.t 35) (.t 37)⟩,
  ⟨(some 39), none, .bin .add (.t 38) (.c (.int .i64 1))⟩,
  ⟨(some 40), none, .mv (.t 1)⟩,
  ⟨(some 41), none, .lenV (.t 40)⟩,
  ⟨(some 42), none, .bin .add (.t 41) (.c (.int .i64 1))⟩,
  ⟨(some 43), none, .bin .rem (.t 39) (.t 42)⟩,
  ⟨(some 2), none, .mv (.t 43)⟩]
abbrev x5r3 : List XOper := [
  ⟨(some 45), none, .load true 4 (.t 3)⟩,
  ⟨(some 46), none, .mv (.t 1)⟩,
  ⟨(some 47), none, .call (.c (.fn (.func 8) [] [])) [(.t 45), (.t 46)]⟩,
  ⟨(some 44), none, .mv (.t 47)⟩,
  ⟨(some 48), none, .ext (.t 44) 0⟩,
  ⟨(some 49), none, .ext (.t 44) 1⟩,
  ⟨(some 50), none, .ext (.t 44) 2⟩,
  ⟨(some 51), none, .ext (.t 44) 3⟩,
  ⟨(some 7), none, .alloc [(.int .i64 0), (.int .i64 0), (.int .i64 0), .nils]⟩,
  ⟨none, none, .store 4 (.t 7) (.t 48)⟩,
  ⟨(some 8), none, .mv (.t 49)⟩,
  ⟨(some 9), none, .mv (.t 50)⟩,
  ⟨(some 10), none, .mv (.t 51)⟩]
abbrev x5r4 : List XOper := [
  ⟨(some 52), none, .mv (.t 10)⟩,
  ⟨(some 53), none, .bin .neq (.t 52) (.c (.int .i64 0))⟩]
abbrev x5r5 : List XOper := [
  ⟨(some 54), none, .call (.c (.fn (.func 10) [] [])) []⟩,
  ⟨(some 55), none, .mv (.t 54)⟩,
  ⟨(some 56), (some (55, true)), .mv (.t 8)⟩,
  ⟨(some 57), (some (55, true)), .lenV (.t 56)⟩,
  ⟨(some 58), (some (55, true)), .bin .eql (.t 57) (.c (.int .i64 0))⟩,
  ⟨(some 59), none, .pick (.t 55) (.t 58) (.c (.bool false))⟩,
  ⟨(some 6), none, .mv (.t 59)⟩]
abbrev x5r6 : List XOper := [
  ⟨(some 61), none, .load true 4 (.t 3)⟩,
  ⟨(some 62), none, .mv (.t 1)⟩,
  ⟨(some 63), none, .mv (.t 2)⟩,
  ⟨(some 64), none, .slV 1 (.t 62) none (some (.t 63)) none⟩,
  ⟨(some 65), none, .call (.c (.fn (.func 8) [] [])) [(.t 61), (.t 64)]⟩,
  ⟨(some 60), none, .mv (.t 65)⟩,
  ⟨(some 66), none, .ext (.t 60) 0⟩,
  ⟨(some 67), none, .ext (.t 60) 1⟩,
  ⟨(some 68), none, .ext (.t 60) 2⟩,
  ⟨(some 69), none, .ext (.t 60) 3⟩,
  ⟨(some 11), none, .alloc [(.int .i64 0), (.int .i64 0), (.int .i64 0), .nils]⟩,
  ⟨none, none, .store 4 (.t 11) (.t 66)⟩,
  ⟨(some 12), none, .mv (.t 67)⟩,
  ⟨(some 13), none, .mv (.t 68)⟩,
  ⟨(some 14), none, .mv (.t 69)⟩]
abbrev x5r7 : List XOper := [
  ⟨(some 71), none, .load true 4 (.t 11)⟩,
  ⟨(some 72), none, .mv (.t 1)⟩,
  ⟨(some 73), none, .mv (.t 2)⟩,
  ⟨(some 74), none, .slV 1 (.t 72) (some (.t 73)) none none⟩,
  ⟨(some 75), none, .call (.c (.fn (.func 8) [] [])) [(.t 71), (.t 74)]⟩,
  ⟨(some 70), none, .mv (.t 75)⟩,
  ⟨(some 76), none, .ext (.t 70) 0⟩,
  ⟨(some 77), none, .ext (.t 70) 1⟩,
  ⟨(some 78), none, .ext (.t 70) 2⟩,
  ⟨(some 79), none, .ext (.t 70) 3⟩,
  ⟨(some 15), none, .alloc [(.int .i64 0), (.int .i64 0), (.int .i64 0), .nils]⟩,
  ⟨none, none, .store 4 (.t 15) (.t 76)⟩,
  ⟨(some 16), none, .mv (.t 77)⟩,
  ⟨(some 17), none, .mv (.t 78)⟩,
  ⟨(some 18), none, .mv (.t 79)⟩]
abbrev x5r8 : List XOper := [
  ⟨(some 80), none, .mv (.t 14)⟩,
  ⟨(some 81), none, .bin .neq (.t 80) (.c (.int .i64 0))⟩,
  ⟨(some 82), none, .mv (.t 81)⟩,
  ⟨(some 83), (some (82, false)), .mv (.t 18)⟩,
  ⟨(some 84), (some (82, false)), .bin .neq (.t 83) (.c (.int .i64 0))⟩,
  ⟨(some 85), none, .pick (.t 82) (.c (.bool true)) (.t 84)⟩,
  ⟨(some 86), none, .mv (.t 85)⟩,
  ⟨(some 87), (some (86, false)), .mv (.t 9)⟩,
  ⟨(some 88), (some (86, false)), .mv (.t 13)⟩,
  ⟨(some 89), (some (86, false)), .mv (.t 17)⟩,
  ⟨(some 90), (some (86, false)), .bin .add (.t 88) (.t 89)⟩,
  ⟨(some 91), (some (86, false)), .bin .neq (.t 87) (.t 90)⟩,
  ⟨(some 92), none, .pick (.t 86) (.c (.bool true)) (.t 91)⟩,
  ⟨(some 93), none, .mv (.t 92)⟩,
  ⟨(some 94), (some (93, false)), .load true 4 (.t 7)⟩,
  ⟨(some 95), (some (93, false)), .load true 4 (.t 15)⟩,
  ⟨(some 96), (some (93, false)), .call (.c (.fn (.func 11) [] [])) [(.t 94), (.t 95)]⟩,
  ⟨(some 97), (some (93, false)), .un .not (.t 96)⟩,
  ⟨(some 98), none, .pick (.t 93) (.c (.bool true)) (.t 97)⟩,
  ⟨(some 99), none, .mv (.t 98)⟩,
  ⟨(some 100), (some (99, false)), .mv (.t 8)⟩,
  ⟨(some 101), (some (99, false)), .mkslice 1 .nils 0 []⟩,
  ⟨(some 102), (some (99, false)), .mv (.t 12)⟩,
  ⟨(some 103), (some (99, false)), .app 1 24 (.t 101) (.t 102)⟩,
  ⟨(some 104), (some (99, false)), .mv (.t 16)⟩,
  ⟨(some 105), (some (99, false)), .app 1 24 (.t 103) (.t 104)⟩,
  ⟨(some 106), (some (99, false)), .call (.c (.fn (.func 13) [] [])) [(.t 100), (.t 105)]⟩,
  ⟨(some 107), (some (99, false)), .un .not (.t 106)⟩,
  ⟨(some 108), none, .pick (.t 99) (.c (.bool true)) (.t 107)⟩,
  ⟨(some 109), none, .mv (.t 108)⟩,
  ⟨(some 110), (some (109, false)), .call (.c (.fn (.func 10) [] [])) []⟩,
  ⟨(some 111), (some (109, false)), .un .not (.t 110)⟩,
  ⟨(some 112), none, .pick (.t 109) (.c (.bool true)) (.t 111)⟩]
abbrev x5r9 : List XOper := [
  ⟨(some 6), none, .mv (.c (.bool false))⟩]
abbrev x5r10 : List XOper := [
  ⟨(some 114), none, .load true 4 (.t 11)⟩,
  ⟨(some 115), none, .call (.c (.fn (.func 15) [] [])) [(.t 114)]⟩,
  ⟨(some 113), none, .mv (.t 115)⟩,
  ⟨(some 116), none, .ext (.t 113) 0⟩,
  ⟨(some 117), none, .ext (.t 113) 1⟩,
  ⟨(some 118), none, .ext (.t 113) 2⟩,
  ⟨(some 19), none, .alloc [(.int .i64 0), (.int .i64 0), (.int .i64 0), .nils]⟩,
  ⟨none, none, .store 4 (.t 19) (.t 116)⟩,
  ⟨(some 20), none, .mv (.t 117)⟩,
  ⟨(some 21), none, .mv (.t 118)⟩]
abbrev x5r11 : List XOper := [
  ⟨(some 120), none, .fa 0 (.t 3)⟩,
  ⟨(some 121), none, .load false 1 (.t 120)⟩,
  ⟨(some 122), none, .fa 1 (.t 3)⟩,
  ⟨(some 123), none, .load false 1 (.t 122)⟩,
  ⟨(some 124), none, .fa 2 (.t 3)⟩,
  ⟨(some 125), none, .load false 1 (.t 124)⟩,
  ⟨(some 126), none, .call (.c (.fn (.func 16) [] [])) [(.t 121), (.t 123), (.t 125)]⟩,
  ⟨(some 119), none, .mv (.t 126)⟩,
  ⟨(some 127), none, .ext (.t 119) 0⟩,
  ⟨(some 128), none, .ext (.t 119) 1⟩,
  ⟨(some 22), none, .alloc [(.int .i64 0), (.int .i64 0), (.int .i64 0), .nils]⟩,
  ⟨none, none, .store 4 (.t 22) (.t 127)⟩,
  ⟨(some 23), none, .mv (.t 128)⟩]
abbrev x5r12 : List XOper := [
  ⟨(some 129), none, .mv (.t 21)⟩,
  ⟨(some 130), none, .bin .eql (.t 129) (.c (.int .i64 0))⟩,
  ⟨(some 131), none, .mv (.t 130)⟩,
  ⟨(some 132), (some (131, true)), .mv (.t 23)⟩,
  ⟨(some 133), (some (131, true)), .bin .eql (.t 132) (.c (.int .i64 0))⟩,
  ⟨(some 134), none, .pick (.t 131) (.t 133) (.c (.bool false))⟩,
  ⟨(some 135), none, .mv (.t 134)⟩,
  ⟨(some 136), (some (135, true)), .mv (.t 20)⟩,
  ⟨(some 137), (some (135, true)), .fa 3 (.t 11)⟩,
  ⟨(some 138), (some (135, true)), .load false 1 (.t 137)⟩,
  ⟨(some 139), (some (135, true)), .lenV (.t 138)⟩,
  ⟨(some 140), (some (135, true)), .bin .eql (.t 136) (.t 139)⟩,
  ⟨(some 141), none, .pick (.t 135) (.t 140) (.c (.bool false))⟩,
  ⟨(some 142), none, .mv (.t 141)⟩,
  ⟨(some 143), (some (142, true)), .load true 4 (.t 19)⟩,
  ⟨(some 144), (some (142, true)), .load true 4 (.t 22)⟩,
  ⟨(some 145), (some (142, true)), .call (.c (.fn (.func 11) [] [])) [(.t 143), (.t 144)]⟩,
  ⟨(some 146), none, .pick (.t 142) (.t 145) (.c (.bool false))⟩,
  ⟨(some 6), none, .mv (.t 146)⟩]
/-- datum/datumlaw10.CollectParts -/
abbrev x5b : XCode :=
  (.seq (.reg 0 x5r0 none)
  (.seq (.reg 1 x5r1 (some ⟨[]⟩))
  (.seq (.reg 2 x5r2 none)
  (.seq (.reg 3 x5r3 none)
  (.seq (.seq (.reg 4 x5r4 none)
  (.cond (.t 53)
    (.seq (.reg 5 x5r5 none)
    .ret)
    .skip))
  (.seq (.reg 6 x5r6 (some ⟨[(0, 10), (4, 10)]⟩))
  (.seq (.reg 7 x5r7 (some ⟨[(0, 10), (4, 10)]⟩))
  (.seq (.seq (.reg 8 x5r8 none)
  (.cond (.t 112)
    (.seq (.reg 9 x5r9 none)
    .ret)
    .skip))
  (.seq (.reg 10 x5r10 none)
  (.seq (.reg 11 x5r11 none)
  (.seq (.reg 12 x5r12 none)
  .ret)))))))))))
def x5 : XFunc := ⟨147, 3, [.tmp 6], x5b⟩
theorem x5_ok : chkF Try.prog Try.f5 x5 = true := by kernel_rfl
theorem x5_eq : x5.body = x5b ∧ x5.res = [.tmp 6] ∧ x5.np = 3 := ⟨rfl, rfl, rfl⟩

abbrev x6r0 : List XOper := [
  ⟨(some 8), none, .box (.t 3)⟩,
  ⟨(some 10), none, .mv (.c (.bool false))⟩]
abbrev x6r1 : List XOper := [
  ⟨(some 21), none, .load true 4 (.t 8)⟩,
  ⟨(some 22), none, .call (.c (.fn (.func 7) [] [])) [(.t 21)]⟩,
  ⟨none, none, .store 4 (.t 8) (.t 22)⟩]
abbrev x6r2 : List XOper := [
  ⟨(some 24), none, .mv (.t 0)⟩,
  ⟨(some 25), none, .mv (.t 1)⟩,
  ⟨(some 26), none, .mv (.t 2)⟩,
  ⟨(some 27), none, .call (.c (.fn (.func 16) [] [])) [(.t 24), (.t 25), (.t 26)]⟩,
  ⟨(some 23), none, .mv (.t 27)⟩,
  ⟨(some 28), none, .ext (.t 23) 0⟩,
  ⟨(some 29), none, .ext (.t 23) 1⟩,
  ⟨(some 11), none, .alloc [(.int .i64 0), (.int .i64 0), (.int .i64 0), .nils]⟩,
  ⟨none, none, .store 4 (.t 11) (.t 28)⟩,
  ⟨(some 12), none, .mv (.t 29)⟩]
abbrev x6r3 : List XOper := [
  ⟨(some 31), none, .load true 4 (.t 8)⟩,
  ⟨(some 32), none, .mv (.t 4)⟩,
  ⟨(some 33), none, .call (.c (.fn (.func 17) [] [])) [(.t 31), (.t 32)]⟩,
  ⟨(some 30), none, .mv (.t 33)⟩,
  ⟨(some 34), none, .ext (.t 30) 0⟩,
  ⟨(some 35), none, .ext (.t 30) 1⟩,
  ⟨(some 36), none, .ext (.t 30) 2⟩,
  ⟨(some 13), none, .alloc [(.int .i64 0), (.int .i64 0), (.int .i64 0), .nils]⟩,
  ⟨none, none, .store 4 (.t 13) (.t 34)⟩,
  ⟨(some 14), none, .mv (.t 35)⟩,
  ⟨(some 15), none, .mv (.t 36)⟩]
abbrev x6r4 : List XOper := [
  ⟨(some 38), none, .load true 4 (.t 8)⟩,
  ⟨(some 39), none, .call (.c (.fn (.func 15) [] [])) [(.t 38)]⟩,
  ⟨(some 37), none, .mv (.t 39)⟩,
  ⟨(some 40), none, .ext (.t 37) 0⟩,
  ⟨(some 41), none, .ext (.t 37) 1⟩,
  ⟨(some 42), none, .ext (.t 37) 2⟩,
  ⟨(some 16), none, .alloc [(.int .i64 0), (.int .i64 0), (.int .i64 0), .nils]⟩,
  ⟨none, none, .store 4 (.t 16) (.t 40)⟩,
  ⟨(some 17), none, .mv (.t 41)⟩,
  ⟨(some 18), none, .mv (.t 42)⟩]
abbrev x6r5 : List XOper := [
  ⟨(some 43), none, .load true 4 (.t 8)⟩,
  ⟨(some 44), none, .call (.c (.fn (.func 18) [] [])) [(.t 43)]⟩,
  ⟨(some 45), none, .load true 4 (.t 8)⟩,
  ⟨(some 46), none, .call (.c (.fn (.func 9) [] [])) [(.t 45)]⟩,
  ⟨(some 47), none, .eqB true (.t 44) (.t 46)⟩,
  ⟨(some 48), none, .mv (.t 47)⟩,
  ⟨(some 49), (some (48, false)), .call (.c (.fn (.func 10) [] [])) []⟩,
  ⟨(some 50), (some (48, false)), .un .not (.t 49)⟩,
  ⟨(some 51), none, .pick (.t 48) (.c (.bool true)) (.t 50)⟩]
abbrev x6r6 : List XOper := [
  ⟨(some 10), none, .mv (.c (.bool false))⟩]
abbrev x6r7 : List XOper := [
  ⟨(some 52), none, .mv (.t 0)⟩,
  ⟨(some 53), none, .mv (.t 1)⟩,
  ⟨(some 54), none, .mv (.t 2)⟩,
  ⟨(some 55), none, .call (.c (.fn (.func 19) [] [])) [(.t 52), (.t 53), (.t 54)]⟩,
  ⟨(some 56), none, .un .not (.t 55)⟩]
abbrev x6r8 : List XOper := [
  ⟨(some 57), none, .mv (.t 12)⟩,
  ⟨(some 58), none, .bin .neq (.t 57) (.c (.int .i64 1))⟩,
  ⟨(some 59), none, .mv (.t 58)⟩,
  ⟨(some 60), (some (59, false)), .load true 4 (.t 11)⟩,
  ⟨(some 61), (some (59, false)), .build [(.int .i64 0), (.int .i64 0), (.int .i64 0), .nils] []⟩,
  ⟨(some 62), (some (59, false)), .call (.c (.fn (.func 11) [] [])) [(.t 60), (.t 61)]⟩,
  ⟨(some 63), (some (59, false)), .un .not (.t 62)⟩,
  ⟨(some 64), none, .pick (.t 59) (.c (.bool true)) (.t 63)⟩]
abbrev x6r9 : List XOper := [
  ⟨(some 10), none, .mv (.c (.bool false))⟩]
abbrev x6r10 : List XOper := [
  ⟨(some 65), none, .mv (.t 12)⟩,
  ⟨(some 66), none, .bin .neq (.t 65) (.c (.int .i64 0))⟩,
  ⟨(some 67), none, .mv (.t 66)⟩,
  ⟨(some 68), (some (67, false)), .load true 4 (.t 11)⟩,
  ⟨(some 69), (some (67, false)), .mv (.t 0)⟩,
  ⟨(some 70), (some (67, false)), .mv (.t 1)⟩,
  ⟨(some 71), (some (67, false)), .mv (.t 2)⟩,
  ⟨(some 72), (some (67, false)), .build [(.int .i64 0), (.int .i64 0), (.int .i64 0), .nils] [(0, 1, (.t 69)), (1, 1, (.t 70)), (2, 1, (.t 71))]⟩,
  ⟨(some 73), (some (67, false)), .call (.c (.fn (.func 11) [] [])) [(.t 68), (.t 72)]⟩,
  ⟨(some 74), (some (67, false)), .un .not (.t 73)⟩,
  ⟨(some 75), none, .pick (.t 67) (.c (.bool true)) (.t 74)⟩]
abbrev x6r11 : List XOper := [
  ⟨(some 10), none, .mv (.c (.bool false))⟩]
abbrev x6r12 : List XOper := [
  ⟨(some 76), none, .load true 4 (.t 8)⟩,
  ⟨(some 77), none, .call (.c (.fn (.func 9) [] [])) [(.t 76)]⟩,
  ⟨(some 78), none, .un .not (.t 77)⟩]
abbrev x6r13 : List XOper := [
  ⟨(some 79), none, .mv (.t 15)⟩,
  ⟨(some 80), none, .bin .eql (.t 79) (.c (.int .i64 1))⟩,
  ⟨(some 81), none, .mv (.t 80)⟩,
  ⟨(some 82), (some (81, true)), .mv (.t 18)⟩,
  ⟨(some 83), (some (81, true)), .bin .eql (.t 82) (.c (.int .i64 1))⟩,
  ⟨(some 84), none, .pick (.t 81) (.t 83) (.c (.bool false))⟩,
  ⟨(some 85), none, .mv (.t 84)⟩,
  ⟨(some 86), (some (85, true)), .mv (.t 17)⟩,
  ⟨(some 87), (some (85, true)), .bin .eql (.t 86) (.c (.int .i64 0))⟩,
  ⟨(some 88), none, .pick (.t 85) (.t 87) (.c (.bool false))⟩,
  ⟨(some 89), none, .mv (.t 88)⟩,
  ⟨(some 90), (some (89, true)), .mv (.t 14)⟩,
  ⟨(some 91), (some (89, true)), .lenV (.t 90)⟩,
  ⟨(some 92), (some (89, true)), .bin .eql (.t 91) (.c (.int .i64 0))⟩,
  ⟨(some 93), none, .pick (.t 89) (.t 92) (.c (.bool false))⟩,
  ⟨(some 94), none, .mv (.t 93)⟩,
  ⟨(some 95), (some (94, true)), .load true 4 (.t 13)⟩,
  ⟨(some 96), (some (94, true)), .build [(.int .i64 0), (.int .i64 0), (.int .i64 0), .nils] []⟩,
  ⟨(some 97), (some (94, true)), .call (.c (.fn (.func 11) [] [])) [(.t 95), (.t 96)]⟩,
  ⟨(some 98), none, .pick (.t 94) (.t 97) (.c (.bool false))⟩,
  ⟨(some 99), none, .mv (.t 98)⟩,
  ⟨(some 100), (some (99, true)), .load true 4 (.t 16)⟩,
  ⟨(some 101), (some (99, true)), .build [(.int .i64 0), (.int .i64 0), (.int .i64 0), .nils] []⟩,
  ⟨(some 102), (some (99, true)), .call (.c (.fn (.func 11) [] [])) [(.t 100), (.t 101)]⟩,
  ⟨(some 103), none, .pick (.t 99) (.t 102) (.c (.bool false))⟩,
  ⟨(some 10), none, .mv (.t 103)⟩]
abbrev x6r14 : List XOper := [
  ⟨(some 104), none, .mv (.t 18)⟩,
  ⟨(some 105), none, .bin .neq (.t 104) (.c (.int .i64 0))⟩,
  ⟨(some 106), none, .mv (.t 105)⟩,
  ⟨(some 107), (some (106, false)), .mv (.t 17)⟩,
  ⟨(some 108), (some (106, false)), .fa 3 (.t 8)⟩,
  ⟨(some 109), (some (106, false)), .load false 1 (.t 108)⟩,
  ⟨(some 110), (some (106, false)), .lenV (.t 109)⟩,
  ⟨(some 111), (some (106, false)), .bin .neq (.t 107) (.t 110)⟩,
  ⟨(some 112), none, .pick (.t 106) (.c (.bool true)) (.t 111)⟩,
  ⟨(some 113), none, .mv (.t 112)⟩,
  ⟨(some 114), (some (113, false)), .load true 4 (.t 16)⟩,
  ⟨(some 115), (some (113, false)), .fa 0 (.t 8)⟩,
  ⟨(some 116), (some (113, false)), .load false 1 (.t 115)⟩,
  ⟨(some 117), (some (113, false)), .fa 1 (.t 8)⟩,
  ⟨(some 118), (some (113, false)), .load false 1 (.t 117)⟩,
  ⟨(some 119), (some (113, false)), .fa 2 (.t 8)⟩,
  ⟨(some 120), (some (113, false)), .load false 1 (.t 119)⟩,
  ⟨(some 121), (some (113, false)), .build [(.int .i64 0), (.int .i64 0), (.int .i64 0), .nils] [(0, 1, (.t 116)), (1, 1, (.t 118)), (2, 1, (.t 120))]⟩,
  ⟨(some 122), (some (113, false)), .call (.c (.fn (.func 11) [] [])) [(.t 114), (.t 121)]⟩,
  ⟨(some 123), (some (113, false)), .un .not (.t 122)⟩,
  ⟨(some 124), none, .pick (.t 113) (.c (.bool true)) (.t 123)⟩]
abbrev x6r15 : List XOper := [
  ⟨(some 10), none, .mv (.c (.bool false))⟩]
abbrev x6r16 : List XOper := [
  ⟨(some 125), none, .load true 4 (.t 8)⟩,
  ⟨(some 126), none, .mv (.t 4)⟩,
  ⟨(some 127), none, .call (.c (.fn (.func 20) [] [])) [(.t 125), (.t 126)]⟩,
  ⟨(some 128), none, .un .not (.t 127)⟩]
abbrev x6r17 : List XOper := [
  ⟨(some 129), none, .mv (.t 15)⟩,
  ⟨(some 130), none, .bin .eql (.t 129) (.c (.int .i64 3))⟩,
  ⟨(some 131), none, .mv (.t 130)⟩,
  ⟨(some 132), (some (131, true)), .mv (.t 14)⟩,
  ⟨(some 133), (some (131, true)), .lenV (.t 132)⟩,
  ⟨(some 134), (some (131, true)), .bin .eql (.t 133) (.c (.int .i64 0))⟩,
  ⟨(some 135), none, .pick (.t 131) (.t 134) (.c (.bool false))⟩,
  ⟨(some 136), none, .mv (.t 135)⟩,
  ⟨(some 137), (some (136, true)), .load true 4 (.t 13)⟩,
  ⟨(some 138), (some (136, true)), .build [(.int .i64 0), (.int .i64 0), (.int .i64 0), .nils] []⟩,
  ⟨(some 139), (some (136, true)), .call (.c (.fn (.func 11) [] [])) [(.t 137), (.t 138)]⟩,
  ⟨(some 140), none, .pick (.t 136) (.t 139) (.c (.bool false))⟩,
  ⟨(some 10), none, .mv (.t 140)⟩]
abbrev x6r18 : List XOper := [
  ⟨(some 142), none, .load true 4 (.t 8)⟩,
  ⟨(some 143), none, .mv (.t 4)⟩,
  ⟨(some 144), none, .call (.c (.fn (.func 21) [] [])) [(.t 142), (.t 143)]⟩,
  ⟨(some 141), none, .mv (.t 144)⟩,
  ⟨(some 145), none, .ext (.t 141) 0⟩,
  ⟨(some 146), none, .ext (.t 141) 1⟩,
  ⟨(some 19), none, .alloc [(.int .i64 0), (.int .i64 0), (.int .i64 0), .nils]⟩,
  ⟨none, none, .store 4 (.t 19) (.t 145)⟩,
  ⟨(some 20), none, .mv (.t 146)⟩]
abbrev x6r19 : List XOper := [
  ⟨(some 147), none, .mv (.t 15)⟩,
  ⟨(some 148), none, .bin .eql (.t 147) (.c (.int .i64 0))⟩,
  ⟨(some 149), none, .mv (.t 148)⟩,
  ⟨(some 150), (some (149, true)), .load true 4 (.t 13)⟩,
  ⟨(some 151), (some (149, true)), .load true 4 (.t 19)⟩,
  ⟨(some 152), (some (149, true)), .call (.c (.fn (.func 11) [] [])) [(.t 150), (.t 151)]⟩,
  ⟨(some 153), none, .pick (.t 149) (.t 152) (.c (.bool false))⟩,
  ⟨(some 154), none, .mv (.t 153)⟩,
  ⟨(some 155), (some (154, true)), .mv (.t 14)⟩,
  ⟨(some 156), (some (154, true)), .mv (.t 20)⟩,
  ⟨(some 157), (some (154, true)), .call (.c (.fn (.func 14) [] [])) [(.t 155), (.t 156)]⟩,
  ⟨(some 158), none, .pick (.t 154) (.t 157) (.c (.bool false))⟩,
  ⟨(some 10), none, .mv (.t 158)⟩]
/-- datum/datumlaw10.CollectAdds -/
abbrev x6b : XCode :=
  (.seq (.reg 0 x6r0 none)
  (.seq (.reg 1 x6r1 none)
  (.seq (.reg 2 x6r2 none)
  (.seq (.reg 3 x6r3 none)
  (.seq (.reg 4 x6r4 none)
  (.seq (.seq (.reg 5 x6r5 (some ⟨[(1, 2)]⟩))
  (.cond (.t 51)
    (.seq (.reg 6 x6r6 none)
    .ret)
    .skip))
  (.seq (.seq (.reg 7 x6r7 none)
  (.cond (.t 56)
    (.seq (.reg 8 x6r8 none)
    (.cond (.t 64)
      (.seq (.reg 9 x6r9 none)
      .ret)
      .skip))
    (.seq (.reg 10 x6r10 none)
    (.cond (.t 75)
      (.seq (.reg 11 x6r11 none)
      .ret)
      .skip))))
  (.seq (.seq (.reg 12 x6r12 none)
  (.cond (.t 78)
    (.seq (.reg 13 x6r13 none)
    .ret)
    .skip))
  (.seq (.seq (.reg 14 x6r14 none)
  (.cond (.t 124)
    (.seq (.reg 15 x6r15 none)
    .ret)
    .skip))
  (.seq (.seq (.reg 16 x6r16 none)
  (.cond (.t 128)
    (.seq (.reg 17 x6r17 none)
    .ret)
    .skip))
  (.seq (.reg 18 x6r18 none)
  (.seq (.reg 19 x6r19 none)
  .ret))))))))))))
def x6 : XFunc := ⟨159, 5, [.tmp 10], x6b⟩
theorem x6_ok : chkF Try.prog Try.f6 x6 = true := by kernel_rfl
theorem x6_eq : x6.body = x6b ∧ x6.res = [.tmp 10] ∧ x6.np = 5 := ⟨rfl, rfl, rfl⟩

abbrev x7r0 : List XOper := [
  ⟨(some 1), none, .box (.t 0)⟩,
  ⟨(some 2), none, .alloc [(.int .i64 0), (.int .i64 0), (.int .i64 0), .nils]⟩]
abbrev x7r1 : List XOper := [
  ⟨(some 3), none, .fa 3 (.t 1)⟩,
  ⟨(some 4), none, .load false 1 (.t 3)⟩,
  ⟨(some 5), none, .fa 3 (.t 1)⟩,
  ⟨(some 6), none, .load false 1 (.t 5)⟩,
  ⟨(some 7), none, .lenV (.t 6)⟩,
  ⟨(some 8), none, .mnx false (.t 7) [(.c (.int .i64 12))]⟩,
  ⟨(some 9), none, .slV 1 (.t 4) none (some (.t 8)) none⟩,
  ⟨(some 10), none, .fa 3 (.t 1)⟩,
  ⟨none, none, .store 1 (.t 10) (.t 9)⟩]
abbrev x7r2 : List XOper := [
  ⟨(some 11), none, .load true 4 (.t 1)⟩,
  ⟨none, none, .store 4 (.t 2) (.t 11)⟩]
/-- datum/datumlaw10.few -/
abbrev x7b : XCode :=
  (.seq (.reg 0 x7r0 none)
  (.seq (.reg 1 x7r1 none)
  (.seq (.reg 2 x7r2 none)
  .ret)))
def x7 : XFunc := ⟨12, 1, [.cell 2 true 4], x7b⟩
theorem x7_ok : chkF Try.prog Try.f7 x7 = true := by kernel_rfl
theorem x7_eq : x7.body = x7b ∧ x7.res = [.cell 2 true 4] ∧ x7.np = 1 := ⟨rfl, rfl, rfl⟩

abbrev x8r0 : List XOper := [
  ⟨(some 2), none, .box (.t 0)⟩,
  ⟨(some 4), none, .alloc [(.int .i64 0), (.int .i64 0), (.int .i64 0), .nils]⟩,
  ⟨(some 5), none, .mv (.c .nils)⟩,
  ⟨(some 6), none, .mv (.c (.int .i64 0))⟩,
  ⟨(some 7), none, .mv (.c (.int .i64 0))⟩]
abbrev x8r1 : List XOper := [
  ⟨(some 13), none, .load true 4 (.t 2)⟩,
  ⟨(some 14), none, .call (.c (.fn (.func 18) [] [])) [(.t 13)]⟩,
  ⟨(some 15), none, .un .not (.t 14)⟩]
abbrev x8r2 : List XOper := [
  ⟨(some 16), none, .build [(.int .i64 0), (.int .i64 0), (.int .i64 0), .nils] []⟩,
  ⟨none, none, .store 4 (.t 4) (.t 16)⟩,
  ⟨(some 5), none, .mv (.c .nils)⟩,
  ⟨(some 6), none, .mv (.c (.int .i64 0))⟩,
  ⟨(some 7), none, .mv (.c (.int .i64 1))⟩]
abbrev x8r3 : List XOper := [
  ⟨(some 8), none, .alloc [.nils]⟩]
abbrev x8r4 : List XOper := [
  ⟨(some 9), none, .alloc [(.int .i64 0)]⟩,
  ⟨none, none, .store 1 (.t 9) (.c (.int .i64 0))⟩]
abbrev x8r5 : List XOper := [
  ⟨(some 17), none, .mkf (.func 22) [] [(.t 2), (.t 9), (.t 8)]⟩,
  ⟨(some 10), none, .mv (.t 17)⟩]
abbrev x8r6 : List XOper := [
  ⟨(some 18), none, .mv (.t 1)⟩,
  ⟨(some 19), none, .lenV (.t 18)⟩,
  ⟨(some 20), none, .mv (.c (.int .i64 0))⟩]
abbrev x8r7 : List XOper := [
  ⟨(some 21), none, .bin .lss (.t 20) (.t 19)⟩]
abbrev x8r8 : List XOper := [
  ⟨(some 22), none, .iaS 1 (.t 18) (.t 20)⟩,
  ⟨(some 23), none, .load false 1 (.t 22)⟩,
  ⟨(some 12), none, .mv (.t 23)⟩]
abbrev x8r9 : List XOper := [
  ⟨(some 24), none, .mv (.t 10)⟩,
  ⟨(some 25), none, .mv (.t 12)⟩,
  ⟨(some 26), none, .call (.t 24) [(.t 25)]⟩]
abbrev x8r10 : List XOper := [
  ⟨(some 27), none, .bin .add (.t 20) (.c (.int .i64 1))⟩,
  ⟨(some 20), none, .mv (.t 27)⟩]
abbrev x8l7 : XCode :=
  (.seq (.reg 7 x8r7 none)
  (.seq (.cond (.t 21)
    .skip
    (.exit 0))
  (.seq (.block 1
    (.seq (.reg 8 x8r8 none)
    (.reg 9 x8r9 none)))
  (.reg 10 x8r10 none))))
abbrev x8r11 : List XOper := [
  ⟨(some 28), none, .load true 4 (.t 2)⟩,
  ⟨(some 29), none, .load false 1 (.t 8)⟩,
  ⟨(some 30), none, .load false 1 (.t 9)⟩,
  ⟨none, none, .store 4 (.t 4) (.t 28)⟩,
  ⟨(some 5), none, .mv (.t 29)⟩,
  ⟨(some 6), none, .mv (.t 30)⟩,
  ⟨(some 7), none, .mv (.c (.int .i64 0))⟩]
/-- datum/collect.Feed -/
abbrev x8b : XCode :=
  (.seq (.reg 0 x8r0 none)
  (.seq (.seq (.reg 1 x8r1 none)
  (.cond (.t 15)
    (.seq (.reg 2 x8r2 none)
    .ret)
    .skip))
  (.seq (.reg 3 x8r3 none)
  (.seq (.reg 4 x8r4 none)
  (.seq (.reg 5 x8r5 none)
  (.seq (.seq (.reg 6 x8r6 none)
  (.block 0
    (.loop x8l7)))
  (.seq (.reg 11 x8r11 (some ⟨[(1, 3), (2, 3)]⟩))
  .ret)))))))
def x8 : XFunc := ⟨31, 2, [.cell 4 true 4, .tmp 5, .tmp 6, .tmp 7], x8b⟩
theorem x8_ok : chkF Try.prog Try.f8 x8 = true := by kernel_rfl
theorem x8_eq : x8.body = x8b ∧ x8.res = [.cell 4 true 4, .tmp 5, .tmp 6, .tmp 7] ∧ x8.np = 2 := ⟨rfl, rfl, rfl⟩

abbrev x9r0 : List XOper := [
  ⟨(some 1), none, .box (.t 0)⟩,
  ⟨(some 2), none, .mv (.c (.bool false))⟩]
abbrev x9r1 : List XOper := [
  ⟨(some 5), none, .fa 3 (.t 1)⟩,
  ⟨(some 6), none, .load false 1 (.t 5)⟩,
  ⟨(some 7), none, .lenV (.t 6)⟩,
  ⟨(some 8), none, .mv (.c (.int .i64 0))⟩]
abbrev x9r2 : List XOper := [
  ⟨(some 9), none, .bin .lss (.t 8) (.t 7)⟩]
abbrev x9r3 : List XOper := [
  ⟨(some 10), none, .iaS 1 (.t 6) (.t 8)⟩,
  ⟨(some 11), none, .load false 1 (.t 10)⟩,
  ⟨(some 4), none, .mv (.t 11)⟩]
abbrev x9r4 : List XOper := [
  ⟨(some 12), none, .mv (.t 4)⟩,
  ⟨(some 13), none, .fa 1 (.t 1)⟩,
  ⟨(some 14), none, .load false 1 (.t 13)⟩,
  ⟨(some 15), none, .bin .lss (.t 12) (.t 14)⟩,
  ⟨(some 16), none, .mv (.t 15)⟩,
  ⟨(some 17), (some (16, false)), .mv (.t 4)⟩,
  ⟨(some 18), (some (16, false)), .fa 2 (.t 1)⟩,
  ⟨(some 19), (some (16, false)), .load false 1 (.t 18)⟩,
  ⟨(some 20), (some (16, false)), .bin .gtr (.t 17) (.t 19)⟩,
  ⟨(some 21), none, .pick (.t 16) (.c (.bool true)) (.t 20)⟩]
abbrev x9r5 : List XOper := [
  ⟨(some 2), none, .mv (.c (.bool false))⟩]
abbrev x9r6 : List XOper := [
  ⟨(some 22), none, .bin .add (.t 8) (.c (.int .i64 1))⟩,
  ⟨(some 8), none, .mv (.t 22)⟩]
abbrev x9l2 : XCode :=
  (.seq (.reg 2 x9r2 none)
  (.seq (.cond (.t 9)
    .skip
    (.exit 0))
  (.seq (.block 1
    (.seq (.reg 3 x9r3 none)
    (.seq (.reg 4 x9r4 none)
    (.cond (.t 21)
      (.seq (.reg 5 x9r5 none)
      .ret)
      .skip))))
  (.reg 6 x9r6 none))))
abbrev x9r7 : List XOper := [
  ⟨(some 23), none, .fa 0 (.t 1)⟩,
  ⟨(some 24), none, .load false 1 (.t 23)⟩,
  ⟨(some 25), none, .fa 1 (.t 1)⟩,
  ⟨(some 26), none, .load false 1 (.t 25)⟩,
  ⟨(some 27), none, .fa 2 (.t 1)⟩,
  ⟨(some 28), none, .load false 1 (.t 27)⟩,
  ⟨(some 29), none, .call (.c (.fn (.func 19) [] [])) [(.t 24), (.t 26), (.t 28)]⟩,
  ⟨(some 30), none, .mv (.t 29)⟩,
  ⟨(some 31), (some (30, true)), .fa 3 (.t 1)⟩,
  ⟨(some 32), (some (30, true)), .load false 1 (.t 31)⟩,
  ⟨(some 33), (some (30, true)), .lenV (.t 32)⟩,
  ⟨(some 34), (some (30, true)), .fa 0 (.t 1)⟩,
  ⟨(some 35), (some (30, true)), .load false 1 (.t 34)⟩,
  ⟨(some 36), (some (30, true)), .bin .lss (.t 33) (.t 35)⟩,
  ⟨(some 37), none, .pick (.t 30) (.t 36) (.c (.bool false))⟩,
  ⟨(some 2), none, .mv (.t 37)⟩]
/-- datum/datumref10.Right -/
abbrev x9b : XCode :=
  (.seq (.reg 0 x9r0 none)
  (.seq (.seq (.reg 1 x9r1 none)
  (.block 0
    (.loop x9l2)))
  (.seq (.reg 7 x9r7 none)
  .ret)))
def x9 : XFunc := ⟨38, 1, [.tmp 2], x9b⟩
theorem x9_ok : chkF Try.prog Try.f9 x9 = true := by kernel_rfl
theorem x9_eq : x9.body = x9b ∧ x9.res = [.tmp 2] ∧ x9.np = 1 := ⟨rfl, rfl, rfl⟩

abbrev x10r0 : List XOper := [
  ⟨(some 0), none, .mv (.c (.bool false))⟩]
abbrev x10r1 : List XOper := [
  ⟨(some 8), none, .call (.c (.fn (.func 16) [] [])) [(.c (.int .i64 2)), (.c (.int .i64 0)), (.c (.int .i64 9))]⟩,
  ⟨(some 7), none, .mv (.t 8)⟩,
  ⟨(some 9), none, .ext (.t 7) 0⟩,
  ⟨(some 10), none, .ext (.t 7) 1⟩,
  ⟨(some 1), none, .alloc [(.int .i64 0), (.int .i64 0), (.int .i64 0), .nils]⟩,
  ⟨none, none, .store 4 (.t 1) (.t 9)⟩,
  ⟨(some 2), none, .mv (.t 10)⟩]
abbrev x10r2 : List XOper := [
  ⟨(some 12), none, .load true 4 (.t 1)⟩,
  ⟨(some 13), none, .mkslice 1 (.int .i64 0) 4 [(0, (.c (.int .i64 1))), (1, (.c (.int .i64 10))), (2, (.c (.int .i64 2))), (3, (.c (.int .i64 3)))]⟩,
  ⟨(some 14), none, .call (.c (.fn (.func 8) [] [])) [(.t 12), (.t 13)]⟩,
  ⟨(some 11), none, .mv (.t 14)⟩,
  ⟨(some 15), none, .ext (.t 11) 0⟩,
  ⟨(some 16), none, .ext (.t 11) 1⟩,
  ⟨(some 17), none, .ext (.t 11) 2⟩,
  ⟨(some 18), none, .ext (.t 11) 3⟩,
  ⟨(some 3), none, .alloc [(.int .i64 0), (.int .i64 0), (.int .i64 0), .nils]⟩,
  ⟨none, none, .store 4 (.t 3) (.t 15)⟩,
  ⟨(some 4), none, .mv (.t 16)⟩,
  ⟨(some 5), none, .mv (.t 17)⟩,
  ⟨(some 6), none, .mv (.t 18)⟩]
abbrev x10r3 : List XOper := [
  ⟨(some 19), none, .mv (.t 2)⟩,
  ⟨(some 20), none, .bin .eql (.t 19) (.c (.int .i64 0))⟩,
  ⟨(some 21), none, .mv (.t 20)⟩,
  ⟨(some 22), (some (21, true)), .mv (.t 6)⟩,
  ⟨(some 23), (some (21, true)), .bin .eql (.t 22) (.c (.int .i64 0))⟩,
  ⟨(some 24), none, .pick (.t 21) (.t 23) (.c (.bool false))⟩,
  ⟨(some 25), none, .mv (.t 24)⟩,
  ⟨(some 26), (some (25, true)), .mv (.t 5)⟩,
  ⟨(some 27), (some (25, true)), .bin .eql (.t 26) (.c (.int .i64 1))⟩,
  ⟨(some 28), none, .pick (.t 25) (.t 27) (.c (.bool false))⟩,
  ⟨(some 29), none, .mv (.t 28)⟩,
  ⟨(some 30), (some (29, true)), .mv (.t 4)⟩,
  ⟨(some 31), (some (29, true)), .lenV (.t 30)⟩,
  ⟨(some 32), (some (29, true)), .bin .eql (.t 31) (.c (.int .i64 1))⟩,
  ⟨(some 33), none, .pick (.t 29) (.t 32) (.c (.bool false))⟩,
  ⟨(some 34), none, .mv (.t 33)⟩,
  ⟨(some 35), (some (34, true)), .mv (.t 4)⟩,
  ⟨(some 36), (some (34, true)), .iaS 1 (.t 35) (.c (.int .i64 0))⟩,
  ⟨(some 37), (some (34, true)), .load false 1 (.t 36)⟩,
  ⟨(some 38), (some (34, true)), .lenV (.t 37)⟩,
  ⟨(some 39), (some (34, true)), .bin .eql (.t 38) (.c (.int .i64 2))⟩,
  ⟨(some 40), none, .pick (.t 34) (.t 39) (.c (.bool false))⟩,
  ⟨(some 41), none, .mv (.t 40)⟩,
  ⟨(some 42), (some (41, true)), .mv (.t 4)⟩,
  ⟨(some 43), (some (41, true)), .iaS 1 (.t 42) (.c (.int .i64 0))⟩,
  ⟨(some 44), (some (41, true)), .load false 1 (.t 43)⟩,
  ⟨(some 45), (some (41, true)), .iaS 1 (.t 44) (.c (.int .i64 1))⟩,
  ⟨(some 46), (some (41, true)), .load false 1 (.t 45)⟩,
  ⟨(some 47), (some (41, true)), .bin .eql (.t 46) (.c (.int .i64 2))⟩,
  ⟨(some 48), none, .pick (.t 41) (.t 47) (.c (.bool false))⟩,
  ⟨(some 49), none, .mv (.t 48)⟩,
  ⟨(some 50), (some (49, true)), .fa 3 (.t 3)⟩,
  ⟨(some 51), (some (49, true)), .load false 1 (.t 50)⟩,
  ⟨(some 52), (some (49, true)), .lenV (.t 51)⟩,
  ⟨(some 53), (some (49, true)), .bin .eql (.t 52) (.c (.int .i64 1))⟩,
  ⟨(some 54), none, .pick (.t 49) (.t 53) (.c (.bool false))⟩,
  ⟨(some 0), none, .mv (.t 54)⟩]
/-- datum/datumlaw10.alive -/
abbrev x10b : XCode :=
  (.seq (.reg 0 x10r0 none)
  (.seq (.reg 1 x10r1 none)
  (.seq (.reg 2 x10r2 none)
  (.seq (.reg 3 x10r3 none)
  .ret))))
def x10 : XFunc := ⟨55, 0, [.tmp 0], x10b⟩
theorem x10_ok : chkF Try.prog Try.f10 x10 = true := by kernel_rfl
theorem x10_eq : x10.body = x10b ∧ x10.res = [.tmp 0] ∧ x10.np = 0 := ⟨rfl, rfl, rfl⟩

abbrev x11r0 : List XOper := [
  ⟨(some 2), none, .box (.t 0)⟩,
  ⟨(some 3), none, .box (.t 1)⟩,
  ⟨(some 4), none, .mv (.c (.bool false))⟩]
abbrev x11r1 : List XOper := [
  ⟨(some 5), none, .fa 0 (.t 2)⟩,
  ⟨(some 6), none, .load false 1 (.t 5)⟩,
  ⟨(some 7), none, .fa 0 (.t 3)⟩,
  ⟨(some 8), none, .load false 1 (.t 7)⟩,
  ⟨(some 9), none, .bin .eql (.t 6) (.t 8)⟩,
  ⟨(some 10), none, .mv (.t 9)⟩,
  ⟨(some 11), (some (10, true)), .fa 1 (.t 2)⟩,
  ⟨(some 12), (some (10, true)), .load false 1 (.t 11)⟩,
  ⟨(some 13), (some (10, true)), .fa 1 (.t 3)⟩,
  ⟨(some 14), (some (10, true)), .load false 1 (.t 13)⟩,
  ⟨(some 15), (some (10, true)), .bin .eql (.t 12) (.t 14)⟩,
  ⟨(some 16), none, .pick (.t 10) (.t 15) (.c (.bool false))⟩,
  ⟨(some 17), none, .mv (.t 16)⟩,
  ⟨(some 18), (some (17, true)), .fa 2 (.t 2)⟩,
  ⟨(some 19), (some (17, true)), .load false 1 (.t 18)⟩,
  ⟨(some 20), (some (17, true)), .fa 2 (.t 3)⟩,
  ⟨(some 21), (some (17, true)), .load false 1 (.t 20)⟩,
  ⟨(some 22), (some (17, true)), .bin .eql (.t 19) (.t 21)⟩,
  ⟨(some 23), none, .pick (.t 17) (.t 22) (.c (.bool false))⟩,
  ⟨(some 24), none, .mv (.t 23)⟩,
  ⟨(some 25), (some (24, true)), .fa 3 (.t 2)⟩,
  ⟨(some 26), (some (24, true)), .load false 1 (.t 25)⟩,
  ⟨(some 27), (some (24, true)), .fa 3 (.t 3)⟩,
  ⟨(some 28), (some (24, true)), .load false 1 (.t 27)⟩,
  ⟨(some 29), (some (24, true)), .call (.c (.fn (.func 14) [] [])) [(.t 26), (.t 28)]⟩,
  ⟨(some 30), none, .pick (.t 24) (.t 29) (.c (.bool false))⟩,
  ⟨(some 4), none, .mv (.t 30)⟩]
/-- datum/datumref10.Same -/
abbrev x11b : XCode :=
  (.seq (.reg 0 x11r0 none)
  (.seq (.reg 1 x11r1 none)
  .ret))
def x11 : XFunc := ⟨31, 2, [.tmp 4], x11b⟩
theorem x11_ok : chkF Try.prog Try.f11 x11 = true := by kernel_rfl
theorem x11_eq : x11.body = x11b ∧ x11.res = [.tmp 4] ∧ x11.np = 2 := ⟨rfl, rfl, rfl⟩

abbrev x12r0 : List XOper := [
  ⟨(some 2), none, .box (.t 0)⟩,
  ⟨(some 4), none, .alloc [(.int .i64 0), (.int .i64 0), (.int .i64 0), .nils]⟩,
  ⟨(some 5), none, .mv (.c .nils)⟩,
  ⟨(some 6), none, .mv (.c (.int .i64 0))⟩]
abbrev x12r1 : List XOper := [
  ⟨(some 13), none, .mkslice 1 .nils 0 []⟩,
  ⟨(some 7), none, .mv (.t 13)⟩]
abbrev x12r2 : List XOper := [
  ⟨(some 8), none, .mv (.c (.int .i64 0))⟩]
abbrev x12r3 : List XOper := [
  ⟨(some 14), none, .mv (.t 1)⟩,
  ⟨(some 15), none, .lenV (.t 14)⟩,
  ⟨(some 16), none, .mv (.c (.int .i64 0))⟩]
abbrev x12r4 : List XOper := [
  ⟨(some 17), none, .bin .lss (.t 16) (.t 15)⟩]
abbrev x12r5 : List XOper := [
  ⟨(some 18), none, .iaS 1 (.t 14) (.t 16)⟩,
  ⟨(some 19), none, .load false 1 (.t 18)⟩,
  ⟨(some 10), none, .mv (.t 19)⟩]
abbrev x12r6 : List XOper := [
  ⟨(some 20), none, .load true 4 (.t 2)⟩,
  ⟨(some 21), none, .mv (.t 10)⟩,
  ⟨(some 22), none, .call (.c (.fn (.func 20) [] [])) [(.t 20), (.t 21)]⟩,
  ⟨(some 23), none, .un .not (.t 22)⟩]
abbrev x12r7 : List XOper := [
  ⟨(some 24), none, .mv (.t 8)⟩,
  ⟨(some 25), none, .bin .add (.t 24) (.c (.int .i64 1))⟩,
  ⟨(some 8), none, .mv (.t 25)⟩]
abbrev x12r8 : List XOper := [
  ⟨(some 27), none, .load true 4 (.t 2)⟩,
  ⟨(some 28), none, .mv (.t 10)⟩,
  ⟨(some 29), none, .call (.c (.fn (.func 21) [] [])) [(.t 27), (.t 28)]⟩,
  ⟨(some 26), none, .mv (.t 29)⟩,
  ⟨(some 30), none, .ext (.t 26) 0⟩,
  ⟨(some 31), none, .ext (.t 26) 1⟩,
  ⟨(some 11), none, .alloc [(.int .i64 0), (.int .i64 0), (.int .i64 0), .nils]⟩,
  ⟨none, none, .store 4 (.t 11) (.t 30)⟩,
  ⟨(some 12), none, .mv (.t 31)⟩]
abbrev x12r9 : List XOper := [
  ⟨(some 32), none, .load true 4 (.t 11)⟩,
  ⟨none, none, .store 4 (.t 2) (.t 32)⟩]
abbrev x12r10 : List XOper := [
  ⟨(some 33), none, .mv (.t 12)⟩,
  ⟨(some 34), none, .lenV (.t 33)⟩,
  ⟨(some 35), none, .bin .gtr (.t 34) (.c (.int .i64 0))⟩]
abbrev x12r11 : List XOper := [
  ⟨(some 36), none, .mv (.t 7)⟩,
  ⟨(some 37), none, .mv (.t 12)⟩,
  ⟨(some 38), none, .mkslice 1 .nils 1 [(0, (.t 37))]⟩,
  ⟨(some 39), none, .app 1 24 (.t 36) (.t 38)⟩,
  ⟨(some 7), none, .mv (.t 39)⟩]
abbrev x12r12 : List XOper := [
  ⟨(some 40), none, .bin .add (.t 16) (.c (.int .i64 1))⟩,
  ⟨(some 16), none, .mv (.t 40)⟩]
abbrev x12l4 : XCode :=
  (.seq (.reg 4 x12r4 none)
  (.seq (.cond (.t 17)
    .skip
    (.exit 0))
  (.seq (.block 1
    (.seq (.reg 5 x12r5 none)
    (.seq (.seq (.reg 6 x12r6 none)
    (.cond (.t 23)
      (.seq (.reg 7 x12r7 none)
      (.exit 1))
      .skip))
    (.seq (.reg 8 x12r8 none)
    (.seq (.reg 9 x12r9 none)
    (.seq (.reg 10 x12r10 none)
    (.cond (.t 35)
      (.reg 11 x12r11 none)
      .skip)))))))
  (.reg 12 x12r12 none))))
abbrev x12r13 : List XOper := [
  ⟨(some 41), none, .load true 4 (.t 2)⟩,
  ⟨(some 42), none, .mv (.t 7)⟩,
  ⟨(some 43), none, .mv (.t 8)⟩,
  ⟨none, none, .store 4 (.t 4) (.t 41)⟩,
  ⟨(some 5), none, .mv (.t 42)⟩,
  ⟨(some 6), none, .mv (.t 43)⟩]
/-- datum/datumref10.Feed -/
abbrev x12b : XCode :=
  (.seq (.reg 0 x12r0 none)
  (.seq (.reg 1 x12r1 none)
  (.seq (.reg 2 x12r2 none)
  (.seq (.seq (.reg 3 x12r3 none)
  (.block 0
    (.loop x12l4)))
  (.seq (.reg 13 x12r13 none)
  .ret)))))
def x12 : XFunc := ⟨44, 2, [.cell 4 true 4, .tmp 5, .tmp 6], x12b⟩
theorem x12_ok : chkF Try.prog Try.f12 x12 = true := by kernel_rfl
theorem x12_eq : x12.body = x12b ∧ x12.res = [.cell 4 true 4, .tmp 5, .tmp 6] ∧ x12.np = 2 := ⟨rfl, rfl, rfl⟩

abbrev x13r0 : List XOper := [
  ⟨(some 4), none, .mv (.c (.bool false))⟩]
abbrev x13r1 : List XOper := [
  ⟨(some 6), none, .mv (.t 0)⟩,
  ⟨(some 7), none, .lenV (.t 6)⟩,
  ⟨(some 8), none, .mv (.t 1)⟩,
  ⟨(some 9), none, .lenV (.t 8)⟩,
  ⟨(some 10), none, .bin .neq (.t 7) (.t 9)⟩]
abbrev x13r2 : List XOper := [
  ⟨(some 4), none, .mv (.c (.bool false))⟩]
abbrev x13r3 : List XOper := [
  ⟨(some 11), none, .mv (.t 0)⟩,
  ⟨(some 12), none, .lenV (.t 11)⟩,
  ⟨(some 13), none, .mv (.c (.int .i64 0))⟩]
abbrev x13r4 : List XOper := [
  ⟨(some 14), none, .bin .lss (.t 13) (.t 12)⟩]
abbrev x13r5 : List XOper := [
  ⟨(some 15), none, .mv (.t 13)⟩,
  ⟨(some 5), none, .mv (.t 15)⟩]
abbrev x13r6 : List XOper := [
  ⟨(some 16), none, .mv (.t 0)⟩,
  ⟨(some 17), none, .mv (.t 5)⟩,
  ⟨(some 18), none, .iaS 1 (.t 16) (.t 17)⟩,
  ⟨(some 19), none, .load false 1 (.t 18)⟩,
  ⟨(some 20), none, .mv (.t 1)⟩,
  ⟨(some 21), none, .mv (.t 5)⟩,
  ⟨(some 22), none, .iaS 1 (.t 20) (.t 21)⟩,
  ⟨(some 23), none, .load false 1 (.t 22)⟩,
  ⟨(some 24), none, .call (.c (.fn (.func 14) [] [])) [(.t 19), (.t 23)]⟩,
  ⟨(some 25), none, .un .not (.t 24)⟩]
abbrev x13r7 : List XOper := [
  ⟨(some 4), none, .mv (.c (.bool false))⟩]
abbrev x13r8 : List XOper := [
  ⟨(some 26), none, .bin .add (.t 13) (.c (.int .i64 1))⟩,
  ⟨(some 13), none, .mv (.t 26)⟩]
abbrev x13l4 : XCode :=
  (.seq (.reg 4 x13r4 none)
  (.seq (.cond (.t 14)
    .skip
    (.exit 0))
  (.seq (.block 1
    (.seq (.reg 5 x13r5 none)
    (.seq (.reg 6 x13r6 (some ⟨[]⟩))
    (.cond (.t 25)
      (.seq (.reg 7 x13r7 none)
      .ret)
      .skip))))
  (.reg 8 x13r8 none))))
abbrev x13r9 : List XOper := [
  ⟨(some 4), none, .mv (.c (.bool true))⟩]
/-- datum/datumref10.Rows -/
abbrev x13b : XCode :=
  (.seq (.reg 0 x13r0 none)
  (.seq (.seq (.reg 1 x13r1 none)
  (.cond (.t 10)
    (.seq (.reg 2 x13r2 none)
    .ret)
    .skip))
  (.seq (.seq (.reg 3 x13r3 none)
  (.block 0
    (.loop x13l4)))
  (.seq (.reg 9 x13r9 none)
  .ret))))
def x13 : XFunc := ⟨27, 2, [.tmp 4], x13b⟩
theorem x13_ok : chkF Try.prog Try.f13 x13 = true := by kernel_rfl
theorem x13_eq : x13.body = x13b ∧ x13.res = [.tmp 4] ∧ x13.np = 2 := ⟨rfl, rfl, rfl⟩

abbrev x14r0 : List XOper := [
  ⟨(some 4), none, .mv (.c (.bool false))⟩]
abbrev x14r1 : List XOper := [
  ⟨(some 6), none, .mv (.t 0)⟩,
  ⟨(some 7), none, .lenV (.t 6)⟩,
  ⟨(some 8), none, .mv (.t 1)⟩,
  ⟨(some 9), none, .lenV (.t 8)⟩,
  ⟨(some 10), none, .bin .neq (.t 7) (.t 9)⟩]
abbrev x14r2 : List XOper := [
  ⟨(some 4), none, .mv (.c (.bool false))⟩]
abbrev x14r3 : List XOper := [
  ⟨(some 11), none, .mv (.t 0)⟩,
  ⟨(some 12), none, .lenV (.t 11)⟩,
  ⟨(some 13), none, .mv (.c (.int .i64 0))⟩]
abbrev x14r4 : List XOper := [
  ⟨(some 14), none, .bin .lss (.t 13) (.t 12)⟩]
abbrev x14r5 : List XOper := [
  ⟨(some 15), none, .mv (.t 13)⟩,
  ⟨(some 5), none, .mv (.t 15)⟩]
abbrev x14r6 : List XOper := [
  ⟨(some 16), none, .mv (.t 0)⟩,
  ⟨(some 17), none, .mv (.t 5)⟩,
  ⟨(some 18), none, .iaS 1 (.t 16) (.t 17)⟩,
  ⟨(some 19), none, .load false 1 (.t 18)⟩,
  ⟨(some 20), none, .mv (.t 1)⟩,
  ⟨(some 21), none, .mv (.t 5)⟩,
  ⟨(some 22), none, .iaS 1 (.t 20) (.t 21)⟩,
  ⟨(some 23), none, .load false 1 (.t 22)⟩,
  ⟨(some 24), none, .bin .neq (.t 19) (.t 23)⟩]
abbrev x14r7 : List XOper := [
  ⟨(some 4), none, .mv (.c (.bool false))⟩]
abbrev x14r8 : List XOper := [
  ⟨(some 25), none, .bin .add (.t 13) (.c (.int .i64 1))⟩,
  ⟨(some 13), none, .mv (.t 25)⟩]
abbrev x14l4 : XCode :=
  (.seq (.reg 4 x14r4 none)
  (.seq (.cond (.t 14)
    .skip
    (.exit 0))
  (.seq (.block 1
    (.seq (.reg 5 x14r5 none)
    (.seq (.reg 6 x14r6 (some ⟨[]⟩))
    (.cond (.t 24)
      (.seq (.reg 7 x14r7 none)
      .ret)
      .skip))))
  (.reg 8 x14r8 none))))
abbrev x14r9 : List XOper := [
  ⟨(some 4), none, .mv (.c (.bool true))⟩]
/-- datum/datumref10.Ints -/
abbrev x14b : XCode :=
  (.seq (.reg 0 x14r0 none)
  (.seq (.seq (.reg 1 x14r1 none)
  (.cond (.t 10)
    (.seq (.reg 2 x14r2 none)
    .ret)
    .skip))
  (.seq (.seq (.reg 3 x14r3 none)
  (.block 0
    (.loop x14l4)))
  (.seq (.reg 9 x14r9 none)
  .ret))))
def x14 : XFunc := ⟨26, 2, [.tmp 4], x14b⟩
theorem x14_ok : chkF Try.prog Try.f14 x14 = true := by kernel_rfl
theorem x14_eq : x14.body = x14b ∧ x14.res = [.tmp 4] ∧ x14.np = 2 := ⟨rfl, rfl, rfl⟩

abbrev x15r0 : List XOper := [
  ⟨(some 1), none, .box (.t 0)⟩,
  ⟨(some 2), none, .alloc [(.int .i64 0), (.int .i64 0), (.int .i64 0), .nils]⟩,
  ⟨(some 3), none, .mv (.c (.int .i64 0))⟩,
  ⟨(some 4), none, .mv (.c (.int .i64 0))⟩]
abbrev x15r1 : List XOper := [
  ⟨(some 6), none, .load true 4 (.t 1)⟩,
  ⟨(some 7), none, .call (.c (.fn (.func 18) [] [])) [(.t 6)]⟩,
  ⟨(some 8), none, .un .not (.t 7)⟩]
abbrev x15r2 : List XOper := [
  ⟨(some 9), none, .build [(.int .i64 0), (.int .i64 0), (.int .i64 0), .nils] []⟩,
  ⟨none, none, .store 4 (.t 2) (.t 9)⟩,
  ⟨(some 3), none, .mv (.c (.int .i64 0))⟩,
  ⟨(some 4), none, .mv (.c (.int .i64 1))⟩]
abbrev x15r3 : List XOper := [
  ⟨(some 10), none, .fa 3 (.t 1)⟩,
  ⟨(some 11), none, .load false 1 (.t 10)⟩,
  ⟨(some 12), none, .lenV (.t 11)⟩,
  ⟨(some 5), none, .mv (.t 12)⟩]
abbrev x15r4 : List XOper := [
  ⟨(some 13), none, .fa 3 (.t 1)⟩,
  ⟨none, none, .store 1 (.t 13) (.c .nils)⟩]
abbrev x15r5 : List XOper := [
  ⟨(some 14), none, .load true 4 (.t 1)⟩,
  ⟨(some 15), none, .mv (.t 5)⟩,
  ⟨none, none, .store 4 (.t 2) (.t 14)⟩,
  ⟨(some 3), none, .mv (.t 15)⟩,
  ⟨(some 4), none, .mv (.c (.int .i64 0))⟩]
/-- datum/collect.Flush -/
abbrev x15b : XCode :=
  (.seq (.reg 0 x15r0 none)
  (.seq (.seq (.reg 1 x15r1 none)
  (.cond (.t 8)
    (.seq (.reg 2 x15r2 none)
    .ret)
    .skip))
  (.seq (.reg 3 x15r3 none)
  (.seq (.reg 4 x15r4 none)
  (.seq (.reg 5 x15r5 none)
  .ret)))))
def x15 : XFunc := ⟨16, 1, [.cell 2 true 4, .tmp 3, .tmp 4], x15b⟩
theorem x15_ok : chkF Try.prog Try.f15 x15 = true := by kernel_rfl
theorem x15_eq : x15.body = x15b ∧ x15.res = [.cell 2 true 4, .tmp 3, .tmp 4] ∧ x15.np = 1 := ⟨rfl, rfl, rfl⟩

abbrev x16r0 : List XOper := [
  ⟨(some 6), none, .alloc [(.int .i64 0), (.int .i64 0), (.int .i64 0), .nils]⟩,
  ⟨(some 7), none, .mv (.c (.int .i64 0))⟩]
abbrev x16r1 : List XOper := [
  ⟨(some 9), none, .mv (.t 0)⟩,
  ⟨(some 10), none, .mv (.t 1)⟩,
  ⟨(some 11), none, .mv (.t 2)⟩,
  ⟨(some 12), none, .build [(.int .i64 0), (.int .i64 0), (.int .i64 0), .nils] [(0, 1, (.t 9)), (1, 1, (.t 10)), (2, 1, (.t 11))]⟩,
  ⟨(some 8), none, .alloc [(.int .i64 0), (.int .i64 0), (.int .i64 0), .nils]⟩,
  ⟨none, none, .store 4 (.t 8) (.t 12)⟩]
abbrev x16r2 : List XOper := [
  ⟨(some 13), none, .load true 4 (.t 8)⟩,
  ⟨(some 14), none, .call (.c (.fn (.func 18) [] [])) [(.t 13)]⟩,
  ⟨(some 15), none, .un .not (.t 14)⟩]
abbrev x16r3 : List XOper := [
  ⟨(some 16), none, .build [(.int .i64 0), (.int .i64 0), (.int .i64 0), .nils] []⟩,
  ⟨none, none, .store 4 (.t 6) (.t 16)⟩,
  ⟨(some 7), none, .mv (.c (.int .i64 1))⟩]
abbrev x16r4 : List XOper := [
  ⟨(some 17), none, .load true 4 (.t 8)⟩,
  ⟨none, none, .store 4 (.t 6) (.t 17)⟩,
  ⟨(some 7), none, .mv (.c (.int .i64 0))⟩]
/-- datum/collect.New -/
abbrev x16b : XCode :=
  (.seq (.reg 0 x16r0 none)
  (.seq (.reg 1 x16r1 none)
  (.seq (.seq (.reg 2 x16r2 none)
  (.cond (.t 15)
    (.seq (.reg 3 x16r3 none)
    .ret)
    .skip))
  (.seq (.reg 4 x16r4 none)
  .ret))))
def x16 : XFunc := ⟨18, 3, [.cell 6 true 4, .tmp 7], x16b⟩
theorem x16_ok : chkF Try.prog Try.f16 x16 = true := by kernel_rfl
theorem x16_eq : x16.body = x16b ∧ x16.res = [.cell 6 true 4, .tmp 7] ∧ x16.np = 3 := ⟨rfl, rfl, rfl⟩

abbrev x17r0 : List XOper := [
  ⟨(some 2), none, .box (.t 0)⟩,
  ⟨(some 4), none, .alloc [(.int .i64 0), (.int .i64 0), (.int .i64 0), .nils]⟩,
  ⟨(some 5), none, .mv (.c .nils)⟩,
  ⟨(some 6), none, .mv (.c (.int .i64 0))⟩]
abbrev x17r1 : List XOper := [
  ⟨(some 9), none, .load true 4 (.t 2)⟩,
  ⟨(some 10), none, .call (.c (.fn (.func 18) [] [])) [(.t 9)]⟩,
  ⟨(some 11), none, .un .not (.t 10)⟩,
  ⟨(some 8), none, .mv (.t 11)⟩]
abbrev x17r2 : List XOper := [
  ⟨(some 12), none, .build [(.int .i64 0), (.int .i64 0), (.int .i64 0), .nils] []⟩,
  ⟨none, none, .store 4 (.t 4) (.t 12)⟩,
  ⟨(some 5), none, .mv (.c .nils)⟩,
  ⟨(some 6), none, .mv (.c (.int .i64 1))⟩]
abbrev x17r3 : List XOper := [
  ⟨(some 14), none, .load true 4 (.t 2)⟩,
  ⟨(some 15), none, .mv (.t 1)⟩,
  ⟨(some 16), none, .call (.c (.fn (.func 23) [] [])) [(.t 14), (.t 15)]⟩,
  ⟨(some 17), none, .un .not (.t 16)⟩,
  ⟨(some 13), none, .mv (.t 17)⟩]
abbrev x17r4 : List XOper := [
  ⟨(some 18), none, .build [(.int .i64 0), (.int .i64 0), (.int .i64 0), .nils] []⟩,
  ⟨none, none, .store 4 (.t 4) (.t 18)⟩,
  ⟨(some 5), none, .mv (.c .nils)⟩,
  ⟨(some 6), none, .mv (.c (.int .i64 3))⟩]
abbrev x17r5 : List XOper := [
  ⟨(some 20), none, .load true 4 (.t 2)⟩,
  ⟨(some 21), none, .mv (.t 1)⟩,
  ⟨(some 22), none, .call (.c (.fn (.func 24) [] [])) [(.t 20), (.t 21)]⟩,
  ⟨(some 19), none, .mv (.t 22)⟩,
  ⟨(some 23), none, .ext (.t 19) 0⟩,
  ⟨(some 24), none, .ext (.t 19) 1⟩,
  ⟨none, none, .store 4 (.t 2) (.t 23)⟩,
  ⟨(some 7), none, .mv (.t 24)⟩]
abbrev x17r6 : List XOper := [
  ⟨(some 25), none, .load true 4 (.t 2)⟩,
  ⟨(some 26), none, .mv (.t 7)⟩,
  ⟨none, none, .store 4 (.t 4) (.t 25)⟩,
  ⟨(some 5), none, .mv (.t 26)⟩,
  ⟨(some 6), none, .mv (.c (.int .i64 0))⟩]
/-- datum/collect.Add -/
abbrev x17b : XCode :=
  (.seq (.reg 0 x17r0 none)
  (.seq (.block 0
    (.seq (.reg 1 x17r1 none)
    (.cond (.t 8)
      (.seq (.reg 2 x17r2 none)
      .ret)
      (.seq (.reg 3 x17r3 none)
      (.cond (.t 13)
        (.seq (.reg 4 x17r4 none)
        .ret)
        .skip)))))
  (.seq (.reg 5 x17r5 none)
  (.seq (.reg 6 x17r6 none)
  .ret))))
def x17 : XFunc := ⟨27, 2, [.cell 4 true 4, .tmp 5, .tmp 6], x17b⟩
theorem x17_ok : chkF Try.prog Try.f17 x17 = true := by kernel_rfl
theorem x17_eq : x17.body = x17b ∧ x17.res = [.cell 4 true 4, .tmp 5, .tmp 6] ∧ x17.np = 2 := ⟨rfl, rfl, rfl⟩

abbrev x18r0 : List XOper := [
  ⟨(some 1), none, .box (.t 0)⟩,
  ⟨(some 2), none, .mv (.c (.bool false))⟩]
abbrev x18r1 : List XOper := [
  ⟨(some 3), none, .fa 0 (.t 1)⟩,
  ⟨(some 4), none, .load false 1 (.t 3)⟩,
  ⟨(some 5), none, .bin .lss (.t 4) (.c (.int .i64 1))⟩,
  ⟨(some 6), none, .mv (.t 5)⟩,
  ⟨(some 7), (some (6, false)), .fa 0 (.t 1)⟩,
  ⟨(some 8), (some (6, false)), .load false 1 (.t 7)⟩,
  ⟨(some 9), (some (6, false)), .bin .gtr (.t 8) (.c (.int .i64 10))⟩,
  ⟨(some 10), none, .pick (.t 6) (.c (.bool true)) (.t 9)⟩,
  ⟨(some 11), none, .mv (.t 10)⟩,
  ⟨(some 12), (some (11, false)), .fa 1 (.t 1)⟩,
  ⟨(some 13), (some (11, false)), .load false 1 (.t 12)⟩,
  ⟨(some 14), (some (11, false)), .bin .lss (.t 13) (.c (.int .i64 (-1000000)))⟩,
  ⟨(some 15), none, .pick (.t 11) (.c (.bool true)) (.t 14)⟩,
  ⟨(some 16), none, .mv (.t 15)⟩,
  ⟨(some 17), (some (16, false)), .fa 2 (.t 1)⟩,
  ⟨(some 18), (some (16, false)), .load false 1 (.t 17)⟩,
  ⟨(some 19), (some (16, false)), .bin .gtr (.t 18) (.c (.int .i64 1000000))⟩,
  ⟨(some 20), none, .pick (.t 16) (.c (.bool true)) (.t 19)⟩,
  ⟨(some 21), none, .mv (.t 20)⟩,
  ⟨(some 22), (some (21, false)), .fa 1 (.t 1)⟩,
  ⟨(some 23), (some (21, false)), .load false 1 (.t 22)⟩,
  ⟨(some 24), (some (21, false)), .fa 2 (.t 1)⟩,
  ⟨(some 25), (some (21, false)), .load false 1 (.t 24)⟩,
  ⟨(some 26), (some (21, false)), .bin .geq (.t 23) (.t 25)⟩,
  ⟨(some 27), none, .pick (.t 21) (.c (.bool true)) (.t 26)⟩]
abbrev x18r2 : List XOper := [
  ⟨(some 2), none, .mv (.c (.bool false))⟩]
abbrev x18r3 : List XOper := [
  ⟨(some 28), none, .fa 3 (.t 1)⟩,
  ⟨(some 29), none, .load false 1 (.t 28)⟩,
  ⟨(some 30), none, .lenV (.t 29)⟩,
  ⟨(some 31), none, .fa 0 (.t 1)⟩,
  ⟨(some 32), none, .load false 1 (.t 31)⟩,
  ⟨(some 33), none, .bin .lss (.t 30) (.t 32)⟩,
  ⟨(some 34), none, .mv (.t 33)⟩,
  ⟨(some 35), (some (34, true)), .fa 3 (.t 1)⟩,
  ⟨(some 36), (some (34, true)), .load false 1 (.t 35)⟩,
  ⟨(some 37), (some (34, true)), .mkf (.func 26) [] [(.t 1)]⟩,
  ⟨(some 38), (some (34, true)), .call (.c (.fn (.func 25) [] [])) [(.t 36), (.t 37)]⟩,
  ⟨(some 39), (some (34, true)), .un .not (.t 38)⟩,
  ⟨(some 40), none, .pick (.t 34) (.t 39) (.c (.bool false))⟩,
  ⟨(some 2), none, .mv (.t 40)⟩]
/-- datum/collect.Right -/
abbrev x18b : XCode :=
  (.seq (.reg 0 x18r0 none)
  (.seq (.seq (.reg 1 x18r1 none)
  (.cond (.t 27)
    (.seq (.reg 2 x18r2 none)
    .ret)
    .skip))
  (.seq (.reg 3 x18r3 none)
  .ret)))
def x18 : XFunc := ⟨41, 1, [.tmp 2], x18b⟩
theorem x18_ok : chkF Try.prog Try.f18 x18 = true := by kernel_rfl
theorem x18_eq : x18.body = x18b ∧ x18.res = [.tmp 2] ∧ x18.np = 1 := ⟨rfl, rfl, rfl⟩

abbrev x19r0 : List XOper := [
  ⟨(some 6), none, .mv (.c (.bool false))⟩]
abbrev x19r1 : List XOper := [
  ⟨(some 7), none, .mv (.t 0)⟩,
  ⟨(some 8), none, .bin .geq (.t 7) (.c (.int .i64 1))⟩,
  ⟨(some 9), none, .mv (.t 8)⟩,
  ⟨(some 10), (some (9, true)), .mv (.t 0)⟩,
  ⟨(some 11), (some (9, true)), .bin .leq (.t 10) (.c (.int .i64 10))⟩,
  ⟨(some 12), none, .pick (.t 9) (.t 11) (.c (.bool false))⟩,
  ⟨(some 13), none, .mv (.t 12)⟩,
  ⟨(some 14), (some (13, true)), .mv (.t 1)⟩,
  ⟨(some 15), (some (13, true)), .bin .geq (.t 14) (.c (.int .i64 (-1000000)))⟩,
  ⟨(some 16), none, .pick (.t 13) (.t 15) (.c (.bool false))⟩,
  ⟨(some 17), none, .mv (.t 16)⟩,
  ⟨(some 18), (some (17, true)), .mv (.t 2)⟩,
  ⟨(some 19), (some (17, true)), .bin .leq (.t 18) (.c (.int .i64 1000000))⟩,
  ⟨(some 20), none, .pick (.t 17) (.t 19) (.c (.bool false))⟩,
  ⟨(some 21), none, .mv (.t 20)⟩,
  ⟨(some 22), (some (21, true)), .mv (.t 1)⟩,
  ⟨(some 23), (some (21, true)), .mv (.t 2)⟩,
  ⟨(some 24), (some (21, true)), .bin .lss (.t 22) (.t 23)⟩,
  ⟨(some 25), none, .pick (.t 21) (.t 24) (.c (.bool false))⟩,
  ⟨(some 6), none, .mv (.t 25)⟩]
/-- datum/datumref10.Sizes -/
abbrev x19b : XCode :=
  (.seq (.reg 0 x19r0 none)
  (.seq (.reg 1 x19r1 none)
  .ret))
def x19 : XFunc := ⟨26, 3, [.tmp 6], x19b⟩
theorem x19_ok : chkF Try.prog Try.f19 x19 = true := by kernel_rfl
theorem x19_eq : x19.body = x19b ∧ x19.res = [.tmp 6] ∧ x19.np = 3 := ⟨rfl, rfl, rfl⟩

abbrev x20r0 : List XOper := [
  ⟨(some 2), none, .box (.t 0)⟩,
  ⟨(some 4), none, .mv (.c (.bool false))⟩]
abbrev x20r1 : List XOper := [
  ⟨(some 5), none, .mv (.t 1)⟩,
  ⟨(some 6), none, .fa 1 (.t 2)⟩,
  ⟨(some 7), none, .load false 1 (.t 6)⟩,
  ⟨(some 8), none, .bin .geq (.t 5) (.t 7)⟩,
  ⟨(some 9), none, .mv (.t 8)⟩,
  ⟨(some 10), (some (9, true)), .mv (.t 1)⟩,
  ⟨(some 11), (some (9, true)), .fa 2 (.t 2)⟩,
  ⟨(some 12), (some (9, true)), .load false 1 (.t 11)⟩,
  ⟨(some 13), (some (9, true)), .bin .leq (.t 10) (.t 12)⟩,
  ⟨(some 14), none, .pick (.t 9) (.t 13) (.c (.bool false))⟩,
  ⟨(some 4), none, .mv (.t 14)⟩]
/-- datum/datumref10.Fits -/
abbrev x20b : XCode :=
  (.seq (.reg 0 x20r0 none)
  (.seq (.reg 1 x20r1 none)
  .ret))
def x20 : XFunc := ⟨15, 2, [.tmp 4], x20b⟩
theorem x20_ok : chkF Try.prog Try.f20 x20 = true := by kernel_rfl
theorem x20_eq : x20.body = x20b ∧ x20.res = [.tmp 4] ∧ x20.np = 2 := ⟨rfl, rfl, rfl⟩

abbrev x21r0 : List XOper := [
  ⟨(some 2), none, .box (.t 0)⟩,
  ⟨(some 4), none, .alloc [(.int .i64 0), (.int .i64 0), (.int .i64 0), .nils]⟩,
  ⟨(some 5), none, .mv (.c .nils)⟩]
abbrev x21r1 : List XOper := [
  ⟨(some 7), none, .mkslice 1 (.int .i64 0) 0 []⟩,
  ⟨(some 6), none, .mv (.t 7)⟩]
abbrev x21r2 : List XOper := [
  ⟨(some 8), none, .mv (.t 6)⟩,
  ⟨(some 9), none, .fa 3 (.t 2)⟩,
  ⟨(some 10), none, .load false 1 (.t 9)⟩,
  ⟨(some 11), none, .app 1 8 (.t 8) (.t 10)⟩,
  ⟨(some 6), none, .mv (.t 11)⟩]
abbrev x21r3 : List XOper := [
  ⟨(some 12), none, .mv (.t 6)⟩,
  ⟨(some 13), none, .mv (.t 1)⟩,
  ⟨(some 14), none, .mkslice 1 (.int .i64 0) 1 [(0, (.t 13))]⟩,
  ⟨(some 15), none, .app 1 8 (.t 12) (.t 14)⟩,
  ⟨(some 6), none, .mv (.t 15)⟩]
abbrev x21r4 : List XOper := [
  ⟨(some 16), none, .mv (.t 6)⟩,
  ⟨(some 17), none, .lenV (.t 16)⟩,
  ⟨(some 18), none, .fa 0 (.t 2)⟩,
  ⟨(some 19), none, .load false 1 (.t 18)⟩,
  ⟨(some 20), none, .bin .eql (.t 17) (.t 19)⟩]
abbrev x21r5 : List XOper := [
  ⟨(some 21), none, .fa 3 (.t 2)⟩,
  ⟨none, none, .store 1 (.t 21) (.c .nils)⟩]
abbrev x21r6 : List XOper := [
  ⟨(some 22), none, .load true 4 (.t 2)⟩,
  ⟨(some 23), none, .mv (.t 6)⟩,
  ⟨none, none, .store 4 (.t 4) (.t 22)⟩,
  ⟨(some 5), none, .mv (.t 23)⟩]
abbrev x21r7 : List XOper := [
  ⟨(some 24), none, .mv (.t 6)⟩,
  ⟨(some 25), none, .fa 3 (.t 2)⟩,
  ⟨none, none, .store 1 (.t 25) (.t 24)⟩]
abbrev x21r8 : List XOper := [
  ⟨(some 26), none, .load true 4 (.t 2)⟩,
  ⟨none, none, .store 4 (.t 4) (.t 26)⟩,
  ⟨(some 5), none, .mv (.c .nils)⟩]
/-- datum/datumref10.Add -/
abbrev x21b : XCode :=
  (.seq (.reg 0 x21r0 none)
  (.seq (.reg 1 x21r1 none)
  (.seq (.reg 2 x21r2 none)
  (.seq (.reg 3 x21r3 none)
  (.seq (.seq (.reg 4 x21r4 none)
  (.cond (.t 20)
    (.seq (.reg 5 x21r5 none)
    (.seq (.reg 6 x21r6 none)
    .ret))
    .skip))
  (.seq (.reg 7 x21r7 none)
  (.seq (.reg 8 x21r8 none)
  .ret)))))))
def x21 : XFunc := ⟨27, 2, [.cell 4 true 4, .tmp 5], x21b⟩
theorem x21_ok : chkF Try.prog Try.f21 x21 = true := by kernel_rfl
theorem x21_eq : x21.body = x21b ∧ x21.res = [.cell 4 true 4, .tmp 5] ∧ x21.np = 2 := ⟨rfl, rfl, rfl⟩

abbrev x22r0 : List XOper := [
  ⟨(some 6), none, .load true 4 (.t 1)⟩,
  ⟨(some 7), none, .mv (.t 0)⟩,
  ⟨(some 8), none, .call (.c (.fn (.func 23) [] [])) [(.t 6), (.t 7)]⟩,
  ⟨(some 9), none, .un .not (.t 8)⟩]
abbrev x22r1 : List XOper := [
  ⟨(some 10), none, .load false 1 (.t 2)⟩,
  ⟨(some 11), none, .bin .add (.t 10) (.c (.int .i64 1))⟩,
  ⟨none, none, .store 1 (.t 2) (.t 11)⟩]
abbrev x22r2 : List XOper := [
  ⟨(some 5), none, .mv (.c .nils)⟩]
abbrev x22r3 : List XOper := [
  ⟨(some 13), none, .load true 4 (.t 1)⟩,
  ⟨(some 14), none, .mv (.t 0)⟩,
  ⟨(some 15), none, .call (.c (.fn (.func 24) [] [])) [(.t 13), (.t 14)]⟩,
  ⟨(some 12), none, .mv (.t 15)⟩,
  ⟨(some 16), none, .ext (.t 12) 0⟩,
  ⟨(some 17), none, .ext (.t 12) 1⟩,
  ⟨none, none, .store 4 (.t 1) (.t 16)⟩,
  ⟨(some 5), none, .mv (.t 17)⟩]
abbrev x22r4 : List XOper := [
  ⟨(some 18), none, .mv (.t 5)⟩,
  ⟨(some 19), none, .eqN true 0 (.t 18)⟩]
abbrev x22r5 : List XOper := [
  ⟨(some 20), none, .load false 1 (.t 3)⟩,
  ⟨(some 21), none, .mv (.t 5)⟩,
  ⟨(some 22), none, .mkslice 1 .nils 1 [(0, (.t 21))]⟩,
  ⟨(some 23), none, .app 1 24 (.t 20) (.t 22)⟩,
  ⟨none, none, .store 1 (.t 3) (.t 23)⟩]
/-- datum/collect.Feed$1 -/
abbrev x22b : XCode :=
  (.seq (.seq (.reg 0 x22r0 none)
  (.cond (.t 9)
    (.seq (.reg 1 x22r1 none)
    .ret)
    .skip))
  (.seq (.reg 2 x22r2 none)
  (.seq (.reg 3 x22r3 none)
  (.seq (.reg 4 x22r4 none)
  (.cond (.t 19)
    (.reg 5 x22r5 none)
    .skip)))))
def x22 : XFunc := ⟨24, 4, [], x22b⟩
theorem x22_ok : chkF Try.prog Try.f22 x22 = true := by kernel_rfl
theorem x22_eq : x22.body = x22b ∧ x22.res = [] ∧ x22.np = 4 := ⟨rfl, rfl, rfl⟩

abbrev x23r0 : List XOper := [
  ⟨(some 2), none, .box (.t 0)⟩,
  ⟨(some 4), none, .mv (.c (.bool false))⟩]
abbrev x23r1 : List XOper := [
  ⟨(some 5), none, .mv (.t 1)⟩,
  ⟨(some 6), none, .fa 1 (.t 2)⟩,
  ⟨(some 7), none, .load false 1 (.t 6)⟩,
  ⟨(some 8), none, .bin .geq (.t 5) (.t 7)⟩,
  ⟨(some 9), none, .mv (.t 8)⟩,
  ⟨(some 10), (some (9, true)), .mv (.t 1)⟩,
  ⟨(some 11), (some (9, true)), .fa 2 (.t 2)⟩,
  ⟨(some 12), (some (9, true)), .load false 1 (.t 11)⟩,
  ⟨(some 13), (some (9, true)), .bin .leq (.t 10) (.t 12)⟩,
  ⟨(some 14), none, .pick (.t 9) (.t 13) (.c (.bool false))⟩,
  ⟨(some 4), none, .mv (.t 14)⟩]
/-- datum/collect.fits -/
abbrev x23b : XCode :=
  (.seq (.reg 0 x23r0 none)
  (.seq (.reg 1 x23r1 none)
  .ret))
def x23 : XFunc := ⟨15, 2, [.tmp 4], x23b⟩
theorem x23_ok : chkF Try.prog Try.f23 x23 = true := by kernel_rfl
theorem x23_eq : x23.body = x23b ∧ x23.res = [.tmp 4] ∧ x23.np = 2 := ⟨rfl, rfl, rfl⟩

abbrev x24r0 : List XOper := [
  ⟨(some 2), none, .box (.t 0)⟩,
  ⟨(some 4), none, .alloc [(.int .i64 0), (.int .i64 0), (.int .i64 0), .nils]⟩,
  ⟨(some 5), none, .mv (.c .nils)⟩]
abbrev x24r1 : List XOper := [
  ⟨(some 7), none, .fa 3 (.t 2)⟩,
  ⟨(some 8), none, .load false 1 (.t 7)⟩,
  ⟨(some 9), none, .lenV (.t 8)⟩,
  ⟨(some 10), none, .bin .add (.t 9) (.c (.int .i64 1))⟩,
  ⟨(some 11), none, .mkS 1 8 (.int .i64 0) (.t 10) (.t 10)⟩,
  ⟨(some 6), none, .mv (.t 11)⟩]
abbrev x24r2 : List XOper := [
  ⟨(some 12), none, .mv (.t 6)⟩,
  ⟨(some 13), none, .mv (.t 6)⟩,
  ⟨(some 14), none, .fa 3 (.t 2)⟩,
  ⟨(some 15), none, .load false 1 (.t 14)⟩,
  ⟨(some 16), none, .cpy 1 (.t 13) (.t 15)⟩,
  ⟨(some 17), none, .mv (.t 1)⟩,
  ⟨(some 18), none, .iaS 1 (.t 12) (.t 16)⟩,
  ⟨none, none, .store 1 (.t 18) (.t 17)⟩]
abbrev x24r3 : List XOper := [
  ⟨(some 19), none, .mv (.t 6)⟩,
  ⟨(some 20), none, .lenV (.t 19)⟩,
  ⟨(some 21), none, .fa 0 (.t 2)⟩,
  ⟨(some 22), none, .load false 1 (.t 21)⟩,
  ⟨(some 23), none, .bin .eql (.t 20) (.t 22)⟩]
abbrev x24r4 : List XOper := [
  ⟨(some 24), none, .fa 3 (.t 2)⟩,
  ⟨none, none, .store 1 (.t 24) (.c .nils)⟩]
abbrev x24r5 : List XOper := [
  ⟨(some 25), none, .load true 4 (.t 2)⟩,
  ⟨(some 26), none, .mv (.t 6)⟩,
  ⟨none, none, .store 4 (.t 4) (.t 25)⟩,
  ⟨(some 5), none, .mv (.t 26)⟩]
abbrev x24r6 : List XOper := [
  ⟨(some 27), none, .mv (.t 6)⟩,
  ⟨(some 28), none, .fa 3 (.t 2)⟩,
  ⟨none, none, .store 1 (.t 28) (.t 27)⟩]
abbrev x24r7 : List XOper := [
  ⟨(some 29), none, .load true 4 (.t 2)⟩,
  ⟨none, none, .store 4 (.t 4) (.t 29)⟩,
  ⟨(some 5), none, .mv (.c .nils)⟩]
/-- datum/collect.add -/
abbrev x24b : XCode :=
  (.seq (.reg 0 x24r0 none)
  (.seq (.reg 1 x24r1 none)
  (.seq (.reg 2 x24r2 none)
  (.seq (.seq (.reg 3 x24r3 none)
  (.cond (.t 23)
    (.seq (.reg 4 x24r4 none)
    (.seq (.reg 5 x24r5 none)
    .ret))
    .skip))
  (.seq (.reg 6 x24r6 none)
  (.seq (.reg 7 x24r7 none)
  .ret))))))
def x24 : XFunc := ⟨30, 2, [.cell 4 true 4, .tmp 5], x24b⟩
theorem x24_ok : chkF Try.prog Try.f24 x24 = true := by kernel_rfl
theorem x24_eq : x24.body = x24b ∧ x24.res = [.cell 4 true 4, .tmp 5] ∧ x24.np = 2 := ⟨rfl, rfl, rfl⟩

abbrev x25r0 : List XOper := [
  ⟨(some 4), none, .mv (.c (.bool false))⟩]
abbrev x25r1 : List XOper := [
  ⟨(some 5), none, .mv (.t 0)⟩,
  ⟨(some 6), none, .mv (.t 1)⟩,
  ⟨(some 7), none, .call (.c (.fn (.func 27) [] [])) [(.t 5), (.t 6)]⟩,
  ⟨(some 8), none, .bin .geq (.t 7) (.c (.int .i64 0))⟩,
  ⟨(some 4), none, .mv (.t 8)⟩]
/-- slices.ContainsFunc[[]int,int] -/
abbrev x25b : XCode :=
  (.seq (.reg 0 x25r0 none)
  (.seq (.reg 1 x25r1 none)
  .ret))
def x25 : XFunc := ⟨9, 2, [.tmp 4], x25b⟩
theorem x25_ok : chkF Try.prog Try.f25 x25 = true := by kernel_rfl
theorem x25_eq : x25.body = x25b ∧ x25.res = [.tmp 4] ∧ x25.np = 2 := ⟨rfl, rfl, rfl⟩

abbrev x26r0 : List XOper := [
  ⟨(some 3), none, .mv (.c (.bool false))⟩]
abbrev x26r1 : List XOper := [
  ⟨(some 4), none, .load true 4 (.t 1)⟩,
  ⟨(some 5), none, .mv (.t 0)⟩,
  ⟨(some 6), none, .call (.c (.fn (.func 23) [] [])) [(.t 4), (.t 5)]⟩,
  ⟨(some 7), none, .un .not (.t 6)⟩,
  ⟨(some 3), none, .mv (.t 7)⟩]
/-- datum/collect.Right$1 -/
abbrev x26b : XCode :=
  (.seq (.reg 0 x26r0 none)
  (.seq (.reg 1 x26r1 none)
  .ret))
def x26 : XFunc := ⟨8, 2, [.tmp 3], x26b⟩
theorem x26_ok : chkF Try.prog Try.f26 x26 = true := by kernel_rfl
theorem x26_eq : x26.body = x26b ∧ x26.res = [.tmp 3] ∧ x26.np = 2 := ⟨rfl, rfl, rfl⟩

abbrev x27r0 : List XOper := [
  ⟨(some 4), none, .mv (.c (.int .i64 0))⟩]
abbrev x27r1 : List XOper := [
  ⟨(some 6), none, .mv (.t 0)⟩,
  ⟨(some 7), none, .lenV (.t 6)⟩,
  ⟨(some 8), none, .mv (.c (.int .i64 0))⟩]
abbrev x27r2 : List XOper := [
  ⟨(some 9), none, .bin .lss (.t 8) (.t 7)⟩]
abbrev x27r3 : List XOper := [
  ⟨(some 10), none, .mv (.t 8)⟩,
  ⟨(some 5), none, .mv (.t 10)⟩]
abbrev x27r4 : List XOper := [
  ⟨(some 11), none, .mv (.t 1)⟩,
  ⟨(some 12), none, .mv (.t 0)⟩,
  ⟨(some 13), none, .mv (.t 5)⟩,
  ⟨(some 14), none, .iaS 1 (.t 12) (.t 13)⟩,
  ⟨(some 15), none, .load false 1 (.t 14)⟩,
  ⟨(some 16), none, .call (.t 11) [(.t 15)]⟩]
abbrev x27r5 : List XOper := [
  ⟨(some 17), none, .mv (.t 5)⟩,
  ⟨(some 4), none, .mv (.t 17)⟩]
abbrev x27r6 : List XOper := [
  ⟨(some 18), none, .bin .add (.t 8) (.c (.int .i64 1))⟩,
  ⟨(some 8), none, .mv (.t 18)⟩]
abbrev x27l2 : XCode :=
  (.seq (.reg 2 x27r2 none)
  (.seq (.cond (.t 9)
    .skip
    (.exit 0))
  (.seq (.block 1
    (.seq (.reg 3 x27r3 none)
    (.seq (.reg 4 x27r4 none)
    (.cond (.t 16)
      (.seq (.reg 5 x27r5 none)
      .ret)
      .skip))))
  (.reg 6 x27r6 none))))
abbrev x27r7 : List XOper := [
  ⟨(some 4), none, .mv (.c (.int .i64 (-1)))⟩]
/-- slices.IndexFunc[[]int,int] -/
abbrev x27b : XCode :=
  (.seq (.reg 0 x27r0 none)
  (.seq (.seq (.reg 1 x27r1 none)
  (.block 0
    (.loop x27l2)))
  (.seq (.reg 7 x27r7 none)
  .ret)))
def x27 : XFunc := ⟨19, 2, [.tmp 4], x27b⟩
theorem x27_ok : chkF Try.prog Try.f27 x27 = true := by kernel_rfl
theorem x27_eq : x27.body = x27b ∧ x27.res = [.tmp 4] ∧ x27.np = 2 := ⟨rfl, rfl, rfl⟩


def xf : FuncId → Option XFunc
  | 3 => some x3
  | 4 => some x4
  | 5 => some x5
  | 6 => some x6
  | 7 => some x7
  | 8 => some x8
  | 9 => some x9
  | 10 => some x10
  | 11 => some x11
  | 12 => some x12
  | 13 => some x13
  | 14 => some x14
  | 15 => some x15
  | 16 => some x16
  | 17 => some x17
  | 18 => some x18
  | 19 => some x19
  | 20 => some x20
  | 21 => some x21
  | 22 => some x22
  | 23 => some x23
  | 24 => some x24
  | 25 => some x25
  | 26 => some x26
  | 27 => some x27
  | _ => none
def C0 : Cfg := ⟨fun _ => none, xf⟩
theorem ok0 : CfgOk Try.prog C0 := by
  refine ⟨(fun g F h => by cases h), (fun g x h => ?_), by kernel_rfl⟩
  simp only [C0, xf] at h
  split at h
  · cases h; exact ⟨Try.f3, Try.func3, x3_ok⟩
  · cases h; exact ⟨Try.f4, Try.func4, x4_ok⟩
  · cases h; exact ⟨Try.f5, Try.func5, x5_ok⟩
  · cases h; exact ⟨Try.f6, Try.func6, x6_ok⟩
  · cases h; exact ⟨Try.f7, Try.func7, x7_ok⟩
  · cases h; exact ⟨Try.f8, Try.func8, x8_ok⟩
  · cases h; exact ⟨Try.f9, Try.func9, x9_ok⟩
  · cases h; exact ⟨Try.f10, Try.func10, x10_ok⟩
  · cases h; exact ⟨Try.f11, Try.func11, x11_ok⟩
  · cases h; exact ⟨Try.f12, Try.func12, x12_ok⟩
  · cases h; exact ⟨Try.f13, Try.func13, x13_ok⟩
  · cases h; exact ⟨Try.f14, Try.func14, x14_ok⟩
  · cases h; exact ⟨Try.f15, Try.func15, x15_ok⟩
  · cases h; exact ⟨Try.f16, Try.func16, x16_ok⟩
  · cases h; exact ⟨Try.f17, Try.func17, x17_ok⟩
  · cases h; exact ⟨Try.f18, Try.func18, x18_ok⟩
  · cases h; exact ⟨Try.f19, Try.func19, x19_ok⟩
  · cases h; exact ⟨Try.f20, Try.func20, x20_ok⟩
  · cases h; exact ⟨Try.f21, Try.func21, x21_ok⟩
  · cases h; exact ⟨Try.f22, Try.func22, x22_ok⟩
  · cases h; exact ⟨Try.f23, Try.func23, x23_ok⟩
  · cases h; exact ⟨Try.f24, Try.func24, x24_ok⟩
  · cases h; exact ⟨Try.f25, Try.func25, x25_ok⟩
  · cases h; exact ⟨Try.f26, Try.func26, x26_ok⟩
  · cases h; exact ⟨Try.f27, Try.func27, x27_ok⟩
  · cases h
end Go.Proofs.Ytplmnikmdcnebaa
