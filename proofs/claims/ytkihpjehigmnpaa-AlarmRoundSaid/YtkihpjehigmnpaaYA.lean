/-
  The functions that the statements reach, as the interpreter's texts, each checked against the translation.
-/
import Derived.Test.YtkihpjehigmnpaaXZ
import Derived.Test.YtkihpjehigmnpaaRows
set_option linter.unusedVariables false
namespace Go.Proofs.Ytkihpjehigmnpaa
open Go Go.Xec

abbrev x3r0 : List XOper := [
  ⟨(some 6), none, .mv (.c (.bool false))⟩]
abbrev x3r1 : List XOper := [
  ⟨(some 20), none, .mv (.t 1)⟩,
  ⟨(some 21), none, .bin .rem (.t 20) (.c (.int .i64 4))⟩,
  ⟨(some 22), none, .bin .add (.t 21) (.c (.int .i64 4))⟩,
  ⟨(some 23), none, .bin .rem (.t 22) (.c (.int .i64 4))⟩,
  ⟨(some 24), none, .mv (.t 2)⟩,
  ⟨(some 25), none, .bin .rem (.t 24) (.c (.int .i64 16))⟩,
  ⟨(some 26), none, .bin .add (.t 25) (.c (.int .i64 16))⟩,
  ⟨(some 27), none, .bin .rem (.t 26) (.c (.int .i64 16))⟩,
  ⟨(some 1), none, .mv (.t 23)⟩,
  ⟨(some 2), none, .mv (.t 27)⟩]
abbrev x3r2 : List XOper := [
  ⟨(some 7), none, .mv (.c .nils)⟩]
abbrev x3r3 : List XOper := [
  ⟨(some 8), none, .mv (.c (.int .i64 0))⟩]
abbrev x3r4 : List XOper := [
  ⟨(some 28), none, .mv (.t 0)⟩,
  ⟨(some 29), none, .mv (.t 0)⟩,
  ⟨(some 30), none, .lenV (.t 29)⟩,
  ⟨(some 31), none, .mnx false (.t 30) [(.c (.int .i64 100))]⟩,
  ⟨(some 32), none, .slV 3 (.t 28) none (some (.t 31)) none⟩,
  ⟨(some 33), none, .lenV (.t 32)⟩,
  ⟨(some 34), none, .mv (.c (.int .i64 0))⟩]
abbrev x3r5 : List XOper := [
  ⟨(some 35), none, .bin .lss (.t 34) (.t 33)⟩]
abbrev x3r6 : List XOper := [
  ⟨(some 36), none, .iaS 3 (.t 32) (.t 34)⟩,
  ⟨(some 37), none, .load true 3 (.t 36)⟩,
  ⟨(some 10), none, .alloc [(.int .i64 0), (.int .i64 0), (.int .i64 0)]⟩,
  ⟨none, none, .store 3 (.t 10) (.t 37)⟩]
abbrev x3r7 : List XOper := [
  ⟨(some 38), none, .iaA 3 1 (.t 10) (.c (.int .i64 1))⟩,
  ⟨(some 39), none, .load false 1 (.t 38)⟩,
  ⟨(some 40), none, .bin .rem (.t 39) (.c (.int .i64 4))⟩,
  ⟨(some 41), none, .bin .add (.t 40) (.c (.int .i64 4))⟩,
  ⟨(some 42), none, .bin .rem (.t 41) (.c (.int .i64 4))⟩,
  ⟨(some 43), none, .iaA 3 1 (.t 10) (.c (.int .i64 2))⟩,
  ⟨(some 44), none, .load false 1 (.t 43)⟩,
  ⟨(some 45), none, .bin .rem (.t 44) (.c (.int .i64 16))⟩,
  ⟨(some 46), none, .bin .add (.t 45) (.c (.int .i64 16))⟩,
  ⟨(some 47), none, .bin .rem (.t 46) (.c (.int .i64 16))⟩,
  ⟨(some 11), none, .mv (.t 42)⟩,
  ⟨(some 12), none, .mv (.t 47)⟩]
abbrev x3r8 : List XOper := [
  ⟨(some 13), none, .mv (.c .nils)⟩]
abbrev x3r9 : List XOper := [
  ⟨(some 14), none, .mv (.c (.int .i64 0))⟩]
abbrev x3r10 : List XOper := [
  ⟨(some 48), none, .iaA 3 1 (.t 10) (.c (.int .i64 0))⟩,
  ⟨(some 49), none, .load false 1 (.t 48)⟩,
  ⟨(some 50), none, .bin .rem (.t 49) (.c (.int .i64 3))⟩,
  ⟨(some 51), none, .bin .add (.t 50) (.c (.int .i64 3))⟩,
  ⟨(some 52), none, .bin .rem (.t 51) (.c (.int .i64 3))⟩,
  ⟨(some 15), none, .mv (.c (.bool false))⟩,
  ⟨(some 16), none, .mv (.t 52)⟩]
abbrev x3r11 : List XOper := [
  ⟨(some 53), none, .mv (.t 16)⟩]
abbrev x3r13 : List XOper := [
  ⟨(some 62), none, .bin .eql (.t 53) (.c (.int .i64 0))⟩,
  ⟨(some 61), none, .mv (.t 62)⟩]
abbrev x3r14 : List XOper := [
  ⟨(some 64), none, .mv (.t 7)⟩,
  ⟨(some 65), none, .mv (.t 11)⟩,
  ⟨(some 66), none, .mv (.t 12)⟩,
  ⟨(some 67), none, .call (.c (.fn (.func 6) [] [])) [(.t 64), (.t 65), (.t 66)]⟩,
  ⟨(some 63), none, .mv (.t 67)⟩,
  ⟨(some 68), none, .ext (.t 63) 0⟩,
  ⟨(some 69), none, .ext (.t 63) 1⟩,
  ⟨(some 70), none, .ext (.t 63) 2⟩,
  ⟨(some 13), none, .mv (.t 68)⟩,
  ⟨(some 15), none, .mv (.t 69)⟩,
  ⟨(some 14), none, .mv (.t 70)⟩]
abbrev x3r15 : List XOper := [
  ⟨(some 72), none, .bin .eql (.t 53) (.c (.int .i64 1))⟩,
  ⟨(some 71), none, .mv (.t 72)⟩]
abbrev x3r16 : List XOper := [
  ⟨(some 74), none, .mv (.t 7)⟩,
  ⟨(some 75), none, .mv (.t 11)⟩,
  ⟨(some 76), none, .mv (.t 12)⟩,
  ⟨(some 77), none, .call (.c (.fn (.func 7) [] [])) [(.t 74), (.t 75), (.t 76)]⟩,
  ⟨(some 73), none, .mv (.t 77)⟩,
  ⟨(some 78), none, .ext (.t 73) 0⟩,
  ⟨(some 79), none, .ext (.t 73) 1⟩,
  ⟨(some 13), none, .mv (.t 78)⟩,
  ⟨(some 14), none, .mv (.t 79)⟩]
abbrev x3r12 : List XOper := [
  ⟨(some 55), none, .mv (.t 7)⟩,
  ⟨(some 56), none, .mv (.t 11)⟩,
  ⟨(some 57), none, .mv (.t 12)⟩,
  ⟨(some 58), none, .call (.c (.fn (.func 8) [] [])) [(.t 55), (.t 56), (.t 57)]⟩,
  ⟨(some 54), none, .mv (.t 58)⟩,
  ⟨(some 59), none, .ext (.t 54) 0⟩,
  ⟨(some 60), none, .ext (.t 54) 1⟩,
  ⟨(some 13), none, .mv (.t 59)⟩,
  ⟨(some 14), none, .mv (.t 60)⟩]
abbrev x3r17 : List XOper := [
  ⟨(some 80), none, .mv (.t 7)⟩,
  ⟨(some 81), none, .mv (.t 11)⟩,
  ⟨(some 82), none, .mv (.t 12)⟩,
  ⟨(some 83), none, .call (.c (.fn (.func 9) [] [])) [(.t 80), (.t 81), (.t 82)]⟩,
  ⟨(some 17), none, .mv (.t 83)⟩]
abbrev x3r18 : List XOper := [
  ⟨(some 84), none, .mv (.t 17)⟩,
  ⟨(some 85), none, .mv (.t 16)⟩,
  ⟨(some 86), none, .bin .eql (.t 84) (.t 85)⟩,
  ⟨(some 18), none, .mv (.t 86)⟩]
abbrev x3r19 : List XOper := [
  ⟨(some 19), none, .mv (.c (.int .i64 0))⟩]
abbrev x3r20 : List XOper := [
  ⟨(some 87), none, .mv (.t 16)⟩,
  ⟨(some 88), none, .bin .gtr (.t 87) (.c (.int .i64 0))⟩,
  ⟨(some 89), none, .mv (.t 88)⟩,
  ⟨(some 90), (some (89, true)), .mv (.t 18)⟩,
  ⟨(some 91), (some (89, true)), .un .not (.t 90)⟩,
  ⟨(some 92), none, .pick (.t 89) (.t 91) (.c (.bool false))⟩]
abbrev x3r21 : List XOper := [
  ⟨(some 19), none, .mv (.c (.int .i64 12))⟩]
abbrev x3r22 : List XOper := [
  ⟨(some 93), none, .mv (.t 17)⟩,
  ⟨(some 94), none, .bin .eql (.t 93) (.c (.int .i64 0))⟩]
abbrev x3r23 : List XOper := [
  ⟨(some 19), none, .mv (.c (.int .i64 6))⟩]
abbrev x3r24 : List XOper := [
  ⟨(some 95), none, .mv (.t 14)⟩,
  ⟨(some 96), none, .mv (.t 19)⟩,
  ⟨(some 97), none, .bin .neq (.t 95) (.t 96)⟩,
  ⟨(some 98), none, .mv (.t 97)⟩,
  ⟨(some 99), (some (98, false)), .mv (.t 15)⟩,
  ⟨(some 100), (some (98, false)), .mv (.t 16)⟩,
  ⟨(some 101), (some (98, false)), .bin .eql (.t 100) (.c (.int .i64 0))⟩,
  ⟨(some 102), (some (98, false)), .mv (.t 101)⟩,
  ⟨(some 103), (some (102, true)), .mv (.t 18)⟩,
  ⟨(some 104), (some (98, false)), .pick (.t 102) (.t 103) (.c (.bool false))⟩,
  ⟨(some 105), (some (98, false)), .eqB true (.t 99) (.t 104)⟩,
  ⟨(some 106), none, .pick (.t 98) (.c (.bool true)) (.t 105)⟩,
  ⟨(some 107), none, .mv (.t 106)⟩,
  ⟨(some 108), (some (107, false)), .mv (.t 14)⟩,
  ⟨(some 109), (some (107, false)), .bin .neq (.t 108) (.c (.int .i64 0))⟩,
  ⟨(some 110), (some (107, false)), .mv (.t 109)⟩,
  ⟨(some 111), (some (110, true)), .mv (.t 13)⟩,
  ⟨(some 112), (some (110, true)), .lenV (.t 111)⟩,
  ⟨(some 113), (some (110, true)), .bin .neq (.t 112) (.c (.int .i64 0))⟩,
  ⟨(some 114), (some (107, false)), .pick (.t 110) (.t 113) (.c (.bool false))⟩,
  ⟨(some 115), none, .pick (.t 107) (.c (.bool true)) (.t 114)⟩]
abbrev x3r25 : List XOper := [
  ⟨(some 6), none, .mv (.c (.bool false))⟩]
abbrev x3r26 : List XOper := [
  ⟨(some 116), none, .mv (.t 14)⟩,
  ⟨(some 117), none, .bin .eql (.t 116) (.c (.int .i64 0))⟩]
abbrev x3r27 : List XOper := [
  ⟨(some 118), none, .mv (.t 13)⟩,
  ⟨(some 7), none, .mv (.t 118)⟩]
abbrev x3r28 : List XOper := [
  ⟨(some 119), none, .mv (.t 18)⟩,
  ⟨(some 120), none, .mv (.t 119)⟩,
  ⟨(some 121), (some (120, true)), .mv (.t 11)⟩,
  ⟨(some 122), (some (120, true)), .mv (.t 1)⟩,
  ⟨(some 123), (some (120, true)), .bin .eql (.t 121) (.t 122)⟩,
  ⟨(some 124), none, .pick (.t 120) (.t 123) (.c (.bool false))⟩,
  ⟨(some 125), none, .mv (.t 124)⟩,
  ⟨(some 126), (some (125, true)), .mv (.t 12)⟩,
  ⟨(some 127), (some (125, true)), .mv (.t 2)⟩,
  ⟨(some 128), (some (125, true)), .bin .eql (.t 126) (.t 127)⟩,
  ⟨(some 129), none, .pick (.t 125) (.t 128) (.c (.bool false))⟩]
abbrev x3r29 : List XOper := [
  ⟨(some 130), none, .mv (.t 8)⟩,
  ⟨(some 131), none, .bin .add (.t 130) (.c (.int .i64 1))⟩,
  ⟨(some 132), none, .bin .rem (.t 131) (.c (.int .i64 3))⟩,
  ⟨(some 8), none, .mv (.t 132)⟩]
abbrev x3r30 : List XOper := [
  ⟨(some 133), none, .mv (.t 7)⟩,
  ⟨(some 134), none, .mv (.t 1)⟩,
  ⟨(some 135), none, .mv (.t 2)⟩,
  ⟨(some 136), none, .call (.c (.fn (.func 9) [] [])) [(.t 133), (.t 134), (.t 135)]⟩,
  ⟨(some 137), none, .mv (.t 8)⟩,
  ⟨(some 138), none, .bin .neq (.t 136) (.t 137)⟩,
  ⟨(some 139), none, .mv (.t 138)⟩,
  ⟨(some 140), (some (139, false)), .mv (.t 7)⟩,
  ⟨(some 141), (some (139, false)), .call (.c (.fn (.func 10) [] [])) [(.t 140)]⟩,
  ⟨(some 142), (some (139, false)), .un .not (.t 141)⟩,
  ⟨(some 143), none, .pick (.t 139) (.c (.bool true)) (.t 142)⟩]
abbrev x3r31 : List XOper := [
  ⟨(some 6), none, .mv (.c (.bool false))⟩]
abbrev x3r32 : List XOper := [
  ⟨(some 144), none, .bin .add (.t 34) (.c (.int .i64 1))⟩,
  ⟨(some 34), none, .mv (.t 144)⟩]
abbrev x3l5 : XCode :=
  (.seq (.reg 5 x3r5 none)
  (.seq (.cond (.t 35)
    .skip
    (.exit 0))
  (.seq (.block 1
    (.seq (.reg 6 x3r6 none)
    (.seq (.reg 7 x3r7 (some ⟨[]⟩))
    (.seq (.reg 8 x3r8 none)
    (.seq (.reg 9 x3r9 none)
    (.seq (.reg 10 x3r10 (some ⟨[]⟩))
    (.seq (.seq (.reg 11 x3r11 none)
    (.block 2
      (.seq (.reg 13 x3r13 none)
      (.cond (.t 61)
        (.reg 14 x3r14 none)
        (.seq (.reg 15 x3r15 none)
        (.cond (.t 71)
          (.reg 16 x3r16 none)
          (.reg 12 x3r12 none)))))))
    (.seq (.reg 17 x3r17 none)
    (.seq (.reg 18 x3r18 none)
    (.seq (.reg 19 x3r19 none)
    (.seq (.seq (.reg 20 x3r20 none)
    (.cond (.t 92)
      (.seq (.reg 21 x3r21 none)
      (.seq (.reg 22 x3r22 none)
      (.cond (.t 94)
        (.reg 23 x3r23 none)
        .skip)))
      .skip))
    (.seq (.seq (.reg 24 x3r24 none)
    (.cond (.t 115)
      (.seq (.reg 25 x3r25 none)
      .ret)
      .skip))
    (.seq (.seq (.reg 26 x3r26 none)
    (.cond (.t 117)
      (.reg 27 x3r27 none)
      .skip))
    (.seq (.seq (.reg 28 x3r28 none)
    (.cond (.t 129)
      (.reg 29 x3r29 none)
      .skip))
    (.seq (.reg 30 x3r30 none)
    (.cond (.t 143)
      (.seq (.reg 31 x3r31 none)
      .ret)
      .skip))))))))))))))))
  (.reg 32 x3r32 none))))
abbrev x3r33 : List XOper := [
  ⟨(some 145), none, .call (.c (.fn (.func 11) [] [])) []⟩,
  ⟨(some 6), none, .mv (.t 145)⟩]
/-- datum/datumlaw21.AlarmRound -/
abbrev x3b : XCode :=
  (.seq (.reg 0 x3r0 none)
  (.seq (.reg 1 x3r1 none)
  (.seq (.reg 2 x3r2 none)
  (.seq (.reg 3 x3r3 none)
  (.seq (.seq (.reg 4 x3r4 none)
  (.block 0
    (.loop x3l5)))
  (.seq (.reg 33 x3r33 none)
  .ret))))))
def x3 : XFunc := ⟨146, 3, [.tmp 6], x3b⟩
theorem x3_ok : chkF Try.prog Try.f3 x3 = true := by kernel_rfl
theorem x3_eq : x3.body = x3b ∧ x3.res = [.tmp 6] ∧ x3.np = 3 := ⟨rfl, rfl, rfl⟩

abbrev x4r0 : List XOper := [
  ⟨(some 6), none, .mv (.c (.bool false))⟩]
abbrev x4r1 : List XOper := [
  ⟨(some 22), none, .mv (.t 0)⟩,
  ⟨(some 23), none, .call (.c (.fn (.func 12) [] [])) [(.t 22)]⟩,
  ⟨(some 0), none, .mv (.t 23)⟩]
abbrev x4r2 : List XOper := [
  ⟨(some 25), none, .mv (.t 0)⟩,
  ⟨(some 26), none, .mv (.t 1)⟩,
  ⟨(some 27), none, .mv (.t 2)⟩,
  ⟨(some 28), none, .call (.c (.fn (.func 6) [] [])) [(.t 25), (.t 26), (.t 27)]⟩,
  ⟨(some 24), none, .mv (.t 28)⟩,
  ⟨(some 29), none, .ext (.t 24) 0⟩,
  ⟨(some 30), none, .ext (.t 24) 1⟩,
  ⟨(some 31), none, .ext (.t 24) 2⟩,
  ⟨(some 7), none, .mv (.t 29)⟩,
  ⟨(some 8), none, .mv (.t 30)⟩,
  ⟨(some 9), none, .mv (.t 31)⟩]
abbrev x4r3 : List XOper := [
  ⟨(some 33), none, .mv (.t 0)⟩,
  ⟨(some 34), none, .mv (.t 1)⟩,
  ⟨(some 35), none, .mv (.t 2)⟩,
  ⟨(some 36), none, .call (.c (.fn (.func 7) [] [])) [(.t 33), (.t 34), (.t 35)]⟩,
  ⟨(some 32), none, .mv (.t 36)⟩,
  ⟨(some 37), none, .ext (.t 32) 0⟩,
  ⟨(some 38), none, .ext (.t 32) 1⟩,
  ⟨(some 10), none, .mv (.t 37)⟩,
  ⟨(some 11), none, .mv (.t 38)⟩]
abbrev x4r4 : List XOper := [
  ⟨(some 40), none, .mv (.t 0)⟩,
  ⟨(some 41), none, .mv (.t 1)⟩,
  ⟨(some 42), none, .mv (.t 2)⟩,
  ⟨(some 43), none, .call (.c (.fn (.func 8) [] [])) [(.t 40), (.t 41), (.t 42)]⟩,
  ⟨(some 39), none, .mv (.t 43)⟩,
  ⟨(some 44), none, .ext (.t 39) 0⟩,
  ⟨(some 45), none, .ext (.t 39) 1⟩,
  ⟨(some 12), none, .mv (.t 44)⟩,
  ⟨(some 13), none, .mv (.t 45)⟩]
abbrev x4r5 : List XOper := [
  ⟨(some 47), none, .mv (.t 0)⟩,
  ⟨(some 48), none, .mv (.t 1)⟩,
  ⟨(some 49), none, .call (.c (.fn (.func 13) [] [])) [(.t 47), (.t 48)]⟩,
  ⟨(some 46), none, .mv (.t 49)⟩,
  ⟨(some 50), none, .ext (.t 46) 0⟩,
  ⟨(some 51), none, .ext (.t 46) 1⟩,
  ⟨(some 14), none, .mv (.t 50)⟩,
  ⟨(some 15), none, .mv (.t 51)⟩]
abbrev x4r6 : List XOper := [
  ⟨(some 52), none, .mv (.t 0)⟩,
  ⟨(some 53), none, .call (.c (.fn (.func 10) [] [])) [(.t 52)]⟩,
  ⟨(some 54), none, .mv (.t 0)⟩,
  ⟨(some 55), none, .call (.c (.fn (.func 14) [] [])) [(.t 54)]⟩,
  ⟨(some 56), none, .eqB true (.t 53) (.t 55)⟩,
  ⟨(some 57), none, .mv (.t 56)⟩,
  ⟨(some 58), (some (57, false)), .call (.c (.fn (.func 11) [] [])) []⟩,
  ⟨(some 59), (some (57, false)), .un .not (.t 58)⟩,
  ⟨(some 60), none, .pick (.t 57) (.c (.bool true)) (.t 59)⟩]
abbrev x4r7 : List XOper := [
  ⟨(some 6), none, .mv (.c (.bool false))⟩]
abbrev x4r8 : List XOper := [
  ⟨(some 61), none, .mv (.t 0)⟩,
  ⟨(some 62), none, .call (.c (.fn (.func 14) [] [])) [(.t 61)]⟩,
  ⟨(some 63), none, .un .not (.t 62)⟩,
  ⟨(some 64), none, .mv (.t 63)⟩,
  ⟨(some 65), (some (64, false)), .mv (.t 1)⟩,
  ⟨(some 66), (some (64, false)), .bin .lss (.t 65) (.c (.int .i64 0))⟩,
  ⟨(some 67), none, .pick (.t 64) (.c (.bool true)) (.t 66)⟩,
  ⟨(some 68), none, .mv (.t 67)⟩,
  ⟨(some 69), (some (68, false)), .mv (.t 1)⟩,
  ⟨(some 70), (some (68, false)), .bin .gtr (.t 69) (.c (.int .i64 3))⟩,
  ⟨(some 71), none, .pick (.t 68) (.c (.bool true)) (.t 70)⟩]
abbrev x4r9 : List XOper := [
  ⟨(some 72), none, .mv (.t 15)⟩,
  ⟨(some 73), none, .bin .neq (.t 72) (.c (.int .i64 1))⟩,
  ⟨(some 74), none, .mv (.t 73)⟩,
  ⟨(some 75), (some (74, false)), .mv (.t 14)⟩,
  ⟨(some 76), (some (74, false)), .lenV (.t 75)⟩,
  ⟨(some 77), (some (74, false)), .bin .neq (.t 76) (.c (.int .i64 0))⟩,
  ⟨(some 78), none, .pick (.t 74) (.c (.bool true)) (.t 77)⟩]
abbrev x4r10 : List XOper := [
  ⟨(some 6), none, .mv (.c (.bool false))⟩]
abbrev x4r11 : List XOper := [
  ⟨(some 79), none, .mv (.t 15)⟩,
  ⟨(some 80), none, .bin .neq (.t 79) (.c (.int .i64 0))⟩,
  ⟨(some 81), none, .mv (.t 80)⟩,
  ⟨(some 82), (some (81, false)), .mv (.t 14)⟩,
  ⟨(some 83), (some (81, false)), .mv (.t 0)⟩,
  ⟨(some 84), (some (81, false)), .mv (.t 1)⟩,
  ⟨(some 85), (some (81, false)), .call (.c (.fn (.func 16) [] [])) [(.t 83), (.t 84)]⟩,
  ⟨(some 86), (some (81, false)), .call (.c (.fn (.func 15) [] [])) [(.t 82), (.t 85)]⟩,
  ⟨(some 87), (some (81, false)), .un .not (.t 86)⟩,
  ⟨(some 88), none, .pick (.t 81) (.c (.bool true)) (.t 87)⟩]
abbrev x4r12 : List XOper := [
  ⟨(some 6), none, .mv (.c (.bool false))⟩]
abbrev x4r13 : List XOper := [
  ⟨(some 89), none, .mv (.t 0)⟩,
  ⟨(some 90), none, .call (.c (.fn (.func 14) [] [])) [(.t 89)]⟩,
  ⟨(some 91), none, .un .not (.t 90)⟩,
  ⟨(some 92), none, .mv (.t 91)⟩,
  ⟨(some 93), (some (92, false)), .mv (.t 1)⟩,
  ⟨(some 94), (some (92, false)), .mv (.t 2)⟩,
  ⟨(some 95), (some (92, false)), .call (.c (.fn (.func 17) [] [])) [(.t 93), (.t 94)]⟩,
  ⟨(some 96), (some (92, false)), .un .not (.t 95)⟩,
  ⟨(some 97), none, .pick (.t 92) (.c (.bool true)) (.t 96)⟩]
abbrev x4r14 : List XOper := [
  ⟨(some 98), none, .mv (.t 9)⟩,
  ⟨(some 99), none, .bin .eql (.t 98) (.c (.int .i64 1))⟩,
  ⟨(some 100), none, .mv (.t 99)⟩,
  ⟨(some 101), (some (100, true)), .mv (.t 11)⟩,
  ⟨(some 102), (some (100, true)), .bin .eql (.t 101) (.c (.int .i64 1))⟩,
  ⟨(some 103), none, .pick (.t 100) (.t 102) (.c (.bool false))⟩,
  ⟨(some 104), none, .mv (.t 103)⟩,
  ⟨(some 105), (some (104, true)), .mv (.t 13)⟩,
  ⟨(some 106), (some (104, true)), .bin .eql (.t 105) (.c (.int .i64 1))⟩,
  ⟨(some 107), none, .pick (.t 104) (.t 106) (.c (.bool false))⟩,
  ⟨(some 108), none, .mv (.t 107)⟩,
  ⟨(some 109), (some (108, true)), .mv (.t 8)⟩,
  ⟨(some 110), (some (108, true)), .un .not (.t 109)⟩,
  ⟨(some 111), none, .pick (.t 108) (.t 110) (.c (.bool false))⟩,
  ⟨(some 112), none, .mv (.t 111)⟩,
  ⟨(some 113), (some (112, true)), .mv (.t 7)⟩,
  ⟨(some 114), (some (112, true)), .lenV (.t 113)⟩,
  ⟨(some 115), (some (112, true)), .bin .eql (.t 114) (.c (.int .i64 0))⟩,
  ⟨(some 116), none, .pick (.t 112) (.t 115) (.c (.bool false))⟩,
  ⟨(some 117), none, .mv (.t 116)⟩,
  ⟨(some 118), (some (117, true)), .mv (.t 10)⟩,
  ⟨(some 119), (some (117, true)), .lenV (.t 118)⟩,
  ⟨(some 120), (some (117, true)), .bin .eql (.t 119) (.c (.int .i64 0))⟩,
  ⟨(some 121), none, .pick (.t 117) (.t 120) (.c (.bool false))⟩,
  ⟨(some 122), none, .mv (.t 121)⟩,
  ⟨(some 123), (some (122, true)), .mv (.t 12)⟩,
  ⟨(some 124), (some (122, true)), .lenV (.t 123)⟩,
  ⟨(some 125), (some (122, true)), .bin .eql (.t 124) (.c (.int .i64 0))⟩,
  ⟨(some 126), none, .pick (.t 122) (.t 125) (.c (.bool false))⟩,
  ⟨(some 6), none, .mv (.t 126)⟩]
abbrev x4r15 : List XOper := [
  ⟨(some 128), none, .mv (.t 0)⟩,
  ⟨(some 129), none, .mv (.t 1)⟩,
  ⟨(some 130), none, .mv (.t 2)⟩,
  ⟨(some 131), none, .call (.c (.fn (.func 18) [] [])) [(.t 128), (.t 129), (.t 130)]⟩,
  ⟨(some 127), none, .mv (.t 131)⟩,
  ⟨(some 132), none, .ext (.t 127) 0⟩,
  ⟨(some 133), none, .ext (.t 127) 1⟩,
  ⟨(some 16), none, .mv (.t 132)⟩,
  ⟨(some 17), none, .mv (.t 133)⟩]
abbrev x4r16 : List XOper := [
  ⟨(some 135), none, .mv (.t 0)⟩,
  ⟨(some 136), none, .mv (.t 1)⟩,
  ⟨(some 137), none, .mv (.t 2)⟩,
  ⟨(some 138), none, .call (.c (.fn (.func 19) [] [])) [(.t 135), (.t 136), (.t 137)]⟩,
  ⟨(some 134), none, .mv (.t 138)⟩,
  ⟨(some 139), none, .ext (.t 134) 0⟩,
  ⟨(some 140), none, .ext (.t 134) 1⟩,
  ⟨(some 18), none, .mv (.t 139)⟩,
  ⟨(some 19), none, .mv (.t 140)⟩]
abbrev x4r17 : List XOper := [
  ⟨(some 142), none, .mv (.t 0)⟩,
  ⟨(some 143), none, .mv (.t 1)⟩,
  ⟨(some 144), none, .mv (.t 2)⟩,
  ⟨(some 145), none, .call (.c (.fn (.func 20) [] [])) [(.t 142), (.t 143), (.t 144)]⟩,
  ⟨(some 141), none, .mv (.t 145)⟩,
  ⟨(some 146), none, .ext (.t 141) 0⟩,
  ⟨(some 147), none, .ext (.t 141) 1⟩,
  ⟨(some 20), none, .mv (.t 146)⟩,
  ⟨(some 21), none, .mv (.t 147)⟩]
abbrev x4r18 : List XOper := [
  ⟨(some 148), none, .mv (.t 9)⟩,
  ⟨(some 149), none, .bin .eql (.t 148) (.c (.int .i64 0))⟩,
  ⟨(some 150), none, .mv (.t 149)⟩,
  ⟨(some 151), (some (150, true)), .mv (.t 8)⟩,
  ⟨(some 152), (some (150, true)), .mv (.t 17)⟩,
  ⟨(some 153), (some (150, true)), .eqB false (.t 151) (.t 152)⟩,
  ⟨(some 154), none, .pick (.t 150) (.t 153) (.c (.bool false))⟩,
  ⟨(some 155), none, .mv (.t 154)⟩,
  ⟨(some 156), (some (155, true)), .mv (.t 7)⟩,
  ⟨(some 157), (some (155, true)), .mv (.t 16)⟩,
  ⟨(some 158), (some (155, true)), .call (.c (.fn (.func 15) [] [])) [(.t 156), (.t 157)]⟩,
  ⟨(some 159), none, .pick (.t 155) (.t 158) (.c (.bool false))⟩,
  ⟨(some 160), none, .mv (.t 159)⟩,
  ⟨(some 161), (some (160, true)), .mv (.t 11)⟩,
  ⟨(some 162), (some (160, true)), .mv (.t 19)⟩,
  ⟨(some 163), (some (160, true)), .bin .eql (.t 161) (.t 162)⟩,
  ⟨(some 164), none, .pick (.t 160) (.t 163) (.c (.bool false))⟩,
  ⟨(some 165), none, .mv (.t 164)⟩,
  ⟨(some 166), (some (165, true)), .mv (.t 10)⟩,
  ⟨(some 167), (some (165, true)), .mv (.t 18)⟩,
  ⟨(some 168), (some (165, true)), .call (.c (.fn (.func 15) [] [])) [(.t 166), (.t 167)]⟩,
  ⟨(some 169), none, .pick (.t 165) (.t 168) (.c (.bool false))⟩,
  ⟨(some 170), none, .mv (.t 169)⟩,
  ⟨(some 171), (some (170, true)), .mv (.t 13)⟩,
  ⟨(some 172), (some (170, true)), .mv (.t 21)⟩,
  ⟨(some 173), (some (170, true)), .bin .eql (.t 171) (.t 172)⟩,
  ⟨(some 174), none, .pick (.t 170) (.t 173) (.c (.bool false))⟩,
  ⟨(some 175), none, .mv (.t 174)⟩,
  ⟨(some 176), (some (175, true)), .mv (.t 12)⟩,
  ⟨(some 177), (some (175, true)), .mv (.t 20)⟩,
  ⟨(some 178), (some (175, true)), .call (.c (.fn (.func 15) [] [])) [(.t 176), (.t 177)]⟩,
  ⟨(some 179), none, .pick (.t 175) (.t 178) (.c (.bool false))⟩,
  ⟨(some 6), none, .mv (.t 179)⟩]
/-- datum/datumlaw21.AlarmTells -/
abbrev x4b : XCode :=
  (.seq (.reg 0 x4r0 none)
  (.seq (.reg 1 x4r1 none)
  (.seq (.reg 2 x4r2 none)
  (.seq (.reg 3 x4r3 none)
  (.seq (.reg 4 x4r4 none)
  (.seq (.reg 5 x4r5 none)
  (.seq (.seq (.reg 6 x4r6 none)
  (.cond (.t 60)
    (.seq (.reg 7 x4r7 none)
    .ret)
    .skip))
  (.seq (.seq (.reg 8 x4r8 none)
  (.cond (.t 71)
    (.seq (.reg 9 x4r9 none)
    (.cond (.t 78)
      (.seq (.reg 10 x4r10 none)
      .ret)
      .skip))
    (.seq (.reg 11 x4r11 none)
    (.cond (.t 88)
      (.seq (.reg 12 x4r12 none)
      .ret)
      .skip))))
  (.seq (.seq (.reg 13 x4r13 none)
  (.cond (.t 97)
    (.seq (.reg 14 x4r14 none)
    .ret)
    .skip))
  (.seq (.reg 15 x4r15 none)
  (.seq (.reg 16 x4r16 none)
  (.seq (.reg 17 x4r17 none)
  (.seq (.reg 18 x4r18 none)
  .ret)))))))))))))
def x4 : XFunc := ⟨180, 3, [.tmp 6], x4b⟩
theorem x4_ok : chkF Try.prog Try.f4 x4 = true := by kernel_rfl
theorem x4_eq : x4.body = x4b ∧ x4.res = [.tmp 6] ∧ x4.np = 3 := ⟨rfl, rfl, rfl⟩

abbrev x5r0 : List XOper := [
  ⟨(some 10), none, .mv (.c (.bool false))⟩]
abbrev x5r1 : List XOper := [
  ⟨(some 22), none, .mv (.t 0)⟩,
  ⟨(some 23), none, .call (.c (.fn (.func 12) [] [])) [(.t 22)]⟩,
  ⟨(some 0), none, .mv (.t 23)⟩]
abbrev x5r2 : List XOper := [
  ⟨(some 24), none, .mv (.t 3)⟩,
  ⟨(some 25), none, .bin .rem (.t 24) (.c (.int .i64 4))⟩,
  ⟨(some 26), none, .bin .add (.t 25) (.c (.int .i64 4))⟩,
  ⟨(some 27), none, .bin .rem (.t 26) (.c (.int .i64 4))⟩,
  ⟨(some 28), none, .mv (.t 4)⟩,
  ⟨(some 29), none, .bin .rem (.t 28) (.c (.int .i64 16))⟩,
  ⟨(some 30), none, .bin .add (.t 29) (.c (.int .i64 16))⟩,
  ⟨(some 31), none, .bin .rem (.t 30) (.c (.int .i64 16))⟩,
  ⟨(some 3), none, .mv (.t 27)⟩,
  ⟨(some 4), none, .mv (.t 31)⟩]
abbrev x5r3 : List XOper := [
  ⟨(some 33), none, .mv (.t 0)⟩,
  ⟨(some 34), none, .mv (.t 1)⟩,
  ⟨(some 35), none, .mv (.t 2)⟩,
  ⟨(some 36), none, .call (.c (.fn (.func 6) [] [])) [(.t 33), (.t 34), (.t 35)]⟩,
  ⟨(some 32), none, .mv (.t 36)⟩,
  ⟨(some 37), none, .ext (.t 32) 0⟩,
  ⟨(some 38), none, .ext (.t 32) 1⟩,
  ⟨(some 39), none, .ext (.t 32) 2⟩,
  ⟨(some 11), none, .mv (.t 37)⟩,
  ⟨(some 12), none, .mv (.t 38)⟩,
  ⟨(some 13), none, .mv (.t 39)⟩]
abbrev x5r4 : List XOper := [
  ⟨(some 41), none, .mv (.t 0)⟩,
  ⟨(some 42), none, .mv (.t 1)⟩,
  ⟨(some 43), none, .mv (.t 2)⟩,
  ⟨(some 44), none, .call (.c (.fn (.func 7) [] [])) [(.t 41), (.t 42), (.t 43)]⟩,
  ⟨(some 40), none, .mv (.t 44)⟩,
  ⟨(some 45), none, .ext (.t 40) 0⟩,
  ⟨(some 46), none, .ext (.t 40) 1⟩,
  ⟨(some 14), none, .mv (.t 45)⟩,
  ⟨(some 15), none, .mv (.t 46)⟩]
abbrev x5r5 : List XOper := [
  ⟨(some 48), none, .mv (.t 0)⟩,
  ⟨(some 49), none, .mv (.t 1)⟩,
  ⟨(some 50), none, .mv (.t 2)⟩,
  ⟨(some 51), none, .call (.c (.fn (.func 8) [] [])) [(.t 48), (.t 49), (.t 50)]⟩,
  ⟨(some 47), none, .mv (.t 51)⟩,
  ⟨(some 52), none, .ext (.t 47) 0⟩,
  ⟨(some 53), none, .ext (.t 47) 1⟩,
  ⟨(some 16), none, .mv (.t 52)⟩,
  ⟨(some 17), none, .mv (.t 53)⟩]
abbrev x5r6 : List XOper := [
  ⟨(some 55), none, .mv (.t 0)⟩,
  ⟨(some 56), none, .mv (.t 1)⟩,
  ⟨(some 57), none, .call (.c (.fn (.func 13) [] [])) [(.t 55), (.t 56)]⟩,
  ⟨(some 54), none, .mv (.t 57)⟩,
  ⟨(some 58), none, .ext (.t 54) 0⟩,
  ⟨(some 59), none, .ext (.t 54) 1⟩,
  ⟨(some 18), none, .mv (.t 58)⟩,
  ⟨(some 19), none, .mv (.t 59)⟩]
abbrev x5r7 : List XOper := [
  ⟨(some 60), none, .mv (.t 0)⟩,
  ⟨(some 61), none, .mv (.t 3)⟩,
  ⟨(some 62), none, .mv (.t 4)⟩,
  ⟨(some 63), none, .call (.c (.fn (.func 9) [] [])) [(.t 60), (.t 61), (.t 62)]⟩,
  ⟨(some 20), none, .mv (.t 63)⟩]
abbrev x5r8 : List XOper := [
  ⟨(some 64), none, .call (.c (.fn (.func 11) [] [])) []⟩,
  ⟨(some 65), none, .un .not (.t 64)⟩]
abbrev x5r9 : List XOper := [
  ⟨(some 10), none, .mv (.c (.bool false))⟩]
abbrev x5r10 : List XOper := [
  ⟨(some 66), none, .mv (.t 3)⟩,
  ⟨(some 67), none, .mv (.t 1)⟩,
  ⟨(some 68), none, .bin .eql (.t 66) (.t 67)⟩,
  ⟨(some 69), none, .mv (.t 68)⟩,
  ⟨(some 70), (some (69, true)), .mv (.t 4)⟩,
  ⟨(some 71), (some (69, true)), .mv (.t 2)⟩,
  ⟨(some 72), (some (69, true)), .bin .eql (.t 70) (.t 71)⟩,
  ⟨(some 73), none, .pick (.t 69) (.t 72) (.c (.bool false))⟩,
  ⟨(some 21), none, .mv (.t 73)⟩]
abbrev x5r11 : List XOper := [
  ⟨(some 74), none, .mv (.t 13)⟩,
  ⟨(some 75), none, .bin .eql (.t 74) (.c (.int .i64 0))⟩,
  ⟨(some 76), none, .mv (.t 75)⟩,
  ⟨(some 77), (some (76, true)), .mv (.t 21)⟩,
  ⟨(some 78), (some (76, true)), .un .not (.t 77)⟩,
  ⟨(some 79), none, .pick (.t 76) (.t 78) (.c (.bool false))⟩,
  ⟨(some 80), none, .mv (.t 79)⟩,
  ⟨(some 81), (some (80, true)), .mv (.t 11)⟩,
  ⟨(some 82), (some (80, true)), .mv (.t 3)⟩,
  ⟨(some 83), (some (80, true)), .mv (.t 4)⟩,
  ⟨(some 84), (some (80, true)), .call (.c (.fn (.func 9) [] [])) [(.t 81), (.t 82), (.t 83)]⟩,
  ⟨(some 85), (some (80, true)), .mv (.t 20)⟩,
  ⟨(some 86), (some (80, true)), .bin .neq (.t 84) (.t 85)⟩,
  ⟨(some 87), none, .pick (.t 80) (.t 86) (.c (.bool false))⟩,
  ⟨(some 88), none, .mv (.t 87)⟩,
  ⟨(some 89), (some (88, false)), .mv (.t 15)⟩,
  ⟨(some 90), (some (88, false)), .bin .eql (.t 89) (.c (.int .i64 0))⟩,
  ⟨(some 91), (some (88, false)), .mv (.t 90)⟩,
  ⟨(some 92), (some (91, true)), .mv (.t 21)⟩,
  ⟨(some 93), (some (91, true)), .un .not (.t 92)⟩,
  ⟨(some 94), (some (88, false)), .pick (.t 91) (.t 93) (.c (.bool false))⟩,
  ⟨(some 95), (some (88, false)), .mv (.t 94)⟩,
  ⟨(some 96), (some (95, true)), .mv (.t 14)⟩,
  ⟨(some 97), (some (95, true)), .mv (.t 3)⟩,
  ⟨(some 98), (some (95, true)), .mv (.t 4)⟩,
  ⟨(some 99), (some (95, true)), .call (.c (.fn (.func 9) [] [])) [(.t 96), (.t 97), (.t 98)]⟩,
  ⟨(some 100), (some (95, true)), .mv (.t 20)⟩,
  ⟨(some 101), (some (95, true)), .bin .neq (.t 99) (.t 100)⟩,
  ⟨(some 102), (some (88, false)), .pick (.t 95) (.t 101) (.c (.bool false))⟩,
  ⟨(some 103), none, .pick (.t 88) (.c (.bool true)) (.t 102)⟩,
  ⟨(some 104), none, .mv (.t 103)⟩,
  ⟨(some 105), (some (104, false)), .mv (.t 17)⟩,
  ⟨(some 106), (some (104, false)), .bin .eql (.t 105) (.c (.int .i64 0))⟩,
  ⟨(some 107), (some (104, false)), .mv (.t 106)⟩,
  ⟨(some 108), (some (107, true)), .mv (.t 21)⟩,
  ⟨(some 109), (some (107, true)), .un .not (.t 108)⟩,
  ⟨(some 110), (some (104, false)), .pick (.t 107) (.t 109) (.c (.bool false))⟩,
  ⟨(some 111), (some (104, false)), .mv (.t 110)⟩,
  ⟨(some 112), (some (111, true)), .mv (.t 16)⟩,
  ⟨(some 113), (some (111, true)), .mv (.t 3)⟩,
  ⟨(some 114), (some (111, true)), .mv (.t 4)⟩,
  ⟨(some 115), (some (111, true)), .call (.c (.fn (.func 9) [] [])) [(.t 112), (.t 113), (.t 114)]⟩,
  ⟨(some 116), (some (111, true)), .mv (.t 20)⟩,
  ⟨(some 117), (some (111, true)), .bin .neq (.t 115) (.t 116)⟩,
  ⟨(some 118), (some (104, false)), .pick (.t 111) (.t 117) (.c (.bool false))⟩,
  ⟨(some 119), none, .pick (.t 104) (.c (.bool true)) (.t 118)⟩]
abbrev x5r12 : List XOper := [
  ⟨(some 10), none, .mv (.c (.bool false))⟩]
abbrev x5r13 : List XOper := [
  ⟨(some 120), none, .mv (.t 19)⟩,
  ⟨(some 121), none, .bin .neq (.t 120) (.c (.int .i64 0))⟩]
abbrev x5r14 : List XOper := [
  ⟨(some 122), none, .mv (.t 18)⟩,
  ⟨(some 123), none, .lenV (.t 122)⟩,
  ⟨(some 124), none, .bin .eql (.t 123) (.c (.int .i64 0))⟩,
  ⟨(some 10), none, .mv (.t 124)⟩]
abbrev x5r15 : List XOper := [
  ⟨(some 125), none, .mv (.t 3)⟩,
  ⟨(some 126), none, .mv (.t 1)⟩,
  ⟨(some 127), none, .bin .eql (.t 125) (.t 126)⟩]
abbrev x5r16 : List XOper := [
  ⟨(some 20), none, .mv (.c (.int .i64 0))⟩]
abbrev x5r17 : List XOper := [
  ⟨(some 128), none, .mv (.t 18)⟩,
  ⟨(some 129), none, .mv (.t 3)⟩,
  ⟨(some 130), none, .mv (.t 4)⟩,
  ⟨(some 131), none, .call (.c (.fn (.func 9) [] [])) [(.t 128), (.t 129), (.t 130)]⟩,
  ⟨(some 132), none, .mv (.t 20)⟩,
  ⟨(some 133), none, .bin .eql (.t 131) (.t 132)⟩,
  ⟨(some 134), none, .mv (.t 133)⟩,
  ⟨(some 135), (some (134, true)), .mv (.t 18)⟩,
  ⟨(some 136), (some (134, true)), .call (.c (.fn (.func 10) [] [])) [(.t 135)]⟩,
  ⟨(some 137), none, .pick (.t 134) (.t 136) (.c (.bool false))⟩,
  ⟨(some 10), none, .mv (.t 137)⟩]
/-- datum/datumlaw21.AlarmApart -/
abbrev x5b : XCode :=
  (.seq (.reg 0 x5r0 none)
  (.seq (.reg 1 x5r1 none)
  (.seq (.reg 2 x5r2 none)
  (.seq (.reg 3 x5r3 none)
  (.seq (.reg 4 x5r4 none)
  (.seq (.reg 5 x5r5 none)
  (.seq (.reg 6 x5r6 none)
  (.seq (.reg 7 x5r7 none)
  (.seq (.seq (.reg 8 x5r8 none)
  (.cond (.t 65)
    (.seq (.reg 9 x5r9 none)
    .ret)
    .skip))
  (.seq (.reg 10 x5r10 none)
  (.seq (.seq (.reg 11 x5r11 none)
  (.cond (.t 119)
    (.seq (.reg 12 x5r12 none)
    .ret)
    .skip))
  (.seq (.seq (.reg 13 x5r13 none)
  (.cond (.t 121)
    (.seq (.reg 14 x5r14 none)
    .ret)
    .skip))
  (.seq (.seq (.reg 15 x5r15 none)
  (.cond (.t 127)
    (.reg 16 x5r16 none)
    .skip))
  (.seq (.reg 17 x5r17 none)
  .ret))))))))))))))
def x5 : XFunc := ⟨138, 5, [.tmp 10], x5b⟩
theorem x5_ok : chkF Try.prog Try.f5 x5 = true := by kernel_rfl
theorem x5_eq : x5.body = x5b ∧ x5.res = [.tmp 10] ∧ x5.np = 5 := ⟨rfl, rfl, rfl⟩

abbrev x6r0 : List XOper := [
  ⟨(some 6), none, .mv (.c .nils)⟩,
  ⟨(some 7), none, .mv (.c (.bool false))⟩,
  ⟨(some 8), none, .mv (.c (.int .i64 0))⟩]
abbrev x6r1 : List XOper := [
  ⟨(some 13), none, .mv (.t 0)⟩,
  ⟨(some 14), none, .call (.c (.fn (.func 21) [] [])) [(.t 13)]⟩,
  ⟨(some 12), none, .mv (.t 14)⟩,
  ⟨(some 15), none, .ext (.t 12) 0⟩,
  ⟨(some 16), none, .ext (.t 12) 1⟩,
  ⟨(some 9), none, .mv (.t 15)⟩,
  ⟨(some 10), none, .mv (.t 16)⟩]
abbrev x6r2 : List XOper := [
  ⟨(some 17), none, .mv (.t 1)⟩,
  ⟨(some 18), none, .mv (.t 2)⟩,
  ⟨(some 19), none, .build [(.int .i64 0), (.int .i64 0)] [(0, 1, (.t 17)), (1, 1, (.t 18))]⟩,
  ⟨(some 11), none, .alloc [(.int .i64 0), (.int .i64 0)]⟩,
  ⟨none, none, .store 2 (.t 11) (.t 19)⟩]
abbrev x6r3 : List XOper := [
  ⟨(some 21), none, .mv (.t 10)⟩,
  ⟨(some 22), none, .un .not (.t 21)⟩,
  ⟨(some 23), none, .mv (.t 22)⟩,
  ⟨(some 24), (some (23, false)), .load true 2 (.t 11)⟩,
  ⟨(some 25), (some (23, false)), .call (.c (.fn (.func 22) [] [])) [(.t 24)]⟩,
  ⟨(some 26), (some (23, false)), .un .not (.t 25)⟩,
  ⟨(some 27), none, .pick (.t 23) (.c (.bool true)) (.t 26)⟩,
  ⟨(some 20), none, .mv (.t 27)⟩]
abbrev x6r4 : List XOper := [
  ⟨(some 6), none, .mv (.c .nils)⟩,
  ⟨(some 7), none, .mv (.c (.bool false))⟩,
  ⟨(some 8), none, .mv (.c (.int .i64 1))⟩]
abbrev x6r5 : List XOper := [
  ⟨(some 29), none, .mv (.t 9)⟩,
  ⟨(some 30), none, .load true 2 (.t 11)⟩,
  ⟨(some 31), none, .lkp 5 false (.int .i64 0) (.t 29) (.t 30)⟩,
  ⟨(some 32), none, .bin .neq (.t 31) (.c (.int .i64 0))⟩,
  ⟨(some 28), none, .mv (.t 32)⟩]
abbrev x6r6 : List XOper := [
  ⟨(some 33), none, .mv (.t 0)⟩,
  ⟨(some 6), none, .mv (.t 33)⟩,
  ⟨(some 7), none, .mv (.c (.bool false))⟩,
  ⟨(some 8), none, .mv (.c (.int .i64 0))⟩]
abbrev x6r7 : List XOper := [
  ⟨(some 34), none, .mv (.t 9)⟩,
  ⟨(some 35), none, .load true 2 (.t 11)⟩,
  ⟨none, none, .mset 5 (.t 34) (.t 35) (.c (.int .i64 1))⟩]
abbrev x6r8 : List XOper := [
  ⟨(some 36), none, .mv (.t 9)⟩,
  ⟨(some 37), none, .callM (.c (.fn (.func 23) [] [])) [(.t 36)]⟩,
  ⟨(some 6), none, .mv (.t 37)⟩,
  ⟨(some 7), none, .mv (.c (.bool true))⟩,
  ⟨(some 8), none, .mv (.c (.int .i64 0))⟩]
/-- datum/alarm.Raise -/
abbrev x6b : XCode :=
  (.seq (.reg 0 x6r0 none)
  (.seq (.reg 1 x6r1 none)
  (.seq (.reg 2 x6r2 none)
  (.seq (.block 0
    (.seq (.reg 3 x6r3 none)
    (.cond (.t 20)
      (.seq (.reg 4 x6r4 none)
      .ret)
      (.seq (.reg 5 x6r5 none)
      (.cond (.t 28)
        (.seq (.reg 6 x6r6 none)
        .ret)
        .skip)))))
  (.seq (.reg 7 x6r7 none)
  (.seq (.reg 8 x6r8 none)
  .ret))))))
def x6 : XFunc := ⟨38, 3, [.tmp 6, .tmp 7, .tmp 8], x6b⟩
theorem x6_ok : chkF Try.prog Try.f6 x6 = true := by kernel_rfl
theorem x6_eq : x6.body = x6b ∧ x6.res = [.tmp 6, .tmp 7, .tmp 8] ∧ x6.np = 3 := ⟨rfl, rfl, rfl⟩

abbrev x7r0 : List XOper := [
  ⟨(some 6), none, .mv (.c .nils)⟩,
  ⟨(some 7), none, .mv (.c (.int .i64 0))⟩]
abbrev x7r1 : List XOper := [
  ⟨(some 8), none, .mv (.t 0)⟩,
  ⟨(some 9), none, .mv (.t 1)⟩,
  ⟨(some 10), none, .mv (.t 2)⟩,
  ⟨(some 11), none, .build [(.int .i64 0), (.int .i64 0)] [(0, 1, (.t 9)), (1, 1, (.t 10))]⟩,
  ⟨(some 12), none, .call (.c (.fn (.func 24) [] [])) [(.t 8), (.t 11), (.c (.int .i64 1)), (.c (.int .i64 2))]⟩,
  ⟨(some 13), none, .ext (.t 12) 0⟩,
  ⟨(some 14), none, .ext (.t 12) 1⟩,
  ⟨(some 6), none, .mv (.t 13)⟩,
  ⟨(some 7), none, .mv (.t 14)⟩]
/-- datum/alarm.Ack -/
abbrev x7b : XCode :=
  (.seq (.reg 0 x7r0 none)
  (.seq (.reg 1 x7r1 none)
  .ret))
def x7 : XFunc := ⟨15, 3, [.tmp 6, .tmp 7], x7b⟩
theorem x7_ok : chkF Try.prog Try.f7 x7 = true := by kernel_rfl
theorem x7_eq : x7.body = x7b ∧ x7.res = [.tmp 6, .tmp 7] ∧ x7.np = 3 := ⟨rfl, rfl, rfl⟩

abbrev x8r0 : List XOper := [
  ⟨(some 6), none, .mv (.c .nils)⟩,
  ⟨(some 7), none, .mv (.c (.int .i64 0))⟩]
abbrev x8r1 : List XOper := [
  ⟨(some 8), none, .mv (.t 0)⟩,
  ⟨(some 9), none, .mv (.t 1)⟩,
  ⟨(some 10), none, .mv (.t 2)⟩,
  ⟨(some 11), none, .build [(.int .i64 0), (.int .i64 0)] [(0, 1, (.t 9)), (1, 1, (.t 10))]⟩,
  ⟨(some 12), none, .call (.c (.fn (.func 24) [] [])) [(.t 8), (.t 11), (.c (.int .i64 2)), (.c (.int .i64 0))]⟩,
  ⟨(some 13), none, .ext (.t 12) 0⟩,
  ⟨(some 14), none, .ext (.t 12) 1⟩,
  ⟨(some 6), none, .mv (.t 13)⟩,
  ⟨(some 7), none, .mv (.t 14)⟩]
/-- datum/alarm.Clear -/
abbrev x8b : XCode :=
  (.seq (.reg 0 x8r0 none)
  (.seq (.reg 1 x8r1 none)
  .ret))
def x8 : XFunc := ⟨15, 3, [.tmp 6, .tmp 7], x8b⟩
theorem x8_ok : chkF Try.prog Try.f8 x8 = true := by kernel_rfl
theorem x8_eq : x8.body = x8b ∧ x8.res = [.tmp 6, .tmp 7] ∧ x8.np = 3 := ⟨rfl, rfl, rfl⟩

abbrev x9r0 : List XOper := [
  ⟨(some 6), none, .mv (.c (.int .i64 0))⟩]
abbrev x9r1 : List XOper := [
  ⟨(some 9), none, .mv (.t 0)⟩,
  ⟨(some 10), none, .lenV (.t 9)⟩,
  ⟨(some 11), none, .mv (.c (.int .i64 0))⟩]
abbrev x9r2 : List XOper := [
  ⟨(some 12), none, .bin .lss (.t 11) (.t 10)⟩]
abbrev x9r3 : List XOper := [
  ⟨(some 13), none, .iaS 3 (.t 9) (.t 11)⟩,
  ⟨(some 14), none, .load true 3 (.t 13)⟩,
  ⟨(some 8), none, .alloc [(.int .i64 0), (.int .i64 0), (.int .i64 0)]⟩,
  ⟨none, none, .store 3 (.t 8) (.t 14)⟩]
abbrev x9r4 : List XOper := [
  ⟨(some 15), none, .fa 0 (.t 8)⟩,
  ⟨(some 16), none, .load false 1 (.t 15)⟩,
  ⟨(some 17), none, .mv (.t 1)⟩,
  ⟨(some 18), none, .bin .eql (.t 16) (.t 17)⟩,
  ⟨(some 19), none, .mv (.t 18)⟩,
  ⟨(some 20), (some (19, true)), .fa 1 (.t 8)⟩,
  ⟨(some 21), (some (19, true)), .load false 1 (.t 20)⟩,
  ⟨(some 22), (some (19, true)), .mv (.t 2)⟩,
  ⟨(some 23), (some (19, true)), .bin .eql (.t 21) (.t 22)⟩,
  ⟨(some 24), none, .pick (.t 19) (.t 23) (.c (.bool false))⟩]
abbrev x9r5 : List XOper := [
  ⟨(some 25), none, .fa 2 (.t 8)⟩,
  ⟨(some 26), none, .load false 1 (.t 25)⟩,
  ⟨(some 6), none, .mv (.t 26)⟩]
abbrev x9r6 : List XOper := [
  ⟨(some 27), none, .bin .add (.t 11) (.c (.int .i64 1))⟩,
  ⟨(some 11), none, .mv (.t 27)⟩]
abbrev x9l2 : XCode :=
  (.seq (.reg 2 x9r2 none)
  (.seq (.cond (.t 12)
    .skip
    (.exit 0))
  (.seq (.block 1
    (.seq (.reg 3 x9r3 none)
    (.seq (.reg 4 x9r4 none)
    (.cond (.t 24)
      (.seq (.reg 5 x9r5 none)
      .ret)
      .skip))))
  (.reg 6 x9r6 none))))
abbrev x9r7 : List XOper := [
  ⟨(some 6), none, .mv (.c (.int .i64 0))⟩]
/-- datum/datumlaw21.state -/
abbrev x9b : XCode :=
  (.seq (.reg 0 x9r0 none)
  (.seq (.seq (.reg 1 x9r1 none)
  (.block 0
    (.loop x9l2)))
  (.seq (.reg 7 x9r7 none)
  .ret)))
def x9 : XFunc := ⟨28, 3, [.tmp 6], x9b⟩
theorem x9_ok : chkF Try.prog Try.f9 x9 = true := by kernel_rfl
theorem x9_eq : x9.body = x9b ∧ x9.res = [.tmp 6] ∧ x9.np = 3 := ⟨rfl, rfl, rfl⟩

abbrev x10r0 : List XOper := [
  ⟨(some 2), none, .mv (.c (.bool false))⟩]
abbrev x10r1 : List XOper := [
  ⟨(some 6), none, .mv (.t 0)⟩,
  ⟨(some 7), none, .call (.c (.fn (.func 21) [] [])) [(.t 6)]⟩,
  ⟨(some 5), none, .mv (.t 7)⟩,
  ⟨(some 8), none, .ext (.t 5) 0⟩,
  ⟨(some 9), none, .ext (.t 5) 1⟩,
  ⟨(some 3), none, .mv (.t 8)⟩,
  ⟨(some 4), none, .mv (.t 9)⟩]
abbrev x10r2 : List XOper := [
  ⟨(some 10), none, .mv (.t 4)⟩,
  ⟨(some 2), none, .mv (.t 10)⟩]
/-- datum/alarm.Right -/
abbrev x10b : XCode :=
  (.seq (.reg 0 x10r0 none)
  (.seq (.reg 1 x10r1 none)
  (.seq (.reg 2 x10r2 none)
  .ret)))
def x10 : XFunc := ⟨11, 1, [.tmp 2], x10b⟩
theorem x10_ok : chkF Try.prog Try.f10 x10 = true := by kernel_rfl
theorem x10_eq : x10.body = x10b ∧ x10.res = [.tmp 2] ∧ x10.np = 1 := ⟨rfl, rfl, rfl⟩

abbrev x11r0 : List XOper := [
  ⟨(some 0), none, .mv (.c (.bool false))⟩]
abbrev x11r1 : List XOper := [
  ⟨(some 5), none, .call (.c (.fn (.func 6) [] [])) [(.c .nils), (.c (.int .i64 2)), (.c (.int .i64 5))]⟩,
  ⟨(some 4), none, .mv (.t 5)⟩,
  ⟨(some 6), none, .ext (.t 4) 0⟩,
  ⟨(some 7), none, .ext (.t 4) 1⟩,
  ⟨(some 8), none, .ext (.t 4) 2⟩,
  ⟨(some 1), none, .mv (.t 6)⟩,
  ⟨(some 2), none, .mv (.t 7)⟩,
  ⟨(some 3), none, .mv (.t 8)⟩]
abbrev x11r2 : List XOper := [
  ⟨(some 9), none, .mv (.t 3)⟩,
  ⟨(some 10), none, .bin .eql (.t 9) (.c (.int .i64 0))⟩,
  ⟨(some 11), none, .mv (.t 10)⟩,
  ⟨(some 12), (some (11, true)), .mv (.t 2)⟩,
  ⟨(some 13), none, .pick (.t 11) (.t 12) (.c (.bool false))⟩,
  ⟨(some 14), none, .mv (.t 13)⟩,
  ⟨(some 15), (some (14, true)), .mv (.t 1)⟩,
  ⟨(some 16), (some (14, true)), .lenV (.t 15)⟩,
  ⟨(some 17), (some (14, true)), .bin .eql (.t 16) (.c (.int .i64 1))⟩,
  ⟨(some 18), none, .pick (.t 14) (.t 17) (.c (.bool false))⟩,
  ⟨(some 19), none, .mv (.t 18)⟩,
  ⟨(some 20), (some (19, true)), .mv (.t 1)⟩,
  ⟨(some 21), (some (19, true)), .iaS 3 (.t 20) (.c (.int .i64 0))⟩,
  ⟨(some 22), (some (19, true)), .load true 3 (.t 21)⟩,
  ⟨(some 23), (some (19, true)), .build [(.int .i64 0), (.int .i64 0), (.int .i64 0)] [(0, 1, (.c (.int .i64 2))), (1, 1, (.c (.int .i64 5))), (2, 1, (.c (.int .i64 1)))]⟩,
  ⟨(some 24), (some (19, true)), .eqA false [0, 0, 0] (.t 22) (.t 23)⟩,
  ⟨(some 25), none, .pick (.t 19) (.t 24) (.c (.bool false))⟩,
  ⟨(some 0), none, .mv (.t 25)⟩]
/-- datum/datumlaw21.alive -/
abbrev x11b : XCode :=
  (.seq (.reg 0 x11r0 none)
  (.seq (.reg 1 x11r1 none)
  (.seq (.reg 2 x11r2 none)
  .ret)))
def x11 : XFunc := ⟨26, 0, [.tmp 0], x11b⟩
theorem x11_ok : chkF Try.prog Try.f11 x11 = true := by kernel_rfl
theorem x11_eq : x11.body = x11b ∧ x11.res = [.tmp 0] ∧ x11.np = 0 := ⟨rfl, rfl, rfl⟩

abbrev x12r0 : List XOper := [
  ⟨(some 2), none, .mv (.c .nils)⟩]
abbrev x12r1 : List XOper := [
  ⟨(some 3), none, .mv (.t 0)⟩,
  ⟨(some 4), none, .mv (.t 0)⟩,
  ⟨(some 5), none, .lenV (.t 4)⟩,
  ⟨(some 6), none, .mnx false (.t 5) [(.c (.int .i64 70))]⟩,
  ⟨(some 7), none, .slV 3 (.t 3) none (some (.t 6)) none⟩,
  ⟨(some 2), none, .mv (.t 7)⟩]
/-- datum/datumlaw21.few -/
abbrev x12b : XCode :=
  (.seq (.reg 0 x12r0 none)
  (.seq (.reg 1 x12r1 none)
  .ret))
def x12 : XFunc := ⟨8, 1, [.tmp 2], x12b⟩
theorem x12_ok : chkF Try.prog Try.f12 x12 = true := by kernel_rfl
theorem x12_eq : x12.body = x12b ∧ x12.res = [.tmp 2] ∧ x12.np = 1 := ⟨rfl, rfl, rfl⟩

abbrev x13r0 : List XOper := [
  ⟨(some 4), none, .mv (.c .nils)⟩,
  ⟨(some 5), none, .mv (.c (.int .i64 0))⟩]
abbrev x13r1 : List XOper := [
  ⟨(some 10), none, .mv (.t 1)⟩,
  ⟨(some 11), none, .build [(.int .i64 0), (.int .i64 0)] [(0, 1, (.t 10))]⟩,
  ⟨(some 6), none, .alloc [(.int .i64 0), (.int .i64 0)]⟩,
  ⟨none, none, .store 2 (.t 6) (.t 11)⟩]
abbrev x13r2 : List XOper := [
  ⟨(some 12), none, .mv (.t 0)⟩,
  ⟨(some 13), none, .call (.c (.fn (.func 10) [] [])) [(.t 12)]⟩,
  ⟨(some 14), none, .un .not (.t 13)⟩,
  ⟨(some 15), none, .mv (.t 14)⟩,
  ⟨(some 16), (some (15, false)), .load true 2 (.t 6)⟩,
  ⟨(some 17), (some (15, false)), .call (.c (.fn (.func 22) [] [])) [(.t 16)]⟩,
  ⟨(some 18), (some (15, false)), .un .not (.t 17)⟩,
  ⟨(some 19), none, .pick (.t 15) (.c (.bool true)) (.t 18)⟩]
abbrev x13r3 : List XOper := [
  ⟨(some 4), none, .mv (.c .nils)⟩,
  ⟨(some 5), none, .mv (.c (.int .i64 1))⟩]
abbrev x13r4 : List XOper := [
  ⟨(some 7), none, .mv (.c .nils)⟩]
abbrev x13r5 : List XOper := [
  ⟨(some 20), none, .mv (.t 0)⟩,
  ⟨(some 21), none, .lenV (.t 20)⟩,
  ⟨(some 22), none, .mv (.c (.int .i64 0))⟩]
abbrev x13r6 : List XOper := [
  ⟨(some 23), none, .bin .lss (.t 22) (.t 21)⟩]
abbrev x13r7 : List XOper := [
  ⟨(some 24), none, .iaS 3 (.t 20) (.t 22)⟩,
  ⟨(some 25), none, .load true 3 (.t 24)⟩,
  ⟨(some 9), none, .alloc [(.int .i64 0), (.int .i64 0), (.int .i64 0)]⟩,
  ⟨none, none, .store 3 (.t 9) (.t 25)⟩]
abbrev x13r8 : List XOper := [
  ⟨(some 26), none, .fa 0 (.t 9)⟩,
  ⟨(some 27), none, .load false 1 (.t 26)⟩,
  ⟨(some 28), none, .mv (.t 1)⟩,
  ⟨(some 29), none, .bin .neq (.t 27) (.t 28)⟩]
abbrev x13r9 : List XOper := [
  ⟨(some 30), none, .mv (.t 7)⟩,
  ⟨(some 31), none, .load true 3 (.t 9)⟩,
  ⟨(some 32), none, .mkslice 3 (.agg [(.int .i64 0), (.int .i64 0), (.int .i64 0)]) 1 [(0, (.t 31))]⟩,
  ⟨(some 33), none, .app 3 24 (.t 30) (.t 32)⟩,
  ⟨(some 7), none, .mv (.t 33)⟩]
abbrev x13r10 : List XOper := [
  ⟨(some 34), none, .bin .add (.t 22) (.c (.int .i64 1))⟩,
  ⟨(some 22), none, .mv (.t 34)⟩]
abbrev x13l6 : XCode :=
  (.seq (.reg 6 x13r6 none)
  (.seq (.cond (.t 23)
    .skip
    (.exit 0))
  (.seq (.block 1
    (.seq (.reg 7 x13r7 none)
    (.seq (.reg 8 x13r8 none)
    (.cond (.t 29)
      (.reg 9 x13r9 none)
      .skip))))
  (.reg 10 x13r10 none))))
abbrev x13r11 : List XOper := [
  ⟨(some 35), none, .mv (.t 7)⟩,
  ⟨(some 4), none, .mv (.t 35)⟩,
  ⟨(some 5), none, .mv (.c (.int .i64 0))⟩]
/-- datum/alarm.Drop -/
abbrev x13b : XCode :=
  (.seq (.reg 0 x13r0 none)
  (.seq (.seq (.reg 1 x13r1 none)
  (.seq (.reg 2 x13r2 none)
  (.cond (.t 19)
    (.seq (.reg 3 x13r3 none)
    .ret)
    .skip)))
  (.seq (.reg 4 x13r4 none)
  (.seq (.seq (.reg 5 x13r5 none)
  (.block 0
    (.loop x13l6)))
  (.seq (.reg 11 x13r11 none)
  .ret)))))
def x13 : XFunc := ⟨36, 2, [.tmp 4, .tmp 5], x13b⟩
theorem x13_ok : chkF Try.prog Try.f13 x13 = true := by kernel_rfl
theorem x13_eq : x13.body = x13b ∧ x13.res = [.tmp 4, .tmp 5] ∧ x13.np = 2 := ⟨rfl, rfl, rfl⟩

abbrev x14r0 : List XOper := [
  ⟨(some 2), none, .mv (.c (.bool false))⟩]
abbrev x14r1 : List XOper := [
  ⟨(some 5), none, .mv (.t 0)⟩,
  ⟨(some 6), none, .lenV (.t 5)⟩,
  ⟨(some 7), none, .mv (.c (.int .i64 0))⟩]
abbrev x14r2 : List XOper := [
  ⟨(some 8), none, .bin .lss (.t 7) (.t 6)⟩]
abbrev x14r3 : List XOper := [
  ⟨(some 9), none, .mv (.t 7)⟩,
  ⟨(some 10), none, .iaS 3 (.t 5) (.t 7)⟩,
  ⟨(some 11), none, .load true 3 (.t 10)⟩,
  ⟨(some 4), none, .alloc [(.int .i64 0), (.int .i64 0), (.int .i64 0)]⟩,
  ⟨(some 3), none, .mv (.t 9)⟩,
  ⟨none, none, .store 3 (.t 4) (.t 11)⟩]
abbrev x14r4 : List XOper := [
  ⟨(some 12), none, .fa 0 (.t 4)⟩,
  ⟨(some 13), none, .load false 1 (.t 12)⟩,
  ⟨(some 14), none, .fa 1 (.t 4)⟩,
  ⟨(some 15), none, .load false 1 (.t 14)⟩,
  ⟨(some 16), none, .call (.c (.fn (.func 17) [] [])) [(.t 13), (.t 15)]⟩,
  ⟨(some 17), none, .un .not (.t 16)⟩,
  ⟨(some 18), none, .mv (.t 17)⟩,
  ⟨(some 19), (some (18, false)), .fa 2 (.t 4)⟩,
  ⟨(some 20), (some (18, false)), .load false 1 (.t 19)⟩,
  ⟨(some 21), (some (18, false)), .bin .lss (.t 20) (.c (.int .i64 1))⟩,
  ⟨(some 22), none, .pick (.t 18) (.c (.bool true)) (.t 21)⟩,
  ⟨(some 23), none, .mv (.t 22)⟩,
  ⟨(some 24), (some (23, false)), .fa 2 (.t 4)⟩,
  ⟨(some 25), (some (23, false)), .load false 1 (.t 24)⟩,
  ⟨(some 26), (some (23, false)), .bin .gtr (.t 25) (.c (.int .i64 2))⟩,
  ⟨(some 27), none, .pick (.t 23) (.c (.bool true)) (.t 26)⟩]
abbrev x14r5 : List XOper := [
  ⟨(some 2), none, .mv (.c (.bool false))⟩]
abbrev x14r6 : List XOper := [
  ⟨(some 28), none, .mv (.t 3)⟩,
  ⟨(some 29), none, .bin .gtr (.t 28) (.c (.int .i64 0))⟩,
  ⟨(some 30), none, .mv (.t 29)⟩,
  ⟨(some 31), (some (30, true)), .mv (.t 0)⟩,
  ⟨(some 32), (some (30, true)), .mv (.t 3)⟩,
  ⟨(some 33), (some (30, true)), .bin .sub (.t 32) (.c (.int .i64 1))⟩,
  ⟨(some 34), (some (30, true)), .iaS 3 (.t 31) (.t 33)⟩,
  ⟨(some 35), (some (30, true)), .fa 0 (.t 34)⟩,
  ⟨(some 36), (some (30, true)), .load false 1 (.t 35)⟩,
  ⟨(some 37), (some (30, true)), .bin .mul (.c (.int .i64 16)) (.t 36)⟩,
  ⟨(some 38), (some (30, true)), .mv (.t 0)⟩,
  ⟨(some 39), (some (30, true)), .mv (.t 3)⟩,
  ⟨(some 40), (some (30, true)), .bin .sub (.t 39) (.c (.int .i64 1))⟩,
  ⟨(some 41), (some (30, true)), .iaS 3 (.t 38) (.t 40)⟩,
  ⟨(some 42), (some (30, true)), .fa 1 (.t 41)⟩,
  ⟨(some 43), (some (30, true)), .load false 1 (.t 42)⟩,
  ⟨(some 44), (some (30, true)), .bin .add (.t 37) (.t 43)⟩,
  ⟨(some 45), (some (30, true)), .fa 0 (.t 4)⟩,
  ⟨(some 46), (some (30, true)), .load false 1 (.t 45)⟩,
  ⟨(some 47), (some (30, true)), .bin .mul (.c (.int .i64 16)) (.t 46)⟩,
  ⟨(some 48), (some (30, true)), .fa 1 (.t 4)⟩,
  ⟨(some 49), (some (30, true)), .load false 1 (.t 48)⟩,
  ⟨(some 50), (some (30, true)), .bin .add (.t 47) (.t 49)⟩,
  ⟨(some 51), (some (30, true)), .bin .geq (.t 44) (.t 50)⟩,
  ⟨(some 52), none, .pick (.t 30) (.t 51) (.c (.bool false))⟩]
abbrev x14r7 : List XOper := [
  ⟨(some 2), none, .mv (.c (.bool false))⟩]
abbrev x14r8 : List XOper := [
  ⟨(some 53), none, .bin .add (.t 7) (.c (.int .i64 1))⟩,
  ⟨(some 7), none, .mv (.t 53)⟩]
abbrev x14l2 : XCode :=
  (.seq (.reg 2 x14r2 none)
  (.seq (.cond (.t 8)
    .skip
    (.exit 0))
  (.seq (.block 1
    (.seq (.reg 3 x14r3 none)
    (.seq (.seq (.reg 4 x14r4 none)
    (.cond (.t 27)
      (.seq (.reg 5 x14r5 none)
      .ret)
      .skip))
    (.seq (.reg 6 x14r6 (some ⟨[]⟩))
    (.cond (.t 52)
      (.seq (.reg 7 x14r7 none)
      .ret)
      .skip)))))
  (.reg 8 x14r8 none))))
abbrev x14r9 : List XOper := [
  ⟨(some 2), none, .mv (.c (.bool true))⟩]
/-- datum/datumref21.Right -/
abbrev x14b : XCode :=
  (.seq (.reg 0 x14r0 none)
  (.seq (.seq (.reg 1 x14r1 none)
  (.block 0
    (.loop x14l2)))
  (.seq (.reg 9 x14r9 none)
  .ret)))
def x14 : XFunc := ⟨54, 1, [.tmp 2], x14b⟩
theorem x14_ok : chkF Try.prog Try.f14 x14 = true := by kernel_rfl
theorem x14_eq : x14.body = x14b ∧ x14.res = [.tmp 2] ∧ x14.np = 1 := ⟨rfl, rfl, rfl⟩

abbrev x15r0 : List XOper := [
  ⟨(some 4), none, .mv (.c (.bool false))⟩]
abbrev x15r1 : List XOper := [
  ⟨(some 6), none, .mv (.t 0)⟩,
  ⟨(some 7), none, .lenV (.t 6)⟩,
  ⟨(some 8), none, .mv (.t 1)⟩,
  ⟨(some 9), none, .lenV (.t 8)⟩,
  ⟨(some 10), none, .bin .neq (.t 7) (.t 9)⟩]
abbrev x15r2 : List XOper := [
  ⟨(some 4), none, .mv (.c (.bool false))⟩]
abbrev x15r3 : List XOper := [
  ⟨(some 11), none, .mv (.t 0)⟩,
  ⟨(some 12), none, .lenV (.t 11)⟩,
  ⟨(some 13), none, .mv (.c (.int .i64 0))⟩]
abbrev x15r4 : List XOper := [
  ⟨(some 14), none, .bin .lss (.t 13) (.t 12)⟩]
abbrev x15r5 : List XOper := [
  ⟨(some 15), none, .mv (.t 13)⟩,
  ⟨(some 5), none, .mv (.t 15)⟩]
abbrev x15r6 : List XOper := [
  ⟨(some 16), none, .mv (.t 0)⟩,
  ⟨(some 17), none, .mv (.t 5)⟩,
  ⟨(some 18), none, .iaS 3 (.t 16) (.t 17)⟩,
  ⟨(some 19), none, .load true 3 (.t 18)⟩,
  ⟨(some 20), none, .mv (.t 1)⟩,
  ⟨(some 21), none, .mv (.t 5)⟩,
  ⟨(some 22), none, .iaS 3 (.t 20) (.t 21)⟩,
  ⟨(some 23), none, .load true 3 (.t 22)⟩,
  ⟨(some 24), none, .eqA true [0, 0, 0] (.t 19) (.t 23)⟩]
abbrev x15r7 : List XOper := [
  ⟨(some 4), none, .mv (.c (.bool false))⟩]
abbrev x15r8 : List XOper := [
  ⟨(some 25), none, .bin .add (.t 13) (.c (.int .i64 1))⟩,
  ⟨(some 13), none, .mv (.t 25)⟩]
abbrev x15l4 : XCode :=
  (.seq (.reg 4 x15r4 none)
  (.seq (.cond (.t 14)
    .skip
    (.exit 0))
  (.seq (.block 1
    (.seq (.reg 5 x15r5 none)
    (.seq (.reg 6 x15r6 (some ⟨[]⟩))
    (.cond (.t 24)
      (.seq (.reg 7 x15r7 none)
      .ret)
      .skip))))
  (.reg 8 x15r8 none))))
abbrev x15r9 : List XOper := [
  ⟨(some 4), none, .mv (.c (.bool true))⟩]
/-- datum/datumref21.Same -/
abbrev x15b : XCode :=
  (.seq (.reg 0 x15r0 none)
  (.seq (.seq (.reg 1 x15r1 none)
  (.cond (.t 10)
    (.seq (.reg 2 x15r2 none)
    .ret)
    .skip))
  (.seq (.seq (.reg 3 x15r3 none)
  (.block 0
    (.loop x15l4)))
  (.seq (.reg 9 x15r9 none)
  .ret))))
def x15 : XFunc := ⟨26, 2, [.tmp 4], x15b⟩
theorem x15_ok : chkF Try.prog Try.f15 x15 = true := by kernel_rfl
theorem x15_eq : x15.body = x15b ∧ x15.res = [.tmp 4] ∧ x15.np = 2 := ⟨rfl, rfl, rfl⟩

abbrev x16r0 : List XOper := [
  ⟨(some 4), none, .mv (.c .nils)⟩]
abbrev x16r1 : List XOper := [
  ⟨(some 5), none, .mv (.c (.int .i64 0))⟩]
abbrev x16r2 : List XOper := [
  ⟨(some 6), none, .mv (.t 5)⟩,
  ⟨(some 7), none, .bin .lss (.t 6) (.c (.int .i64 16))⟩]
abbrev x16r4 : List XOper := [
  ⟨(some 10), none, .mv (.t 0)⟩,
  ⟨(some 11), none, .mv (.t 1)⟩,
  ⟨(some 12), none, .mv (.t 5)⟩,
  ⟨(some 13), none, .call (.c (.fn (.func 25) [] [])) [(.t 10), (.t 11), (.t 12), (.c (.int .i64 0))]⟩,
  ⟨(some 0), none, .mv (.t 13)⟩]
abbrev x16r3 : List XOper := [
  ⟨(some 8), none, .mv (.t 5)⟩,
  ⟨(some 9), none, .bin .add (.t 8) (.c (.int .i64 1))⟩,
  ⟨(some 5), none, .mv (.t 9)⟩]
abbrev x16l2 : XCode :=
  (.seq (.seq (.reg 2 x16r2 none)
  (.cond (.t 7)
    .skip
    (.exit 0)))
  (.seq (.block 1
    (.reg 4 x16r4 none))
  (.reg 3 x16r3 none)))
abbrev x16r5 : List XOper := [
  ⟨(some 14), none, .mv (.t 0)⟩,
  ⟨(some 4), none, .mv (.t 14)⟩]
/-- datum/datumref21.Drop -/
abbrev x16b : XCode :=
  (.seq (.reg 0 x16r0 none)
  (.seq (.seq (.reg 1 x16r1 none)
  (.block 0
    (.loop x16l2)))
  (.seq (.reg 5 x16r5 none)
  .ret)))
def x16 : XFunc := ⟨15, 2, [.tmp 4], x16b⟩
theorem x16_ok : chkF Try.prog Try.f16 x16 = true := by kernel_rfl
theorem x16_eq : x16.body = x16b ∧ x16.res = [.tmp 4] ∧ x16.np = 2 := ⟨rfl, rfl, rfl⟩

abbrev x17r0 : List XOper := [
  ⟨(some 4), none, .mv (.c (.bool false))⟩]
abbrev x17r1 : List XOper := [
  ⟨(some 5), none, .mv (.t 0)⟩,
  ⟨(some 6), none, .bin .geq (.t 5) (.c (.int .i64 0))⟩,
  ⟨(some 7), none, .mv (.t 6)⟩,
  ⟨(some 8), (some (7, true)), .mv (.t 0)⟩,
  ⟨(some 9), (some (7, true)), .bin .leq (.t 8) (.c (.int .i64 3))⟩,
  ⟨(some 10), none, .pick (.t 7) (.t 9) (.c (.bool false))⟩,
  ⟨(some 11), none, .mv (.t 10)⟩,
  ⟨(some 12), (some (11, true)), .mv (.t 1)⟩,
  ⟨(some 13), (some (11, true)), .bin .geq (.t 12) (.c (.int .i64 0))⟩,
  ⟨(some 14), none, .pick (.t 11) (.t 13) (.c (.bool false))⟩,
  ⟨(some 15), none, .mv (.t 14)⟩,
  ⟨(some 16), (some (15, true)), .mv (.t 1)⟩,
  ⟨(some 17), (some (15, true)), .bin .leq (.t 16) (.c (.int .i64 15))⟩,
  ⟨(some 18), none, .pick (.t 15) (.t 17) (.c (.bool false))⟩,
  ⟨(some 4), none, .mv (.t 18)⟩]
/-- datum/datumref21.Key -/
abbrev x17b : XCode :=
  (.seq (.reg 0 x17r0 none)
  (.seq (.reg 1 x17r1 none)
  .ret))
def x17 : XFunc := ⟨19, 2, [.tmp 4], x17b⟩
theorem x17_ok : chkF Try.prog Try.f17 x17 = true := by kernel_rfl
theorem x17_eq : x17.body = x17b ∧ x17.res = [.tmp 4] ∧ x17.np = 2 := ⟨rfl, rfl, rfl⟩

abbrev x18r0 : List XOper := [
  ⟨(some 6), none, .mv (.c .nils)⟩,
  ⟨(some 7), none, .mv (.c (.bool false))⟩]
abbrev x18r1 : List XOper := [
  ⟨(some 8), none, .mv (.t 0)⟩,
  ⟨(some 9), none, .mv (.t 1)⟩,
  ⟨(some 10), none, .mv (.t 2)⟩,
  ⟨(some 11), none, .call (.c (.fn (.func 26) [] [])) [(.t 8), (.t 9), (.t 10)]⟩,
  ⟨(some 12), none, .bin .neq (.t 11) (.c (.int .i64 0))⟩]
abbrev x18r2 : List XOper := [
  ⟨(some 13), none, .mv (.t 0)⟩,
  ⟨(some 6), none, .mv (.t 13)⟩,
  ⟨(some 7), none, .mv (.c (.bool false))⟩]
abbrev x18r3 : List XOper := [
  ⟨(some 14), none, .mv (.t 0)⟩,
  ⟨(some 15), none, .mv (.t 1)⟩,
  ⟨(some 16), none, .mv (.t 2)⟩,
  ⟨(some 17), none, .call (.c (.fn (.func 25) [] [])) [(.t 14), (.t 15), (.t 16), (.c (.int .i64 1))]⟩,
  ⟨(some 6), none, .mv (.t 17)⟩,
  ⟨(some 7), none, .mv (.c (.bool true))⟩]
/-- datum/datumref21.Raise -/
abbrev x18b : XCode :=
  (.seq (.reg 0 x18r0 none)
  (.seq (.seq (.reg 1 x18r1 none)
  (.cond (.t 12)
    (.seq (.reg 2 x18r2 none)
    .ret)
    .skip))
  (.seq (.reg 3 x18r3 none)
  .ret)))
def x18 : XFunc := ⟨18, 3, [.tmp 6, .tmp 7], x18b⟩
theorem x18_ok : chkF Try.prog Try.f18 x18 = true := by kernel_rfl
theorem x18_eq : x18.body = x18b ∧ x18.res = [.tmp 6, .tmp 7] ∧ x18.np = 3 := ⟨rfl, rfl, rfl⟩

abbrev x19r0 : List XOper := [
  ⟨(some 6), none, .mv (.c .nils)⟩,
  ⟨(some 7), none, .mv (.c (.int .i64 0))⟩]
abbrev x19r1 : List XOper := [
  ⟨(some 9), none, .mv (.t 0)⟩,
  ⟨(some 10), none, .mv (.t 1)⟩,
  ⟨(some 11), none, .mv (.t 2)⟩,
  ⟨(some 12), none, .call (.c (.fn (.func 26) [] [])) [(.t 9), (.t 10), (.t 11)]⟩,
  ⟨(some 8), none, .mv (.t 12)⟩]
abbrev x19r2 : List XOper := [
  ⟨(some 13), none, .mv (.t 8)⟩,
  ⟨(some 14), none, .bin .eql (.t 13) (.c (.int .i64 0))⟩]
abbrev x19r3 : List XOper := [
  ⟨(some 6), none, .mv (.c .nils)⟩,
  ⟨(some 7), none, .mv (.c (.int .i64 6))⟩]
abbrev x19r4 : List XOper := [
  ⟨(some 15), none, .mv (.t 8)⟩,
  ⟨(some 16), none, .bin .eql (.t 15) (.c (.int .i64 2))⟩]
abbrev x19r5 : List XOper := [
  ⟨(some 6), none, .mv (.c .nils)⟩,
  ⟨(some 7), none, .mv (.c (.int .i64 12))⟩]
abbrev x19r6 : List XOper := [
  ⟨(some 17), none, .mv (.t 0)⟩,
  ⟨(some 18), none, .mv (.t 1)⟩,
  ⟨(some 19), none, .mv (.t 2)⟩,
  ⟨(some 20), none, .call (.c (.fn (.func 25) [] [])) [(.t 17), (.t 18), (.t 19), (.c (.int .i64 2))]⟩,
  ⟨(some 6), none, .mv (.t 20)⟩,
  ⟨(some 7), none, .mv (.c (.int .i64 0))⟩]
/-- datum/datumref21.Ack -/
abbrev x19b : XCode :=
  (.seq (.reg 0 x19r0 none)
  (.seq (.reg 1 x19r1 none)
  (.seq (.seq (.reg 2 x19r2 none)
  (.cond (.t 14)
    (.seq (.reg 3 x19r3 none)
    .ret)
    .skip))
  (.seq (.seq (.reg 4 x19r4 none)
  (.cond (.t 16)
    (.seq (.reg 5 x19r5 none)
    .ret)
    .skip))
  (.seq (.reg 6 x19r6 none)
  .ret)))))
def x19 : XFunc := ⟨21, 3, [.tmp 6, .tmp 7], x19b⟩
theorem x19_ok : chkF Try.prog Try.f19 x19 = true := by kernel_rfl
theorem x19_eq : x19.body = x19b ∧ x19.res = [.tmp 6, .tmp 7] ∧ x19.np = 3 := ⟨rfl, rfl, rfl⟩

abbrev x20r0 : List XOper := [
  ⟨(some 6), none, .mv (.c .nils)⟩,
  ⟨(some 7), none, .mv (.c (.int .i64 0))⟩]
abbrev x20r1 : List XOper := [
  ⟨(some 9), none, .mv (.t 0)⟩,
  ⟨(some 10), none, .mv (.t 1)⟩,
  ⟨(some 11), none, .mv (.t 2)⟩,
  ⟨(some 12), none, .call (.c (.fn (.func 26) [] [])) [(.t 9), (.t 10), (.t 11)]⟩,
  ⟨(some 8), none, .mv (.t 12)⟩]
abbrev x20r2 : List XOper := [
  ⟨(some 13), none, .mv (.t 8)⟩,
  ⟨(some 14), none, .bin .eql (.t 13) (.c (.int .i64 0))⟩]
abbrev x20r3 : List XOper := [
  ⟨(some 6), none, .mv (.c .nils)⟩,
  ⟨(some 7), none, .mv (.c (.int .i64 6))⟩]
abbrev x20r4 : List XOper := [
  ⟨(some 15), none, .mv (.t 8)⟩,
  ⟨(some 16), none, .bin .eql (.t 15) (.c (.int .i64 1))⟩]
abbrev x20r5 : List XOper := [
  ⟨(some 6), none, .mv (.c .nils)⟩,
  ⟨(some 7), none, .mv (.c (.int .i64 12))⟩]
abbrev x20r6 : List XOper := [
  ⟨(some 17), none, .mv (.t 0)⟩,
  ⟨(some 18), none, .mv (.t 1)⟩,
  ⟨(some 19), none, .mv (.t 2)⟩,
  ⟨(some 20), none, .call (.c (.fn (.func 25) [] [])) [(.t 17), (.t 18), (.t 19), (.c (.int .i64 0))]⟩,
  ⟨(some 6), none, .mv (.t 20)⟩,
  ⟨(some 7), none, .mv (.c (.int .i64 0))⟩]
/-- datum/datumref21.Clear -/
abbrev x20b : XCode :=
  (.seq (.reg 0 x20r0 none)
  (.seq (.reg 1 x20r1 none)
  (.seq (.seq (.reg 2 x20r2 none)
  (.cond (.t 14)
    (.seq (.reg 3 x20r3 none)
    .ret)
    .skip))
  (.seq (.seq (.reg 4 x20r4 none)
  (.cond (.t 16)
    (.seq (.reg 5 x20r5 none)
    .ret)
    .skip))
  (.seq (.reg 6 x20r6 none)
  .ret)))))
def x20 : XFunc := ⟨21, 3, [.tmp 6, .tmp 7], x20b⟩
theorem x20_ok : chkF Try.prog Try.f20 x20 = true := by kernel_rfl
theorem x20_eq : x20.body = x20b ∧ x20.res = [.tmp 6, .tmp 7] ∧ x20.np = 3 := ⟨rfl, rfl, rfl⟩

abbrev x21r0 : List XOper := [
  ⟨(some 2), none, .mv (.c .any)⟩,
  ⟨(some 3), none, .mv (.c (.bool false))⟩]
abbrev x21r1 : List XOper := [
  ⟨(some 8), none, .mkM⟩,
  ⟨(some 4), none, .mv (.t 8)⟩]
abbrev x21r2 : List XOper := [
  ⟨(some 9), none, .mv (.t 0)⟩,
  ⟨(some 10), none, .lenV (.t 9)⟩,
  ⟨(some 11), none, .mv (.c (.int .i64 0))⟩]
abbrev x21r3 : List XOper := [
  ⟨(some 12), none, .bin .lss (.t 11) (.t 10)⟩]
abbrev x21r4 : List XOper := [
  ⟨(some 13), none, .mv (.t 11)⟩,
  ⟨(some 14), none, .iaS 3 (.t 9) (.t 11)⟩,
  ⟨(some 15), none, .load true 3 (.t 14)⟩,
  ⟨(some 6), none, .alloc [(.int .i64 0), (.int .i64 0), (.int .i64 0)]⟩,
  ⟨(some 5), none, .mv (.t 13)⟩,
  ⟨none, none, .store 3 (.t 6) (.t 15)⟩]
abbrev x21r5 : List XOper := [
  ⟨(some 16), none, .fa 0 (.t 6)⟩,
  ⟨(some 17), none, .load false 1 (.t 16)⟩,
  ⟨(some 18), none, .fa 1 (.t 6)⟩,
  ⟨(some 19), none, .load false 1 (.t 18)⟩,
  ⟨(some 20), none, .build [(.int .i64 0), (.int .i64 0)] [(0, 1, (.t 17)), (1, 1, (.t 19))]⟩,
  ⟨(some 7), none, .alloc [(.int .i64 0), (.int .i64 0)]⟩,
  ⟨none, none, .store 2 (.t 7) (.t 20)⟩]
abbrev x21r6 : List XOper := [
  ⟨(some 21), none, .load true 2 (.t 7)⟩,
  ⟨(some 22), none, .call (.c (.fn (.func 22) [] [])) [(.t 21)]⟩,
  ⟨(some 23), none, .un .not (.t 22)⟩,
  ⟨(some 24), none, .mv (.t 23)⟩,
  ⟨(some 25), (some (24, false)), .fa 2 (.t 6)⟩,
  ⟨(some 26), (some (24, false)), .load false 1 (.t 25)⟩,
  ⟨(some 27), (some (24, false)), .bin .neq (.t 26) (.c (.int .i64 1))⟩,
  ⟨(some 28), (some (24, false)), .mv (.t 27)⟩,
  ⟨(some 29), (some (28, true)), .fa 2 (.t 6)⟩,
  ⟨(some 30), (some (28, true)), .load false 1 (.t 29)⟩,
  ⟨(some 31), (some (28, true)), .bin .neq (.t 30) (.c (.int .i64 2))⟩,
  ⟨(some 32), (some (24, false)), .pick (.t 28) (.t 31) (.c (.bool false))⟩,
  ⟨(some 33), none, .pick (.t 24) (.c (.bool true)) (.t 32)⟩,
  ⟨(some 34), none, .mv (.t 33)⟩,
  ⟨(some 35), (some (34, false)), .mv (.t 5)⟩,
  ⟨(some 36), (some (34, false)), .bin .gtr (.t 35) (.c (.int .i64 0))⟩,
  ⟨(some 37), (some (34, false)), .mv (.t 36)⟩,
  ⟨(some 38), (some (37, true)), .mv (.t 0)⟩,
  ⟨(some 39), (some (37, true)), .mv (.t 5)⟩,
  ⟨(some 40), (some (37, true)), .bin .sub (.t 39) (.c (.int .i64 1))⟩,
  ⟨(some 41), (some (37, true)), .iaS 3 (.t 38) (.t 40)⟩,
  ⟨(some 42), (some (37, true)), .load true 3 (.t 41)⟩,
  ⟨(some 43), (some (37, true)), .load true 3 (.t 6)⟩,
  ⟨(some 44), (some (37, true)), .call (.c (.fn (.func 27) [] [])) [(.t 42), (.t 43)]⟩,
  ⟨(some 45), (some (37, true)), .bin .geq (.t 44) (.c (.int .i64 0))⟩,
  ⟨(some 46), (some (34, false)), .pick (.t 37) (.t 45) (.c (.bool false))⟩,
  ⟨(some 47), none, .pick (.t 34) (.c (.bool true)) (.t 46)⟩]
abbrev x21r7 : List XOper := [
  ⟨(some 2), none, .mv (.c .any)⟩,
  ⟨(some 3), none, .mv (.c (.bool false))⟩]
abbrev x21r8 : List XOper := [
  ⟨(some 48), none, .mv (.t 4)⟩,
  ⟨(some 49), none, .load true 2 (.t 7)⟩,
  ⟨(some 50), none, .fa 2 (.t 6)⟩,
  ⟨(some 51), none, .load false 1 (.t 50)⟩,
  ⟨none, none, .mset 5 (.t 48) (.t 49) (.t 51)⟩]
abbrev x21r9 : List XOper := [
  ⟨(some 52), none, .bin .add (.t 11) (.c (.int .i64 1))⟩,
  ⟨(some 11), none, .mv (.t 52)⟩]
abbrev x21l3 : XCode :=
  (.seq (.reg 3 x21r3 none)
  (.seq (.cond (.t 12)
    .skip
    (.exit 0))
  (.seq (.block 1
    (.seq (.reg 4 x21r4 none)
    (.seq (.reg 5 x21r5 none)
    (.seq (.seq (.reg 6 x21r6 (some ⟨[]⟩))
    (.cond (.t 47)
      (.seq (.reg 7 x21r7 none)
      .ret)
      .skip))
    (.reg 8 x21r8 none)))))
  (.reg 9 x21r9 none))))
abbrev x21r10 : List XOper := [
  ⟨(some 53), none, .mv (.t 4)⟩,
  ⟨(some 2), none, .mv (.t 53)⟩,
  ⟨(some 3), none, .mv (.c (.bool true))⟩]
/-- datum/alarm.open -/
abbrev x21b : XCode :=
  (.seq (.reg 0 x21r0 none)
  (.seq (.reg 1 x21r1 none)
  (.seq (.seq (.reg 2 x21r2 none)
  (.block 0
    (.loop x21l3)))
  (.seq (.reg 10 x21r10 none)
  .ret))))
def x21 : XFunc := ⟨54, 1, [.tmp 2, .tmp 3], x21b⟩
theorem x21_ok : chkF Try.prog Try.f21 x21 = true := by kernel_rfl
theorem x21_eq : x21.body = x21b ∧ x21.res = [.tmp 2, .tmp 3] ∧ x21.np = 1 := ⟨rfl, rfl, rfl⟩

abbrev x22r0 : List XOper := [
  ⟨(some 1), none, .box (.t 0)⟩,
  ⟨(some 2), none, .mv (.c (.bool false))⟩]
abbrev x22r1 : List XOper := [
  ⟨(some 3), none, .fa 0 (.t 1)⟩,
  ⟨(some 4), none, .load false 1 (.t 3)⟩,
  ⟨(some 5), none, .bin .geq (.t 4) (.c (.int .i64 0))⟩,
  ⟨(some 6), none, .mv (.t 5)⟩,
  ⟨(some 7), (some (6, true)), .fa 0 (.t 1)⟩,
  ⟨(some 8), (some (6, true)), .load false 1 (.t 7)⟩,
  ⟨(some 9), (some (6, true)), .bin .lss (.t 8) (.c (.int .i64 4))⟩,
  ⟨(some 10), none, .pick (.t 6) (.t 9) (.c (.bool false))⟩,
  ⟨(some 11), none, .mv (.t 10)⟩,
  ⟨(some 12), (some (11, true)), .fa 1 (.t 1)⟩,
  ⟨(some 13), (some (11, true)), .load false 1 (.t 12)⟩,
  ⟨(some 14), (some (11, true)), .bin .geq (.t 13) (.c (.int .i64 0))⟩,
  ⟨(some 15), none, .pick (.t 11) (.t 14) (.c (.bool false))⟩,
  ⟨(some 16), none, .mv (.t 15)⟩,
  ⟨(some 17), (some (16, true)), .fa 1 (.t 1)⟩,
  ⟨(some 18), (some (16, true)), .load false 1 (.t 17)⟩,
  ⟨(some 19), (some (16, true)), .bin .lss (.t 18) (.c (.int .i64 16))⟩,
  ⟨(some 20), none, .pick (.t 16) (.t 19) (.c (.bool false))⟩,
  ⟨(some 2), none, .mv (.t 20)⟩]
/-- (datum/alarm.key).right -/
abbrev x22b : XCode :=
  (.seq (.reg 0 x22r0 none)
  (.seq (.reg 1 x22r1 none)
  .ret))
def x22 : XFunc := ⟨21, 1, [.tmp 2], x22b⟩
theorem x22_ok : chkF Try.prog Try.f22 x22 = true := by kernel_rfl
theorem x22_eq : x22.body = x22b ∧ x22.res = [.tmp 2] ∧ x22.np = 1 := ⟨rfl, rfl, rfl⟩

abbrev x24r0 : List XOper := [
  ⟨(some 5), none, .box (.t 1)⟩,
  ⟨(some 8), none, .mv (.c .nils)⟩,
  ⟨(some 9), none, .mv (.c (.int .i64 0))⟩]
abbrev x24r1 : List XOper := [
  ⟨(some 13), none, .mv (.t 0)⟩,
  ⟨(some 14), none, .call (.c (.fn (.func 21) [] [])) [(.t 13)]⟩,
  ⟨(some 12), none, .mv (.t 14)⟩,
  ⟨(some 15), none, .ext (.t 12) 0⟩,
  ⟨(some 16), none, .ext (.t 12) 1⟩,
  ⟨(some 10), none, .mv (.t 15)⟩,
  ⟨(some 11), none, .mv (.t 16)⟩]
abbrev x24r2 : List XOper := [
  ⟨(some 18), none, .mv (.t 11)⟩,
  ⟨(some 19), none, .un .not (.t 18)⟩,
  ⟨(some 20), none, .mv (.t 19)⟩,
  ⟨(some 21), (some (20, false)), .load true 2 (.t 5)⟩,
  ⟨(some 22), (some (20, false)), .call (.c (.fn (.func 22) [] [])) [(.t 21)]⟩,
  ⟨(some 23), (some (20, false)), .un .not (.t 22)⟩,
  ⟨(some 24), none, .pick (.t 20) (.c (.bool true)) (.t 23)⟩,
  ⟨(some 17), none, .mv (.t 24)⟩]
abbrev x24r3 : List XOper := [
  ⟨(some 8), none, .mv (.c .nils)⟩,
  ⟨(some 9), none, .mv (.c (.int .i64 1))⟩]
abbrev x24r4 : List XOper := [
  ⟨(some 26), none, .mv (.t 10)⟩,
  ⟨(some 27), none, .load true 2 (.t 5)⟩,
  ⟨(some 28), none, .lkp 5 false (.int .i64 0) (.t 26) (.t 27)⟩,
  ⟨(some 29), none, .bin .eql (.t 28) (.c (.int .i64 0))⟩,
  ⟨(some 25), none, .mv (.t 29)⟩]
abbrev x24r5 : List XOper := [
  ⟨(some 8), none, .mv (.c .nils)⟩,
  ⟨(some 9), none, .mv (.c (.int .i64 6))⟩]
abbrev x24r6 : List XOper := [
  ⟨(some 31), none, .mv (.t 10)⟩,
  ⟨(some 32), none, .load true 2 (.t 5)⟩,
  ⟨(some 33), none, .lkp 5 false (.int .i64 0) (.t 31) (.t 32)⟩,
  ⟨(some 34), none, .mv (.t 2)⟩,
  ⟨(some 35), none, .bin .neq (.t 33) (.t 34)⟩,
  ⟨(some 30), none, .mv (.t 35)⟩]
abbrev x24r7 : List XOper := [
  ⟨(some 8), none, .mv (.c .nils)⟩,
  ⟨(some 9), none, .mv (.c (.int .i64 12))⟩]
abbrev x24r8 : List XOper := [
  ⟨(some 36), none, .mv (.t 10)⟩,
  ⟨(some 37), none, .load true 2 (.t 5)⟩,
  ⟨(some 38), none, .mv (.t 3)⟩,
  ⟨none, none, .mset 5 (.t 36) (.t 37) (.t 38)⟩]
abbrev x24r9 : List XOper := [
  ⟨(some 39), none, .mv (.t 3)⟩,
  ⟨(some 40), none, .bin .eql (.t 39) (.c (.int .i64 0))⟩]
abbrev x24r10 : List XOper := [
  ⟨(some 41), none, .mv (.t 10)⟩,
  ⟨(some 42), none, .load true 2 (.t 5)⟩,
  ⟨none, none, .mdel 5 (.t 41) (.t 42)⟩]
abbrev x24r11 : List XOper := [
  ⟨(some 43), none, .mv (.t 10)⟩,
  ⟨(some 44), none, .callM (.c (.fn (.func 23) [] [])) [(.t 43)]⟩,
  ⟨(some 8), none, .mv (.t 44)⟩,
  ⟨(some 9), none, .mv (.c (.int .i64 0))⟩]
/-- datum/alarm.move -/
abbrev x24b : XCode :=
  (.seq (.reg 0 x24r0 none)
  (.seq (.reg 1 x24r1 none)
  (.seq (.block 0
    (.seq (.reg 2 x24r2 none)
    (.cond (.t 17)
      (.seq (.reg 3 x24r3 none)
      .ret)
      (.seq (.reg 4 x24r4 none)
      (.cond (.t 25)
        (.seq (.reg 5 x24r5 none)
        .ret)
        (.seq (.reg 6 x24r6 none)
        (.cond (.t 30)
          (.seq (.reg 7 x24r7 none)
          .ret)
          .skip)))))))
  (.seq (.reg 8 x24r8 none)
  (.seq (.seq (.reg 9 x24r9 none)
  (.cond (.t 40)
    (.reg 10 x24r10 none)
    .skip))
  (.seq (.reg 11 x24r11 none)
  .ret))))))
def x24 : XFunc := ⟨45, 4, [.tmp 8, .tmp 9], x24b⟩
theorem x24_ok : chkF Try.prog Try.f24 x24 = true := by kernel_rfl
theorem x24_eq : x24.body = x24b ∧ x24.res = [.tmp 8, .tmp 9] ∧ x24.np = 4 := ⟨rfl, rfl, rfl⟩

abbrev x25r0 : List XOper := [
  ⟨(some 8), none, .mv (.c .nils)⟩]
abbrev x25r1 : List XOper := [
  ⟨(some 13), none, .mkslice 3 (.agg [(.int .i64 0), (.int .i64 0), (.int .i64 0)]) 0 []⟩,
  ⟨(some 9), none, .mv (.t 13)⟩]
abbrev x25r2 : List XOper := [
  ⟨(some 10), none, .mv (.c (.int .i64 0))⟩]
abbrev x25r3 : List XOper := [
  ⟨(some 14), none, .mv (.t 10)⟩,
  ⟨(some 15), none, .bin .lss (.t 14) (.c (.int .i64 4))⟩]
abbrev x25r5 : List XOper := [
  ⟨(some 11), none, .mv (.c (.int .i64 0))⟩]
abbrev x25r6 : List XOper := [
  ⟨(some 18), none, .mv (.t 11)⟩,
  ⟨(some 19), none, .bin .lss (.t 18) (.c (.int .i64 16))⟩]
abbrev x25r8 : List XOper := [
  ⟨(some 22), none, .mv (.t 0)⟩,
  ⟨(some 23), none, .mv (.t 10)⟩,
  ⟨(some 24), none, .mv (.t 11)⟩,
  ⟨(some 25), none, .call (.c (.fn (.func 26) [] [])) [(.t 22), (.t 23), (.t 24)]⟩,
  ⟨(some 12), none, .mv (.t 25)⟩]
abbrev x25r9 : List XOper := [
  ⟨(some 26), none, .mv (.t 10)⟩,
  ⟨(some 27), none, .mv (.t 1)⟩,
  ⟨(some 28), none, .bin .eql (.t 26) (.t 27)⟩,
  ⟨(some 29), none, .mv (.t 28)⟩,
  ⟨(some 30), (some (29, true)), .mv (.t 11)⟩,
  ⟨(some 31), (some (29, true)), .mv (.t 2)⟩,
  ⟨(some 32), (some (29, true)), .bin .eql (.t 30) (.t 31)⟩,
  ⟨(some 33), none, .pick (.t 29) (.t 32) (.c (.bool false))⟩]
abbrev x25r10 : List XOper := [
  ⟨(some 34), none, .mv (.t 3)⟩,
  ⟨(some 12), none, .mv (.t 34)⟩]
abbrev x25r11 : List XOper := [
  ⟨(some 35), none, .mv (.t 12)⟩,
  ⟨(some 36), none, .bin .neq (.t 35) (.c (.int .i64 0))⟩]
abbrev x25r12 : List XOper := [
  ⟨(some 37), none, .mv (.t 9)⟩,
  ⟨(some 38), none, .mv (.t 10)⟩,
  ⟨(some 39), none, .mv (.t 11)⟩,
  ⟨(some 40), none, .mv (.t 12)⟩,
  ⟨(some 41), none, .build [(.int .i64 0), (.int .i64 0), (.int .i64 0)] [(0, 1, (.t 38)), (1, 1, (.t 39)), (2, 1, (.t 40))]⟩,
  ⟨(some 42), none, .mkslice 3 (.agg [(.int .i64 0), (.int .i64 0), (.int .i64 0)]) 1 [(0, (.t 41))]⟩,
  ⟨(some 43), none, .app 3 24 (.t 37) (.t 42)⟩,
  ⟨(some 9), none, .mv (.t 43)⟩]
abbrev x25r7 : List XOper := [
  ⟨(some 20), none, .mv (.t 11)⟩,
  ⟨(some 21), none, .bin .add (.t 20) (.c (.int .i64 1))⟩,
  ⟨(some 11), none, .mv (.t 21)⟩]
abbrev x25l5 : XCode :=
  (.seq (.seq (.reg 6 x25r6 none)
  (.cond (.t 19)
    .skip
    (.exit 2)))
  (.seq (.block 3
    (.seq (.reg 8 x25r8 none)
    (.seq (.seq (.reg 9 x25r9 none)
    (.cond (.t 33)
      (.reg 10 x25r10 none)
      .skip))
    (.seq (.reg 11 x25r11 none)
    (.cond (.t 36)
      (.reg 12 x25r12 none)
      .skip)))))
  (.reg 7 x25r7 none)))
abbrev x25r4 : List XOper := [
  ⟨(some 16), none, .mv (.t 10)⟩,
  ⟨(some 17), none, .bin .add (.t 16) (.c (.int .i64 1))⟩,
  ⟨(some 10), none, .mv (.t 17)⟩]
abbrev x25l3 : XCode :=
  (.seq (.seq (.reg 3 x25r3 none)
  (.cond (.t 15)
    .skip
    (.exit 0)))
  (.seq (.block 1
    (.seq (.reg 5 x25r5 none)
    (.block 2
      (.loop x25l5))))
  (.reg 4 x25r4 none)))
abbrev x25r13 : List XOper := [
  ⟨(some 44), none, .mv (.t 9)⟩,
  ⟨(some 8), none, .mv (.t 44)⟩]
/-- datum/datumref21.With -/
abbrev x25b : XCode :=
  (.seq (.reg 0 x25r0 none)
  (.seq (.reg 1 x25r1 none)
  (.seq (.seq (.reg 2 x25r2 none)
  (.block 0
    (.loop x25l3)))
  (.seq (.reg 13 x25r13 none)
  .ret))))
def x25 : XFunc := ⟨45, 4, [.tmp 8], x25b⟩
theorem x25_ok : chkF Try.prog Try.f25 x25 = true := by kernel_rfl
theorem x25_eq : x25.body = x25b ∧ x25.res = [.tmp 8] ∧ x25.np = 4 := ⟨rfl, rfl, rfl⟩

abbrev x26r0 : List XOper := [
  ⟨(some 6), none, .mv (.c (.int .i64 0))⟩]
abbrev x26r1 : List XOper := [
  ⟨(some 9), none, .mv (.t 0)⟩,
  ⟨(some 10), none, .lenV (.t 9)⟩,
  ⟨(some 11), none, .mv (.c (.int .i64 0))⟩]
abbrev x26r2 : List XOper := [
  ⟨(some 12), none, .bin .lss (.t 11) (.t 10)⟩]
abbrev x26r3 : List XOper := [
  ⟨(some 13), none, .iaS 3 (.t 9) (.t 11)⟩,
  ⟨(some 14), none, .load true 3 (.t 13)⟩,
  ⟨(some 8), none, .alloc [(.int .i64 0), (.int .i64 0), (.int .i64 0)]⟩,
  ⟨none, none, .store 3 (.t 8) (.t 14)⟩]
abbrev x26r4 : List XOper := [
  ⟨(some 15), none, .fa 0 (.t 8)⟩,
  ⟨(some 16), none, .load false 1 (.t 15)⟩,
  ⟨(some 17), none, .mv (.t 1)⟩,
  ⟨(some 18), none, .bin .eql (.t 16) (.t 17)⟩,
  ⟨(some 19), none, .mv (.t 18)⟩,
  ⟨(some 20), (some (19, true)), .fa 1 (.t 8)⟩,
  ⟨(some 21), (some (19, true)), .load false 1 (.t 20)⟩,
  ⟨(some 22), (some (19, true)), .mv (.t 2)⟩,
  ⟨(some 23), (some (19, true)), .bin .eql (.t 21) (.t 22)⟩,
  ⟨(some 24), none, .pick (.t 19) (.t 23) (.c (.bool false))⟩]
abbrev x26r5 : List XOper := [
  ⟨(some 25), none, .fa 2 (.t 8)⟩,
  ⟨(some 26), none, .load false 1 (.t 25)⟩,
  ⟨(some 6), none, .mv (.t 26)⟩]
abbrev x26r6 : List XOper := [
  ⟨(some 27), none, .bin .add (.t 11) (.c (.int .i64 1))⟩,
  ⟨(some 11), none, .mv (.t 27)⟩]
abbrev x26l2 : XCode :=
  (.seq (.reg 2 x26r2 none)
  (.seq (.cond (.t 12)
    .skip
    (.exit 0))
  (.seq (.block 1
    (.seq (.reg 3 x26r3 none)
    (.seq (.reg 4 x26r4 none)
    (.cond (.t 24)
      (.seq (.reg 5 x26r5 none)
      .ret)
      .skip))))
  (.reg 6 x26r6 none))))
abbrev x26r7 : List XOper := [
  ⟨(some 6), none, .mv (.c (.int .i64 0))⟩]
/-- datum/datumref21.State -/
abbrev x26b : XCode :=
  (.seq (.reg 0 x26r0 none)
  (.seq (.seq (.reg 1 x26r1 none)
  (.block 0
    (.loop x26l2)))
  (.seq (.reg 7 x26r7 none)
  .ret)))
def x26 : XFunc := ⟨28, 3, [.tmp 6], x26b⟩
theorem x26_ok : chkF Try.prog Try.f26 x26 = true := by kernel_rfl
theorem x26_eq : x26.body = x26b ∧ x26.res = [.tmp 6] ∧ x26.np = 3 := ⟨rfl, rfl, rfl⟩

abbrev x27r0 : List XOper := [
  ⟨(some 2), none, .box (.t 0)⟩,
  ⟨(some 3), none, .box (.t 1)⟩,
  ⟨(some 4), none, .mv (.c (.int .i64 0))⟩]
abbrev x27r1 : List XOper := [
  ⟨(some 5), none, .fa 0 (.t 2)⟩,
  ⟨(some 6), none, .load false 1 (.t 5)⟩,
  ⟨(some 7), none, .fa 0 (.t 3)⟩,
  ⟨(some 8), none, .load false 1 (.t 7)⟩,
  ⟨(some 9), none, .call (.c (.fn (.func 30) [] [])) [(.t 6), (.t 8)]⟩,
  ⟨(some 10), none, .fa 1 (.t 2)⟩,
  ⟨(some 11), none, .load false 1 (.t 10)⟩,
  ⟨(some 12), none, .fa 1 (.t 3)⟩,
  ⟨(some 13), none, .load false 1 (.t 12)⟩,
  ⟨(some 14), none, .call (.c (.fn (.func 30) [] [])) [(.t 11), (.t 13)]⟩,
  ⟨(some 15), none, .mkslice 1 (.int .i64 0) 2 [(0, (.t 9)), (1, (.t 14))]⟩,
  ⟨(some 16), none, .call (.c (.fn (.func 29) [] [])) [(.t 15)]⟩,
  ⟨(some 4), none, .mv (.t 16)⟩]
/-- datum/alarm.order -/
abbrev x27b : XCode :=
  (.seq (.reg 0 x27r0 none)
  (.seq (.reg 1 x27r1 (some ⟨[(4, 6), (4, 8)]⟩))
  .ret))
def x27 : XFunc := ⟨17, 2, [.tmp 4], x27b⟩
theorem x27_ok : chkF Try.prog Try.f27 x27 = true := by kernel_rfl
theorem x27_eq : x27.body = x27b ∧ x27.res = [.tmp 4] ∧ x27.np = 2 := ⟨rfl, rfl, rfl⟩

abbrev x29r0 : List XOper := [
  ⟨(some 2), none, .mv (.c (.int .i64 0))⟩]
abbrev x29r1 : List XOper := [
  ⟨(some 3), none, .mv (.c (.int .i64 0))⟩]
abbrev x29r2 : List XOper := [
  ⟨(some 6), none, .mv (.t 0)⟩,
  ⟨(some 7), none, .lenV (.t 6)⟩,
  ⟨(some 8), none, .mv (.c (.int .i64 0))⟩]
abbrev x29r3 : List XOper := [
  ⟨(some 9), none, .bin .lss (.t 8) (.t 7)⟩]
abbrev x29r4 : List XOper := [
  ⟨(some 10), none, .iaS 1 (.t 6) (.t 8)⟩,
  ⟨(some 11), none, .load false 1 (.t 10)⟩,
  ⟨(some 5), none, .mv (.t 11)⟩]
abbrev x29r5 : List XOper := [
  ⟨(some 12), none, .mv (.t 5)⟩,
  ⟨(some 13), none, .mv (.t 3)⟩,
  ⟨(some 14), none, .bin .neq (.t 12) (.t 13)⟩]
abbrev x29r6 : List XOper := [
  ⟨(some 15), none, .mv (.t 5)⟩,
  ⟨(some 2), none, .mv (.t 15)⟩]
abbrev x29r7 : List XOper := [
  ⟨(some 16), none, .bin .add (.t 8) (.c (.int .i64 1))⟩,
  ⟨(some 8), none, .mv (.t 16)⟩]
abbrev x29l3 : XCode :=
  (.seq (.reg 3 x29r3 none)
  (.seq (.cond (.t 9)
    .skip
    (.exit 0))
  (.seq (.block 1
    (.seq (.reg 4 x29r4 none)
    (.seq (.reg 5 x29r5 none)
    (.cond (.t 14)
      (.seq (.reg 6 x29r6 none)
      .ret)
      .skip))))
  (.reg 7 x29r7 none))))
abbrev x29r8 : List XOper := [
  ⟨(some 17), none, .mv (.t 3)⟩,
  ⟨(some 2), none, .mv (.t 17)⟩]
/-- cmp.Or[int] -/
abbrev x29b : XCode :=
  (.seq (.reg 0 x29r0 none)
  (.seq (.reg 1 x29r1 none)
  (.seq (.seq (.reg 2 x29r2 none)
  (.block 0
    (.loop x29l3)))
  (.seq (.reg 8 x29r8 none)
  .ret))))
def x29 : XFunc := ⟨18, 1, [.tmp 2], x29b⟩
theorem x29_ok : chkF Try.prog Try.f29 x29 = true := by kernel_rfl
theorem x29_eq : x29.body = x29b ∧ x29.res = [.tmp 2] ∧ x29.np = 1 := ⟨rfl, rfl, rfl⟩

abbrev x30r0 : List XOper := [
  ⟨(some 4), none, .mv (.c (.int .i64 0))⟩]
abbrev x30r1 : List XOper := [
  ⟨(some 7), none, .mv (.t 0)⟩,
  ⟨(some 8), none, .call (.c (.fn (.func 33) [] [])) [(.t 7)]⟩,
  ⟨(some 5), none, .mv (.t 8)⟩]
abbrev x30r2 : List XOper := [
  ⟨(some 9), none, .mv (.t 1)⟩,
  ⟨(some 10), none, .call (.c (.fn (.func 33) [] [])) [(.t 9)]⟩,
  ⟨(some 6), none, .mv (.t 10)⟩]
abbrev x30r3 : List XOper := [
  ⟨(some 11), none, .mv (.t 5)⟩]
abbrev x30r4 : List XOper := [
  ⟨(some 12), none, .mv (.t 6)⟩]
abbrev x30r5 : List XOper := [
  ⟨(some 4), none, .mv (.c (.int .i64 0))⟩]
abbrev x30r6 : List XOper := [
  ⟨(some 4), none, .mv (.c (.int .i64 (-1)))⟩]
abbrev x30r7 : List XOper := [
  ⟨(some 13), none, .mv (.t 6)⟩]
abbrev x30r8 : List XOper := [
  ⟨(some 4), none, .mv (.c (.int .i64 1))⟩]
abbrev x30r9 : List XOper := [
  ⟨(some 14), none, .mv (.t 0)⟩,
  ⟨(some 15), none, .mv (.t 1)⟩,
  ⟨(some 16), none, .bin .lss (.t 14) (.t 15)⟩]
abbrev x30r10 : List XOper := [
  ⟨(some 4), none, .mv (.c (.int .i64 (-1)))⟩]
abbrev x30r11 : List XOper := [
  ⟨(some 17), none, .mv (.t 0)⟩,
  ⟨(some 18), none, .mv (.t 1)⟩,
  ⟨(some 19), none, .bin .gtr (.t 17) (.t 18)⟩]
abbrev x30r12 : List XOper := [
  ⟨(some 4), none, .mv (.c (.int .i64 1))⟩]
abbrev x30r13 : List XOper := [
  ⟨(some 4), none, .mv (.c (.int .i64 0))⟩]
/-- cmp.Compare[int] -/
abbrev x30b : XCode :=
  (.seq (.reg 0 x30r0 none)
  (.seq (.reg 1 x30r1 none)
  (.seq (.reg 2 x30r2 none)
  (.seq (.seq (.reg 3 x30r3 none)
  (.cond (.t 11)
    (.seq (.seq (.reg 4 x30r4 none)
    (.cond (.t 12)
      (.seq (.reg 5 x30r5 none)
      .ret)
      .skip))
    (.seq (.reg 6 x30r6 none)
    .ret))
    .skip))
  (.seq (.seq (.reg 7 x30r7 none)
  (.cond (.t 13)
    (.seq (.reg 8 x30r8 none)
    .ret)
    .skip))
  (.seq (.seq (.reg 9 x30r9 none)
  (.cond (.t 16)
    (.seq (.reg 10 x30r10 none)
    .ret)
    .skip))
  (.seq (.seq (.reg 11 x30r11 none)
  (.cond (.t 19)
    (.seq (.reg 12 x30r12 none)
    .ret)
    .skip))
  (.seq (.reg 13 x30r13 none)
  .ret))))))))
def x30 : XFunc := ⟨20, 2, [.tmp 4], x30b⟩
theorem x30_ok : chkF Try.prog Try.f30 x30 = true := by kernel_rfl
theorem x30_eq : x30.body = x30b ∧ x30.res = [.tmp 4] ∧ x30.np = 2 := ⟨rfl, rfl, rfl⟩

abbrev x33r0 : List XOper := [
  ⟨(some 2), none, .mv (.c (.bool false))⟩]
abbrev x33r1 : List XOper := [
  ⟨(some 3), none, .mv (.t 0)⟩,
  ⟨(some 4), none, .mv (.t 0)⟩,
  ⟨(some 5), none, .bin .neq (.t 3) (.t 4)⟩,
  ⟨(some 2), none, .mv (.t 5)⟩]
/-- cmp.isNaN[int] -/
abbrev x33b : XCode :=
  (.seq (.reg 0 x33r0 none)
  (.seq (.reg 1 x33r1 none)
  .ret))
def x33 : XFunc := ⟨6, 1, [.tmp 2], x33b⟩
theorem x33_ok : chkF Try.prog Try.f33 x33 = true := by kernel_rfl
theorem x33_eq : x33.body = x33b ∧ x33.res = [.tmp 2] ∧ x33.np = 1 := ⟨rfl, rfl, rfl⟩


def xf : FuncId → Option XFunc
  | 3 => some x3
  | 4 => some x4
  | 5 => some x5
  | 6 => some x6
  | 7 => some x7
  | 8 => some x8
  | 9 => some x9
  | 10 => some x10
  | 11 => some x11
  | 12 => some x12
  | 13 => some x13
  | 14 => some x14
  | 15 => some x15
  | 16 => some x16
  | 17 => some x17
  | 18 => some x18
  | 19 => some x19
  | 20 => some x20
  | 21 => some x21
  | 22 => some x22
  | 24 => some x24
  | 25 => some x25
  | 26 => some x26
  | 27 => some x27
  | 29 => some x29
  | 30 => some x30
  | 33 => some x33
  | _ => none
def C0 : Cfg := ⟨fun _ => none, xf, fun _ => none, fun _ => none⟩
theorem ok0 : CfgOk Try.prog C0 := by
  refine ⟨(fun g F h => by cases h), (fun g x h => ?_), by kernel_rfl, (fun g F h => by cases h), (fun g F h => by cases h)⟩
  simp only [C0, xf] at h
  split at h
  · cases h; exact ⟨Try.f3, Try.func3, x3_ok⟩
  · cases h; exact ⟨Try.f4, Try.func4, x4_ok⟩
  · cases h; exact ⟨Try.f5, Try.func5, x5_ok⟩
  · cases h; exact ⟨Try.f6, Try.func6, x6_ok⟩
  · cases h; exact ⟨Try.f7, Try.func7, x7_ok⟩
  · cases h; exact ⟨Try.f8, Try.func8, x8_ok⟩
  · cases h; exact ⟨Try.f9, Try.func9, x9_ok⟩
  · cases h; exact ⟨Try.f10, Try.func10, x10_ok⟩
  · cases h; exact ⟨Try.f11, Try.func11, x11_ok⟩
  · cases h; exact ⟨Try.f12, Try.func12, x12_ok⟩
  · cases h; exact ⟨Try.f13, Try.func13, x13_ok⟩
  · cases h; exact ⟨Try.f14, Try.func14, x14_ok⟩
  · cases h; exact ⟨Try.f15, Try.func15, x15_ok⟩
  · cases h; exact ⟨Try.f16, Try.func16, x16_ok⟩
  · cases h; exact ⟨Try.f17, Try.func17, x17_ok⟩
  · cases h; exact ⟨Try.f18, Try.func18, x18_ok⟩
  · cases h; exact ⟨Try.f19, Try.func19, x19_ok⟩
  · cases h; exact ⟨Try.f20, Try.func20, x20_ok⟩
  · cases h; exact ⟨Try.f21, Try.func21, x21_ok⟩
  · cases h; exact ⟨Try.f22, Try.func22, x22_ok⟩
  · cases h; exact ⟨Try.f24, Try.func24, x24_ok⟩
  · cases h; exact ⟨Try.f25, Try.func25, x25_ok⟩
  · cases h; exact ⟨Try.f26, Try.func26, x26_ok⟩
  · cases h; exact ⟨Try.f27, Try.func27, x27_ok⟩
  · cases h; exact ⟨Try.f29, Try.func29, x29_ok⟩
  · cases h; exact ⟨Try.f30, Try.func30, x30_ok⟩
  · cases h; exact ⟨Try.f33, Try.func33, x33_ok⟩
  · cases h
end Go.Proofs.Ytkihpjehigmnpaa
