/-
  The functions that the statements reach, as the interpreter's texts, each checked against the translation.
-/
import Derived.Test.YtihgogbfjiobiaaXZ
import Derived.Test.YtihgogbfjiobiaaRows
set_option linter.unusedVariables false
namespace Go.Proofs.Ytihgogbfjiobiaa
open Go Go.Xec

abbrev x3r0 : List XOper := [
  ⟨(some 2), none, .mv (.c (.bool false))⟩]
abbrev x3r1 : List XOper := [
  ⟨(some 14), none, .mv (.t 0)⟩,
  ⟨(some 15), none, .call (.c (.fn (.func 6) [] [])) [(.t 14)]⟩,
  ⟨(some 0), none, .mv (.t 15)⟩]
abbrev x3r2 : List XOper := [
  ⟨(some 3), none, .mv (.c .nils)⟩]
abbrev x3r3 : List XOper := [
  ⟨(some 4), none, .mv (.c (.bool true))⟩,
  ⟨(some 5), none, .mv (.c (.bool true))⟩]
abbrev x3r4 : List XOper := [
  ⟨(some 16), none, .mv (.t 0)⟩,
  ⟨(some 17), none, .lenV (.t 16)⟩,
  ⟨(some 18), none, .bin .sub (.t 17) (.c (.int .i64 1))⟩,
  ⟨(some 6), none, .mv (.t 18)⟩]
abbrev x3r5 : List XOper := [
  ⟨(some 19), none, .mv (.t 6)⟩,
  ⟨(some 20), none, .bin .geq (.t 19) (.c (.int .i64 0))⟩]
abbrev x3r7 : List XOper := [
  ⟨(some 23), none, .mv (.t 3)⟩,
  ⟨(some 24), none, .mv (.t 0)⟩,
  ⟨(some 25), none, .mv (.t 6)⟩,
  ⟨(some 26), none, .iaS 1 (.t 24) (.t 25)⟩,
  ⟨(some 27), none, .load false 1 (.t 26)⟩,
  ⟨(some 28), none, .mkslice 1 (.int .i64 0) 1 [(0, (.t 27))]⟩,
  ⟨(some 29), none, .app 1 8 (.t 23) (.t 28)⟩,
  ⟨(some 3), none, .mv (.t 29)⟩]
abbrev x3r8 : List XOper := [
  ⟨(some 30), none, .mv (.t 6)⟩,
  ⟨(some 31), none, .bin .gtr (.t 30) (.c (.int .i64 0))⟩]
abbrev x3r9 : List XOper := [
  ⟨(some 32), none, .mv (.t 4)⟩,
  ⟨(some 33), none, .mv (.t 32)⟩,
  ⟨(some 34), (some (33, true)), .mv (.t 0)⟩,
  ⟨(some 35), (some (33, true)), .mv (.t 6)⟩,
  ⟨(some 36), (some (33, true)), .bin .sub (.t 35) (.c (.int .i64 1))⟩,
  ⟨(some 37), (some (33, true)), .iaS 1 (.t 34) (.t 36)⟩,
  ⟨(some 38), (some (33, true)), .load false 1 (.t 37)⟩,
  ⟨(some 39), (some (33, true)), .mv (.t 0)⟩,
  ⟨(some 40), (some (33, true)), .mv (.t 6)⟩,
  ⟨(some 41), (some (33, true)), .iaS 1 (.t 39) (.t 40)⟩,
  ⟨(some 42), (some (33, true)), .load false 1 (.t 41)⟩,
  ⟨(some 43), (some (33, true)), .bin .leq (.t 38) (.t 42)⟩,
  ⟨(some 44), none, .pick (.t 33) (.t 43) (.c (.bool false))⟩,
  ⟨(some 45), none, .mv (.t 5)⟩,
  ⟨(some 46), none, .mv (.t 45)⟩,
  ⟨(some 47), (some (46, true)), .mv (.t 0)⟩,
  ⟨(some 48), (some (46, true)), .mv (.t 6)⟩,
  ⟨(some 49), (some (46, true)), .bin .sub (.t 48) (.c (.int .i64 1))⟩,
  ⟨(some 50), (some (46, true)), .iaS 1 (.t 47) (.t 49)⟩,
  ⟨(some 51), (some (46, true)), .load false 1 (.t 50)⟩,
  ⟨(some 52), (some (46, true)), .mv (.t 0)⟩,
  ⟨(some 53), (some (46, true)), .mv (.t 6)⟩,
  ⟨(some 54), (some (46, true)), .iaS 1 (.t 52) (.t 53)⟩,
  ⟨(some 55), (some (46, true)), .load false 1 (.t 54)⟩,
  ⟨(some 56), (some (46, true)), .bin .geq (.t 51) (.t 55)⟩,
  ⟨(some 57), none, .pick (.t 46) (.t 56) (.c (.bool false))⟩,
  ⟨(some 4), none, .mv (.t 44)⟩,
  ⟨(some 5), none, .mv (.t 57)⟩]
abbrev x3r6 : List XOper := [
  ⟨(some 21), none, .mv (.t 6)⟩,
  ⟨(some 22), none, .bin .sub (.t 21) (.c (.int .i64 1))⟩,
  ⟨(some 6), none, .mv (.t 22)⟩]
abbrev x3l5 : XCode :=
  (.seq (.seq (.reg 5 x3r5 none)
  (.cond (.t 20)
    .skip
    (.exit 0)))
  (.seq (.block 1
    (.seq (.reg 7 x3r7 none)
    (.seq (.reg 8 x3r8 none)
    (.cond (.t 31)
      (.reg 9 x3r9 (some ⟨[]⟩))
      .skip))))
  (.reg 6 x3r6 none)))
abbrev x3r10 : List XOper := [
  ⟨(some 59), none, .build [(.int .i64 0), (.int .i64 0), (.int .i64 0)] []⟩,
  ⟨(some 60), none, .mv (.t 0)⟩,
  ⟨(some 61), none, .call (.c (.fn (.func 7) [] [])) [(.t 59), (.t 60)]⟩,
  ⟨(some 58), none, .mv (.t 61)⟩,
  ⟨(some 62), none, .ext (.t 58) 0⟩,
  ⟨(some 63), none, .ext (.t 58) 1⟩,
  ⟨(some 64), none, .ext (.t 58) 2⟩,
  ⟨(some 7), none, .alloc [(.int .i64 0), (.int .i64 0), (.int .i64 0)]⟩,
  ⟨none, none, .store 3 (.t 7) (.t 62)⟩,
  ⟨(some 8), none, .mv (.t 63)⟩,
  ⟨(some 9), none, .mv (.t 64)⟩]
abbrev x3r11 : List XOper := [
  ⟨(some 66), none, .build [(.int .i64 0), (.int .i64 0), (.int .i64 0)] []⟩,
  ⟨(some 67), none, .mv (.t 3)⟩,
  ⟨(some 68), none, .call (.c (.fn (.func 7) [] [])) [(.t 66), (.t 67)]⟩,
  ⟨(some 65), none, .mv (.t 68)⟩,
  ⟨(some 69), none, .ext (.t 65) 0⟩,
  ⟨(some 70), none, .ext (.t 65) 1⟩,
  ⟨(some 71), none, .ext (.t 65) 2⟩,
  ⟨(some 10), none, .alloc [(.int .i64 0), (.int .i64 0), (.int .i64 0)]⟩,
  ⟨none, none, .store 3 (.t 10) (.t 69)⟩,
  ⟨(some 11), none, .mv (.t 70)⟩,
  ⟨(some 12), none, .mv (.t 71)⟩]
abbrev x3r12 : List XOper := [
  ⟨(some 72), none, .mv (.t 9)⟩,
  ⟨(some 73), none, .bin .neq (.t 72) (.c (.int .i64 0))⟩,
  ⟨(some 74), none, .mv (.t 73)⟩,
  ⟨(some 75), (some (74, false)), .mv (.t 12)⟩,
  ⟨(some 76), (some (74, false)), .bin .neq (.t 75) (.c (.int .i64 0))⟩,
  ⟨(some 77), none, .pick (.t 74) (.c (.bool true)) (.t 76)⟩,
  ⟨(some 78), none, .mv (.t 77)⟩,
  ⟨(some 79), (some (78, false)), .fa 2 (.t 7)⟩,
  ⟨(some 80), (some (78, false)), .load false 1 (.t 79)⟩,
  ⟨(some 81), (some (78, false)), .fa 2 (.t 10)⟩,
  ⟨(some 82), (some (78, false)), .load false 1 (.t 81)⟩,
  ⟨(some 83), (some (78, false)), .bin .neq (.t 80) (.t 82)⟩,
  ⟨(some 84), none, .pick (.t 78) (.c (.bool true)) (.t 83)⟩,
  ⟨(some 85), none, .mv (.t 84)⟩,
  ⟨(some 86), (some (85, false)), .fa 0 (.t 7)⟩,
  ⟨(some 87), (some (85, false)), .load false 1 (.t 86)⟩,
  ⟨(some 88), (some (85, false)), .mv (.t 0)⟩,
  ⟨(some 89), (some (85, false)), .lenV (.t 88)⟩,
  ⟨(some 90), (some (85, false)), .bin .neq (.t 87) (.t 89)⟩,
  ⟨(some 91), none, .pick (.t 85) (.c (.bool true)) (.t 90)⟩,
  ⟨(some 92), none, .mv (.t 91)⟩,
  ⟨(some 93), (some (92, false)), .mv (.t 8)⟩,
  ⟨(some 94), (some (92, false)), .lenV (.t 93)⟩,
  ⟨(some 95), (some (92, false)), .mv (.t 0)⟩,
  ⟨(some 96), (some (92, false)), .lenV (.t 95)⟩,
  ⟨(some 97), (some (92, false)), .bin .sub (.t 96) (.c (.int .i64 1))⟩,
  ⟨(some 98), (some (92, false)), .mnx true (.c (.int .i64 0)) [(.t 97)]⟩,
  ⟨(some 99), (some (92, false)), .bin .neq (.t 94) (.t 98)⟩,
  ⟨(some 100), none, .pick (.t 92) (.c (.bool true)) (.t 99)⟩,
  ⟨(some 101), none, .mv (.t 100)⟩,
  ⟨(some 102), (some (101, false)), .mv (.t 11)⟩,
  ⟨(some 103), (some (101, false)), .lenV (.t 102)⟩,
  ⟨(some 104), (some (101, false)), .mv (.t 8)⟩,
  ⟨(some 105), (some (101, false)), .lenV (.t 104)⟩,
  ⟨(some 106), (some (101, false)), .bin .neq (.t 103) (.t 105)⟩,
  ⟨(some 107), none, .pick (.t 101) (.c (.bool true)) (.t 106)⟩,
  ⟨(some 108), none, .mv (.t 107)⟩,
  ⟨(some 109), (some (108, false)), .call (.c (.fn (.func 8) [] [])) []⟩,
  ⟨(some 110), (some (108, false)), .un .not (.t 109)⟩,
  ⟨(some 111), none, .pick (.t 108) (.c (.bool true)) (.t 110)⟩]
abbrev x3r13 : List XOper := [
  ⟨(some 2), none, .mv (.c (.bool false))⟩]
abbrev x3r14 : List XOper := [
  ⟨(some 112), none, .mv (.t 0)⟩,
  ⟨(some 113), none, .lenV (.t 112)⟩,
  ⟨(some 114), none, .bin .eql (.t 113) (.c (.int .i64 0))⟩]
abbrev x3r15 : List XOper := [
  ⟨(some 115), none, .load true 3 (.t 7)⟩,
  ⟨(some 116), none, .build [(.int .i64 0), (.int .i64 0), (.int .i64 0)] []⟩,
  ⟨(some 117), none, .eqA false [0, 0, 0] (.t 115) (.t 116)⟩,
  ⟨(some 2), none, .mv (.t 117)⟩]
abbrev x3r16 : List XOper := [
  ⟨(some 118), none, .mv (.t 0)⟩,
  ⟨(some 119), none, .iaS 1 (.t 118) (.c (.int .i64 0))⟩,
  ⟨(some 120), none, .load false 1 (.t 119)⟩,
  ⟨(some 121), none, .mv (.t 0)⟩,
  ⟨(some 122), none, .mv (.t 0)⟩,
  ⟨(some 123), none, .lenV (.t 122)⟩,
  ⟨(some 124), none, .bin .sub (.t 123) (.c (.int .i64 1))⟩,
  ⟨(some 125), none, .iaS 1 (.t 121) (.t 124)⟩,
  ⟨(some 126), none, .load false 1 (.t 125)⟩,
  ⟨(some 127), none, .bin .sub (.t 120) (.t 126)⟩,
  ⟨(some 128), none, .mv (.t 0)⟩,
  ⟨(some 129), none, .mv (.t 0)⟩,
  ⟨(some 130), none, .lenV (.t 129)⟩,
  ⟨(some 131), none, .bin .sub (.t 130) (.c (.int .i64 1))⟩,
  ⟨(some 132), none, .iaS 1 (.t 128) (.t 131)⟩,
  ⟨(some 133), none, .load false 1 (.t 132)⟩,
  ⟨(some 134), none, .mv (.t 0)⟩,
  ⟨(some 135), none, .iaS 1 (.t 134) (.c (.int .i64 0))⟩,
  ⟨(some 136), none, .load false 1 (.t 135)⟩,
  ⟨(some 137), none, .bin .sub (.t 133) (.t 136)⟩,
  ⟨(some 138), none, .mnx true (.t 127) [(.t 137)]⟩,
  ⟨(some 13), none, .mv (.t 138)⟩]
abbrev x3r17 : List XOper := [
  ⟨(some 139), none, .fa 1 (.t 7)⟩,
  ⟨(some 140), none, .load false 1 (.t 139)⟩,
  ⟨(some 141), none, .mv (.t 0)⟩,
  ⟨(some 142), none, .mv (.t 0)⟩,
  ⟨(some 143), none, .lenV (.t 142)⟩,
  ⟨(some 144), none, .bin .sub (.t 143) (.c (.int .i64 1))⟩,
  ⟨(some 145), none, .iaS 1 (.t 141) (.t 144)⟩,
  ⟨(some 146), none, .load false 1 (.t 145)⟩,
  ⟨(some 147), none, .bin .eql (.t 140) (.t 146)⟩,
  ⟨(some 148), none, .mv (.t 147)⟩,
  ⟨(some 149), (some (148, true)), .fa 1 (.t 10)⟩,
  ⟨(some 150), (some (148, true)), .load false 1 (.t 149)⟩,
  ⟨(some 151), (some (148, true)), .mv (.t 0)⟩,
  ⟨(some 152), (some (148, true)), .iaS 1 (.t 151) (.c (.int .i64 0))⟩,
  ⟨(some 153), (some (148, true)), .load false 1 (.t 152)⟩,
  ⟨(some 154), (some (148, true)), .bin .eql (.t 150) (.t 153)⟩,
  ⟨(some 155), none, .pick (.t 148) (.t 154) (.c (.bool false))⟩,
  ⟨(some 156), none, .mv (.t 155)⟩,
  ⟨(some 157), (some (156, true)), .fa 2 (.t 7)⟩,
  ⟨(some 158), (some (156, true)), .load false 1 (.t 157)⟩,
  ⟨(some 159), (some (156, true)), .mv (.t 13)⟩,
  ⟨(some 160), (some (156, true)), .bin .geq (.t 158) (.t 159)⟩,
  ⟨(some 161), none, .pick (.t 156) (.t 160) (.c (.bool false))⟩,
  ⟨(some 162), none, .mv (.t 161)⟩,
  ⟨(some 163), (some (162, true)), .mv (.t 4)⟩,
  ⟨(some 164), (some (162, true)), .mv (.t 163)⟩,
  ⟨(some 165), (some (164, false)), .mv (.t 5)⟩,
  ⟨(some 166), (some (162, true)), .pick (.t 164) (.c (.bool true)) (.t 165)⟩,
  ⟨(some 167), (some (162, true)), .fa 2 (.t 7)⟩,
  ⟨(some 168), (some (162, true)), .load false 1 (.t 167)⟩,
  ⟨(some 169), (some (162, true)), .mv (.t 13)⟩,
  ⟨(some 170), (some (162, true)), .bin .eql (.t 168) (.t 169)⟩,
  ⟨(some 171), (some (162, true)), .eqB false (.t 166) (.t 170)⟩,
  ⟨(some 172), none, .pick (.t 162) (.t 171) (.c (.bool false))⟩,
  ⟨(some 2), none, .mv (.t 172)⟩]
/-- datum/datumlaw12.MoveBounds -/
abbrev x3b : XCode :=
  (.seq (.reg 0 x3r0 none)
  (.seq (.reg 1 x3r1 none)
  (.seq (.reg 2 x3r2 none)
  (.seq (.reg 3 x3r3 none)
  (.seq (.seq (.reg 4 x3r4 none)
  (.block 0
    (.loop x3l5)))
  (.seq (.reg 10 x3r10 none)
  (.seq (.reg 11 x3r11 none)
  (.seq (.seq (.reg 12 x3r12 none)
  (.cond (.t 111)
    (.seq (.reg 13 x3r13 none)
    .ret)
    .skip))
  (.seq (.seq (.reg 14 x3r14 none)
  (.cond (.t 114)
    (.seq (.reg 15 x3r15 none)
    .ret)
    .skip))
  (.seq (.reg 16 x3r16 (some ⟨[]⟩))
  (.seq (.reg 17 x3r17 (some ⟨[]⟩))
  .ret)))))))))))
def x3 : XFunc := ⟨173, 1, [.tmp 2], x3b⟩
theorem x3_ok : chkF Try.prog Try.f3 x3 = true := by kernel_rfl
theorem x3_eq : x3.body = x3b ∧ x3.res = [.tmp 2] ∧ x3.np = 1 := ⟨rfl, rfl, rfl⟩

abbrev x4r0 : List XOper := [
  ⟨(some 3), none, .box (.t 0)⟩,
  ⟨(some 6), none, .mv (.c (.bool false))⟩]
abbrev x4r1 : List XOper := [
  ⟨(some 18), none, .mv (.t 2)⟩,
  ⟨(some 19), none, .mv (.t 2)⟩,
  ⟨(some 20), none, .lenV (.t 19)⟩,
  ⟨(some 21), none, .mnx false (.t 20) [(.c (.int .i64 200))]⟩,
  ⟨(some 22), none, .slV 1 (.t 18) none (some (.t 21)) none⟩,
  ⟨(some 2), none, .mv (.t 22)⟩]
abbrev x4r2 : List XOper := [
  ⟨(some 24), none, .load true 3 (.t 3)⟩,
  ⟨(some 25), none, .mv (.t 1)⟩,
  ⟨(some 26), none, .call (.c (.fn (.func 9) [] [])) [(.t 24), (.t 25)]⟩,
  ⟨(some 23), none, .mv (.t 26)⟩,
  ⟨(some 27), none, .ext (.t 23) 0⟩,
  ⟨(some 28), none, .ext (.t 23) 1⟩,
  ⟨(some 29), none, .ext (.t 23) 2⟩,
  ⟨(some 7), none, .alloc [(.int .i64 0), (.int .i64 0), (.int .i64 0)]⟩,
  ⟨none, none, .store 3 (.t 7) (.t 27)⟩,
  ⟨(some 8), none, .mv (.t 28)⟩,
  ⟨(some 9), none, .mv (.t 29)⟩]
abbrev x4r3 : List XOper := [
  ⟨(some 31), none, .load true 3 (.t 3)⟩,
  ⟨(some 32), none, .mv (.t 2)⟩,
  ⟨(some 33), none, .call (.c (.fn (.func 7) [] [])) [(.t 31), (.t 32)]⟩,
  ⟨(some 30), none, .mv (.t 33)⟩,
  ⟨(some 34), none, .ext (.t 30) 0⟩,
  ⟨(some 35), none, .ext (.t 30) 1⟩,
  ⟨(some 36), none, .ext (.t 30) 2⟩,
  ⟨(some 10), none, .alloc [(.int .i64 0), (.int .i64 0), (.int .i64 0)]⟩,
  ⟨none, none, .store 3 (.t 10) (.t 34)⟩,
  ⟨(some 11), none, .mv (.t 35)⟩,
  ⟨(some 12), none, .mv (.t 36)⟩]
abbrev x4r4 : List XOper := [
  ⟨(some 37), none, .build [(.int .i64 0), (.int .i64 0), (.int .i64 0)] []⟩,
  ⟨(some 13), none, .alloc [(.int .i64 0), (.int .i64 0), (.int .i64 0)]⟩,
  ⟨none, none, .store 3 (.t 13) (.t 37)⟩]
abbrev x4r5 : List XOper := [
  ⟨(some 38), none, .load true 3 (.t 3)⟩,
  ⟨(some 39), none, .call (.c (.fn (.func 10) [] [])) [(.t 38)]⟩,
  ⟨(some 40), none, .load true 3 (.t 3)⟩,
  ⟨(some 41), none, .call (.c (.fn (.func 11) [] [])) [(.t 40)]⟩,
  ⟨(some 42), none, .eqB true (.t 39) (.t 41)⟩,
  ⟨(some 43), none, .mv (.t 42)⟩,
  ⟨(some 44), (some (43, false)), .call (.c (.fn (.func 8) [] [])) []⟩,
  ⟨(some 45), (some (43, false)), .un .not (.t 44)⟩,
  ⟨(some 46), none, .pick (.t 43) (.c (.bool true)) (.t 45)⟩]
abbrev x4r6 : List XOper := [
  ⟨(some 6), none, .mv (.c (.bool false))⟩]
abbrev x4r7 : List XOper := [
  ⟨(some 47), none, .load true 3 (.t 3)⟩,
  ⟨(some 48), none, .call (.c (.fn (.func 11) [] [])) [(.t 47)]⟩,
  ⟨(some 49), none, .un .not (.t 48)⟩]
abbrev x4r8 : List XOper := [
  ⟨(some 50), none, .mv (.t 9)⟩,
  ⟨(some 51), none, .bin .eql (.t 50) (.c (.int .i64 1))⟩,
  ⟨(some 52), none, .mv (.t 51)⟩,
  ⟨(some 53), (some (52, true)), .mv (.t 12)⟩,
  ⟨(some 54), (some (52, true)), .bin .eql (.t 53) (.c (.int .i64 1))⟩,
  ⟨(some 55), none, .pick (.t 52) (.t 54) (.c (.bool false))⟩,
  ⟨(some 56), none, .mv (.t 55)⟩,
  ⟨(some 57), (some (56, true)), .mv (.t 8)⟩,
  ⟨(some 58), (some (56, true)), .bin .eql (.t 57) (.c (.int .i64 0))⟩,
  ⟨(some 59), none, .pick (.t 56) (.t 58) (.c (.bool false))⟩,
  ⟨(some 60), none, .mv (.t 59)⟩,
  ⟨(some 61), (some (60, true)), .mv (.t 11)⟩,
  ⟨(some 62), (some (60, true)), .lenV (.t 61)⟩,
  ⟨(some 63), (some (60, true)), .bin .eql (.t 62) (.c (.int .i64 0))⟩,
  ⟨(some 64), none, .pick (.t 60) (.t 63) (.c (.bool false))⟩,
  ⟨(some 65), none, .mv (.t 64)⟩,
  ⟨(some 66), (some (65, true)), .load true 3 (.t 7)⟩,
  ⟨(some 67), (some (65, true)), .load true 3 (.t 13)⟩,
  ⟨(some 68), (some (65, true)), .eqA false [0, 0, 0] (.t 66) (.t 67)⟩,
  ⟨(some 69), none, .pick (.t 65) (.t 68) (.c (.bool false))⟩,
  ⟨(some 70), none, .mv (.t 69)⟩,
  ⟨(some 71), (some (70, true)), .load true 3 (.t 10)⟩,
  ⟨(some 72), (some (70, true)), .load true 3 (.t 13)⟩,
  ⟨(some 73), (some (70, true)), .eqA false [0, 0, 0] (.t 71) (.t 72)⟩,
  ⟨(some 74), none, .pick (.t 70) (.t 73) (.c (.bool false))⟩,
  ⟨(some 6), none, .mv (.t 74)⟩]
abbrev x4r12 : List XOper := [
  ⟨(some 94), none, .mv (.t 1)⟩,
  ⟨(some 95), none, .bin .lss (.t 94) (.c (.int .i64 (-1000000)))⟩,
  ⟨(some 96), none, .mv (.t 95)⟩,
  ⟨(some 97), (some (96, false)), .mv (.t 1)⟩,
  ⟨(some 98), (some (96, false)), .bin .gtr (.t 97) (.c (.int .i64 1000000))⟩,
  ⟨(some 99), none, .pick (.t 96) (.c (.bool true)) (.t 98)⟩,
  ⟨(some 93), none, .mv (.t 99)⟩]
abbrev x4r13 : List XOper := [
  ⟨(some 100), none, .mv (.t 9)⟩,
  ⟨(some 101), none, .bin .neq (.t 100) (.c (.int .i64 3))⟩,
  ⟨(some 102), none, .mv (.t 101)⟩,
  ⟨(some 103), (some (102, false)), .mv (.t 8)⟩,
  ⟨(some 104), (some (102, false)), .bin .neq (.t 103) (.c (.int .i64 0))⟩,
  ⟨(some 105), none, .pick (.t 102) (.c (.bool true)) (.t 104)⟩,
  ⟨(some 106), none, .mv (.t 105)⟩,
  ⟨(some 107), (some (106, false)), .load true 3 (.t 7)⟩,
  ⟨(some 108), (some (106, false)), .load true 3 (.t 13)⟩,
  ⟨(some 109), (some (106, false)), .eqA true [0, 0, 0] (.t 107) (.t 108)⟩,
  ⟨(some 110), none, .pick (.t 106) (.c (.bool true)) (.t 109)⟩]
abbrev x4r14 : List XOper := [
  ⟨(some 6), none, .mv (.c (.bool false))⟩]
abbrev x4r15 : List XOper := [
  ⟨(some 112), none, .fa 0 (.t 3)⟩,
  ⟨(some 113), none, .load false 1 (.t 112)⟩,
  ⟨(some 114), none, .bin .eql (.t 113) (.c (.int .i64 1000000000))⟩,
  ⟨(some 111), none, .mv (.t 114)⟩]
abbrev x4r16 : List XOper := [
  ⟨(some 115), none, .mv (.t 9)⟩,
  ⟨(some 116), none, .bin .neq (.t 115) (.c (.int .i64 11))⟩,
  ⟨(some 117), none, .mv (.t 116)⟩,
  ⟨(some 118), (some (117, false)), .mv (.t 8)⟩,
  ⟨(some 119), (some (117, false)), .bin .neq (.t 118) (.c (.int .i64 0))⟩,
  ⟨(some 120), none, .pick (.t 117) (.c (.bool true)) (.t 119)⟩,
  ⟨(some 121), none, .mv (.t 120)⟩,
  ⟨(some 122), (some (121, false)), .load true 3 (.t 7)⟩,
  ⟨(some 123), (some (121, false)), .load true 3 (.t 13)⟩,
  ⟨(some 124), (some (121, false)), .eqA true [0, 0, 0] (.t 122) (.t 123)⟩,
  ⟨(some 125), none, .pick (.t 121) (.c (.bool true)) (.t 124)⟩]
abbrev x4r17 : List XOper := [
  ⟨(some 6), none, .mv (.c (.bool false))⟩]
abbrev x4r9 : List XOper := [
  ⟨(some 76), none, .load true 3 (.t 3)⟩,
  ⟨(some 77), none, .mv (.t 1)⟩,
  ⟨(some 78), none, .call (.c (.fn (.func 12) [] [])) [(.t 76), (.t 77)]⟩,
  ⟨(some 75), none, .mv (.t 78)⟩,
  ⟨(some 79), none, .ext (.t 75) 0⟩,
  ⟨(some 80), none, .ext (.t 75) 1⟩,
  ⟨(some 14), none, .alloc [(.int .i64 0), (.int .i64 0), (.int .i64 0)]⟩,
  ⟨none, none, .store 3 (.t 14) (.t 79)⟩,
  ⟨(some 15), none, .mv (.t 80)⟩]
abbrev x4r10 : List XOper := [
  ⟨(some 81), none, .mv (.t 9)⟩,
  ⟨(some 82), none, .bin .neq (.t 81) (.c (.int .i64 0))⟩,
  ⟨(some 83), none, .mv (.t 82)⟩,
  ⟨(some 84), (some (83, false)), .load true 3 (.t 7)⟩,
  ⟨(some 85), (some (83, false)), .load true 3 (.t 14)⟩,
  ⟨(some 86), (some (83, false)), .eqA true [0, 0, 0] (.t 84) (.t 85)⟩,
  ⟨(some 87), none, .pick (.t 83) (.c (.bool true)) (.t 86)⟩,
  ⟨(some 88), none, .mv (.t 87)⟩,
  ⟨(some 89), (some (88, false)), .mv (.t 8)⟩,
  ⟨(some 90), (some (88, false)), .mv (.t 15)⟩,
  ⟨(some 91), (some (88, false)), .bin .neq (.t 89) (.t 90)⟩,
  ⟨(some 92), none, .pick (.t 88) (.c (.bool true)) (.t 91)⟩]
abbrev x4r11 : List XOper := [
  ⟨(some 6), none, .mv (.c (.bool false))⟩]
abbrev x4r18 : List XOper := [
  ⟨(some 127), none, .mv (.t 2)⟩,
  ⟨(some 128), none, .call (.c (.fn (.func 13) [] [])) [(.t 127)]⟩,
  ⟨(some 129), none, .un .not (.t 128)⟩,
  ⟨(some 126), none, .mv (.t 129)⟩]
abbrev x4r19 : List XOper := [
  ⟨(some 130), none, .mv (.t 12)⟩,
  ⟨(some 131), none, .bin .eql (.t 130) (.c (.int .i64 3))⟩,
  ⟨(some 132), none, .mv (.t 131)⟩,
  ⟨(some 133), (some (132, true)), .mv (.t 11)⟩,
  ⟨(some 134), (some (132, true)), .lenV (.t 133)⟩,
  ⟨(some 135), (some (132, true)), .bin .eql (.t 134) (.c (.int .i64 0))⟩,
  ⟨(some 136), none, .pick (.t 132) (.t 135) (.c (.bool false))⟩,
  ⟨(some 137), none, .mv (.t 136)⟩,
  ⟨(some 138), (some (137, true)), .load true 3 (.t 10)⟩,
  ⟨(some 139), (some (137, true)), .load true 3 (.t 13)⟩,
  ⟨(some 140), (some (137, true)), .eqA false [0, 0, 0] (.t 138) (.t 139)⟩,
  ⟨(some 141), none, .pick (.t 137) (.t 140) (.c (.bool false))⟩,
  ⟨(some 6), none, .mv (.t 141)⟩]
abbrev x4r20 : List XOper := [
  ⟨(some 143), none, .fa 0 (.t 3)⟩,
  ⟨(some 144), none, .load false 1 (.t 143)⟩,
  ⟨(some 145), none, .mv (.t 2)⟩,
  ⟨(some 146), none, .lenV (.t 145)⟩,
  ⟨(some 147), none, .bin .add (.t 144) (.t 146)⟩,
  ⟨(some 148), none, .bin .gtr (.t 147) (.c (.int .i64 1000000000))⟩,
  ⟨(some 142), none, .mv (.t 148)⟩]
abbrev x4r21 : List XOper := [
  ⟨(some 149), none, .mv (.t 12)⟩,
  ⟨(some 150), none, .bin .eql (.t 149) (.c (.int .i64 11))⟩,
  ⟨(some 151), none, .mv (.t 150)⟩,
  ⟨(some 152), (some (151, true)), .mv (.t 11)⟩,
  ⟨(some 153), (some (151, true)), .lenV (.t 152)⟩,
  ⟨(some 154), (some (151, true)), .bin .eql (.t 153) (.c (.int .i64 0))⟩,
  ⟨(some 155), none, .pick (.t 151) (.t 154) (.c (.bool false))⟩,
  ⟨(some 156), none, .mv (.t 155)⟩,
  ⟨(some 157), (some (156, true)), .load true 3 (.t 10)⟩,
  ⟨(some 158), (some (156, true)), .load true 3 (.t 13)⟩,
  ⟨(some 159), (some (156, true)), .eqA false [0, 0, 0] (.t 157) (.t 158)⟩,
  ⟨(some 160), none, .pick (.t 156) (.t 159) (.c (.bool false))⟩,
  ⟨(some 6), none, .mv (.t 160)⟩]
abbrev x4r22 : List XOper := [
  ⟨(some 162), none, .load true 3 (.t 3)⟩,
  ⟨(some 163), none, .mv (.t 2)⟩,
  ⟨(some 164), none, .call (.c (.fn (.func 14) [] [])) [(.t 162), (.t 163)]⟩,
  ⟨(some 161), none, .mv (.t 164)⟩,
  ⟨(some 165), none, .ext (.t 161) 0⟩,
  ⟨(some 166), none, .ext (.t 161) 1⟩,
  ⟨(some 16), none, .alloc [(.int .i64 0), (.int .i64 0), (.int .i64 0)]⟩,
  ⟨none, none, .store 3 (.t 16) (.t 165)⟩,
  ⟨(some 17), none, .mv (.t 166)⟩]
abbrev x4r23 : List XOper := [
  ⟨(some 167), none, .mv (.t 12)⟩,
  ⟨(some 168), none, .bin .eql (.t 167) (.c (.int .i64 0))⟩,
  ⟨(some 169), none, .mv (.t 168)⟩,
  ⟨(some 170), (some (169, true)), .load true 3 (.t 10)⟩,
  ⟨(some 171), (some (169, true)), .load true 3 (.t 16)⟩,
  ⟨(some 172), (some (169, true)), .eqA false [0, 0, 0] (.t 170) (.t 171)⟩,
  ⟨(some 173), none, .pick (.t 169) (.t 172) (.c (.bool false))⟩,
  ⟨(some 174), none, .mv (.t 173)⟩,
  ⟨(some 175), (some (174, true)), .mv (.t 11)⟩,
  ⟨(some 176), (some (174, true)), .mv (.t 17)⟩,
  ⟨(some 177), (some (174, true)), .call (.c (.fn (.func 15) [] [])) [(.t 175), (.t 176)]⟩,
  ⟨(some 178), none, .pick (.t 174) (.t 177) (.c (.bool false))⟩,
  ⟨(some 6), none, .mv (.t 178)⟩]
/-- datum/datumlaw12.MoveTells -/
abbrev x4b : XCode :=
  (.seq (.reg 0 x4r0 none)
  (.seq (.reg 1 x4r1 none)
  (.seq (.reg 2 x4r2 none)
  (.seq (.reg 3 x4r3 none)
  (.seq (.reg 4 x4r4 none)
  (.seq (.seq (.reg 5 x4r5 (some ⟨[(1, 2)]⟩))
  (.cond (.t 46)
    (.seq (.reg 6 x4r6 none)
    .ret)
    .skip))
  (.seq (.seq (.reg 7 x4r7 none)
  (.cond (.t 49)
    (.seq (.reg 8 x4r8 none)
    .ret)
    .skip))
  (.seq (.block 0
    (.seq (.reg 12 x4r12 none)
    (.cond (.t 93)
      (.seq (.reg 13 x4r13 none)
      (.cond (.t 110)
        (.seq (.reg 14 x4r14 none)
        .ret)
        .skip))
      (.seq (.reg 15 x4r15 none)
      (.cond (.t 111)
        (.seq (.reg 16 x4r16 none)
        (.cond (.t 125)
          (.seq (.reg 17 x4r17 none)
          .ret)
          .skip))
        (.seq (.reg 9 x4r9 none)
        (.seq (.reg 10 x4r10 none)
        (.cond (.t 92)
          (.seq (.reg 11 x4r11 none)
          .ret)
          .skip))))))))
  (.seq (.block 1
    (.seq (.reg 18 x4r18 none)
    (.cond (.t 126)
      (.seq (.reg 19 x4r19 none)
      .ret)
      (.seq (.reg 20 x4r20 none)
      (.cond (.t 142)
        (.seq (.reg 21 x4r21 none)
        .ret)
        .skip)))))
  (.seq (.reg 22 x4r22 none)
  (.seq (.reg 23 x4r23 none)
  .ret)))))))))))
def x4 : XFunc := ⟨179, 3, [.tmp 6], x4b⟩
theorem x4_ok : chkF Try.prog Try.f4 x4 = true := by kernel_rfl
theorem x4_eq : x4.body = x4b ∧ x4.res = [.tmp 6] ∧ x4.np = 3 := ⟨rfl, rfl, rfl⟩

abbrev x5r0 : List XOper := [
  ⟨(some 3), none, .box (.t 0)⟩,
  ⟨(some 6), none, .mv (.c (.bool false))⟩]
abbrev x5r1 : List XOper := [
  ⟨(some 23), none, .mv (.t 1)⟩,
  ⟨(some 24), none, .call (.c (.fn (.func 6) [] [])) [(.t 23)]⟩,
  ⟨(some 1), none, .mv (.t 24)⟩]
abbrev x5r2 : List XOper := [
  ⟨(some 25), none, .mv (.t 2)⟩,
  ⟨(some 26), none, .mv (.t 1)⟩,
  ⟨(some 27), none, .lenV (.t 26)⟩,
  ⟨(some 28), none, .bin .add (.t 27) (.c (.int .i64 1))⟩,
  ⟨(some 29), none, .bin .rem (.t 25) (.t 28)⟩,
  ⟨(some 30), none, .mv (.t 1)⟩,
  ⟨(some 31), none, .lenV (.t 30)⟩,
  ⟨(some 32), none, .bin .add (.t 29) (.t 31)⟩,
  ⟨(some 33), none, .bin .add (.t 32) (.c (.int .i64 1))⟩,
  ⟨(some 34), none, .mv (.t 1)⟩,
  ⟨(some 35), none, .lenV (.t 34)⟩,
  ⟨(some 36), none, .bin .add (.t 35) (.c (.int .i64 1))⟩,
  ⟨(some 37), none, .bin .rem (.t 33) (.t 36)⟩,
  ⟨(some 2), none, .mv (.t 37)⟩]
abbrev x5r3 : List XOper := [
  ⟨(some 39), none, .load true 3 (.t 3)⟩,
  ⟨(some 40), none, .mv (.t 1)⟩,
  ⟨(some 41), none, .call (.c (.fn (.func 7) [] [])) [(.t 39), (.t 40)]⟩,
  ⟨(some 38), none, .mv (.t 41)⟩,
  ⟨(some 42), none, .ext (.t 38) 0⟩,
  ⟨(some 43), none, .ext (.t 38) 1⟩,
  ⟨(some 44), none, .ext (.t 38) 2⟩,
  ⟨(some 7), none, .alloc [(.int .i64 0), (.int .i64 0), (.int .i64 0)]⟩,
  ⟨none, none, .store 3 (.t 7) (.t 42)⟩,
  ⟨(some 8), none, .mv (.t 43)⟩,
  ⟨(some 9), none, .mv (.t 44)⟩]
abbrev x5r4 : List XOper := [
  ⟨(some 45), none, .mv (.t 9)⟩,
  ⟨(some 46), none, .bin .neq (.t 45) (.c (.int .i64 0))⟩]
abbrev x5r5 : List XOper := [
  ⟨(some 47), none, .call (.c (.fn (.func 8) [] [])) []⟩,
  ⟨(some 48), none, .mv (.t 47)⟩,
  ⟨(some 49), (some (48, true)), .mv (.t 8)⟩,
  ⟨(some 50), (some (48, true)), .lenV (.t 49)⟩,
  ⟨(some 51), (some (48, true)), .bin .eql (.t 50) (.c (.int .i64 0))⟩,
  ⟨(some 52), none, .pick (.t 48) (.t 51) (.c (.bool false))⟩,
  ⟨(some 53), none, .mv (.t 52)⟩,
  ⟨(some 54), (some (53, true)), .load true 3 (.t 7)⟩,
  ⟨(some 55), (some (53, true)), .build [(.int .i64 0), (.int .i64 0), (.int .i64 0)] []⟩,
  ⟨(some 56), (some (53, true)), .eqA false [0, 0, 0] (.t 54) (.t 55)⟩,
  ⟨(some 57), none, .pick (.t 53) (.t 56) (.c (.bool false))⟩,
  ⟨(some 6), none, .mv (.t 57)⟩]
abbrev x5r6 : List XOper := [
  ⟨(some 59), none, .load true 3 (.t 3)⟩,
  ⟨(some 60), none, .mv (.t 1)⟩,
  ⟨(some 61), none, .mv (.t 2)⟩,
  ⟨(some 62), none, .slV 1 (.t 60) none (some (.t 61)) none⟩,
  ⟨(some 63), none, .call (.c (.fn (.func 7) [] [])) [(.t 59), (.t 62)]⟩,
  ⟨(some 58), none, .mv (.t 63)⟩,
  ⟨(some 64), none, .ext (.t 58) 0⟩,
  ⟨(some 65), none, .ext (.t 58) 1⟩,
  ⟨(some 66), none, .ext (.t 58) 2⟩,
  ⟨(some 10), none, .alloc [(.int .i64 0), (.int .i64 0), (.int .i64 0)]⟩,
  ⟨none, none, .store 3 (.t 10) (.t 64)⟩,
  ⟨(some 11), none, .mv (.t 65)⟩,
  ⟨(some 12), none, .mv (.t 66)⟩]
abbrev x5r7 : List XOper := [
  ⟨(some 68), none, .load true 3 (.t 10)⟩,
  ⟨(some 69), none, .mv (.t 1)⟩,
  ⟨(some 70), none, .mv (.t 2)⟩,
  ⟨(some 71), none, .slV 1 (.t 69) (some (.t 70)) none none⟩,
  ⟨(some 72), none, .call (.c (.fn (.func 7) [] [])) [(.t 68), (.t 71)]⟩,
  ⟨(some 67), none, .mv (.t 72)⟩,
  ⟨(some 73), none, .ext (.t 67) 0⟩,
  ⟨(some 74), none, .ext (.t 67) 1⟩,
  ⟨(some 75), none, .ext (.t 67) 2⟩,
  ⟨(some 13), none, .alloc [(.int .i64 0), (.int .i64 0), (.int .i64 0)]⟩,
  ⟨none, none, .store 3 (.t 13) (.t 73)⟩,
  ⟨(some 14), none, .mv (.t 74)⟩,
  ⟨(some 15), none, .mv (.t 75)⟩]
abbrev x5r8 : List XOper := [
  ⟨(some 76), none, .mv (.t 12)⟩,
  ⟨(some 77), none, .bin .neq (.t 76) (.c (.int .i64 0))⟩,
  ⟨(some 78), none, .mv (.t 77)⟩,
  ⟨(some 79), (some (78, false)), .mv (.t 15)⟩,
  ⟨(some 80), (some (78, false)), .bin .neq (.t 79) (.c (.int .i64 0))⟩,
  ⟨(some 81), none, .pick (.t 78) (.c (.bool true)) (.t 80)⟩,
  ⟨(some 82), none, .mv (.t 81)⟩,
  ⟨(some 83), (some (82, false)), .load true 3 (.t 13)⟩,
  ⟨(some 84), (some (82, false)), .load true 3 (.t 7)⟩,
  ⟨(some 85), (some (82, false)), .eqA true [0, 0, 0] (.t 83) (.t 84)⟩,
  ⟨(some 86), none, .pick (.t 82) (.c (.bool true)) (.t 85)⟩,
  ⟨(some 87), none, .mv (.t 86)⟩,
  ⟨(some 88), (some (87, false)), .mkslice 1 (.int .i64 0) 0 []⟩,
  ⟨(some 89), (some (87, false)), .mv (.t 11)⟩,
  ⟨(some 90), (some (87, false)), .app 1 8 (.t 88) (.t 89)⟩,
  ⟨(some 91), (some (87, false)), .mv (.t 14)⟩,
  ⟨(some 92), (some (87, false)), .app 1 8 (.t 90) (.t 91)⟩,
  ⟨(some 93), (some (87, false)), .mv (.t 8)⟩,
  ⟨(some 94), (some (87, false)), .call (.c (.fn (.func 15) [] [])) [(.t 92), (.t 93)]⟩,
  ⟨(some 95), (some (87, false)), .un .not (.t 94)⟩,
  ⟨(some 96), none, .pick (.t 87) (.c (.bool true)) (.t 95)⟩,
  ⟨(some 97), none, .mv (.t 96)⟩,
  ⟨(some 98), (some (97, false)), .call (.c (.fn (.func 8) [] [])) []⟩,
  ⟨(some 99), (some (97, false)), .un .not (.t 98)⟩,
  ⟨(some 100), none, .pick (.t 97) (.c (.bool true)) (.t 99)⟩]
abbrev x5r9 : List XOper := [
  ⟨(some 6), none, .mv (.c (.bool false))⟩]
abbrev x5r10 : List XOper := [
  ⟨(some 101), none, .load true 3 (.t 3)⟩,
  ⟨(some 17), none, .alloc [(.int .i64 0), (.int .i64 0), (.int .i64 0)]⟩,
  ⟨(some 16), none, .mv (.c (.int .i64 0))⟩,
  ⟨none, none, .store 3 (.t 17) (.t 101)⟩]
abbrev x5r11 : List XOper := [
  ⟨(some 102), none, .mv (.t 1)⟩,
  ⟨(some 103), none, .lenV (.t 102)⟩,
  ⟨(some 104), none, .mv (.c (.int .i64 0))⟩]
abbrev x5r12 : List XOper := [
  ⟨(some 105), none, .bin .lss (.t 104) (.t 103)⟩]
abbrev x5r13 : List XOper := [
  ⟨(some 106), none, .iaS 1 (.t 102) (.t 104)⟩,
  ⟨(some 107), none, .load false 1 (.t 106)⟩,
  ⟨(some 19), none, .mv (.t 107)⟩]
abbrev x5r14 : List XOper := [
  ⟨(some 109), none, .load true 3 (.t 17)⟩,
  ⟨(some 110), none, .mv (.t 19)⟩,
  ⟨(some 111), none, .call (.c (.fn (.func 9) [] [])) [(.t 109), (.t 110)]⟩,
  ⟨(some 108), none, .mv (.t 111)⟩,
  ⟨(some 112), none, .ext (.t 108) 0⟩,
  ⟨(some 113), none, .ext (.t 108) 1⟩,
  ⟨(some 114), none, .ext (.t 108) 2⟩,
  ⟨(some 20), none, .alloc [(.int .i64 0), (.int .i64 0), (.int .i64 0)]⟩,
  ⟨none, none, .store 3 (.t 20) (.t 112)⟩,
  ⟨(some 21), none, .mv (.t 113)⟩,
  ⟨(some 22), none, .mv (.t 114)⟩]
abbrev x5r15 : List XOper := [
  ⟨(some 115), none, .mv (.t 22)⟩,
  ⟨(some 116), none, .bin .neq (.t 115) (.c (.int .i64 0))⟩]
abbrev x5r16 : List XOper := [
  ⟨(some 6), none, .mv (.c (.bool false))⟩]
abbrev x5r17 : List XOper := [
  ⟨(some 117), none, .load true 3 (.t 20)⟩,
  ⟨(some 118), none, .mv (.t 16)⟩,
  ⟨(some 119), none, .mv (.t 21)⟩,
  ⟨(some 120), none, .bin .add (.t 118) (.t 119)⟩,
  ⟨none, none, .store 3 (.t 17) (.t 117)⟩,
  ⟨(some 16), none, .mv (.t 120)⟩]
abbrev x5r18 : List XOper := [
  ⟨(some 121), none, .bin .add (.t 104) (.c (.int .i64 1))⟩,
  ⟨(some 104), none, .mv (.t 121)⟩]
abbrev x5l12 : XCode :=
  (.seq (.reg 12 x5r12 none)
  (.seq (.cond (.t 105)
    .skip
    (.exit 0))
  (.seq (.block 1
    (.seq (.reg 13 x5r13 none)
    (.seq (.reg 14 x5r14 none)
    (.seq (.seq (.reg 15 x5r15 none)
    (.cond (.t 116)
      (.seq (.reg 16 x5r16 none)
      .ret)
      .skip))
    (.reg 17 x5r17 none)))))
  (.reg 18 x5r18 none))))
abbrev x5r19 : List XOper := [
  ⟨(some 122), none, .load true 3 (.t 17)⟩,
  ⟨(some 123), none, .load true 3 (.t 7)⟩,
  ⟨(some 124), none, .eqA false [0, 0, 0] (.t 122) (.t 123)⟩,
  ⟨(some 125), none, .mv (.t 124)⟩,
  ⟨(some 126), (some (125, true)), .fa 2 (.t 7)⟩,
  ⟨(some 127), (some (125, true)), .load false 1 (.t 126)⟩,
  ⟨(some 128), (some (125, true)), .fa 2 (.t 3)⟩,
  ⟨(some 129), (some (125, true)), .load false 1 (.t 128)⟩,
  ⟨(some 130), (some (125, true)), .mv (.t 16)⟩,
  ⟨(some 131), (some (125, true)), .bin .add (.t 129) (.t 130)⟩,
  ⟨(some 132), (some (125, true)), .bin .eql (.t 127) (.t 131)⟩,
  ⟨(some 133), none, .pick (.t 125) (.t 132) (.c (.bool false))⟩,
  ⟨(some 6), none, .mv (.t 133)⟩]
/-- datum/datumlaw12.MoveParts -/
abbrev x5b : XCode :=
  (.seq (.reg 0 x5r0 none)
  (.seq (.reg 1 x5r1 none)
  (.seq (.reg 2 x5r2 none)
  (.seq (.reg 3 x5r3 none)
  (.seq (.seq (.reg 4 x5r4 none)
  (.cond (.t 46)
    (.seq (.reg 5 x5r5 none)
    .ret)
    .skip))
  (.seq (.reg 6 x5r6 (some ⟨[(0, 9), (4, 9)]⟩))
  (.seq (.reg 7 x5r7 (some ⟨[(0, 9), (4, 9)]⟩))
  (.seq (.seq (.reg 8 x5r8 none)
  (.cond (.t 100)
    (.seq (.reg 9 x5r9 none)
    .ret)
    .skip))
  (.seq (.reg 10 x5r10 (some ⟨[(0, 1)]⟩))
  (.seq (.seq (.reg 11 x5r11 none)
  (.block 0
    (.loop x5l12)))
  (.seq (.reg 19 x5r19 none)
  .ret)))))))))))
def x5 : XFunc := ⟨134, 3, [.tmp 6], x5b⟩
theorem x5_ok : chkF Try.prog Try.f5 x5 = true := by kernel_rfl
theorem x5_eq : x5.body = x5b ∧ x5.res = [.tmp 6] ∧ x5.np = 3 := ⟨rfl, rfl, rfl⟩

abbrev x6r0 : List XOper := [
  ⟨(some 2), none, .mv (.c .nils)⟩]
abbrev x6r1 : List XOper := [
  ⟨(some 3), none, .mv (.c .nils)⟩]
abbrev x6r2 : List XOper := [
  ⟨(some 6), none, .mv (.t 0)⟩,
  ⟨(some 7), none, .mv (.t 0)⟩,
  ⟨(some 8), none, .lenV (.t 7)⟩,
  ⟨(some 9), none, .mnx false (.t 8) [(.c (.int .i64 200))]⟩,
  ⟨(some 10), none, .slV 1 (.t 6) none (some (.t 9)) none⟩,
  ⟨(some 11), none, .lenV (.t 10)⟩,
  ⟨(some 12), none, .mv (.c (.int .i64 0))⟩]
abbrev x6r3 : List XOper := [
  ⟨(some 13), none, .bin .lss (.t 12) (.t 11)⟩]
abbrev x6r4 : List XOper := [
  ⟨(some 14), none, .iaS 1 (.t 10) (.t 12)⟩,
  ⟨(some 15), none, .load false 1 (.t 14)⟩,
  ⟨(some 5), none, .mv (.t 15)⟩]
abbrev x6r5 : List XOper := [
  ⟨(some 16), none, .mv (.t 3)⟩,
  ⟨(some 17), none, .mv (.t 5)⟩,
  ⟨(some 18), none, .mnx true (.t 17) [(.c (.int .i64 (-1000000)))]⟩,
  ⟨(some 19), none, .mnx false (.t 18) [(.c (.int .i64 1000000))]⟩,
  ⟨(some 20), none, .mkslice 1 (.int .i64 0) 1 [(0, (.t 19))]⟩,
  ⟨(some 21), none, .app 1 8 (.t 16) (.t 20)⟩,
  ⟨(some 3), none, .mv (.t 21)⟩]
abbrev x6r6 : List XOper := [
  ⟨(some 22), none, .bin .add (.t 12) (.c (.int .i64 1))⟩,
  ⟨(some 12), none, .mv (.t 22)⟩]
abbrev x6l3 : XCode :=
  (.seq (.reg 3 x6r3 none)
  (.seq (.cond (.t 13)
    .skip
    (.exit 0))
  (.seq (.block 1
    (.seq (.reg 4 x6r4 none)
    (.reg 5 x6r5 none)))
  (.reg 6 x6r6 none))))
abbrev x6r7 : List XOper := [
  ⟨(some 23), none, .mv (.t 3)⟩,
  ⟨(some 2), none, .mv (.t 23)⟩]
/-- datum/datumlaw12.some -/
abbrev x6b : XCode :=
  (.seq (.reg 0 x6r0 none)
  (.seq (.reg 1 x6r1 none)
  (.seq (.seq (.reg 2 x6r2 none)
  (.block 0
    (.loop x6l3)))
  (.seq (.reg 7 x6r7 none)
  .ret))))
def x6 : XFunc := ⟨24, 1, [.tmp 2], x6b⟩
theorem x6_ok : chkF Try.prog Try.f6 x6 = true := by kernel_rfl
theorem x6_eq : x6.body = x6b ∧ x6.res = [.tmp 2] ∧ x6.np = 1 := ⟨rfl, rfl, rfl⟩

abbrev x8r0 : List XOper := [
  ⟨(some 0), none, .mv (.c (.bool false))⟩]
abbrev x8r1 : List XOper := [
  ⟨(some 5), none, .build [(.int .i64 0), (.int .i64 0), (.int .i64 0)] []⟩,
  ⟨(some 6), none, .mkslice 1 (.int .i64 0) 3 [(0, (.c (.int .i64 1))), (1, (.c (.int .i64 4))), (2, (.c (.int .i64 (-2))))]⟩,
  ⟨(some 7), none, .call (.c (.fn (.func 7) [] [])) [(.t 5), (.t 6)]⟩,
  ⟨(some 4), none, .mv (.t 7)⟩,
  ⟨(some 8), none, .ext (.t 4) 0⟩,
  ⟨(some 9), none, .ext (.t 4) 1⟩,
  ⟨(some 10), none, .ext (.t 4) 2⟩,
  ⟨(some 1), none, .alloc [(.int .i64 0), (.int .i64 0), (.int .i64 0)]⟩,
  ⟨none, none, .store 3 (.t 1) (.t 8)⟩,
  ⟨(some 2), none, .mv (.t 9)⟩,
  ⟨(some 3), none, .mv (.t 10)⟩]
abbrev x8r2 : List XOper := [
  ⟨(some 11), none, .mv (.t 3)⟩,
  ⟨(some 12), none, .bin .eql (.t 11) (.c (.int .i64 0))⟩,
  ⟨(some 13), none, .mv (.t 12)⟩,
  ⟨(some 14), (some (13, true)), .fa 2 (.t 1)⟩,
  ⟨(some 15), (some (13, true)), .load false 1 (.t 14)⟩,
  ⟨(some 16), (some (13, true)), .bin .eql (.t 15) (.c (.int .i64 9))⟩,
  ⟨(some 17), none, .pick (.t 13) (.t 16) (.c (.bool false))⟩,
  ⟨(some 18), none, .mv (.t 17)⟩,
  ⟨(some 19), (some (18, true)), .fa 0 (.t 1)⟩,
  ⟨(some 20), (some (18, true)), .load false 1 (.t 19)⟩,
  ⟨(some 21), (some (18, true)), .bin .eql (.t 20) (.c (.int .i64 3))⟩,
  ⟨(some 22), none, .pick (.t 18) (.t 21) (.c (.bool false))⟩,
  ⟨(some 23), none, .mv (.t 22)⟩,
  ⟨(some 24), (some (23, true)), .mv (.t 2)⟩,
  ⟨(some 25), (some (23, true)), .lenV (.t 24)⟩,
  ⟨(some 26), (some (23, true)), .bin .eql (.t 25) (.c (.int .i64 2))⟩,
  ⟨(some 27), none, .pick (.t 23) (.t 26) (.c (.bool false))⟩,
  ⟨(some 28), none, .mv (.t 27)⟩,
  ⟨(some 29), (some (28, true)), .mv (.t 2)⟩,
  ⟨(some 30), (some (28, true)), .iaS 1 (.t 29) (.c (.int .i64 1))⟩,
  ⟨(some 31), (some (28, true)), .load false 1 (.t 30)⟩,
  ⟨(some 32), (some (28, true)), .bin .eql (.t 31) (.c (.int .i64 6))⟩,
  ⟨(some 33), none, .pick (.t 28) (.t 32) (.c (.bool false))⟩,
  ⟨(some 0), none, .mv (.t 33)⟩]
/-- datum/datumlaw12.alive -/
abbrev x8b : XCode :=
  (.seq (.reg 0 x8r0 none)
  (.seq (.reg 1 x8r1 none)
  (.seq (.reg 2 x8r2 none)
  .ret)))
def x8 : XFunc := ⟨34, 0, [.tmp 0], x8b⟩
theorem x8_ok : chkF Try.prog Try.f8 x8 = true := by kernel_rfl
theorem x8_eq : x8.body = x8b ∧ x8.res = [.tmp 0] ∧ x8.np = 0 := ⟨rfl, rfl, rfl⟩

abbrev x9r0 : List XOper := [
  ⟨(some 2), none, .box (.t 0)⟩,
  ⟨(some 4), none, .alloc [(.int .i64 0), (.int .i64 0), (.int .i64 0)]⟩,
  ⟨(some 5), none, .mv (.c (.int .i64 0))⟩,
  ⟨(some 6), none, .mv (.c (.int .i64 0))⟩]
abbrev x9r1 : List XOper := [
  ⟨(some 11), none, .load true 3 (.t 2)⟩,
  ⟨(some 12), none, .mv (.t 1)⟩,
  ⟨(some 13), none, .mkslice 1 (.int .i64 0) 1 [(0, (.t 12))]⟩,
  ⟨(some 14), none, .call (.c (.fn (.func 7) [] [])) [(.t 11), (.t 13)]⟩,
  ⟨(some 10), none, .mv (.t 14)⟩,
  ⟨(some 15), none, .ext (.t 10) 0⟩,
  ⟨(some 16), none, .ext (.t 10) 1⟩,
  ⟨(some 17), none, .ext (.t 10) 2⟩,
  ⟨(some 7), none, .alloc [(.int .i64 0), (.int .i64 0), (.int .i64 0)]⟩,
  ⟨none, none, .store 3 (.t 7) (.t 15)⟩,
  ⟨(some 8), none, .mv (.t 16)⟩,
  ⟨(some 9), none, .mv (.t 17)⟩]
abbrev x9r2 : List XOper := [
  ⟨(some 18), none, .mv (.t 9)⟩,
  ⟨(some 19), none, .bin .neq (.t 18) (.c (.int .i64 0))⟩,
  ⟨(some 20), none, .mv (.t 19)⟩,
  ⟨(some 21), (some (20, false)), .mv (.t 8)⟩,
  ⟨(some 22), (some (20, false)), .lenV (.t 21)⟩,
  ⟨(some 23), (some (20, false)), .bin .eql (.t 22) (.c (.int .i64 0))⟩,
  ⟨(some 24), none, .pick (.t 20) (.c (.bool true)) (.t 23)⟩]
abbrev x9r3 : List XOper := [
  ⟨(some 25), none, .load true 3 (.t 7)⟩,
  ⟨(some 26), none, .mv (.t 9)⟩,
  ⟨none, none, .store 3 (.t 4) (.t 25)⟩,
  ⟨(some 5), none, .mv (.c (.int .i64 0))⟩,
  ⟨(some 6), none, .mv (.t 26)⟩]
abbrev x9r4 : List XOper := [
  ⟨(some 27), none, .load true 3 (.t 7)⟩,
  ⟨(some 28), none, .mv (.t 8)⟩,
  ⟨(some 29), none, .iaS 1 (.t 28) (.c (.int .i64 0))⟩,
  ⟨(some 30), none, .load false 1 (.t 29)⟩,
  ⟨none, none, .store 3 (.t 4) (.t 27)⟩,
  ⟨(some 5), none, .mv (.t 30)⟩,
  ⟨(some 6), none, .mv (.c (.int .i64 0))⟩]
/-- datum/move.Next -/
abbrev x9b : XCode :=
  (.seq (.reg 0 x9r0 none)
  (.seq (.reg 1 x9r1 none)
  (.seq (.seq (.reg 2 x9r2 none)
  (.cond (.t 24)
    (.seq (.reg 3 x9r3 none)
    .ret)
    .skip))
  (.seq (.reg 4 x9r4 (some ⟨[(3, 4)]⟩))
  .ret))))
def x9 : XFunc := ⟨31, 2, [.cell 4 true 3, .tmp 5, .tmp 6], x9b⟩
theorem x9_ok : chkF Try.prog Try.f9 x9 = true := by kernel_rfl
theorem x9_eq : x9.body = x9b ∧ x9.res = [.cell 4 true 3, .tmp 5, .tmp 6] ∧ x9.np = 2 := ⟨rfl, rfl, rfl⟩

abbrev x10r0 : List XOper := [
  ⟨(some 1), none, .box (.t 0)⟩,
  ⟨(some 2), none, .mv (.c (.bool false))⟩]
abbrev x10r1 : List XOper := [
  ⟨(some 3), none, .fa 0 (.t 1)⟩,
  ⟨(some 4), none, .load false 1 (.t 3)⟩,
  ⟨(some 5), none, .bin .eql (.t 4) (.c (.int .i64 0))⟩]
abbrev x10r2 : List XOper := [
  ⟨(some 6), none, .load true 3 (.t 1)⟩,
  ⟨(some 7), none, .build [(.int .i64 0), (.int .i64 0), (.int .i64 0)] []⟩,
  ⟨(some 8), none, .eqA false [0, 0, 0] (.t 6) (.t 7)⟩,
  ⟨(some 2), none, .mv (.t 8)⟩]
abbrev x10r3 : List XOper := [
  ⟨(some 9), none, .fa 0 (.t 1)⟩,
  ⟨(some 10), none, .load false 1 (.t 9)⟩,
  ⟨(some 11), none, .bin .gtr (.t 10) (.c (.int .i64 0))⟩,
  ⟨(some 12), none, .mv (.t 11)⟩,
  ⟨(some 13), (some (12, true)), .fa 0 (.t 1)⟩,
  ⟨(some 14), (some (12, true)), .load false 1 (.t 13)⟩,
  ⟨(some 15), (some (12, true)), .bin .leq (.t 14) (.c (.int .i64 1000000000))⟩,
  ⟨(some 16), none, .pick (.t 12) (.t 15) (.c (.bool false))⟩,
  ⟨(some 17), none, .mv (.t 16)⟩,
  ⟨(some 18), (some (17, true)), .fa 1 (.t 1)⟩,
  ⟨(some 19), (some (17, true)), .load false 1 (.t 18)⟩,
  ⟨(some 20), (some (17, true)), .call (.c (.fn (.func 18) [] [])) [(.t 19)]⟩,
  ⟨(some 21), none, .pick (.t 17) (.t 20) (.c (.bool false))⟩,
  ⟨(some 22), none, .mv (.t 21)⟩,
  ⟨(some 23), (some (22, true)), .fa 2 (.t 1)⟩,
  ⟨(some 24), (some (22, true)), .load false 1 (.t 23)⟩,
  ⟨(some 25), (some (22, true)), .bin .geq (.t 24) (.c (.int .i64 0))⟩,
  ⟨(some 26), none, .pick (.t 22) (.t 25) (.c (.bool false))⟩,
  ⟨(some 27), none, .mv (.t 26)⟩,
  ⟨(some 28), (some (27, true)), .fa 2 (.t 1)⟩,
  ⟨(some 29), (some (27, true)), .load false 1 (.t 28)⟩,
  ⟨(some 30), (some (27, true)), .fa 0 (.t 1)⟩,
  ⟨(some 31), (some (27, true)), .load false 1 (.t 30)⟩,
  ⟨(some 32), (some (27, true)), .bin .sub (.t 31) (.c (.int .i64 1))⟩,
  ⟨(some 33), (some (27, true)), .bin .mul (.c (.int .i64 2000000)) (.t 32)⟩,
  ⟨(some 34), (some (27, true)), .bin .leq (.t 29) (.t 33)⟩,
  ⟨(some 35), none, .pick (.t 27) (.t 34) (.c (.bool false))⟩,
  ⟨(some 2), none, .mv (.t 35)⟩]
/-- datum/move.Right -/
abbrev x10b : XCode :=
  (.seq (.reg 0 x10r0 none)
  (.seq (.seq (.reg 1 x10r1 none)
  (.cond (.t 5)
    (.seq (.reg 2 x10r2 none)
    .ret)
    .skip))
  (.seq (.reg 3 x10r3 none)
  .ret)))
def x10 : XFunc := ⟨36, 1, [.tmp 2], x10b⟩
theorem x10_ok : chkF Try.prog Try.f10 x10 = true := by kernel_rfl
theorem x10_eq : x10.body = x10b ∧ x10.res = [.tmp 2] ∧ x10.np = 1 := ⟨rfl, rfl, rfl⟩

abbrev x11r0 : List XOper := [
  ⟨(some 1), none, .box (.t 0)⟩,
  ⟨(some 2), none, .mv (.c (.bool false))⟩]
abbrev x11r1 : List XOper := [
  ⟨(some 3), none, .fa 0 (.t 1)⟩,
  ⟨(some 4), none, .load false 1 (.t 3)⟩,
  ⟨(some 5), none, .bin .eql (.t 4) (.c (.int .i64 0))⟩]
abbrev x11r2 : List XOper := [
  ⟨(some 6), none, .fa 1 (.t 1)⟩,
  ⟨(some 7), none, .load false 1 (.t 6)⟩,
  ⟨(some 8), none, .bin .eql (.t 7) (.c (.int .i64 0))⟩,
  ⟨(some 9), none, .mv (.t 8)⟩,
  ⟨(some 10), (some (9, true)), .fa 2 (.t 1)⟩,
  ⟨(some 11), (some (9, true)), .load false 1 (.t 10)⟩,
  ⟨(some 12), (some (9, true)), .bin .eql (.t 11) (.c (.int .i64 0))⟩,
  ⟨(some 13), none, .pick (.t 9) (.t 12) (.c (.bool false))⟩,
  ⟨(some 2), none, .mv (.t 13)⟩]
abbrev x11r3 : List XOper := [
  ⟨(some 14), none, .fa 0 (.t 1)⟩,
  ⟨(some 15), none, .load false 1 (.t 14)⟩,
  ⟨(some 16), none, .bin .gtr (.t 15) (.c (.int .i64 0))⟩,
  ⟨(some 17), none, .mv (.t 16)⟩,
  ⟨(some 18), (some (17, true)), .fa 0 (.t 1)⟩,
  ⟨(some 19), (some (17, true)), .load false 1 (.t 18)⟩,
  ⟨(some 20), (some (17, true)), .bin .leq (.t 19) (.c (.int .i64 1000000000))⟩,
  ⟨(some 21), none, .pick (.t 17) (.t 20) (.c (.bool false))⟩,
  ⟨(some 22), none, .mv (.t 21)⟩,
  ⟨(some 23), (some (22, true)), .fa 1 (.t 1)⟩,
  ⟨(some 24), (some (22, true)), .load false 1 (.t 23)⟩,
  ⟨(some 25), (some (22, true)), .bin .geq (.t 24) (.c (.int .i64 (-1000000)))⟩,
  ⟨(some 26), none, .pick (.t 22) (.t 25) (.c (.bool false))⟩,
  ⟨(some 27), none, .mv (.t 26)⟩,
  ⟨(some 28), (some (27, true)), .fa 1 (.t 1)⟩,
  ⟨(some 29), (some (27, true)), .load false 1 (.t 28)⟩,
  ⟨(some 30), (some (27, true)), .bin .leq (.t 29) (.c (.int .i64 1000000))⟩,
  ⟨(some 31), none, .pick (.t 27) (.t 30) (.c (.bool false))⟩,
  ⟨(some 32), none, .mv (.t 31)⟩,
  ⟨(some 33), (some (32, true)), .fa 2 (.t 1)⟩,
  ⟨(some 34), (some (32, true)), .load false 1 (.t 33)⟩,
  ⟨(some 35), (some (32, true)), .bin .geq (.t 34) (.c (.int .i64 0))⟩,
  ⟨(some 36), none, .pick (.t 32) (.t 35) (.c (.bool false))⟩,
  ⟨(some 37), none, .mv (.t 36)⟩,
  ⟨(some 38), (some (37, true)), .fa 2 (.t 1)⟩,
  ⟨(some 39), (some (37, true)), .load false 1 (.t 38)⟩,
  ⟨(some 40), (some (37, true)), .fa 0 (.t 1)⟩,
  ⟨(some 41), (some (37, true)), .load false 1 (.t 40)⟩,
  ⟨(some 42), (some (37, true)), .bin .sub (.t 41) (.c (.int .i64 1))⟩,
  ⟨(some 43), (some (37, true)), .bin .mul (.c (.int .i64 2000000)) (.t 42)⟩,
  ⟨(some 44), (some (37, true)), .bin .leq (.t 39) (.t 43)⟩,
  ⟨(some 45), none, .pick (.t 37) (.t 44) (.c (.bool false))⟩,
  ⟨(some 2), none, .mv (.t 45)⟩]
/-- datum/datumref12.Right -/
abbrev x11b : XCode :=
  (.seq (.reg 0 x11r0 none)
  (.seq (.seq (.reg 1 x11r1 none)
  (.cond (.t 5)
    (.seq (.reg 2 x11r2 none)
    .ret)
    .skip))
  (.seq (.reg 3 x11r3 none)
  .ret)))
def x11 : XFunc := ⟨46, 1, [.tmp 2], x11b⟩
theorem x11_ok : chkF Try.prog Try.f11 x11 = true := by kernel_rfl
theorem x11_eq : x11.body = x11b ∧ x11.res = [.tmp 2] ∧ x11.np = 1 := ⟨rfl, rfl, rfl⟩

abbrev x12r0 : List XOper := [
  ⟨(some 2), none, .box (.t 0)⟩,
  ⟨(some 4), none, .alloc [(.int .i64 0), (.int .i64 0), (.int .i64 0)]⟩,
  ⟨(some 5), none, .mv (.c (.int .i64 0))⟩]
abbrev x12r1 : List XOper := [
  ⟨(some 6), none, .mv (.c (.int .i64 0))⟩]
abbrev x12r2 : List XOper := [
  ⟨(some 7), none, .fa 0 (.t 2)⟩,
  ⟨(some 8), none, .load false 1 (.t 7)⟩,
  ⟨(some 9), none, .bin .gtr (.t 8) (.c (.int .i64 0))⟩]
abbrev x12r3 : List XOper := [
  ⟨(some 10), none, .fa 1 (.t 2)⟩,
  ⟨(some 11), none, .load false 1 (.t 10)⟩,
  ⟨(some 12), none, .mv (.t 1)⟩,
  ⟨(some 13), none, .call (.c (.fn (.func 20) [] [])) [(.t 11), (.t 12)]⟩,
  ⟨(some 6), none, .mv (.t 13)⟩]
abbrev x12r4 : List XOper := [
  ⟨(some 14), none, .fa 0 (.t 2)⟩,
  ⟨(some 15), none, .load false 1 (.t 14)⟩,
  ⟨(some 16), none, .bin .add (.t 15) (.c (.int .i64 1))⟩,
  ⟨(some 17), none, .mv (.t 1)⟩,
  ⟨(some 18), none, .fa 2 (.t 2)⟩,
  ⟨(some 19), none, .load false 1 (.t 18)⟩,
  ⟨(some 20), none, .mv (.t 6)⟩,
  ⟨(some 21), none, .bin .add (.t 19) (.t 20)⟩,
  ⟨(some 22), none, .build [(.int .i64 0), (.int .i64 0), (.int .i64 0)] [(0, 1, (.t 16)), (1, 1, (.t 17)), (2, 1, (.t 21))]⟩,
  ⟨(some 23), none, .mv (.t 6)⟩,
  ⟨none, none, .store 3 (.t 4) (.t 22)⟩,
  ⟨(some 5), none, .mv (.t 23)⟩]
/-- datum/datumref12.Next -/
abbrev x12b : XCode :=
  (.seq (.reg 0 x12r0 none)
  (.seq (.reg 1 x12r1 none)
  (.seq (.seq (.reg 2 x12r2 none)
  (.cond (.t 9)
    (.reg 3 x12r3 none)
    .skip))
  (.seq (.reg 4 x12r4 none)
  .ret))))
def x12 : XFunc := ⟨24, 2, [.cell 4 true 3, .tmp 5], x12b⟩
theorem x12_ok : chkF Try.prog Try.f12 x12 = true := by kernel_rfl
theorem x12_eq : x12.body = x12b ∧ x12.res = [.cell 4 true 3, .tmp 5] ∧ x12.np = 2 := ⟨rfl, rfl, rfl⟩

abbrev x13r0 : List XOper := [
  ⟨(some 2), none, .mv (.c (.bool false))⟩]
abbrev x13r1 : List XOper := [
  ⟨(some 5), none, .mv (.t 0)⟩,
  ⟨(some 6), none, .lenV (.t 5)⟩,
  ⟨(some 7), none, .mv (.c (.int .i64 0))⟩]
abbrev x13r2 : List XOper := [
  ⟨(some 8), none, .bin .lss (.t 7) (.t 6)⟩]
abbrev x13r3 : List XOper := [
  ⟨(some 9), none, .iaS 1 (.t 5) (.t 7)⟩,
  ⟨(some 10), none, .load false 1 (.t 9)⟩,
  ⟨(some 4), none, .mv (.t 10)⟩]
abbrev x13r4 : List XOper := [
  ⟨(some 11), none, .mv (.t 4)⟩,
  ⟨(some 12), none, .bin .lss (.t 11) (.c (.int .i64 (-1000000)))⟩,
  ⟨(some 13), none, .mv (.t 12)⟩,
  ⟨(some 14), (some (13, false)), .mv (.t 4)⟩,
  ⟨(some 15), (some (13, false)), .bin .gtr (.t 14) (.c (.int .i64 1000000))⟩,
  ⟨(some 16), none, .pick (.t 13) (.c (.bool true)) (.t 15)⟩]
abbrev x13r5 : List XOper := [
  ⟨(some 2), none, .mv (.c (.bool false))⟩]
abbrev x13r6 : List XOper := [
  ⟨(some 17), none, .bin .add (.t 7) (.c (.int .i64 1))⟩,
  ⟨(some 7), none, .mv (.t 17)⟩]
abbrev x13l2 : XCode :=
  (.seq (.reg 2 x13r2 none)
  (.seq (.cond (.t 8)
    .skip
    (.exit 0))
  (.seq (.block 1
    (.seq (.reg 3 x13r3 none)
    (.seq (.reg 4 x13r4 none)
    (.cond (.t 16)
      (.seq (.reg 5 x13r5 none)
      .ret)
      .skip))))
  (.reg 6 x13r6 none))))
abbrev x13r7 : List XOper := [
  ⟨(some 2), none, .mv (.c (.bool true))⟩]
/-- datum/datumref11.In -/
abbrev x13b : XCode :=
  (.seq (.reg 0 x13r0 none)
  (.seq (.seq (.reg 1 x13r1 none)
  (.block 0
    (.loop x13l2)))
  (.seq (.reg 7 x13r7 none)
  .ret)))
def x13 : XFunc := ⟨18, 1, [.tmp 2], x13b⟩
theorem x13_ok : chkF Try.prog Try.f13 x13 = true := by kernel_rfl
theorem x13_eq : x13.body = x13b ∧ x13.res = [.tmp 2] ∧ x13.np = 1 := ⟨rfl, rfl, rfl⟩

abbrev x14r0 : List XOper := [
  ⟨(some 2), none, .box (.t 0)⟩,
  ⟨(some 4), none, .alloc [(.int .i64 0), (.int .i64 0), (.int .i64 0)]⟩,
  ⟨(some 5), none, .mv (.c .nils)⟩]
abbrev x14r1 : List XOper := [
  ⟨(some 11), none, .mkslice 1 (.int .i64 0) 0 []⟩,
  ⟨(some 6), none, .mv (.t 11)⟩]
abbrev x14r2 : List XOper := [
  ⟨(some 12), none, .mv (.t 1)⟩,
  ⟨(some 13), none, .lenV (.t 12)⟩,
  ⟨(some 14), none, .mv (.c (.int .i64 0))⟩]
abbrev x14r3 : List XOper := [
  ⟨(some 15), none, .bin .lss (.t 14) (.t 13)⟩]
abbrev x14r4 : List XOper := [
  ⟨(some 16), none, .iaS 1 (.t 12) (.t 14)⟩,
  ⟨(some 17), none, .load false 1 (.t 16)⟩,
  ⟨(some 8), none, .mv (.t 17)⟩]
abbrev x14r5 : List XOper := [
  ⟨(some 19), none, .load true 3 (.t 2)⟩,
  ⟨(some 20), none, .mv (.t 8)⟩,
  ⟨(some 21), none, .call (.c (.fn (.func 12) [] [])) [(.t 19), (.t 20)]⟩,
  ⟨(some 18), none, .mv (.t 21)⟩,
  ⟨(some 22), none, .ext (.t 18) 0⟩,
  ⟨(some 23), none, .ext (.t 18) 1⟩,
  ⟨(some 9), none, .alloc [(.int .i64 0), (.int .i64 0), (.int .i64 0)]⟩,
  ⟨none, none, .store 3 (.t 9) (.t 22)⟩,
  ⟨(some 10), none, .mv (.t 23)⟩]
abbrev x14r6 : List XOper := [
  ⟨(some 24), none, .fa 0 (.t 2)⟩,
  ⟨(some 25), none, .load false 1 (.t 24)⟩,
  ⟨(some 26), none, .bin .gtr (.t 25) (.c (.int .i64 0))⟩]
abbrev x14r7 : List XOper := [
  ⟨(some 27), none, .mv (.t 6)⟩,
  ⟨(some 28), none, .mv (.t 10)⟩,
  ⟨(some 29), none, .mkslice 1 (.int .i64 0) 1 [(0, (.t 28))]⟩,
  ⟨(some 30), none, .app 1 8 (.t 27) (.t 29)⟩,
  ⟨(some 6), none, .mv (.t 30)⟩]
abbrev x14r8 : List XOper := [
  ⟨(some 31), none, .load true 3 (.t 9)⟩,
  ⟨none, none, .store 3 (.t 2) (.t 31)⟩]
abbrev x14r9 : List XOper := [
  ⟨(some 32), none, .bin .add (.t 14) (.c (.int .i64 1))⟩,
  ⟨(some 14), none, .mv (.t 32)⟩]
abbrev x14l3 : XCode :=
  (.seq (.reg 3 x14r3 none)
  (.seq (.cond (.t 15)
    .skip
    (.exit 0))
  (.seq (.block 1
    (.seq (.reg 4 x14r4 none)
    (.seq (.reg 5 x14r5 none)
    (.seq (.seq (.reg 6 x14r6 none)
    (.cond (.t 26)
      (.reg 7 x14r7 none)
      .skip))
    (.reg 8 x14r8 none)))))
  (.reg 9 x14r9 none))))
abbrev x14r10 : List XOper := [
  ⟨(some 33), none, .load true 3 (.t 2)⟩,
  ⟨(some 34), none, .mv (.t 6)⟩,
  ⟨none, none, .store 3 (.t 4) (.t 33)⟩,
  ⟨(some 5), none, .mv (.t 34)⟩]
/-- datum/datumref12.Run -/
abbrev x14b : XCode :=
  (.seq (.reg 0 x14r0 none)
  (.seq (.reg 1 x14r1 none)
  (.seq (.seq (.reg 2 x14r2 none)
  (.block 0
    (.loop x14l3)))
  (.seq (.reg 10 x14r10 none)
  .ret))))
def x14 : XFunc := ⟨35, 2, [.cell 4 true 3, .tmp 5], x14b⟩
theorem x14_ok : chkF Try.prog Try.f14 x14 = true := by kernel_rfl
theorem x14_eq : x14.body = x14b ∧ x14.res = [.cell 4 true 3, .tmp 5] ∧ x14.np = 2 := ⟨rfl, rfl, rfl⟩

abbrev x15r0 : List XOper := [
  ⟨(some 4), none, .mv (.c (.bool false))⟩]
abbrev x15r1 : List XOper := [
  ⟨(some 6), none, .mv (.t 0)⟩,
  ⟨(some 7), none, .lenV (.t 6)⟩,
  ⟨(some 8), none, .mv (.t 1)⟩,
  ⟨(some 9), none, .lenV (.t 8)⟩,
  ⟨(some 10), none, .bin .neq (.t 7) (.t 9)⟩]
abbrev x15r2 : List XOper := [
  ⟨(some 4), none, .mv (.c (.bool false))⟩]
abbrev x15r3 : List XOper := [
  ⟨(some 11), none, .mv (.t 0)⟩,
  ⟨(some 12), none, .lenV (.t 11)⟩,
  ⟨(some 13), none, .mv (.c (.int .i64 0))⟩]
abbrev x15r4 : List XOper := [
  ⟨(some 14), none, .bin .lss (.t 13) (.t 12)⟩]
abbrev x15r5 : List XOper := [
  ⟨(some 15), none, .mv (.t 13)⟩,
  ⟨(some 5), none, .mv (.t 15)⟩]
abbrev x15r6 : List XOper := [
  ⟨(some 16), none, .mv (.t 0)⟩,
  ⟨(some 17), none, .mv (.t 5)⟩,
  ⟨(some 18), none, .iaS 1 (.t 16) (.t 17)⟩,
  ⟨(some 19), none, .load false 1 (.t 18)⟩,
  ⟨(some 20), none, .mv (.t 1)⟩,
  ⟨(some 21), none, .mv (.t 5)⟩,
  ⟨(some 22), none, .iaS 1 (.t 20) (.t 21)⟩,
  ⟨(some 23), none, .load false 1 (.t 22)⟩,
  ⟨(some 24), none, .bin .neq (.t 19) (.t 23)⟩]
abbrev x15r7 : List XOper := [
  ⟨(some 4), none, .mv (.c (.bool false))⟩]
abbrev x15r8 : List XOper := [
  ⟨(some 25), none, .bin .add (.t 13) (.c (.int .i64 1))⟩,
  ⟨(some 13), none, .mv (.t 25)⟩]
abbrev x15l4 : XCode :=
  (.seq (.reg 4 x15r4 none)
  (.seq (.cond (.t 14)
    .skip
    (.exit 0))
  (.seq (.block 1
    (.seq (.reg 5 x15r5 none)
    (.seq (.reg 6 x15r6 (some ⟨[]⟩))
    (.cond (.t 24)
      (.seq (.reg 7 x15r7 none)
      .ret)
      .skip))))
  (.reg 8 x15r8 none))))
abbrev x15r9 : List XOper := [
  ⟨(some 4), none, .mv (.c (.bool true))⟩]
/-- datum/datumref10.Ints -/
abbrev x15b : XCode :=
  (.seq (.reg 0 x15r0 none)
  (.seq (.seq (.reg 1 x15r1 none)
  (.cond (.t 10)
    (.seq (.reg 2 x15r2 none)
    .ret)
    .skip))
  (.seq (.seq (.reg 3 x15r3 none)
  (.block 0
    (.loop x15l4)))
  (.seq (.reg 9 x15r9 none)
  .ret))))
def x15 : XFunc := ⟨26, 2, [.tmp 4], x15b⟩
theorem x15_ok : chkF Try.prog Try.f15 x15 = true := by kernel_rfl
theorem x15_eq : x15.body = x15b ∧ x15.res = [.tmp 4] ∧ x15.np = 2 := ⟨rfl, rfl, rfl⟩

abbrev x16r0 : List XOper := [
  ⟨(some 4), none, .mv (.c (.bool false))⟩]
abbrev x16r1 : List XOper := [
  ⟨(some 5), none, .mv (.t 0)⟩,
  ⟨(some 6), none, .mv (.t 1)⟩,
  ⟨(some 7), none, .call (.c (.fn (.func 21) [] [])) [(.t 5), (.t 6)]⟩,
  ⟨(some 8), none, .bin .geq (.t 7) (.c (.int .i64 0))⟩,
  ⟨(some 4), none, .mv (.t 8)⟩]
/-- slices.ContainsFunc[[]int,int] -/
abbrev x16b : XCode :=
  (.seq (.reg 0 x16r0 none)
  (.seq (.reg 1 x16r1 none)
  .ret))
def x16 : XFunc := ⟨9, 2, [.tmp 4], x16b⟩
theorem x16_ok : chkF Try.prog Try.f16 x16 = true := by kernel_rfl
theorem x16_eq : x16.body = x16b ∧ x16.res = [.tmp 4] ∧ x16.np = 2 := ⟨rfl, rfl, rfl⟩

abbrev x17r0 : List XOper := [
  ⟨(some 2), none, .mv (.c (.bool false))⟩]
abbrev x17r1 : List XOper := [
  ⟨(some 3), none, .mv (.t 0)⟩,
  ⟨(some 4), none, .call (.c (.fn (.func 18) [] [])) [(.t 3)]⟩,
  ⟨(some 5), none, .un .not (.t 4)⟩,
  ⟨(some 2), none, .mv (.t 5)⟩]
/-- datum/move.Run$1 -/
abbrev x17b : XCode :=
  (.seq (.reg 0 x17r0 none)
  (.seq (.reg 1 x17r1 none)
  .ret))
def x17 : XFunc := ⟨6, 1, [.tmp 2], x17b⟩
theorem x17_ok : chkF Try.prog Try.f17 x17 = true := by kernel_rfl
theorem x17_eq : x17.body = x17b ∧ x17.res = [.tmp 2] ∧ x17.np = 1 := ⟨rfl, rfl, rfl⟩

abbrev x18r0 : List XOper := [
  ⟨(some 2), none, .mv (.c (.bool false))⟩]
abbrev x18r1 : List XOper := [
  ⟨(some 3), none, .mv (.t 0)⟩,
  ⟨(some 4), none, .bin .geq (.t 3) (.c (.int .i64 (-1000000)))⟩,
  ⟨(some 5), none, .mv (.t 4)⟩,
  ⟨(some 6), (some (5, true)), .mv (.t 0)⟩,
  ⟨(some 7), (some (5, true)), .bin .leq (.t 6) (.c (.int .i64 1000000))⟩,
  ⟨(some 8), none, .pick (.t 5) (.t 7) (.c (.bool false))⟩,
  ⟨(some 2), none, .mv (.t 8)⟩]
/-- datum/move.in -/
abbrev x18b : XCode :=
  (.seq (.reg 0 x18r0 none)
  (.seq (.reg 1 x18r1 none)
  .ret))
def x18 : XFunc := ⟨9, 1, [.tmp 2], x18b⟩
theorem x18_ok : chkF Try.prog Try.f18 x18 = true := by kernel_rfl
theorem x18_eq : x18.body = x18b ∧ x18.res = [.tmp 2] ∧ x18.np = 1 := ⟨rfl, rfl, rfl⟩

abbrev x20r0 : List XOper := [
  ⟨(some 4), none, .mv (.c (.int .i64 0))⟩]
abbrev x20r1 : List XOper := [
  ⟨(some 5), none, .mv (.t 0)⟩,
  ⟨(some 6), none, .mv (.t 1)⟩,
  ⟨(some 7), none, .bin .gtr (.t 5) (.t 6)⟩]
abbrev x20r2 : List XOper := [
  ⟨(some 8), none, .mv (.t 0)⟩,
  ⟨(some 9), none, .mv (.t 1)⟩,
  ⟨(some 10), none, .bin .sub (.t 8) (.t 9)⟩,
  ⟨(some 4), none, .mv (.t 10)⟩]
abbrev x20r3 : List XOper := [
  ⟨(some 11), none, .mv (.t 1)⟩,
  ⟨(some 12), none, .mv (.t 0)⟩,
  ⟨(some 13), none, .bin .sub (.t 11) (.t 12)⟩,
  ⟨(some 4), none, .mv (.t 13)⟩]
/-- datum/datumref12.Step -/
abbrev x20b : XCode :=
  (.seq (.reg 0 x20r0 none)
  (.seq (.seq (.reg 1 x20r1 none)
  (.cond (.t 7)
    (.seq (.reg 2 x20r2 none)
    .ret)
    .skip))
  (.seq (.reg 3 x20r3 none)
  .ret)))
def x20 : XFunc := ⟨14, 2, [.tmp 4], x20b⟩
theorem x20_ok : chkF Try.prog Try.f20 x20 = true := by kernel_rfl
theorem x20_eq : x20.body = x20b ∧ x20.res = [.tmp 4] ∧ x20.np = 2 := ⟨rfl, rfl, rfl⟩

abbrev x21r0 : List XOper := [
  ⟨(some 4), none, .mv (.c (.int .i64 0))⟩]
abbrev x21r1 : List XOper := [
  ⟨(some 6), none, .mv (.t 0)⟩,
  ⟨(some 7), none, .lenV (.t 6)⟩,
  ⟨(some 8), none, .mv (.c (.int .i64 0))⟩]
abbrev x21r2 : List XOper := [
  ⟨(some 9), none, .bin .lss (.t 8) (.t 7)⟩]
abbrev x21r3 : List XOper := [
  ⟨(some 10), none, .mv (.t 8)⟩,
  ⟨(some 5), none, .mv (.t 10)⟩]
abbrev x21r4 : List XOper := [
  ⟨(some 11), none, .mv (.t 1)⟩,
  ⟨(some 12), none, .mv (.t 0)⟩,
  ⟨(some 13), none, .mv (.t 5)⟩,
  ⟨(some 14), none, .iaS 1 (.t 12) (.t 13)⟩,
  ⟨(some 15), none, .load false 1 (.t 14)⟩,
  ⟨(some 16), none, .call (.t 11) [(.t 15)]⟩]
abbrev x21r5 : List XOper := [
  ⟨(some 17), none, .mv (.t 5)⟩,
  ⟨(some 4), none, .mv (.t 17)⟩]
abbrev x21r6 : List XOper := [
  ⟨(some 18), none, .bin .add (.t 8) (.c (.int .i64 1))⟩,
  ⟨(some 8), none, .mv (.t 18)⟩]
abbrev x21l2 : XCode :=
  (.seq (.reg 2 x21r2 none)
  (.seq (.cond (.t 9)
    .skip
    (.exit 0))
  (.seq (.block 1
    (.seq (.reg 3 x21r3 none)
    (.seq (.reg 4 x21r4 none)
    (.cond (.t 16)
      (.seq (.reg 5 x21r5 none)
      .ret)
      .skip))))
  (.reg 6 x21r6 none))))
abbrev x21r7 : List XOper := [
  ⟨(some 4), none, .mv (.c (.int .i64 (-1)))⟩]
/-- slices.IndexFunc[[]int,int] -/
abbrev x21b : XCode :=
  (.seq (.reg 0 x21r0 none)
  (.seq (.seq (.reg 1 x21r1 none)
  (.block 0
    (.loop x21l2)))
  (.seq (.reg 7 x21r7 none)
  .ret)))
def x21 : XFunc := ⟨19, 2, [.tmp 4], x21b⟩
theorem x21_ok : chkF Try.prog Try.f21 x21 = true := by kernel_rfl
theorem x21_eq : x21.body = x21b ∧ x21.res = [.tmp 4] ∧ x21.np = 2 := ⟨rfl, rfl, rfl⟩


def xf : FuncId → Option XFunc
  | 3 => some x3
  | 4 => some x4
  | 5 => some x5
  | 6 => some x6
  | 8 => some x8
  | 9 => some x9
  | 10 => some x10
  | 11 => some x11
  | 12 => some x12
  | 13 => some x13
  | 14 => some x14
  | 15 => some x15
  | 16 => some x16
  | 17 => some x17
  | 18 => some x18
  | 20 => some x20
  | 21 => some x21
  | _ => none
def C0 : Cfg := ⟨fun _ => none, xf, fun _ => none⟩
theorem ok0 : CfgOk Try.prog C0 := by
  refine ⟨(fun g F h => by cases h), (fun g x h => ?_), by kernel_rfl, (fun g F h => by cases h)⟩
  simp only [C0, xf] at h
  split at h
  · cases h; exact ⟨Try.f3, Try.func3, x3_ok⟩
  · cases h; exact ⟨Try.f4, Try.func4, x4_ok⟩
  · cases h; exact ⟨Try.f5, Try.func5, x5_ok⟩
  · cases h; exact ⟨Try.f6, Try.func6, x6_ok⟩
  · cases h; exact ⟨Try.f8, Try.func8, x8_ok⟩
  · cases h; exact ⟨Try.f9, Try.func9, x9_ok⟩
  · cases h; exact ⟨Try.f10, Try.func10, x10_ok⟩
  · cases h; exact ⟨Try.f11, Try.func11, x11_ok⟩
  · cases h; exact ⟨Try.f12, Try.func12, x12_ok⟩
  · cases h; exact ⟨Try.f13, Try.func13, x13_ok⟩
  · cases h; exact ⟨Try.f14, Try.func14, x14_ok⟩
  · cases h; exact ⟨Try.f15, Try.func15, x15_ok⟩
  · cases h; exact ⟨Try.f16, Try.func16, x16_ok⟩
  · cases h; exact ⟨Try.f17, Try.func17, x17_ok⟩
  · cases h; exact ⟨Try.f18, Try.func18, x18_ok⟩
  · cases h; exact ⟨Try.f20, Try.func20, x20_ok⟩
  · cases h; exact ⟨Try.f21, Try.func21, x21_ok⟩
  · cases h
end Go.Proofs.Ytihgogbfjiobiaa
