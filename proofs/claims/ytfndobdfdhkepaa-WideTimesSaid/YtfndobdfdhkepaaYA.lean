/-
  The functions of wide and of its document, as the interpreter's texts, each checked against the translation.
-/
import Derived.Test.YtfndobdfdhkepaaXV
import Derived.Test.YtfndobdfdhkepaaRows
set_option linter.unusedVariables false
namespace Go.Proofs.Ytfndobdfdhkepaa
open Go Go.Xec

abbrev x3r0 : List XOper := [
  ⟨(some 2), none, .box (.t 0)⟩,
  ⟨(some 3), none, .box (.t 1)⟩,
  ⟨(some 4), none, .mv (.c (.bool false))⟩]
abbrev x3r1 : List XOper := [
  ⟨(some 12), none, .load true 2 (.t 2)⟩,
  ⟨(some 13), none, .load true 2 (.t 3)⟩,
  ⟨(some 14), none, .call (.c (.fn (.func 7) [] [])) [(.t 12), (.t 13)]⟩,
  ⟨(some 11), none, .mv (.t 14)⟩,
  ⟨(some 15), none, .ext (.t 11) 0⟩,
  ⟨(some 16), none, .ext (.t 11) 1⟩,
  ⟨(some 5), none, .alloc [(.int .u64 0), (.int .u64 0)]⟩,
  ⟨none, none, .store 2 (.t 5) (.t 15)⟩,
  ⟨(some 6), none, .mv (.t 16)⟩]
abbrev x3r2 : List XOper := [
  ⟨(some 18), none, .load true 2 (.t 2)⟩,
  ⟨(some 19), none, .load true 2 (.t 3)⟩,
  ⟨(some 20), none, .call (.c (.fn (.func 8) [] [])) [(.t 18), (.t 19)]⟩,
  ⟨(some 17), none, .mv (.t 20)⟩,
  ⟨(some 21), none, .ext (.t 17) 0⟩,
  ⟨(some 22), none, .ext (.t 17) 1⟩,
  ⟨(some 7), none, .alloc [(.int .u64 0), (.int .u64 0)]⟩,
  ⟨none, none, .store 2 (.t 7) (.t 21)⟩,
  ⟨(some 8), none, .mv (.t 22)⟩]
abbrev x3r3 : List XOper := [
  ⟨(some 24), none, .fa 1 (.t 2)⟩,
  ⟨(some 25), none, .load false 1 (.t 24)⟩,
  ⟨(some 26), none, .call (.c (.fn (.func 9) [] [])) [(.t 25)]⟩,
  ⟨(some 27), none, .fa 1 (.t 3)⟩,
  ⟨(some 28), none, .load false 1 (.t 27)⟩,
  ⟨(some 29), none, .call (.c (.fn (.func 9) [] [])) [(.t 28)]⟩,
  ⟨(some 30), none, .call (.c (.fn (.func 8) [] [])) [(.t 26), (.t 29)]⟩,
  ⟨(some 23), none, .mv (.t 30)⟩,
  ⟨(some 31), none, .ext (.t 23) 0⟩,
  ⟨(some 32), none, .ext (.t 23) 1⟩,
  ⟨(some 9), none, .alloc [(.int .u64 0), (.int .u64 0)]⟩,
  ⟨none, none, .store 2 (.t 9) (.t 31)⟩,
  ⟨(some 10), none, .mv (.t 32)⟩]
abbrev x3r4 : List XOper := [
  ⟨(some 33), none, .call (.c (.fn (.func 10) [] [])) []⟩,
  ⟨(some 34), none, .mv (.t 33)⟩,
  ⟨(some 35), (some (34, true)), .load true 2 (.t 5)⟩,
  ⟨(some 36), (some (34, true)), .load true 2 (.t 7)⟩,
  ⟨(some 37), (some (34, true)), .eqA false [0, 0] (.t 35) (.t 36)⟩,
  ⟨(some 38), none, .pick (.t 34) (.t 37) (.c (.bool false))⟩,
  ⟨(some 39), none, .mv (.t 38)⟩,
  ⟨(some 40), (some (39, true)), .mv (.t 6)⟩,
  ⟨(some 41), (some (39, true)), .mv (.t 8)⟩,
  ⟨(some 42), (some (39, true)), .eqB false (.t 40) (.t 41)⟩,
  ⟨(some 43), none, .pick (.t 39) (.t 42) (.c (.bool false))⟩,
  ⟨(some 44), none, .mv (.t 43)⟩,
  ⟨(some 45), (some (44, true)), .fa 1 (.t 2)⟩,
  ⟨(some 46), (some (44, true)), .load false 1 (.t 45)⟩,
  ⟨(some 47), (some (44, true)), .fa 1 (.t 3)⟩,
  ⟨(some 48), (some (44, true)), .load false 1 (.t 47)⟩,
  ⟨(some 49), (some (44, true)), .call (.c (.fn (.func 11) [] [])) [(.t 46), (.t 48)]⟩,
  ⟨(some 50), (some (44, true)), .load true 2 (.t 9)⟩,
  ⟨(some 51), (some (44, true)), .eqA false [0, 0] (.t 49) (.t 50)⟩,
  ⟨(some 52), none, .pick (.t 44) (.t 51) (.c (.bool false))⟩,
  ⟨(some 4), none, .mv (.t 52)⟩]
/-- datum/datumlaw01.WideTimes -/
abbrev x3b : XCode :=
  (.seq (.reg 0 x3r0 none)
  (.seq (.reg 1 x3r1 none)
  (.seq (.reg 2 x3r2 none)
  (.seq (.reg 3 x3r3 (some ⟨[(2, 4), (1, 10), (2, 10), (4, 10), (5, 10), (6, 10)]⟩))
  (.seq (.reg 4 x3r4 (some ⟨[(16, 17)]⟩))
  .ret)))))
def x3 : XFunc := ⟨53, 2, [.tmp 4], x3b⟩
theorem x3_ok : chkF Try.prog Try.f3 x3 = true := by kernel_rfl
theorem x3_eq : x3.body = x3b ∧ x3.res = [.tmp 4] ∧ x3.np = 2 := ⟨rfl, rfl, rfl⟩

abbrev x4r0 : List XOper := [
  ⟨(some 3), none, .box (.t 0)⟩,
  ⟨(some 4), none, .box (.t 1)⟩,
  ⟨(some 5), none, .box (.t 2)⟩,
  ⟨(some 6), none, .mv (.c (.bool false))⟩]
abbrev x4r1 : List XOper := [
  ⟨(some 24), none, .load true 2 (.t 3)⟩,
  ⟨(some 25), none, .load true 2 (.t 4)⟩,
  ⟨(some 26), none, .call (.c (.fn (.func 7) [] [])) [(.t 24), (.t 25)]⟩,
  ⟨(some 23), none, .mv (.t 26)⟩,
  ⟨(some 27), none, .ext (.t 23) 0⟩,
  ⟨(some 28), none, .ext (.t 23) 1⟩,
  ⟨(some 7), none, .alloc [(.int .u64 0), (.int .u64 0)]⟩,
  ⟨none, none, .store 2 (.t 7) (.t 27)⟩,
  ⟨(some 8), none, .mv (.t 28)⟩]
abbrev x4r2 : List XOper := [
  ⟨(some 30), none, .load true 2 (.t 4)⟩,
  ⟨(some 31), none, .load true 2 (.t 3)⟩,
  ⟨(some 32), none, .call (.c (.fn (.func 7) [] [])) [(.t 30), (.t 31)]⟩,
  ⟨(some 29), none, .mv (.t 32)⟩,
  ⟨(some 33), none, .ext (.t 29) 0⟩,
  ⟨(some 34), none, .ext (.t 29) 1⟩,
  ⟨(some 9), none, .alloc [(.int .u64 0), (.int .u64 0)]⟩,
  ⟨none, none, .store 2 (.t 9) (.t 33)⟩,
  ⟨(some 10), none, .mv (.t 34)⟩]
abbrev x4r3 : List XOper := [
  ⟨(some 36), none, .load true 2 (.t 3)⟩,
  ⟨(some 37), none, .load true 2 (.t 5)⟩,
  ⟨(some 38), none, .call (.c (.fn (.func 7) [] [])) [(.t 36), (.t 37)]⟩,
  ⟨(some 35), none, .mv (.t 38)⟩,
  ⟨(some 39), none, .ext (.t 35) 0⟩,
  ⟨(some 40), none, .ext (.t 35) 1⟩,
  ⟨(some 11), none, .alloc [(.int .u64 0), (.int .u64 0)]⟩,
  ⟨none, none, .store 2 (.t 11) (.t 39)⟩,
  ⟨(some 12), none, .mv (.t 40)⟩]
abbrev x4r4 : List XOper := [
  ⟨(some 42), none, .load true 2 (.t 4)⟩,
  ⟨(some 43), none, .load true 2 (.t 5)⟩,
  ⟨(some 44), none, .call (.c (.fn (.func 12) [] [])) [(.t 42), (.t 43)]⟩,
  ⟨(some 41), none, .mv (.t 44)⟩,
  ⟨(some 45), none, .ext (.t 41) 0⟩,
  ⟨(some 46), none, .ext (.t 41) 1⟩,
  ⟨(some 13), none, .alloc [(.int .u64 0), (.int .u64 0)]⟩,
  ⟨none, none, .store 2 (.t 13) (.t 45)⟩,
  ⟨(some 14), none, .mv (.t 46)⟩]
abbrev x4r5 : List XOper := [
  ⟨(some 48), none, .load true 2 (.t 3)⟩,
  ⟨(some 49), none, .load true 2 (.t 13)⟩,
  ⟨(some 50), none, .call (.c (.fn (.func 7) [] [])) [(.t 48), (.t 49)]⟩,
  ⟨(some 47), none, .mv (.t 50)⟩,
  ⟨(some 51), none, .ext (.t 47) 0⟩,
  ⟨(some 52), none, .ext (.t 47) 1⟩,
  ⟨(some 15), none, .alloc [(.int .u64 0), (.int .u64 0)]⟩,
  ⟨none, none, .store 2 (.t 15) (.t 51)⟩,
  ⟨(some 16), none, .mv (.t 52)⟩]
abbrev x4r6 : List XOper := [
  ⟨(some 54), none, .load true 2 (.t 7)⟩,
  ⟨(some 55), none, .load true 2 (.t 11)⟩,
  ⟨(some 56), none, .call (.c (.fn (.func 12) [] [])) [(.t 54), (.t 55)]⟩,
  ⟨(some 53), none, .mv (.t 56)⟩,
  ⟨(some 57), none, .ext (.t 53) 0⟩,
  ⟨(some 58), none, .ext (.t 53) 1⟩,
  ⟨(some 17), none, .alloc [(.int .u64 0), (.int .u64 0)]⟩,
  ⟨none, none, .store 2 (.t 17) (.t 57)⟩,
  ⟨(some 18), none, .mv (.t 58)⟩]
abbrev x4r7 : List XOper := [
  ⟨(some 59), none, .load true 2 (.t 7)⟩,
  ⟨(some 60), none, .load true 2 (.t 9)⟩,
  ⟨(some 61), none, .eqA true [0, 0] (.t 59) (.t 60)⟩,
  ⟨(some 62), none, .mv (.t 61)⟩,
  ⟨(some 63), (some (62, false)), .mv (.t 8)⟩,
  ⟨(some 64), (some (62, false)), .mv (.t 10)⟩,
  ⟨(some 65), (some (62, false)), .eqB true (.t 63) (.t 64)⟩,
  ⟨(some 66), none, .pick (.t 62) (.c (.bool true)) (.t 65)⟩,
  ⟨(some 67), none, .mv (.t 66)⟩,
  ⟨(some 68), (some (67, false)), .load true 2 (.t 15)⟩,
  ⟨(some 69), (some (67, false)), .load true 2 (.t 17)⟩,
  ⟨(some 70), (some (67, false)), .eqA true [0, 0] (.t 68) (.t 69)⟩,
  ⟨(some 71), none, .pick (.t 67) (.c (.bool true)) (.t 70)⟩,
  ⟨(some 72), none, .mv (.t 71)⟩,
  ⟨(some 73), (some (72, false)), .call (.c (.fn (.func 10) [] [])) []⟩,
  ⟨(some 74), (some (72, false)), .un .not (.t 73)⟩,
  ⟨(some 75), none, .pick (.t 72) (.c (.bool true)) (.t 74)⟩]
abbrev x4r8 : List XOper := [
  ⟨(some 6), none, .mv (.c (.bool false))⟩]
abbrev x4r9 : List XOper := [
  ⟨(some 77), none, .load true 2 (.t 3)⟩,
  ⟨(some 78), none, .build [(.int .u64 0), (.int .u64 0)] [(1, 1, (.c (.int .u64 1)))]⟩,
  ⟨(some 79), none, .call (.c (.fn (.func 7) [] [])) [(.t 77), (.t 78)]⟩,
  ⟨(some 76), none, .mv (.t 79)⟩,
  ⟨(some 80), none, .ext (.t 76) 0⟩,
  ⟨(some 81), none, .ext (.t 76) 1⟩,
  ⟨(some 19), none, .alloc [(.int .u64 0), (.int .u64 0)]⟩,
  ⟨none, none, .store 2 (.t 19) (.t 80)⟩,
  ⟨(some 20), none, .mv (.t 81)⟩]
abbrev x4r10 : List XOper := [
  ⟨(some 83), none, .load true 2 (.t 3)⟩,
  ⟨(some 84), none, .build [(.int .u64 0), (.int .u64 0)] []⟩,
  ⟨(some 85), none, .call (.c (.fn (.func 7) [] [])) [(.t 83), (.t 84)]⟩,
  ⟨(some 82), none, .mv (.t 85)⟩,
  ⟨(some 86), none, .ext (.t 82) 0⟩,
  ⟨(some 87), none, .ext (.t 82) 1⟩,
  ⟨(some 21), none, .alloc [(.int .u64 0), (.int .u64 0)]⟩,
  ⟨none, none, .store 2 (.t 21) (.t 86)⟩,
  ⟨(some 22), none, .mv (.t 87)⟩]
abbrev x4r11 : List XOper := [
  ⟨(some 88), none, .load true 2 (.t 19)⟩,
  ⟨(some 89), none, .load true 2 (.t 3)⟩,
  ⟨(some 90), none, .eqA false [0, 0] (.t 88) (.t 89)⟩,
  ⟨(some 91), none, .mv (.t 90)⟩,
  ⟨(some 92), (some (91, true)), .mv (.t 20)⟩,
  ⟨(some 93), (some (91, true)), .un .not (.t 92)⟩,
  ⟨(some 94), none, .pick (.t 91) (.t 93) (.c (.bool false))⟩,
  ⟨(some 95), none, .mv (.t 94)⟩,
  ⟨(some 96), (some (95, true)), .load true 2 (.t 21)⟩,
  ⟨(some 97), (some (95, true)), .build [(.int .u64 0), (.int .u64 0)] []⟩,
  ⟨(some 98), (some (95, true)), .eqA false [0, 0] (.t 96) (.t 97)⟩,
  ⟨(some 99), none, .pick (.t 95) (.t 98) (.c (.bool false))⟩,
  ⟨(some 100), none, .mv (.t 99)⟩,
  ⟨(some 101), (some (100, true)), .mv (.t 22)⟩,
  ⟨(some 102), (some (100, true)), .un .not (.t 101)⟩,
  ⟨(some 103), none, .pick (.t 100) (.t 102) (.c (.bool false))⟩,
  ⟨(some 104), none, .mv (.t 103)⟩,
  ⟨(some 105), (some (104, true)), .fa 0 (.t 3)⟩,
  ⟨(some 106), (some (104, true)), .load false 1 (.t 105)⟩,
  ⟨(some 107), (some (104, true)), .bin .neq (.t 106) (.c (.int .u64 0))⟩,
  ⟨(some 108), (some (104, true)), .mv (.t 107)⟩,
  ⟨(some 109), (some (108, false)), .fa 0 (.t 4)⟩,
  ⟨(some 110), (some (108, false)), .load false 1 (.t 109)⟩,
  ⟨(some 111), (some (108, false)), .bin .neq (.t 110) (.c (.int .u64 0))⟩,
  ⟨(some 112), (some (104, true)), .pick (.t 108) (.c (.bool true)) (.t 111)⟩,
  ⟨(some 113), (some (104, true)), .mv (.t 112)⟩,
  ⟨(some 114), (some (113, false)), .mv (.t 8)⟩,
  ⟨(some 115), (some (113, false)), .un .not (.t 114)⟩,
  ⟨(some 116), (some (113, false)), .mv (.t 115)⟩,
  ⟨(some 117), (some (116, true)), .load true 2 (.t 7)⟩,
  ⟨(some 118), (some (116, true)), .fa 1 (.t 3)⟩,
  ⟨(some 119), (some (116, true)), .load false 1 (.t 118)⟩,
  ⟨(some 120), (some (116, true)), .fa 1 (.t 4)⟩,
  ⟨(some 121), (some (116, true)), .load false 1 (.t 120)⟩,
  ⟨(some 122), (some (116, true)), .call (.c (.fn (.func 11) [] [])) [(.t 119), (.t 121)]⟩,
  ⟨(some 123), (some (116, true)), .eqA false [0, 0] (.t 117) (.t 122)⟩,
  ⟨(some 124), (some (113, false)), .pick (.t 116) (.t 123) (.c (.bool false))⟩,
  ⟨(some 125), (some (104, true)), .pick (.t 113) (.c (.bool true)) (.t 124)⟩,
  ⟨(some 126), none, .pick (.t 104) (.t 125) (.c (.bool false))⟩,
  ⟨(some 127), none, .mv (.t 126)⟩,
  ⟨(some 128), (some (127, true)), .fa 0 (.t 3)⟩,
  ⟨(some 129), (some (127, true)), .load false 1 (.t 128)⟩,
  ⟨(some 130), (some (127, true)), .bin .eql (.t 129) (.c (.int .u64 0))⟩,
  ⟨(some 131), (some (127, true)), .mv (.t 130)⟩,
  ⟨(some 132), (some (131, false)), .fa 0 (.t 4)⟩,
  ⟨(some 133), (some (131, false)), .load false 1 (.t 132)⟩,
  ⟨(some 134), (some (131, false)), .bin .eql (.t 133) (.c (.int .u64 0))⟩,
  ⟨(some 135), (some (127, true)), .pick (.t 131) (.c (.bool true)) (.t 134)⟩,
  ⟨(some 136), (some (127, true)), .mv (.t 135)⟩,
  ⟨(some 137), (some (136, false)), .mv (.t 8)⟩,
  ⟨(some 138), (some (127, true)), .pick (.t 136) (.c (.bool true)) (.t 137)⟩,
  ⟨(some 139), none, .pick (.t 127) (.t 138) (.c (.bool false))⟩,
  ⟨(some 6), none, .mv (.t 139)⟩]
/-- datum/datumlaw01.WideSpreads -/
abbrev x4b : XCode :=
  (.seq (.reg 0 x4r0 none)
  (.seq (.reg 1 x4r1 none)
  (.seq (.reg 2 x4r2 none)
  (.seq (.reg 3 x4r3 none)
  (.seq (.reg 4 x4r4 none)
  (.seq (.reg 5 x4r5 none)
  (.seq (.reg 6 x4r6 none)
  (.seq (.seq (.reg 7 x4r7 none)
  (.cond (.t 75)
    (.seq (.reg 8 x4r8 none)
    .ret)
    .skip))
  (.seq (.reg 9 x4r9 none)
  (.seq (.reg 10 x4r10 none)
  (.seq (.reg 11 x4r11 (some ⟨[(29, 34)]⟩))
  .ret)))))))))))
def x4 : XFunc := ⟨140, 3, [.tmp 6], x4b⟩
theorem x4_ok : chkF Try.prog Try.f4 x4 = true := by kernel_rfl
theorem x4_eq : x4.body = x4b ∧ x4.res = [.tmp 6] ∧ x4.np = 3 := ⟨rfl, rfl, rfl⟩

abbrev x5r0 : List XOper := [
  ⟨(some 2), none, .box (.t 0)⟩,
  ⟨(some 3), none, .box (.t 1)⟩,
  ⟨(some 4), none, .mv (.c (.bool false))⟩]
abbrev x5r1 : List XOper := [
  ⟨(some 14), none, .load true 2 (.t 2)⟩,
  ⟨(some 15), none, .load true 2 (.t 3)⟩,
  ⟨(some 16), none, .call (.c (.fn (.func 12) [] [])) [(.t 14), (.t 15)]⟩,
  ⟨(some 13), none, .mv (.t 16)⟩,
  ⟨(some 17), none, .ext (.t 13) 0⟩,
  ⟨(some 18), none, .ext (.t 13) 1⟩,
  ⟨(some 5), none, .alloc [(.int .u64 0), (.int .u64 0)]⟩,
  ⟨none, none, .store 2 (.t 5) (.t 17)⟩,
  ⟨(some 6), none, .mv (.t 18)⟩]
abbrev x5r2 : List XOper := [
  ⟨(some 20), none, .load true 2 (.t 2)⟩,
  ⟨(some 21), none, .load true 2 (.t 3)⟩,
  ⟨(some 22), none, .call (.c (.fn (.func 13) [] [])) [(.t 20), (.t 21)]⟩,
  ⟨(some 19), none, .mv (.t 22)⟩,
  ⟨(some 23), none, .ext (.t 19) 0⟩,
  ⟨(some 24), none, .ext (.t 19) 1⟩,
  ⟨(some 7), none, .alloc [(.int .u64 0), (.int .u64 0)]⟩,
  ⟨none, none, .store 2 (.t 7) (.t 23)⟩,
  ⟨(some 8), none, .mv (.t 24)⟩]
abbrev x5r3 : List XOper := [
  ⟨(some 26), none, .load true 2 (.t 2)⟩,
  ⟨(some 27), none, .load true 2 (.t 3)⟩,
  ⟨(some 28), none, .call (.c (.fn (.func 14) [] [])) [(.t 26), (.t 27)]⟩,
  ⟨(some 25), none, .mv (.t 28)⟩,
  ⟨(some 29), none, .ext (.t 25) 0⟩,
  ⟨(some 30), none, .ext (.t 25) 1⟩,
  ⟨(some 9), none, .alloc [(.int .u64 0), (.int .u64 0)]⟩,
  ⟨none, none, .store 2 (.t 9) (.t 29)⟩,
  ⟨(some 10), none, .mv (.t 30)⟩]
abbrev x5r4 : List XOper := [
  ⟨(some 32), none, .load true 2 (.t 2)⟩,
  ⟨(some 33), none, .load true 2 (.t 3)⟩,
  ⟨(some 34), none, .call (.c (.fn (.func 15) [] [])) [(.t 32), (.t 33)]⟩,
  ⟨(some 31), none, .mv (.t 34)⟩,
  ⟨(some 35), none, .ext (.t 31) 0⟩,
  ⟨(some 36), none, .ext (.t 31) 1⟩,
  ⟨(some 11), none, .alloc [(.int .u64 0), (.int .u64 0)]⟩,
  ⟨none, none, .store 2 (.t 11) (.t 35)⟩,
  ⟨(some 12), none, .mv (.t 36)⟩]
abbrev x5r5 : List XOper := [
  ⟨(some 37), none, .call (.c (.fn (.func 10) [] [])) []⟩,
  ⟨(some 38), none, .mv (.t 37)⟩,
  ⟨(some 39), (some (38, true)), .load true 2 (.t 5)⟩,
  ⟨(some 40), (some (38, true)), .load true 2 (.t 9)⟩,
  ⟨(some 41), (some (38, true)), .eqA false [0, 0] (.t 39) (.t 40)⟩,
  ⟨(some 42), none, .pick (.t 38) (.t 41) (.c (.bool false))⟩,
  ⟨(some 43), none, .mv (.t 42)⟩,
  ⟨(some 44), (some (43, true)), .mv (.t 6)⟩,
  ⟨(some 45), (some (43, true)), .mv (.t 10)⟩,
  ⟨(some 46), (some (43, true)), .eqB false (.t 44) (.t 45)⟩,
  ⟨(some 47), none, .pick (.t 43) (.t 46) (.c (.bool false))⟩,
  ⟨(some 48), none, .mv (.t 47)⟩,
  ⟨(some 49), (some (48, true)), .load true 2 (.t 7)⟩,
  ⟨(some 50), (some (48, true)), .load true 2 (.t 11)⟩,
  ⟨(some 51), (some (48, true)), .eqA false [0, 0] (.t 49) (.t 50)⟩,
  ⟨(some 52), none, .pick (.t 48) (.t 51) (.c (.bool false))⟩,
  ⟨(some 53), none, .mv (.t 52)⟩,
  ⟨(some 54), (some (53, true)), .mv (.t 8)⟩,
  ⟨(some 55), (some (53, true)), .mv (.t 12)⟩,
  ⟨(some 56), (some (53, true)), .eqB false (.t 54) (.t 55)⟩,
  ⟨(some 57), none, .pick (.t 53) (.t 56) (.c (.bool false))⟩,
  ⟨(some 58), none, .mv (.t 57)⟩,
  ⟨(some 59), (some (58, true)), .load true 2 (.t 2)⟩,
  ⟨(some 60), (some (58, true)), .load true 2 (.t 3)⟩,
  ⟨(some 61), (some (58, true)), .call (.c (.fn (.func 16) [] [])) [(.t 59), (.t 60)]⟩,
  ⟨(some 62), (some (58, true)), .load true 2 (.t 2)⟩,
  ⟨(some 63), (some (58, true)), .load true 2 (.t 3)⟩,
  ⟨(some 64), (some (58, true)), .call (.c (.fn (.func 17) [] [])) [(.t 62), (.t 63)]⟩,
  ⟨(some 65), (some (58, true)), .eqB false (.t 61) (.t 64)⟩,
  ⟨(some 66), none, .pick (.t 58) (.t 65) (.c (.bool false))⟩,
  ⟨(some 4), none, .mv (.t 66)⟩]
/-- datum/datumlaw01.WideAdds -/
abbrev x5b : XCode :=
  (.seq (.reg 0 x5r0 none)
  (.seq (.reg 1 x5r1 none)
  (.seq (.reg 2 x5r2 none)
  (.seq (.reg 3 x5r3 none)
  (.seq (.reg 4 x5r4 none)
  (.seq (.reg 5 x5r5 (some ⟨[(24, 25), (24, 26)]⟩))
  .ret))))))
def x5 : XFunc := ⟨67, 2, [.tmp 4], x5b⟩
theorem x5_ok : chkF Try.prog Try.f5 x5 = true := by kernel_rfl
theorem x5_eq : x5.body = x5b ∧ x5.res = [.tmp 4] ∧ x5.np = 2 := ⟨rfl, rfl, rfl⟩

abbrev x6r0 : List XOper := [
  ⟨(some 2), none, .box (.t 0)⟩,
  ⟨(some 3), none, .box (.t 1)⟩,
  ⟨(some 4), none, .mv (.c (.bool false))⟩]
abbrev x6r1 : List XOper := [
  ⟨(some 14), none, .load true 2 (.t 2)⟩,
  ⟨(some 15), none, .load true 2 (.t 3)⟩,
  ⟨(some 16), none, .call (.c (.fn (.func 12) [] [])) [(.t 14), (.t 15)]⟩,
  ⟨(some 13), none, .mv (.t 16)⟩,
  ⟨(some 17), none, .ext (.t 13) 0⟩,
  ⟨(some 18), none, .ext (.t 13) 1⟩,
  ⟨(some 5), none, .alloc [(.int .u64 0), (.int .u64 0)]⟩,
  ⟨none, none, .store 2 (.t 5) (.t 17)⟩,
  ⟨(some 6), none, .mv (.t 18)⟩]
abbrev x6r2 : List XOper := [
  ⟨(some 20), none, .load true 2 (.t 5)⟩,
  ⟨(some 21), none, .load true 2 (.t 3)⟩,
  ⟨(some 22), none, .call (.c (.fn (.func 13) [] [])) [(.t 20), (.t 21)]⟩,
  ⟨(some 19), none, .mv (.t 22)⟩,
  ⟨(some 23), none, .ext (.t 19) 0⟩,
  ⟨(some 24), none, .ext (.t 19) 1⟩,
  ⟨(some 7), none, .alloc [(.int .u64 0), (.int .u64 0)]⟩,
  ⟨none, none, .store 2 (.t 7) (.t 23)⟩,
  ⟨(some 8), none, .mv (.t 24)⟩]
abbrev x6r3 : List XOper := [
  ⟨(some 26), none, .load true 2 (.t 2)⟩,
  ⟨(some 27), none, .load true 2 (.t 3)⟩,
  ⟨(some 28), none, .call (.c (.fn (.func 13) [] [])) [(.t 26), (.t 27)]⟩,
  ⟨(some 25), none, .mv (.t 28)⟩,
  ⟨(some 29), none, .ext (.t 25) 0⟩,
  ⟨(some 30), none, .ext (.t 25) 1⟩,
  ⟨(some 9), none, .alloc [(.int .u64 0), (.int .u64 0)]⟩,
  ⟨none, none, .store 2 (.t 9) (.t 29)⟩,
  ⟨(some 10), none, .mv (.t 30)⟩]
abbrev x6r4 : List XOper := [
  ⟨(some 32), none, .load true 2 (.t 9)⟩,
  ⟨(some 33), none, .load true 2 (.t 3)⟩,
  ⟨(some 34), none, .call (.c (.fn (.func 12) [] [])) [(.t 32), (.t 33)]⟩,
  ⟨(some 31), none, .mv (.t 34)⟩,
  ⟨(some 35), none, .ext (.t 31) 0⟩,
  ⟨(some 36), none, .ext (.t 31) 1⟩,
  ⟨(some 11), none, .alloc [(.int .u64 0), (.int .u64 0)]⟩,
  ⟨none, none, .store 2 (.t 11) (.t 35)⟩,
  ⟨(some 12), none, .mv (.t 36)⟩]
abbrev x6r5 : List XOper := [
  ⟨(some 37), none, .load true 2 (.t 7)⟩,
  ⟨(some 38), none, .load true 2 (.t 2)⟩,
  ⟨(some 39), none, .eqA true [0, 0] (.t 37) (.t 38)⟩,
  ⟨(some 40), none, .mv (.t 39)⟩,
  ⟨(some 41), (some (40, false)), .load true 2 (.t 11)⟩,
  ⟨(some 42), (some (40, false)), .load true 2 (.t 2)⟩,
  ⟨(some 43), (some (40, false)), .eqA true [0, 0] (.t 41) (.t 42)⟩,
  ⟨(some 44), none, .pick (.t 40) (.c (.bool true)) (.t 43)⟩,
  ⟨(some 45), none, .mv (.t 44)⟩,
  ⟨(some 46), (some (45, false)), .mv (.t 8)⟩,
  ⟨(some 47), (some (45, false)), .mv (.t 6)⟩,
  ⟨(some 48), (some (45, false)), .eqB true (.t 46) (.t 47)⟩,
  ⟨(some 49), none, .pick (.t 45) (.c (.bool true)) (.t 48)⟩,
  ⟨(some 50), none, .mv (.t 49)⟩,
  ⟨(some 51), (some (50, false)), .mv (.t 10)⟩,
  ⟨(some 52), (some (50, false)), .mv (.t 12)⟩,
  ⟨(some 53), (some (50, false)), .eqB true (.t 51) (.t 52)⟩,
  ⟨(some 54), none, .pick (.t 50) (.c (.bool true)) (.t 53)⟩,
  ⟨(some 55), none, .mv (.t 54)⟩,
  ⟨(some 56), (some (55, false)), .mv (.t 6)⟩,
  ⟨(some 57), (some (55, false)), .load true 2 (.t 5)⟩,
  ⟨(some 58), (some (55, false)), .load true 2 (.t 2)⟩,
  ⟨(some 59), (some (55, false)), .call (.c (.fn (.func 16) [] [])) [(.t 57), (.t 58)]⟩,
  ⟨(some 60), (some (55, false)), .eqB true (.t 56) (.t 59)⟩,
  ⟨(some 61), none, .pick (.t 55) (.c (.bool true)) (.t 60)⟩,
  ⟨(some 62), none, .mv (.t 61)⟩,
  ⟨(some 63), (some (62, false)), .mv (.t 10)⟩,
  ⟨(some 64), (some (62, false)), .load true 2 (.t 2)⟩,
  ⟨(some 65), (some (62, false)), .load true 2 (.t 3)⟩,
  ⟨(some 66), (some (62, false)), .call (.c (.fn (.func 16) [] [])) [(.t 64), (.t 65)]⟩,
  ⟨(some 67), (some (62, false)), .eqB true (.t 63) (.t 66)⟩,
  ⟨(some 68), none, .pick (.t 62) (.c (.bool true)) (.t 67)⟩]
abbrev x6r6 : List XOper := [
  ⟨(some 4), none, .mv (.c (.bool false))⟩]
abbrev x6r7 : List XOper := [
  ⟨(some 69), none, .call (.c (.fn (.func 10) [] [])) []⟩,
  ⟨(some 70), none, .mv (.t 69)⟩,
  ⟨(some 71), (some (70, true)), .load true 2 (.t 2)⟩,
  ⟨(some 72), (some (70, true)), .load true 2 (.t 3)⟩,
  ⟨(some 73), (some (70, true)), .eqA false [0, 0] (.t 71) (.t 72)⟩,
  ⟨(some 74), (some (70, true)), .load true 2 (.t 2)⟩,
  ⟨(some 75), (some (70, true)), .load true 2 (.t 3)⟩,
  ⟨(some 76), (some (70, true)), .call (.c (.fn (.func 16) [] [])) [(.t 74), (.t 75)]⟩,
  ⟨(some 77), (some (70, true)), .un .not (.t 76)⟩,
  ⟨(some 78), (some (70, true)), .mv (.t 77)⟩,
  ⟨(some 79), (some (78, true)), .load true 2 (.t 3)⟩,
  ⟨(some 80), (some (78, true)), .load true 2 (.t 2)⟩,
  ⟨(some 81), (some (78, true)), .call (.c (.fn (.func 16) [] [])) [(.t 79), (.t 80)]⟩,
  ⟨(some 82), (some (78, true)), .un .not (.t 81)⟩,
  ⟨(some 83), (some (70, true)), .pick (.t 78) (.t 82) (.c (.bool false))⟩,
  ⟨(some 84), (some (70, true)), .eqB false (.t 73) (.t 83)⟩,
  ⟨(some 85), none, .pick (.t 70) (.t 84) (.c (.bool false))⟩,
  ⟨(some 86), none, .mv (.t 85)⟩,
  ⟨(some 87), (some (86, true)), .load true 2 (.t 2)⟩,
  ⟨(some 88), (some (86, true)), .load true 2 (.t 3)⟩,
  ⟨(some 89), (some (86, true)), .call (.c (.fn (.func 16) [] [])) [(.t 87), (.t 88)]⟩,
  ⟨(some 90), (some (86, true)), .mv (.t 89)⟩,
  ⟨(some 91), (some (90, true)), .load true 2 (.t 3)⟩,
  ⟨(some 92), (some (90, true)), .load true 2 (.t 2)⟩,
  ⟨(some 93), (some (90, true)), .call (.c (.fn (.func 16) [] [])) [(.t 91), (.t 92)]⟩,
  ⟨(some 94), (some (86, true)), .pick (.t 90) (.t 93) (.c (.bool false))⟩,
  ⟨(some 95), (some (86, true)), .un .not (.t 94)⟩,
  ⟨(some 96), none, .pick (.t 86) (.t 95) (.c (.bool false))⟩,
  ⟨(some 4), none, .mv (.t 96)⟩]
/-- datum/datumlaw01.WideBack -/
abbrev x6b : XCode :=
  (.seq (.reg 0 x6r0 none)
  (.seq (.reg 1 x6r1 none)
  (.seq (.reg 2 x6r2 none)
  (.seq (.reg 3 x6r3 none)
  (.seq (.reg 4 x6r4 none)
  (.seq (.seq (.reg 5 x6r5 none)
  (.cond (.t 68)
    (.seq (.reg 6 x6r6 none)
    .ret)
    .skip))
  (.seq (.reg 7 x6r7 (some ⟨[(2, 7), (3, 7), (2, 12), (3, 12)]⟩))
  .ret)))))))
def x6 : XFunc := ⟨97, 2, [.tmp 4], x6b⟩
theorem x6_ok : chkF Try.prog Try.f6 x6 = true := by kernel_rfl
theorem x6_eq : x6.body = x6b ∧ x6.res = [.tmp 4] ∧ x6.np = 2 := ⟨rfl, rfl, rfl⟩

abbrev x7r0 : List XOper := [
  ⟨(some 2), none, .box (.t 0)⟩,
  ⟨(some 3), none, .box (.t 1)⟩,
  ⟨(some 4), none, .alloc [(.int .u64 0), (.int .u64 0)]⟩,
  ⟨(some 5), none, .mv (.c (.bool false))⟩]
abbrev x7r1 : List XOper := [
  ⟨(some 12), none, .fa 1 (.t 2)⟩,
  ⟨(some 13), none, .load false 1 (.t 12)⟩,
  ⟨(some 14), none, .fa 1 (.t 3)⟩,
  ⟨(some 15), none, .load false 1 (.t 14)⟩,
  ⟨(some 16), none, .call (.c (.fn (.func 11) [] [])) [(.t 13), (.t 15)]⟩,
  ⟨(some 6), none, .alloc [(.int .u64 0), (.int .u64 0)]⟩,
  ⟨none, none, .store 2 (.t 6) (.t 16)⟩]
abbrev x7r2 : List XOper := [
  ⟨(some 17), none, .fa 0 (.t 2)⟩,
  ⟨(some 18), none, .load false 1 (.t 17)⟩,
  ⟨(some 19), none, .bin .gtr (.t 18) (.c (.int .u64 0))⟩,
  ⟨(some 20), none, .mv (.t 19)⟩,
  ⟨(some 21), (some (20, true)), .fa 0 (.t 3)⟩,
  ⟨(some 22), (some (20, true)), .load false 1 (.t 21)⟩,
  ⟨(some 23), (some (20, true)), .bin .gtr (.t 22) (.c (.int .u64 0))⟩,
  ⟨(some 24), none, .pick (.t 20) (.t 23) (.c (.bool false))⟩,
  ⟨(some 7), none, .mv (.t 24)⟩]
abbrev x7r3 : List XOper := [
  ⟨(some 25), none, .fa 0 (.t 2)⟩,
  ⟨(some 26), none, .load false 1 (.t 25)⟩,
  ⟨(some 27), none, .fa 1 (.t 3)⟩,
  ⟨(some 28), none, .load false 1 (.t 27)⟩,
  ⟨(some 29), none, .call (.c (.fn (.func 11) [] [])) [(.t 26), (.t 28)]⟩,
  ⟨(some 30), none, .fa 1 (.t 2)⟩,
  ⟨(some 31), none, .load false 1 (.t 30)⟩,
  ⟨(some 32), none, .fa 0 (.t 3)⟩,
  ⟨(some 33), none, .load false 1 (.t 32)⟩,
  ⟨(some 34), none, .call (.c (.fn (.func 11) [] [])) [(.t 31), (.t 33)]⟩,
  ⟨(some 35), none, .build [(.int .u64 0), (.int .u64 0), (.int .u64 0), (.int .u64 0)] [(0, 2, (.t 29)), (2, 2, (.t 34))]⟩,
  ⟨(some 36), none, .mv (.c (.int .i64 0))⟩]
abbrev x7r4 : List XOper := [
  ⟨(some 37), none, .bin .lss (.t 36) (.c (.int .i64 2))⟩]
abbrev x7r5 : List XOper := [
  ⟨(some 38), none, .ixA true 2 2 (.t 35) (.t 36)⟩,
  ⟨(some 9), none, .alloc [(.int .u64 0), (.int .u64 0)]⟩,
  ⟨none, none, .store 2 (.t 9) (.t 38)⟩]
abbrev x7r6 : List XOper := [
  ⟨(some 40), none, .fa 0 (.t 6)⟩,
  ⟨(some 41), none, .load false 1 (.t 40)⟩,
  ⟨(some 42), none, .fa 1 (.t 9)⟩,
  ⟨(some 43), none, .load false 1 (.t 42)⟩,
  ⟨(some 44), none, .call (.c (.fn (.func 18) [] [])) [(.t 41), (.t 43), (.c (.int .u64 0))]⟩,
  ⟨(some 39), none, .mv (.t 44)⟩,
  ⟨(some 45), none, .ext (.t 39) 0⟩,
  ⟨(some 46), none, .ext (.t 39) 1⟩,
  ⟨(some 10), none, .mv (.t 45)⟩,
  ⟨(some 11), none, .mv (.t 46)⟩]
abbrev x7r7 : List XOper := [
  ⟨(some 47), none, .mv (.t 10)⟩,
  ⟨(some 48), none, .mv (.t 7)⟩,
  ⟨(some 49), none, .mv (.t 48)⟩,
  ⟨(some 50), (some (49, false)), .mv (.t 11)⟩,
  ⟨(some 51), (some (49, false)), .bin .gtr (.t 50) (.c (.int .u64 0))⟩,
  ⟨(some 52), none, .pick (.t 49) (.c (.bool true)) (.t 51)⟩,
  ⟨(some 53), none, .mv (.t 52)⟩,
  ⟨(some 54), (some (53, false)), .fa 0 (.t 9)⟩,
  ⟨(some 55), (some (53, false)), .load false 1 (.t 54)⟩,
  ⟨(some 56), (some (53, false)), .bin .gtr (.t 55) (.c (.int .u64 0))⟩,
  ⟨(some 57), none, .pick (.t 53) (.c (.bool true)) (.t 56)⟩,
  ⟨(some 58), none, .fa 0 (.t 6)⟩,
  ⟨none, none, .store 1 (.t 58) (.t 47)⟩,
  ⟨(some 7), none, .mv (.t 57)⟩]
abbrev x7r8 : List XOper := [
  ⟨(some 59), none, .bin .add (.t 36) (.c (.int .i64 1))⟩,
  ⟨(some 36), none, .mv (.t 59)⟩]
abbrev x7l4 : XCode :=
  (.seq (.reg 4 x7r4 none)
  (.seq (.cond (.t 37)
    .skip
    (.exit 0))
  (.seq (.block 1
    (.seq (.reg 5 x7r5 none)
    (.seq (.reg 6 x7r6 none)
    (.reg 7 x7r7 (some ⟨[(8, 12)]⟩)))))
  (.reg 8 x7r8 none))))
abbrev x7r9 : List XOper := [
  ⟨(some 60), none, .load true 2 (.t 6)⟩,
  ⟨(some 61), none, .mv (.t 7)⟩,
  ⟨none, none, .store 2 (.t 4) (.t 60)⟩,
  ⟨(some 5), none, .mv (.t 61)⟩]
/-- datum/wide.Times -/
abbrev x7b : XCode :=
  (.seq (.reg 0 x7r0 none)
  (.seq (.reg 1 x7r1 none)
  (.seq (.reg 2 x7r2 none)
  (.seq (.seq (.reg 3 x7r3 (some ⟨[(4, 6), (4, 8)]⟩))
  (.block 0
    (.loop x7l4)))
  (.seq (.reg 9 x7r9 none)
  .ret)))))
def x7 : XFunc := ⟨62, 2, [.cell 4 true 2, .tmp 5], x7b⟩
theorem x7_ok : chkF Try.prog Try.f7 x7 = true := by kernel_rfl
theorem x7_eq : x7.body = x7b ∧ x7.res = [.cell 4 true 2, .tmp 5] ∧ x7.np = 2 := ⟨rfl, rfl, rfl⟩

abbrev x8r0 : List XOper := [
  ⟨(some 2), none, .box (.t 0)⟩,
  ⟨(some 3), none, .box (.t 1)⟩,
  ⟨(some 4), none, .alloc [(.int .u64 0), (.int .u64 0)]⟩,
  ⟨(some 5), none, .mv (.c (.bool false))⟩]
abbrev x8r1 : List XOper := [
  ⟨(some 15), none, .load true 2 (.t 2)⟩,
  ⟨(some 16), none, .call (.c (.fn (.func 19) [] [])) [(.t 15)]⟩,
  ⟨(some 6), none, .mv (.t 16)⟩]
abbrev x8r2 : List XOper := [
  ⟨(some 17), none, .load true 2 (.t 3)⟩,
  ⟨(some 18), none, .call (.c (.fn (.func 19) [] [])) [(.t 17)]⟩,
  ⟨(some 7), none, .mv (.t 18)⟩]
abbrev x8r3 : List XOper := [
  ⟨(some 19), none, .mkslice 1 (.int .u64 0) 0 []⟩,
  ⟨(some 8), none, .mv (.t 19)⟩]
abbrev x8r4 : List XOper := [
  ⟨(some 9), none, .mv (.c (.int .i64 0))⟩]
abbrev x8r5 : List XOper := [
  ⟨(some 20), none, .mv (.t 9)⟩,
  ⟨(some 21), none, .bin .lss (.t 20) (.c (.int .i64 16))⟩]
abbrev x8r7 : List XOper := [
  ⟨(some 10), none, .mv (.c (.int .u64 0))⟩]
abbrev x8r8 : List XOper := [
  ⟨(some 24), none, .mv (.t 6)⟩,
  ⟨(some 25), none, .lenV (.t 24)⟩,
  ⟨(some 26), none, .mv (.c (.int .i64 0))⟩]
abbrev x8r9 : List XOper := [
  ⟨(some 27), none, .bin .lss (.t 26) (.t 25)⟩]
abbrev x8r10 : List XOper := [
  ⟨(some 28), none, .mv (.t 26)⟩,
  ⟨(some 11), none, .mv (.t 28)⟩]
abbrev x8r11 : List XOper := [
  ⟨(some 29), none, .mv (.t 9)⟩,
  ⟨(some 30), none, .mv (.t 11)⟩,
  ⟨(some 31), none, .bin .sub (.t 29) (.t 30)⟩,
  ⟨(some 32), none, .bin .geq (.t 31) (.c (.int .i64 0))⟩,
  ⟨(some 33), none, .mv (.t 32)⟩,
  ⟨(some 34), (some (33, true)), .mv (.t 9)⟩,
  ⟨(some 35), (some (33, true)), .mv (.t 11)⟩,
  ⟨(some 36), (some (33, true)), .bin .sub (.t 34) (.t 35)⟩,
  ⟨(some 37), (some (33, true)), .bin .lss (.t 36) (.c (.int .i64 8))⟩,
  ⟨(some 38), none, .pick (.t 33) (.t 37) (.c (.bool false))⟩]
abbrev x8r12 : List XOper := [
  ⟨(some 39), none, .mv (.t 10)⟩,
  ⟨(some 40), none, .mv (.t 6)⟩,
  ⟨(some 41), none, .mv (.t 11)⟩,
  ⟨(some 42), none, .iaS 1 (.t 40) (.t 41)⟩,
  ⟨(some 43), none, .load false 1 (.t 42)⟩,
  ⟨(some 44), none, .mv (.t 7)⟩,
  ⟨(some 45), none, .mv (.t 9)⟩,
  ⟨(some 46), none, .mv (.t 11)⟩,
  ⟨(some 47), none, .bin .sub (.t 45) (.t 46)⟩,
  ⟨(some 48), none, .iaS 1 (.t 44) (.t 47)⟩,
  ⟨(some 49), none, .load false 1 (.t 48)⟩,
  ⟨(some 50), none, .bin .mul (.t 43) (.t 49)⟩,
  ⟨(some 51), none, .bin .add (.t 39) (.t 50)⟩,
  ⟨(some 10), none, .mv (.t 51)⟩]
abbrev x8r13 : List XOper := [
  ⟨(some 52), none, .bin .add (.t 26) (.c (.int .i64 1))⟩,
  ⟨(some 26), none, .mv (.t 52)⟩]
abbrev x8l8 : XCode :=
  (.seq (.reg 9 x8r9 none)
  (.seq (.cond (.t 27)
    .skip
    (.exit 2))
  (.seq (.block 3
    (.seq (.reg 10 x8r10 none)
    (.seq (.reg 11 x8r11 none)
    (.cond (.t 38)
      (.reg 12 x8r12 (some ⟨[]⟩))
      .skip))))
  (.reg 13 x8r13 none))))
abbrev x8r14 : List XOper := [
  ⟨(some 53), none, .mv (.t 8)⟩,
  ⟨(some 54), none, .mv (.t 10)⟩,
  ⟨(some 55), none, .mkslice 1 (.int .u64 0) 1 [(0, (.t 54))]⟩,
  ⟨(some 56), none, .app 1 8 (.t 53) (.t 55)⟩,
  ⟨(some 8), none, .mv (.t 56)⟩]
abbrev x8r6 : List XOper := [
  ⟨(some 22), none, .mv (.t 9)⟩,
  ⟨(some 23), none, .bin .add (.t 22) (.c (.int .i64 1))⟩,
  ⟨(some 9), none, .mv (.t 23)⟩]
abbrev x8l5 : XCode :=
  (.seq (.seq (.reg 5 x8r5 none)
  (.cond (.t 21)
    .skip
    (.exit 0)))
  (.seq (.block 1
    (.seq (.reg 7 x8r7 none)
    (.seq (.seq (.reg 8 x8r8 none)
    (.block 2
      (.loop x8l8)))
    (.reg 14 x8r14 none))))
  (.reg 6 x8r6 none)))
abbrev x8r15 : List XOper := [
  ⟨(some 57), none, .mv (.t 8)⟩,
  ⟨(some 58), none, .call (.c (.fn (.func 20) [] [])) [(.t 57)]⟩,
  ⟨(some 8), none, .mv (.t 58)⟩]
abbrev x8r16 : List XOper := [
  ⟨(some 12), none, .mv (.c (.bool false))⟩]
abbrev x8r17 : List XOper := [
  ⟨(some 59), none, .mv (.t 8)⟩,
  ⟨(some 60), none, .slV 1 (.t 59) (some (.c (.int .i64 8))) none none⟩,
  ⟨(some 61), none, .lenV (.t 60)⟩,
  ⟨(some 62), none, .mv (.c (.int .i64 0))⟩]
abbrev x8r18 : List XOper := [
  ⟨(some 63), none, .bin .lss (.t 62) (.t 61)⟩]
abbrev x8r19 : List XOper := [
  ⟨(some 64), none, .iaS 1 (.t 60) (.t 62)⟩,
  ⟨(some 65), none, .load false 1 (.t 64)⟩,
  ⟨(some 14), none, .mv (.t 65)⟩]
abbrev x8r20 : List XOper := [
  ⟨(some 66), none, .mv (.t 14)⟩,
  ⟨(some 67), none, .bin .gtr (.t 66) (.c (.int .u64 0))⟩]
abbrev x8r21 : List XOper := [
  ⟨(some 12), none, .mv (.c (.bool true))⟩]
abbrev x8r22 : List XOper := [
  ⟨(some 68), none, .bin .add (.t 62) (.c (.int .i64 1))⟩,
  ⟨(some 62), none, .mv (.t 68)⟩]
abbrev x8l20 : XCode :=
  (.seq (.reg 18 x8r18 none)
  (.seq (.cond (.t 63)
    .skip
    (.exit 4))
  (.seq (.block 5
    (.seq (.reg 19 x8r19 none)
    (.seq (.reg 20 x8r20 none)
    (.cond (.t 67)
      (.reg 21 x8r21 none)
      .skip))))
  (.reg 22 x8r22 none))))
abbrev x8r23 : List XOper := [
  ⟨(some 69), none, .mv (.t 8)⟩,
  ⟨(some 70), none, .call (.c (.fn (.func 21) [] [])) [(.t 69)]⟩,
  ⟨(some 71), none, .mv (.t 12)⟩,
  ⟨none, none, .store 2 (.t 4) (.t 70)⟩,
  ⟨(some 5), none, .mv (.t 71)⟩]
/-- datum/datumref01.Times -/
abbrev x8b : XCode :=
  (.seq (.reg 0 x8r0 none)
  (.seq (.reg 1 x8r1 none)
  (.seq (.reg 2 x8r2 none)
  (.seq (.reg 3 x8r3 none)
  (.seq (.seq (.reg 4 x8r4 none)
  (.block 0
    (.loop x8l5)))
  (.seq (.reg 15 x8r15 none)
  (.seq (.reg 16 x8r16 none)
  (.seq (.seq (.reg 17 x8r17 none)
  (.block 4
    (.loop x8l20)))
  (.seq (.reg 23 x8r23 none)
  .ret)))))))))
def x8 : XFunc := ⟨72, 2, [.cell 4 true 2, .tmp 5], x8b⟩
theorem x8_ok : chkF Try.prog Try.f8 x8 = true := by kernel_rfl
theorem x8_eq : x8.body = x8b ∧ x8.res = [.cell 4 true 2, .tmp 5] ∧ x8.np = 2 := ⟨rfl, rfl, rfl⟩

abbrev x9r0 : List XOper := [
  ⟨(some 2), none, .alloc [(.int .u64 0), (.int .u64 0)]⟩]
abbrev x9r1 : List XOper := [
  ⟨(some 3), none, .mv (.t 0)⟩,
  ⟨(some 4), none, .build [(.int .u64 0), (.int .u64 0)] [(1, 1, (.t 3))]⟩,
  ⟨none, none, .store 2 (.t 2) (.t 4)⟩]
/-- datum/datumref01.Of -/
abbrev x9b : XCode :=
  (.seq (.reg 0 x9r0 none)
  (.seq (.reg 1 x9r1 none)
  .ret))
def x9 : XFunc := ⟨5, 1, [.cell 2 true 2], x9b⟩
theorem x9_ok : chkF Try.prog Try.f9 x9 = true := by kernel_rfl
theorem x9_eq : x9.body = x9b ∧ x9.res = [.cell 2 true 2] ∧ x9.np = 1 := ⟨rfl, rfl, rfl⟩

abbrev x10r0 : List XOper := [
  ⟨(some 0), none, .mv (.c (.bool false))⟩]
abbrev x10r1 : List XOper := [
  ⟨(some 4), none, .call (.c (.fn (.func 11) [] [])) [(.c (.int .u64 9223372036854775808)), (.c (.int .u64 4))]⟩,
  ⟨(some 1), none, .alloc [(.int .u64 0), (.int .u64 0)]⟩,
  ⟨none, none, .store 2 (.t 1) (.t 4)⟩]
abbrev x10r2 : List XOper := [
  ⟨(some 6), none, .load true 2 (.t 1)⟩,
  ⟨(some 7), none, .build [(.int .u64 0), (.int .u64 0)] [(1, 1, (.c (.int .u64 3)))]⟩,
  ⟨(some 8), none, .call (.c (.fn (.func 12) [] [])) [(.t 6), (.t 7)]⟩,
  ⟨(some 5), none, .mv (.t 8)⟩,
  ⟨(some 9), none, .ext (.t 5) 0⟩,
  ⟨(some 10), none, .ext (.t 5) 1⟩,
  ⟨(some 2), none, .alloc [(.int .u64 0), (.int .u64 0)]⟩,
  ⟨none, none, .store 2 (.t 2) (.t 9)⟩,
  ⟨(some 3), none, .mv (.t 10)⟩]
abbrev x10r3 : List XOper := [
  ⟨(some 11), none, .fa 0 (.t 1)⟩,
  ⟨(some 12), none, .load false 1 (.t 11)⟩,
  ⟨(some 13), none, .bin .eql (.t 12) (.c (.int .u64 2))⟩,
  ⟨(some 14), none, .mv (.t 13)⟩,
  ⟨(some 15), (some (14, true)), .fa 1 (.t 1)⟩,
  ⟨(some 16), (some (14, true)), .load false 1 (.t 15)⟩,
  ⟨(some 17), (some (14, true)), .bin .eql (.t 16) (.c (.int .u64 0))⟩,
  ⟨(some 18), none, .pick (.t 14) (.t 17) (.c (.bool false))⟩,
  ⟨(some 19), none, .mv (.t 18)⟩,
  ⟨(some 20), (some (19, true)), .fa 1 (.t 2)⟩,
  ⟨(some 21), (some (19, true)), .load false 1 (.t 20)⟩,
  ⟨(some 22), (some (19, true)), .bin .eql (.t 21) (.c (.int .u64 3))⟩,
  ⟨(some 23), none, .pick (.t 19) (.t 22) (.c (.bool false))⟩,
  ⟨(some 24), none, .mv (.t 23)⟩,
  ⟨(some 25), (some (24, true)), .mv (.t 3)⟩,
  ⟨(some 26), (some (24, true)), .un .not (.t 25)⟩,
  ⟨(some 27), none, .pick (.t 24) (.t 26) (.c (.bool false))⟩,
  ⟨(some 28), none, .mv (.t 27)⟩,
  ⟨(some 29), (some (28, true)), .load true 2 (.t 1)⟩,
  ⟨(some 30), (some (28, true)), .load true 2 (.t 2)⟩,
  ⟨(some 31), (some (28, true)), .call (.c (.fn (.func 16) [] [])) [(.t 29), (.t 30)]⟩,
  ⟨(some 32), none, .pick (.t 28) (.t 31) (.c (.bool false))⟩,
  ⟨(some 0), none, .mv (.t 32)⟩]
/-- datum/datumlaw01.alive -/
abbrev x10b : XCode :=
  (.seq (.reg 0 x10r0 none)
  (.seq (.reg 1 x10r1 none)
  (.seq (.reg 2 x10r2 none)
  (.seq (.reg 3 x10r3 none)
  .ret))))
def x10 : XFunc := ⟨33, 0, [.tmp 0], x10b⟩
theorem x10_ok : chkF Try.prog Try.f10 x10 = true := by kernel_rfl
theorem x10_eq : x10.body = x10b ∧ x10.res = [.tmp 0] ∧ x10.np = 0 := ⟨rfl, rfl, rfl⟩

abbrev x11r0 : List XOper := [
  ⟨(some 4), none, .alloc [(.int .u64 0), (.int .u64 0)]⟩]
abbrev x11r1 : List XOper := [
  ⟨(some 8), none, .mv (.t 0)⟩,
  ⟨(some 9), none, .mv (.t 1)⟩,
  ⟨(some 10), none, .call (.c (.fn (.func 22) [] [])) [(.t 8), (.t 9)]⟩,
  ⟨(some 7), none, .mv (.t 10)⟩,
  ⟨(some 11), none, .ext (.t 7) 0⟩,
  ⟨(some 12), none, .ext (.t 7) 1⟩,
  ⟨(some 5), none, .mv (.t 11)⟩,
  ⟨(some 6), none, .mv (.t 12)⟩]
abbrev x11r2 : List XOper := [
  ⟨(some 13), none, .mv (.t 5)⟩,
  ⟨(some 14), none, .mv (.t 6)⟩,
  ⟨(some 15), none, .build [(.int .u64 0), (.int .u64 0)] [(0, 1, (.t 13)), (1, 1, (.t 14))]⟩,
  ⟨none, none, .store 2 (.t 4) (.t 15)⟩]
/-- datum/wide.Mul -/
abbrev x11b : XCode :=
  (.seq (.reg 0 x11r0 none)
  (.seq (.reg 1 x11r1 none)
  (.seq (.reg 2 x11r2 none)
  .ret)))
def x11 : XFunc := ⟨16, 2, [.cell 4 true 2], x11b⟩
theorem x11_ok : chkF Try.prog Try.f11 x11 = true := by kernel_rfl
theorem x11_eq : x11.body = x11b ∧ x11.res = [.cell 4 true 2] ∧ x11.np = 2 := ⟨rfl, rfl, rfl⟩

abbrev x12r0 : List XOper := [
  ⟨(some 2), none, .box (.t 0)⟩,
  ⟨(some 3), none, .box (.t 1)⟩,
  ⟨(some 4), none, .alloc [(.int .u64 0), (.int .u64 0)]⟩,
  ⟨(some 5), none, .mv (.c (.bool false))⟩]
abbrev x12r1 : List XOper := [
  ⟨(some 11), none, .load true 2 (.t 2)⟩,
  ⟨(some 12), none, .call (.c (.fn (.func 23) [] [])) [(.t 11)]⟩,
  ⟨(some 13), none, .load true 2 (.t 3)⟩,
  ⟨(some 14), none, .call (.c (.fn (.func 23) [] [])) [(.t 13)]⟩,
  ⟨(some 6), none, .alloc [(.int .u64 0), (.int .u64 0)]⟩,
  ⟨(some 7), none, .alloc [(.int .u64 0), (.int .u64 0)]⟩,
  ⟨none, none, .store 2 (.t 6) (.t 12)⟩,
  ⟨none, none, .store 2 (.t 7) (.t 14)⟩]
abbrev x12r2 : List XOper := [
  ⟨(some 8), none, .alloc [(.int .u64 0), (.int .u64 0)]⟩]
abbrev x12r3 : List XOper := [
  ⟨(some 9), none, .mv (.c (.int .u64 0))⟩]
abbrev x12r4 : List XOper := [
  ⟨(some 15), none, .mv (.c (.int .i64 0))⟩]
abbrev x12r5 : List XOper := [
  ⟨(some 16), none, .bin .lss (.t 15) (.c (.int .i64 2))⟩]
abbrev x12r6 : List XOper := [
  ⟨(some 17), none, .mv (.t 15)⟩,
  ⟨(some 10), none, .mv (.t 17)⟩]
abbrev x12r7 : List XOper := [
  ⟨(some 19), none, .mv (.t 10)⟩,
  ⟨(some 20), none, .mv (.t 10)⟩,
  ⟨(some 21), none, .iaA 2 1 (.t 6) (.t 20)⟩,
  ⟨(some 22), none, .load false 1 (.t 21)⟩,
  ⟨(some 23), none, .mv (.t 10)⟩,
  ⟨(some 24), none, .iaA 2 1 (.t 7) (.t 23)⟩,
  ⟨(some 25), none, .load false 1 (.t 24)⟩,
  ⟨(some 26), none, .mv (.t 9)⟩,
  ⟨(some 27), none, .call (.c (.fn (.func 18) [] [])) [(.t 22), (.t 25), (.t 26)]⟩,
  ⟨(some 18), none, .mv (.t 27)⟩,
  ⟨(some 28), none, .ext (.t 18) 0⟩,
  ⟨(some 29), none, .ext (.t 18) 1⟩,
  ⟨(some 30), none, .iaA 2 1 (.t 8) (.t 19)⟩,
  ⟨none, none, .store 1 (.t 30) (.t 28)⟩,
  ⟨(some 9), none, .mv (.t 29)⟩]
abbrev x12r8 : List XOper := [
  ⟨(some 31), none, .bin .add (.t 15) (.c (.int .i64 1))⟩,
  ⟨(some 15), none, .mv (.t 31)⟩]
abbrev x12l5 : XCode :=
  (.seq (.reg 5 x12r5 none)
  (.seq (.cond (.t 16)
    .skip
    (.exit 0))
  (.seq (.block 1
    (.seq (.reg 6 x12r6 none)
    (.reg 7 x12r7 (some ⟨[]⟩))))
  (.reg 8 x12r8 none))))
abbrev x12r9 : List XOper := [
  ⟨(some 32), none, .iaA 2 1 (.t 8) (.c (.int .i64 1))⟩,
  ⟨(some 33), none, .load false 1 (.t 32)⟩,
  ⟨(some 34), none, .iaA 2 1 (.t 8) (.c (.int .i64 0))⟩,
  ⟨(some 35), none, .load false 1 (.t 34)⟩,
  ⟨(some 36), none, .build [(.int .u64 0), (.int .u64 0)] [(0, 1, (.t 33)), (1, 1, (.t 35))]⟩,
  ⟨(some 37), none, .mv (.t 9)⟩,
  ⟨(some 38), none, .bin .gtr (.t 37) (.c (.int .u64 0))⟩,
  ⟨none, none, .store 2 (.t 4) (.t 36)⟩,
  ⟨(some 5), none, .mv (.t 38)⟩]
/-- datum/wide.Add -/
abbrev x12b : XCode :=
  (.seq (.reg 0 x12r0 none)
  (.seq (.reg 1 x12r1 (some ⟨[(1, 2), (0, 4), (1, 4), (2, 4), (3, 4), (0, 5), (1, 5), (2, 5), (3, 5), (4, 5)]⟩))
  (.seq (.reg 2 x12r2 none)
  (.seq (.reg 3 x12r3 none)
  (.seq (.seq (.reg 4 x12r4 none)
  (.block 0
    (.loop x12l5)))
  (.seq (.reg 9 x12r9 none)
  .ret))))))
def x12 : XFunc := ⟨39, 2, [.cell 4 true 2, .tmp 5], x12b⟩
theorem x12_ok : chkF Try.prog Try.f12 x12 = true := by kernel_rfl
theorem x12_eq : x12.body = x12b ∧ x12.res = [.cell 4 true 2, .tmp 5] ∧ x12.np = 2 := ⟨rfl, rfl, rfl⟩

abbrev x13r0 : List XOper := [
  ⟨(some 2), none, .box (.t 0)⟩,
  ⟨(some 3), none, .box (.t 1)⟩,
  ⟨(some 4), none, .alloc [(.int .u64 0), (.int .u64 0)]⟩,
  ⟨(some 5), none, .mv (.c (.bool false))⟩]
abbrev x13r1 : List XOper := [
  ⟨(some 11), none, .load true 2 (.t 2)⟩,
  ⟨(some 12), none, .call (.c (.fn (.func 23) [] [])) [(.t 11)]⟩,
  ⟨(some 13), none, .load true 2 (.t 3)⟩,
  ⟨(some 14), none, .call (.c (.fn (.func 23) [] [])) [(.t 13)]⟩,
  ⟨(some 6), none, .alloc [(.int .u64 0), (.int .u64 0)]⟩,
  ⟨(some 7), none, .alloc [(.int .u64 0), (.int .u64 0)]⟩,
  ⟨none, none, .store 2 (.t 6) (.t 12)⟩,
  ⟨none, none, .store 2 (.t 7) (.t 14)⟩]
abbrev x13r2 : List XOper := [
  ⟨(some 8), none, .alloc [(.int .u64 0), (.int .u64 0)]⟩]
abbrev x13r3 : List XOper := [
  ⟨(some 9), none, .mv (.c (.int .u64 0))⟩]
abbrev x13r4 : List XOper := [
  ⟨(some 15), none, .mv (.c (.int .i64 0))⟩]
abbrev x13r5 : List XOper := [
  ⟨(some 16), none, .bin .lss (.t 15) (.c (.int .i64 2))⟩]
abbrev x13r6 : List XOper := [
  ⟨(some 17), none, .mv (.t 15)⟩,
  ⟨(some 10), none, .mv (.t 17)⟩]
abbrev x13r7 : List XOper := [
  ⟨(some 19), none, .mv (.t 10)⟩,
  ⟨(some 20), none, .mv (.t 10)⟩,
  ⟨(some 21), none, .iaA 2 1 (.t 6) (.t 20)⟩,
  ⟨(some 22), none, .load false 1 (.t 21)⟩,
  ⟨(some 23), none, .mv (.t 10)⟩,
  ⟨(some 24), none, .iaA 2 1 (.t 7) (.t 23)⟩,
  ⟨(some 25), none, .load false 1 (.t 24)⟩,
  ⟨(some 26), none, .mv (.t 9)⟩,
  ⟨(some 27), none, .call (.c (.fn (.func 24) [] [])) [(.t 22), (.t 25), (.t 26)]⟩,
  ⟨(some 18), none, .mv (.t 27)⟩,
  ⟨(some 28), none, .ext (.t 18) 0⟩,
  ⟨(some 29), none, .ext (.t 18) 1⟩,
  ⟨(some 30), none, .iaA 2 1 (.t 8) (.t 19)⟩,
  ⟨none, none, .store 1 (.t 30) (.t 28)⟩,
  ⟨(some 9), none, .mv (.t 29)⟩]
abbrev x13r8 : List XOper := [
  ⟨(some 31), none, .bin .add (.t 15) (.c (.int .i64 1))⟩,
  ⟨(some 15), none, .mv (.t 31)⟩]
abbrev x13l5 : XCode :=
  (.seq (.reg 5 x13r5 none)
  (.seq (.cond (.t 16)
    .skip
    (.exit 0))
  (.seq (.block 1
    (.seq (.reg 6 x13r6 none)
    (.reg 7 x13r7 (some ⟨[]⟩))))
  (.reg 8 x13r8 none))))
abbrev x13r9 : List XOper := [
  ⟨(some 32), none, .iaA 2 1 (.t 8) (.c (.int .i64 1))⟩,
  ⟨(some 33), none, .load false 1 (.t 32)⟩,
  ⟨(some 34), none, .iaA 2 1 (.t 8) (.c (.int .i64 0))⟩,
  ⟨(some 35), none, .load false 1 (.t 34)⟩,
  ⟨(some 36), none, .build [(.int .u64 0), (.int .u64 0)] [(0, 1, (.t 33)), (1, 1, (.t 35))]⟩,
  ⟨(some 37), none, .mv (.t 9)⟩,
  ⟨(some 38), none, .bin .gtr (.t 37) (.c (.int .u64 0))⟩,
  ⟨none, none, .store 2 (.t 4) (.t 36)⟩,
  ⟨(some 5), none, .mv (.t 38)⟩]
/-- datum/wide.Sub -/
abbrev x13b : XCode :=
  (.seq (.reg 0 x13r0 none)
  (.seq (.reg 1 x13r1 (some ⟨[(1, 2), (0, 4), (1, 4), (2, 4), (3, 4), (0, 5), (1, 5), (2, 5), (3, 5), (4, 5)]⟩))
  (.seq (.reg 2 x13r2 none)
  (.seq (.reg 3 x13r3 none)
  (.seq (.seq (.reg 4 x13r4 none)
  (.block 0
    (.loop x13l5)))
  (.seq (.reg 9 x13r9 none)
  .ret))))))
def x13 : XFunc := ⟨39, 2, [.cell 4 true 2, .tmp 5], x13b⟩
theorem x13_ok : chkF Try.prog Try.f13 x13 = true := by kernel_rfl
theorem x13_eq : x13.body = x13b ∧ x13.res = [.cell 4 true 2, .tmp 5] ∧ x13.np = 2 := ⟨rfl, rfl, rfl⟩

abbrev x14r0 : List XOper := [
  ⟨(some 2), none, .box (.t 0)⟩,
  ⟨(some 3), none, .box (.t 1)⟩,
  ⟨(some 4), none, .alloc [(.int .u64 0), (.int .u64 0)]⟩,
  ⟨(some 5), none, .mv (.c (.bool false))⟩]
abbrev x14r1 : List XOper := [
  ⟨(some 10), none, .load true 2 (.t 2)⟩,
  ⟨(some 11), none, .call (.c (.fn (.func 19) [] [])) [(.t 10)]⟩,
  ⟨(some 6), none, .mv (.t 11)⟩]
abbrev x14r2 : List XOper := [
  ⟨(some 12), none, .load true 2 (.t 3)⟩,
  ⟨(some 13), none, .call (.c (.fn (.func 19) [] [])) [(.t 12)]⟩,
  ⟨(some 7), none, .mv (.t 13)⟩]
abbrev x14r3 : List XOper := [
  ⟨(some 14), none, .mkslice 1 (.int .u64 0) 0 []⟩,
  ⟨(some 8), none, .mv (.t 14)⟩]
abbrev x14r4 : List XOper := [
  ⟨(some 15), none, .mv (.t 6)⟩,
  ⟨(some 16), none, .lenV (.t 15)⟩,
  ⟨(some 17), none, .mv (.c (.int .i64 0))⟩]
abbrev x14r5 : List XOper := [
  ⟨(some 18), none, .bin .lss (.t 17) (.t 16)⟩]
abbrev x14r6 : List XOper := [
  ⟨(some 19), none, .mv (.t 17)⟩,
  ⟨(some 9), none, .mv (.t 19)⟩]
abbrev x14r7 : List XOper := [
  ⟨(some 20), none, .mv (.t 8)⟩,
  ⟨(some 21), none, .mv (.t 6)⟩,
  ⟨(some 22), none, .mv (.t 9)⟩,
  ⟨(some 23), none, .iaS 1 (.t 21) (.t 22)⟩,
  ⟨(some 24), none, .load false 1 (.t 23)⟩,
  ⟨(some 25), none, .mv (.t 7)⟩,
  ⟨(some 26), none, .mv (.t 9)⟩,
  ⟨(some 27), none, .iaS 1 (.t 25) (.t 26)⟩,
  ⟨(some 28), none, .load false 1 (.t 27)⟩,
  ⟨(some 29), none, .bin .add (.t 24) (.t 28)⟩,
  ⟨(some 30), none, .mkslice 1 (.int .u64 0) 1 [(0, (.t 29))]⟩,
  ⟨(some 31), none, .app 1 8 (.t 20) (.t 30)⟩,
  ⟨(some 8), none, .mv (.t 31)⟩]
abbrev x14r8 : List XOper := [
  ⟨(some 32), none, .bin .add (.t 17) (.c (.int .i64 1))⟩,
  ⟨(some 17), none, .mv (.t 32)⟩]
abbrev x14l5 : XCode :=
  (.seq (.reg 5 x14r5 none)
  (.seq (.cond (.t 18)
    .skip
    (.exit 0))
  (.seq (.block 1
    (.seq (.reg 6 x14r6 none)
    (.reg 7 x14r7 (some ⟨[]⟩))))
  (.reg 8 x14r8 none))))
abbrev x14r9 : List XOper := [
  ⟨(some 33), none, .mv (.t 8)⟩,
  ⟨(some 34), none, .call (.c (.fn (.func 20) [] [])) [(.t 33)]⟩,
  ⟨(some 8), none, .mv (.t 34)⟩]
abbrev x14r10 : List XOper := [
  ⟨(some 35), none, .mv (.t 8)⟩,
  ⟨(some 36), none, .call (.c (.fn (.func 21) [] [])) [(.t 35)]⟩,
  ⟨(some 37), none, .mv (.t 8)⟩,
  ⟨(some 38), none, .iaS 1 (.t 37) (.c (.int .i64 8))⟩,
  ⟨(some 39), none, .load false 1 (.t 38)⟩,
  ⟨(some 40), none, .bin .gtr (.t 39) (.c (.int .u64 0))⟩,
  ⟨none, none, .store 2 (.t 4) (.t 36)⟩,
  ⟨(some 5), none, .mv (.t 40)⟩]
/-- datum/datumref01.Add -/
abbrev x14b : XCode :=
  (.seq (.reg 0 x14r0 none)
  (.seq (.reg 1 x14r1 none)
  (.seq (.reg 2 x14r2 none)
  (.seq (.reg 3 x14r3 none)
  (.seq (.seq (.reg 4 x14r4 none)
  (.block 0
    (.loop x14l5)))
  (.seq (.reg 9 x14r9 none)
  (.seq (.reg 10 x14r10 (some ⟨[(1, 4), (4, 6)]⟩))
  .ret)))))))
def x14 : XFunc := ⟨41, 2, [.cell 4 true 2, .tmp 5], x14b⟩
theorem x14_ok : chkF Try.prog Try.f14 x14 = true := by kernel_rfl
theorem x14_eq : x14.body = x14b ∧ x14.res = [.cell 4 true 2, .tmp 5] ∧ x14.np = 2 := ⟨rfl, rfl, rfl⟩

abbrev x15r0 : List XOper := [
  ⟨(some 2), none, .box (.t 0)⟩,
  ⟨(some 3), none, .box (.t 1)⟩,
  ⟨(some 4), none, .alloc [(.int .u64 0), (.int .u64 0)]⟩,
  ⟨(some 5), none, .mv (.c (.bool false))⟩]
abbrev x15r1 : List XOper := [
  ⟨(some 10), none, .load true 2 (.t 2)⟩,
  ⟨(some 11), none, .call (.c (.fn (.func 19) [] [])) [(.t 10)]⟩,
  ⟨(some 6), none, .mv (.t 11)⟩]
abbrev x15r2 : List XOper := [
  ⟨(some 12), none, .load true 2 (.t 3)⟩,
  ⟨(some 13), none, .call (.c (.fn (.func 19) [] [])) [(.t 12)]⟩,
  ⟨(some 7), none, .mv (.t 13)⟩]
abbrev x15r3 : List XOper := [
  ⟨(some 14), none, .mkslice 1 (.int .u64 0) 0 []⟩,
  ⟨(some 8), none, .mv (.t 14)⟩]
abbrev x15r4 : List XOper := [
  ⟨(some 15), none, .mv (.t 6)⟩,
  ⟨(some 16), none, .lenV (.t 15)⟩,
  ⟨(some 17), none, .mv (.c (.int .i64 0))⟩]
abbrev x15r5 : List XOper := [
  ⟨(some 18), none, .bin .lss (.t 17) (.t 16)⟩]
abbrev x15r6 : List XOper := [
  ⟨(some 19), none, .mv (.t 17)⟩,
  ⟨(some 9), none, .mv (.t 19)⟩]
abbrev x15r7 : List XOper := [
  ⟨(some 20), none, .mv (.t 8)⟩,
  ⟨(some 21), none, .mv (.t 6)⟩,
  ⟨(some 22), none, .mv (.t 9)⟩,
  ⟨(some 23), none, .iaS 1 (.t 21) (.t 22)⟩,
  ⟨(some 24), none, .load false 1 (.t 23)⟩,
  ⟨(some 25), none, .bin .add (.t 24) (.c (.int .u64 65535))⟩,
  ⟨(some 26), none, .mv (.t 7)⟩,
  ⟨(some 27), none, .mv (.t 9)⟩,
  ⟨(some 28), none, .iaS 1 (.t 26) (.t 27)⟩,
  ⟨(some 29), none, .load false 1 (.t 28)⟩,
  ⟨(some 30), none, .bin .sub (.t 25) (.t 29)⟩,
  ⟨(some 31), none, .mkslice 1 (.int .u64 0) 1 [(0, (.t 30))]⟩,
  ⟨(some 32), none, .app 1 8 (.t 20) (.t 31)⟩,
  ⟨(some 8), none, .mv (.t 32)⟩]
abbrev x15r8 : List XOper := [
  ⟨(some 33), none, .bin .add (.t 17) (.c (.int .i64 1))⟩,
  ⟨(some 17), none, .mv (.t 33)⟩]
abbrev x15l5 : XCode :=
  (.seq (.reg 5 x15r5 none)
  (.seq (.cond (.t 18)
    .skip
    (.exit 0))
  (.seq (.block 1
    (.seq (.reg 6 x15r6 none)
    (.reg 7 x15r7 (some ⟨[]⟩))))
  (.reg 8 x15r8 none))))
abbrev x15r9 : List XOper := [
  ⟨(some 34), none, .mv (.t 8)⟩,
  ⟨(some 35), none, .mv (.t 8)⟩,
  ⟨(some 36), none, .iaS 1 (.t 35) (.c (.int .i64 0))⟩,
  ⟨(some 37), none, .load false 1 (.t 36)⟩,
  ⟨(some 38), none, .bin .add (.t 37) (.c (.int .u64 1))⟩,
  ⟨(some 39), none, .iaS 1 (.t 34) (.c (.int .i64 0))⟩,
  ⟨none, none, .store 1 (.t 39) (.t 38)⟩]
abbrev x15r10 : List XOper := [
  ⟨(some 40), none, .mv (.t 8)⟩,
  ⟨(some 41), none, .call (.c (.fn (.func 20) [] [])) [(.t 40)]⟩,
  ⟨(some 42), none, .call (.c (.fn (.func 21) [] [])) [(.t 41)]⟩,
  ⟨(some 43), none, .load true 2 (.t 2)⟩,
  ⟨(some 44), none, .load true 2 (.t 3)⟩,
  ⟨(some 45), none, .call (.c (.fn (.func 17) [] [])) [(.t 43), (.t 44)]⟩,
  ⟨none, none, .store 2 (.t 4) (.t 42)⟩,
  ⟨(some 5), none, .mv (.t 45)⟩]
/-- datum/datumref01.Sub -/
abbrev x15b : XCode :=
  (.seq (.reg 0 x15r0 none)
  (.seq (.reg 1 x15r1 none)
  (.seq (.reg 2 x15r2 none)
  (.seq (.reg 3 x15r3 none)
  (.seq (.seq (.reg 4 x15r4 none)
  (.block 0
    (.loop x15l5)))
  (.seq (.reg 9 x15r9 none)
  (.seq (.reg 10 x15r10 (some ⟨[(1, 3), (2, 3), (1, 4), (2, 4)]⟩))
  .ret)))))))
def x15 : XFunc := ⟨46, 2, [.cell 4 true 2, .tmp 5], x15b⟩
theorem x15_ok : chkF Try.prog Try.f15 x15 = true := by kernel_rfl
theorem x15_eq : x15.body = x15b ∧ x15.res = [.cell 4 true 2, .tmp 5] ∧ x15.np = 2 := ⟨rfl, rfl, rfl⟩

abbrev x16r0 : List XOper := [
  ⟨(some 2), none, .box (.t 0)⟩,
  ⟨(some 3), none, .box (.t 1)⟩,
  ⟨(some 4), none, .mv (.c (.bool false))⟩]
abbrev x16r1 : List XOper := [
  ⟨(some 5), none, .fa 0 (.t 2)⟩,
  ⟨(some 6), none, .load false 1 (.t 5)⟩,
  ⟨(some 7), none, .fa 0 (.t 3)⟩,
  ⟨(some 8), none, .load false 1 (.t 7)⟩,
  ⟨(some 9), none, .bin .lss (.t 6) (.t 8)⟩,
  ⟨(some 10), none, .mv (.t 9)⟩,
  ⟨(some 11), (some (10, false)), .fa 0 (.t 2)⟩,
  ⟨(some 12), (some (10, false)), .load false 1 (.t 11)⟩,
  ⟨(some 13), (some (10, false)), .fa 0 (.t 3)⟩,
  ⟨(some 14), (some (10, false)), .load false 1 (.t 13)⟩,
  ⟨(some 15), (some (10, false)), .bin .eql (.t 12) (.t 14)⟩,
  ⟨(some 16), (some (10, false)), .mv (.t 15)⟩,
  ⟨(some 17), (some (16, true)), .fa 1 (.t 2)⟩,
  ⟨(some 18), (some (16, true)), .load false 1 (.t 17)⟩,
  ⟨(some 19), (some (16, true)), .fa 1 (.t 3)⟩,
  ⟨(some 20), (some (16, true)), .load false 1 (.t 19)⟩,
  ⟨(some 21), (some (16, true)), .bin .lss (.t 18) (.t 20)⟩,
  ⟨(some 22), (some (10, false)), .pick (.t 16) (.t 21) (.c (.bool false))⟩,
  ⟨(some 23), none, .pick (.t 10) (.c (.bool true)) (.t 22)⟩,
  ⟨(some 4), none, .mv (.t 23)⟩]
/-- datum/wide.Less -/
abbrev x16b : XCode :=
  (.seq (.reg 0 x16r0 none)
  (.seq (.reg 1 x16r1 none)
  .ret))
def x16 : XFunc := ⟨24, 2, [.tmp 4], x16b⟩
theorem x16_ok : chkF Try.prog Try.f16 x16 = true := by kernel_rfl
theorem x16_eq : x16.body = x16b ∧ x16.res = [.tmp 4] ∧ x16.np = 2 := ⟨rfl, rfl, rfl⟩

abbrev x17r0 : List XOper := [
  ⟨(some 2), none, .box (.t 0)⟩,
  ⟨(some 3), none, .box (.t 1)⟩,
  ⟨(some 4), none, .mv (.c (.bool false))⟩]
abbrev x17r1 : List XOper := [
  ⟨(some 5), none, .fa 0 (.t 2)⟩,
  ⟨(some 6), none, .load false 1 (.t 5)⟩,
  ⟨(some 7), none, .fa 0 (.t 3)⟩,
  ⟨(some 8), none, .load false 1 (.t 7)⟩,
  ⟨(some 9), none, .bin .neq (.t 6) (.t 8)⟩]
abbrev x17r2 : List XOper := [
  ⟨(some 10), none, .fa 0 (.t 2)⟩,
  ⟨(some 11), none, .load false 1 (.t 10)⟩,
  ⟨(some 12), none, .fa 0 (.t 3)⟩,
  ⟨(some 13), none, .load false 1 (.t 12)⟩,
  ⟨(some 14), none, .bin .lss (.t 11) (.t 13)⟩,
  ⟨(some 4), none, .mv (.t 14)⟩]
abbrev x17r3 : List XOper := [
  ⟨(some 15), none, .fa 1 (.t 2)⟩,
  ⟨(some 16), none, .load false 1 (.t 15)⟩,
  ⟨(some 17), none, .fa 1 (.t 3)⟩,
  ⟨(some 18), none, .load false 1 (.t 17)⟩,
  ⟨(some 19), none, .bin .lss (.t 16) (.t 18)⟩,
  ⟨(some 4), none, .mv (.t 19)⟩]
/-- datum/datumref01.Less -/
abbrev x17b : XCode :=
  (.seq (.reg 0 x17r0 none)
  (.seq (.seq (.reg 1 x17r1 none)
  (.cond (.t 9)
    (.seq (.reg 2 x17r2 none)
    .ret)
    .skip))
  (.seq (.reg 3 x17r3 none)
  .ret)))
def x17 : XFunc := ⟨20, 2, [.tmp 4], x17b⟩
theorem x17_ok : chkF Try.prog Try.f17 x17 = true := by kernel_rfl
theorem x17_eq : x17.body = x17b ∧ x17.res = [.tmp 4] ∧ x17.np = 2 := ⟨rfl, rfl, rfl⟩

abbrev x19r0 : List XOper := [
  ⟨(some 1), none, .box (.t 0)⟩,
  ⟨(some 2), none, .mv (.c .nils)⟩]
abbrev x19r1 : List XOper := [
  ⟨(some 6), none, .mkslice 1 (.int .u64 0) 0 []⟩,
  ⟨(some 3), none, .mv (.t 6)⟩]
abbrev x19r2 : List XOper := [
  ⟨(some 4), none, .mv (.c (.int .i64 0))⟩]
abbrev x19r3 : List XOper := [
  ⟨(some 7), none, .mv (.t 4)⟩,
  ⟨(some 8), none, .bin .lss (.t 7) (.c (.int .i64 4))⟩]
abbrev x19r5 : List XOper := [
  ⟨(some 11), none, .mv (.t 3)⟩,
  ⟨(some 12), none, .fa 1 (.t 1)⟩,
  ⟨(some 13), none, .load false 1 (.t 12)⟩,
  ⟨(some 14), none, .mv (.t 4)⟩,
  ⟨(some 15), none, .conv .u64 (.t 14)⟩,
  ⟨(some 16), none, .bin .mul (.c (.int .u64 16)) (.t 15)⟩,
  ⟨(some 17), none, .bin .shr (.t 13) (.t 16)⟩,
  ⟨(some 18), none, .bin .rem (.t 17) (.c (.int .u64 65536))⟩,
  ⟨(some 19), none, .mkslice 1 (.int .u64 0) 1 [(0, (.t 18))]⟩,
  ⟨(some 20), none, .app 1 8 (.t 11) (.t 19)⟩,
  ⟨(some 3), none, .mv (.t 20)⟩]
abbrev x19r4 : List XOper := [
  ⟨(some 9), none, .mv (.t 4)⟩,
  ⟨(some 10), none, .bin .add (.t 9) (.c (.int .i64 1))⟩,
  ⟨(some 4), none, .mv (.t 10)⟩]
abbrev x19l3 : XCode :=
  (.seq (.seq (.reg 3 x19r3 none)
  (.cond (.t 8)
    .skip
    (.exit 0)))
  (.seq (.block 1
    (.reg 5 x19r5 none))
  (.reg 4 x19r4 none)))
abbrev x19r6 : List XOper := [
  ⟨(some 5), none, .mv (.c (.int .i64 0))⟩]
abbrev x19r7 : List XOper := [
  ⟨(some 21), none, .mv (.t 5)⟩,
  ⟨(some 22), none, .bin .lss (.t 21) (.c (.int .i64 4))⟩]
abbrev x19r9 : List XOper := [
  ⟨(some 25), none, .mv (.t 3)⟩,
  ⟨(some 26), none, .fa 0 (.t 1)⟩,
  ⟨(some 27), none, .load false 1 (.t 26)⟩,
  ⟨(some 28), none, .mv (.t 5)⟩,
  ⟨(some 29), none, .conv .u64 (.t 28)⟩,
  ⟨(some 30), none, .bin .mul (.c (.int .u64 16)) (.t 29)⟩,
  ⟨(some 31), none, .bin .shr (.t 27) (.t 30)⟩,
  ⟨(some 32), none, .bin .rem (.t 31) (.c (.int .u64 65536))⟩,
  ⟨(some 33), none, .mkslice 1 (.int .u64 0) 1 [(0, (.t 32))]⟩,
  ⟨(some 34), none, .app 1 8 (.t 25) (.t 33)⟩,
  ⟨(some 3), none, .mv (.t 34)⟩]
abbrev x19r8 : List XOper := [
  ⟨(some 23), none, .mv (.t 5)⟩,
  ⟨(some 24), none, .bin .add (.t 23) (.c (.int .i64 1))⟩,
  ⟨(some 5), none, .mv (.t 24)⟩]
abbrev x19l8 : XCode :=
  (.seq (.seq (.reg 7 x19r7 none)
  (.cond (.t 22)
    .skip
    (.exit 2)))
  (.seq (.block 3
    (.reg 9 x19r9 none))
  (.reg 8 x19r8 none)))
abbrev x19r10 : List XOper := [
  ⟨(some 35), none, .mv (.t 3)⟩,
  ⟨(some 2), none, .mv (.t 35)⟩]
/-- datum/datumref01.Pieces -/
abbrev x19b : XCode :=
  (.seq (.reg 0 x19r0 none)
  (.seq (.reg 1 x19r1 none)
  (.seq (.seq (.reg 2 x19r2 none)
  (.block 0
    (.loop x19l3)))
  (.seq (.seq (.reg 6 x19r6 none)
  (.block 2
    (.loop x19l8)))
  (.seq (.reg 10 x19r10 none)
  .ret)))))
def x19 : XFunc := ⟨36, 1, [.tmp 2], x19b⟩
theorem x19_ok : chkF Try.prog Try.f19 x19 = true := by kernel_rfl
theorem x19_eq : x19.body = x19b ∧ x19.res = [.tmp 2] ∧ x19.np = 1 := ⟨rfl, rfl, rfl⟩

abbrev x20r0 : List XOper := [
  ⟨(some 2), none, .mv (.c .nils)⟩]
abbrev x20r1 : List XOper := [
  ⟨(some 7), none, .mkslice 1 (.int .u64 0) 0 []⟩,
  ⟨(some 3), none, .mv (.t 7)⟩]
abbrev x20r2 : List XOper := [
  ⟨(some 4), none, .mv (.c (.int .u64 0))⟩]
abbrev x20r3 : List XOper := [
  ⟨(some 8), none, .mv (.t 0)⟩,
  ⟨(some 9), none, .lenV (.t 8)⟩,
  ⟨(some 10), none, .mv (.c (.int .i64 0))⟩]
abbrev x20r4 : List XOper := [
  ⟨(some 11), none, .bin .lss (.t 10) (.t 9)⟩]
abbrev x20r5 : List XOper := [
  ⟨(some 12), none, .iaS 1 (.t 8) (.t 10)⟩,
  ⟨(some 13), none, .load false 1 (.t 12)⟩,
  ⟨(some 6), none, .mv (.t 13)⟩]
abbrev x20r6 : List XOper := [
  ⟨(some 14), none, .mv (.t 3)⟩,
  ⟨(some 15), none, .mv (.t 6)⟩,
  ⟨(some 16), none, .mv (.t 4)⟩,
  ⟨(some 17), none, .bin .add (.t 15) (.t 16)⟩,
  ⟨(some 18), none, .bin .rem (.t 17) (.c (.int .u64 65536))⟩,
  ⟨(some 19), none, .mkslice 1 (.int .u64 0) 1 [(0, (.t 18))]⟩,
  ⟨(some 20), none, .app 1 8 (.t 14) (.t 19)⟩,
  ⟨(some 3), none, .mv (.t 20)⟩]
abbrev x20r7 : List XOper := [
  ⟨(some 21), none, .mv (.t 6)⟩,
  ⟨(some 22), none, .mv (.t 4)⟩,
  ⟨(some 23), none, .bin .add (.t 21) (.t 22)⟩,
  ⟨(some 24), none, .bin .quo (.t 23) (.c (.int .u64 65536))⟩,
  ⟨(some 4), none, .mv (.t 24)⟩]
abbrev x20r8 : List XOper := [
  ⟨(some 25), none, .bin .add (.t 10) (.c (.int .i64 1))⟩,
  ⟨(some 10), none, .mv (.t 25)⟩]
abbrev x20l4 : XCode :=
  (.seq (.reg 4 x20r4 none)
  (.seq (.cond (.t 11)
    .skip
    (.exit 0))
  (.seq (.block 1
    (.seq (.reg 5 x20r5 none)
    (.seq (.reg 6 x20r6 none)
    (.reg 7 x20r7 none))))
  (.reg 8 x20r8 none))))
abbrev x20r9 : List XOper := [
  ⟨(some 26), none, .mv (.t 3)⟩,
  ⟨(some 27), none, .mv (.t 4)⟩,
  ⟨(some 28), none, .mkslice 1 (.int .u64 0) 1 [(0, (.t 27))]⟩,
  ⟨(some 29), none, .app 1 8 (.t 26) (.t 28)⟩,
  ⟨(some 2), none, .mv (.t 29)⟩]
/-- datum/datumref01.Carried -/
abbrev x20b : XCode :=
  (.seq (.reg 0 x20r0 none)
  (.seq (.reg 1 x20r1 none)
  (.seq (.reg 2 x20r2 none)
  (.seq (.seq (.reg 3 x20r3 none)
  (.block 0
    (.loop x20l4)))
  (.seq (.reg 9 x20r9 none)
  .ret)))))
def x20 : XFunc := ⟨30, 1, [.tmp 2], x20b⟩
theorem x20_ok : chkF Try.prog Try.f20 x20 = true := by kernel_rfl
theorem x20_eq : x20.body = x20b ∧ x20.res = [.tmp 2] ∧ x20.np = 1 := ⟨rfl, rfl, rfl⟩

abbrev x21r0 : List XOper := [
  ⟨(some 2), none, .alloc [(.int .u64 0), (.int .u64 0)]⟩]
abbrev x21r1 : List XOper := [
  ⟨(some 5), none, .build [(.int .u64 0), (.int .u64 0)] []⟩,
  ⟨(some 3), none, .alloc [(.int .u64 0), (.int .u64 0)]⟩,
  ⟨none, none, .store 2 (.t 3) (.t 5)⟩]
abbrev x21r2 : List XOper := [
  ⟨(some 4), none, .mv (.c (.int .i64 0))⟩]
abbrev x21r3 : List XOper := [
  ⟨(some 6), none, .mv (.t 4)⟩,
  ⟨(some 7), none, .bin .lss (.t 6) (.c (.int .i64 4))⟩]
abbrev x21r5 : List XOper := [
  ⟨(some 10), none, .fa 1 (.t 3)⟩,
  ⟨(some 11), none, .load false 1 (.t 10)⟩,
  ⟨(some 12), none, .mv (.t 0)⟩,
  ⟨(some 13), none, .mv (.t 4)⟩,
  ⟨(some 14), none, .iaS 1 (.t 12) (.t 13)⟩,
  ⟨(some 15), none, .load false 1 (.t 14)⟩,
  ⟨(some 16), none, .mv (.t 4)⟩,
  ⟨(some 17), none, .conv .u64 (.t 16)⟩,
  ⟨(some 18), none, .bin .mul (.c (.int .u64 16)) (.t 17)⟩,
  ⟨(some 19), none, .bin .shl (.t 15) (.t 18)⟩,
  ⟨(some 20), none, .bin .add (.t 11) (.t 19)⟩,
  ⟨(some 21), none, .fa 1 (.t 3)⟩,
  ⟨none, none, .store 1 (.t 21) (.t 20)⟩]
abbrev x21r6 : List XOper := [
  ⟨(some 22), none, .fa 0 (.t 3)⟩,
  ⟨(some 23), none, .load false 1 (.t 22)⟩,
  ⟨(some 24), none, .mv (.t 0)⟩,
  ⟨(some 25), none, .mv (.t 4)⟩,
  ⟨(some 26), none, .bin .add (.c (.int .i64 4)) (.t 25)⟩,
  ⟨(some 27), none, .iaS 1 (.t 24) (.t 26)⟩,
  ⟨(some 28), none, .load false 1 (.t 27)⟩,
  ⟨(some 29), none, .mv (.t 4)⟩,
  ⟨(some 30), none, .conv .u64 (.t 29)⟩,
  ⟨(some 31), none, .bin .mul (.c (.int .u64 16)) (.t 30)⟩,
  ⟨(some 32), none, .bin .shl (.t 28) (.t 31)⟩,
  ⟨(some 33), none, .bin .add (.t 23) (.t 32)⟩,
  ⟨(some 34), none, .fa 0 (.t 3)⟩,
  ⟨none, none, .store 1 (.t 34) (.t 33)⟩]
abbrev x21r4 : List XOper := [
  ⟨(some 8), none, .mv (.t 4)⟩,
  ⟨(some 9), none, .bin .add (.t 8) (.c (.int .i64 1))⟩,
  ⟨(some 4), none, .mv (.t 9)⟩]
abbrev x21l3 : XCode :=
  (.seq (.seq (.reg 3 x21r3 none)
  (.cond (.t 7)
    .skip
    (.exit 0)))
  (.seq (.block 1
    (.seq (.reg 5 x21r5 (some ⟨[]⟩))
    (.reg 6 x21r6 (some ⟨[]⟩))))
  (.reg 4 x21r4 none)))
abbrev x21r7 : List XOper := [
  ⟨(some 35), none, .load true 2 (.t 3)⟩,
  ⟨none, none, .store 2 (.t 2) (.t 35)⟩]
/-- datum/datumref01.Whole -/
abbrev x21b : XCode :=
  (.seq (.reg 0 x21r0 none)
  (.seq (.reg 1 x21r1 none)
  (.seq (.seq (.reg 2 x21r2 none)
  (.block 0
    (.loop x21l3)))
  (.seq (.reg 7 x21r7 none)
  .ret))))
def x21 : XFunc := ⟨36, 1, [.cell 2 true 2], x21b⟩
theorem x21_ok : chkF Try.prog Try.f21 x21 = true := by kernel_rfl
theorem x21_eq : x21.body = x21b ∧ x21.res = [.cell 2 true 2] ∧ x21.np = 1 := ⟨rfl, rfl, rfl⟩

abbrev x22r0 : List XOper := [
  ⟨(some 4), none, .mv (.c (.int .u64 0))⟩,
  ⟨(some 5), none, .mv (.c (.int .u64 0))⟩]
abbrev x22r1 : List XOper := [
  ⟨(some 14), none, .mv (.t 0)⟩,
  ⟨(some 15), none, .bin .and (.t 14) (.c (.int .u64 4294967295))⟩,
  ⟨(some 6), none, .mv (.t 15)⟩]
abbrev x22r2 : List XOper := [
  ⟨(some 16), none, .mv (.t 0)⟩,
  ⟨(some 17), none, .bin .shr (.t 16) (.c (.int .u64 32))⟩,
  ⟨(some 7), none, .mv (.t 17)⟩]
abbrev x22r3 : List XOper := [
  ⟨(some 18), none, .mv (.t 1)⟩,
  ⟨(some 19), none, .bin .and (.t 18) (.c (.int .u64 4294967295))⟩,
  ⟨(some 8), none, .mv (.t 19)⟩]
abbrev x22r4 : List XOper := [
  ⟨(some 20), none, .mv (.t 1)⟩,
  ⟨(some 21), none, .bin .shr (.t 20) (.c (.int .u64 32))⟩,
  ⟨(some 9), none, .mv (.t 21)⟩]
abbrev x22r5 : List XOper := [
  ⟨(some 22), none, .mv (.t 6)⟩,
  ⟨(some 23), none, .mv (.t 8)⟩,
  ⟨(some 24), none, .bin .mul (.t 22) (.t 23)⟩,
  ⟨(some 10), none, .mv (.t 24)⟩]
abbrev x22r6 : List XOper := [
  ⟨(some 25), none, .mv (.t 7)⟩,
  ⟨(some 26), none, .mv (.t 8)⟩,
  ⟨(some 27), none, .bin .mul (.t 25) (.t 26)⟩,
  ⟨(some 28), none, .mv (.t 10)⟩,
  ⟨(some 29), none, .bin .shr (.t 28) (.c (.int .u64 32))⟩,
  ⟨(some 30), none, .bin .add (.t 27) (.t 29)⟩,
  ⟨(some 11), none, .mv (.t 30)⟩]
abbrev x22r7 : List XOper := [
  ⟨(some 31), none, .mv (.t 11)⟩,
  ⟨(some 32), none, .bin .and (.t 31) (.c (.int .u64 4294967295))⟩,
  ⟨(some 12), none, .mv (.t 32)⟩]
abbrev x22r8 : List XOper := [
  ⟨(some 33), none, .mv (.t 11)⟩,
  ⟨(some 34), none, .bin .shr (.t 33) (.c (.int .u64 32))⟩,
  ⟨(some 13), none, .mv (.t 34)⟩]
abbrev x22r9 : List XOper := [
  ⟨(some 35), none, .mv (.t 12)⟩,
  ⟨(some 36), none, .mv (.t 6)⟩,
  ⟨(some 37), none, .mv (.t 9)⟩,
  ⟨(some 38), none, .bin .mul (.t 36) (.t 37)⟩,
  ⟨(some 39), none, .bin .add (.t 35) (.t 38)⟩,
  ⟨(some 12), none, .mv (.t 39)⟩]
abbrev x22r10 : List XOper := [
  ⟨(some 40), none, .mv (.t 7)⟩,
  ⟨(some 41), none, .mv (.t 9)⟩,
  ⟨(some 42), none, .bin .mul (.t 40) (.t 41)⟩,
  ⟨(some 43), none, .mv (.t 13)⟩,
  ⟨(some 44), none, .bin .add (.t 42) (.t 43)⟩,
  ⟨(some 45), none, .mv (.t 12)⟩,
  ⟨(some 46), none, .bin .shr (.t 45) (.c (.int .u64 32))⟩,
  ⟨(some 47), none, .bin .add (.t 44) (.t 46)⟩,
  ⟨(some 4), none, .mv (.t 47)⟩]
abbrev x22r11 : List XOper := [
  ⟨(some 48), none, .mv (.t 0)⟩,
  ⟨(some 49), none, .mv (.t 1)⟩,
  ⟨(some 50), none, .bin .mul (.t 48) (.t 49)⟩,
  ⟨(some 5), none, .mv (.t 50)⟩]
/-- math/bits.Mul64 -/
abbrev x22b : XCode :=
  (.seq (.reg 0 x22r0 none)
  (.seq (.reg 1 x22r1 none)
  (.seq (.reg 2 x22r2 none)
  (.seq (.reg 3 x22r3 none)
  (.seq (.reg 4 x22r4 none)
  (.seq (.reg 5 x22r5 none)
  (.seq (.reg 6 x22r6 none)
  (.seq (.reg 7 x22r7 none)
  (.seq (.reg 8 x22r8 none)
  (.seq (.reg 9 x22r9 none)
  (.seq (.reg 10 x22r10 none)
  (.seq (.reg 11 x22r11 none)
  .ret))))))))))))
def x22 : XFunc := ⟨51, 2, [.tmp 4, .tmp 5], x22b⟩
theorem x22_ok : chkF Try.prog Try.f22 x22 = true := by kernel_rfl
theorem x22_eq : x22.body = x22b ∧ x22.res = [.tmp 4, .tmp 5] ∧ x22.np = 2 := ⟨rfl, rfl, rfl⟩

abbrev x23r0 : List XOper := [
  ⟨(some 1), none, .box (.t 0)⟩,
  ⟨(some 2), none, .alloc [(.int .u64 0), (.int .u64 0)]⟩]
abbrev x23r1 : List XOper := [
  ⟨(some 3), none, .fa 1 (.t 1)⟩,
  ⟨(some 4), none, .load false 1 (.t 3)⟩,
  ⟨(some 5), none, .fa 0 (.t 1)⟩,
  ⟨(some 6), none, .load false 1 (.t 5)⟩,
  ⟨(some 7), none, .build [(.int .u64 0), (.int .u64 0)] [(0, 1, (.t 4)), (1, 1, (.t 6))]⟩,
  ⟨none, none, .store 2 (.t 2) (.t 7)⟩]
/-- datum/wide.halves -/
abbrev x23b : XCode :=
  (.seq (.reg 0 x23r0 none)
  (.seq (.reg 1 x23r1 none)
  .ret))
def x23 : XFunc := ⟨8, 1, [.cell 2 true 2], x23b⟩
theorem x23_ok : chkF Try.prog Try.f23 x23 = true := by kernel_rfl
theorem x23_eq : x23.body = x23b ∧ x23.res = [.cell 2 true 2] ∧ x23.np = 1 := ⟨rfl, rfl, rfl⟩


def xf : FuncId → Option XFunc
  | 3 => some x3
  | 4 => some x4
  | 5 => some x5
  | 6 => some x6
  | 7 => some x7
  | 8 => some x8
  | 9 => some x9
  | 10 => some x10
  | 11 => some x11
  | 12 => some x12
  | 13 => some x13
  | 14 => some x14
  | 15 => some x15
  | 16 => some x16
  | 17 => some x17
  | 19 => some x19
  | 20 => some x20
  | 21 => some x21
  | 22 => some x22
  | 23 => some x23
  | _ => none
def C0 : Cfg := ⟨fun _ => none, xf⟩
theorem ok0 : CfgOk Try.prog C0 := by
  refine ⟨(fun g F h => by cases h), (fun g x h => ?_), by kernel_rfl⟩
  simp only [C0, xf] at h
  split at h
  · cases h; exact ⟨Try.f3, Try.func3, x3_ok⟩
  · cases h; exact ⟨Try.f4, Try.func4, x4_ok⟩
  · cases h; exact ⟨Try.f5, Try.func5, x5_ok⟩
  · cases h; exact ⟨Try.f6, Try.func6, x6_ok⟩
  · cases h; exact ⟨Try.f7, Try.func7, x7_ok⟩
  · cases h; exact ⟨Try.f8, Try.func8, x8_ok⟩
  · cases h; exact ⟨Try.f9, Try.func9, x9_ok⟩
  · cases h; exact ⟨Try.f10, Try.func10, x10_ok⟩
  · cases h; exact ⟨Try.f11, Try.func11, x11_ok⟩
  · cases h; exact ⟨Try.f12, Try.func12, x12_ok⟩
  · cases h; exact ⟨Try.f13, Try.func13, x13_ok⟩
  · cases h; exact ⟨Try.f14, Try.func14, x14_ok⟩
  · cases h; exact ⟨Try.f15, Try.func15, x15_ok⟩
  · cases h; exact ⟨Try.f16, Try.func16, x16_ok⟩
  · cases h; exact ⟨Try.f17, Try.func17, x17_ok⟩
  · cases h; exact ⟨Try.f19, Try.func19, x19_ok⟩
  · cases h; exact ⟨Try.f20, Try.func20, x20_ok⟩
  · cases h; exact ⟨Try.f21, Try.func21, x21_ok⟩
  · cases h; exact ⟨Try.f22, Try.func22, x22_ok⟩
  · cases h; exact ⟨Try.f23, Try.func23, x23_ok⟩
  · cases h
end Go.Proofs.Ytfndobdfdhkepaa
