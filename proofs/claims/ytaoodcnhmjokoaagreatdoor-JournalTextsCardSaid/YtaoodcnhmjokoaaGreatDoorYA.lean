/-
  The functions that the statements reach, as the interpreter's texts, each checked against the translation.
-/
import Derived.Test.YtaoodcnhmjokoaaGreatDoorXZ
import Derived.Test.YtaoodcnhmjokoaaGreatDoorRows
set_option linter.unusedVariables false
namespace Go.Proofs.YtaoodcnhmjokoaaGreatDoor
open Go Go.Xec

abbrev x3r0 : List XOper := [
  ⟨(some 4), none, .box (.t 1)⟩,
  ⟨(some 5), none, .box (.t 2)⟩,
  ⟨(some 6), none, .mv (.c (.bool false))⟩]
abbrev x3r1 : List XOper := [
  ⟨(some 12), none, .load true 3 (.t 4)⟩,
  ⟨(some 13), none, .call (.c (.fn (.func 7) [] [])) [(.t 12)]⟩,
  ⟨none, none, .store 3 (.t 4) (.t 13)⟩]
abbrev x3r2 : List XOper := [
  ⟨(some 15), none, .mv (.t 0)⟩,
  ⟨(some 16), none, .call (.c (.fn (.func 8) [] [])) [(.t 15)]⟩,
  ⟨(some 14), none, .mv (.t 16)⟩,
  ⟨(some 17), none, .ext (.t 14) 0⟩,
  ⟨(some 18), none, .ext (.t 14) 1⟩,
  ⟨(some 7), none, .alloc [(.int .i64 0), (.int .i64 0), .nils]⟩,
  ⟨none, none, .store 3 (.t 7) (.t 17)⟩,
  ⟨(some 8), none, .mv (.t 18)⟩]
abbrev x3r3 : List XOper := [
  ⟨(some 20), none, .load true 3 (.t 4)⟩,
  ⟨(some 21), none, .load true 4 (.t 5)⟩,
  ⟨(some 22), none, .call (.c (.fn (.func 9) [] [])) [(.t 20), (.t 21)]⟩,
  ⟨(some 19), none, .mv (.t 22)⟩,
  ⟨(some 23), none, .ext (.t 19) 0⟩,
  ⟨(some 24), none, .ext (.t 19) 1⟩,
  ⟨(some 9), none, .alloc [(.int .i64 0), (.int .i64 0), .nils]⟩,
  ⟨none, none, .store 3 (.t 9) (.t 23)⟩,
  ⟨(some 10), none, .mv (.t 24)⟩]
abbrev x3r4 : List XOper := [
  ⟨(some 25), none, .build [(.int .i64 0), (.int .i64 0), .nils] []⟩,
  ⟨(some 11), none, .alloc [(.int .i64 0), (.int .i64 0), .nils]⟩,
  ⟨none, none, .store 3 (.t 11) (.t 25)⟩]
abbrev x3r5 : List XOper := [
  ⟨(some 26), none, .load true 3 (.t 4)⟩,
  ⟨(some 27), none, .call (.c (.fn (.func 10) [] [])) [(.t 26)]⟩,
  ⟨(some 28), none, .load true 3 (.t 4)⟩,
  ⟨(some 29), none, .call (.c (.fn (.func 11) [] [])) [(.t 28)]⟩,
  ⟨(some 30), none, .eqB true (.t 27) (.t 29)⟩,
  ⟨(some 31), none, .mv (.t 30)⟩,
  ⟨(some 32), (some (31, false)), .call (.c (.fn (.func 12) [] [])) []⟩,
  ⟨(some 33), (some (31, false)), .un .not (.t 32)⟩,
  ⟨(some 34), none, .pick (.t 31) (.c (.bool true)) (.t 33)⟩]
abbrev x3r6 : List XOper := [
  ⟨(some 6), none, .mv (.c (.bool false))⟩]
abbrev x3r7 : List XOper := [
  ⟨(some 35), none, .mv (.t 0)⟩,
  ⟨(some 36), none, .bin .lss (.t 35) (.c (.int .i64 1))⟩,
  ⟨(some 37), none, .mv (.t 36)⟩,
  ⟨(some 38), (some (37, false)), .mv (.t 0)⟩,
  ⟨(some 39), (some (37, false)), .bin .gtr (.t 38) (.c (.int .i64 16))⟩,
  ⟨(some 40), none, .pick (.t 37) (.c (.bool true)) (.t 39)⟩]
abbrev x3r8 : List XOper := [
  ⟨(some 41), none, .mv (.t 8)⟩,
  ⟨(some 42), none, .bin .neq (.t 41) (.c (.int .i64 1))⟩,
  ⟨(some 43), none, .mv (.t 42)⟩,
  ⟨(some 44), (some (43, false)), .load true 3 (.t 7)⟩,
  ⟨(some 45), (some (43, false)), .load true 3 (.t 11)⟩,
  ⟨(some 46), (some (43, false)), .call (.c (.fn (.func 13) [] [])) [(.t 44), (.t 45)]⟩,
  ⟨(some 47), (some (43, false)), .un .not (.t 46)⟩,
  ⟨(some 48), none, .pick (.t 43) (.c (.bool true)) (.t 47)⟩]
abbrev x3r9 : List XOper := [
  ⟨(some 6), none, .mv (.c (.bool false))⟩]
abbrev x3r10 : List XOper := [
  ⟨(some 49), none, .mv (.t 8)⟩,
  ⟨(some 50), none, .bin .neq (.t 49) (.c (.int .i64 0))⟩,
  ⟨(some 51), none, .mv (.t 50)⟩,
  ⟨(some 52), (some (51, false)), .load true 3 (.t 7)⟩,
  ⟨(some 53), (some (51, false)), .mv (.t 0)⟩,
  ⟨(some 54), (some (51, false)), .build [(.int .i64 0), (.int .i64 0), .nils] [(0, 1, (.t 53))]⟩,
  ⟨(some 55), (some (51, false)), .call (.c (.fn (.func 13) [] [])) [(.t 52), (.t 54)]⟩,
  ⟨(some 56), (some (51, false)), .un .not (.t 55)⟩,
  ⟨(some 57), none, .pick (.t 51) (.c (.bool true)) (.t 56)⟩]
abbrev x3r11 : List XOper := [
  ⟨(some 6), none, .mv (.c (.bool false))⟩]
abbrev x3r12 : List XOper := [
  ⟨(some 59), none, .load true 3 (.t 4)⟩,
  ⟨(some 60), none, .call (.c (.fn (.func 11) [] [])) [(.t 59)]⟩,
  ⟨(some 61), none, .un .not (.t 60)⟩,
  ⟨(some 62), none, .mv (.t 61)⟩,
  ⟨(some 63), (some (62, false)), .load true 4 (.t 5)⟩,
  ⟨(some 64), (some (62, false)), .call (.c (.fn (.func 14) [] [])) [(.t 63)]⟩,
  ⟨(some 65), (some (62, false)), .un .not (.t 64)⟩,
  ⟨(some 66), none, .pick (.t 62) (.c (.bool true)) (.t 65)⟩,
  ⟨(some 58), none, .mv (.t 66)⟩]
abbrev x3r13 : List XOper := [
  ⟨(some 67), none, .mv (.t 10)⟩,
  ⟨(some 68), none, .bin .eql (.t 67) (.c (.int .i64 1))⟩,
  ⟨(some 69), none, .mv (.t 68)⟩,
  ⟨(some 70), (some (69, true)), .load true 3 (.t 9)⟩,
  ⟨(some 71), (some (69, true)), .load true 3 (.t 11)⟩,
  ⟨(some 72), (some (69, true)), .call (.c (.fn (.func 13) [] [])) [(.t 70), (.t 71)]⟩,
  ⟨(some 73), none, .pick (.t 69) (.t 72) (.c (.bool false))⟩,
  ⟨(some 6), none, .mv (.t 73)⟩]
abbrev x3r14 : List XOper := [
  ⟨(some 75), none, .load true 3 (.t 4)⟩,
  ⟨(some 76), none, .call (.c (.fn (.func 15) [] [])) [(.t 75)]⟩,
  ⟨(some 74), none, .mv (.t 76)⟩]
abbrev x3r15 : List XOper := [
  ⟨(some 77), none, .mv (.t 10)⟩,
  ⟨(some 78), none, .bin .eql (.t 77) (.c (.int .i64 11))⟩,
  ⟨(some 79), none, .mv (.t 78)⟩,
  ⟨(some 80), (some (79, true)), .load true 3 (.t 9)⟩,
  ⟨(some 81), (some (79, true)), .load true 3 (.t 11)⟩,
  ⟨(some 82), (some (79, true)), .call (.c (.fn (.func 13) [] [])) [(.t 80), (.t 81)]⟩,
  ⟨(some 83), none, .pick (.t 79) (.t 82) (.c (.bool false))⟩,
  ⟨(some 6), none, .mv (.t 83)⟩]
abbrev x3r16 : List XOper := [
  ⟨(some 84), none, .mv (.t 10)⟩,
  ⟨(some 85), none, .bin .eql (.t 84) (.c (.int .i64 0))⟩,
  ⟨(some 86), none, .mv (.t 85)⟩,
  ⟨(some 87), (some (86, true)), .load true 3 (.t 9)⟩,
  ⟨(some 88), (some (86, true)), .load true 3 (.t 4)⟩,
  ⟨(some 89), (some (86, true)), .load true 4 (.t 5)⟩,
  ⟨(some 90), (some (86, true)), .call (.c (.fn (.func 16) [] [])) [(.t 88), (.t 89)]⟩,
  ⟨(some 91), (some (86, true)), .call (.c (.fn (.func 13) [] [])) [(.t 87), (.t 90)]⟩,
  ⟨(some 92), none, .pick (.t 86) (.t 91) (.c (.bool false))⟩,
  ⟨(some 6), none, .mv (.t 92)⟩]
/-- datum/datumlaw23.JournalAppends -/
abbrev x3b : XCode :=
  (.seq (.reg 0 x3r0 none)
  (.seq (.reg 1 x3r1 none)
  (.seq (.reg 2 x3r2 none)
  (.seq (.reg 3 x3r3 none)
  (.seq (.reg 4 x3r4 none)
  (.seq (.seq (.reg 5 x3r5 (some ⟨[(1, 2)]⟩))
  (.cond (.t 34)
    (.seq (.reg 6 x3r6 none)
    .ret)
    .skip))
  (.seq (.seq (.reg 7 x3r7 none)
  (.cond (.t 40)
    (.seq (.reg 8 x3r8 none)
    (.cond (.t 48)
      (.seq (.reg 9 x3r9 none)
      .ret)
      .skip))
    (.seq (.reg 10 x3r10 none)
    (.cond (.t 57)
      (.seq (.reg 11 x3r11 none)
      .ret)
      .skip))))
  (.seq (.block 0
    (.seq (.reg 12 x3r12 none)
    (.cond (.t 58)
      (.seq (.reg 13 x3r13 none)
      .ret)
      (.seq (.reg 14 x3r14 none)
      (.cond (.t 74)
        (.seq (.reg 15 x3r15 none)
        .ret)
        .skip)))))
  (.seq (.reg 16 x3r16 (some ⟨[(3, 6)]⟩))
  .ret)))))))))
def x3 : XFunc := ⟨93, 3, [.tmp 6], x3b⟩
theorem x3_ok : chkF Tryz.prog Tryz.f3 x3 = true := by kernel_rfl
theorem x3_eq : x3.body = x3b ∧ x3.res = [.tmp 6] ∧ x3.np = 3 := ⟨rfl, rfl, rfl⟩

abbrev x4r0 : List XOper := [
  ⟨(some 2), none, .box (.t 0)⟩,
  ⟨(some 4), none, .mv (.c (.bool false))⟩]
abbrev x4r1 : List XOper := [
  ⟨(some 11), none, .load true 3 (.t 2)⟩,
  ⟨(some 12), none, .call (.c (.fn (.func 7) [] [])) [(.t 11)]⟩,
  ⟨(some 13), none, .mv (.t 1)⟩,
  ⟨(some 14), none, .mv (.t 1)⟩,
  ⟨(some 15), none, .lenS (.t 14)⟩,
  ⟨(some 16), none, .mnx false (.t 15) [(.c (.int .i64 2000))]⟩,
  ⟨(some 17), none, .slS (.t 13) none (some (.t 16))⟩,
  ⟨none, none, .store 3 (.t 2) (.t 12)⟩,
  ⟨(some 1), none, .mv (.t 17)⟩]
abbrev x4r2 : List XOper := [
  ⟨(some 19), none, .load true 3 (.t 2)⟩,
  ⟨(some 20), none, .call (.c (.fn (.func 17) [] [])) [(.t 19)]⟩,
  ⟨(some 18), none, .mv (.t 20)⟩,
  ⟨(some 21), none, .ext (.t 18) 0⟩,
  ⟨(some 22), none, .ext (.t 18) 1⟩,
  ⟨(some 5), none, .mv (.t 21)⟩,
  ⟨(some 6), none, .mv (.t 22)⟩]
abbrev x4r3 : List XOper := [
  ⟨(some 24), none, .mv (.t 1)⟩,
  ⟨(some 25), none, .call (.c (.fn (.func 18) [] [])) [(.t 24)]⟩,
  ⟨(some 23), none, .mv (.t 25)⟩,
  ⟨(some 26), none, .ext (.t 23) 0⟩,
  ⟨(some 27), none, .ext (.t 23) 1⟩,
  ⟨(some 7), none, .alloc [(.int .i64 0), (.int .i64 0), .nils]⟩,
  ⟨none, none, .store 3 (.t 7) (.t 26)⟩,
  ⟨(some 8), none, .mv (.t 27)⟩]
abbrev x4r4 : List XOper := [
  ⟨(some 28), none, .call (.c (.fn (.func 12) [] [])) []⟩,
  ⟨(some 29), none, .un .not (.t 28)⟩]
abbrev x4r5 : List XOper := [
  ⟨(some 4), none, .mv (.c (.bool false))⟩]
abbrev x4r6 : List XOper := [
  ⟨(some 30), none, .load true 3 (.t 2)⟩,
  ⟨(some 31), none, .call (.c (.fn (.func 11) [] [])) [(.t 30)]⟩,
  ⟨(some 32), none, .un .not (.t 31)⟩]
abbrev x4r7 : List XOper := [
  ⟨(some 33), none, .mv (.t 6)⟩,
  ⟨(some 34), none, .bin .neq (.t 33) (.c (.int .i64 1))⟩,
  ⟨(some 35), none, .mv (.t 34)⟩,
  ⟨(some 36), (some (35, false)), .mv (.t 5)⟩,
  ⟨(some 37), (some (35, false)), .bin .neq (.t 36) (.c (.str ⟨#[]⟩))⟩,
  ⟨(some 38), none, .pick (.t 35) (.c (.bool true)) (.t 37)⟩]
abbrev x4r8 : List XOper := [
  ⟨(some 4), none, .mv (.c (.bool false))⟩]
abbrev x4r9 : List XOper := [
  ⟨(some 39), none, .mv (.t 6)⟩,
  ⟨(some 40), none, .bin .neq (.t 39) (.c (.int .i64 0))⟩,
  ⟨(some 41), none, .mv (.t 40)⟩,
  ⟨(some 42), (some (41, false)), .mv (.t 5)⟩,
  ⟨(some 43), (some (41, false)), .load true 3 (.t 2)⟩,
  ⟨(some 44), (some (41, false)), .call (.c (.fn (.func 19) [] [])) [(.t 43)]⟩,
  ⟨(some 45), (some (41, false)), .bin .neq (.t 42) (.t 44)⟩,
  ⟨(some 46), none, .pick (.t 41) (.c (.bool true)) (.t 45)⟩]
abbrev x4r10 : List XOper := [
  ⟨(some 4), none, .mv (.c (.bool false))⟩]
abbrev x4r11 : List XOper := [
  ⟨(some 48), none, .mv (.t 1)⟩,
  ⟨(some 49), none, .call (.c (.fn (.func 20) [] [])) [(.t 48)]⟩,
  ⟨(some 47), none, .mv (.t 49)⟩,
  ⟨(some 50), none, .ext (.t 47) 0⟩,
  ⟨(some 51), none, .ext (.t 47) 1⟩,
  ⟨(some 9), none, .alloc [(.int .i64 0), (.int .i64 0), .nils]⟩,
  ⟨none, none, .store 3 (.t 9) (.t 50)⟩,
  ⟨(some 10), none, .mv (.t 51)⟩]
abbrev x4r12 : List XOper := [
  ⟨(some 52), none, .mv (.t 8)⟩,
  ⟨(some 53), none, .mv (.t 10)⟩,
  ⟨(some 54), none, .bin .eql (.t 52) (.t 53)⟩,
  ⟨(some 55), none, .mv (.t 54)⟩,
  ⟨(some 56), (some (55, true)), .load true 3 (.t 7)⟩,
  ⟨(some 57), (some (55, true)), .load true 3 (.t 9)⟩,
  ⟨(some 58), (some (55, true)), .call (.c (.fn (.func 13) [] [])) [(.t 56), (.t 57)]⟩,
  ⟨(some 59), none, .pick (.t 55) (.t 58) (.c (.bool false))⟩,
  ⟨(some 4), none, .mv (.t 59)⟩]
/-- datum/datumlaw23.JournalTexts -/
abbrev x4b : XCode :=
  (.seq (.reg 0 x4r0 none)
  (.seq (.reg 1 x4r1 (some ⟨[]⟩))
  (.seq (.reg 2 x4r2 none)
  (.seq (.reg 3 x4r3 none)
  (.seq (.seq (.reg 4 x4r4 none)
  (.cond (.t 29)
    (.seq (.reg 5 x4r5 none)
    .ret)
    .skip))
  (.seq (.seq (.reg 6 x4r6 none)
  (.cond (.t 32)
    (.seq (.reg 7 x4r7 none)
    (.cond (.t 38)
      (.seq (.reg 8 x4r8 none)
      .ret)
      .skip))
    (.seq (.reg 9 x4r9 none)
    (.cond (.t 46)
      (.seq (.reg 10 x4r10 none)
      .ret)
      .skip))))
  (.seq (.reg 11 x4r11 none)
  (.seq (.reg 12 x4r12 none)
  .ret))))))))
def x4 : XFunc := ⟨60, 2, [.tmp 4], x4b⟩
theorem x4_ok : chkF Tryz.prog Tryz.f4 x4 = true := by kernel_rfl
theorem x4_eq : x4.body = x4b ∧ x4.res = [.tmp 4] ∧ x4.np = 2 := ⟨rfl, rfl, rfl⟩

abbrev x5r0 : List XOper := [
  ⟨(some 2), none, .box (.t 0)⟩,
  ⟨(some 4), none, .mv (.c (.bool false))⟩]
abbrev x5r1 : List XOper := [
  ⟨(some 11), none, .load true 3 (.t 2)⟩,
  ⟨(some 12), none, .call (.c (.fn (.func 7) [] [])) [(.t 11)]⟩,
  ⟨(some 13), none, .mv (.t 1)⟩,
  ⟨(some 14), none, .mv (.t 1)⟩,
  ⟨(some 15), none, .lenS (.t 14)⟩,
  ⟨(some 16), none, .mnx false (.t 15) [(.c (.int .i64 2000))]⟩,
  ⟨(some 17), none, .slS (.t 13) none (some (.t 16))⟩,
  ⟨none, none, .store 3 (.t 2) (.t 12)⟩,
  ⟨(some 1), none, .mv (.t 17)⟩]
abbrev x5r2 : List XOper := [
  ⟨(some 19), none, .load true 3 (.t 2)⟩,
  ⟨(some 20), none, .call (.c (.fn (.func 17) [] [])) [(.t 19)]⟩,
  ⟨(some 18), none, .mv (.t 20)⟩,
  ⟨(some 21), none, .ext (.t 18) 0⟩,
  ⟨(some 22), none, .ext (.t 18) 1⟩,
  ⟨(some 5), none, .mv (.t 21)⟩,
  ⟨(some 6), none, .mv (.t 22)⟩]
abbrev x5r3 : List XOper := [
  ⟨(some 23), none, .mv (.t 6)⟩,
  ⟨(some 24), none, .bin .eql (.t 23) (.c (.int .i64 0))⟩]
abbrev x5r4 : List XOper := [
  ⟨(some 26), none, .mv (.t 5)⟩,
  ⟨(some 27), none, .call (.c (.fn (.func 18) [] [])) [(.t 26)]⟩,
  ⟨(some 25), none, .mv (.t 27)⟩,
  ⟨(some 28), none, .ext (.t 25) 0⟩,
  ⟨(some 29), none, .ext (.t 25) 1⟩,
  ⟨(some 7), none, .alloc [(.int .i64 0), (.int .i64 0), .nils]⟩,
  ⟨none, none, .store 3 (.t 7) (.t 28)⟩,
  ⟨(some 8), none, .mv (.t 29)⟩]
abbrev x5r5 : List XOper := [
  ⟨(some 30), none, .mv (.t 8)⟩,
  ⟨(some 31), none, .bin .neq (.t 30) (.c (.int .i64 0))⟩,
  ⟨(some 32), none, .mv (.t 31)⟩,
  ⟨(some 33), (some (32, false)), .load true 3 (.t 7)⟩,
  ⟨(some 34), (some (32, false)), .load true 3 (.t 2)⟩,
  ⟨(some 35), (some (32, false)), .call (.c (.fn (.func 13) [] [])) [(.t 33), (.t 34)]⟩,
  ⟨(some 36), (some (32, false)), .un .not (.t 35)⟩,
  ⟨(some 37), none, .pick (.t 32) (.c (.bool true)) (.t 36)⟩]
abbrev x5r6 : List XOper := [
  ⟨(some 4), none, .mv (.c (.bool false))⟩]
abbrev x5r7 : List XOper := [
  ⟨(some 39), none, .mv (.t 1)⟩,
  ⟨(some 40), none, .call (.c (.fn (.func 18) [] [])) [(.t 39)]⟩,
  ⟨(some 38), none, .mv (.t 40)⟩,
  ⟨(some 41), none, .ext (.t 38) 0⟩,
  ⟨(some 42), none, .ext (.t 38) 1⟩,
  ⟨(some 9), none, .alloc [(.int .i64 0), (.int .i64 0), .nils]⟩,
  ⟨none, none, .store 3 (.t 9) (.t 41)⟩,
  ⟨(some 10), none, .mv (.t 42)⟩]
abbrev x5r8 : List XOper := [
  ⟨(some 43), none, .mv (.t 10)⟩,
  ⟨(some 44), none, .bin .neq (.t 43) (.c (.int .i64 0))⟩]
abbrev x5r9 : List XOper := [
  ⟨(some 45), none, .call (.c (.fn (.func 12) [] [])) []⟩,
  ⟨(some 46), none, .mv (.t 45)⟩,
  ⟨(some 47), (some (46, true)), .fa 2 (.t 9)⟩,
  ⟨(some 48), (some (46, true)), .load false 1 (.t 47)⟩,
  ⟨(some 49), (some (46, true)), .lenV (.t 48)⟩,
  ⟨(some 50), (some (46, true)), .bin .eql (.t 49) (.c (.int .i64 0))⟩,
  ⟨(some 51), none, .pick (.t 46) (.t 50) (.c (.bool false))⟩,
  ⟨(some 4), none, .mv (.t 51)⟩]
abbrev x5r10 : List XOper := [
  ⟨(some 53), none, .load true 3 (.t 9)⟩,
  ⟨(some 54), none, .call (.c (.fn (.func 17) [] [])) [(.t 53)]⟩,
  ⟨(some 52), none, .mv (.t 54)⟩,
  ⟨(some 55), none, .ext (.t 52) 0⟩,
  ⟨(some 56), none, .ext (.t 52) 1⟩,
  ⟨(some 5), none, .mv (.t 55)⟩,
  ⟨(some 6), none, .mv (.t 56)⟩]
abbrev x5r11 : List XOper := [
  ⟨(some 57), none, .call (.c (.fn (.func 12) [] [])) []⟩,
  ⟨(some 58), none, .mv (.t 57)⟩,
  ⟨(some 59), (some (58, true)), .mv (.t 6)⟩,
  ⟨(some 60), (some (58, true)), .bin .eql (.t 59) (.c (.int .i64 0))⟩,
  ⟨(some 61), none, .pick (.t 58) (.t 60) (.c (.bool false))⟩,
  ⟨(some 62), none, .mv (.t 61)⟩,
  ⟨(some 63), (some (62, true)), .mv (.t 5)⟩,
  ⟨(some 64), (some (62, true)), .mv (.t 1)⟩,
  ⟨(some 65), (some (62, true)), .bin .eql (.t 63) (.t 64)⟩,
  ⟨(some 66), none, .pick (.t 62) (.t 65) (.c (.bool false))⟩,
  ⟨(some 67), none, .mv (.t 66)⟩,
  ⟨(some 68), (some (67, true)), .load true 3 (.t 9)⟩,
  ⟨(some 69), (some (67, true)), .call (.c (.fn (.func 10) [] [])) [(.t 68)]⟩,
  ⟨(some 70), none, .pick (.t 67) (.t 69) (.c (.bool false))⟩,
  ⟨(some 4), none, .mv (.t 70)⟩]
/-- datum/datumlaw23.JournalBack -/
abbrev x5b : XCode :=
  (.seq (.reg 0 x5r0 none)
  (.seq (.reg 1 x5r1 (some ⟨[]⟩))
  (.seq (.reg 2 x5r2 none)
  (.seq (.seq (.reg 3 x5r3 none)
  (.cond (.t 24)
    (.seq (.reg 4 x5r4 none)
    (.seq (.reg 5 x5r5 none)
    (.cond (.t 37)
      (.seq (.reg 6 x5r6 none)
      .ret)
      .skip)))
    .skip))
  (.seq (.reg 7 x5r7 none)
  (.seq (.seq (.reg 8 x5r8 none)
  (.cond (.t 44)
    (.seq (.reg 9 x5r9 none)
    .ret)
    .skip))
  (.seq (.reg 10 x5r10 none)
  (.seq (.reg 11 x5r11 none)
  .ret))))))))
def x5 : XFunc := ⟨71, 2, [.tmp 4], x5b⟩
theorem x5_ok : chkF Tryz.prog Tryz.f5 x5 = true := by kernel_rfl
theorem x5_eq : x5.body = x5b ∧ x5.res = [.tmp 4] ∧ x5.np = 2 := ⟨rfl, rfl, rfl⟩

abbrev x6r0 : List XOper := [
  ⟨(some 4), none, .mv (.c (.bool false))⟩]
abbrev x6r1 : List XOper := [
  ⟨(some 15), none, .mv (.t 0)⟩,
  ⟨(some 16), none, .bin .rem (.t 15) (.c (.int .i64 16))⟩,
  ⟨(some 17), none, .bin .add (.t 16) (.c (.int .i64 16))⟩,
  ⟨(some 18), none, .bin .rem (.t 17) (.c (.int .i64 16))⟩,
  ⟨(some 19), none, .bin .add (.c (.int .i64 1)) (.t 18)⟩,
  ⟨(some 0), none, .mv (.t 19)⟩]
abbrev x6r2 : List XOper := [
  ⟨(some 21), none, .mv (.t 0)⟩,
  ⟨(some 22), none, .call (.c (.fn (.func 8) [] [])) [(.t 21)]⟩,
  ⟨(some 20), none, .mv (.t 22)⟩,
  ⟨(some 23), none, .ext (.t 20) 0⟩,
  ⟨(some 24), none, .ext (.t 20) 1⟩,
  ⟨(some 5), none, .alloc [(.int .i64 0), (.int .i64 0), .nils]⟩,
  ⟨none, none, .store 3 (.t 5) (.t 23)⟩,
  ⟨(some 6), none, .mv (.t 24)⟩]
abbrev x6r3 : List XOper := [
  ⟨(some 25), none, .mv (.t 6)⟩,
  ⟨(some 26), none, .bin .neq (.t 25) (.c (.int .i64 0))⟩,
  ⟨(some 27), none, .mv (.t 26)⟩,
  ⟨(some 28), (some (27, false)), .call (.c (.fn (.func 12) [] [])) []⟩,
  ⟨(some 29), (some (27, false)), .un .not (.t 28)⟩,
  ⟨(some 30), none, .pick (.t 27) (.c (.bool true)) (.t 29)⟩]
abbrev x6r4 : List XOper := [
  ⟨(some 4), none, .mv (.c (.bool false))⟩]
abbrev x6r5 : List XOper := [
  ⟨(some 7), none, .mv (.c .nils)⟩]
abbrev x6r6 : List XOper := [
  ⟨(some 31), none, .mv (.t 1)⟩,
  ⟨(some 32), none, .mv (.t 1)⟩,
  ⟨(some 33), none, .lenV (.t 32)⟩,
  ⟨(some 34), none, .mnx false (.t 33) [(.c (.int .i64 60))]⟩,
  ⟨(some 35), none, .slV 4 (.t 31) none (some (.t 34)) none⟩,
  ⟨(some 36), none, .lenV (.t 35)⟩,
  ⟨(some 37), none, .mv (.c (.int .i64 0))⟩]
abbrev x6r7 : List XOper := [
  ⟨(some 38), none, .bin .lss (.t 37) (.t 36)⟩]
abbrev x6r8 : List XOper := [
  ⟨(some 39), none, .iaS 4 (.t 35) (.t 37)⟩,
  ⟨(some 40), none, .load true 4 (.t 39)⟩,
  ⟨(some 9), none, .alloc [(.int .i64 0), (.int .i64 0), (.int .i64 0), (.int .i64 0)]⟩,
  ⟨none, none, .store 4 (.t 9) (.t 40)⟩]
abbrev x6r9 : List XOper := [
  ⟨(some 42), none, .load true 3 (.t 5)⟩,
  ⟨(some 43), none, .load true 4 (.t 9)⟩,
  ⟨(some 44), none, .call (.c (.fn (.func 9) [] [])) [(.t 42), (.t 43)]⟩,
  ⟨(some 41), none, .mv (.t 44)⟩,
  ⟨(some 45), none, .ext (.t 41) 0⟩,
  ⟨(some 46), none, .ext (.t 41) 1⟩,
  ⟨(some 10), none, .alloc [(.int .i64 0), (.int .i64 0), .nils]⟩,
  ⟨none, none, .store 3 (.t 10) (.t 45)⟩,
  ⟨(some 11), none, .mv (.t 46)⟩]
abbrev x6r10 : List XOper := [
  ⟨(some 47), none, .mv (.t 11)⟩,
  ⟨(some 48), none, .bin .neq (.t 47) (.c (.int .i64 0))⟩]
abbrev x6r11 : List XOper := [
  ⟨(some 49), none, .mv (.t 11)⟩,
  ⟨(some 50), none, .bin .neq (.t 49) (.c (.int .i64 1))⟩,
  ⟨(some 51), none, .mv (.t 50)⟩,
  ⟨(some 52), (some (51, false)), .fa 2 (.t 10)⟩,
  ⟨(some 53), (some (51, false)), .load false 1 (.t 52)⟩,
  ⟨(some 54), (some (51, false)), .lenV (.t 53)⟩,
  ⟨(some 55), (some (51, false)), .bin .neq (.t 54) (.c (.int .i64 0))⟩,
  ⟨(some 56), none, .pick (.t 51) (.c (.bool true)) (.t 55)⟩]
abbrev x6r12 : List XOper := [
  ⟨(some 4), none, .mv (.c (.bool false))⟩]
abbrev x6r13 : List XOper := [
  ⟨(some 57), none, .load true 3 (.t 10)⟩,
  ⟨(some 58), none, .mv (.t 7)⟩,
  ⟨(some 59), none, .load true 4 (.t 9)⟩,
  ⟨(some 60), none, .mkslice 4 (.agg [(.int .i64 0), (.int .i64 0), (.int .i64 0), (.int .i64 0)]) 1 [(0, (.t 59))]⟩,
  ⟨(some 61), none, .app 4 32 (.t 58) (.t 60)⟩,
  ⟨none, none, .store 3 (.t 5) (.t 57)⟩,
  ⟨(some 7), none, .mv (.t 61)⟩]
abbrev x6r14 : List XOper := [
  ⟨(some 62), none, .mv (.t 7)⟩,
  ⟨(some 63), none, .lenV (.t 62)⟩,
  ⟨(some 64), none, .mv (.t 0)⟩,
  ⟨(some 65), none, .bin .sub (.t 63) (.t 64)⟩,
  ⟨(some 66), none, .mnx true (.c (.int .i64 0)) [(.t 65)]⟩,
  ⟨(some 12), none, .mv (.t 66)⟩]
abbrev x6r15 : List XOper := [
  ⟨(some 67), none, .fa 1 (.t 5)⟩,
  ⟨(some 68), none, .load false 1 (.t 67)⟩,
  ⟨(some 69), none, .mv (.t 12)⟩,
  ⟨(some 70), none, .bin .neq (.t 68) (.t 69)⟩,
  ⟨(some 71), none, .mv (.t 70)⟩,
  ⟨(some 72), (some (71, false)), .fa 0 (.t 5)⟩,
  ⟨(some 73), (some (71, false)), .load false 1 (.t 72)⟩,
  ⟨(some 74), (some (71, false)), .mv (.t 0)⟩,
  ⟨(some 75), (some (71, false)), .bin .neq (.t 73) (.t 74)⟩,
  ⟨(some 76), none, .pick (.t 71) (.c (.bool true)) (.t 75)⟩,
  ⟨(some 77), none, .mv (.t 76)⟩,
  ⟨(some 78), (some (77, false)), .fa 2 (.t 5)⟩,
  ⟨(some 79), (some (77, false)), .load false 1 (.t 78)⟩,
  ⟨(some 80), (some (77, false)), .lenV (.t 79)⟩,
  ⟨(some 81), (some (77, false)), .mv (.t 7)⟩,
  ⟨(some 82), (some (77, false)), .lenV (.t 81)⟩,
  ⟨(some 83), (some (77, false)), .mv (.t 12)⟩,
  ⟨(some 84), (some (77, false)), .bin .sub (.t 82) (.t 83)⟩,
  ⟨(some 85), (some (77, false)), .bin .neq (.t 80) (.t 84)⟩,
  ⟨(some 86), none, .pick (.t 77) (.c (.bool true)) (.t 85)⟩]
abbrev x6r16 : List XOper := [
  ⟨(some 4), none, .mv (.c (.bool false))⟩]
abbrev x6r17 : List XOper := [
  ⟨(some 87), none, .fa 2 (.t 5)⟩,
  ⟨(some 88), none, .load false 1 (.t 87)⟩,
  ⟨(some 89), none, .lenV (.t 88)⟩,
  ⟨(some 90), none, .mv (.c (.int .i64 0))⟩]
abbrev x6r18 : List XOper := [
  ⟨(some 91), none, .bin .lss (.t 90) (.t 89)⟩]
abbrev x6r19 : List XOper := [
  ⟨(some 92), none, .mv (.t 90)⟩,
  ⟨(some 93), none, .iaS 4 (.t 88) (.t 90)⟩,
  ⟨(some 94), none, .load true 4 (.t 93)⟩,
  ⟨(some 14), none, .alloc [(.int .i64 0), (.int .i64 0), (.int .i64 0), (.int .i64 0)]⟩,
  ⟨(some 13), none, .mv (.t 92)⟩,
  ⟨none, none, .store 4 (.t 14) (.t 94)⟩]
abbrev x6r20 : List XOper := [
  ⟨(some 95), none, .load true 4 (.t 14)⟩,
  ⟨(some 96), none, .mv (.t 7)⟩,
  ⟨(some 97), none, .mv (.t 12)⟩,
  ⟨(some 98), none, .mv (.t 13)⟩,
  ⟨(some 99), none, .bin .add (.t 97) (.t 98)⟩,
  ⟨(some 100), none, .iaS 4 (.t 96) (.t 99)⟩,
  ⟨(some 101), none, .load true 4 (.t 100)⟩,
  ⟨(some 102), none, .eqA true [0, 0, 0, 0] (.t 95) (.t 101)⟩]
abbrev x6r21 : List XOper := [
  ⟨(some 4), none, .mv (.c (.bool false))⟩]
abbrev x6r22 : List XOper := [
  ⟨(some 103), none, .bin .add (.t 90) (.c (.int .i64 1))⟩,
  ⟨(some 90), none, .mv (.t 103)⟩]
abbrev x6l18 : XCode :=
  (.seq (.reg 18 x6r18 none)
  (.seq (.cond (.t 91)
    .skip
    (.exit 2))
  (.seq (.block 3
    (.seq (.reg 19 x6r19 none)
    (.seq (.reg 20 x6r20 (some ⟨[]⟩))
    (.cond (.t 102)
      (.seq (.reg 21 x6r21 none)
      .ret)
      .skip))))
  (.reg 22 x6r22 none))))
abbrev x6r23 : List XOper := [
  ⟨(some 104), none, .bin .add (.t 37) (.c (.int .i64 1))⟩,
  ⟨(some 37), none, .mv (.t 104)⟩]
abbrev x6l7 : XCode :=
  (.seq (.reg 7 x6r7 none)
  (.seq (.cond (.t 38)
    .skip
    (.exit 0))
  (.seq (.block 1
    (.seq (.reg 8 x6r8 none)
    (.seq (.reg 9 x6r9 none)
    (.seq (.seq (.reg 10 x6r10 none)
    (.cond (.t 48)
      (.seq (.seq (.reg 11 x6r11 none)
      (.cond (.t 56)
        (.seq (.reg 12 x6r12 none)
        .ret)
        .skip))
      (.exit 1))
      .skip))
    (.seq (.reg 13 x6r13 (some ⟨[(0, 3), (0, 4)]⟩))
    (.seq (.reg 14 x6r14 none)
    (.seq (.seq (.reg 15 x6r15 none)
    (.cond (.t 86)
      (.seq (.reg 16 x6r16 none)
      .ret)
      .skip))
    (.seq (.reg 17 x6r17 none)
    (.block 2
      (.loop x6l18))))))))))
  (.reg 23 x6r23 none))))
abbrev x6r24 : List XOper := [
  ⟨(some 4), none, .mv (.c (.bool true))⟩]
/-- datum/datumlaw23.JournalKeeps -/
abbrev x6b : XCode :=
  (.seq (.reg 0 x6r0 none)
  (.seq (.reg 1 x6r1 none)
  (.seq (.reg 2 x6r2 none)
  (.seq (.seq (.reg 3 x6r3 none)
  (.cond (.t 30)
    (.seq (.reg 4 x6r4 none)
    .ret)
    .skip))
  (.seq (.reg 5 x6r5 none)
  (.seq (.seq (.reg 6 x6r6 none)
  (.block 0
    (.loop x6l7)))
  (.seq (.reg 24 x6r24 none)
  .ret)))))))
def x6 : XFunc := ⟨105, 2, [.tmp 4], x6b⟩
theorem x6_ok : chkF Tryz.prog Tryz.f6 x6 = true := by kernel_rfl
theorem x6_eq : x6.body = x6b ∧ x6.res = [.tmp 4] ∧ x6.np = 2 := ⟨rfl, rfl, rfl⟩

abbrev x7r0 : List XOper := [
  ⟨(some 1), none, .box (.t 0)⟩,
  ⟨(some 2), none, .alloc [(.int .i64 0), (.int .i64 0), .nils]⟩]
abbrev x7r1 : List XOper := [
  ⟨(some 3), none, .fa 2 (.t 1)⟩,
  ⟨(some 4), none, .load false 1 (.t 3)⟩,
  ⟨(some 5), none, .fa 2 (.t 1)⟩,
  ⟨(some 6), none, .load false 1 (.t 5)⟩,
  ⟨(some 7), none, .lenV (.t 6)⟩,
  ⟨(some 8), none, .mnx false (.t 7) [(.c (.int .i64 20))]⟩,
  ⟨(some 9), none, .slV 4 (.t 4) none (some (.t 8)) none⟩,
  ⟨(some 10), none, .fa 2 (.t 1)⟩,
  ⟨none, none, .store 1 (.t 10) (.t 9)⟩]
abbrev x7r2 : List XOper := [
  ⟨(some 11), none, .load true 3 (.t 1)⟩,
  ⟨none, none, .store 3 (.t 2) (.t 11)⟩]
/-- datum/datumlaw23.few -/
abbrev x7b : XCode :=
  (.seq (.reg 0 x7r0 none)
  (.seq (.reg 1 x7r1 none)
  (.seq (.reg 2 x7r2 none)
  .ret)))
def x7 : XFunc := ⟨12, 1, [.cell 2 true 3], x7b⟩
theorem x7_ok : chkF Tryz.prog Tryz.f7 x7 = true := by kernel_rfl
theorem x7_eq : x7.body = x7b ∧ x7.res = [.cell 2 true 3] ∧ x7.np = 1 := ⟨rfl, rfl, rfl⟩

abbrev x8r0 : List XOper := [
  ⟨(some 2), none, .alloc [(.int .i64 0), (.int .i64 0), .nils]⟩,
  ⟨(some 3), none, .mv (.c (.int .i64 0))⟩]
abbrev x8r1 : List XOper := [
  ⟨(some 5), none, .mv (.t 0)⟩,
  ⟨(some 6), none, .build [(.int .i64 0), (.int .i64 0), .nils] [(0, 1, (.t 5))]⟩,
  ⟨(some 4), none, .alloc [(.int .i64 0), (.int .i64 0), .nils]⟩,
  ⟨none, none, .store 3 (.t 4) (.t 6)⟩]
abbrev x8r2 : List XOper := [
  ⟨(some 7), none, .load true 3 (.t 4)⟩,
  ⟨(some 8), none, .call (.c (.fn (.func 10) [] [])) [(.t 7)]⟩,
  ⟨(some 9), none, .un .not (.t 8)⟩]
abbrev x8r3 : List XOper := [
  ⟨(some 10), none, .build [(.int .i64 0), (.int .i64 0), .nils] []⟩,
  ⟨none, none, .store 3 (.t 2) (.t 10)⟩,
  ⟨(some 3), none, .mv (.c (.int .i64 1))⟩]
abbrev x8r4 : List XOper := [
  ⟨(some 11), none, .load true 3 (.t 4)⟩,
  ⟨none, none, .store 3 (.t 2) (.t 11)⟩,
  ⟨(some 3), none, .mv (.c (.int .i64 0))⟩]
/-- datum/journal.New -/
abbrev x8b : XCode :=
  (.seq (.reg 0 x8r0 none)
  (.seq (.reg 1 x8r1 none)
  (.seq (.seq (.reg 2 x8r2 none)
  (.cond (.t 9)
    (.seq (.reg 3 x8r3 none)
    .ret)
    .skip))
  (.seq (.reg 4 x8r4 none)
  .ret))))
def x8 : XFunc := ⟨12, 1, [.cell 2 true 3, .tmp 3], x8b⟩
theorem x8_ok : chkF Tryz.prog Tryz.f8 x8 = true := by kernel_rfl
theorem x8_eq : x8.body = x8b ∧ x8.res = [.cell 2 true 3, .tmp 3] ∧ x8.np = 1 := ⟨rfl, rfl, rfl⟩

abbrev x9r0 : List XOper := [
  ⟨(some 2), none, .box (.t 0)⟩,
  ⟨(some 3), none, .box (.t 1)⟩,
  ⟨(some 4), none, .alloc [(.int .i64 0), (.int .i64 0), .nils]⟩,
  ⟨(some 5), none, .mv (.c (.int .i64 0))⟩]
abbrev x9r1 : List XOper := [
  ⟨(some 9), none, .load true 3 (.t 2)⟩,
  ⟨(some 10), none, .call (.c (.fn (.func 10) [] [])) [(.t 9)]⟩,
  ⟨(some 11), none, .un .not (.t 10)⟩,
  ⟨(some 12), none, .mv (.t 11)⟩,
  ⟨(some 13), (some (12, false)), .load true 4 (.t 3)⟩,
  ⟨(some 14), (some (12, false)), .call (.c (.fn (.func 21) [] [])) [(.t 13)]⟩,
  ⟨(some 15), (some (12, false)), .un .not (.t 14)⟩,
  ⟨(some 16), none, .pick (.t 12) (.c (.bool true)) (.t 15)⟩,
  ⟨(some 8), none, .mv (.t 16)⟩]
abbrev x9r2 : List XOper := [
  ⟨(some 17), none, .build [(.int .i64 0), (.int .i64 0), .nils] []⟩,
  ⟨none, none, .store 3 (.t 4) (.t 17)⟩,
  ⟨(some 5), none, .mv (.c (.int .i64 1))⟩]
abbrev x9r3 : List XOper := [
  ⟨(some 19), none, .fa 1 (.t 2)⟩,
  ⟨(some 20), none, .load false 1 (.t 19)⟩,
  ⟨(some 21), none, .fa 2 (.t 2)⟩,
  ⟨(some 22), none, .load false 1 (.t 21)⟩,
  ⟨(some 23), none, .lenV (.t 22)⟩,
  ⟨(some 24), none, .bin .add (.t 20) (.t 23)⟩,
  ⟨(some 25), none, .bin .eql (.t 24) (.c (.int .i64 1000000000))⟩,
  ⟨(some 18), none, .mv (.t 25)⟩]
abbrev x9r4 : List XOper := [
  ⟨(some 26), none, .build [(.int .i64 0), (.int .i64 0), .nils] []⟩,
  ⟨none, none, .store 3 (.t 4) (.t 26)⟩,
  ⟨(some 5), none, .mv (.c (.int .i64 11))⟩]
abbrev x9r5 : List XOper := [
  ⟨(some 27), none, .fa 2 (.t 2)⟩,
  ⟨(some 28), none, .load false 1 (.t 27)⟩,
  ⟨(some 29), none, .callN (.c (.fn (.func 22) [] [])) [(.t 28)]⟩,
  ⟨(some 30), none, .load true 4 (.t 3)⟩,
  ⟨(some 31), none, .mkslice 4 (.agg [(.int .i64 0), (.int .i64 0), (.int .i64 0), (.int .i64 0)]) 1 [(0, (.t 30))]⟩,
  ⟨(some 32), none, .app 4 32 (.t 29) (.t 31)⟩,
  ⟨(some 6), none, .mv (.t 32)⟩]
abbrev x9r6 : List XOper := [
  ⟨(some 33), none, .mv (.t 6)⟩,
  ⟨(some 34), none, .lenV (.t 33)⟩,
  ⟨(some 35), none, .fa 0 (.t 2)⟩,
  ⟨(some 36), none, .load false 1 (.t 35)⟩,
  ⟨(some 37), none, .bin .sub (.t 34) (.t 36)⟩,
  ⟨(some 7), none, .mv (.t 37)⟩]
abbrev x9r7 : List XOper := [
  ⟨(some 38), none, .mv (.t 7)⟩,
  ⟨(some 39), none, .bin .gtr (.t 38) (.c (.int .i64 0))⟩]
abbrev x9r8 : List XOper := [
  ⟨(some 40), none, .fa 1 (.t 2)⟩,
  ⟨(some 41), none, .load false 1 (.t 40)⟩,
  ⟨(some 42), none, .mv (.t 7)⟩,
  ⟨(some 43), none, .bin .add (.t 41) (.t 42)⟩,
  ⟨(some 44), none, .fa 1 (.t 2)⟩,
  ⟨none, none, .store 1 (.t 44) (.t 43)⟩]
abbrev x9r9 : List XOper := [
  ⟨(some 45), none, .mv (.t 6)⟩,
  ⟨(some 46), none, .mv (.t 7)⟩,
  ⟨(some 47), none, .slV 4 (.t 45) (some (.t 46)) none none⟩,
  ⟨(some 6), none, .mv (.t 47)⟩]
abbrev x9r10 : List XOper := [
  ⟨(some 48), none, .mv (.t 6)⟩,
  ⟨(some 49), none, .fa 2 (.t 2)⟩,
  ⟨none, none, .store 1 (.t 49) (.t 48)⟩]
abbrev x9r11 : List XOper := [
  ⟨(some 50), none, .load true 3 (.t 2)⟩,
  ⟨none, none, .store 3 (.t 4) (.t 50)⟩,
  ⟨(some 5), none, .mv (.c (.int .i64 0))⟩]
/-- datum/journal.Append -/
abbrev x9b : XCode :=
  (.seq (.reg 0 x9r0 none)
  (.seq (.block 0
    (.seq (.reg 1 x9r1 none)
    (.cond (.t 8)
      (.seq (.reg 2 x9r2 none)
      .ret)
      (.seq (.reg 3 x9r3 none)
      (.cond (.t 18)
        (.seq (.reg 4 x9r4 none)
        .ret)
        .skip)))))
  (.seq (.reg 5 x9r5 (some ⟨[(2, 3), (1, 4), (2, 4)]⟩))
  (.seq (.seq (.reg 6 x9r6 none)
  (.seq (.reg 7 x9r7 none)
  (.cond (.t 39)
    (.seq (.reg 8 x9r8 none)
    (.reg 9 x9r9 none))
    .skip)))
  (.seq (.reg 10 x9r10 none)
  (.seq (.reg 11 x9r11 none)
  .ret))))))
def x9 : XFunc := ⟨51, 2, [.cell 4 true 3, .tmp 5], x9b⟩
theorem x9_ok : chkF Tryz.prog Tryz.f9 x9 = true := by kernel_rfl
theorem x9_eq : x9.body = x9b ∧ x9.res = [.cell 4 true 3, .tmp 5] ∧ x9.np = 2 := ⟨rfl, rfl, rfl⟩

abbrev x10r0 : List XOper := [
  ⟨(some 1), none, .box (.t 0)⟩,
  ⟨(some 2), none, .mv (.c (.bool false))⟩]
abbrev x10r1 : List XOper := [
  ⟨(some 4), none, .fa 2 (.t 1)⟩,
  ⟨(some 5), none, .load false 1 (.t 4)⟩,
  ⟨(some 6), none, .lenV (.t 5)⟩,
  ⟨(some 3), none, .mv (.t 6)⟩]
abbrev x10r2 : List XOper := [
  ⟨(some 7), none, .fa 0 (.t 1)⟩,
  ⟨(some 8), none, .load false 1 (.t 7)⟩,
  ⟨(some 9), none, .call (.c (.fn (.func 23) [] [])) [(.t 8), (.c (.int .i64 1)), (.c (.int .i64 16))]⟩,
  ⟨(some 10), none, .un .not (.t 9)⟩,
  ⟨(some 11), none, .mv (.t 10)⟩,
  ⟨(some 12), (some (11, false)), .mv (.t 3)⟩,
  ⟨(some 13), (some (11, false)), .fa 0 (.t 1)⟩,
  ⟨(some 14), (some (11, false)), .load false 1 (.t 13)⟩,
  ⟨(some 15), (some (11, false)), .bin .gtr (.t 12) (.t 14)⟩,
  ⟨(some 16), none, .pick (.t 11) (.c (.bool true)) (.t 15)⟩,
  ⟨(some 17), none, .mv (.t 16)⟩,
  ⟨(some 18), (some (17, false)), .fa 1 (.t 1)⟩,
  ⟨(some 19), (some (17, false)), .load false 1 (.t 18)⟩,
  ⟨(some 20), (some (17, false)), .mv (.t 3)⟩,
  ⟨(some 21), (some (17, false)), .bin .sub (.c (.int .i64 1000000000)) (.t 20)⟩,
  ⟨(some 22), (some (17, false)), .call (.c (.fn (.func 23) [] [])) [(.t 19), (.c (.int .i64 0)), (.t 21)]⟩,
  ⟨(some 23), (some (17, false)), .un .not (.t 22)⟩,
  ⟨(some 24), none, .pick (.t 17) (.c (.bool true)) (.t 23)⟩,
  ⟨(some 25), none, .mv (.t 24)⟩,
  ⟨(some 26), (some (25, false)), .fa 1 (.t 1)⟩,
  ⟨(some 27), (some (25, false)), .load false 1 (.t 26)⟩,
  ⟨(some 28), (some (25, false)), .bin .gtr (.t 27) (.c (.int .i64 0))⟩,
  ⟨(some 29), (some (25, false)), .mv (.t 28)⟩,
  ⟨(some 30), (some (29, true)), .mv (.t 3)⟩,
  ⟨(some 31), (some (29, true)), .fa 0 (.t 1)⟩,
  ⟨(some 32), (some (29, true)), .load false 1 (.t 31)⟩,
  ⟨(some 33), (some (29, true)), .bin .lss (.t 30) (.t 32)⟩,
  ⟨(some 34), (some (25, false)), .pick (.t 29) (.t 33) (.c (.bool false))⟩,
  ⟨(some 35), none, .pick (.t 25) (.c (.bool true)) (.t 34)⟩]
abbrev x10r3 : List XOper := [
  ⟨(some 2), none, .mv (.c (.bool false))⟩]
abbrev x10r4 : List XOper := [
  ⟨(some 36), none, .fa 2 (.t 1)⟩,
  ⟨(some 37), none, .load false 1 (.t 36)⟩,
  ⟨(some 38), none, .call (.c (.fn (.func 24) [] [])) [(.t 37), (.c (.fn (.func 25) [] []))]⟩,
  ⟨(some 39), none, .un .not (.t 38)⟩,
  ⟨(some 2), none, .mv (.t 39)⟩]
/-- datum/journal.Right -/
abbrev x10b : XCode :=
  (.seq (.reg 0 x10r0 none)
  (.seq (.reg 1 x10r1 none)
  (.seq (.seq (.reg 2 x10r2 none)
  (.cond (.t 35)
    (.seq (.reg 3 x10r3 none)
    .ret)
    .skip))
  (.seq (.reg 4 x10r4 none)
  .ret))))
def x10 : XFunc := ⟨40, 1, [.tmp 2], x10b⟩
theorem x10_ok : chkF Tryz.prog Tryz.f10 x10 = true := by kernel_rfl
theorem x10_eq : x10.body = x10b ∧ x10.res = [.tmp 2] ∧ x10.np = 1 := ⟨rfl, rfl, rfl⟩

abbrev x11r0 : List XOper := [
  ⟨(some 1), none, .box (.t 0)⟩,
  ⟨(some 2), none, .mv (.c (.bool false))⟩]
abbrev x11r1 : List XOper := [
  ⟨(some 6), none, .fa 2 (.t 1)⟩,
  ⟨(some 7), none, .load false 1 (.t 6)⟩,
  ⟨(some 8), none, .lenV (.t 7)⟩,
  ⟨(some 9), none, .mv (.c (.int .i64 0))⟩]
abbrev x11r2 : List XOper := [
  ⟨(some 10), none, .bin .lss (.t 9) (.t 8)⟩]
abbrev x11r3 : List XOper := [
  ⟨(some 11), none, .iaS 4 (.t 7) (.t 9)⟩,
  ⟨(some 12), none, .load true 4 (.t 11)⟩,
  ⟨(some 4), none, .alloc [(.int .i64 0), (.int .i64 0), (.int .i64 0), (.int .i64 0)]⟩,
  ⟨none, none, .store 4 (.t 4) (.t 12)⟩]
abbrev x11r4 : List XOper := [
  ⟨(some 13), none, .load true 4 (.t 4)⟩,
  ⟨(some 14), none, .call (.c (.fn (.func 14) [] [])) [(.t 13)]⟩,
  ⟨(some 15), none, .un .not (.t 14)⟩]
abbrev x11r5 : List XOper := [
  ⟨(some 2), none, .mv (.c (.bool false))⟩]
abbrev x11r6 : List XOper := [
  ⟨(some 16), none, .bin .add (.t 9) (.c (.int .i64 1))⟩,
  ⟨(some 9), none, .mv (.t 16)⟩]
abbrev x11l2 : XCode :=
  (.seq (.reg 2 x11r2 none)
  (.seq (.cond (.t 10)
    .skip
    (.exit 0))
  (.seq (.block 1
    (.seq (.reg 3 x11r3 none)
    (.seq (.reg 4 x11r4 none)
    (.cond (.t 15)
      (.seq (.reg 5 x11r5 none)
      .ret)
      .skip))))
  (.reg 6 x11r6 none))))
abbrev x11r7 : List XOper := [
  ⟨(some 17), none, .fa 2 (.t 1)⟩,
  ⟨(some 18), none, .load false 1 (.t 17)⟩,
  ⟨(some 19), none, .lenV (.t 18)⟩,
  ⟨(some 5), none, .mv (.t 19)⟩]
abbrev x11r8 : List XOper := [
  ⟨(some 20), none, .fa 0 (.t 1)⟩,
  ⟨(some 21), none, .load false 1 (.t 20)⟩,
  ⟨(some 22), none, .bin .geq (.t 21) (.c (.int .i64 1))⟩,
  ⟨(some 23), none, .mv (.t 22)⟩,
  ⟨(some 24), (some (23, true)), .fa 0 (.t 1)⟩,
  ⟨(some 25), (some (23, true)), .load false 1 (.t 24)⟩,
  ⟨(some 26), (some (23, true)), .bin .leq (.t 25) (.c (.int .i64 16))⟩,
  ⟨(some 27), none, .pick (.t 23) (.t 26) (.c (.bool false))⟩,
  ⟨(some 28), none, .mv (.t 27)⟩,
  ⟨(some 29), (some (28, true)), .mv (.t 5)⟩,
  ⟨(some 30), (some (28, true)), .fa 0 (.t 1)⟩,
  ⟨(some 31), (some (28, true)), .load false 1 (.t 30)⟩,
  ⟨(some 32), (some (28, true)), .bin .leq (.t 29) (.t 31)⟩,
  ⟨(some 33), none, .pick (.t 28) (.t 32) (.c (.bool false))⟩,
  ⟨(some 34), none, .mv (.t 33)⟩,
  ⟨(some 35), (some (34, true)), .fa 1 (.t 1)⟩,
  ⟨(some 36), (some (34, true)), .load false 1 (.t 35)⟩,
  ⟨(some 37), (some (34, true)), .bin .geq (.t 36) (.c (.int .i64 0))⟩,
  ⟨(some 38), none, .pick (.t 34) (.t 37) (.c (.bool false))⟩,
  ⟨(some 39), none, .mv (.t 38)⟩,
  ⟨(some 40), (some (39, true)), .fa 1 (.t 1)⟩,
  ⟨(some 41), (some (39, true)), .load false 1 (.t 40)⟩,
  ⟨(some 42), (some (39, true)), .bin .leq (.t 41) (.c (.int .i64 1000000000))⟩,
  ⟨(some 43), none, .pick (.t 39) (.t 42) (.c (.bool false))⟩,
  ⟨(some 44), none, .mv (.t 43)⟩,
  ⟨(some 45), (some (44, true)), .fa 1 (.t 1)⟩,
  ⟨(some 46), (some (44, true)), .load false 1 (.t 45)⟩,
  ⟨(some 47), (some (44, true)), .bin .eql (.t 46) (.c (.int .i64 0))⟩,
  ⟨(some 48), (some (44, true)), .mv (.t 47)⟩,
  ⟨(some 49), (some (48, false)), .mv (.t 5)⟩,
  ⟨(some 50), (some (48, false)), .fa 0 (.t 1)⟩,
  ⟨(some 51), (some (48, false)), .load false 1 (.t 50)⟩,
  ⟨(some 52), (some (48, false)), .bin .eql (.t 49) (.t 51)⟩,
  ⟨(some 53), (some (44, true)), .pick (.t 48) (.c (.bool true)) (.t 52)⟩,
  ⟨(some 54), none, .pick (.t 44) (.t 53) (.c (.bool false))⟩,
  ⟨(some 55), none, .mv (.t 54)⟩,
  ⟨(some 56), (some (55, true)), .fa 1 (.t 1)⟩,
  ⟨(some 57), (some (55, true)), .load false 1 (.t 56)⟩,
  ⟨(some 58), (some (55, true)), .mv (.t 5)⟩,
  ⟨(some 59), (some (55, true)), .bin .add (.t 57) (.t 58)⟩,
  ⟨(some 60), (some (55, true)), .bin .leq (.t 59) (.c (.int .i64 1000000000))⟩,
  ⟨(some 61), none, .pick (.t 55) (.t 60) (.c (.bool false))⟩,
  ⟨(some 2), none, .mv (.t 61)⟩]
/-- datum/datumref23.Right -/
abbrev x11b : XCode :=
  (.seq (.reg 0 x11r0 none)
  (.seq (.seq (.reg 1 x11r1 none)
  (.block 0
    (.loop x11l2)))
  (.seq (.reg 7 x11r7 none)
  (.seq (.reg 8 x11r8 none)
  .ret))))
def x11 : XFunc := ⟨62, 1, [.tmp 2], x11b⟩
theorem x11_ok : chkF Tryz.prog Tryz.f11 x11 = true := by kernel_rfl
theorem x11_eq : x11.body = x11b ∧ x11.res = [.tmp 2] ∧ x11.np = 1 := ⟨rfl, rfl, rfl⟩

abbrev x12r0 : List XOper := [
  ⟨(some 0), none, .mv (.c (.bool false))⟩]
abbrev x12r1 : List XOper := [
  ⟨(some 9), none, .call (.c (.fn (.func 8) [] [])) [(.c (.int .i64 2))]⟩,
  ⟨(some 8), none, .mv (.t 9)⟩,
  ⟨(some 10), none, .ext (.t 8) 0⟩,
  ⟨(some 11), none, .ext (.t 8) 1⟩,
  ⟨(some 1), none, .alloc [(.int .i64 0), (.int .i64 0), .nils]⟩,
  ⟨none, none, .store 3 (.t 1) (.t 10)⟩,
  ⟨(some 2), none, .mv (.t 11)⟩]
abbrev x12r2 : List XOper := [
  ⟨(some 13), none, .load true 3 (.t 1)⟩,
  ⟨(some 14), none, .build [(.int .i64 0), (.int .i64 0), (.int .i64 0), (.int .i64 0)] [(0, 1, (.c (.int .i64 4))), (1, 1, (.c (.int .i64 1))), (2, 1, (.c (.int .i64 3))), (3, 1, (.c (.int .i64 (-5))))]⟩,
  ⟨(some 15), none, .call (.c (.fn (.func 9) [] [])) [(.t 13), (.t 14)]⟩,
  ⟨(some 12), none, .mv (.t 15)⟩,
  ⟨(some 16), none, .ext (.t 12) 0⟩,
  ⟨(some 17), none, .ext (.t 12) 1⟩,
  ⟨none, none, .store 3 (.t 1) (.t 16)⟩,
  ⟨(some 3), none, .mv (.t 17)⟩]
abbrev x12r3 : List XOper := [
  ⟨(some 19), none, .load true 3 (.t 1)⟩,
  ⟨(some 20), none, .call (.c (.fn (.func 17) [] [])) [(.t 19)]⟩,
  ⟨(some 18), none, .mv (.t 20)⟩,
  ⟨(some 21), none, .ext (.t 18) 0⟩,
  ⟨(some 22), none, .ext (.t 18) 1⟩,
  ⟨(some 4), none, .mv (.t 21)⟩,
  ⟨(some 5), none, .mv (.t 22)⟩]
abbrev x12r4 : List XOper := [
  ⟨(some 24), none, .mv (.t 4)⟩,
  ⟨(some 25), none, .call (.c (.fn (.func 18) [] [])) [(.t 24)]⟩,
  ⟨(some 23), none, .mv (.t 25)⟩,
  ⟨(some 26), none, .ext (.t 23) 0⟩,
  ⟨(some 27), none, .ext (.t 23) 1⟩,
  ⟨(some 6), none, .alloc [(.int .i64 0), (.int .i64 0), .nils]⟩,
  ⟨none, none, .store 3 (.t 6) (.t 26)⟩,
  ⟨(some 7), none, .mv (.t 27)⟩]
abbrev x12r5 : List XOper := [
  ⟨(some 28), none, .mv (.t 2)⟩,
  ⟨(some 29), none, .bin .eql (.t 28) (.c (.int .i64 0))⟩,
  ⟨(some 30), none, .mv (.t 29)⟩,
  ⟨(some 31), (some (30, true)), .mv (.t 3)⟩,
  ⟨(some 32), (some (30, true)), .bin .eql (.t 31) (.c (.int .i64 0))⟩,
  ⟨(some 33), none, .pick (.t 30) (.t 32) (.c (.bool false))⟩,
  ⟨(some 34), none, .mv (.t 33)⟩,
  ⟨(some 35), (some (34, true)), .mv (.t 5)⟩,
  ⟨(some 36), (some (34, true)), .bin .eql (.t 35) (.c (.int .i64 0))⟩,
  ⟨(some 37), none, .pick (.t 34) (.t 36) (.c (.bool false))⟩,
  ⟨(some 38), none, .mv (.t 37)⟩,
  ⟨(some 39), (some (38, true)), .mv (.t 7)⟩,
  ⟨(some 40), (some (38, true)), .bin .eql (.t 39) (.c (.int .i64 0))⟩,
  ⟨(some 41), none, .pick (.t 38) (.t 40) (.c (.bool false))⟩,
  ⟨(some 42), none, .mv (.t 41)⟩,
  ⟨(some 43), (some (42, true)), .fa 2 (.t 6)⟩,
  ⟨(some 44), (some (42, true)), .load false 1 (.t 43)⟩,
  ⟨(some 45), (some (42, true)), .lenV (.t 44)⟩,
  ⟨(some 46), (some (42, true)), .bin .eql (.t 45) (.c (.int .i64 1))⟩,
  ⟨(some 47), none, .pick (.t 42) (.t 46) (.c (.bool false))⟩,
  ⟨(some 48), none, .mv (.t 47)⟩,
  ⟨(some 49), (some (48, true)), .fa 2 (.t 6)⟩,
  ⟨(some 50), (some (48, true)), .load false 1 (.t 49)⟩,
  ⟨(some 51), (some (48, true)), .iaS 4 (.t 50) (.c (.int .i64 0))⟩,
  ⟨(some 52), (some (48, true)), .fa 3 (.t 51)⟩,
  ⟨(some 53), (some (48, true)), .load false 1 (.t 52)⟩,
  ⟨(some 54), (some (48, true)), .bin .eql (.t 53) (.c (.int .i64 (-5)))⟩,
  ⟨(some 55), none, .pick (.t 48) (.t 54) (.c (.bool false))⟩,
  ⟨(some 0), none, .mv (.t 55)⟩]
/-- datum/datumlaw23.alive -/
abbrev x12b : XCode :=
  (.seq (.reg 0 x12r0 none)
  (.seq (.reg 1 x12r1 none)
  (.seq (.reg 2 x12r2 none)
  (.seq (.reg 3 x12r3 none)
  (.seq (.reg 4 x12r4 none)
  (.seq (.reg 5 x12r5 none)
  .ret))))))
def x12 : XFunc := ⟨56, 0, [.tmp 0], x12b⟩
theorem x12_ok : chkF Tryz.prog Tryz.f12 x12 = true := by kernel_rfl
theorem x12_eq : x12.body = x12b ∧ x12.res = [.tmp 0] ∧ x12.np = 0 := ⟨rfl, rfl, rfl⟩

abbrev x13r0 : List XOper := [
  ⟨(some 2), none, .box (.t 0)⟩,
  ⟨(some 3), none, .box (.t 1)⟩,
  ⟨(some 4), none, .mv (.c (.bool false))⟩]
abbrev x13r1 : List XOper := [
  ⟨(some 6), none, .fa 0 (.t 2)⟩,
  ⟨(some 7), none, .load false 1 (.t 6)⟩,
  ⟨(some 8), none, .fa 0 (.t 3)⟩,
  ⟨(some 9), none, .load false 1 (.t 8)⟩,
  ⟨(some 10), none, .bin .neq (.t 7) (.t 9)⟩,
  ⟨(some 11), none, .mv (.t 10)⟩,
  ⟨(some 12), (some (11, false)), .fa 1 (.t 2)⟩,
  ⟨(some 13), (some (11, false)), .load false 1 (.t 12)⟩,
  ⟨(some 14), (some (11, false)), .fa 1 (.t 3)⟩,
  ⟨(some 15), (some (11, false)), .load false 1 (.t 14)⟩,
  ⟨(some 16), (some (11, false)), .bin .neq (.t 13) (.t 15)⟩,
  ⟨(some 17), none, .pick (.t 11) (.c (.bool true)) (.t 16)⟩,
  ⟨(some 18), none, .mv (.t 17)⟩,
  ⟨(some 19), (some (18, false)), .fa 2 (.t 2)⟩,
  ⟨(some 20), (some (18, false)), .load false 1 (.t 19)⟩,
  ⟨(some 21), (some (18, false)), .lenV (.t 20)⟩,
  ⟨(some 22), (some (18, false)), .fa 2 (.t 3)⟩,
  ⟨(some 23), (some (18, false)), .load false 1 (.t 22)⟩,
  ⟨(some 24), (some (18, false)), .lenV (.t 23)⟩,
  ⟨(some 25), (some (18, false)), .bin .neq (.t 21) (.t 24)⟩,
  ⟨(some 26), none, .pick (.t 18) (.c (.bool true)) (.t 25)⟩]
abbrev x13r2 : List XOper := [
  ⟨(some 4), none, .mv (.c (.bool false))⟩]
abbrev x13r3 : List XOper := [
  ⟨(some 27), none, .fa 2 (.t 2)⟩,
  ⟨(some 28), none, .load false 1 (.t 27)⟩,
  ⟨(some 29), none, .lenV (.t 28)⟩,
  ⟨(some 30), none, .mv (.c (.int .i64 0))⟩]
abbrev x13r4 : List XOper := [
  ⟨(some 31), none, .bin .lss (.t 30) (.t 29)⟩]
abbrev x13r5 : List XOper := [
  ⟨(some 32), none, .mv (.t 30)⟩,
  ⟨(some 5), none, .mv (.t 32)⟩]
abbrev x13r6 : List XOper := [
  ⟨(some 33), none, .fa 2 (.t 2)⟩,
  ⟨(some 34), none, .load false 1 (.t 33)⟩,
  ⟨(some 35), none, .mv (.t 5)⟩,
  ⟨(some 36), none, .iaS 4 (.t 34) (.t 35)⟩,
  ⟨(some 37), none, .load true 4 (.t 36)⟩,
  ⟨(some 38), none, .fa 2 (.t 3)⟩,
  ⟨(some 39), none, .load false 1 (.t 38)⟩,
  ⟨(some 40), none, .mv (.t 5)⟩,
  ⟨(some 41), none, .iaS 4 (.t 39) (.t 40)⟩,
  ⟨(some 42), none, .load true 4 (.t 41)⟩,
  ⟨(some 43), none, .eqA true [0, 0, 0, 0] (.t 37) (.t 42)⟩]
abbrev x13r7 : List XOper := [
  ⟨(some 4), none, .mv (.c (.bool false))⟩]
abbrev x13r8 : List XOper := [
  ⟨(some 44), none, .bin .add (.t 30) (.c (.int .i64 1))⟩,
  ⟨(some 30), none, .mv (.t 44)⟩]
abbrev x13l4 : XCode :=
  (.seq (.reg 4 x13r4 none)
  (.seq (.cond (.t 31)
    .skip
    (.exit 0))
  (.seq (.block 1
    (.seq (.reg 5 x13r5 none)
    (.seq (.reg 6 x13r6 (some ⟨[]⟩))
    (.cond (.t 43)
      (.seq (.reg 7 x13r7 none)
      .ret)
      .skip))))
  (.reg 8 x13r8 none))))
abbrev x13r9 : List XOper := [
  ⟨(some 4), none, .mv (.c (.bool true))⟩]
/-- datum/datumref23.Same -/
abbrev x13b : XCode :=
  (.seq (.reg 0 x13r0 none)
  (.seq (.seq (.reg 1 x13r1 none)
  (.cond (.t 26)
    (.seq (.reg 2 x13r2 none)
    .ret)
    .skip))
  (.seq (.seq (.reg 3 x13r3 none)
  (.block 0
    (.loop x13l4)))
  (.seq (.reg 9 x13r9 none)
  .ret))))
def x13 : XFunc := ⟨45, 2, [.tmp 4], x13b⟩
theorem x13_ok : chkF Tryz.prog Tryz.f13 x13 = true := by kernel_rfl
theorem x13_eq : x13.body = x13b ∧ x13.res = [.tmp 4] ∧ x13.np = 2 := ⟨rfl, rfl, rfl⟩

abbrev x14r0 : List XOper := [
  ⟨(some 1), none, .box (.t 0)⟩,
  ⟨(some 2), none, .mv (.c (.bool false))⟩]
abbrev x14r1 : List XOper := [
  ⟨(some 3), none, .fa 0 (.t 1)⟩,
  ⟨(some 4), none, .load false 1 (.t 3)⟩,
  ⟨(some 5), none, .bin .geq (.t 4) (.c (.int .i64 1))⟩,
  ⟨(some 6), none, .mv (.t 5)⟩,
  ⟨(some 7), (some (6, true)), .fa 0 (.t 1)⟩,
  ⟨(some 8), (some (6, true)), .load false 1 (.t 7)⟩,
  ⟨(some 9), (some (6, true)), .bin .leq (.t 8) (.c (.int .i64 8))⟩,
  ⟨(some 10), none, .pick (.t 6) (.t 9) (.c (.bool false))⟩,
  ⟨(some 11), none, .mv (.t 10)⟩,
  ⟨(some 12), (some (11, true)), .fa 1 (.t 1)⟩,
  ⟨(some 13), (some (11, true)), .load false 1 (.t 12)⟩,
  ⟨(some 14), (some (11, true)), .bin .geq (.t 13) (.c (.int .i64 0))⟩,
  ⟨(some 15), none, .pick (.t 11) (.t 14) (.c (.bool false))⟩,
  ⟨(some 16), none, .mv (.t 15)⟩,
  ⟨(some 17), (some (16, true)), .fa 1 (.t 1)⟩,
  ⟨(some 18), (some (16, true)), .load false 1 (.t 17)⟩,
  ⟨(some 19), (some (16, true)), .bin .leq (.t 18) (.c (.int .i64 3))⟩,
  ⟨(some 20), none, .pick (.t 16) (.t 19) (.c (.bool false))⟩,
  ⟨(some 21), none, .mv (.t 20)⟩,
  ⟨(some 22), (some (21, true)), .fa 2 (.t 1)⟩,
  ⟨(some 23), (some (21, true)), .load false 1 (.t 22)⟩,
  ⟨(some 24), (some (21, true)), .bin .geq (.t 23) (.c (.int .i64 0))⟩,
  ⟨(some 25), none, .pick (.t 21) (.t 24) (.c (.bool false))⟩,
  ⟨(some 26), none, .mv (.t 25)⟩,
  ⟨(some 27), (some (26, true)), .fa 2 (.t 1)⟩,
  ⟨(some 28), (some (26, true)), .load false 1 (.t 27)⟩,
  ⟨(some 29), (some (26, true)), .bin .leq (.t 28) (.c (.int .i64 15))⟩,
  ⟨(some 30), none, .pick (.t 26) (.t 29) (.c (.bool false))⟩,
  ⟨(some 31), none, .mv (.t 30)⟩,
  ⟨(some 32), (some (31, true)), .fa 3 (.t 1)⟩,
  ⟨(some 33), (some (31, true)), .load false 1 (.t 32)⟩,
  ⟨(some 34), (some (31, true)), .bin .geq (.t 33) (.c (.int .i64 (-1000000000)))⟩,
  ⟨(some 35), none, .pick (.t 31) (.t 34) (.c (.bool false))⟩,
  ⟨(some 36), none, .mv (.t 35)⟩,
  ⟨(some 37), (some (36, true)), .fa 3 (.t 1)⟩,
  ⟨(some 38), (some (36, true)), .load false 1 (.t 37)⟩,
  ⟨(some 39), (some (36, true)), .bin .leq (.t 38) (.c (.int .i64 1000000000))⟩,
  ⟨(some 40), none, .pick (.t 36) (.t 39) (.c (.bool false))⟩,
  ⟨(some 2), none, .mv (.t 40)⟩]
/-- datum/datumref23.Entry -/
abbrev x14b : XCode :=
  (.seq (.reg 0 x14r0 none)
  (.seq (.reg 1 x14r1 none)
  .ret))
def x14 : XFunc := ⟨41, 1, [.tmp 2], x14b⟩
theorem x14_ok : chkF Tryz.prog Tryz.f14 x14 = true := by kernel_rfl
theorem x14_eq : x14.body = x14b ∧ x14.res = [.tmp 2] ∧ x14.np = 1 := ⟨rfl, rfl, rfl⟩

abbrev x15r0 : List XOper := [
  ⟨(some 1), none, .box (.t 0)⟩,
  ⟨(some 2), none, .mv (.c (.bool false))⟩]
abbrev x15r1 : List XOper := [
  ⟨(some 3), none, .fa 1 (.t 1)⟩,
  ⟨(some 4), none, .load false 1 (.t 3)⟩,
  ⟨(some 5), none, .fa 2 (.t 1)⟩,
  ⟨(some 6), none, .load false 1 (.t 5)⟩,
  ⟨(some 7), none, .lenV (.t 6)⟩,
  ⟨(some 8), none, .bin .add (.t 4) (.t 7)⟩,
  ⟨(some 9), none, .bin .eql (.t 8) (.c (.int .i64 1000000000))⟩,
  ⟨(some 2), none, .mv (.t 9)⟩]
/-- datum/datumref23.Full -/
abbrev x15b : XCode :=
  (.seq (.reg 0 x15r0 none)
  (.seq (.reg 1 x15r1 none)
  .ret))
def x15 : XFunc := ⟨10, 1, [.tmp 2], x15b⟩
theorem x15_ok : chkF Tryz.prog Tryz.f15 x15 = true := by kernel_rfl
theorem x15_eq : x15.body = x15b ∧ x15.res = [.tmp 2] ∧ x15.np = 1 := ⟨rfl, rfl, rfl⟩

abbrev x16r0 : List XOper := [
  ⟨(some 2), none, .box (.t 0)⟩,
  ⟨(some 3), none, .box (.t 1)⟩,
  ⟨(some 4), none, .alloc [(.int .i64 0), (.int .i64 0), .nils]⟩]
abbrev x16r1 : List XOper := [
  ⟨(some 8), none, .mkslice 4 (.agg [(.int .i64 0), (.int .i64 0), (.int .i64 0), (.int .i64 0)]) 0 []⟩,
  ⟨(some 5), none, .mv (.t 8)⟩]
abbrev x16r2 : List XOper := [
  ⟨(some 9), none, .fa 2 (.t 2)⟩,
  ⟨(some 10), none, .load false 1 (.t 9)⟩,
  ⟨(some 11), none, .lenV (.t 10)⟩,
  ⟨(some 12), none, .mv (.c (.int .i64 0))⟩]
abbrev x16r3 : List XOper := [
  ⟨(some 13), none, .bin .lss (.t 12) (.t 11)⟩]
abbrev x16r4 : List XOper := [
  ⟨(some 14), none, .mv (.t 12)⟩,
  ⟨(some 15), none, .iaS 4 (.t 10) (.t 12)⟩,
  ⟨(some 16), none, .load true 4 (.t 15)⟩,
  ⟨(some 7), none, .alloc [(.int .i64 0), (.int .i64 0), (.int .i64 0), (.int .i64 0)]⟩,
  ⟨(some 6), none, .mv (.t 14)⟩,
  ⟨none, none, .store 4 (.t 7) (.t 16)⟩]
abbrev x16r5 : List XOper := [
  ⟨(some 17), none, .mv (.t 6)⟩,
  ⟨(some 18), none, .bin .gtr (.t 17) (.c (.int .i64 0))⟩,
  ⟨(some 19), none, .mv (.t 18)⟩,
  ⟨(some 20), (some (19, false)), .fa 2 (.t 2)⟩,
  ⟨(some 21), (some (19, false)), .load false 1 (.t 20)⟩,
  ⟨(some 22), (some (19, false)), .lenV (.t 21)⟩,
  ⟨(some 23), (some (19, false)), .fa 0 (.t 2)⟩,
  ⟨(some 24), (some (19, false)), .load false 1 (.t 23)⟩,
  ⟨(some 25), (some (19, false)), .bin .lss (.t 22) (.t 24)⟩,
  ⟨(some 26), none, .pick (.t 19) (.c (.bool true)) (.t 25)⟩]
abbrev x16r6 : List XOper := [
  ⟨(some 27), none, .mv (.t 5)⟩,
  ⟨(some 28), none, .load true 4 (.t 7)⟩,
  ⟨(some 29), none, .mkslice 4 (.agg [(.int .i64 0), (.int .i64 0), (.int .i64 0), (.int .i64 0)]) 1 [(0, (.t 28))]⟩,
  ⟨(some 30), none, .app 4 32 (.t 27) (.t 29)⟩,
  ⟨(some 5), none, .mv (.t 30)⟩]
abbrev x16r7 : List XOper := [
  ⟨(some 31), none, .bin .add (.t 12) (.c (.int .i64 1))⟩,
  ⟨(some 12), none, .mv (.t 31)⟩]
abbrev x16l3 : XCode :=
  (.seq (.reg 3 x16r3 none)
  (.seq (.cond (.t 13)
    .skip
    (.exit 0))
  (.seq (.block 1
    (.seq (.reg 4 x16r4 none)
    (.seq (.reg 5 x16r5 none)
    (.cond (.t 26)
      (.reg 6 x16r6 none)
      .skip))))
  (.reg 7 x16r7 none))))
abbrev x16r8 : List XOper := [
  ⟨(some 32), none, .mv (.t 5)⟩,
  ⟨(some 33), none, .load true 4 (.t 3)⟩,
  ⟨(some 34), none, .mkslice 4 (.agg [(.int .i64 0), (.int .i64 0), (.int .i64 0), (.int .i64 0)]) 1 [(0, (.t 33))]⟩,
  ⟨(some 35), none, .app 4 32 (.t 32) (.t 34)⟩,
  ⟨(some 5), none, .mv (.t 35)⟩]
abbrev x16r9 : List XOper := [
  ⟨(some 36), none, .fa 2 (.t 2)⟩,
  ⟨(some 37), none, .load false 1 (.t 36)⟩,
  ⟨(some 38), none, .lenV (.t 37)⟩,
  ⟨(some 39), none, .fa 0 (.t 2)⟩,
  ⟨(some 40), none, .load false 1 (.t 39)⟩,
  ⟨(some 41), none, .bin .eql (.t 38) (.t 40)⟩]
abbrev x16r10 : List XOper := [
  ⟨(some 42), none, .fa 1 (.t 2)⟩,
  ⟨(some 43), none, .load false 1 (.t 42)⟩,
  ⟨(some 44), none, .bin .add (.t 43) (.c (.int .i64 1))⟩,
  ⟨(some 45), none, .fa 1 (.t 2)⟩,
  ⟨none, none, .store 1 (.t 45) (.t 44)⟩]
abbrev x16r11 : List XOper := [
  ⟨(some 46), none, .mv (.t 5)⟩,
  ⟨(some 47), none, .fa 2 (.t 2)⟩,
  ⟨none, none, .store 1 (.t 47) (.t 46)⟩]
abbrev x16r12 : List XOper := [
  ⟨(some 48), none, .load true 3 (.t 2)⟩,
  ⟨none, none, .store 3 (.t 4) (.t 48)⟩]
/-- datum/datumref23.Append -/
abbrev x16b : XCode :=
  (.seq (.reg 0 x16r0 none)
  (.seq (.reg 1 x16r1 none)
  (.seq (.seq (.reg 2 x16r2 none)
  (.block 0
    (.loop x16l3)))
  (.seq (.reg 8 x16r8 none)
  (.seq (.seq (.reg 9 x16r9 none)
  (.cond (.t 41)
    (.reg 10 x16r10 none)
    .skip))
  (.seq (.reg 11 x16r11 none)
  (.seq (.reg 12 x16r12 none)
  .ret)))))))
def x16 : XFunc := ⟨49, 2, [.cell 4 true 3], x16b⟩
theorem x16_ok : chkF Tryz.prog Tryz.f16 x16 = true := by kernel_rfl
theorem x16_eq : x16.body = x16b ∧ x16.res = [.cell 4 true 3] ∧ x16.np = 2 := ⟨rfl, rfl, rfl⟩

abbrev x18r0 : List XOper := [
  ⟨(some 2), none, .alloc [(.int .i64 0), (.int .i64 0), .nils]⟩,
  ⟨(some 3), none, .mv (.c (.int .i64 0))⟩]
abbrev x18r1 : List XOper := [
  ⟨(some 11), none, .mv (.t 0)⟩,
  ⟨(some 12), none, .call (.c (.fn (.func 31) [] [])) [(.t 11), (.c (.str ⟨#[10]⟩))]⟩,
  ⟨(some 10), none, .mv (.t 12)⟩,
  ⟨(some 13), none, .ext (.t 10) 0⟩,
  ⟨(some 14), none, .ext (.t 10) 1⟩,
  ⟨(some 4), none, .mv (.t 13)⟩,
  ⟨(some 5), none, .mv (.t 14)⟩]
abbrev x18r2 : List XOper := [
  ⟨(some 15), none, .mv (.t 5)⟩,
  ⟨(some 16), none, .un .not (.t 15)⟩]
abbrev x18r3 : List XOper := [
  ⟨(some 17), none, .build [(.int .i64 0), (.int .i64 0), .nils] []⟩,
  ⟨none, none, .store 3 (.t 2) (.t 17)⟩,
  ⟨(some 3), none, .mv (.c (.int .i64 14))⟩]
abbrev x18r4 : List XOper := [
  ⟨(some 6), none, .alloc [(.int .i64 0), (.int .i64 0), .nils]⟩]
abbrev x18r5 : List XOper := [
  ⟨(some 18), none, .mv (.t 4)⟩,
  ⟨(some 19), none, .call (.c (.fn (.func 32) [] [])) [(.t 18), (.c (.str ⟨#[10]⟩))]⟩,
  ⟨(some 20), none, .lenV (.t 19)⟩,
  ⟨(some 21), none, .mv (.c (.int .i64 0))⟩]
abbrev x18r6 : List XOper := [
  ⟨(some 22), none, .bin .lss (.t 21) (.t 20)⟩]
abbrev x18r7 : List XOper := [
  ⟨(some 23), none, .mv (.t 21)⟩,
  ⟨(some 24), none, .iaS 1 (.t 19) (.t 21)⟩,
  ⟨(some 25), none, .load false 1 (.t 24)⟩,
  ⟨(some 7), none, .mv (.t 23)⟩,
  ⟨(some 8), none, .mv (.t 25)⟩]
abbrev x18r8 : List XOper := [
  ⟨(some 26), none, .mv (.t 7)⟩,
  ⟨(some 27), none, .bin .eql (.t 26) (.c (.int .i64 0))⟩,
  ⟨(some 28), none, .mv (.t 8)⟩,
  ⟨(some 29), none, .call (.c (.fn (.func 33) [] [])) [(.t 6), (.t 27), (.t 28)]⟩,
  ⟨(some 9), none, .mv (.t 29)⟩]
abbrev x18r9 : List XOper := [
  ⟨(some 30), none, .mv (.t 9)⟩,
  ⟨(some 31), none, .bin .neq (.t 30) (.c (.int .i64 0))⟩]
abbrev x18r10 : List XOper := [
  ⟨(some 32), none, .build [(.int .i64 0), (.int .i64 0), .nils] []⟩,
  ⟨(some 33), none, .mv (.t 9)⟩,
  ⟨none, none, .store 3 (.t 2) (.t 32)⟩,
  ⟨(some 3), none, .mv (.t 33)⟩]
abbrev x18r11 : List XOper := [
  ⟨(some 34), none, .bin .add (.t 21) (.c (.int .i64 1))⟩,
  ⟨(some 21), none, .mv (.t 34)⟩]
abbrev x18l6 : XCode :=
  (.seq (.reg 6 x18r6 none)
  (.seq (.cond (.t 22)
    .skip
    (.exit 0))
  (.seq (.block 1
    (.seq (.reg 7 x18r7 none)
    (.seq (.reg 8 x18r8 none)
    (.seq (.reg 9 x18r9 none)
    (.cond (.t 31)
      (.seq (.reg 10 x18r10 none)
      .ret)
      .skip)))))
  (.reg 11 x18r11 none))))
abbrev x18r12 : List XOper := [
  ⟨(some 35), none, .load true 3 (.t 6)⟩,
  ⟨(some 36), none, .call (.c (.fn (.func 10) [] [])) [(.t 35)]⟩,
  ⟨(some 37), none, .un .not (.t 36)⟩]
abbrev x18r13 : List XOper := [
  ⟨(some 38), none, .build [(.int .i64 0), (.int .i64 0), .nils] []⟩,
  ⟨none, none, .store 3 (.t 2) (.t 38)⟩,
  ⟨(some 3), none, .mv (.c (.int .i64 1))⟩]
abbrev x18r14 : List XOper := [
  ⟨(some 39), none, .load true 3 (.t 6)⟩,
  ⟨none, none, .store 3 (.t 2) (.t 39)⟩,
  ⟨(some 3), none, .mv (.c (.int .i64 0))⟩]
/-- datum/journal.Import -/
abbrev x18b : XCode :=
  (.seq (.reg 0 x18r0 none)
  (.seq (.reg 1 x18r1 none)
  (.seq (.seq (.reg 2 x18r2 none)
  (.cond (.t 16)
    (.seq (.reg 3 x18r3 none)
    .ret)
    .skip))
  (.seq (.reg 4 x18r4 none)
  (.seq (.seq (.reg 5 x18r5 none)
  (.block 0
    (.loop x18l6)))
  (.seq (.seq (.reg 12 x18r12 none)
  (.cond (.t 37)
    (.seq (.reg 13 x18r13 none)
    .ret)
    .skip))
  (.seq (.reg 14 x18r14 none)
  .ret)))))))
def x18 : XFunc := ⟨40, 1, [.cell 2 true 3, .tmp 3], x18b⟩
theorem x18_ok : chkF Tryz.prog Tryz.f18 x18 = true := by kernel_rfl
theorem x18_eq : x18.body = x18b ∧ x18.res = [.cell 2 true 3, .tmp 3] ∧ x18.np = 1 := ⟨rfl, rfl, rfl⟩

abbrev x19r0 : List XOper := [
  ⟨(some 1), none, .box (.t 0)⟩,
  ⟨(some 2), none, .mv (.c (.str ⟨#[]⟩))⟩]
abbrev x19r1 : List XOper := [
  ⟨(some 6), none, .fa 0 (.t 1)⟩,
  ⟨(some 7), none, .load false 1 (.t 6)⟩,
  ⟨(some 8), none, .fa 1 (.t 1)⟩,
  ⟨(some 9), none, .load false 1 (.t 8)⟩,
  ⟨(some 10), none, .mkslice 1 (.int .i64 0) 2 [(0, (.t 7)), (1, (.t 9))]⟩,
  ⟨(some 11), none, .call (.c (.fn (.func 35) [] [])) [(.t 10)]⟩,
  ⟨(some 12), none, .bin .add (.c (.str ⟨#[108, 111, 103, 32]⟩)) (.t 11)⟩,
  ⟨(some 13), none, .call (.c (.fn (.func 34) [] [])) [(.t 12)]⟩,
  ⟨(some 3), none, .mv (.t 13)⟩]
abbrev x19r2 : List XOper := [
  ⟨(some 14), none, .fa 2 (.t 1)⟩,
  ⟨(some 15), none, .load false 1 (.t 14)⟩,
  ⟨(some 16), none, .lenV (.t 15)⟩,
  ⟨(some 17), none, .mv (.c (.int .i64 0))⟩]
abbrev x19r3 : List XOper := [
  ⟨(some 18), none, .bin .lss (.t 17) (.t 16)⟩]
abbrev x19r4 : List XOper := [
  ⟨(some 19), none, .mv (.t 17)⟩,
  ⟨(some 20), none, .iaS 4 (.t 15) (.t 17)⟩,
  ⟨(some 21), none, .load true 4 (.t 20)⟩,
  ⟨(some 5), none, .alloc [(.int .i64 0), (.int .i64 0), (.int .i64 0), (.int .i64 0)]⟩,
  ⟨(some 4), none, .mv (.t 19)⟩,
  ⟨none, none, .store 4 (.t 5) (.t 21)⟩]
abbrev x19r5 : List XOper := [
  ⟨(some 22), none, .mv (.t 3)⟩,
  ⟨(some 23), none, .fa 1 (.t 1)⟩,
  ⟨(some 24), none, .load false 1 (.t 23)⟩,
  ⟨(some 25), none, .mv (.t 4)⟩,
  ⟨(some 26), none, .bin .add (.t 24) (.t 25)⟩,
  ⟨(some 27), none, .fa 0 (.t 5)⟩,
  ⟨(some 28), none, .load false 1 (.t 27)⟩,
  ⟨(some 29), none, .fa 1 (.t 5)⟩,
  ⟨(some 30), none, .load false 1 (.t 29)⟩,
  ⟨(some 31), none, .fa 2 (.t 5)⟩,
  ⟨(some 32), none, .load false 1 (.t 31)⟩,
  ⟨(some 33), none, .fa 3 (.t 5)⟩,
  ⟨(some 34), none, .load false 1 (.t 33)⟩,
  ⟨(some 35), none, .mkslice 1 (.int .i64 0) 5 [(0, (.t 26)), (1, (.t 28)), (2, (.t 30)), (3, (.t 32)), (4, (.t 34))]⟩,
  ⟨(some 36), none, .call (.c (.fn (.func 35) [] [])) [(.t 35)]⟩,
  ⟨(some 37), none, .call (.c (.fn (.func 34) [] [])) [(.t 36)]⟩,
  ⟨(some 38), none, .bin .add (.t 22) (.t 37)⟩,
  ⟨(some 3), none, .mv (.t 38)⟩]
abbrev x19r6 : List XOper := [
  ⟨(some 39), none, .bin .add (.t 17) (.c (.int .i64 1))⟩,
  ⟨(some 17), none, .mv (.t 39)⟩]
abbrev x19l3 : XCode :=
  (.seq (.reg 3 x19r3 none)
  (.seq (.cond (.t 18)
    .skip
    (.exit 0))
  (.seq (.block 1
    (.seq (.reg 4 x19r4 none)
    (.reg 5 x19r5 none)))
  (.reg 6 x19r6 none))))
abbrev x19r7 : List XOper := [
  ⟨(some 40), none, .mv (.t 3)⟩,
  ⟨(some 2), none, .mv (.t 40)⟩]
/-- datum/datumref23.Export -/
abbrev x19b : XCode :=
  (.seq (.reg 0 x19r0 none)
  (.seq (.reg 1 x19r1 none)
  (.seq (.seq (.reg 2 x19r2 none)
  (.block 0
    (.loop x19l3)))
  (.seq (.reg 7 x19r7 none)
  .ret))))
def x19 : XFunc := ⟨41, 1, [.tmp 2], x19b⟩
theorem x19_ok : chkF Tryz.prog Tryz.f19 x19 = true := by kernel_rfl
theorem x19_eq : x19.body = x19b ∧ x19.res = [.tmp 2] ∧ x19.np = 1 := ⟨rfl, rfl, rfl⟩

abbrev x20r0 : List XOper := [
  ⟨(some 2), none, .alloc [(.int .i64 0), (.int .i64 0), .nils]⟩,
  ⟨(some 3), none, .mv (.c (.int .i64 0))⟩]
abbrev x20r1 : List XOper := [
  ⟨(some 13), none, .build [(.int .i64 0), (.int .i64 0), .nils] []⟩,
  ⟨(some 4), none, .alloc [(.int .i64 0), (.int .i64 0), .nils]⟩,
  ⟨none, none, .store 3 (.t 4) (.t 13)⟩]
abbrev x20r2 : List XOper := [
  ⟨(some 14), none, .mv (.t 0)⟩,
  ⟨(some 15), none, .bin .eql (.t 14) (.c (.str ⟨#[]⟩))⟩,
  ⟨(some 16), none, .mv (.t 15)⟩,
  ⟨(some 17), (some (16, false)), .mv (.t 0)⟩,
  ⟨(some 18), (some (16, false)), .mv (.t 0)⟩,
  ⟨(some 19), (some (16, false)), .lenS (.t 18)⟩,
  ⟨(some 20), (some (16, false)), .bin .sub (.t 19) (.c (.int .i64 1))⟩,
  ⟨(some 21), (some (16, false)), .ixS (.t 17) (.t 20)⟩,
  ⟨(some 22), (some (16, false)), .bin .neq (.t 21) (.c (.int .u8 10))⟩,
  ⟨(some 23), none, .pick (.t 16) (.c (.bool true)) (.t 22)⟩]
abbrev x20r3 : List XOper := [
  ⟨(some 24), none, .load true 3 (.t 4)⟩,
  ⟨none, none, .store 3 (.t 2) (.t 24)⟩,
  ⟨(some 3), none, .mv (.c (.int .i64 14))⟩]
abbrev x20r4 : List XOper := [
  ⟨(some 25), none, .build [(.int .i64 0), (.int .i64 0), .nils] []⟩,
  ⟨(some 5), none, .alloc [(.int .i64 0), (.int .i64 0), .nils]⟩,
  ⟨none, none, .store 3 (.t 5) (.t 25)⟩]
abbrev x20r5 : List XOper := [
  ⟨(some 26), none, .mv (.t 0)⟩,
  ⟨(some 27), none, .mv (.t 0)⟩,
  ⟨(some 28), none, .lenS (.t 27)⟩,
  ⟨(some 29), none, .bin .sub (.t 28) (.c (.int .i64 1))⟩,
  ⟨(some 30), none, .slS (.t 26) none (some (.t 29))⟩,
  ⟨(some 31), none, .call (.c (.fn (.func 36) [] [])) [(.t 30), (.c (.int .u8 10))]⟩,
  ⟨(some 32), none, .lenV (.t 31)⟩,
  ⟨(some 33), none, .mv (.c (.int .i64 0))⟩]
abbrev x20r6 : List XOper := [
  ⟨(some 34), none, .bin .lss (.t 33) (.t 32)⟩]
abbrev x20r7 : List XOper := [
  ⟨(some 35), none, .mv (.t 33)⟩,
  ⟨(some 36), none, .iaS 1 (.t 31) (.t 33)⟩,
  ⟨(some 37), none, .load false 1 (.t 36)⟩,
  ⟨(some 6), none, .mv (.t 35)⟩,
  ⟨(some 7), none, .mv (.t 37)⟩]
abbrev x20r8 : List XOper := [
  ⟨(some 39), none, .mv (.t 7)⟩,
  ⟨(some 40), none, .call (.c (.fn (.func 37) [] [])) [(.t 39)]⟩,
  ⟨(some 38), none, .mv (.t 40)⟩,
  ⟨(some 41), none, .ext (.t 38) 0⟩,
  ⟨(some 42), none, .ext (.t 38) 1⟩,
  ⟨(some 8), none, .mv (.t 41)⟩,
  ⟨(some 9), none, .mv (.t 42)⟩]
abbrev x20r9 : List XOper := [
  ⟨(some 43), none, .mv (.t 9)⟩,
  ⟨(some 44), none, .bin .neq (.t 43) (.c (.int .i64 0))⟩]
abbrev x20r10 : List XOper := [
  ⟨(some 45), none, .load true 3 (.t 4)⟩,
  ⟨(some 46), none, .mv (.t 9)⟩,
  ⟨none, none, .store 3 (.t 2) (.t 45)⟩,
  ⟨(some 3), none, .mv (.t 46)⟩]
abbrev x20r11 : List XOper := [
  ⟨(some 47), none, .mv (.t 8)⟩,
  ⟨(some 48), none, .call (.c (.fn (.func 36) [] [])) [(.t 47), (.c (.int .u8 32))]⟩,
  ⟨(some 10), none, .mv (.t 48)⟩]
abbrev x20r12 : List XOper := [
  ⟨(some 49), none, .mv (.t 6)⟩,
  ⟨(some 50), none, .bin .eql (.t 49) (.c (.int .i64 0))⟩]
abbrev x20r13 : List XOper := [
  ⟨(some 51), none, .mv (.t 10)⟩,
  ⟨(some 52), none, .iaS 1 (.t 51) (.c (.int .i64 0))⟩,
  ⟨(some 53), none, .load false 1 (.t 52)⟩,
  ⟨(some 54), none, .bin .neq (.t 53) (.c (.str ⟨#[108, 111, 103]⟩))⟩]
abbrev x20r14 : List XOper := [
  ⟨(some 55), none, .load true 3 (.t 4)⟩,
  ⟨none, none, .store 3 (.t 2) (.t 55)⟩,
  ⟨(some 3), none, .mv (.c (.int .i64 14))⟩]
abbrev x20r15 : List XOper := [
  ⟨(some 56), none, .mv (.t 10)⟩,
  ⟨(some 57), none, .slV 1 (.t 56) (some (.c (.int .i64 1))) none none⟩,
  ⟨(some 10), none, .mv (.t 57)⟩]
abbrev x20r16 : List XOper := [
  ⟨(some 59), none, .mv (.t 10)⟩,
  ⟨(some 60), none, .call (.c (.fn (.func 38) [] [])) [(.t 59)]⟩,
  ⟨(some 58), none, .mv (.t 60)⟩,
  ⟨(some 61), none, .ext (.t 58) 0⟩,
  ⟨(some 62), none, .ext (.t 58) 1⟩,
  ⟨(some 11), none, .mv (.t 61)⟩,
  ⟨(some 12), none, .mv (.t 62)⟩]
abbrev x20r17 : List XOper := [
  ⟨(some 63), none, .mv (.t 12)⟩,
  ⟨(some 64), none, .un .not (.t 63)⟩,
  ⟨(some 65), none, .mv (.t 64)⟩,
  ⟨(some 66), (some (65, false)), .mv (.t 6)⟩,
  ⟨(some 67), (some (65, false)), .bin .eql (.t 66) (.c (.int .i64 0))⟩,
  ⟨(some 68), (some (65, false)), .mv (.t 67)⟩,
  ⟨(some 69), (some (68, true)), .mv (.t 11)⟩,
  ⟨(some 70), (some (68, true)), .lenV (.t 69)⟩,
  ⟨(some 71), (some (68, true)), .bin .neq (.t 70) (.c (.int .i64 2))⟩,
  ⟨(some 72), (some (65, false)), .pick (.t 68) (.t 71) (.c (.bool false))⟩,
  ⟨(some 73), none, .pick (.t 65) (.c (.bool true)) (.t 72)⟩,
  ⟨(some 74), none, .mv (.t 73)⟩,
  ⟨(some 75), (some (74, false)), .mv (.t 6)⟩,
  ⟨(some 76), (some (74, false)), .bin .gtr (.t 75) (.c (.int .i64 0))⟩,
  ⟨(some 77), (some (74, false)), .mv (.t 76)⟩,
  ⟨(some 78), (some (77, true)), .mv (.t 11)⟩,
  ⟨(some 79), (some (77, true)), .lenV (.t 78)⟩,
  ⟨(some 80), (some (77, true)), .bin .neq (.t 79) (.c (.int .i64 5))⟩,
  ⟨(some 81), (some (74, false)), .pick (.t 77) (.t 80) (.c (.bool false))⟩,
  ⟨(some 82), none, .pick (.t 74) (.c (.bool true)) (.t 81)⟩]
abbrev x20r18 : List XOper := [
  ⟨(some 83), none, .load true 3 (.t 4)⟩,
  ⟨none, none, .store 3 (.t 2) (.t 83)⟩,
  ⟨(some 3), none, .mv (.c (.int .i64 14))⟩]
abbrev x20r19 : List XOper := [
  ⟨(some 84), none, .mv (.t 6)⟩,
  ⟨(some 85), none, .bin .eql (.t 84) (.c (.int .i64 0))⟩]
abbrev x20r20 : List XOper := [
  ⟨(some 86), none, .mv (.t 11)⟩,
  ⟨(some 87), none, .iaS 1 (.t 86) (.c (.int .i64 0))⟩,
  ⟨(some 88), none, .load false 1 (.t 87)⟩,
  ⟨(some 89), none, .fa 0 (.t 5)⟩,
  ⟨none, none, .store 1 (.t 89) (.t 88)⟩]
abbrev x20r21 : List XOper := [
  ⟨(some 90), none, .mv (.t 11)⟩,
  ⟨(some 91), none, .iaS 1 (.t 90) (.c (.int .i64 1))⟩,
  ⟨(some 92), none, .load false 1 (.t 91)⟩,
  ⟨(some 93), none, .fa 1 (.t 5)⟩,
  ⟨none, none, .store 1 (.t 93) (.t 92)⟩]
abbrev x20r22 : List XOper := [
  ⟨(some 94), none, .mv (.t 11)⟩,
  ⟨(some 95), none, .iaS 1 (.t 94) (.c (.int .i64 0))⟩,
  ⟨(some 96), none, .load false 1 (.t 95)⟩,
  ⟨(some 97), none, .fa 1 (.t 5)⟩,
  ⟨(some 98), none, .load false 1 (.t 97)⟩,
  ⟨(some 99), none, .mv (.t 6)⟩,
  ⟨(some 100), none, .bin .add (.t 98) (.t 99)⟩,
  ⟨(some 101), none, .bin .sub (.t 100) (.c (.int .i64 1))⟩,
  ⟨(some 102), none, .bin .neq (.t 96) (.t 101)⟩]
abbrev x20r23 : List XOper := [
  ⟨(some 103), none, .load true 3 (.t 4)⟩,
  ⟨none, none, .store 3 (.t 2) (.t 103)⟩,
  ⟨(some 3), none, .mv (.c (.int .i64 14))⟩]
abbrev x20r24 : List XOper := [
  ⟨(some 104), none, .fa 2 (.t 5)⟩,
  ⟨(some 105), none, .load false 1 (.t 104)⟩,
  ⟨(some 106), none, .mv (.t 11)⟩,
  ⟨(some 107), none, .iaS 1 (.t 106) (.c (.int .i64 1))⟩,
  ⟨(some 108), none, .load false 1 (.t 107)⟩,
  ⟨(some 109), none, .mv (.t 11)⟩,
  ⟨(some 110), none, .iaS 1 (.t 109) (.c (.int .i64 2))⟩,
  ⟨(some 111), none, .load false 1 (.t 110)⟩,
  ⟨(some 112), none, .mv (.t 11)⟩,
  ⟨(some 113), none, .iaS 1 (.t 112) (.c (.int .i64 3))⟩,
  ⟨(some 114), none, .load false 1 (.t 113)⟩,
  ⟨(some 115), none, .mv (.t 11)⟩,
  ⟨(some 116), none, .iaS 1 (.t 115) (.c (.int .i64 4))⟩,
  ⟨(some 117), none, .load false 1 (.t 116)⟩,
  ⟨(some 118), none, .build [(.int .i64 0), (.int .i64 0), (.int .i64 0), (.int .i64 0)] [(0, 1, (.t 108)), (1, 1, (.t 111)), (2, 1, (.t 114)), (3, 1, (.t 117))]⟩,
  ⟨(some 119), none, .mkslice 4 (.agg [(.int .i64 0), (.int .i64 0), (.int .i64 0), (.int .i64 0)]) 1 [(0, (.t 118))]⟩,
  ⟨(some 120), none, .app 4 32 (.t 105) (.t 119)⟩,
  ⟨(some 121), none, .fa 2 (.t 5)⟩,
  ⟨none, none, .store 1 (.t 121) (.t 120)⟩]
abbrev x20r25 : List XOper := [
  ⟨(some 122), none, .bin .add (.t 33) (.c (.int .i64 1))⟩,
  ⟨(some 33), none, .mv (.t 122)⟩]
abbrev x20l6 : XCode :=
  (.seq (.reg 6 x20r6 none)
  (.seq (.cond (.t 34)
    .skip
    (.exit 0))
  (.seq (.block 1
    (.seq (.reg 7 x20r7 none)
    (.seq (.reg 8 x20r8 none)
    (.seq (.seq (.reg 9 x20r9 none)
    (.cond (.t 44)
      (.seq (.reg 10 x20r10 none)
      .ret)
      .skip))
    (.seq (.reg 11 x20r11 none)
    (.seq (.seq (.reg 12 x20r12 none)
    (.cond (.t 50)
      (.seq (.seq (.reg 13 x20r13 none)
      (.cond (.t 54)
        (.seq (.reg 14 x20r14 none)
        .ret)
        .skip))
      (.reg 15 x20r15 none))
      .skip))
    (.seq (.reg 16 x20r16 none)
    (.seq (.seq (.reg 17 x20r17 none)
    (.cond (.t 82)
      (.seq (.reg 18 x20r18 none)
      .ret)
      .skip))
    (.seq (.seq (.reg 19 x20r19 none)
    (.cond (.t 85)
      (.seq (.reg 20 x20r20 none)
      (.seq (.reg 21 x20r21 none)
      (.exit 1)))
      .skip))
    (.seq (.seq (.reg 22 x20r22 (some ⟨[]⟩))
    (.cond (.t 102)
      (.seq (.reg 23 x20r23 none)
      .ret)
      .skip))
    (.reg 24 x20r24 (some ⟨[(1, 15)]⟩))))))))))))
  (.reg 25 x20r25 none))))
abbrev x20r26 : List XOper := [
  ⟨(some 123), none, .load true 3 (.t 5)⟩,
  ⟨(some 124), none, .call (.c (.fn (.func 11) [] [])) [(.t 123)]⟩,
  ⟨(some 125), none, .un .not (.t 124)⟩]
abbrev x20r27 : List XOper := [
  ⟨(some 126), none, .load true 3 (.t 4)⟩,
  ⟨none, none, .store 3 (.t 2) (.t 126)⟩,
  ⟨(some 3), none, .mv (.c (.int .i64 1))⟩]
abbrev x20r28 : List XOper := [
  ⟨(some 127), none, .load true 3 (.t 5)⟩,
  ⟨none, none, .store 3 (.t 2) (.t 127)⟩,
  ⟨(some 3), none, .mv (.c (.int .i64 0))⟩]
/-- datum/datumref23.Import -/
abbrev x20b : XCode :=
  (.seq (.reg 0 x20r0 none)
  (.seq (.reg 1 x20r1 none)
  (.seq (.seq (.reg 2 x20r2 none)
  (.cond (.t 23)
    (.seq (.reg 3 x20r3 none)
    .ret)
    .skip))
  (.seq (.reg 4 x20r4 none)
  (.seq (.seq (.reg 5 x20r5 none)
  (.block 0
    (.loop x20l6)))
  (.seq (.seq (.reg 26 x20r26 none)
  (.cond (.t 125)
    (.seq (.reg 27 x20r27 none)
    .ret)
    .skip))
  (.seq (.reg 28 x20r28 none)
  .ret)))))))
def x20 : XFunc := ⟨128, 1, [.cell 2 true 3, .tmp 3], x20b⟩
theorem x20_ok : chkF Tryz.prog Tryz.f20 x20 = true := by kernel_rfl
theorem x20_eq : x20.body = x20b ∧ x20.res = [.cell 2 true 3, .tmp 3] ∧ x20.np = 1 := ⟨rfl, rfl, rfl⟩

abbrev x21r0 : List XOper := [
  ⟨(some 1), none, .box (.t 0)⟩,
  ⟨(some 2), none, .mv (.c (.bool false))⟩]
abbrev x21r1 : List XOper := [
  ⟨(some 3), none, .fa 0 (.t 1)⟩,
  ⟨(some 4), none, .load false 1 (.t 3)⟩,
  ⟨(some 5), none, .call (.c (.fn (.func 23) [] [])) [(.t 4), (.c (.int .i64 1)), (.c (.int .i64 8))]⟩,
  ⟨(some 6), none, .mv (.t 5)⟩,
  ⟨(some 7), (some (6, true)), .fa 1 (.t 1)⟩,
  ⟨(some 8), (some (6, true)), .load false 1 (.t 7)⟩,
  ⟨(some 9), (some (6, true)), .call (.c (.fn (.func 23) [] [])) [(.t 8), (.c (.int .i64 0)), (.c (.int .i64 3))]⟩,
  ⟨(some 10), none, .pick (.t 6) (.t 9) (.c (.bool false))⟩,
  ⟨(some 11), none, .mv (.t 10)⟩,
  ⟨(some 12), (some (11, true)), .fa 2 (.t 1)⟩,
  ⟨(some 13), (some (11, true)), .load false 1 (.t 12)⟩,
  ⟨(some 14), (some (11, true)), .call (.c (.fn (.func 23) [] [])) [(.t 13), (.c (.int .i64 0)), (.c (.int .i64 15))]⟩,
  ⟨(some 15), none, .pick (.t 11) (.t 14) (.c (.bool false))⟩,
  ⟨(some 16), none, .mv (.t 15)⟩,
  ⟨(some 17), (some (16, true)), .fa 3 (.t 1)⟩,
  ⟨(some 18), (some (16, true)), .load false 1 (.t 17)⟩,
  ⟨(some 19), (some (16, true)), .call (.c (.fn (.func 23) [] [])) [(.t 18), (.c (.int .i64 (-1000000000))), (.c (.int .i64 1000000000))]⟩,
  ⟨(some 20), none, .pick (.t 16) (.t 19) (.c (.bool false))⟩,
  ⟨(some 2), none, .mv (.t 20)⟩]
/-- datum/journal.entry -/
abbrev x21b : XCode :=
  (.seq (.reg 0 x21r0 none)
  (.seq (.reg 1 x21r1 none)
  .ret))
def x21 : XFunc := ⟨21, 1, [.tmp 2], x21b⟩
theorem x21_ok : chkF Tryz.prog Tryz.f21 x21 = true := by kernel_rfl
theorem x21_eq : x21.body = x21b ∧ x21.res = [.tmp 2] ∧ x21.np = 1 := ⟨rfl, rfl, rfl⟩

abbrev x22r0 : List XOper := [
  ⟨(some 2), none, .mv (.c .nils)⟩]
abbrev x22r1 : List XOper := [
  ⟨(some 3), none, .mv (.t 0)⟩,
  ⟨(some 4), none, .eqN false 0 (.t 3)⟩]
abbrev x22r2 : List XOper := [
  ⟨(some 2), none, .mv (.c .nils)⟩]
abbrev x22r3 : List XOper := [
  ⟨(some 5), none, .mkslice 4 (.agg [(.int .i64 0), (.int .i64 0), (.int .i64 0), (.int .i64 0)]) 0 []⟩,
  ⟨(some 6), none, .mv (.t 0)⟩,
  ⟨(some 7), none, .app 4 32 (.t 5) (.t 6)⟩,
  ⟨(some 2), none, .mv (.t 7)⟩]
/-- slices.Clone[[]datum/api.Entry,datum/api.Entry] -/
abbrev x22b : XCode :=
  (.seq (.reg 0 x22r0 none)
  (.seq (.seq (.reg 1 x22r1 none)
  (.cond (.t 4)
    (.seq (.reg 2 x22r2 none)
    .ret)
    .skip))
  (.seq (.reg 3 x22r3 none)
  .ret)))
def x22 : XFunc := ⟨8, 1, [.tmp 2], x22b⟩
theorem x22_ok : chkF Tryz.prog Tryz.f22 x22 = true := by kernel_rfl
theorem x22_eq : x22.body = x22b ∧ x22.res = [.tmp 2] ∧ x22.np = 1 := ⟨rfl, rfl, rfl⟩

abbrev x23r0 : List XOper := [
  ⟨(some 6), none, .mv (.c (.bool false))⟩]
abbrev x23r1 : List XOper := [
  ⟨(some 7), none, .mv (.t 0)⟩,
  ⟨(some 8), none, .mv (.t 1)⟩,
  ⟨(some 9), none, .bin .geq (.t 7) (.t 8)⟩,
  ⟨(some 10), none, .mv (.t 9)⟩,
  ⟨(some 11), (some (10, true)), .mv (.t 0)⟩,
  ⟨(some 12), (some (10, true)), .mv (.t 2)⟩,
  ⟨(some 13), (some (10, true)), .bin .leq (.t 11) (.t 12)⟩,
  ⟨(some 14), none, .pick (.t 10) (.t 13) (.c (.bool false))⟩,
  ⟨(some 6), none, .mv (.t 14)⟩]
/-- datum/journal.in -/
abbrev x23b : XCode :=
  (.seq (.reg 0 x23r0 none)
  (.seq (.reg 1 x23r1 none)
  .ret))
def x23 : XFunc := ⟨15, 3, [.tmp 6], x23b⟩
theorem x23_ok : chkF Tryz.prog Tryz.f23 x23 = true := by kernel_rfl
theorem x23_eq : x23.body = x23b ∧ x23.res = [.tmp 6] ∧ x23.np = 3 := ⟨rfl, rfl, rfl⟩

abbrev x24r0 : List XOper := [
  ⟨(some 4), none, .mv (.c (.bool false))⟩]
abbrev x24r1 : List XOper := [
  ⟨(some 5), none, .mv (.t 0)⟩,
  ⟨(some 6), none, .mv (.t 1)⟩,
  ⟨(some 7), none, .call (.c (.fn (.func 39) [] [])) [(.t 5), (.t 6)]⟩,
  ⟨(some 8), none, .bin .geq (.t 7) (.c (.int .i64 0))⟩,
  ⟨(some 4), none, .mv (.t 8)⟩]
/-- slices.ContainsFunc[[]datum/api.Entry,datum/api.Entry] -/
abbrev x24b : XCode :=
  (.seq (.reg 0 x24r0 none)
  (.seq (.reg 1 x24r1 none)
  .ret))
def x24 : XFunc := ⟨9, 2, [.tmp 4], x24b⟩
theorem x24_ok : chkF Tryz.prog Tryz.f24 x24 = true := by kernel_rfl
theorem x24_eq : x24.body = x24b ∧ x24.res = [.tmp 4] ∧ x24.np = 2 := ⟨rfl, rfl, rfl⟩

abbrev x25r0 : List XOper := [
  ⟨(some 1), none, .box (.t 0)⟩,
  ⟨(some 2), none, .mv (.c (.bool false))⟩]
abbrev x25r1 : List XOper := [
  ⟨(some 3), none, .load true 4 (.t 1)⟩,
  ⟨(some 4), none, .call (.c (.fn (.func 21) [] [])) [(.t 3)]⟩,
  ⟨(some 5), none, .un .not (.t 4)⟩,
  ⟨(some 2), none, .mv (.t 5)⟩]
/-- datum/journal.Right$1 -/
abbrev x25b : XCode :=
  (.seq (.reg 0 x25r0 none)
  (.seq (.reg 1 x25r1 none)
  .ret))
def x25 : XFunc := ⟨6, 1, [.tmp 2], x25b⟩
theorem x25_ok : chkF Tryz.prog Tryz.f25 x25 = true := by kernel_rfl
theorem x25_eq : x25.body = x25b ∧ x25.res = [.tmp 2] ∧ x25.np = 1 := ⟨rfl, rfl, rfl⟩

abbrev x27r0 : List XOper := [
  ⟨(some 2), none, .mv (.c (.str ⟨#[]⟩))⟩,
  ⟨(some 3), none, .mv (.c (.int .i64 0))⟩]
abbrev x27r1 : List XOper := [
  ⟨(some 4), none, .mv (.t 0)⟩,
  ⟨(some 5), none, .call (.c (.fn (.func 40) [] [])) [(.t 4)]⟩,
  ⟨(some 6), none, .un .not (.t 5)⟩]
abbrev x27r2 : List XOper := [
  ⟨(some 2), none, .mv (.c (.str ⟨#[]⟩))⟩,
  ⟨(some 3), none, .mv (.c (.int .i64 1))⟩]
abbrev x27r3 : List XOper := [
  ⟨(some 7), none, .mv (.t 0)⟩,
  ⟨(some 8), none, .call (.c (.fn (.func 41) [] [])) [(.t 7)]⟩,
  ⟨(some 2), none, .mv (.t 8)⟩,
  ⟨(some 3), none, .mv (.c (.int .i64 0))⟩]
/-- datum/seal.Seal -/
abbrev x27b : XCode :=
  (.seq (.reg 0 x27r0 none)
  (.seq (.seq (.reg 1 x27r1 none)
  (.cond (.t 6)
    (.seq (.reg 2 x27r2 none)
    .ret)
    .skip))
  (.seq (.reg 3 x27r3 none)
  .ret)))
def x27 : XFunc := ⟨9, 1, [.tmp 2, .tmp 3], x27b⟩
theorem x27_ok : chkF Tryz.prog Tryz.f27 x27 = true := by kernel_rfl
theorem x27_eq : x27.body = x27b ∧ x27.res = [.tmp 2, .tmp 3] ∧ x27.np = 1 := ⟨rfl, rfl, rfl⟩

abbrev x29r0 : List XOper := [
  ⟨(some 2), none, .mv (.c (.str ⟨#[]⟩))⟩]
abbrev x29r1 : List XOper := [
  ⟨(some 3), none, .mv (.c .nils)⟩]
abbrev x29r2 : List XOper := [
  ⟨(some 6), none, .mv (.t 0)⟩,
  ⟨(some 7), none, .lenV (.t 6)⟩,
  ⟨(some 8), none, .mv (.c (.int .i64 0))⟩]
abbrev x29r3 : List XOper := [
  ⟨(some 9), none, .bin .lss (.t 8) (.t 7)⟩]
abbrev x29r4 : List XOper := [
  ⟨(some 10), none, .iaS 1 (.t 6) (.t 8)⟩,
  ⟨(some 11), none, .load false 1 (.t 10)⟩,
  ⟨(some 5), none, .mv (.t 11)⟩]
abbrev x29r5 : List XOper := [
  ⟨(some 12), none, .mv (.t 3)⟩,
  ⟨(some 13), none, .mv (.t 5)⟩,
  ⟨(some 14), none, .call (.c (.fn (.func 43) [] [])) [(.t 13)]⟩,
  ⟨(some 15), none, .mkslice 1 (.str ⟨#[]⟩) 1 [(0, (.t 14))]⟩,
  ⟨(some 16), none, .app 1 16 (.t 12) (.t 15)⟩,
  ⟨(some 3), none, .mv (.t 16)⟩]
abbrev x29r6 : List XOper := [
  ⟨(some 17), none, .bin .add (.t 8) (.c (.int .i64 1))⟩,
  ⟨(some 8), none, .mv (.t 17)⟩]
abbrev x29l3 : XCode :=
  (.seq (.reg 3 x29r3 none)
  (.seq (.cond (.t 9)
    .skip
    (.exit 0))
  (.seq (.block 1
    (.seq (.reg 4 x29r4 none)
    (.reg 5 x29r5 none)))
  (.reg 6 x29r6 none))))
abbrev x29r7 : List XOper := [
  ⟨(some 18), none, .mv (.t 3)⟩,
  ⟨(some 19), none, .call (.c (.fn (.func 44) [] [])) [(.t 18), (.c (.str ⟨#[32]⟩))]⟩,
  ⟨(some 2), none, .mv (.t 19)⟩]
/-- datum/journal.row -/
abbrev x29b : XCode :=
  (.seq (.reg 0 x29r0 none)
  (.seq (.reg 1 x29r1 none)
  (.seq (.seq (.reg 2 x29r2 none)
  (.block 0
    (.loop x29l3)))
  (.seq (.reg 7 x29r7 none)
  .ret))))
def x29 : XFunc := ⟨20, 1, [.tmp 2], x29b⟩
theorem x29_ok : chkF Tryz.prog Tryz.f29 x29 = true := by kernel_rfl
theorem x29_eq : x29.body = x29b ∧ x29.res = [.tmp 2] ∧ x29.np = 1 := ⟨rfl, rfl, rfl⟩

abbrev x33r0 : List XOper := [
  ⟨(some 6), none, .mv (.c (.int .i64 0))⟩]
abbrev x33r1 : List XOper := [
  ⟨(some 16), none, .mv (.t 2)⟩,
  ⟨(some 17), none, .call (.c (.fn (.func 47) [] [])) [(.t 16)]⟩,
  ⟨(some 15), none, .mv (.t 17)⟩,
  ⟨(some 18), none, .ext (.t 15) 0⟩,
  ⟨(some 19), none, .ext (.t 15) 1⟩,
  ⟨(some 7), none, .mv (.t 18)⟩,
  ⟨(some 8), none, .mv (.t 19)⟩]
abbrev x33r2 : List XOper := [
  ⟨(some 20), none, .mv (.t 8)⟩,
  ⟨(some 21), none, .bin .neq (.t 20) (.c (.int .i64 0))⟩]
abbrev x33r3 : List XOper := [
  ⟨(some 22), none, .mv (.t 8)⟩,
  ⟨(some 6), none, .mv (.t 22)⟩]
abbrev x33r4 : List XOper := [
  ⟨(some 23), none, .mv (.t 1)⟩]
abbrev x33r5 : List XOper := [
  ⟨(some 25), none, .mv (.t 7)⟩,
  ⟨(some 26), none, .call (.c (.fn (.func 48) [] [])) [(.t 25), (.c (.str ⟨#[108, 111, 103, 32]⟩))]⟩,
  ⟨(some 24), none, .mv (.t 26)⟩,
  ⟨(some 27), none, .ext (.t 24) 0⟩,
  ⟨(some 28), none, .ext (.t 24) 1⟩,
  ⟨(some 9), none, .mv (.t 27)⟩,
  ⟨(some 10), none, .mv (.t 28)⟩]
abbrev x33r6 : List XOper := [
  ⟨(some 30), none, .mv (.t 9)⟩,
  ⟨(some 31), none, .call (.c (.fn (.func 49) [] [])) [(.t 30)]⟩,
  ⟨(some 29), none, .mv (.t 31)⟩,
  ⟨(some 32), none, .ext (.t 29) 0⟩,
  ⟨(some 33), none, .ext (.t 29) 1⟩,
  ⟨(some 11), none, .alloc [(.int .i64 0), (.int .i64 0), (.int .i64 0), (.int .i64 0), (.int .i64 0)]⟩,
  ⟨none, none, .store 5 (.t 11) (.t 32)⟩,
  ⟨(some 12), none, .mv (.t 33)⟩]
abbrev x33r7 : List XOper := [
  ⟨(some 34), none, .mv (.t 10)⟩,
  ⟨(some 35), none, .un .not (.t 34)⟩,
  ⟨(some 36), none, .mv (.t 35)⟩,
  ⟨(some 37), (some (36, false)), .mv (.t 12)⟩,
  ⟨(some 38), (some (36, false)), .bin .neq (.t 37) (.c (.int .i64 2))⟩,
  ⟨(some 39), none, .pick (.t 36) (.c (.bool true)) (.t 38)⟩]
abbrev x33r8 : List XOper := [
  ⟨(some 6), none, .mv (.c (.int .i64 14))⟩]
abbrev x33r9 : List XOper := [
  ⟨(some 40), none, .mv (.t 0)⟩,
  ⟨(some 41), none, .mv (.t 0)⟩,
  ⟨(some 42), none, .iaA 5 1 (.t 11) (.c (.int .i64 0))⟩,
  ⟨(some 43), none, .load false 1 (.t 42)⟩,
  ⟨(some 44), none, .iaA 5 1 (.t 11) (.c (.int .i64 1))⟩,
  ⟨(some 45), none, .load false 1 (.t 44)⟩,
  ⟨(some 46), none, .nilChk (.t 40)⟩,
  ⟨(some 47), none, .fa 0 (.t 46)⟩,
  ⟨none, none, .store 1 (.t 47) (.t 43)⟩,
  ⟨(some 48), none, .nilChk (.t 41)⟩,
  ⟨(some 49), none, .fa 1 (.t 48)⟩,
  ⟨none, none, .store 1 (.t 49) (.t 45)⟩]
abbrev x33r10 : List XOper := [
  ⟨(some 6), none, .mv (.c (.int .i64 0))⟩]
abbrev x33r11 : List XOper := [
  ⟨(some 51), none, .mv (.t 7)⟩,
  ⟨(some 52), none, .call (.c (.fn (.func 49) [] [])) [(.t 51)]⟩,
  ⟨(some 50), none, .mv (.t 52)⟩,
  ⟨(some 53), none, .ext (.t 50) 0⟩,
  ⟨(some 54), none, .ext (.t 50) 1⟩,
  ⟨(some 13), none, .alloc [(.int .i64 0), (.int .i64 0), (.int .i64 0), (.int .i64 0), (.int .i64 0)]⟩,
  ⟨none, none, .store 5 (.t 13) (.t 53)⟩,
  ⟨(some 14), none, .mv (.t 54)⟩]
abbrev x33r12 : List XOper := [
  ⟨(some 55), none, .mv (.t 14)⟩,
  ⟨(some 56), none, .bin .neq (.t 55) (.c (.int .i64 5))⟩,
  ⟨(some 57), none, .mv (.t 56)⟩,
  ⟨(some 58), (some (57, false)), .iaA 5 1 (.t 13) (.c (.int .i64 0))⟩,
  ⟨(some 59), (some (57, false)), .load false 1 (.t 58)⟩,
  ⟨(some 60), (some (57, false)), .mv (.t 0)⟩,
  ⟨(some 61), (some (57, false)), .nilChk (.t 60)⟩,
  ⟨(some 62), (some (57, false)), .fa 1 (.t 61)⟩,
  ⟨(some 63), (some (57, false)), .load false 1 (.t 62)⟩,
  ⟨(some 64), (some (57, false)), .mv (.t 0)⟩,
  ⟨(some 65), (some (57, false)), .nilChk (.t 64)⟩,
  ⟨(some 66), (some (57, false)), .fa 2 (.t 65)⟩,
  ⟨(some 67), (some (57, false)), .load false 1 (.t 66)⟩,
  ⟨(some 68), (some (57, false)), .lenV (.t 67)⟩,
  ⟨(some 69), (some (57, false)), .bin .add (.t 63) (.t 68)⟩,
  ⟨(some 70), (some (57, false)), .bin .neq (.t 59) (.t 69)⟩,
  ⟨(some 71), none, .pick (.t 57) (.c (.bool true)) (.t 70)⟩]
abbrev x33r13 : List XOper := [
  ⟨(some 6), none, .mv (.c (.int .i64 14))⟩]
abbrev x33r14 : List XOper := [
  ⟨(some 72), none, .mv (.t 0)⟩,
  ⟨(some 73), none, .mv (.t 0)⟩,
  ⟨(some 74), none, .nilChk (.t 73)⟩,
  ⟨(some 75), none, .fa 2 (.t 74)⟩,
  ⟨(some 76), none, .load false 1 (.t 75)⟩,
  ⟨(some 77), none, .iaA 5 1 (.t 13) (.c (.int .i64 1))⟩,
  ⟨(some 78), none, .load false 1 (.t 77)⟩,
  ⟨(some 79), none, .iaA 5 1 (.t 13) (.c (.int .i64 2))⟩,
  ⟨(some 80), none, .load false 1 (.t 79)⟩,
  ⟨(some 81), none, .iaA 5 1 (.t 13) (.c (.int .i64 3))⟩,
  ⟨(some 82), none, .load false 1 (.t 81)⟩,
  ⟨(some 83), none, .iaA 5 1 (.t 13) (.c (.int .i64 4))⟩,
  ⟨(some 84), none, .load false 1 (.t 83)⟩,
  ⟨(some 85), none, .build [(.int .i64 0), (.int .i64 0), (.int .i64 0), (.int .i64 0)] [(0, 1, (.t 78)), (1, 1, (.t 80)), (2, 1, (.t 82)), (3, 1, (.t 84))]⟩,
  ⟨(some 86), none, .mkslice 4 (.agg [(.int .i64 0), (.int .i64 0), (.int .i64 0), (.int .i64 0)]) 1 [(0, (.t 85))]⟩,
  ⟨(some 87), none, .app 4 32 (.t 76) (.t 86)⟩,
  ⟨(some 88), none, .nilChk (.t 72)⟩,
  ⟨(some 89), none, .fa 2 (.t 88)⟩,
  ⟨none, none, .store 1 (.t 89) (.t 87)⟩]
abbrev x33r15 : List XOper := [
  ⟨(some 6), none, .mv (.c (.int .i64 0))⟩]
/-- datum/journal.read -/
abbrev x33b : XCode :=
  (.seq (.reg 0 x33r0 none)
  (.seq (.reg 1 x33r1 none)
  (.seq (.seq (.reg 2 x33r2 none)
  (.cond (.t 21)
    (.seq (.reg 3 x33r3 none)
    .ret)
    .skip))
  (.seq (.seq (.reg 4 x33r4 none)
  (.cond (.t 23)
    (.seq (.reg 5 x33r5 none)
    (.seq (.reg 6 x33r6 none)
    (.seq (.seq (.reg 7 x33r7 none)
    (.cond (.t 39)
      (.seq (.reg 8 x33r8 none)
      .ret)
      .skip))
    (.seq (.reg 9 x33r9 (some ⟨[(5, 8)]⟩))
    (.seq (.reg 10 x33r10 none)
    .ret)))))
    .skip))
  (.seq (.reg 11 x33r11 none)
  (.seq (.seq (.reg 12 x33r12 (some ⟨[]⟩))
  (.cond (.t 71)
    (.seq (.reg 13 x33r13 none)
    .ret)
    .skip))
  (.seq (.reg 14 x33r14 (some ⟨[(4, 14)]⟩))
  (.seq (.reg 15 x33r15 none)
  .ret))))))))
def x33 : XFunc := ⟨90, 3, [.tmp 6], x33b⟩
theorem x33_ok : chkF Tryz.prog Tryz.f33 x33 = true := by kernel_rfl
theorem x33_eq : x33.body = x33b ∧ x33.res = [.tmp 6] ∧ x33.np = 3 := ⟨rfl, rfl, rfl⟩

abbrev x34r0 : List XOper := [
  ⟨(some 2), none, .mv (.c (.str ⟨#[]⟩))⟩]
abbrev x34r1 : List XOper := [
  ⟨(some 3), none, .mv (.t 0)⟩,
  ⟨(some 4), none, .call (.c (.fn (.func 50) [] [])) [(.t 3)]⟩,
  ⟨(some 5), none, .bin .add (.t 4) (.c (.str ⟨#[10]⟩))⟩,
  ⟨(some 2), none, .mv (.t 5)⟩]
/-- datum/datumref23.sealed -/
abbrev x34b : XCode :=
  (.seq (.reg 0 x34r0 none)
  (.seq (.reg 1 x34r1 none)
  .ret))
def x34 : XFunc := ⟨6, 1, [.tmp 2], x34b⟩
theorem x34_ok : chkF Tryz.prog Tryz.f34 x34 = true := by kernel_rfl
theorem x34_eq : x34.body = x34b ∧ x34.res = [.tmp 2] ∧ x34.np = 1 := ⟨rfl, rfl, rfl⟩

abbrev x35r0 : List XOper := [
  ⟨(some 2), none, .mv (.c (.str ⟨#[]⟩))⟩]
abbrev x35r1 : List XOper := [
  ⟨(some 3), none, .mv (.c (.str ⟨#[]⟩))⟩]
abbrev x35r2 : List XOper := [
  ⟨(some 6), none, .mv (.t 0)⟩,
  ⟨(some 7), none, .lenV (.t 6)⟩,
  ⟨(some 8), none, .mv (.c (.int .i64 0))⟩]
abbrev x35r3 : List XOper := [
  ⟨(some 9), none, .bin .lss (.t 8) (.t 7)⟩]
abbrev x35r4 : List XOper := [
  ⟨(some 10), none, .mv (.t 8)⟩,
  ⟨(some 11), none, .iaS 1 (.t 6) (.t 8)⟩,
  ⟨(some 12), none, .load false 1 (.t 11)⟩,
  ⟨(some 4), none, .mv (.t 10)⟩,
  ⟨(some 5), none, .mv (.t 12)⟩]
abbrev x35r5 : List XOper := [
  ⟨(some 13), none, .mv (.t 4)⟩,
  ⟨(some 14), none, .bin .gtr (.t 13) (.c (.int .i64 0))⟩]
abbrev x35r6 : List XOper := [
  ⟨(some 15), none, .mv (.t 3)⟩,
  ⟨(some 16), none, .bin .add (.t 15) (.c (.str ⟨#[32]⟩))⟩,
  ⟨(some 3), none, .mv (.t 16)⟩]
abbrev x35r7 : List XOper := [
  ⟨(some 17), none, .mv (.t 3)⟩,
  ⟨(some 18), none, .mv (.t 5)⟩,
  ⟨(some 19), none, .call (.c (.fn (.func 51) [] [])) [(.t 18)]⟩,
  ⟨(some 20), none, .bin .add (.t 17) (.t 19)⟩,
  ⟨(some 3), none, .mv (.t 20)⟩]
abbrev x35r8 : List XOper := [
  ⟨(some 21), none, .bin .add (.t 8) (.c (.int .i64 1))⟩,
  ⟨(some 8), none, .mv (.t 21)⟩]
abbrev x35l3 : XCode :=
  (.seq (.reg 3 x35r3 none)
  (.seq (.cond (.t 9)
    .skip
    (.exit 0))
  (.seq (.block 1
    (.seq (.reg 4 x35r4 none)
    (.seq (.seq (.reg 5 x35r5 none)
    (.cond (.t 14)
      (.reg 6 x35r6 none)
      .skip))
    (.reg 7 x35r7 none))))
  (.reg 8 x35r8 none))))
abbrev x35r9 : List XOper := [
  ⟨(some 22), none, .mv (.t 3)⟩,
  ⟨(some 2), none, .mv (.t 22)⟩]
/-- datum/datumref23.numbers -/
abbrev x35b : XCode :=
  (.seq (.reg 0 x35r0 none)
  (.seq (.reg 1 x35r1 none)
  (.seq (.seq (.reg 2 x35r2 none)
  (.block 0
    (.loop x35l3)))
  (.seq (.reg 9 x35r9 none)
  .ret))))
def x35 : XFunc := ⟨23, 1, [.tmp 2], x35b⟩
theorem x35_ok : chkF Tryz.prog Tryz.f35 x35 = true := by kernel_rfl
theorem x35_eq : x35.body = x35b ∧ x35.res = [.tmp 2] ∧ x35.np = 1 := ⟨rfl, rfl, rfl⟩

abbrev x36r0 : List XOper := [
  ⟨(some 4), none, .mv (.c .nils)⟩]
abbrev x36r1 : List XOper := [
  ⟨(some 8), none, .mkslice 1 (.str ⟨#[]⟩) 0 []⟩,
  ⟨(some 5), none, .mv (.t 8)⟩]
abbrev x36r2 : List XOper := [
  ⟨(some 6), none, .mv (.c (.int .i64 0))⟩]
abbrev x36r3 : List XOper := [
  ⟨(some 7), none, .mv (.c (.int .i64 0))⟩]
abbrev x36r4 : List XOper := [
  ⟨(some 9), none, .mv (.t 7)⟩,
  ⟨(some 10), none, .mv (.t 0)⟩,
  ⟨(some 11), none, .lenS (.t 10)⟩,
  ⟨(some 12), none, .bin .lss (.t 9) (.t 11)⟩]
abbrev x36r6 : List XOper := [
  ⟨(some 15), none, .mv (.t 0)⟩,
  ⟨(some 16), none, .mv (.t 7)⟩,
  ⟨(some 17), none, .ixS (.t 15) (.t 16)⟩,
  ⟨(some 18), none, .mv (.t 1)⟩,
  ⟨(some 19), none, .bin .eql (.t 17) (.t 18)⟩]
abbrev x36r7 : List XOper := [
  ⟨(some 20), none, .mv (.t 5)⟩,
  ⟨(some 21), none, .mv (.t 0)⟩,
  ⟨(some 22), none, .mv (.t 6)⟩,
  ⟨(some 23), none, .mv (.t 7)⟩,
  ⟨(some 24), none, .slS (.t 21) (some (.t 22)) (some (.t 23))⟩,
  ⟨(some 25), none, .mkslice 1 (.str ⟨#[]⟩) 1 [(0, (.t 24))]⟩,
  ⟨(some 26), none, .app 1 16 (.t 20) (.t 25)⟩,
  ⟨(some 5), none, .mv (.t 26)⟩]
abbrev x36r8 : List XOper := [
  ⟨(some 27), none, .mv (.t 7)⟩,
  ⟨(some 28), none, .bin .add (.t 27) (.c (.int .i64 1))⟩,
  ⟨(some 6), none, .mv (.t 28)⟩]
abbrev x36r5 : List XOper := [
  ⟨(some 13), none, .mv (.t 7)⟩,
  ⟨(some 14), none, .bin .add (.t 13) (.c (.int .i64 1))⟩,
  ⟨(some 7), none, .mv (.t 14)⟩]
abbrev x36l4 : XCode :=
  (.seq (.seq (.reg 4 x36r4 none)
  (.cond (.t 12)
    .skip
    (.exit 0)))
  (.seq (.block 1
    (.seq (.reg 6 x36r6 none)
    (.cond (.t 19)
      (.seq (.reg 7 x36r7 none)
      (.reg 8 x36r8 none))
      .skip)))
  (.reg 5 x36r5 none)))
abbrev x36r9 : List XOper := [
  ⟨(some 29), none, .mv (.t 5)⟩,
  ⟨(some 30), none, .mv (.t 0)⟩,
  ⟨(some 31), none, .mv (.t 6)⟩,
  ⟨(some 32), none, .slS (.t 30) (some (.t 31)) none⟩,
  ⟨(some 33), none, .mkslice 1 (.str ⟨#[]⟩) 1 [(0, (.t 32))]⟩,
  ⟨(some 34), none, .app 1 16 (.t 29) (.t 33)⟩,
  ⟨(some 4), none, .mv (.t 34)⟩]
/-- datum/datumref23.parts -/
abbrev x36b : XCode :=
  (.seq (.reg 0 x36r0 none)
  (.seq (.reg 1 x36r1 none)
  (.seq (.reg 2 x36r2 none)
  (.seq (.seq (.reg 3 x36r3 none)
  (.block 0
    (.loop x36l4)))
  (.seq (.reg 9 x36r9 none)
  .ret)))))
def x36 : XFunc := ⟨35, 2, [.tmp 4], x36b⟩
theorem x36_ok : chkF Tryz.prog Tryz.f36 x36 = true := by kernel_rfl
theorem x36_eq : x36.body = x36b ∧ x36.res = [.tmp 4] ∧ x36.np = 2 := ⟨rfl, rfl, rfl⟩

abbrev x37r0 : List XOper := [
  ⟨(some 2), none, .mv (.c (.str ⟨#[]⟩))⟩,
  ⟨(some 3), none, .mv (.c (.int .i64 0))⟩]
abbrev x37r1 : List XOper := [
  ⟨(some 7), none, .mv (.t 0)⟩,
  ⟨(some 8), none, .lenS (.t 7)⟩,
  ⟨(some 9), none, .bin .sub (.t 8) (.c (.int .i64 9))⟩,
  ⟨(some 4), none, .mv (.t 9)⟩]
abbrev x37r2 : List XOper := [
  ⟨(some 10), none, .mv (.t 4)⟩,
  ⟨(some 11), none, .bin .lss (.t 10) (.c (.int .i64 0))⟩,
  ⟨(some 12), none, .mv (.t 11)⟩,
  ⟨(some 13), (some (12, false)), .mv (.t 0)⟩,
  ⟨(some 14), (some (12, false)), .mv (.t 4)⟩,
  ⟨(some 15), (some (12, false)), .ixS (.t 13) (.t 14)⟩,
  ⟨(some 16), (some (12, false)), .bin .neq (.t 15) (.c (.int .u8 32))⟩,
  ⟨(some 17), none, .pick (.t 12) (.c (.bool true)) (.t 16)⟩,
  ⟨(some 18), none, .mv (.t 17)⟩,
  ⟨(some 19), (some (18, false)), .mv (.t 0)⟩,
  ⟨(some 20), (some (18, false)), .mv (.t 4)⟩,
  ⟨(some 21), (some (18, false)), .slS (.t 19) none (some (.t 20))⟩,
  ⟨(some 22), (some (18, false)), .call (.c (.fn (.func 52) [] [])) [(.t 21)]⟩,
  ⟨(some 23), (some (18, false)), .un .not (.t 22)⟩,
  ⟨(some 24), none, .pick (.t 18) (.c (.bool true)) (.t 23)⟩]
abbrev x37r3 : List XOper := [
  ⟨(some 2), none, .mv (.c (.str ⟨#[]⟩))⟩,
  ⟨(some 3), none, .mv (.c (.int .i64 14))⟩]
abbrev x37r4 : List XOper := [
  ⟨(some 25), none, .mv (.t 4)⟩,
  ⟨(some 26), none, .bin .add (.t 25) (.c (.int .i64 1))⟩,
  ⟨(some 5), none, .mv (.t 26)⟩]
abbrev x37r5 : List XOper := [
  ⟨(some 27), none, .mv (.t 5)⟩,
  ⟨(some 28), none, .mv (.t 0)⟩,
  ⟨(some 29), none, .lenS (.t 28)⟩,
  ⟨(some 30), none, .bin .lss (.t 27) (.t 29)⟩]
abbrev x37r7 : List XOper := [
  ⟨(some 33), none, .mv (.t 0)⟩,
  ⟨(some 34), none, .mv (.t 5)⟩,
  ⟨(some 35), none, .ixS (.t 33) (.t 34)⟩,
  ⟨(some 6), none, .mv (.t 35)⟩]
abbrev x37r8 : List XOper := [
  ⟨(some 36), none, .mv (.t 6)⟩,
  ⟨(some 37), none, .bin .geq (.t 36) (.c (.int .u8 48))⟩,
  ⟨(some 38), none, .mv (.t 37)⟩,
  ⟨(some 39), (some (38, true)), .mv (.t 6)⟩,
  ⟨(some 40), (some (38, true)), .bin .leq (.t 39) (.c (.int .u8 57))⟩,
  ⟨(some 41), none, .pick (.t 38) (.t 40) (.c (.bool false))⟩,
  ⟨(some 42), none, .mv (.t 41)⟩,
  ⟨(some 43), (some (42, false)), .mv (.t 6)⟩,
  ⟨(some 44), (some (42, false)), .bin .geq (.t 43) (.c (.int .u8 97))⟩,
  ⟨(some 45), (some (42, false)), .mv (.t 44)⟩,
  ⟨(some 46), (some (45, true)), .mv (.t 6)⟩,
  ⟨(some 47), (some (45, true)), .bin .leq (.t 46) (.c (.int .u8 102))⟩,
  ⟨(some 48), (some (42, false)), .pick (.t 45) (.t 47) (.c (.bool false))⟩,
  ⟨(some 49), none, .pick (.t 42) (.c (.bool true)) (.t 48)⟩,
  ⟨(some 50), none, .un .not (.t 49)⟩]
abbrev x37r9 : List XOper := [
  ⟨(some 2), none, .mv (.c (.str ⟨#[]⟩))⟩,
  ⟨(some 3), none, .mv (.c (.int .i64 14))⟩]
abbrev x37r6 : List XOper := [
  ⟨(some 31), none, .mv (.t 5)⟩,
  ⟨(some 32), none, .bin .add (.t 31) (.c (.int .i64 1))⟩,
  ⟨(some 5), none, .mv (.t 32)⟩]
abbrev x37l5 : XCode :=
  (.seq (.seq (.reg 5 x37r5 none)
  (.cond (.t 30)
    .skip
    (.exit 0)))
  (.seq (.block 1
    (.seq (.reg 7 x37r7 none)
    (.seq (.reg 8 x37r8 none)
    (.cond (.t 50)
      (.seq (.reg 9 x37r9 none)
      .ret)
      .skip))))
  (.reg 6 x37r6 none)))
abbrev x37r10 : List XOper := [
  ⟨(some 51), none, .mv (.t 0)⟩,
  ⟨(some 52), none, .mv (.t 4)⟩,
  ⟨(some 53), none, .slS (.t 51) none (some (.t 52))⟩,
  ⟨(some 54), none, .call (.c (.fn (.func 50) [] [])) [(.t 53)]⟩,
  ⟨(some 55), none, .mv (.t 0)⟩,
  ⟨(some 56), none, .bin .neq (.t 54) (.t 55)⟩]
abbrev x37r11 : List XOper := [
  ⟨(some 2), none, .mv (.c (.str ⟨#[]⟩))⟩,
  ⟨(some 3), none, .mv (.c (.int .i64 13))⟩]
abbrev x37r12 : List XOper := [
  ⟨(some 57), none, .mv (.t 0)⟩,
  ⟨(some 58), none, .mv (.t 4)⟩,
  ⟨(some 59), none, .slS (.t 57) none (some (.t 58))⟩,
  ⟨(some 2), none, .mv (.t 59)⟩,
  ⟨(some 3), none, .mv (.c (.int .i64 0))⟩]
/-- datum/datumref22.Open -/
abbrev x37b : XCode :=
  (.seq (.reg 0 x37r0 none)
  (.seq (.reg 1 x37r1 none)
  (.seq (.seq (.reg 2 x37r2 none)
  (.cond (.t 24)
    (.seq (.reg 3 x37r3 none)
    .ret)
    .skip))
  (.seq (.seq (.reg 4 x37r4 none)
  (.block 0
    (.loop x37l5)))
  (.seq (.seq (.reg 10 x37r10 none)
  (.cond (.t 56)
    (.seq (.reg 11 x37r11 none)
    .ret)
    .skip))
  (.seq (.reg 12 x37r12 none)
  .ret))))))
def x37 : XFunc := ⟨60, 1, [.tmp 2, .tmp 3], x37b⟩
theorem x37_ok : chkF Tryz.prog Tryz.f37 x37 = true := by kernel_rfl
theorem x37_eq : x37.body = x37b ∧ x37.res = [.tmp 2, .tmp 3] ∧ x37.np = 1 := ⟨rfl, rfl, rfl⟩

abbrev x38r0 : List XOper := [
  ⟨(some 2), none, .mv (.c .nils)⟩,
  ⟨(some 3), none, .mv (.c (.bool false))⟩]
abbrev x38r1 : List XOper := [
  ⟨(some 9), none, .mkslice 1 (.int .i64 0) 0 []⟩,
  ⟨(some 4), none, .mv (.t 9)⟩]
abbrev x38r2 : List XOper := [
  ⟨(some 10), none, .mv (.t 0)⟩,
  ⟨(some 11), none, .lenV (.t 10)⟩,
  ⟨(some 12), none, .mv (.c (.int .i64 0))⟩]
abbrev x38r3 : List XOper := [
  ⟨(some 13), none, .bin .lss (.t 12) (.t 11)⟩]
abbrev x38r4 : List XOper := [
  ⟨(some 14), none, .iaS 1 (.t 10) (.t 12)⟩,
  ⟨(some 15), none, .load false 1 (.t 14)⟩,
  ⟨(some 6), none, .mv (.t 15)⟩]
abbrev x38r5 : List XOper := [
  ⟨(some 17), none, .mv (.t 6)⟩,
  ⟨(some 18), none, .call (.c (.fn (.func 53) [] [])) [(.t 17)]⟩,
  ⟨(some 16), none, .mv (.t 18)⟩,
  ⟨(some 19), none, .ext (.t 16) 0⟩,
  ⟨(some 20), none, .ext (.t 16) 1⟩,
  ⟨(some 7), none, .mv (.t 19)⟩,
  ⟨(some 8), none, .mv (.t 20)⟩]
abbrev x38r6 : List XOper := [
  ⟨(some 21), none, .mv (.t 8)⟩,
  ⟨(some 22), none, .un .not (.t 21)⟩]
abbrev x38r7 : List XOper := [
  ⟨(some 2), none, .mv (.c .nils)⟩,
  ⟨(some 3), none, .mv (.c (.bool false))⟩]
abbrev x38r8 : List XOper := [
  ⟨(some 23), none, .mv (.t 4)⟩,
  ⟨(some 24), none, .mv (.t 7)⟩,
  ⟨(some 25), none, .mkslice 1 (.int .i64 0) 1 [(0, (.t 24))]⟩,
  ⟨(some 26), none, .app 1 8 (.t 23) (.t 25)⟩,
  ⟨(some 4), none, .mv (.t 26)⟩]
abbrev x38r9 : List XOper := [
  ⟨(some 27), none, .bin .add (.t 12) (.c (.int .i64 1))⟩,
  ⟨(some 12), none, .mv (.t 27)⟩]
abbrev x38l3 : XCode :=
  (.seq (.reg 3 x38r3 none)
  (.seq (.cond (.t 13)
    .skip
    (.exit 0))
  (.seq (.block 1
    (.seq (.reg 4 x38r4 none)
    (.seq (.reg 5 x38r5 none)
    (.seq (.seq (.reg 6 x38r6 none)
    (.cond (.t 22)
      (.seq (.reg 7 x38r7 none)
      .ret)
      .skip))
    (.reg 8 x38r8 none)))))
  (.reg 9 x38r9 none))))
abbrev x38r10 : List XOper := [
  ⟨(some 28), none, .mv (.t 4)⟩,
  ⟨(some 2), none, .mv (.t 28)⟩,
  ⟨(some 3), none, .mv (.c (.bool true))⟩]
/-- datum/datumref23.all -/
abbrev x38b : XCode :=
  (.seq (.reg 0 x38r0 none)
  (.seq (.reg 1 x38r1 none)
  (.seq (.seq (.reg 2 x38r2 none)
  (.block 0
    (.loop x38l3)))
  (.seq (.reg 10 x38r10 none)
  .ret))))
def x38 : XFunc := ⟨29, 1, [.tmp 2, .tmp 3], x38b⟩
theorem x38_ok : chkF Tryz.prog Tryz.f38 x38 = true := by kernel_rfl
theorem x38_eq : x38.body = x38b ∧ x38.res = [.tmp 2, .tmp 3] ∧ x38.np = 1 := ⟨rfl, rfl, rfl⟩

abbrev x39r0 : List XOper := [
  ⟨(some 4), none, .mv (.c (.int .i64 0))⟩]
abbrev x39r1 : List XOper := [
  ⟨(some 6), none, .mv (.t 0)⟩,
  ⟨(some 7), none, .lenV (.t 6)⟩,
  ⟨(some 8), none, .mv (.c (.int .i64 0))⟩]
abbrev x39r2 : List XOper := [
  ⟨(some 9), none, .bin .lss (.t 8) (.t 7)⟩]
abbrev x39r3 : List XOper := [
  ⟨(some 10), none, .mv (.t 8)⟩,
  ⟨(some 5), none, .mv (.t 10)⟩]
abbrev x39r4 : List XOper := [
  ⟨(some 11), none, .mv (.t 1)⟩,
  ⟨(some 12), none, .mv (.t 0)⟩,
  ⟨(some 13), none, .mv (.t 5)⟩,
  ⟨(some 14), none, .iaS 4 (.t 12) (.t 13)⟩,
  ⟨(some 15), none, .load true 4 (.t 14)⟩,
  ⟨(some 16), none, .call (.t 11) [(.t 15)]⟩]
abbrev x39r5 : List XOper := [
  ⟨(some 17), none, .mv (.t 5)⟩,
  ⟨(some 4), none, .mv (.t 17)⟩]
abbrev x39r6 : List XOper := [
  ⟨(some 18), none, .bin .add (.t 8) (.c (.int .i64 1))⟩,
  ⟨(some 8), none, .mv (.t 18)⟩]
abbrev x39l2 : XCode :=
  (.seq (.reg 2 x39r2 none)
  (.seq (.cond (.t 9)
    .skip
    (.exit 0))
  (.seq (.block 1
    (.seq (.reg 3 x39r3 none)
    (.seq (.reg 4 x39r4 none)
    (.cond (.t 16)
      (.seq (.reg 5 x39r5 none)
      .ret)
      .skip))))
  (.reg 6 x39r6 none))))
abbrev x39r7 : List XOper := [
  ⟨(some 4), none, .mv (.c (.int .i64 (-1)))⟩]
/-- slices.IndexFunc[[]datum/api.Entry,datum/api.Entry] -/
abbrev x39b : XCode :=
  (.seq (.reg 0 x39r0 none)
  (.seq (.seq (.reg 1 x39r1 none)
  (.block 0
    (.loop x39l2)))
  (.seq (.reg 7 x39r7 none)
  .ret)))
def x39 : XFunc := ⟨19, 2, [.tmp 4], x39b⟩
theorem x39_ok : chkF Tryz.prog Tryz.f39 x39 = true := by kernel_rfl
theorem x39_eq : x39.body = x39b ∧ x39.res = [.tmp 4] ∧ x39.np = 2 := ⟨rfl, rfl, rfl⟩

abbrev x40r0 : List XOper := [
  ⟨(some 2), none, .mv (.c (.bool false))⟩]
abbrev x40r1 : List XOper := [
  ⟨(some 3), none, .mv (.t 0)⟩,
  ⟨(some 4), none, .lenS (.t 3)⟩,
  ⟨(some 5), none, .bin .leq (.t 4) (.c (.int .i64 200))⟩,
  ⟨(some 6), none, .mv (.t 5)⟩,
  ⟨(some 7), (some (6, true)), .mv (.t 0)⟩,
  ⟨(some 8), (some (6, true)), .call (.c (.fn (.func 54) [] [])) [(.t 7), (.c (.str ⟨#[10]⟩))]⟩,
  ⟨(some 9), (some (6, true)), .un .not (.t 8)⟩,
  ⟨(some 10), none, .pick (.t 6) (.t 9) (.c (.bool false))⟩,
  ⟨(some 2), none, .mv (.t 10)⟩]
/-- datum/seal.isLine -/
abbrev x40b : XCode :=
  (.seq (.reg 0 x40r0 none)
  (.seq (.reg 1 x40r1 none)
  .ret))
def x40 : XFunc := ⟨11, 1, [.tmp 2], x40b⟩
theorem x40_ok : chkF Tryz.prog Tryz.f40 x40 = true := by kernel_rfl
theorem x40_eq : x40.body = x40b ∧ x40.res = [.tmp 2] ∧ x40.np = 1 := ⟨rfl, rfl, rfl⟩

abbrev x41r0 : List XOper := [
  ⟨(some 2), none, .mv (.c (.str ⟨#[]⟩))⟩]
abbrev x41r1 : List XOper := [
  ⟨(some 4), none, .mv (.t 0)⟩,
  ⟨(some 5), none, .call (.c (.fn (.func 56) [] [])) [(.t 4)]⟩,
  ⟨(some 6), none, .call (.c (.fn (.func 55) [] [])) [(.t 5), (.c (.int .i64 16))]⟩,
  ⟨(some 3), none, .mv (.t 6)⟩]
abbrev x41r2 : List XOper := [
  ⟨(some 7), none, .mv (.t 0)⟩,
  ⟨(some 8), none, .bin .add (.t 7) (.c (.str ⟨#[32]⟩))⟩,
  ⟨(some 9), none, .mv (.t 3)⟩,
  ⟨(some 10), none, .lenS (.t 9)⟩,
  ⟨(some 11), none, .bin .sub (.c (.int .i64 8)) (.t 10)⟩,
  ⟨(some 12), none, .call (.c (.fn (.func 57) [] [])) [(.c (.str ⟨#[48]⟩)), (.t 11)]⟩,
  ⟨(some 13), none, .bin .add (.t 8) (.t 12)⟩,
  ⟨(some 14), none, .mv (.t 3)⟩,
  ⟨(some 15), none, .bin .add (.t 13) (.t 14)⟩,
  ⟨(some 2), none, .mv (.t 15)⟩]
/-- datum/seal.sealed -/
abbrev x41b : XCode :=
  (.seq (.reg 0 x41r0 none)
  (.seq (.reg 1 x41r1 none)
  (.seq (.reg 2 x41r2 none)
  .ret)))
def x41 : XFunc := ⟨16, 1, [.tmp 2], x41b⟩
theorem x41_ok : chkF Tryz.prog Tryz.f41 x41 = true := by kernel_rfl
theorem x41_eq : x41.body = x41b ∧ x41.res = [.tmp 2] ∧ x41.np = 1 := ⟨rfl, rfl, rfl⟩

abbrev x47r0 : List XOper := [
  ⟨(some 2), none, .mv (.c (.str ⟨#[]⟩))⟩,
  ⟨(some 3), none, .mv (.c (.int .i64 0))⟩]
abbrev x47r1 : List XOper := [
  ⟨(some 5), none, .mv (.t 0)⟩,
  ⟨(some 6), none, .lenS (.t 5)⟩,
  ⟨(some 7), none, .bin .sub (.t 6) (.c (.int .i64 9))⟩,
  ⟨(some 4), none, .mv (.t 7)⟩]
abbrev x47r2 : List XOper := [
  ⟨(some 8), none, .mv (.t 4)⟩,
  ⟨(some 9), none, .bin .lss (.t 8) (.c (.int .i64 0))⟩,
  ⟨(some 10), none, .mv (.t 9)⟩,
  ⟨(some 11), (some (10, false)), .mv (.t 0)⟩,
  ⟨(some 12), (some (10, false)), .mv (.t 4)⟩,
  ⟨(some 13), (some (10, false)), .ixS (.t 11) (.t 12)⟩,
  ⟨(some 14), (some (10, false)), .bin .neq (.t 13) (.c (.int .u8 32))⟩,
  ⟨(some 15), none, .pick (.t 10) (.c (.bool true)) (.t 14)⟩,
  ⟨(some 16), none, .mv (.t 15)⟩,
  ⟨(some 17), (some (16, false)), .mv (.t 0)⟩,
  ⟨(some 18), (some (16, false)), .mv (.t 4)⟩,
  ⟨(some 19), (some (16, false)), .slS (.t 17) none (some (.t 18))⟩,
  ⟨(some 20), (some (16, false)), .call (.c (.fn (.func 40) [] [])) [(.t 19)]⟩,
  ⟨(some 21), (some (16, false)), .un .not (.t 20)⟩,
  ⟨(some 22), none, .pick (.t 16) (.c (.bool true)) (.t 21)⟩,
  ⟨(some 23), none, .mv (.t 22)⟩,
  ⟨(some 24), (some (23, false)), .mv (.t 0)⟩,
  ⟨(some 25), (some (23, false)), .mv (.t 4)⟩,
  ⟨(some 26), (some (23, false)), .bin .add (.t 25) (.c (.int .i64 1))⟩,
  ⟨(some 27), (some (23, false)), .slS (.t 24) (some (.t 26)) none⟩,
  ⟨(some 28), (some (23, false)), .call (.c (.fn (.func 65) [] [])) [(.t 27), (.c (.str ⟨#[48, 49, 50, 51, 52, 53, 54, 55, 56, 57, 97, 98, 99, 100, 101, 102]⟩))]⟩,
  ⟨(some 29), (some (23, false)), .bin .neq (.t 28) (.c (.str ⟨#[]⟩))⟩,
  ⟨(some 30), none, .pick (.t 23) (.c (.bool true)) (.t 29)⟩]
abbrev x47r3 : List XOper := [
  ⟨(some 2), none, .mv (.c (.str ⟨#[]⟩))⟩,
  ⟨(some 3), none, .mv (.c (.int .i64 14))⟩]
abbrev x47r4 : List XOper := [
  ⟨(some 31), none, .mv (.t 0)⟩,
  ⟨(some 32), none, .mv (.t 4)⟩,
  ⟨(some 33), none, .slS (.t 31) none (some (.t 32))⟩,
  ⟨(some 34), none, .call (.c (.fn (.func 41) [] [])) [(.t 33)]⟩,
  ⟨(some 35), none, .mv (.t 0)⟩,
  ⟨(some 36), none, .bin .neq (.t 34) (.t 35)⟩]
abbrev x47r5 : List XOper := [
  ⟨(some 2), none, .mv (.c (.str ⟨#[]⟩))⟩,
  ⟨(some 3), none, .mv (.c (.int .i64 13))⟩]
abbrev x47r6 : List XOper := [
  ⟨(some 37), none, .mv (.t 0)⟩,
  ⟨(some 38), none, .mv (.t 4)⟩,
  ⟨(some 39), none, .slS (.t 37) none (some (.t 38))⟩,
  ⟨(some 2), none, .mv (.t 39)⟩,
  ⟨(some 3), none, .mv (.c (.int .i64 0))⟩]
/-- datum/seal.Open -/
abbrev x47b : XCode :=
  (.seq (.reg 0 x47r0 none)
  (.seq (.reg 1 x47r1 none)
  (.seq (.seq (.reg 2 x47r2 none)
  (.cond (.t 30)
    (.seq (.reg 3 x47r3 none)
    .ret)
    .skip))
  (.seq (.seq (.reg 4 x47r4 none)
  (.cond (.t 36)
    (.seq (.reg 5 x47r5 none)
    .ret)
    .skip))
  (.seq (.reg 6 x47r6 none)
  .ret)))))
def x47 : XFunc := ⟨40, 1, [.tmp 2, .tmp 3], x47b⟩
theorem x47_ok : chkF Tryz.prog Tryz.f47 x47 = true := by kernel_rfl
theorem x47_eq : x47.body = x47b ∧ x47.res = [.tmp 2, .tmp 3] ∧ x47.np = 1 := ⟨rfl, rfl, rfl⟩

abbrev x49r0 : List XOper := [
  ⟨(some 2), none, .alloc [(.int .i64 0), (.int .i64 0), (.int .i64 0), (.int .i64 0), (.int .i64 0)]⟩,
  ⟨(some 3), none, .mv (.c (.int .i64 0))⟩]
abbrev x49r1 : List XOper := [
  ⟨(some 9), none, .mv (.t 0)⟩,
  ⟨(some 10), none, .call (.c (.fn (.func 32) [] [])) [(.t 9), (.c (.str ⟨#[32]⟩))]⟩,
  ⟨(some 4), none, .mv (.t 10)⟩]
abbrev x49r2 : List XOper := [
  ⟨(some 11), none, .mv (.t 4)⟩,
  ⟨(some 12), none, .lenV (.t 11)⟩,
  ⟨(some 13), none, .bin .gtr (.t 12) (.c (.int .i64 5))⟩]
abbrev x49r3 : List XOper := [
  ⟨(some 14), none, .load true 5 (.t 2)⟩,
  ⟨none, none, .store 5 (.t 2) (.t 14)⟩,
  ⟨(some 3), none, .mv (.c (.int .i64 (-1)))⟩]
abbrev x49r4 : List XOper := [
  ⟨(some 15), none, .mv (.t 4)⟩,
  ⟨(some 16), none, .lenV (.t 15)⟩,
  ⟨(some 17), none, .mv (.c (.int .i64 0))⟩]
abbrev x49r5 : List XOper := [
  ⟨(some 18), none, .bin .lss (.t 17) (.t 16)⟩]
abbrev x49r6 : List XOper := [
  ⟨(some 19), none, .mv (.t 17)⟩,
  ⟨(some 20), none, .iaS 1 (.t 15) (.t 17)⟩,
  ⟨(some 21), none, .load false 1 (.t 20)⟩,
  ⟨(some 5), none, .mv (.t 19)⟩,
  ⟨(some 6), none, .mv (.t 21)⟩]
abbrev x49r7 : List XOper := [
  ⟨(some 23), none, .mv (.t 6)⟩,
  ⟨(some 24), none, .call (.c (.fn (.func 67) [] [])) [(.t 23)]⟩,
  ⟨(some 22), none, .mv (.t 24)⟩,
  ⟨(some 25), none, .ext (.t 22) 0⟩,
  ⟨(some 26), none, .ext (.t 22) 1⟩,
  ⟨(some 7), none, .mv (.t 25)⟩,
  ⟨(some 8), none, .mv (.t 26)⟩]
abbrev x49r8 : List XOper := [
  ⟨(some 27), none, .mv (.t 8)⟩,
  ⟨(some 28), none, .eqN true 1 (.t 27)⟩,
  ⟨(some 29), none, .mv (.t 28)⟩,
  ⟨(some 30), (some (29, false)), .mv (.t 7)⟩,
  ⟨(some 31), (some (29, false)), .call (.c (.fn (.func 43) [] [])) [(.t 30)]⟩,
  ⟨(some 32), (some (29, false)), .mv (.t 6)⟩,
  ⟨(some 33), (some (29, false)), .bin .neq (.t 31) (.t 32)⟩,
  ⟨(some 34), none, .pick (.t 29) (.c (.bool true)) (.t 33)⟩,
  ⟨(some 35), none, .mv (.t 34)⟩,
  ⟨(some 36), (some (35, false)), .mv (.t 7)⟩,
  ⟨(some 37), (some (35, false)), .call (.c (.fn (.func 23) [] [])) [(.t 36), (.c (.int .i64 (-1000000000))), (.c (.int .i64 1000000000))]⟩,
  ⟨(some 38), (some (35, false)), .un .not (.t 37)⟩,
  ⟨(some 39), none, .pick (.t 35) (.c (.bool true)) (.t 38)⟩]
abbrev x49r9 : List XOper := [
  ⟨(some 40), none, .load true 5 (.t 2)⟩,
  ⟨none, none, .store 5 (.t 2) (.t 40)⟩,
  ⟨(some 3), none, .mv (.c (.int .i64 (-1)))⟩]
abbrev x49r10 : List XOper := [
  ⟨(some 41), none, .mv (.t 5)⟩,
  ⟨(some 42), none, .mv (.t 7)⟩,
  ⟨(some 43), none, .iaA 5 1 (.t 2) (.t 41)⟩,
  ⟨none, none, .store 1 (.t 43) (.t 42)⟩]
abbrev x49r11 : List XOper := [
  ⟨(some 44), none, .bin .add (.t 17) (.c (.int .i64 1))⟩,
  ⟨(some 17), none, .mv (.t 44)⟩]
abbrev x49l5 : XCode :=
  (.seq (.reg 5 x49r5 none)
  (.seq (.cond (.t 18)
    .skip
    (.exit 0))
  (.seq (.block 1
    (.seq (.reg 6 x49r6 none)
    (.seq (.reg 7 x49r7 none)
    (.seq (.seq (.reg 8 x49r8 none)
    (.cond (.t 39)
      (.seq (.reg 9 x49r9 none)
      .ret)
      .skip))
    (.reg 10 x49r10 none)))))
  (.reg 11 x49r11 none))))
abbrev x49r12 : List XOper := [
  ⟨(some 45), none, .load true 5 (.t 2)⟩,
  ⟨(some 46), none, .mv (.t 4)⟩,
  ⟨(some 47), none, .lenV (.t 46)⟩,
  ⟨none, none, .store 5 (.t 2) (.t 45)⟩,
  ⟨(some 3), none, .mv (.t 47)⟩]
/-- datum/journal.numbers -/
abbrev x49b : XCode :=
  (.seq (.reg 0 x49r0 none)
  (.seq (.reg 1 x49r1 none)
  (.seq (.seq (.reg 2 x49r2 none)
  (.cond (.t 13)
    (.seq (.reg 3 x49r3 none)
    .ret)
    .skip))
  (.seq (.seq (.reg 4 x49r4 none)
  (.block 0
    (.loop x49l5)))
  (.seq (.reg 12 x49r12 none)
  .ret)))))
def x49 : XFunc := ⟨48, 1, [.cell 2 true 5, .tmp 3], x49b⟩
theorem x49_ok : chkF Tryz.prog Tryz.f49 x49 = true := by kernel_rfl
theorem x49_eq : x49.body = x49b ∧ x49.res = [.cell 2 true 5, .tmp 3] ∧ x49.np = 1 := ⟨rfl, rfl, rfl⟩

abbrev x50r0 : List XOper := [
  ⟨(some 2), none, .mv (.c (.str ⟨#[]⟩))⟩]
abbrev x50r1 : List XOper := [
  ⟨(some 3), none, .mv (.t 0)⟩,
  ⟨(some 4), none, .bin .add (.t 3) (.c (.str ⟨#[32]⟩))⟩,
  ⟨(some 5), none, .mv (.t 0)⟩,
  ⟨(some 6), none, .call (.c (.fn (.func 69) [] [])) [(.t 5)]⟩,
  ⟨(some 7), none, .call (.c (.fn (.func 68) [] [])) [(.t 6)]⟩,
  ⟨(some 8), none, .bin .add (.t 4) (.t 7)⟩,
  ⟨(some 2), none, .mv (.t 8)⟩]
/-- datum/datumref22.Seal -/
abbrev x50b : XCode :=
  (.seq (.reg 0 x50r0 none)
  (.seq (.reg 1 x50r1 none)
  .ret))
def x50 : XFunc := ⟨9, 1, [.tmp 2], x50b⟩
theorem x50_ok : chkF Tryz.prog Tryz.f50 x50 = true := by kernel_rfl
theorem x50_eq : x50.body = x50b ∧ x50.res = [.tmp 2] ∧ x50.np = 1 := ⟨rfl, rfl, rfl⟩

abbrev x51r0 : List XOper := [
  ⟨(some 2), none, .mv (.c (.str ⟨#[]⟩))⟩]
abbrev x51r1 : List XOper := [
  ⟨(some 3), none, .mv (.t 0)⟩,
  ⟨(some 4), none, .bin .lss (.t 3) (.c (.int .i64 0))⟩]
abbrev x51r2 : List XOper := [
  ⟨(some 5), none, .mv (.t 0)⟩,
  ⟨(some 6), none, .conv .u64 (.t 5)⟩,
  ⟨(some 7), none, .bin .sub (.c (.int .u64 0)) (.t 6)⟩,
  ⟨(some 8), none, .call (.c (.fn (.func 70) [] [])) [(.t 7)]⟩,
  ⟨(some 9), none, .bin .add (.c (.str ⟨#[45]⟩)) (.t 8)⟩,
  ⟨(some 2), none, .mv (.t 9)⟩]
abbrev x51r3 : List XOper := [
  ⟨(some 10), none, .mv (.t 0)⟩,
  ⟨(some 11), none, .conv .u64 (.t 10)⟩,
  ⟨(some 12), none, .call (.c (.fn (.func 70) [] [])) [(.t 11)]⟩,
  ⟨(some 2), none, .mv (.t 12)⟩]
/-- datum/datumref07.Digits -/
abbrev x51b : XCode :=
  (.seq (.reg 0 x51r0 none)
  (.seq (.seq (.reg 1 x51r1 none)
  (.cond (.t 4)
    (.seq (.reg 2 x51r2 none)
    .ret)
    .skip))
  (.seq (.reg 3 x51r3 none)
  .ret)))
def x51 : XFunc := ⟨13, 1, [.tmp 2], x51b⟩
theorem x51_ok : chkF Tryz.prog Tryz.f51 x51 = true := by kernel_rfl
theorem x51_eq : x51.body = x51b ∧ x51.res = [.tmp 2] ∧ x51.np = 1 := ⟨rfl, rfl, rfl⟩

abbrev x52r0 : List XOper := [
  ⟨(some 2), none, .mv (.c (.bool false))⟩]
abbrev x52r1 : List XOper := [
  ⟨(some 3), none, .mv (.c (.int .i64 0))⟩]
abbrev x52r2 : List XOper := [
  ⟨(some 4), none, .mv (.t 3)⟩,
  ⟨(some 5), none, .mv (.t 0)⟩,
  ⟨(some 6), none, .lenS (.t 5)⟩,
  ⟨(some 7), none, .bin .lss (.t 4) (.t 6)⟩]
abbrev x52r4 : List XOper := [
  ⟨(some 10), none, .mv (.t 0)⟩,
  ⟨(some 11), none, .mv (.t 3)⟩,
  ⟨(some 12), none, .ixS (.t 10) (.t 11)⟩,
  ⟨(some 13), none, .bin .eql (.t 12) (.c (.int .u8 10))⟩]
abbrev x52r5 : List XOper := [
  ⟨(some 2), none, .mv (.c (.bool false))⟩]
abbrev x52r3 : List XOper := [
  ⟨(some 8), none, .mv (.t 3)⟩,
  ⟨(some 9), none, .bin .add (.t 8) (.c (.int .i64 1))⟩,
  ⟨(some 3), none, .mv (.t 9)⟩]
abbrev x52l2 : XCode :=
  (.seq (.seq (.reg 2 x52r2 none)
  (.cond (.t 7)
    .skip
    (.exit 0)))
  (.seq (.block 1
    (.seq (.reg 4 x52r4 none)
    (.cond (.t 13)
      (.seq (.reg 5 x52r5 none)
      .ret)
      .skip)))
  (.reg 3 x52r3 none)))
abbrev x52r6 : List XOper := [
  ⟨(some 14), none, .mv (.t 0)⟩,
  ⟨(some 15), none, .lenS (.t 14)⟩,
  ⟨(some 16), none, .bin .leq (.t 15) (.c (.int .i64 200))⟩,
  ⟨(some 2), none, .mv (.t 16)⟩]
/-- datum/datumref22.Line -/
abbrev x52b : XCode :=
  (.seq (.reg 0 x52r0 none)
  (.seq (.seq (.reg 1 x52r1 none)
  (.block 0
    (.loop x52l2)))
  (.seq (.reg 6 x52r6 none)
  .ret)))
def x52 : XFunc := ⟨17, 1, [.tmp 2], x52b⟩
theorem x52_ok : chkF Tryz.prog Tryz.f52 x52 = true := by kernel_rfl
theorem x52_eq : x52.body = x52b ∧ x52.res = [.tmp 2] ∧ x52.np = 1 := ⟨rfl, rfl, rfl⟩

abbrev x53r0 : List XOper := [
  ⟨(some 2), none, .mv (.c (.int .i64 0))⟩,
  ⟨(some 3), none, .mv (.c (.bool false))⟩]
abbrev x53r1 : List XOper := [
  ⟨(some 8), none, .mv (.t 0)⟩,
  ⟨(some 9), none, .call (.c (.fn (.func 71) [] [])) [(.t 8)]⟩,
  ⟨(some 7), none, .mv (.t 9)⟩,
  ⟨(some 10), none, .ext (.t 7) 0⟩,
  ⟨(some 11), none, .ext (.t 7) 1⟩,
  ⟨(some 12), none, .ext (.t 7) 2⟩,
  ⟨(some 4), none, .mv (.t 10)⟩,
  ⟨(some 5), none, .mv (.t 11)⟩,
  ⟨(some 6), none, .mv (.t 12)⟩]
abbrev x53r2 : List XOper := [
  ⟨(some 13), none, .mv (.t 6)⟩,
  ⟨(some 14), none, .bin .neq (.t 13) (.c (.int .i64 0))⟩,
  ⟨(some 15), none, .mv (.t 14)⟩,
  ⟨(some 16), (some (15, false)), .mv (.t 4)⟩,
  ⟨(some 17), (some (15, false)), .lenV (.t 16)⟩,
  ⟨(some 18), (some (15, false)), .bin .neq (.t 17) (.c (.int .i64 1))⟩,
  ⟨(some 19), none, .pick (.t 15) (.c (.bool true)) (.t 18)⟩,
  ⟨(some 20), none, .mv (.t 19)⟩,
  ⟨(some 21), (some (20, false)), .mv (.t 4)⟩,
  ⟨(some 22), (some (20, false)), .iaS 4 (.t 21) (.c (.int .i64 0))⟩,
  ⟨(some 23), (some (20, false)), .fa 0 (.t 22)⟩,
  ⟨(some 24), (some (20, false)), .load false 1 (.t 23)⟩,
  ⟨(some 25), (some (20, false)), .bin .neq (.t 24) (.c (.int .i64 2))⟩,
  ⟨(some 26), none, .pick (.t 20) (.c (.bool true)) (.t 25)⟩,
  ⟨(some 27), none, .mv (.t 26)⟩,
  ⟨(some 28), (some (27, false)), .mv (.t 4)⟩,
  ⟨(some 29), (some (27, false)), .iaS 4 (.t 28) (.c (.int .i64 0))⟩,
  ⟨(some 30), (some (27, false)), .fa 2 (.t 29)⟩,
  ⟨(some 31), (some (27, false)), .load false 1 (.t 30)⟩,
  ⟨(some 32), (some (27, false)), .call (.c (.fn (.func 51) [] [])) [(.t 31)]⟩,
  ⟨(some 33), (some (27, false)), .mv (.t 0)⟩,
  ⟨(some 34), (some (27, false)), .bin .neq (.t 32) (.t 33)⟩,
  ⟨(some 35), none, .pick (.t 27) (.c (.bool true)) (.t 34)⟩]
abbrev x53r3 : List XOper := [
  ⟨(some 2), none, .mv (.c (.int .i64 0))⟩,
  ⟨(some 3), none, .mv (.c (.bool false))⟩]
abbrev x53r4 : List XOper := [
  ⟨(some 36), none, .mv (.t 4)⟩,
  ⟨(some 37), none, .iaS 4 (.t 36) (.c (.int .i64 0))⟩,
  ⟨(some 38), none, .fa 2 (.t 37)⟩,
  ⟨(some 39), none, .load false 1 (.t 38)⟩,
  ⟨(some 2), none, .mv (.t 39)⟩,
  ⟨(some 3), none, .mv (.c (.bool true))⟩]
/-- datum/datumref23.number -/
abbrev x53b : XCode :=
  (.seq (.reg 0 x53r0 none)
  (.seq (.reg 1 x53r1 none)
  (.seq (.seq (.reg 2 x53r2 none)
  (.cond (.t 35)
    (.seq (.reg 3 x53r3 none)
    .ret)
    .skip))
  (.seq (.reg 4 x53r4 none)
  .ret))))
def x53 : XFunc := ⟨40, 1, [.tmp 2, .tmp 3], x53b⟩
theorem x53_ok : chkF Tryz.prog Tryz.f53 x53 = true := by kernel_rfl
theorem x53_eq : x53.body = x53b ∧ x53.res = [.tmp 2, .tmp 3] ∧ x53.np = 1 := ⟨rfl, rfl, rfl⟩

abbrev x55r0 : List XOper := [
  ⟨(some 4), none, .mv (.c (.str ⟨#[]⟩))⟩]
abbrev x55r1 : List XOper := [
  ⟨(some 5), none, .mv (.t 0)⟩,
  ⟨(some 6), none, .mv (.t 1)⟩,
  ⟨(some 7), none, .call (.c (.fn (.func 72) [] [])) [(.t 5), (.t 6)]⟩,
  ⟨(some 4), none, .mv (.t 7)⟩]
/-- strconv.FormatInt -/
abbrev x55b : XCode :=
  (.seq (.reg 0 x55r0 none)
  (.seq (.reg 1 x55r1 none)
  .ret))
def x55 : XFunc := ⟨8, 2, [.tmp 4], x55b⟩
theorem x55_ok : chkF Tryz.prog Tryz.f55 x55 = true := by kernel_rfl
theorem x55_eq : x55.body = x55b ∧ x55.res = [.tmp 4] ∧ x55.np = 2 := ⟨rfl, rfl, rfl⟩

abbrev x56r0 : List XOper := [
  ⟨(some 2), none, .mv (.c (.int .i64 0))⟩]
abbrev x56r1 : List XOper := [
  ⟨(some 4), none, .build [(.int .i64 0), (.int .i64 0)] [(0, 1, (.c (.int .i64 1)))]⟩,
  ⟨(some 5), none, .mv (.t 0)⟩,
  ⟨(some 6), none, .build [(.int .i64 0), (.int .i64 0), (.str ⟨#[]⟩)] [(0, 2, (.t 4)), (2, 1, (.t 5))]⟩,
  ⟨(some 7), none, .box (.t 6)⟩,
  ⟨(some 3), none, .mv (.t 7)⟩]
abbrev x56r2 : List XOper := [
  ⟨(some 8), none, .mv (.t 3)⟩,
  ⟨(some 9), none, .call (.c (.fn (.func 73) [] [])) [(.t 8)]⟩,
  ⟨(some 2), none, .mv (.t 9)⟩]
/-- datum/seal.Sum -/
abbrev x56b : XCode :=
  (.seq (.reg 0 x56r0 none)
  (.seq (.reg 1 x56r1 none)
  (.seq (.reg 2 x56r2 none)
  .ret)))
def x56 : XFunc := ⟨10, 1, [.tmp 2], x56b⟩
theorem x56_ok : chkF Tryz.prog Tryz.f56 x56 = true := by kernel_rfl
theorem x56_eq : x56.body = x56b ∧ x56.res = [.tmp 2] ∧ x56.np = 1 := ⟨rfl, rfl, rfl⟩

abbrev x68r0 : List XOper := [
  ⟨(some 2), none, .mv (.c (.str ⟨#[]⟩))⟩]
abbrev x68r1 : List XOper := [
  ⟨(some 3), none, .mv (.c (.str ⟨#[]⟩))⟩]
abbrev x68r2 : List XOper := [
  ⟨(some 4), none, .mv (.c (.int .i64 0))⟩]
abbrev x68r3 : List XOper := [
  ⟨(some 5), none, .mv (.t 4)⟩,
  ⟨(some 6), none, .bin .lss (.t 5) (.c (.int .i64 8))⟩]
abbrev x68r5 : List XOper := [
  ⟨(some 9), none, .mv (.t 0)⟩,
  ⟨(some 10), none, .bin .rem (.t 9) (.c (.int .i64 16))⟩,
  ⟨(some 11), none, .mv (.t 0)⟩,
  ⟨(some 12), none, .bin .rem (.t 11) (.c (.int .i64 16))⟩,
  ⟨(some 13), none, .bin .add (.t 12) (.c (.int .i64 1))⟩,
  ⟨(some 14), none, .slS (.c (.str ⟨#[48, 49, 50, 51, 52, 53, 54, 55, 56, 57, 97, 98, 99, 100, 101, 102]⟩)) (some (.t 10)) (some (.t 13))⟩,
  ⟨(some 15), none, .mv (.t 3)⟩,
  ⟨(some 16), none, .bin .add (.t 14) (.t 15)⟩,
  ⟨(some 3), none, .mv (.t 16)⟩]
abbrev x68r6 : List XOper := [
  ⟨(some 17), none, .mv (.t 0)⟩,
  ⟨(some 18), none, .bin .quo (.t 17) (.c (.int .i64 16))⟩,
  ⟨(some 0), none, .mv (.t 18)⟩]
abbrev x68r4 : List XOper := [
  ⟨(some 7), none, .mv (.t 4)⟩,
  ⟨(some 8), none, .bin .add (.t 7) (.c (.int .i64 1))⟩,
  ⟨(some 4), none, .mv (.t 8)⟩]
abbrev x68l3 : XCode :=
  (.seq (.seq (.reg 3 x68r3 none)
  (.cond (.t 6)
    .skip
    (.exit 0)))
  (.seq (.block 1
    (.seq (.reg 5 x68r5 none)
    (.reg 6 x68r6 none)))
  (.reg 4 x68r4 none)))
abbrev x68r7 : List XOper := [
  ⟨(some 19), none, .mv (.t 3)⟩,
  ⟨(some 2), none, .mv (.t 19)⟩]
/-- datum/datumref22.digits -/
abbrev x68b : XCode :=
  (.seq (.reg 0 x68r0 none)
  (.seq (.reg 1 x68r1 none)
  (.seq (.seq (.reg 2 x68r2 none)
  (.block 0
    (.loop x68l3)))
  (.seq (.reg 7 x68r7 none)
  .ret))))
def x68 : XFunc := ⟨20, 1, [.tmp 2], x68b⟩
theorem x68_ok : chkF Tryz.prog Tryz.f68 x68 = true := by kernel_rfl
theorem x68_eq : x68.body = x68b ∧ x68.res = [.tmp 2] ∧ x68.np = 1 := ⟨rfl, rfl, rfl⟩

abbrev x69r0 : List XOper := [
  ⟨(some 2), none, .mv (.c (.int .i64 0))⟩]
abbrev x69r1 : List XOper := [
  ⟨(some 3), none, .mv (.c (.int .i64 1))⟩]
abbrev x69r2 : List XOper := [
  ⟨(some 4), none, .mv (.c (.int .i64 0))⟩]
abbrev x69r3 : List XOper := [
  ⟨(some 5), none, .mv (.c (.int .i64 0))⟩]
abbrev x69r4 : List XOper := [
  ⟨(some 6), none, .mv (.t 5)⟩,
  ⟨(some 7), none, .mv (.t 0)⟩,
  ⟨(some 8), none, .lenS (.t 7)⟩,
  ⟨(some 9), none, .bin .lss (.t 6) (.t 8)⟩]
abbrev x69r6 : List XOper := [
  ⟨(some 12), none, .mv (.t 3)⟩,
  ⟨(some 13), none, .mv (.t 0)⟩,
  ⟨(some 14), none, .mv (.t 5)⟩,
  ⟨(some 15), none, .ixS (.t 13) (.t 14)⟩,
  ⟨(some 16), none, .conv .i64 (.t 15)⟩,
  ⟨(some 17), none, .bin .add (.t 12) (.t 16)⟩,
  ⟨(some 18), none, .bin .rem (.t 17) (.c (.int .i64 65521))⟩,
  ⟨(some 3), none, .mv (.t 18)⟩]
abbrev x69r7 : List XOper := [
  ⟨(some 19), none, .mv (.t 4)⟩,
  ⟨(some 20), none, .mv (.t 3)⟩,
  ⟨(some 21), none, .bin .add (.t 19) (.t 20)⟩,
  ⟨(some 22), none, .bin .rem (.t 21) (.c (.int .i64 65521))⟩,
  ⟨(some 4), none, .mv (.t 22)⟩]
abbrev x69r5 : List XOper := [
  ⟨(some 10), none, .mv (.t 5)⟩,
  ⟨(some 11), none, .bin .add (.t 10) (.c (.int .i64 1))⟩,
  ⟨(some 5), none, .mv (.t 11)⟩]
abbrev x69l4 : XCode :=
  (.seq (.seq (.reg 4 x69r4 none)
  (.cond (.t 9)
    .skip
    (.exit 0)))
  (.seq (.block 1
    (.seq (.reg 6 x69r6 none)
    (.reg 7 x69r7 none)))
  (.reg 5 x69r5 none)))
abbrev x69r8 : List XOper := [
  ⟨(some 23), none, .mv (.t 4)⟩,
  ⟨(some 24), none, .bin .mul (.c (.int .i64 65536)) (.t 23)⟩,
  ⟨(some 25), none, .mv (.t 3)⟩,
  ⟨(some 26), none, .bin .add (.t 24) (.t 25)⟩,
  ⟨(some 2), none, .mv (.t 26)⟩]
/-- datum/datumref22.Sum -/
abbrev x69b : XCode :=
  (.seq (.reg 0 x69r0 none)
  (.seq (.reg 1 x69r1 none)
  (.seq (.reg 2 x69r2 none)
  (.seq (.seq (.reg 3 x69r3 none)
  (.block 0
    (.loop x69l4)))
  (.seq (.reg 8 x69r8 none)
  .ret)))))
def x69 : XFunc := ⟨27, 1, [.tmp 2], x69b⟩
theorem x69_ok : chkF Tryz.prog Tryz.f69 x69 = true := by kernel_rfl
theorem x69_eq : x69.body = x69b ∧ x69.res = [.tmp 2] ∧ x69.np = 1 := ⟨rfl, rfl, rfl⟩

abbrev x70r0 : List XOper := [
  ⟨(some 2), none, .mv (.c (.str ⟨#[]⟩))⟩]
abbrev x70r1 : List XOper := [
  ⟨(some 3), none, .mv (.t 0)⟩,
  ⟨(some 4), none, .bin .lss (.t 3) (.c (.int .u64 10))⟩]
abbrev x70r2 : List XOper := [
  ⟨(some 5), none, .mv (.t 0)⟩,
  ⟨(some 6), none, .bin .add (.c (.int .u64 48)) (.t 5)⟩,
  ⟨(some 7), none, .conv .u8 (.t 6)⟩,
  ⟨(some 8), none, .mkslice 1 (.int .u8 0) 1 [(0, (.t 7))]⟩,
  ⟨(some 9), none, .b2s (.t 8)⟩,
  ⟨(some 2), none, .mv (.t 9)⟩]
abbrev x70r3 : List XOper := [
  ⟨(some 10), none, .mv (.t 0)⟩,
  ⟨(some 11), none, .bin .quo (.t 10) (.c (.int .u64 10))⟩,
  ⟨(some 12), none, .call (.c (.fn (.func 70) [] [])) [(.t 11)]⟩,
  ⟨(some 13), none, .mv (.t 0)⟩,
  ⟨(some 14), none, .bin .rem (.t 13) (.c (.int .u64 10))⟩,
  ⟨(some 15), none, .call (.c (.fn (.func 70) [] [])) [(.t 14)]⟩,
  ⟨(some 16), none, .bin .add (.t 12) (.t 15)⟩,
  ⟨(some 2), none, .mv (.t 16)⟩]
/-- datum/datumref07.natural -/
abbrev x70b : XCode :=
  (.seq (.reg 0 x70r0 none)
  (.seq (.seq (.reg 1 x70r1 none)
  (.cond (.t 4)
    (.seq (.reg 2 x70r2 none)
    .ret)
    .skip))
  (.seq (.reg 3 x70r3 none)
  .ret)))
def x70 : XFunc := ⟨17, 1, [.tmp 2], x70b⟩
theorem x70_ok : chkF Tryz.prog Tryz.f70 x70 = true := by kernel_rfl
theorem x70_eq : x70.body = x70b ∧ x70.res = [.tmp 2] ∧ x70.np = 1 := ⟨rfl, rfl, rfl⟩

abbrev x71r0 : List XOper := [
  ⟨(some 2), none, .mv (.c .nils)⟩,
  ⟨(some 3), none, .mv (.c (.int .i64 0))⟩,
  ⟨(some 4), none, .mv (.c (.int .i64 0))⟩]
abbrev x71r1 : List XOper := [
  ⟨(some 11), none, .mv (.t 0)⟩,
  ⟨(some 12), none, .lenS (.t 11)⟩,
  ⟨(some 13), none, .bin .gtr (.t 12) (.c (.int .i64 4000))⟩]
abbrev x71r2 : List XOper := [
  ⟨(some 2), none, .mv (.c .nils)⟩,
  ⟨(some 3), none, .mv (.c (.int .i64 0))⟩,
  ⟨(some 4), none, .mv (.c (.int .i64 2))⟩]
abbrev x71r3 : List XOper := [
  ⟨(some 14), none, .mkslice 4 (.agg [(.int .i64 0), (.str ⟨#[]⟩), (.int .i64 0), (.int .i64 0)]) 0 []⟩,
  ⟨(some 5), none, .mv (.t 14)⟩]
abbrev x71r4 : List XOper := [
  ⟨(some 6), none, .mv (.c (.int .i64 0))⟩]
abbrev x71r5 : List XOper := [
  ⟨(some 15), none, .mv (.t 6)⟩,
  ⟨(some 16), none, .mv (.t 0)⟩,
  ⟨(some 17), none, .lenS (.t 16)⟩,
  ⟨(some 18), none, .bin .lss (.t 15) (.t 17)⟩]
abbrev x71r6 : List XOper := [
  ⟨(some 19), none, .mv (.t 0)⟩,
  ⟨(some 20), none, .mv (.t 6)⟩,
  ⟨(some 21), none, .call (.c (.fn (.func 92) [] [])) [(.t 19), (.t 20)]⟩,
  ⟨(some 7), none, .mv (.t 21)⟩]
abbrev x71r7 : List XOper := [
  ⟨(some 22), none, .mv (.t 7)⟩,
  ⟨(some 23), none, .bin .gtr (.t 22) (.c (.int .i64 0))⟩]
abbrev x71r8 : List XOper := [
  ⟨(some 24), none, .mv (.t 6)⟩,
  ⟨(some 25), none, .mv (.t 7)⟩,
  ⟨(some 26), none, .bin .add (.t 24) (.t 25)⟩,
  ⟨(some 6), none, .mv (.t 26)⟩]
abbrev x71r9 : List XOper := [
  ⟨(some 28), none, .mv (.t 0)⟩,
  ⟨(some 29), none, .mv (.t 6)⟩,
  ⟨(some 30), none, .call (.c (.fn (.func 93) [] [])) [(.t 28), (.t 29)]⟩,
  ⟨(some 27), none, .mv (.t 30)⟩,
  ⟨(some 31), none, .ext (.t 27) 0⟩,
  ⟨(some 32), none, .ext (.t 27) 1⟩,
  ⟨(some 33), none, .ext (.t 27) 2⟩,
  ⟨(some 8), none, .alloc [(.int .i64 0), (.str ⟨#[]⟩), (.int .i64 0), (.int .i64 0)]⟩,
  ⟨none, none, .store 4 (.t 8) (.t 31)⟩,
  ⟨(some 9), none, .mv (.t 32)⟩,
  ⟨(some 10), none, .mv (.t 33)⟩]
abbrev x71r10 : List XOper := [
  ⟨(some 34), none, .mv (.t 10)⟩,
  ⟨(some 35), none, .bin .neq (.t 34) (.c (.int .i64 0))⟩]
abbrev x71r11 : List XOper := [
  ⟨(some 36), none, .mv (.t 6)⟩,
  ⟨(some 37), none, .mv (.t 10)⟩,
  ⟨(some 2), none, .mv (.c .nils)⟩,
  ⟨(some 3), none, .mv (.t 36)⟩,
  ⟨(some 4), none, .mv (.t 37)⟩]
abbrev x71r12 : List XOper := [
  ⟨(some 38), none, .mv (.t 5)⟩,
  ⟨(some 39), none, .load true 4 (.t 8)⟩,
  ⟨(some 40), none, .mkslice 4 (.agg [(.int .i64 0), (.str ⟨#[]⟩), (.int .i64 0), (.int .i64 0)]) 1 [(0, (.t 39))]⟩,
  ⟨(some 41), none, .app 4 40 (.t 38) (.t 40)⟩,
  ⟨(some 5), none, .mv (.t 41)⟩]
abbrev x71r13 : List XOper := [
  ⟨(some 42), none, .mv (.t 6)⟩,
  ⟨(some 43), none, .mv (.t 9)⟩,
  ⟨(some 44), none, .bin .add (.t 42) (.t 43)⟩,
  ⟨(some 6), none, .mv (.t 44)⟩]
abbrev x71l5 : XCode :=
  (.seq (.seq (.reg 5 x71r5 none)
  (.cond (.t 18)
    .skip
    (.exit 0)))
  (.block 1
    (.seq (.reg 6 x71r6 none)
    (.seq (.seq (.reg 7 x71r7 none)
    (.cond (.t 23)
      (.seq (.reg 8 x71r8 none)
      (.exit 1))
      .skip))
    (.seq (.reg 9 x71r9 none)
    (.seq (.seq (.reg 10 x71r10 none)
    (.cond (.t 35)
      (.seq (.reg 11 x71r11 none)
      .ret)
      .skip))
    (.seq (.reg 12 x71r12 none)
    (.reg 13 x71r13 none))))))))
abbrev x71r14 : List XOper := [
  ⟨(some 45), none, .mv (.t 5)⟩,
  ⟨(some 2), none, .mv (.t 45)⟩,
  ⟨(some 3), none, .mv (.c (.int .i64 0))⟩,
  ⟨(some 4), none, .mv (.c (.int .i64 0))⟩]
/-- datum/datumref07.Scan -/
abbrev x71b : XCode :=
  (.seq (.reg 0 x71r0 none)
  (.seq (.seq (.reg 1 x71r1 none)
  (.cond (.t 13)
    (.seq (.reg 2 x71r2 none)
    .ret)
    .skip))
  (.seq (.reg 3 x71r3 none)
  (.seq (.reg 4 x71r4 none)
  (.seq (.block 0
    (.loop x71l5))
  (.seq (.reg 14 x71r14 none)
  .ret))))))
def x71 : XFunc := ⟨46, 1, [.tmp 2, .tmp 3, .tmp 4], x71b⟩
theorem x71_ok : chkF Tryz.prog Tryz.f71 x71 = true := by kernel_rfl
theorem x71_eq : x71.body = x71b ∧ x71.res = [.tmp 2, .tmp 3, .tmp 4] ∧ x71.np = 1 := ⟨rfl, rfl, rfl⟩

abbrev x72r0 : List XOper := [
  ⟨(some 4), none, .mv (.c (.str ⟨#[]⟩))⟩]
abbrev x72r1 : List XOper := [
  ⟨(some 10), none, .mv (.t 1)⟩,
  ⟨(some 11), none, .bin .eql (.t 10) (.c (.int .i64 10))⟩]
abbrev x72r2 : List XOper := [
  ⟨(some 12), none, .mv (.t 0)⟩,
  ⟨(some 13), none, .bin .leq (.c (.int .i64 0)) (.t 12)⟩,
  ⟨(some 14), none, .mv (.t 13)⟩,
  ⟨(some 15), (some (14, true)), .mv (.t 0)⟩,
  ⟨(some 16), (some (14, true)), .bin .lss (.t 15) (.c (.int .i64 100))⟩,
  ⟨(some 17), none, .pick (.t 14) (.t 16) (.c (.bool false))⟩]
abbrev x72r3 : List XOper := [
  ⟨(some 18), none, .mv (.t 0)⟩,
  ⟨(some 19), none, .call (.c (.fn (.func 94) [] [])) [(.t 18)]⟩,
  ⟨(some 4), none, .mv (.t 19)⟩]
abbrev x72r4 : List XOper := [
  ⟨(some 5), none, .alloc [(.int .u8 0), (.int .u8 0), (.int .u8 0), (.int .u8 0), (.int .u8 0), (.int .u8 0), (.int .u8 0), (.int .u8 0), (.int .u8 0), (.int .u8 0), (.int .u8 0), (.int .u8 0), (.int .u8 0), (.int .u8 0), (.int .u8 0), (.int .u8 0), (.int .u8 0), (.int .u8 0), (.int .u8 0), (.int .u8 0), (.int .u8 0), (.int .u8 0), (.int .u8 0), (.int .u8 0)]⟩]
abbrev x72r5 : List XOper := [
  ⟨(some 20), none, .mv (.t 0)⟩,
  ⟨(some 21), none, .conv .u64 (.t 20)⟩,
  ⟨(some 6), none, .mv (.t 21)⟩]
abbrev x72r6 : List XOper := [
  ⟨(some 22), none, .mv (.t 0)⟩,
  ⟨(some 23), none, .bin .lss (.t 22) (.c (.int .i64 0))⟩]
abbrev x72r7 : List XOper := [
  ⟨(some 24), none, .mv (.t 6)⟩,
  ⟨(some 25), none, .un .neg (.t 24)⟩,
  ⟨(some 6), none, .mv (.t 25)⟩]
abbrev x72r8 : List XOper := [
  ⟨(some 26), none, .mv (.t 6)⟩,
  ⟨(some 27), none, .call (.c (.fn (.func 95) [] [])) [(.t 26)]⟩,
  ⟨(some 7), none, .mv (.t 27)⟩]
abbrev x72r9 : List XOper := [
  ⟨(some 28), none, .mv (.t 7)⟩,
  ⟨(some 29), none, .bin .add (.c (.int .i64 1)) (.t 28)⟩,
  ⟨(some 30), none, .slA 24 1 (.t 5) (some (.c (.int .i64 1))) (some (.t 29))⟩,
  ⟨(some 31), none, .mv (.t 6)⟩,
  ⟨(some 32), none, .call (.c (.fn (.func 96) [] [])) [(.t 30), (.t 31)]⟩]
abbrev x72r10 : List XOper := [
  ⟨(some 33), none, .mv (.t 0)⟩,
  ⟨(some 34), none, .bin .lss (.t 33) (.c (.int .i64 0))⟩]
abbrev x72r11 : List XOper := [
  ⟨(some 35), none, .iaA 24 1 (.t 5) (.c (.int .i64 0))⟩,
  ⟨none, none, .store 1 (.t 35) (.c (.int .u8 45))⟩]
abbrev x72r12 : List XOper := [
  ⟨(some 36), none, .mv (.t 7)⟩,
  ⟨(some 37), none, .bin .add (.c (.int .i64 1)) (.t 36)⟩,
  ⟨(some 38), none, .slA 24 1 (.t 5) none (some (.t 37))⟩,
  ⟨(some 39), none, .b2s (.t 38)⟩,
  ⟨(some 4), none, .mv (.t 39)⟩]
abbrev x72r13 : List XOper := [
  ⟨(some 40), none, .mv (.t 7)⟩,
  ⟨(some 41), none, .bin .add (.c (.int .i64 1)) (.t 40)⟩,
  ⟨(some 42), none, .slA 24 1 (.t 5) (some (.c (.int .i64 1))) (some (.t 41))⟩,
  ⟨(some 43), none, .b2s (.t 42)⟩,
  ⟨(some 4), none, .mv (.t 43)⟩]
abbrev x72r14 : List XOper := [
  ⟨(some 45), none, .mv (.t 0)⟩,
  ⟨(some 46), none, .conv .u64 (.t 45)⟩,
  ⟨(some 47), none, .mv (.t 1)⟩,
  ⟨(some 48), none, .mv (.t 0)⟩,
  ⟨(some 49), none, .bin .lss (.t 48) (.c (.int .i64 0))⟩,
  ⟨(some 50), none, .call (.c (.fn (.func 97) [] [])) [(.c .nils), (.t 46), (.t 47), (.t 49), (.c (.bool false))]⟩,
  ⟨(some 44), none, .mv (.t 50)⟩,
  ⟨(some 51), none, .ext (.t 44) 0⟩,
  ⟨(some 52), none, .ext (.t 44) 1⟩,
  ⟨(some 8), none, .mv (.t 51)⟩,
  ⟨(some 9), none, .mv (.t 52)⟩]
abbrev x72r15 : List XOper := [
  ⟨(some 53), none, .mv (.t 9)⟩,
  ⟨(some 4), none, .mv (.t 53)⟩]
/-- internal/strconv.FormatInt -/
abbrev x72b : XCode :=
  (.seq (.reg 0 x72r0 none)
  (.seq (.seq (.reg 1 x72r1 none)
  (.cond (.t 11)
    (.seq (.seq (.reg 2 x72r2 none)
    (.cond (.t 17)
      (.seq (.reg 3 x72r3 none)
      .ret)
      .skip))
    (.seq (.reg 4 x72r4 none)
    (.seq (.reg 5 x72r5 none)
    (.seq (.seq (.reg 6 x72r6 none)
    (.cond (.t 23)
      (.reg 7 x72r7 none)
      .skip))
    (.seq (.reg 8 x72r8 none)
    (.seq (.reg 9 x72r9 none)
    (.seq (.seq (.reg 10 x72r10 none)
    (.cond (.t 34)
      (.seq (.reg 11 x72r11 none)
      (.seq (.reg 12 x72r12 none)
      .ret))
      .skip))
    (.seq (.reg 13 x72r13 none)
    .ret))))))))
    .skip))
  (.seq (.reg 14 x72r14 none)
  (.seq (.reg 15 x72r15 none)
  .ret))))
def x72 : XFunc := ⟨54, 2, [.tmp 4], x72b⟩
theorem x72_ok : chkF Tryz.prog Tryz.f72 x72 = true := by kernel_rfl
theorem x72_eq : x72.body = x72b ∧ x72.res = [.tmp 4] ∧ x72.np = 2 := ⟨rfl, rfl, rfl⟩

abbrev x73r0 : List XOper := [
  ⟨(some 2), none, .mv (.c (.int .i64 0))⟩]
abbrev x73r1 : List XOper := [
  ⟨(some 3), none, .alloc [(.int .u8 0), (.int .u8 0), (.int .u8 0), (.int .u8 0), (.int .u8 0), (.int .u8 0), (.int .u8 0), (.int .u8 0), (.int .u8 0), (.int .u8 0), (.int .u8 0), (.int .u8 0), (.int .u8 0), (.int .u8 0), (.int .u8 0), (.int .u8 0), (.int .u8 0), (.int .u8 0), (.int .u8 0), (.int .u8 0), (.int .u8 0), (.int .u8 0), (.int .u8 0), (.int .u8 0), (.int .u8 0), (.int .u8 0), (.int .u8 0), (.int .u8 0), (.int .u8 0), (.int .u8 0), (.int .u8 0), (.int .u8 0), (.int .u8 0), (.int .u8 0), (.int .u8 0), (.int .u8 0), (.int .u8 0), (.int .u8 0), (.int .u8 0), (.int .u8 0), (.int .u8 0), (.int .u8 0), (.int .u8 0), (.int .u8 0), (.int .u8 0), (.int .u8 0), (.int .u8 0), (.int .u8 0), (.int .u8 0), (.int .u8 0), (.int .u8 0), (.int .u8 0), (.int .u8 0), (.int .u8 0), (.int .u8 0), (.int .u8 0), (.int .u8 0), (.int .u8 0), (.int .u8 0), (.int .u8 0), (.int .u8 0), (.int .u8 0), (.int .u8 0), (.int .u8 0)]⟩]
abbrev x73r2 : List XOper := [
  ⟨(some 7), none, .mv (.t 0)⟩,
  ⟨(some 8), none, .nilChk (.t 7)⟩,
  ⟨(some 9), none, .fa 2 (.t 8)⟩,
  ⟨(some 10), none, .load false 1 (.t 9)⟩,
  ⟨(some 11), none, .bin .neq (.t 10) (.c (.str ⟨#[]⟩))⟩]
abbrev x73r3 : List XOper := [
  ⟨(some 12), none, .slA 64 1 (.t 3) none none⟩,
  ⟨(some 13), none, .mv (.t 0)⟩,
  ⟨(some 14), none, .nilChk (.t 13)⟩,
  ⟨(some 15), none, .fa 2 (.t 14)⟩,
  ⟨(some 16), none, .load false 1 (.t 15)⟩,
  ⟨(some 17), none, .cpy 1 (.t 12) (.t 16)⟩,
  ⟨(some 4), none, .mv (.t 17)⟩]
abbrev x73r4 : List XOper := [
  ⟨(some 18), none, .mv (.t 4)⟩,
  ⟨(some 19), none, .slA 64 1 (.t 3) none (some (.t 18))⟩,
  ⟨(some 20), none, .lenV (.t 19)⟩,
  ⟨(some 21), none, .mv (.c (.int .i64 0))⟩]
abbrev x73r5 : List XOper := [
  ⟨(some 22), none, .bin .lss (.t 21) (.t 20)⟩]
abbrev x73r6 : List XOper := [
  ⟨(some 23), none, .iaS 1 (.t 19) (.t 21)⟩,
  ⟨(some 24), none, .load false 1 (.t 23)⟩,
  ⟨(some 6), none, .mv (.t 24)⟩]
abbrev x73r7 : List XOper := [
  ⟨(some 25), none, .mv (.t 0)⟩,
  ⟨(some 26), none, .nilChk (.t 25)⟩,
  ⟨(some 27), none, .fa 0 (.t 26)⟩,
  ⟨(some 28), none, .mv (.t 6)⟩,
  ⟨(some 29), none, .call (.c (.fn (.func 98) [] [])) [(.t 27), (.t 28)]⟩]
abbrev x73r8 : List XOper := [
  ⟨(some 30), none, .bin .add (.t 21) (.c (.int .i64 1))⟩,
  ⟨(some 21), none, .mv (.t 30)⟩]
abbrev x73l5 : XCode :=
  (.seq (.reg 5 x73r5 none)
  (.seq (.cond (.t 22)
    .skip
    (.exit 2))
  (.seq (.block 3
    (.seq (.reg 6 x73r6 none)
    (.reg 7 x73r7 none)))
  (.reg 8 x73r8 none))))
abbrev x73r9 : List XOper := [
  ⟨(some 31), none, .mv (.t 0)⟩,
  ⟨(some 32), none, .mv (.t 0)⟩,
  ⟨(some 33), none, .nilChk (.t 32)⟩,
  ⟨(some 34), none, .fa 2 (.t 33)⟩,
  ⟨(some 35), none, .load false 1 (.t 34)⟩,
  ⟨(some 36), none, .mv (.t 4)⟩,
  ⟨(some 37), none, .slS (.t 35) (some (.t 36)) none⟩,
  ⟨(some 38), none, .nilChk (.t 31)⟩,
  ⟨(some 39), none, .fa 2 (.t 38)⟩,
  ⟨none, none, .store 1 (.t 39) (.t 37)⟩]
abbrev x73l2 : XCode :=
  (.seq (.seq (.reg 2 x73r2 none)
  (.cond (.t 11)
    .skip
    (.exit 0)))
  (.block 1
    (.seq (.reg 3 x73r3 (some ⟨[(0, 4)]⟩))
    (.seq (.seq (.reg 4 x73r4 none)
    (.block 2
      (.loop x73l5)))
    (.reg 9 x73r9 none)))))
abbrev x73r10 : List XOper := [
  ⟨(some 40), none, .mv (.t 0)⟩,
  ⟨(some 41), none, .nilChk (.t 40)⟩,
  ⟨(some 42), none, .fa 0 (.t 41)⟩,
  ⟨(some 43), none, .call (.c (.fn (.func 99) [] [])) [(.t 42)]⟩,
  ⟨(some 2), none, .mv (.t 43)⟩]
/-- (*datum/seal.sum).all -/
abbrev x73b : XCode :=
  (.seq (.reg 0 x73r0 none)
  (.seq (.reg 1 x73r1 none)
  (.seq (.block 0
    (.loop x73l2))
  (.seq (.reg 10 x73r10 none)
  .ret))))
def x73 : XFunc := ⟨44, 1, [.tmp 2], x73b⟩
theorem x73_ok : chkF Tryz.prog Tryz.f73 x73 = true := by kernel_rfl
theorem x73_eq : x73.body = x73b ∧ x73.res = [.tmp 2] ∧ x73.np = 1 := ⟨rfl, rfl, rfl⟩

abbrev x92r0 : List XOper := [
  ⟨(some 4), none, .mv (.c (.int .i64 0))⟩]
abbrev x92r1 : List XOper := [
  ⟨(some 7), none, .mv (.t 0)⟩,
  ⟨(some 8), none, .mv (.t 1)⟩,
  ⟨(some 9), none, .ixS (.t 7) (.t 8)⟩,
  ⟨(some 5), none, .mv (.t 9)⟩]
abbrev x92r2 : List XOper := [
  ⟨(some 10), none, .mv (.t 5)⟩,
  ⟨(some 11), none, .bin .eql (.t 10) (.c (.int .u8 32))⟩,
  ⟨(some 12), none, .mv (.t 11)⟩,
  ⟨(some 13), (some (12, false)), .mv (.t 5)⟩,
  ⟨(some 14), (some (12, false)), .bin .eql (.t 13) (.c (.int .u8 9))⟩,
  ⟨(some 15), none, .pick (.t 12) (.c (.bool true)) (.t 14)⟩,
  ⟨(some 16), none, .mv (.t 15)⟩,
  ⟨(some 17), (some (16, false)), .mv (.t 5)⟩,
  ⟨(some 18), (some (16, false)), .bin .eql (.t 17) (.c (.int .u8 10))⟩,
  ⟨(some 19), none, .pick (.t 16) (.c (.bool true)) (.t 18)⟩,
  ⟨(some 20), none, .mv (.t 19)⟩,
  ⟨(some 21), (some (20, false)), .mv (.t 5)⟩,
  ⟨(some 22), (some (20, false)), .bin .eql (.t 21) (.c (.int .u8 13))⟩,
  ⟨(some 23), none, .pick (.t 20) (.c (.bool true)) (.t 22)⟩]
abbrev x92r3 : List XOper := [
  ⟨(some 4), none, .mv (.c (.int .i64 1))⟩]
abbrev x92r4 : List XOper := [
  ⟨(some 24), none, .mv (.t 5)⟩,
  ⟨(some 25), none, .bin .neq (.t 24) (.c (.int .u8 35))⟩]
abbrev x92r5 : List XOper := [
  ⟨(some 4), none, .mv (.c (.int .i64 0))⟩]
abbrev x92r6 : List XOper := [
  ⟨(some 6), none, .mv (.c (.int .i64 0))⟩]
abbrev x92r7 : List XOper := [
  ⟨(some 26), none, .mv (.t 1)⟩,
  ⟨(some 27), none, .mv (.t 6)⟩,
  ⟨(some 28), none, .bin .add (.t 26) (.t 27)⟩,
  ⟨(some 29), none, .mv (.t 0)⟩,
  ⟨(some 30), none, .lenS (.t 29)⟩,
  ⟨(some 31), none, .bin .lss (.t 28) (.t 30)⟩,
  ⟨(some 32), none, .mv (.t 31)⟩,
  ⟨(some 33), (some (32, true)), .mv (.t 0)⟩,
  ⟨(some 34), (some (32, true)), .mv (.t 1)⟩,
  ⟨(some 35), (some (32, true)), .mv (.t 6)⟩,
  ⟨(some 36), (some (32, true)), .bin .add (.t 34) (.t 35)⟩,
  ⟨(some 37), (some (32, true)), .ixS (.t 33) (.t 36)⟩,
  ⟨(some 38), (some (32, true)), .bin .neq (.t 37) (.c (.int .u8 10))⟩,
  ⟨(some 39), none, .pick (.t 32) (.t 38) (.c (.bool false))⟩]
abbrev x92r8 : List XOper := [
  ⟨(some 40), none, .mv (.t 6)⟩,
  ⟨(some 41), none, .bin .add (.t 40) (.c (.int .i64 1))⟩,
  ⟨(some 6), none, .mv (.t 41)⟩]
abbrev x92l7 : XCode :=
  (.seq (.seq (.reg 7 x92r7 none)
  (.cond (.t 39)
    .skip
    (.exit 0)))
  (.block 1
    (.reg 8 x92r8 none)))
abbrev x92r9 : List XOper := [
  ⟨(some 42), none, .mv (.t 6)⟩,
  ⟨(some 4), none, .mv (.t 42)⟩]
/-- datum/datumref07.blank -/
abbrev x92b : XCode :=
  (.seq (.reg 0 x92r0 none)
  (.seq (.reg 1 x92r1 none)
  (.seq (.seq (.reg 2 x92r2 none)
  (.cond (.t 23)
    (.seq (.reg 3 x92r3 none)
    .ret)
    .skip))
  (.seq (.seq (.reg 4 x92r4 none)
  (.cond (.t 25)
    (.seq (.reg 5 x92r5 none)
    .ret)
    .skip))
  (.seq (.reg 6 x92r6 none)
  (.seq (.block 0
    (.loop x92l7))
  (.seq (.reg 9 x92r9 none)
  .ret)))))))
def x92 : XFunc := ⟨43, 2, [.tmp 4], x92b⟩
theorem x92_ok : chkF Tryz.prog Tryz.f92 x92 = true := by kernel_rfl
theorem x92_eq : x92.body = x92b ∧ x92.res = [.tmp 4] ∧ x92.np = 2 := ⟨rfl, rfl, rfl⟩

abbrev x93r0 : List XOper := [
  ⟨(some 4), none, .alloc [(.int .i64 0), (.str ⟨#[]⟩), (.int .i64 0), (.int .i64 0)]⟩,
  ⟨(some 5), none, .mv (.c (.int .i64 0))⟩,
  ⟨(some 6), none, .mv (.c (.int .i64 0))⟩]
abbrev x93r1 : List XOper := [
  ⟨(some 13), none, .mv (.t 0)⟩,
  ⟨(some 14), none, .mv (.t 1)⟩,
  ⟨(some 15), none, .ixS (.t 13) (.t 14)⟩,
  ⟨(some 7), none, .mv (.t 15)⟩]
abbrev x93r2 : List XOper := [
  ⟨(some 16), none, .mv (.t 7)⟩,
  ⟨(some 17), none, .bin .eql (.t 16) (.c (.int .u8 123))⟩,
  ⟨(some 18), none, .mv (.t 17)⟩,
  ⟨(some 19), (some (18, false)), .mv (.t 7)⟩,
  ⟨(some 20), (some (18, false)), .bin .eql (.t 19) (.c (.int .u8 125))⟩,
  ⟨(some 21), none, .pick (.t 18) (.c (.bool true)) (.t 20)⟩,
  ⟨(some 22), none, .mv (.t 21)⟩,
  ⟨(some 23), (some (22, false)), .mv (.t 7)⟩,
  ⟨(some 24), (some (22, false)), .bin .eql (.t 23) (.c (.int .u8 59))⟩,
  ⟨(some 25), none, .pick (.t 22) (.c (.bool true)) (.t 24)⟩]
abbrev x93r3 : List XOper := [
  ⟨(some 8), none, .mv (.c (.int .i64 5))⟩]
abbrev x93r4 : List XOper := [
  ⟨(some 26), none, .mv (.t 7)⟩,
  ⟨(some 27), none, .bin .eql (.t 26) (.c (.int .u8 123))⟩]
abbrev x93r5 : List XOper := [
  ⟨(some 8), none, .mv (.c (.int .i64 3))⟩]
abbrev x93r6 : List XOper := [
  ⟨(some 28), none, .mv (.t 7)⟩,
  ⟨(some 29), none, .bin .eql (.t 28) (.c (.int .u8 125))⟩]
abbrev x93r7 : List XOper := [
  ⟨(some 8), none, .mv (.c (.int .i64 4))⟩]
abbrev x93r8 : List XOper := [
  ⟨(some 30), none, .mv (.t 8)⟩,
  ⟨(some 31), none, .mv (.t 1)⟩,
  ⟨(some 32), none, .build [(.int .i64 0), (.str ⟨#[]⟩), (.int .i64 0), (.int .i64 0)] [(0, 1, (.t 30)), (3, 1, (.t 31))]⟩,
  ⟨none, none, .store 4 (.t 4) (.t 32)⟩,
  ⟨(some 5), none, .mv (.c (.int .i64 1))⟩,
  ⟨(some 6), none, .mv (.c (.int .i64 0))⟩]
abbrev x93r9 : List XOper := [
  ⟨(some 33), none, .mv (.t 7)⟩,
  ⟨(some 34), none, .bin .eql (.t 33) (.c (.int .u8 45))⟩,
  ⟨(some 35), none, .mv (.t 34)⟩,
  ⟨(some 36), (some (35, false)), .mv (.t 7)⟩,
  ⟨(some 37), (some (35, false)), .call (.c (.fn (.func 116) [] [])) [(.t 36)]⟩,
  ⟨(some 38), none, .pick (.t 35) (.c (.bool true)) (.t 37)⟩]
abbrev x93r10 : List XOper := [
  ⟨(some 40), none, .mv (.t 0)⟩,
  ⟨(some 41), none, .mv (.t 1)⟩,
  ⟨(some 42), none, .call (.c (.fn (.func 117) [] [])) [(.t 40), (.t 41)]⟩,
  ⟨(some 39), none, .mv (.t 42)⟩,
  ⟨(some 43), none, .ext (.t 39) 0⟩,
  ⟨(some 44), none, .ext (.t 39) 1⟩,
  ⟨(some 45), none, .ext (.t 39) 2⟩,
  ⟨(some 9), none, .mv (.t 43)⟩,
  ⟨(some 10), none, .mv (.t 44)⟩,
  ⟨(some 11), none, .mv (.t 45)⟩]
abbrev x93r11 : List XOper := [
  ⟨(some 46), none, .mv (.t 11)⟩,
  ⟨(some 47), none, .bin .neq (.t 46) (.c (.int .i64 0))⟩]
abbrev x93r12 : List XOper := [
  ⟨(some 48), none, .build [(.int .i64 0), (.str ⟨#[]⟩), (.int .i64 0), (.int .i64 0)] []⟩,
  ⟨(some 49), none, .mv (.t 11)⟩,
  ⟨none, none, .store 4 (.t 4) (.t 48)⟩,
  ⟨(some 5), none, .mv (.c (.int .i64 0))⟩,
  ⟨(some 6), none, .mv (.t 49)⟩]
abbrev x93r13 : List XOper := [
  ⟨(some 50), none, .mv (.t 9)⟩,
  ⟨(some 51), none, .mv (.t 1)⟩,
  ⟨(some 52), none, .build [(.int .i64 0), (.str ⟨#[]⟩), (.int .i64 0), (.int .i64 0)] [(0, 1, (.c (.int .i64 2))), (2, 1, (.t 50)), (3, 1, (.t 51))]⟩,
  ⟨(some 53), none, .mv (.t 10)⟩,
  ⟨none, none, .store 4 (.t 4) (.t 52)⟩,
  ⟨(some 5), none, .mv (.t 53)⟩,
  ⟨(some 6), none, .mv (.c (.int .i64 0))⟩]
abbrev x93r14 : List XOper := [
  ⟨(some 54), none, .mv (.t 1)⟩,
  ⟨(some 12), none, .mv (.t 54)⟩]
abbrev x93r15 : List XOper := [
  ⟨(some 55), none, .mv (.t 12)⟩,
  ⟨(some 56), none, .mv (.t 0)⟩,
  ⟨(some 57), none, .lenS (.t 56)⟩,
  ⟨(some 58), none, .bin .lss (.t 55) (.t 57)⟩,
  ⟨(some 59), none, .mv (.t 58)⟩,
  ⟨(some 60), (some (59, true)), .mv (.t 0)⟩,
  ⟨(some 61), (some (59, true)), .mv (.t 12)⟩,
  ⟨(some 62), (some (59, true)), .ixS (.t 60) (.t 61)⟩,
  ⟨(some 63), (some (59, true)), .call (.c (.fn (.func 118) [] [])) [(.t 62)]⟩,
  ⟨(some 64), none, .pick (.t 59) (.t 63) (.c (.bool false))⟩]
abbrev x93r16 : List XOper := [
  ⟨(some 65), none, .mv (.t 12)⟩,
  ⟨(some 66), none, .bin .add (.t 65) (.c (.int .i64 1))⟩,
  ⟨(some 12), none, .mv (.t 66)⟩]
abbrev x93l15 : XCode :=
  (.seq (.seq (.reg 15 x93r15 none)
  (.cond (.t 64)
    .skip
    (.exit 0)))
  (.block 1
    (.reg 16 x93r16 none)))
abbrev x93r17 : List XOper := [
  ⟨(some 67), none, .mv (.t 12)⟩,
  ⟨(some 68), none, .mv (.t 1)⟩,
  ⟨(some 69), none, .bin .eql (.t 67) (.t 68)⟩]
abbrev x93r18 : List XOper := [
  ⟨(some 70), none, .build [(.int .i64 0), (.str ⟨#[]⟩), (.int .i64 0), (.int .i64 0)] []⟩,
  ⟨none, none, .store 4 (.t 4) (.t 70)⟩,
  ⟨(some 5), none, .mv (.c (.int .i64 0))⟩,
  ⟨(some 6), none, .mv (.c (.int .i64 7))⟩]
abbrev x93r19 : List XOper := [
  ⟨(some 71), none, .mv (.t 12)⟩,
  ⟨(some 72), none, .mv (.t 1)⟩,
  ⟨(some 73), none, .bin .add (.t 72) (.c (.int .i64 12))⟩,
  ⟨(some 74), none, .bin .gtr (.t 71) (.t 73)⟩]
abbrev x93r20 : List XOper := [
  ⟨(some 75), none, .build [(.int .i64 0), (.str ⟨#[]⟩), (.int .i64 0), (.int .i64 0)] []⟩,
  ⟨none, none, .store 4 (.t 4) (.t 75)⟩,
  ⟨(some 5), none, .mv (.c (.int .i64 0))⟩,
  ⟨(some 6), none, .mv (.c (.int .i64 2))⟩]
abbrev x93r21 : List XOper := [
  ⟨(some 76), none, .mv (.t 0)⟩,
  ⟨(some 77), none, .mv (.t 1)⟩,
  ⟨(some 78), none, .mv (.t 12)⟩,
  ⟨(some 79), none, .slS (.t 76) (some (.t 77)) (some (.t 78))⟩,
  ⟨(some 80), none, .mv (.t 1)⟩,
  ⟨(some 81), none, .build [(.int .i64 0), (.str ⟨#[]⟩), (.int .i64 0), (.int .i64 0)] [(0, 1, (.c (.int .i64 1))), (1, 1, (.t 79)), (3, 1, (.t 80))]⟩,
  ⟨(some 82), none, .mv (.t 12)⟩,
  ⟨(some 83), none, .mv (.t 1)⟩,
  ⟨(some 84), none, .bin .sub (.t 82) (.t 83)⟩,
  ⟨none, none, .store 4 (.t 4) (.t 81)⟩,
  ⟨(some 5), none, .mv (.t 84)⟩,
  ⟨(some 6), none, .mv (.c (.int .i64 0))⟩]
/-- datum/datumref07.one -/
abbrev x93b : XCode :=
  (.seq (.reg 0 x93r0 none)
  (.seq (.reg 1 x93r1 none)
  (.seq (.seq (.reg 2 x93r2 none)
  (.cond (.t 25)
    (.seq (.reg 3 x93r3 none)
    (.seq (.seq (.reg 4 x93r4 none)
    (.cond (.t 27)
      (.reg 5 x93r5 none)
      .skip))
    (.seq (.seq (.reg 6 x93r6 none)
    (.cond (.t 29)
      (.reg 7 x93r7 none)
      .skip))
    (.seq (.reg 8 x93r8 none)
    .ret))))
    .skip))
  (.seq (.seq (.reg 9 x93r9 none)
  (.cond (.t 38)
    (.seq (.reg 10 x93r10 none)
    (.seq (.seq (.reg 11 x93r11 none)
    (.cond (.t 47)
      (.seq (.reg 12 x93r12 none)
      .ret)
      .skip))
    (.seq (.reg 13 x93r13 none)
    .ret)))
    .skip))
  (.seq (.reg 14 x93r14 none)
  (.seq (.block 0
    (.loop x93l15))
  (.seq (.seq (.reg 17 x93r17 none)
  (.cond (.t 69)
    (.seq (.reg 18 x93r18 none)
    .ret)
    .skip))
  (.seq (.seq (.reg 19 x93r19 none)
  (.cond (.t 74)
    (.seq (.reg 20 x93r20 none)
    .ret)
    .skip))
  (.seq (.reg 21 x93r21 none)
  .ret)))))))))
def x93 : XFunc := ⟨85, 2, [.cell 4 true 4, .tmp 5, .tmp 6], x93b⟩
theorem x93_ok : chkF Tryz.prog Tryz.f93 x93 = true := by kernel_rfl
theorem x93_eq : x93.body = x93b ∧ x93.res = [.cell 4 true 4, .tmp 5, .tmp 6] ∧ x93.np = 2 := ⟨rfl, rfl, rfl⟩

abbrev x97r0 : List XOper := [
  ⟨(some 10), none, .mv (.c .nils)⟩,
  ⟨(some 11), none, .mv (.c (.str ⟨#[]⟩))⟩]
abbrev x97r1 : List XOper := [
  ⟨(some 19), none, .mv (.t 2)⟩,
  ⟨(some 20), none, .bin .lss (.t 19) (.c (.int .i64 2))⟩,
  ⟨(some 21), none, .mv (.t 20)⟩,
  ⟨(some 22), (some (21, false)), .mv (.t 2)⟩,
  ⟨(some 23), (some (21, false)), .bin .eql (.t 22) (.c (.int .i64 10))⟩,
  ⟨(some 24), none, .pick (.t 21) (.c (.bool true)) (.t 23)⟩,
  ⟨(some 25), none, .mv (.t 24)⟩,
  ⟨(some 26), (some (25, false)), .mv (.t 2)⟩,
  ⟨(some 27), (some (25, false)), .bin .gtr (.t 26) (.c (.int .i64 36))⟩,
  ⟨(some 28), none, .pick (.t 25) (.c (.bool true)) (.t 27)⟩]
abbrev x97r2 : List XOper := [
  ⟨(some 29), none, .mki 9 (.c (.str ⟨#[115, 116, 114, 99, 111, 110, 118, 58, 32, 105, 108, 108, 101, 103, 97, 108, 32, 65, 112, 112, 101, 110, 100, 73, 110, 116, 47, 70, 111, 114, 109, 97, 116, 73, 110, 116, 32, 98, 97, 115, 101]⟩))⟩,
  ⟨none, none, .bad⟩]
abbrev x97r3 : List XOper := [
  ⟨(some 12), none, .alloc [(.int .u8 0), (.int .u8 0), (.int .u8 0), (.int .u8 0), (.int .u8 0), (.int .u8 0), (.int .u8 0), (.int .u8 0), (.int .u8 0), (.int .u8 0), (.int .u8 0), (.int .u8 0), (.int .u8 0), (.int .u8 0), (.int .u8 0), (.int .u8 0), (.int .u8 0), (.int .u8 0), (.int .u8 0), (.int .u8 0), (.int .u8 0), (.int .u8 0), (.int .u8 0), (.int .u8 0), (.int .u8 0), (.int .u8 0), (.int .u8 0), (.int .u8 0), (.int .u8 0), (.int .u8 0), (.int .u8 0), (.int .u8 0), (.int .u8 0), (.int .u8 0), (.int .u8 0), (.int .u8 0), (.int .u8 0), (.int .u8 0), (.int .u8 0), (.int .u8 0), (.int .u8 0), (.int .u8 0), (.int .u8 0), (.int .u8 0), (.int .u8 0), (.int .u8 0), (.int .u8 0), (.int .u8 0), (.int .u8 0), (.int .u8 0), (.int .u8 0), (.int .u8 0), (.int .u8 0), (.int .u8 0), (.int .u8 0), (.int .u8 0), (.int .u8 0), (.int .u8 0), (.int .u8 0), (.int .u8 0), (.int .u8 0), (.int .u8 0), (.int .u8 0), (.int .u8 0), (.int .u8 0)]⟩]
abbrev x97r4 : List XOper := [
  ⟨(some 13), none, .mv (.c (.int .i64 65))⟩]
abbrev x97r5 : List XOper := [
  ⟨(some 30), none, .mv (.t 3)⟩]
abbrev x97r6 : List XOper := [
  ⟨(some 31), none, .mv (.t 1)⟩,
  ⟨(some 32), none, .un .neg (.t 31)⟩,
  ⟨(some 1), none, .mv (.t 32)⟩]
abbrev x97r7 : List XOper := [
  ⟨(some 33), none, .mv (.t 2)⟩,
  ⟨(some 34), none, .call (.c (.fn (.func 122) [] [])) [(.t 33)]⟩]
abbrev x97r8 : List XOper := [
  ⟨(some 35), none, .mv (.t 2)⟩,
  ⟨(some 36), none, .conv .u64 (.t 35)⟩,
  ⟨(some 37), none, .call (.c (.fn (.func 123) [] [])) [(.t 36)]⟩,
  ⟨(some 38), none, .conv .u64 (.t 37)⟩,
  ⟨(some 14), none, .mv (.t 38)⟩]
abbrev x97r9 : List XOper := [
  ⟨(some 39), none, .mv (.t 2)⟩,
  ⟨(some 40), none, .conv .u64 (.t 39)⟩,
  ⟨(some 15), none, .mv (.t 40)⟩]
abbrev x97r10 : List XOper := [
  ⟨(some 41), none, .mv (.t 2)⟩,
  ⟨(some 42), none, .conv .u64 (.t 41)⟩,
  ⟨(some 43), none, .bin .sub (.t 42) (.c (.int .u64 1))⟩,
  ⟨(some 16), none, .mv (.t 43)⟩]
abbrev x97r11 : List XOper := [
  ⟨(some 44), none, .mv (.t 1)⟩,
  ⟨(some 45), none, .mv (.t 15)⟩,
  ⟨(some 46), none, .bin .geq (.t 44) (.t 45)⟩]
abbrev x97r12 : List XOper := [
  ⟨(some 47), none, .mv (.t 13)⟩,
  ⟨(some 48), none, .bin .sub (.t 47) (.c (.int .i64 1))⟩,
  ⟨(some 13), none, .mv (.t 48)⟩]
abbrev x97r13 : List XOper := [
  ⟨(some 49), none, .mv (.t 13)⟩,
  ⟨(some 50), none, .mv (.t 1)⟩,
  ⟨(some 51), none, .mv (.t 16)⟩,
  ⟨(some 52), none, .bin .and (.t 50) (.t 51)⟩,
  ⟨(some 53), none, .ixS (.c (.str ⟨#[48, 49, 50, 51, 52, 53, 54, 55, 56, 57, 97, 98, 99, 100, 101, 102, 103, 104, 105, 106, 107, 108, 109, 110, 111, 112, 113, 114, 115, 116, 117, 118, 119, 120, 121, 122]⟩)) (.t 52)⟩,
  ⟨(some 54), none, .iaA 65 1 (.t 12) (.t 49)⟩,
  ⟨none, none, .store 1 (.t 54) (.t 53)⟩]
abbrev x97r14 : List XOper := [
  ⟨(some 55), none, .mv (.t 1)⟩,
  ⟨(some 56), none, .mv (.t 14)⟩,
  ⟨(some 57), none, .bin .shr (.t 55) (.t 56)⟩,
  ⟨(some 1), none, .mv (.t 57)⟩]
abbrev x97l11 : XCode :=
  (.seq (.seq (.reg 11 x97r11 none)
  (.cond (.t 46)
    .skip
    (.exit 0)))
  (.block 1
    (.seq (.reg 12 x97r12 none)
    (.seq (.reg 13 x97r13 none)
    (.reg 14 x97r14 none)))))
abbrev x97r15 : List XOper := [
  ⟨(some 58), none, .mv (.t 13)⟩,
  ⟨(some 59), none, .bin .sub (.t 58) (.c (.int .i64 1))⟩,
  ⟨(some 13), none, .mv (.t 59)⟩]
abbrev x97r16 : List XOper := [
  ⟨(some 60), none, .mv (.t 13)⟩,
  ⟨(some 61), none, .mv (.t 1)⟩,
  ⟨(some 62), none, .ixS (.c (.str ⟨#[48, 49, 50, 51, 52, 53, 54, 55, 56, 57, 97, 98, 99, 100, 101, 102, 103, 104, 105, 106, 107, 108, 109, 110, 111, 112, 113, 114, 115, 116, 117, 118, 119, 120, 121, 122]⟩)) (.t 61)⟩,
  ⟨(some 63), none, .iaA 65 1 (.t 12) (.t 60)⟩,
  ⟨none, none, .store 1 (.t 63) (.t 62)⟩]
abbrev x97r17 : List XOper := [
  ⟨(some 64), none, .mv (.t 2)⟩,
  ⟨(some 65), none, .conv .u64 (.t 64)⟩,
  ⟨(some 17), none, .mv (.t 65)⟩]
abbrev x97r18 : List XOper := [
  ⟨(some 66), none, .mv (.t 1)⟩,
  ⟨(some 67), none, .mv (.t 17)⟩,
  ⟨(some 68), none, .bin .geq (.t 66) (.t 67)⟩]
abbrev x97r19 : List XOper := [
  ⟨(some 69), none, .mv (.t 13)⟩,
  ⟨(some 70), none, .bin .sub (.t 69) (.c (.int .i64 1))⟩,
  ⟨(some 13), none, .mv (.t 70)⟩]
abbrev x97r20 : List XOper := [
  ⟨(some 71), none, .mv (.t 1)⟩,
  ⟨(some 72), none, .mv (.t 17)⟩,
  ⟨(some 73), none, .bin .quo (.t 71) (.t 72)⟩,
  ⟨(some 18), none, .mv (.t 73)⟩]
abbrev x97r21 : List XOper := [
  ⟨(some 74), none, .mv (.t 13)⟩,
  ⟨(some 75), none, .mv (.t 1)⟩,
  ⟨(some 76), none, .mv (.t 18)⟩,
  ⟨(some 77), none, .mv (.t 17)⟩,
  ⟨(some 78), none, .bin .mul (.t 76) (.t 77)⟩,
  ⟨(some 79), none, .bin .sub (.t 75) (.t 78)⟩,
  ⟨(some 80), none, .ixS (.c (.str ⟨#[48, 49, 50, 51, 52, 53, 54, 55, 56, 57, 97, 98, 99, 100, 101, 102, 103, 104, 105, 106, 107, 108, 109, 110, 111, 112, 113, 114, 115, 116, 117, 118, 119, 120, 121, 122]⟩)) (.t 79)⟩,
  ⟨(some 81), none, .iaA 65 1 (.t 12) (.t 74)⟩,
  ⟨none, none, .store 1 (.t 81) (.t 80)⟩]
abbrev x97r22 : List XOper := [
  ⟨(some 82), none, .mv (.t 18)⟩,
  ⟨(some 1), none, .mv (.t 82)⟩]
abbrev x97l19 : XCode :=
  (.seq (.seq (.reg 18 x97r18 none)
  (.cond (.t 68)
    .skip
    (.exit 2)))
  (.block 3
    (.seq (.reg 19 x97r19 none)
    (.seq (.reg 20 x97r20 none)
    (.seq (.reg 21 x97r21 none)
    (.reg 22 x97r22 none))))))
abbrev x97r23 : List XOper := [
  ⟨(some 83), none, .mv (.t 13)⟩,
  ⟨(some 84), none, .bin .sub (.t 83) (.c (.int .i64 1))⟩,
  ⟨(some 13), none, .mv (.t 84)⟩]
abbrev x97r24 : List XOper := [
  ⟨(some 85), none, .mv (.t 13)⟩,
  ⟨(some 86), none, .mv (.t 1)⟩,
  ⟨(some 87), none, .ixS (.c (.str ⟨#[48, 49, 50, 51, 52, 53, 54, 55, 56, 57, 97, 98, 99, 100, 101, 102, 103, 104, 105, 106, 107, 108, 109, 110, 111, 112, 113, 114, 115, 116, 117, 118, 119, 120, 121, 122]⟩)) (.t 86)⟩,
  ⟨(some 88), none, .iaA 65 1 (.t 12) (.t 85)⟩,
  ⟨none, none, .store 1 (.t 88) (.t 87)⟩]
abbrev x97r25 : List XOper := [
  ⟨(some 89), none, .mv (.t 3)⟩]
abbrev x97r26 : List XOper := [
  ⟨(some 90), none, .mv (.t 13)⟩,
  ⟨(some 91), none, .bin .sub (.t 90) (.c (.int .i64 1))⟩,
  ⟨(some 13), none, .mv (.t 91)⟩]
abbrev x97r27 : List XOper := [
  ⟨(some 92), none, .mv (.t 13)⟩,
  ⟨(some 93), none, .iaA 65 1 (.t 12) (.t 92)⟩,
  ⟨none, none, .store 1 (.t 93) (.c (.int .u8 45))⟩]
abbrev x97r28 : List XOper := [
  ⟨(some 94), none, .mv (.t 4)⟩]
abbrev x97r29 : List XOper := [
  ⟨(some 95), none, .mv (.t 0)⟩,
  ⟨(some 96), none, .mv (.t 13)⟩,
  ⟨(some 97), none, .slA 65 1 (.t 12) (some (.t 96)) none⟩,
  ⟨(some 98), none, .app 1 1 (.t 95) (.t 97)⟩,
  ⟨(some 10), none, .mv (.t 98)⟩]
abbrev x97r30 : List XOper := [
  ⟨(some 99), none, .mv (.t 13)⟩,
  ⟨(some 100), none, .slA 65 1 (.t 12) (some (.t 99)) none⟩,
  ⟨(some 101), none, .b2s (.t 100)⟩,
  ⟨(some 11), none, .mv (.t 101)⟩]
/-- internal/strconv.formatBits -/
abbrev x97b : XCode :=
  (.seq (.reg 0 x97r0 none)
  (.seq (.seq (.reg 1 x97r1 none)
  (.cond (.t 28)
    (.reg 2 x97r2 none)
    .skip))
  (.seq (.reg 3 x97r3 none)
  (.seq (.reg 4 x97r4 none)
  (.seq (.seq (.reg 5 x97r5 none)
  (.cond (.t 30)
    (.reg 6 x97r6 none)
    .skip))
  (.seq (.seq (.reg 7 x97r7 none)
  (.cond (.t 34)
    (.seq (.reg 8 x97r8 none)
    (.seq (.reg 9 x97r9 none)
    (.seq (.reg 10 x97r10 none)
    (.seq (.block 0
      (.loop x97l11))
    (.seq (.reg 15 x97r15 none)
    (.reg 16 x97r16 none))))))
    (.seq (.reg 17 x97r17 none)
    (.seq (.block 2
      (.loop x97l19))
    (.seq (.reg 23 x97r23 none)
    (.reg 24 x97r24 none))))))
  (.seq (.seq (.reg 25 x97r25 none)
  (.cond (.t 89)
    (.seq (.reg 26 x97r26 none)
    (.reg 27 x97r27 none))
    .skip))
  (.seq (.seq (.reg 28 x97r28 none)
  (.cond (.t 94)
    (.seq (.reg 29 x97r29 none)
    .ret)
    .skip))
  (.seq (.reg 30 x97r30 none)
  .ret)))))))))
def x97 : XFunc := ⟨102, 5, [.tmp 10, .tmp 11], x97b⟩
theorem x97_ok : chkF Tryz.prog Tryz.f97 x97 = true := by kernel_rfl
theorem x97_eq : x97.body = x97b ∧ x97.res = [.tmp 10, .tmp 11] ∧ x97.np = 5 := ⟨rfl, rfl, rfl⟩

abbrev x98r0 : List XOper := [
  ⟨(some 4), none, .mv (.t 0)⟩,
  ⟨(some 5), none, .mv (.t 0)⟩,
  ⟨(some 6), none, .nilChk (.t 5)⟩,
  ⟨(some 7), none, .fa 0 (.t 6)⟩,
  ⟨(some 8), none, .load false 1 (.t 7)⟩,
  ⟨(some 9), none, .mv (.t 1)⟩,
  ⟨(some 10), none, .conv .i64 (.t 9)⟩,
  ⟨(some 11), none, .bin .add (.t 8) (.t 10)⟩,
  ⟨(some 12), none, .bin .rem (.t 11) (.c (.int .i64 65521))⟩,
  ⟨(some 13), none, .nilChk (.t 4)⟩,
  ⟨(some 14), none, .fa 0 (.t 13)⟩,
  ⟨none, none, .store 1 (.t 14) (.t 12)⟩]
abbrev x98r1 : List XOper := [
  ⟨(some 15), none, .mv (.t 0)⟩,
  ⟨(some 16), none, .mv (.t 0)⟩,
  ⟨(some 17), none, .nilChk (.t 16)⟩,
  ⟨(some 18), none, .fa 1 (.t 17)⟩,
  ⟨(some 19), none, .load false 1 (.t 18)⟩,
  ⟨(some 20), none, .mv (.t 0)⟩,
  ⟨(some 21), none, .nilChk (.t 20)⟩,
  ⟨(some 22), none, .fa 0 (.t 21)⟩,
  ⟨(some 23), none, .load false 1 (.t 22)⟩,
  ⟨(some 24), none, .bin .add (.t 19) (.t 23)⟩,
  ⟨(some 25), none, .bin .rem (.t 24) (.c (.int .i64 65521))⟩,
  ⟨(some 26), none, .nilChk (.t 15)⟩,
  ⟨(some 27), none, .fa 1 (.t 26)⟩,
  ⟨none, none, .store 1 (.t 27) (.t 25)⟩]
/-- (*datum/seal.pair).add -/
abbrev x98b : XCode :=
  (.seq (.reg 0 x98r0 none)
  (.reg 1 x98r1 (some ⟨[]⟩)))
def x98 : XFunc := ⟨28, 2, [], x98b⟩
theorem x98_ok : chkF Tryz.prog Tryz.f98 x98 = true := by kernel_rfl
theorem x98_eq : x98.body = x98b ∧ x98.res = [] ∧ x98.np = 2 := ⟨rfl, rfl, rfl⟩

abbrev x99r0 : List XOper := [
  ⟨(some 2), none, .mv (.c (.int .i64 0))⟩]
abbrev x99r1 : List XOper := [
  ⟨(some 3), none, .mv (.t 0)⟩,
  ⟨(some 4), none, .nilChk (.t 3)⟩,
  ⟨(some 5), none, .fa 1 (.t 4)⟩,
  ⟨(some 6), none, .load false 1 (.t 5)⟩,
  ⟨(some 7), none, .bin .shl (.t 6) (.c (.int .u64 16))⟩,
  ⟨(some 8), none, .mv (.t 0)⟩,
  ⟨(some 9), none, .nilChk (.t 8)⟩,
  ⟨(some 10), none, .fa 0 (.t 9)⟩,
  ⟨(some 11), none, .load false 1 (.t 10)⟩,
  ⟨(some 12), none, .bin .or (.t 7) (.t 11)⟩,
  ⟨(some 2), none, .mv (.t 12)⟩]
/-- (*datum/seal.pair).whole -/
abbrev x99b : XCode :=
  (.seq (.reg 0 x99r0 none)
  (.seq (.reg 1 x99r1 (some ⟨[]⟩))
  .ret))
def x99 : XFunc := ⟨13, 1, [.tmp 2], x99b⟩
theorem x99_ok : chkF Tryz.prog Tryz.f99 x99 = true := by kernel_rfl
theorem x99_eq : x99.body = x99b ∧ x99.res = [.tmp 2] ∧ x99.np = 1 := ⟨rfl, rfl, rfl⟩

abbrev x116r0 : List XOper := [
  ⟨(some 2), none, .mv (.c (.bool false))⟩]
abbrev x116r1 : List XOper := [
  ⟨(some 3), none, .mv (.t 0)⟩,
  ⟨(some 4), none, .bin .geq (.t 3) (.c (.int .u8 48))⟩,
  ⟨(some 5), none, .mv (.t 4)⟩,
  ⟨(some 6), (some (5, true)), .mv (.t 0)⟩,
  ⟨(some 7), (some (5, true)), .bin .leq (.t 6) (.c (.int .u8 57))⟩,
  ⟨(some 8), none, .pick (.t 5) (.t 7) (.c (.bool false))⟩,
  ⟨(some 2), none, .mv (.t 8)⟩]
/-- datum/datumref07.digit -/
abbrev x116b : XCode :=
  (.seq (.reg 0 x116r0 none)
  (.seq (.reg 1 x116r1 none)
  .ret))
def x116 : XFunc := ⟨9, 1, [.tmp 2], x116b⟩
theorem x116_ok : chkF Tryz.prog Tryz.f116 x116 = true := by kernel_rfl
theorem x116_eq : x116.body = x116b ∧ x116.res = [.tmp 2] ∧ x116.np = 1 := ⟨rfl, rfl, rfl⟩

abbrev x117r0 : List XOper := [
  ⟨(some 4), none, .mv (.c (.int .i64 0))⟩,
  ⟨(some 5), none, .mv (.c (.int .i64 0))⟩,
  ⟨(some 6), none, .mv (.c (.int .i64 0))⟩]
abbrev x117r1 : List XOper := [
  ⟨(some 11), none, .mv (.t 0)⟩,
  ⟨(some 12), none, .mv (.t 1)⟩,
  ⟨(some 13), none, .ixS (.t 11) (.t 12)⟩,
  ⟨(some 14), none, .bin .eql (.t 13) (.c (.int .u8 45))⟩,
  ⟨(some 7), none, .mv (.t 14)⟩]
abbrev x117r2 : List XOper := [
  ⟨(some 15), none, .mv (.t 1)⟩,
  ⟨(some 8), none, .mv (.t 15)⟩]
abbrev x117r3 : List XOper := [
  ⟨(some 16), none, .mv (.t 7)⟩]
abbrev x117r4 : List XOper := [
  ⟨(some 17), none, .mv (.t 1)⟩,
  ⟨(some 18), none, .bin .add (.t 17) (.c (.int .i64 1))⟩,
  ⟨(some 8), none, .mv (.t 18)⟩]
abbrev x117r5 : List XOper := [
  ⟨(some 19), none, .mv (.t 8)⟩,
  ⟨(some 9), none, .mv (.t 19)⟩]
abbrev x117r6 : List XOper := [
  ⟨(some 10), none, .mv (.c (.int .i64 0))⟩]
abbrev x117r7 : List XOper := [
  ⟨(some 20), none, .mv (.t 9)⟩,
  ⟨(some 21), none, .mv (.t 0)⟩,
  ⟨(some 22), none, .lenS (.t 21)⟩,
  ⟨(some 23), none, .bin .lss (.t 20) (.t 22)⟩,
  ⟨(some 24), none, .mv (.t 23)⟩,
  ⟨(some 25), (some (24, true)), .mv (.t 0)⟩,
  ⟨(some 26), (some (24, true)), .mv (.t 9)⟩,
  ⟨(some 27), (some (24, true)), .ixS (.t 25) (.t 26)⟩,
  ⟨(some 28), (some (24, true)), .call (.c (.fn (.func 116) [] [])) [(.t 27)]⟩,
  ⟨(some 29), none, .pick (.t 24) (.t 28) (.c (.bool false))⟩]
abbrev x117r8 : List XOper := [
  ⟨(some 30), none, .mv (.t 10)⟩,
  ⟨(some 31), none, .bin .mul (.c (.int .i64 10)) (.t 30)⟩,
  ⟨(some 32), none, .mv (.t 0)⟩,
  ⟨(some 33), none, .mv (.t 9)⟩,
  ⟨(some 34), none, .ixS (.t 32) (.t 33)⟩,
  ⟨(some 35), none, .bin .sub (.t 34) (.c (.int .u8 48))⟩,
  ⟨(some 36), none, .conv .i64 (.t 35)⟩,
  ⟨(some 37), none, .bin .add (.t 31) (.t 36)⟩,
  ⟨(some 38), none, .mnx false (.t 37) [(.c (.int .i64 10000000000))]⟩,
  ⟨(some 10), none, .mv (.t 38)⟩]
abbrev x117r9 : List XOper := [
  ⟨(some 39), none, .mv (.t 9)⟩,
  ⟨(some 40), none, .bin .add (.t 39) (.c (.int .i64 1))⟩,
  ⟨(some 9), none, .mv (.t 40)⟩]
abbrev x117l7 : XCode :=
  (.seq (.seq (.reg 7 x117r7 none)
  (.cond (.t 29)
    .skip
    (.exit 0)))
  (.block 1
    (.seq (.reg 8 x117r8 none)
    (.reg 9 x117r9 none))))
abbrev x117r10 : List XOper := [
  ⟨(some 41), none, .mv (.t 9)⟩,
  ⟨(some 42), none, .mv (.t 8)⟩,
  ⟨(some 43), none, .bin .eql (.t 41) (.t 42)⟩]
abbrev x117r11 : List XOper := [
  ⟨(some 4), none, .mv (.c (.int .i64 0))⟩,
  ⟨(some 5), none, .mv (.c (.int .i64 0))⟩,
  ⟨(some 6), none, .mv (.c (.int .i64 7))⟩]
abbrev x117r12 : List XOper := [
  ⟨(some 44), none, .mv (.t 0)⟩,
  ⟨(some 45), none, .mv (.t 8)⟩,
  ⟨(some 46), none, .ixS (.t 44) (.t 45)⟩,
  ⟨(some 47), none, .bin .eql (.t 46) (.c (.int .u8 48))⟩,
  ⟨(some 48), none, .mv (.t 47)⟩,
  ⟨(some 49), (some (48, true)), .mv (.t 9)⟩,
  ⟨(some 50), (some (48, true)), .mv (.t 8)⟩,
  ⟨(some 51), (some (48, true)), .bin .add (.t 50) (.c (.int .i64 1))⟩,
  ⟨(some 52), (some (48, true)), .bin .gtr (.t 49) (.t 51)⟩,
  ⟨(some 53), (some (48, true)), .mv (.t 52)⟩,
  ⟨(some 54), (some (53, false)), .mv (.t 7)⟩,
  ⟨(some 55), (some (48, true)), .pick (.t 53) (.c (.bool true)) (.t 54)⟩,
  ⟨(some 56), none, .pick (.t 48) (.t 55) (.c (.bool false))⟩,
  ⟨(some 57), none, .mv (.t 56)⟩,
  ⟨(some 58), (some (57, false)), .mv (.t 10)⟩,
  ⟨(some 59), (some (57, false)), .bin .gtr (.t 58) (.c (.int .i64 1000000000))⟩,
  ⟨(some 60), none, .pick (.t 57) (.c (.bool true)) (.t 59)⟩]
abbrev x117r13 : List XOper := [
  ⟨(some 4), none, .mv (.c (.int .i64 0))⟩,
  ⟨(some 5), none, .mv (.c (.int .i64 0))⟩,
  ⟨(some 6), none, .mv (.c (.int .i64 3))⟩]
abbrev x117r14 : List XOper := [
  ⟨(some 61), none, .mv (.t 7)⟩]
abbrev x117r15 : List XOper := [
  ⟨(some 62), none, .mv (.t 10)⟩,
  ⟨(some 63), none, .bin .sub (.c (.int .i64 0)) (.t 62)⟩,
  ⟨(some 10), none, .mv (.t 63)⟩]
abbrev x117r16 : List XOper := [
  ⟨(some 64), none, .mv (.t 10)⟩,
  ⟨(some 65), none, .mv (.t 9)⟩,
  ⟨(some 66), none, .mv (.t 1)⟩,
  ⟨(some 67), none, .bin .sub (.t 65) (.t 66)⟩,
  ⟨(some 4), none, .mv (.t 64)⟩,
  ⟨(some 5), none, .mv (.t 67)⟩,
  ⟨(some 6), none, .mv (.c (.int .i64 0))⟩]
/-- datum/datumref07.number -/
abbrev x117b : XCode :=
  (.seq (.reg 0 x117r0 none)
  (.seq (.reg 1 x117r1 none)
  (.seq (.reg 2 x117r2 none)
  (.seq (.seq (.reg 3 x117r3 none)
  (.cond (.t 16)
    (.reg 4 x117r4 none)
    .skip))
  (.seq (.reg 5 x117r5 none)
  (.seq (.reg 6 x117r6 none)
  (.seq (.block 0
    (.loop x117l7))
  (.seq (.seq (.reg 10 x117r10 none)
  (.cond (.t 43)
    (.seq (.reg 11 x117r11 none)
    .ret)
    .skip))
  (.seq (.seq (.reg 12 x117r12 none)
  (.cond (.t 60)
    (.seq (.reg 13 x117r13 none)
    .ret)
    .skip))
  (.seq (.seq (.reg 14 x117r14 none)
  (.cond (.t 61)
    (.reg 15 x117r15 none)
    .skip))
  (.seq (.reg 16 x117r16 none)
  .ret)))))))))))
def x117 : XFunc := ⟨68, 2, [.tmp 4, .tmp 5, .tmp 6], x117b⟩
theorem x117_ok : chkF Tryz.prog Tryz.f117 x117 = true := by kernel_rfl
theorem x117_eq : x117.body = x117b ∧ x117.res = [.tmp 4, .tmp 5, .tmp 6] ∧ x117.np = 2 := ⟨rfl, rfl, rfl⟩

abbrev x118r0 : List XOper := [
  ⟨(some 2), none, .mv (.c (.bool false))⟩]
abbrev x118r1 : List XOper := [
  ⟨(some 3), none, .mv (.t 0)⟩,
  ⟨(some 4), none, .bin .geq (.t 3) (.c (.int .u8 97))⟩,
  ⟨(some 5), none, .mv (.t 4)⟩,
  ⟨(some 6), (some (5, true)), .mv (.t 0)⟩,
  ⟨(some 7), (some (5, true)), .bin .leq (.t 6) (.c (.int .u8 122))⟩,
  ⟨(some 8), none, .pick (.t 5) (.t 7) (.c (.bool false))⟩,
  ⟨(some 2), none, .mv (.t 8)⟩]
/-- datum/datumref07.letter -/
abbrev x118b : XCode :=
  (.seq (.reg 0 x118r0 none)
  (.seq (.reg 1 x118r1 none)
  .ret))
def x118 : XFunc := ⟨9, 1, [.tmp 2], x118b⟩
theorem x118_ok : chkF Tryz.prog Tryz.f118 x118 = true := by kernel_rfl
theorem x118_eq : x118.body = x118b ∧ x118.res = [.tmp 2] ∧ x118.np = 1 := ⟨rfl, rfl, rfl⟩

abbrev x122r0 : List XOper := [
  ⟨(some 2), none, .mv (.c (.bool false))⟩]
abbrev x122r1 : List XOper := [
  ⟨(some 3), none, .mv (.t 0)⟩,
  ⟨(some 4), none, .mv (.t 0)⟩,
  ⟨(some 5), none, .bin .sub (.t 4) (.c (.int .i64 1))⟩,
  ⟨(some 6), none, .bin .and (.t 3) (.t 5)⟩,
  ⟨(some 7), none, .bin .eql (.t 6) (.c (.int .i64 0))⟩,
  ⟨(some 2), none, .mv (.t 7)⟩]
/-- internal/strconv.isPowerOfTwo -/
abbrev x122b : XCode :=
  (.seq (.reg 0 x122r0 none)
  (.seq (.reg 1 x122r1 none)
  .ret))
def x122 : XFunc := ⟨8, 1, [.tmp 2], x122b⟩
theorem x122_ok : chkF Tryz.prog Tryz.f122 x122 = true := by kernel_rfl
theorem x122_eq : x122.body = x122b ∧ x122.res = [.tmp 2] ∧ x122.np = 1 := ⟨rfl, rfl, rfl⟩

abbrev x123r0 : List XOper := [
  ⟨(some 2), none, .mv (.c (.int .i64 0))⟩]
abbrev x123r1 : List XOper := [
  ⟨(some 3), none, .mv (.t 0)⟩,
  ⟨(some 4), none, .conv .u32 (.t 3)⟩,
  ⟨(some 5), none, .call (.c (.fn (.func 131) [] [])) [(.t 4)]⟩,
  ⟨(some 2), none, .mv (.t 5)⟩]
abbrev x123r2 : List XOper := [
  ⟨(some 6), none, .mv (.t 0)⟩,
  ⟨(some 7), none, .call (.c (.fn (.func 132) [] [])) [(.t 6)]⟩,
  ⟨(some 2), none, .mv (.t 7)⟩]
/-- math/bits.TrailingZeros -/
abbrev x123b : XCode :=
  (.seq (.reg 0 x123r0 none)
  (.seq (.cond (.c (.bool false))
    (.seq (.reg 1 x123r1 none)
    .ret)
    .skip)
  (.seq (.reg 2 x123r2 none)
  .ret)))
def x123 : XFunc := ⟨8, 1, [.tmp 2], x123b⟩
theorem x123_ok : chkF Tryz.prog Tryz.f123 x123 = true := by kernel_rfl
theorem x123_eq : x123.body = x123b ∧ x123.res = [.tmp 2] ∧ x123.np = 1 := ⟨rfl, rfl, rfl⟩


def xf : FuncId → Option XFunc
  | 3 => some x3
  | 4 => some x4
  | 5 => some x5
  | 6 => some x6
  | 7 => some x7
  | 8 => some x8
  | 9 => some x9
  | 10 => some x10
  | 11 => some x11
  | 12 => some x12
  | 13 => some x13
  | 14 => some x14
  | 15 => some x15
  | 16 => some x16
  | 18 => some x18
  | 19 => some x19
  | 20 => some x20
  | 21 => some x21
  | 22 => some x22
  | 23 => some x23
  | 24 => some x24
  | 25 => some x25
  | 27 => some x27
  | 29 => some x29
  | 33 => some x33
  | 34 => some x34
  | 35 => some x35
  | 36 => some x36
  | 37 => some x37
  | 38 => some x38
  | 39 => some x39
  | 40 => some x40
  | 41 => some x41
  | 47 => some x47
  | 49 => some x49
  | 50 => some x50
  | 51 => some x51
  | 52 => some x52
  | 53 => some x53
  | 55 => some x55
  | 56 => some x56
  | 68 => some x68
  | 69 => some x69
  | 70 => some x70
  | 71 => some x71
  | 72 => some x72
  | 73 => some x73
  | 92 => some x92
  | 93 => some x93
  | 97 => some x97
  | 98 => some x98
  | 99 => some x99
  | 116 => some x116
  | 117 => some x117
  | 118 => some x118
  | 122 => some x122
  | 123 => some x123
  | _ => none
def C0 : Cfg := ⟨fun _ => none, xf, fun _ => none⟩
theorem ok0 : CfgOk Tryz.prog C0 := by
  refine ⟨(fun g F h => by cases h), (fun g x h => ?_), by kernel_rfl, (fun g F h => by cases h)⟩
  simp only [C0, xf] at h
  split at h
  · cases h; exact ⟨Tryz.f3, Tryz.func3, x3_ok⟩
  · cases h; exact ⟨Tryz.f4, Tryz.func4, x4_ok⟩
  · cases h; exact ⟨Tryz.f5, Tryz.func5, x5_ok⟩
  · cases h; exact ⟨Tryz.f6, Tryz.func6, x6_ok⟩
  · cases h; exact ⟨Tryz.f7, Tryz.func7, x7_ok⟩
  · cases h; exact ⟨Tryz.f8, Tryz.func8, x8_ok⟩
  · cases h; exact ⟨Tryz.f9, Tryz.func9, x9_ok⟩
  · cases h; exact ⟨Tryz.f10, Tryz.func10, x10_ok⟩
  · cases h; exact ⟨Tryz.f11, Tryz.func11, x11_ok⟩
  · cases h; exact ⟨Tryz.f12, Tryz.func12, x12_ok⟩
  · cases h; exact ⟨Tryz.f13, Tryz.func13, x13_ok⟩
  · cases h; exact ⟨Tryz.f14, Tryz.func14, x14_ok⟩
  · cases h; exact ⟨Tryz.f15, Tryz.func15, x15_ok⟩
  · cases h; exact ⟨Tryz.f16, Tryz.func16, x16_ok⟩
  · cases h; exact ⟨Tryz.f18, Tryz.func18, x18_ok⟩
  · cases h; exact ⟨Tryz.f19, Tryz.func19, x19_ok⟩
  · cases h; exact ⟨Tryz.f20, Tryz.func20, x20_ok⟩
  · cases h; exact ⟨Tryz.f21, Tryz.func21, x21_ok⟩
  · cases h; exact ⟨Tryz.f22, Tryz.func22, x22_ok⟩
  · cases h; exact ⟨Tryz.f23, Tryz.func23, x23_ok⟩
  · cases h; exact ⟨Tryz.f24, Tryz.func24, x24_ok⟩
  · cases h; exact ⟨Tryz.f25, Tryz.func25, x25_ok⟩
  · cases h; exact ⟨Tryz.f27, Tryz.func27, x27_ok⟩
  · cases h; exact ⟨Tryz.f29, Tryz.func29, x29_ok⟩
  · cases h; exact ⟨Tryz.f33, Tryz.func33, x33_ok⟩
  · cases h; exact ⟨Tryz.f34, Tryz.func34, x34_ok⟩
  · cases h; exact ⟨Tryz.f35, Tryz.func35, x35_ok⟩
  · cases h; exact ⟨Tryz.f36, Tryz.func36, x36_ok⟩
  · cases h; exact ⟨Tryz.f37, Tryz.func37, x37_ok⟩
  · cases h; exact ⟨Tryz.f38, Tryz.func38, x38_ok⟩
  · cases h; exact ⟨Tryz.f39, Tryz.func39, x39_ok⟩
  · cases h; exact ⟨Tryz.f40, Tryz.func40, x40_ok⟩
  · cases h; exact ⟨Tryz.f41, Tryz.func41, x41_ok⟩
  · cases h; exact ⟨Tryz.f47, Tryz.func47, x47_ok⟩
  · cases h; exact ⟨Tryz.f49, Tryz.func49, x49_ok⟩
  · cases h; exact ⟨Tryz.f50, Tryz.func50, x50_ok⟩
  · cases h; exact ⟨Tryz.f51, Tryz.func51, x51_ok⟩
  · cases h; exact ⟨Tryz.f52, Tryz.func52, x52_ok⟩
  · cases h; exact ⟨Tryz.f53, Tryz.func53, x53_ok⟩
  · cases h; exact ⟨Tryz.f55, Tryz.func55, x55_ok⟩
  · cases h; exact ⟨Tryz.f56, Tryz.func56, x56_ok⟩
  · cases h; exact ⟨Tryz.f68, Tryz.func68, x68_ok⟩
  · cases h; exact ⟨Tryz.f69, Tryz.func69, x69_ok⟩
  · cases h; exact ⟨Tryz.f70, Tryz.func70, x70_ok⟩
  · cases h; exact ⟨Tryz.f71, Tryz.func71, x71_ok⟩
  · cases h; exact ⟨Tryz.f72, Tryz.func72, x72_ok⟩
  · cases h; exact ⟨Tryz.f73, Tryz.func73, x73_ok⟩
  · cases h; exact ⟨Tryz.f92, Tryz.func92, x92_ok⟩
  · cases h; exact ⟨Tryz.f93, Tryz.func93, x93_ok⟩
  · cases h; exact ⟨Tryz.f97, Tryz.func97, x97_ok⟩
  · cases h; exact ⟨Tryz.f98, Tryz.func98, x98_ok⟩
  · cases h; exact ⟨Tryz.f99, Tryz.func99, x99_ok⟩
  · cases h; exact ⟨Tryz.f116, Tryz.func116, x116_ok⟩
  · cases h; exact ⟨Tryz.f117, Tryz.func117, x117_ok⟩
  · cases h; exact ⟨Tryz.f118, Tryz.func118, x118_ok⟩
  · cases h; exact ⟨Tryz.f122, Tryz.func122, x122_ok⟩
  · cases h; exact ⟨Tryz.f123, Tryz.func123, x123_ok⟩
  · cases h
end Go.Proofs.YtaoodcnhmjokoaaGreatDoor
