/-
  The functions that the statements reach, as the interpreter's texts, each checked against the translation.
-/
import Derived.Test.YtfndobdfdhkepaaDoorXZ
import Derived.Test.YtfndobdfdhkepaaDoorRows
set_option linter.unusedVariables false
namespace Go.Proofs.YtfndobdfdhkepaaDoor
open Go Go.Xec

abbrev x3r0 : List XOper := [
  ⟨(some 1), none, .box (.t 0)⟩,
  ⟨(some 2), none, .mv (.c (.bool false))⟩]
abbrev x3r1 : List XOper := [
  ⟨(some 4), none, .load true 2 (.t 1)⟩,
  ⟨(some 5), none, .call (.c (.fn (.func 4) [] [])) [(.t 4)]⟩,
  ⟨(some 3), none, .mv (.t 5)⟩]
abbrev x3r2 : List XOper := [
  ⟨(some 6), none, .call (.c (.fn (.func 5) [] [])) []⟩,
  ⟨(some 7), none, .mv (.t 6)⟩,
  ⟨(some 8), (some (7, true)), .mv (.t 3)⟩,
  ⟨(some 9), (some (7, true)), .load true 2 (.t 1)⟩,
  ⟨(some 10), (some (7, true)), .call (.c (.fn (.func 6) [] [])) [(.t 9)]⟩,
  ⟨(some 11), (some (7, true)), .bin .eql (.t 8) (.t 10)⟩,
  ⟨(some 12), none, .pick (.t 7) (.t 11) (.c (.bool false))⟩,
  ⟨(some 13), none, .mv (.t 12)⟩,
  ⟨(some 14), (some (13, true)), .mv (.t 3)⟩,
  ⟨(some 15), (some (13, true)), .lenS (.t 14)⟩,
  ⟨(some 16), (some (13, true)), .bin .geq (.t 15) (.c (.int .i64 1))⟩,
  ⟨(some 17), none, .pick (.t 13) (.t 16) (.c (.bool false))⟩,
  ⟨(some 18), none, .mv (.t 17)⟩,
  ⟨(some 19), (some (18, true)), .mv (.t 3)⟩,
  ⟨(some 20), (some (18, true)), .lenS (.t 19)⟩,
  ⟨(some 21), (some (18, true)), .bin .leq (.t 20) (.c (.int .i64 39))⟩,
  ⟨(some 22), none, .pick (.t 18) (.t 21) (.c (.bool false))⟩,
  ⟨(some 2), none, .mv (.t 22)⟩]
/-- datum/datumlaw01.WideTells -/
abbrev x3b : XCode :=
  (.seq (.reg 0 x3r0 none)
  (.seq (.reg 1 x3r1 none)
  (.seq (.reg 2 x3r2 none)
  .ret)))
def x3 : XFunc := ⟨23, 1, [.tmp 2], x3b⟩
theorem x3_ok : chkF Tryd.prog Tryd.f3 x3 = true := by kernel_rfl
theorem x3_eq : x3.body = x3b ∧ x3.res = [.tmp 2] ∧ x3.np = 1 := ⟨rfl, rfl, rfl⟩

abbrev x4r0 : List XOper := [
  ⟨(some 1), none, .box (.t 0)⟩,
  ⟨(some 2), none, .mv (.c (.str ⟨#[]⟩))⟩]
abbrev x4r1 : List XOper := [
  ⟨(some 8), none, .fa 0 (.t 1)⟩,
  ⟨(some 9), none, .load false 1 (.t 8)⟩,
  ⟨(some 10), none, .bin .eql (.t 9) (.c (.int .u64 0))⟩]
abbrev x4r2 : List XOper := [
  ⟨(some 11), none, .fa 1 (.t 1)⟩,
  ⟨(some 12), none, .load false 1 (.t 11)⟩,
  ⟨(some 13), none, .call (.c (.fn (.func 7) [] [])) [(.t 12), (.c (.int .i64 10))]⟩,
  ⟨(some 2), none, .mv (.t 13)⟩]
abbrev x4r3 : List XOper := [
  ⟨(some 15), none, .fa 0 (.t 1)⟩,
  ⟨(some 16), none, .load false 1 (.t 15)⟩,
  ⟨(some 17), none, .call (.c (.fn (.func 8) [] [])) [(.c (.int .u64 0)), (.t 16), (.c (.int .u64 1000000000000000000))]⟩,
  ⟨(some 14), none, .mv (.t 17)⟩,
  ⟨(some 18), none, .ext (.t 14) 0⟩,
  ⟨(some 19), none, .ext (.t 14) 1⟩,
  ⟨(some 3), none, .mv (.t 18)⟩,
  ⟨(some 4), none, .mv (.t 19)⟩]
abbrev x4r4 : List XOper := [
  ⟨(some 21), none, .mv (.t 4)⟩,
  ⟨(some 22), none, .fa 1 (.t 1)⟩,
  ⟨(some 23), none, .load false 1 (.t 22)⟩,
  ⟨(some 24), none, .call (.c (.fn (.func 8) [] [])) [(.t 21), (.t 23), (.c (.int .u64 1000000000000000000))]⟩,
  ⟨(some 20), none, .mv (.t 24)⟩,
  ⟨(some 25), none, .ext (.t 20) 0⟩,
  ⟨(some 26), none, .ext (.t 20) 1⟩,
  ⟨(some 5), none, .mv (.t 25)⟩,
  ⟨(some 6), none, .mv (.t 26)⟩]
abbrev x4r5 : List XOper := [
  ⟨(some 27), none, .mv (.t 6)⟩,
  ⟨(some 28), none, .call (.c (.fn (.func 7) [] [])) [(.t 27), (.c (.int .i64 10))]⟩,
  ⟨(some 7), none, .mv (.t 28)⟩]
abbrev x4r6 : List XOper := [
  ⟨(some 29), none, .mv (.t 3)⟩,
  ⟨(some 30), none, .mv (.t 5)⟩,
  ⟨(some 31), none, .build [(.int .u64 0), (.int .u64 0)] [(0, 1, (.t 29)), (1, 1, (.t 30))]⟩,
  ⟨(some 32), none, .call (.c (.fn (.func 4) [] [])) [(.t 31)]⟩,
  ⟨(some 33), none, .mv (.t 7)⟩,
  ⟨(some 34), none, .lenS (.t 33)⟩,
  ⟨(some 35), none, .bin .sub (.c (.int .i64 18)) (.t 34)⟩,
  ⟨(some 36), none, .call (.c (.fn (.func 9) [] [])) [(.c (.str ⟨#[48]⟩)), (.t 35)]⟩,
  ⟨(some 37), none, .bin .add (.t 32) (.t 36)⟩,
  ⟨(some 38), none, .mv (.t 7)⟩,
  ⟨(some 39), none, .bin .add (.t 37) (.t 38)⟩,
  ⟨(some 2), none, .mv (.t 39)⟩]
/-- datum/wide.Text -/
abbrev x4b : XCode :=
  (.seq (.reg 0 x4r0 none)
  (.seq (.seq (.reg 1 x4r1 none)
  (.cond (.t 10)
    (.seq (.reg 2 x4r2 none)
    .ret)
    .skip))
  (.seq (.reg 3 x4r3 none)
  (.seq (.reg 4 x4r4 none)
  (.seq (.reg 5 x4r5 none)
  (.seq (.reg 6 x4r6 none)
  .ret))))))
def x4 : XFunc := ⟨40, 1, [.tmp 2], x4b⟩
theorem x4_ok : chkF Tryd.prog Tryd.f4 x4 = true := by kernel_rfl
theorem x4_eq : x4.body = x4b ∧ x4.res = [.tmp 2] ∧ x4.np = 1 := ⟨rfl, rfl, rfl⟩

abbrev x5r0 : List XOper := [
  ⟨(some 0), none, .mv (.c (.bool false))⟩]
abbrev x5r1 : List XOper := [
  ⟨(some 4), none, .call (.c (.fn (.func 10) [] [])) [(.c (.int .u64 9223372036854775808)), (.c (.int .u64 4))]⟩,
  ⟨(some 1), none, .alloc [(.int .u64 0), (.int .u64 0)]⟩,
  ⟨none, none, .store 2 (.t 1) (.t 4)⟩]
abbrev x5r2 : List XOper := [
  ⟨(some 6), none, .load true 2 (.t 1)⟩,
  ⟨(some 7), none, .build [(.int .u64 0), (.int .u64 0)] [(1, 1, (.c (.int .u64 3)))]⟩,
  ⟨(some 8), none, .call (.c (.fn (.func 11) [] [])) [(.t 6), (.t 7)]⟩,
  ⟨(some 5), none, .mv (.t 8)⟩,
  ⟨(some 9), none, .ext (.t 5) 0⟩,
  ⟨(some 10), none, .ext (.t 5) 1⟩,
  ⟨(some 2), none, .alloc [(.int .u64 0), (.int .u64 0)]⟩,
  ⟨none, none, .store 2 (.t 2) (.t 9)⟩,
  ⟨(some 3), none, .mv (.t 10)⟩]
abbrev x5r3 : List XOper := [
  ⟨(some 11), none, .fa 0 (.t 1)⟩,
  ⟨(some 12), none, .load false 1 (.t 11)⟩,
  ⟨(some 13), none, .bin .eql (.t 12) (.c (.int .u64 2))⟩,
  ⟨(some 14), none, .mv (.t 13)⟩,
  ⟨(some 15), (some (14, true)), .fa 1 (.t 1)⟩,
  ⟨(some 16), (some (14, true)), .load false 1 (.t 15)⟩,
  ⟨(some 17), (some (14, true)), .bin .eql (.t 16) (.c (.int .u64 0))⟩,
  ⟨(some 18), none, .pick (.t 14) (.t 17) (.c (.bool false))⟩,
  ⟨(some 19), none, .mv (.t 18)⟩,
  ⟨(some 20), (some (19, true)), .fa 1 (.t 2)⟩,
  ⟨(some 21), (some (19, true)), .load false 1 (.t 20)⟩,
  ⟨(some 22), (some (19, true)), .bin .eql (.t 21) (.c (.int .u64 3))⟩,
  ⟨(some 23), none, .pick (.t 19) (.t 22) (.c (.bool false))⟩,
  ⟨(some 24), none, .mv (.t 23)⟩,
  ⟨(some 25), (some (24, true)), .mv (.t 3)⟩,
  ⟨(some 26), (some (24, true)), .un .not (.t 25)⟩,
  ⟨(some 27), none, .pick (.t 24) (.t 26) (.c (.bool false))⟩,
  ⟨(some 28), none, .mv (.t 27)⟩,
  ⟨(some 29), (some (28, true)), .load true 2 (.t 1)⟩,
  ⟨(some 30), (some (28, true)), .load true 2 (.t 2)⟩,
  ⟨(some 31), (some (28, true)), .call (.c (.fn (.func 12) [] [])) [(.t 29), (.t 30)]⟩,
  ⟨(some 32), none, .pick (.t 28) (.t 31) (.c (.bool false))⟩,
  ⟨(some 0), none, .mv (.t 32)⟩]
/-- datum/datumlaw01.alive -/
abbrev x5b : XCode :=
  (.seq (.reg 0 x5r0 none)
  (.seq (.reg 1 x5r1 none)
  (.seq (.reg 2 x5r2 none)
  (.seq (.reg 3 x5r3 none)
  .ret))))
def x5 : XFunc := ⟨33, 0, [.tmp 0], x5b⟩
theorem x5_ok : chkF Tryd.prog Tryd.f5 x5 = true := by kernel_rfl
theorem x5_eq : x5.body = x5b ∧ x5.res = [.tmp 0] ∧ x5.np = 0 := ⟨rfl, rfl, rfl⟩

abbrev x6r0 : List XOper := [
  ⟨(some 1), none, .box (.t 0)⟩,
  ⟨(some 2), none, .mv (.c (.str ⟨#[]⟩))⟩]
abbrev x6r1 : List XOper := [
  ⟨(some 9), none, .load true 2 (.t 1)⟩,
  ⟨(some 10), none, .call (.c (.fn (.func 13) [] [])) [(.t 9)]⟩,
  ⟨(some 3), none, .mv (.t 10)⟩]
abbrev x6r2 : List XOper := [
  ⟨(some 4), none, .mv (.c (.str ⟨#[]⟩))⟩]
abbrev x6r3 : List XOper := [
  ⟨(some 5), none, .mv (.c (.int .u64 0))⟩]
abbrev x6r4 : List XOper := [
  ⟨(some 6), none, .mv (.c (.bool false))⟩]
abbrev x6r5 : List XOper := [
  ⟨(some 7), none, .mv (.c (.int .i64 7))⟩]
abbrev x6r6 : List XOper := [
  ⟨(some 11), none, .mv (.t 7)⟩,
  ⟨(some 12), none, .bin .geq (.t 11) (.c (.int .i64 0))⟩]
abbrev x6r8 : List XOper := [
  ⟨(some 15), none, .mv (.t 5)⟩,
  ⟨(some 16), none, .bin .mul (.t 15) (.c (.int .u64 65536))⟩,
  ⟨(some 17), none, .mv (.t 3)⟩,
  ⟨(some 18), none, .mv (.t 7)⟩,
  ⟨(some 19), none, .iaS 1 (.t 17) (.t 18)⟩,
  ⟨(some 20), none, .load false 1 (.t 19)⟩,
  ⟨(some 21), none, .bin .add (.t 16) (.t 20)⟩,
  ⟨(some 8), none, .mv (.t 21)⟩]
abbrev x6r9 : List XOper := [
  ⟨(some 22), none, .mv (.t 3)⟩,
  ⟨(some 23), none, .mv (.t 7)⟩,
  ⟨(some 24), none, .mv (.t 8)⟩,
  ⟨(some 25), none, .bin .quo (.t 24) (.c (.int .u64 10))⟩,
  ⟨(some 26), none, .iaS 1 (.t 22) (.t 23)⟩,
  ⟨none, none, .store 1 (.t 26) (.t 25)⟩]
abbrev x6r10 : List XOper := [
  ⟨(some 27), none, .mv (.t 8)⟩,
  ⟨(some 28), none, .bin .rem (.t 27) (.c (.int .u64 10))⟩,
  ⟨(some 5), none, .mv (.t 28)⟩]
abbrev x6r11 : List XOper := [
  ⟨(some 29), none, .mv (.t 3)⟩,
  ⟨(some 30), none, .mv (.t 7)⟩,
  ⟨(some 31), none, .iaS 1 (.t 29) (.t 30)⟩,
  ⟨(some 32), none, .load false 1 (.t 31)⟩,
  ⟨(some 33), none, .bin .gtr (.t 32) (.c (.int .u64 0))⟩]
abbrev x6r12 : List XOper := [
  ⟨(some 6), none, .mv (.c (.bool true))⟩]
abbrev x6r7 : List XOper := [
  ⟨(some 13), none, .mv (.t 7)⟩,
  ⟨(some 14), none, .bin .sub (.t 13) (.c (.int .i64 1))⟩,
  ⟨(some 7), none, .mv (.t 14)⟩]
abbrev x6l6 : XCode :=
  (.seq (.seq (.reg 6 x6r6 none)
  (.cond (.t 12)
    .skip
    (.exit 2)))
  (.seq (.block 3
    (.seq (.reg 8 x6r8 none)
    (.seq (.reg 9 x6r9 none)
    (.seq (.reg 10 x6r10 none)
    (.seq (.reg 11 x6r11 none)
    (.cond (.t 33)
      (.reg 12 x6r12 none)
      .skip))))))
  (.reg 7 x6r7 none)))
abbrev x6r13 : List XOper := [
  ⟨(some 34), none, .mv (.t 5)⟩,
  ⟨(some 35), none, .bin .add (.c (.int .u64 48)) (.t 34)⟩,
  ⟨(some 36), none, .conv .u8 (.t 35)⟩,
  ⟨(some 37), none, .mkslice 1 (.int .u8 0) 1 [(0, (.t 36))]⟩,
  ⟨(some 38), none, .b2s (.t 37)⟩,
  ⟨(some 39), none, .mv (.t 4)⟩,
  ⟨(some 40), none, .bin .add (.t 38) (.t 39)⟩,
  ⟨(some 4), none, .mv (.t 40)⟩]
abbrev x6r14 : List XOper := [
  ⟨(some 41), none, .mv (.t 6)⟩,
  ⟨(some 42), none, .un .not (.t 41)⟩]
abbrev x6r15 : List XOper := [
  ⟨(some 43), none, .mv (.t 4)⟩,
  ⟨(some 2), none, .mv (.t 43)⟩]
abbrev x6l3 : XCode :=
  (.block 1
    (.seq (.reg 3 x6r3 none)
    (.seq (.reg 4 x6r4 none)
    (.seq (.seq (.reg 5 x6r5 none)
    (.block 2
      (.loop x6l6)))
    (.seq (.reg 13 x6r13 none)
    (.seq (.reg 14 x6r14 none)
    (.cond (.t 42)
      (.seq (.reg 15 x6r15 none)
      .ret)
      .skip)))))))
/-- datum/datumref01.Text -/
abbrev x6b : XCode :=
  (.seq (.reg 0 x6r0 none)
  (.seq (.reg 1 x6r1 none)
  (.seq (.reg 2 x6r2 none)
  (.block 0
    (.loop x6l3)))))
def x6 : XFunc := ⟨44, 1, [.tmp 2], x6b⟩
theorem x6_ok : chkF Tryd.prog Tryd.f6 x6 = true := by kernel_rfl
theorem x6_eq : x6.body = x6b ∧ x6.res = [.tmp 2] ∧ x6.np = 1 := ⟨rfl, rfl, rfl⟩

abbrev x7r0 : List XOper := [
  ⟨(some 4), none, .mv (.c (.str ⟨#[]⟩))⟩]
abbrev x7r1 : List XOper := [
  ⟨(some 5), none, .mv (.t 0)⟩,
  ⟨(some 6), none, .mv (.t 1)⟩,
  ⟨(some 7), none, .call (.c (.fn (.func 14) [] [])) [(.t 5), (.t 6)]⟩,
  ⟨(some 4), none, .mv (.t 7)⟩]
/-- strconv.FormatUint -/
abbrev x7b : XCode :=
  (.seq (.reg 0 x7r0 none)
  (.seq (.reg 1 x7r1 none)
  .ret))
def x7 : XFunc := ⟨8, 2, [.tmp 4], x7b⟩
theorem x7_ok : chkF Tryd.prog Tryd.f7 x7 = true := by kernel_rfl
theorem x7_eq : x7.body = x7b ∧ x7.res = [.tmp 4] ∧ x7.np = 2 := ⟨rfl, rfl, rfl⟩

abbrev x8r0 : List XOper := [
  ⟨(some 6), none, .mv (.c (.int .u64 0))⟩,
  ⟨(some 7), none, .mv (.c (.int .u64 0))⟩]
abbrev x8r1 : List XOper := [
  ⟨(some 19), none, .mv (.t 2)⟩,
  ⟨(some 20), none, .bin .eql (.t 19) (.c (.int .u64 0))⟩]
abbrev x8r2 : List XOper := [
  ⟨(some 21), none, .bad⟩,
  ⟨none, none, .bad⟩]
abbrev x8r3 : List XOper := [
  ⟨(some 22), none, .mv (.t 2)⟩,
  ⟨(some 23), none, .mv (.t 0)⟩,
  ⟨(some 24), none, .bin .leq (.t 22) (.t 23)⟩]
abbrev x8r4 : List XOper := [
  ⟨(some 25), none, .bad⟩,
  ⟨none, none, .bad⟩]
abbrev x8r5 : List XOper := [
  ⟨(some 26), none, .mv (.t 0)⟩,
  ⟨(some 27), none, .bin .eql (.t 26) (.c (.int .u64 0))⟩]
abbrev x8r6 : List XOper := [
  ⟨(some 28), none, .mv (.t 1)⟩,
  ⟨(some 29), none, .mv (.t 2)⟩,
  ⟨(some 30), none, .bin .quo (.t 28) (.t 29)⟩,
  ⟨(some 31), none, .mv (.t 1)⟩,
  ⟨(some 32), none, .mv (.t 2)⟩,
  ⟨(some 33), none, .bin .rem (.t 31) (.t 32)⟩,
  ⟨(some 6), none, .mv (.t 30)⟩,
  ⟨(some 7), none, .mv (.t 33)⟩]
abbrev x8r7 : List XOper := [
  ⟨(some 34), none, .mv (.t 2)⟩,
  ⟨(some 35), none, .call (.c (.fn (.func 15) [] [])) [(.t 34)]⟩,
  ⟨(some 36), none, .conv .u64 (.t 35)⟩,
  ⟨(some 8), none, .mv (.t 36)⟩]
abbrev x8r8 : List XOper := [
  ⟨(some 37), none, .mv (.t 2)⟩,
  ⟨(some 38), none, .mv (.t 8)⟩,
  ⟨(some 39), none, .bin .shl (.t 37) (.t 38)⟩,
  ⟨(some 2), none, .mv (.t 39)⟩]
abbrev x8r9 : List XOper := [
  ⟨(some 40), none, .mv (.t 2)⟩,
  ⟨(some 41), none, .bin .shr (.t 40) (.c (.int .u64 32))⟩,
  ⟨(some 9), none, .mv (.t 41)⟩]
abbrev x8r10 : List XOper := [
  ⟨(some 42), none, .mv (.t 2)⟩,
  ⟨(some 43), none, .bin .and (.t 42) (.c (.int .u64 4294967295))⟩,
  ⟨(some 10), none, .mv (.t 43)⟩]
abbrev x8r11 : List XOper := [
  ⟨(some 44), none, .mv (.t 0)⟩,
  ⟨(some 45), none, .mv (.t 8)⟩,
  ⟨(some 46), none, .bin .shl (.t 44) (.t 45)⟩,
  ⟨(some 47), none, .mv (.t 1)⟩,
  ⟨(some 48), none, .mv (.t 8)⟩,
  ⟨(some 49), none, .bin .sub (.c (.int .u64 64)) (.t 48)⟩,
  ⟨(some 50), none, .bin .shr (.t 47) (.t 49)⟩,
  ⟨(some 51), none, .bin .or (.t 46) (.t 50)⟩,
  ⟨(some 11), none, .mv (.t 51)⟩]
abbrev x8r12 : List XOper := [
  ⟨(some 52), none, .mv (.t 1)⟩,
  ⟨(some 53), none, .mv (.t 8)⟩,
  ⟨(some 54), none, .bin .shl (.t 52) (.t 53)⟩,
  ⟨(some 12), none, .mv (.t 54)⟩]
abbrev x8r13 : List XOper := [
  ⟨(some 55), none, .mv (.t 12)⟩,
  ⟨(some 56), none, .bin .shr (.t 55) (.c (.int .u64 32))⟩,
  ⟨(some 13), none, .mv (.t 56)⟩]
abbrev x8r14 : List XOper := [
  ⟨(some 57), none, .mv (.t 12)⟩,
  ⟨(some 58), none, .bin .and (.t 57) (.c (.int .u64 4294967295))⟩,
  ⟨(some 14), none, .mv (.t 58)⟩]
abbrev x8r15 : List XOper := [
  ⟨(some 59), none, .mv (.t 11)⟩,
  ⟨(some 60), none, .mv (.t 9)⟩,
  ⟨(some 61), none, .bin .quo (.t 59) (.t 60)⟩,
  ⟨(some 15), none, .mv (.t 61)⟩]
abbrev x8r16 : List XOper := [
  ⟨(some 62), none, .mv (.t 11)⟩,
  ⟨(some 63), none, .mv (.t 15)⟩,
  ⟨(some 64), none, .mv (.t 9)⟩,
  ⟨(some 65), none, .bin .mul (.t 63) (.t 64)⟩,
  ⟨(some 66), none, .bin .sub (.t 62) (.t 65)⟩,
  ⟨(some 16), none, .mv (.t 66)⟩]
abbrev x8r17 : List XOper := [
  ⟨(some 67), none, .mv (.t 15)⟩,
  ⟨(some 68), none, .bin .geq (.t 67) (.c (.int .u64 4294967296))⟩,
  ⟨(some 69), none, .mv (.t 68)⟩,
  ⟨(some 70), (some (69, false)), .mv (.t 15)⟩,
  ⟨(some 71), (some (69, false)), .mv (.t 10)⟩,
  ⟨(some 72), (some (69, false)), .bin .mul (.t 70) (.t 71)⟩,
  ⟨(some 73), (some (69, false)), .mv (.t 16)⟩,
  ⟨(some 74), (some (69, false)), .bin .mul (.c (.int .u64 4294967296)) (.t 73)⟩,
  ⟨(some 75), (some (69, false)), .mv (.t 13)⟩,
  ⟨(some 76), (some (69, false)), .bin .add (.t 74) (.t 75)⟩,
  ⟨(some 77), (some (69, false)), .bin .gtr (.t 72) (.t 76)⟩,
  ⟨(some 78), none, .pick (.t 69) (.c (.bool true)) (.t 77)⟩]
abbrev x8r18 : List XOper := [
  ⟨(some 79), none, .mv (.t 15)⟩,
  ⟨(some 80), none, .bin .sub (.t 79) (.c (.int .u64 1))⟩,
  ⟨(some 15), none, .mv (.t 80)⟩]
abbrev x8r19 : List XOper := [
  ⟨(some 81), none, .mv (.t 16)⟩,
  ⟨(some 82), none, .mv (.t 9)⟩,
  ⟨(some 83), none, .bin .add (.t 81) (.t 82)⟩,
  ⟨(some 16), none, .mv (.t 83)⟩]
abbrev x8r20 : List XOper := [
  ⟨(some 84), none, .mv (.t 16)⟩,
  ⟨(some 85), none, .bin .geq (.t 84) (.c (.int .u64 4294967296))⟩]
abbrev x8l17 : XCode :=
  (.seq (.seq (.reg 17 x8r17 none)
  (.cond (.t 78)
    .skip
    (.exit 0)))
  (.block 1
    (.seq (.reg 18 x8r18 none)
    (.seq (.reg 19 x8r19 none)
    (.seq (.reg 20 x8r20 none)
    (.cond (.t 85)
      (.exit 0)
      .skip))))))
abbrev x8r21 : List XOper := [
  ⟨(some 86), none, .mv (.t 11)⟩,
  ⟨(some 87), none, .bin .mul (.t 86) (.c (.int .u64 4294967296))⟩,
  ⟨(some 88), none, .mv (.t 13)⟩,
  ⟨(some 89), none, .bin .add (.t 87) (.t 88)⟩,
  ⟨(some 90), none, .mv (.t 15)⟩,
  ⟨(some 91), none, .mv (.t 2)⟩,
  ⟨(some 92), none, .bin .mul (.t 90) (.t 91)⟩,
  ⟨(some 93), none, .bin .sub (.t 89) (.t 92)⟩,
  ⟨(some 17), none, .mv (.t 93)⟩]
abbrev x8r22 : List XOper := [
  ⟨(some 94), none, .mv (.t 17)⟩,
  ⟨(some 95), none, .mv (.t 9)⟩,
  ⟨(some 96), none, .bin .quo (.t 94) (.t 95)⟩,
  ⟨(some 18), none, .mv (.t 96)⟩]
abbrev x8r23 : List XOper := [
  ⟨(some 97), none, .mv (.t 17)⟩,
  ⟨(some 98), none, .mv (.t 18)⟩,
  ⟨(some 99), none, .mv (.t 9)⟩,
  ⟨(some 100), none, .bin .mul (.t 98) (.t 99)⟩,
  ⟨(some 101), none, .bin .sub (.t 97) (.t 100)⟩,
  ⟨(some 16), none, .mv (.t 101)⟩]
abbrev x8r24 : List XOper := [
  ⟨(some 102), none, .mv (.t 18)⟩,
  ⟨(some 103), none, .bin .geq (.t 102) (.c (.int .u64 4294967296))⟩,
  ⟨(some 104), none, .mv (.t 103)⟩,
  ⟨(some 105), (some (104, false)), .mv (.t 18)⟩,
  ⟨(some 106), (some (104, false)), .mv (.t 10)⟩,
  ⟨(some 107), (some (104, false)), .bin .mul (.t 105) (.t 106)⟩,
  ⟨(some 108), (some (104, false)), .mv (.t 16)⟩,
  ⟨(some 109), (some (104, false)), .bin .mul (.c (.int .u64 4294967296)) (.t 108)⟩,
  ⟨(some 110), (some (104, false)), .mv (.t 14)⟩,
  ⟨(some 111), (some (104, false)), .bin .add (.t 109) (.t 110)⟩,
  ⟨(some 112), (some (104, false)), .bin .gtr (.t 107) (.t 111)⟩,
  ⟨(some 113), none, .pick (.t 104) (.c (.bool true)) (.t 112)⟩]
abbrev x8r25 : List XOper := [
  ⟨(some 114), none, .mv (.t 18)⟩,
  ⟨(some 115), none, .bin .sub (.t 114) (.c (.int .u64 1))⟩,
  ⟨(some 18), none, .mv (.t 115)⟩]
abbrev x8r26 : List XOper := [
  ⟨(some 116), none, .mv (.t 16)⟩,
  ⟨(some 117), none, .mv (.t 9)⟩,
  ⟨(some 118), none, .bin .add (.t 116) (.t 117)⟩,
  ⟨(some 16), none, .mv (.t 118)⟩]
abbrev x8r27 : List XOper := [
  ⟨(some 119), none, .mv (.t 16)⟩,
  ⟨(some 120), none, .bin .geq (.t 119) (.c (.int .u64 4294967296))⟩]
abbrev x8l25 : XCode :=
  (.seq (.seq (.reg 24 x8r24 none)
  (.cond (.t 113)
    .skip
    (.exit 2)))
  (.block 3
    (.seq (.reg 25 x8r25 none)
    (.seq (.reg 26 x8r26 none)
    (.seq (.reg 27 x8r27 none)
    (.cond (.t 120)
      (.exit 2)
      .skip))))))
abbrev x8r28 : List XOper := [
  ⟨(some 121), none, .mv (.t 15)⟩,
  ⟨(some 122), none, .bin .mul (.t 121) (.c (.int .u64 4294967296))⟩,
  ⟨(some 123), none, .mv (.t 18)⟩,
  ⟨(some 124), none, .bin .add (.t 122) (.t 123)⟩,
  ⟨(some 125), none, .mv (.t 17)⟩,
  ⟨(some 126), none, .bin .mul (.t 125) (.c (.int .u64 4294967296))⟩,
  ⟨(some 127), none, .mv (.t 14)⟩,
  ⟨(some 128), none, .bin .add (.t 126) (.t 127)⟩,
  ⟨(some 129), none, .mv (.t 18)⟩,
  ⟨(some 130), none, .mv (.t 2)⟩,
  ⟨(some 131), none, .bin .mul (.t 129) (.t 130)⟩,
  ⟨(some 132), none, .bin .sub (.t 128) (.t 131)⟩,
  ⟨(some 133), none, .mv (.t 8)⟩,
  ⟨(some 134), none, .bin .shr (.t 132) (.t 133)⟩,
  ⟨(some 6), none, .mv (.t 124)⟩,
  ⟨(some 7), none, .mv (.t 134)⟩]
/-- math/bits.Div64 -/
abbrev x8b : XCode :=
  (.seq (.reg 0 x8r0 none)
  (.seq (.seq (.reg 1 x8r1 none)
  (.cond (.t 20)
    (.reg 2 x8r2 none)
    .skip))
  (.seq (.seq (.reg 3 x8r3 none)
  (.cond (.t 24)
    (.reg 4 x8r4 none)
    .skip))
  (.seq (.seq (.reg 5 x8r5 none)
  (.cond (.t 27)
    (.seq (.reg 6 x8r6 (some ⟨[]⟩))
    .ret)
    .skip))
  (.seq (.reg 7 x8r7 none)
  (.seq (.reg 8 x8r8 none)
  (.seq (.reg 9 x8r9 none)
  (.seq (.reg 10 x8r10 none)
  (.seq (.reg 11 x8r11 none)
  (.seq (.reg 12 x8r12 none)
  (.seq (.reg 13 x8r13 none)
  (.seq (.reg 14 x8r14 none)
  (.seq (.reg 15 x8r15 none)
  (.seq (.reg 16 x8r16 none)
  (.seq (.block 0
    (.loop x8l17))
  (.seq (.reg 21 x8r21 none)
  (.seq (.reg 22 x8r22 none)
  (.seq (.reg 23 x8r23 none)
  (.seq (.block 2
    (.loop x8l25))
  (.seq (.reg 28 x8r28 none)
  .ret))))))))))))))))))))
def x8 : XFunc := ⟨135, 3, [.tmp 6, .tmp 7], x8b⟩
theorem x8_ok : chkF Tryd.prog Tryd.f8 x8 = true := by kernel_rfl
theorem x8_eq : x8.body = x8b ∧ x8.res = [.tmp 6, .tmp 7] ∧ x8.np = 3 := ⟨rfl, rfl, rfl⟩

abbrev x10r0 : List XOper := [
  ⟨(some 4), none, .alloc [(.int .u64 0), (.int .u64 0)]⟩]
abbrev x10r1 : List XOper := [
  ⟨(some 8), none, .mv (.t 0)⟩,
  ⟨(some 9), none, .mv (.t 1)⟩,
  ⟨(some 10), none, .call (.c (.fn (.func 22) [] [])) [(.t 8), (.t 9)]⟩,
  ⟨(some 7), none, .mv (.t 10)⟩,
  ⟨(some 11), none, .ext (.t 7) 0⟩,
  ⟨(some 12), none, .ext (.t 7) 1⟩,
  ⟨(some 5), none, .mv (.t 11)⟩,
  ⟨(some 6), none, .mv (.t 12)⟩]
abbrev x10r2 : List XOper := [
  ⟨(some 13), none, .mv (.t 5)⟩,
  ⟨(some 14), none, .mv (.t 6)⟩,
  ⟨(some 15), none, .build [(.int .u64 0), (.int .u64 0)] [(0, 1, (.t 13)), (1, 1, (.t 14))]⟩,
  ⟨none, none, .store 2 (.t 4) (.t 15)⟩]
/-- datum/wide.Mul -/
abbrev x10b : XCode :=
  (.seq (.reg 0 x10r0 none)
  (.seq (.reg 1 x10r1 none)
  (.seq (.reg 2 x10r2 none)
  .ret)))
def x10 : XFunc := ⟨16, 2, [.cell 4 true 2], x10b⟩
theorem x10_ok : chkF Tryd.prog Tryd.f10 x10 = true := by kernel_rfl
theorem x10_eq : x10.body = x10b ∧ x10.res = [.cell 4 true 2] ∧ x10.np = 2 := ⟨rfl, rfl, rfl⟩

abbrev x11r0 : List XOper := [
  ⟨(some 2), none, .box (.t 0)⟩,
  ⟨(some 3), none, .box (.t 1)⟩,
  ⟨(some 4), none, .alloc [(.int .u64 0), (.int .u64 0)]⟩,
  ⟨(some 5), none, .mv (.c (.bool false))⟩]
abbrev x11r1 : List XOper := [
  ⟨(some 11), none, .load true 2 (.t 2)⟩,
  ⟨(some 12), none, .call (.c (.fn (.func 23) [] [])) [(.t 11)]⟩,
  ⟨(some 13), none, .load true 2 (.t 3)⟩,
  ⟨(some 14), none, .call (.c (.fn (.func 23) [] [])) [(.t 13)]⟩,
  ⟨(some 6), none, .alloc [(.int .u64 0), (.int .u64 0)]⟩,
  ⟨(some 7), none, .alloc [(.int .u64 0), (.int .u64 0)]⟩,
  ⟨none, none, .store 2 (.t 6) (.t 12)⟩,
  ⟨none, none, .store 2 (.t 7) (.t 14)⟩]
abbrev x11r2 : List XOper := [
  ⟨(some 8), none, .alloc [(.int .u64 0), (.int .u64 0)]⟩]
abbrev x11r3 : List XOper := [
  ⟨(some 9), none, .mv (.c (.int .u64 0))⟩]
abbrev x11r4 : List XOper := [
  ⟨(some 15), none, .mv (.c (.int .i64 0))⟩]
abbrev x11r5 : List XOper := [
  ⟨(some 16), none, .bin .lss (.t 15) (.c (.int .i64 2))⟩]
abbrev x11r6 : List XOper := [
  ⟨(some 17), none, .mv (.t 15)⟩,
  ⟨(some 10), none, .mv (.t 17)⟩]
abbrev x11r7 : List XOper := [
  ⟨(some 19), none, .mv (.t 10)⟩,
  ⟨(some 20), none, .mv (.t 10)⟩,
  ⟨(some 21), none, .iaA 2 1 (.t 6) (.t 20)⟩,
  ⟨(some 22), none, .load false 1 (.t 21)⟩,
  ⟨(some 23), none, .mv (.t 10)⟩,
  ⟨(some 24), none, .iaA 2 1 (.t 7) (.t 23)⟩,
  ⟨(some 25), none, .load false 1 (.t 24)⟩,
  ⟨(some 26), none, .mv (.t 9)⟩,
  ⟨(some 27), none, .call (.c (.fn (.func 24) [] [])) [(.t 22), (.t 25), (.t 26)]⟩,
  ⟨(some 18), none, .mv (.t 27)⟩,
  ⟨(some 28), none, .ext (.t 18) 0⟩,
  ⟨(some 29), none, .ext (.t 18) 1⟩,
  ⟨(some 30), none, .iaA 2 1 (.t 8) (.t 19)⟩,
  ⟨none, none, .store 1 (.t 30) (.t 28)⟩,
  ⟨(some 9), none, .mv (.t 29)⟩]
abbrev x11r8 : List XOper := [
  ⟨(some 31), none, .bin .add (.t 15) (.c (.int .i64 1))⟩,
  ⟨(some 15), none, .mv (.t 31)⟩]
abbrev x11l5 : XCode :=
  (.seq (.reg 5 x11r5 none)
  (.seq (.cond (.t 16)
    .skip
    (.exit 0))
  (.seq (.block 1
    (.seq (.reg 6 x11r6 none)
    (.reg 7 x11r7 (some ⟨[]⟩))))
  (.reg 8 x11r8 none))))
abbrev x11r9 : List XOper := [
  ⟨(some 32), none, .iaA 2 1 (.t 8) (.c (.int .i64 1))⟩,
  ⟨(some 33), none, .load false 1 (.t 32)⟩,
  ⟨(some 34), none, .iaA 2 1 (.t 8) (.c (.int .i64 0))⟩,
  ⟨(some 35), none, .load false 1 (.t 34)⟩,
  ⟨(some 36), none, .build [(.int .u64 0), (.int .u64 0)] [(0, 1, (.t 33)), (1, 1, (.t 35))]⟩,
  ⟨(some 37), none, .mv (.t 9)⟩,
  ⟨(some 38), none, .bin .gtr (.t 37) (.c (.int .u64 0))⟩,
  ⟨none, none, .store 2 (.t 4) (.t 36)⟩,
  ⟨(some 5), none, .mv (.t 38)⟩]
/-- datum/wide.Add -/
abbrev x11b : XCode :=
  (.seq (.reg 0 x11r0 none)
  (.seq (.reg 1 x11r1 (some ⟨[(1, 2), (0, 4), (1, 4), (2, 4), (3, 4), (0, 5), (1, 5), (2, 5), (3, 5), (4, 5)]⟩))
  (.seq (.reg 2 x11r2 none)
  (.seq (.reg 3 x11r3 none)
  (.seq (.seq (.reg 4 x11r4 none)
  (.block 0
    (.loop x11l5)))
  (.seq (.reg 9 x11r9 none)
  .ret))))))
def x11 : XFunc := ⟨39, 2, [.cell 4 true 2, .tmp 5], x11b⟩
theorem x11_ok : chkF Tryd.prog Tryd.f11 x11 = true := by kernel_rfl
theorem x11_eq : x11.body = x11b ∧ x11.res = [.cell 4 true 2, .tmp 5] ∧ x11.np = 2 := ⟨rfl, rfl, rfl⟩

abbrev x12r0 : List XOper := [
  ⟨(some 2), none, .box (.t 0)⟩,
  ⟨(some 3), none, .box (.t 1)⟩,
  ⟨(some 4), none, .mv (.c (.bool false))⟩]
abbrev x12r1 : List XOper := [
  ⟨(some 5), none, .fa 0 (.t 2)⟩,
  ⟨(some 6), none, .load false 1 (.t 5)⟩,
  ⟨(some 7), none, .fa 0 (.t 3)⟩,
  ⟨(some 8), none, .load false 1 (.t 7)⟩,
  ⟨(some 9), none, .bin .lss (.t 6) (.t 8)⟩,
  ⟨(some 10), none, .mv (.t 9)⟩,
  ⟨(some 11), (some (10, false)), .fa 0 (.t 2)⟩,
  ⟨(some 12), (some (10, false)), .load false 1 (.t 11)⟩,
  ⟨(some 13), (some (10, false)), .fa 0 (.t 3)⟩,
  ⟨(some 14), (some (10, false)), .load false 1 (.t 13)⟩,
  ⟨(some 15), (some (10, false)), .bin .eql (.t 12) (.t 14)⟩,
  ⟨(some 16), (some (10, false)), .mv (.t 15)⟩,
  ⟨(some 17), (some (16, true)), .fa 1 (.t 2)⟩,
  ⟨(some 18), (some (16, true)), .load false 1 (.t 17)⟩,
  ⟨(some 19), (some (16, true)), .fa 1 (.t 3)⟩,
  ⟨(some 20), (some (16, true)), .load false 1 (.t 19)⟩,
  ⟨(some 21), (some (16, true)), .bin .lss (.t 18) (.t 20)⟩,
  ⟨(some 22), (some (10, false)), .pick (.t 16) (.t 21) (.c (.bool false))⟩,
  ⟨(some 23), none, .pick (.t 10) (.c (.bool true)) (.t 22)⟩,
  ⟨(some 4), none, .mv (.t 23)⟩]
/-- datum/wide.Less -/
abbrev x12b : XCode :=
  (.seq (.reg 0 x12r0 none)
  (.seq (.reg 1 x12r1 none)
  .ret))
def x12 : XFunc := ⟨24, 2, [.tmp 4], x12b⟩
theorem x12_ok : chkF Tryd.prog Tryd.f12 x12 = true := by kernel_rfl
theorem x12_eq : x12.body = x12b ∧ x12.res = [.tmp 4] ∧ x12.np = 2 := ⟨rfl, rfl, rfl⟩

abbrev x13r0 : List XOper := [
  ⟨(some 1), none, .box (.t 0)⟩,
  ⟨(some 2), none, .mv (.c .nils)⟩]
abbrev x13r1 : List XOper := [
  ⟨(some 6), none, .mkslice 1 (.int .u64 0) 0 []⟩,
  ⟨(some 3), none, .mv (.t 6)⟩]
abbrev x13r2 : List XOper := [
  ⟨(some 4), none, .mv (.c (.int .i64 0))⟩]
abbrev x13r3 : List XOper := [
  ⟨(some 7), none, .mv (.t 4)⟩,
  ⟨(some 8), none, .bin .lss (.t 7) (.c (.int .i64 4))⟩]
abbrev x13r5 : List XOper := [
  ⟨(some 11), none, .mv (.t 3)⟩,
  ⟨(some 12), none, .fa 1 (.t 1)⟩,
  ⟨(some 13), none, .load false 1 (.t 12)⟩,
  ⟨(some 14), none, .mv (.t 4)⟩,
  ⟨(some 15), none, .conv .u64 (.t 14)⟩,
  ⟨(some 16), none, .bin .mul (.c (.int .u64 16)) (.t 15)⟩,
  ⟨(some 17), none, .bin .shr (.t 13) (.t 16)⟩,
  ⟨(some 18), none, .bin .rem (.t 17) (.c (.int .u64 65536))⟩,
  ⟨(some 19), none, .mkslice 1 (.int .u64 0) 1 [(0, (.t 18))]⟩,
  ⟨(some 20), none, .app 1 8 (.t 11) (.t 19)⟩,
  ⟨(some 3), none, .mv (.t 20)⟩]
abbrev x13r4 : List XOper := [
  ⟨(some 9), none, .mv (.t 4)⟩,
  ⟨(some 10), none, .bin .add (.t 9) (.c (.int .i64 1))⟩,
  ⟨(some 4), none, .mv (.t 10)⟩]
abbrev x13l3 : XCode :=
  (.seq (.seq (.reg 3 x13r3 none)
  (.cond (.t 8)
    .skip
    (.exit 0)))
  (.seq (.block 1
    (.reg 5 x13r5 none))
  (.reg 4 x13r4 none)))
abbrev x13r6 : List XOper := [
  ⟨(some 5), none, .mv (.c (.int .i64 0))⟩]
abbrev x13r7 : List XOper := [
  ⟨(some 21), none, .mv (.t 5)⟩,
  ⟨(some 22), none, .bin .lss (.t 21) (.c (.int .i64 4))⟩]
abbrev x13r9 : List XOper := [
  ⟨(some 25), none, .mv (.t 3)⟩,
  ⟨(some 26), none, .fa 0 (.t 1)⟩,
  ⟨(some 27), none, .load false 1 (.t 26)⟩,
  ⟨(some 28), none, .mv (.t 5)⟩,
  ⟨(some 29), none, .conv .u64 (.t 28)⟩,
  ⟨(some 30), none, .bin .mul (.c (.int .u64 16)) (.t 29)⟩,
  ⟨(some 31), none, .bin .shr (.t 27) (.t 30)⟩,
  ⟨(some 32), none, .bin .rem (.t 31) (.c (.int .u64 65536))⟩,
  ⟨(some 33), none, .mkslice 1 (.int .u64 0) 1 [(0, (.t 32))]⟩,
  ⟨(some 34), none, .app 1 8 (.t 25) (.t 33)⟩,
  ⟨(some 3), none, .mv (.t 34)⟩]
abbrev x13r8 : List XOper := [
  ⟨(some 23), none, .mv (.t 5)⟩,
  ⟨(some 24), none, .bin .add (.t 23) (.c (.int .i64 1))⟩,
  ⟨(some 5), none, .mv (.t 24)⟩]
abbrev x13l8 : XCode :=
  (.seq (.seq (.reg 7 x13r7 none)
  (.cond (.t 22)
    .skip
    (.exit 2)))
  (.seq (.block 3
    (.reg 9 x13r9 none))
  (.reg 8 x13r8 none)))
abbrev x13r10 : List XOper := [
  ⟨(some 35), none, .mv (.t 3)⟩,
  ⟨(some 2), none, .mv (.t 35)⟩]
/-- datum/datumref01.Pieces -/
abbrev x13b : XCode :=
  (.seq (.reg 0 x13r0 none)
  (.seq (.reg 1 x13r1 none)
  (.seq (.seq (.reg 2 x13r2 none)
  (.block 0
    (.loop x13l3)))
  (.seq (.seq (.reg 6 x13r6 none)
  (.block 2
    (.loop x13l8)))
  (.seq (.reg 10 x13r10 none)
  .ret)))))
def x13 : XFunc := ⟨36, 1, [.tmp 2], x13b⟩
theorem x13_ok : chkF Tryd.prog Tryd.f13 x13 = true := by kernel_rfl
theorem x13_eq : x13.body = x13b ∧ x13.res = [.tmp 2] ∧ x13.np = 1 := ⟨rfl, rfl, rfl⟩

abbrev x14r0 : List XOper := [
  ⟨(some 4), none, .mv (.c (.str ⟨#[]⟩))⟩]
abbrev x14r1 : List XOper := [
  ⟨(some 9), none, .mv (.t 1)⟩,
  ⟨(some 10), none, .bin .eql (.t 9) (.c (.int .i64 10))⟩]
abbrev x14r2 : List XOper := [
  ⟨(some 11), none, .mv (.t 0)⟩,
  ⟨(some 12), none, .bin .lss (.t 11) (.c (.int .u64 100))⟩]
abbrev x14r3 : List XOper := [
  ⟨(some 13), none, .mv (.t 0)⟩,
  ⟨(some 14), none, .conv .i64 (.t 13)⟩,
  ⟨(some 15), none, .call (.c (.fn (.func 25) [] [])) [(.t 14)]⟩,
  ⟨(some 4), none, .mv (.t 15)⟩]
abbrev x14r4 : List XOper := [
  ⟨(some 5), none, .alloc [(.int .u8 0), (.int .u8 0), (.int .u8 0), (.int .u8 0), (.int .u8 0), (.int .u8 0), (.int .u8 0), (.int .u8 0), (.int .u8 0), (.int .u8 0), (.int .u8 0), (.int .u8 0), (.int .u8 0), (.int .u8 0), (.int .u8 0), (.int .u8 0), (.int .u8 0), (.int .u8 0), (.int .u8 0), (.int .u8 0), (.int .u8 0), (.int .u8 0), (.int .u8 0), (.int .u8 0)]⟩]
abbrev x14r5 : List XOper := [
  ⟨(some 16), none, .mv (.t 0)⟩,
  ⟨(some 17), none, .call (.c (.fn (.func 26) [] [])) [(.t 16)]⟩,
  ⟨(some 6), none, .mv (.t 17)⟩]
abbrev x14r6 : List XOper := [
  ⟨(some 18), none, .mv (.t 6)⟩,
  ⟨(some 19), none, .slA 24 1 (.t 5) none (some (.t 18))⟩,
  ⟨(some 20), none, .mv (.t 0)⟩,
  ⟨(some 21), none, .call (.c (.fn (.func 27) [] [])) [(.t 19), (.t 20)]⟩]
abbrev x14r7 : List XOper := [
  ⟨(some 22), none, .mv (.t 6)⟩,
  ⟨(some 23), none, .slA 24 1 (.t 5) none (some (.t 22))⟩,
  ⟨(some 24), none, .b2s (.t 23)⟩,
  ⟨(some 4), none, .mv (.t 24)⟩]
abbrev x14r8 : List XOper := [
  ⟨(some 26), none, .mv (.t 0)⟩,
  ⟨(some 27), none, .mv (.t 1)⟩,
  ⟨(some 28), none, .call (.c (.fn (.func 28) [] [])) [(.c .nils), (.t 26), (.t 27), (.c (.bool false)), (.c (.bool false))]⟩,
  ⟨(some 25), none, .mv (.t 28)⟩,
  ⟨(some 29), none, .ext (.t 25) 0⟩,
  ⟨(some 30), none, .ext (.t 25) 1⟩,
  ⟨(some 7), none, .mv (.t 29)⟩,
  ⟨(some 8), none, .mv (.t 30)⟩]
abbrev x14r9 : List XOper := [
  ⟨(some 31), none, .mv (.t 8)⟩,
  ⟨(some 4), none, .mv (.t 31)⟩]
/-- internal/strconv.FormatUint -/
abbrev x14b : XCode :=
  (.seq (.reg 0 x14r0 none)
  (.seq (.seq (.reg 1 x14r1 none)
  (.cond (.t 10)
    (.seq (.seq (.reg 2 x14r2 none)
    (.cond (.t 12)
      (.seq (.reg 3 x14r3 none)
      .ret)
      .skip))
    (.seq (.reg 4 x14r4 none)
    (.seq (.reg 5 x14r5 none)
    (.seq (.reg 6 x14r6 none)
    (.seq (.reg 7 x14r7 none)
    .ret)))))
    .skip))
  (.seq (.reg 8 x14r8 none)
  (.seq (.reg 9 x14r9 none)
  .ret))))
def x14 : XFunc := ⟨32, 2, [.tmp 4], x14b⟩
theorem x14_ok : chkF Tryd.prog Tryd.f14 x14 = true := by kernel_rfl
theorem x14_eq : x14.body = x14b ∧ x14.res = [.tmp 4] ∧ x14.np = 2 := ⟨rfl, rfl, rfl⟩

abbrev x15r0 : List XOper := [
  ⟨(some 2), none, .mv (.c (.int .i64 0))⟩]
abbrev x15r1 : List XOper := [
  ⟨(some 3), none, .mv (.t 0)⟩,
  ⟨(some 4), none, .call (.c (.fn (.func 29) [] [])) [(.t 3)]⟩,
  ⟨(some 5), none, .bin .sub (.c (.int .i64 64)) (.t 4)⟩,
  ⟨(some 2), none, .mv (.t 5)⟩]
/-- math/bits.LeadingZeros64 -/
abbrev x15b : XCode :=
  (.seq (.reg 0 x15r0 none)
  (.seq (.reg 1 x15r1 none)
  .ret))
def x15 : XFunc := ⟨6, 1, [.tmp 2], x15b⟩
theorem x15_ok : chkF Tryd.prog Tryd.f15 x15 = true := by kernel_rfl
theorem x15_eq : x15.body = x15b ∧ x15.res = [.tmp 2] ∧ x15.np = 1 := ⟨rfl, rfl, rfl⟩

abbrev x22r0 : List XOper := [
  ⟨(some 4), none, .mv (.c (.int .u64 0))⟩,
  ⟨(some 5), none, .mv (.c (.int .u64 0))⟩]
abbrev x22r1 : List XOper := [
  ⟨(some 14), none, .mv (.t 0)⟩,
  ⟨(some 15), none, .bin .and (.t 14) (.c (.int .u64 4294967295))⟩,
  ⟨(some 6), none, .mv (.t 15)⟩]
abbrev x22r2 : List XOper := [
  ⟨(some 16), none, .mv (.t 0)⟩,
  ⟨(some 17), none, .bin .shr (.t 16) (.c (.int .u64 32))⟩,
  ⟨(some 7), none, .mv (.t 17)⟩]
abbrev x22r3 : List XOper := [
  ⟨(some 18), none, .mv (.t 1)⟩,
  ⟨(some 19), none, .bin .and (.t 18) (.c (.int .u64 4294967295))⟩,
  ⟨(some 8), none, .mv (.t 19)⟩]
abbrev x22r4 : List XOper := [
  ⟨(some 20), none, .mv (.t 1)⟩,
  ⟨(some 21), none, .bin .shr (.t 20) (.c (.int .u64 32))⟩,
  ⟨(some 9), none, .mv (.t 21)⟩]
abbrev x22r5 : List XOper := [
  ⟨(some 22), none, .mv (.t 6)⟩,
  ⟨(some 23), none, .mv (.t 8)⟩,
  ⟨(some 24), none, .bin .mul (.t 22) (.t 23)⟩,
  ⟨(some 10), none, .mv (.t 24)⟩]
abbrev x22r6 : List XOper := [
  ⟨(some 25), none, .mv (.t 7)⟩,
  ⟨(some 26), none, .mv (.t 8)⟩,
  ⟨(some 27), none, .bin .mul (.t 25) (.t 26)⟩,
  ⟨(some 28), none, .mv (.t 10)⟩,
  ⟨(some 29), none, .bin .shr (.t 28) (.c (.int .u64 32))⟩,
  ⟨(some 30), none, .bin .add (.t 27) (.t 29)⟩,
  ⟨(some 11), none, .mv (.t 30)⟩]
abbrev x22r7 : List XOper := [
  ⟨(some 31), none, .mv (.t 11)⟩,
  ⟨(some 32), none, .bin .and (.t 31) (.c (.int .u64 4294967295))⟩,
  ⟨(some 12), none, .mv (.t 32)⟩]
abbrev x22r8 : List XOper := [
  ⟨(some 33), none, .mv (.t 11)⟩,
  ⟨(some 34), none, .bin .shr (.t 33) (.c (.int .u64 32))⟩,
  ⟨(some 13), none, .mv (.t 34)⟩]
abbrev x22r9 : List XOper := [
  ⟨(some 35), none, .mv (.t 12)⟩,
  ⟨(some 36), none, .mv (.t 6)⟩,
  ⟨(some 37), none, .mv (.t 9)⟩,
  ⟨(some 38), none, .bin .mul (.t 36) (.t 37)⟩,
  ⟨(some 39), none, .bin .add (.t 35) (.t 38)⟩,
  ⟨(some 12), none, .mv (.t 39)⟩]
abbrev x22r10 : List XOper := [
  ⟨(some 40), none, .mv (.t 7)⟩,
  ⟨(some 41), none, .mv (.t 9)⟩,
  ⟨(some 42), none, .bin .mul (.t 40) (.t 41)⟩,
  ⟨(some 43), none, .mv (.t 13)⟩,
  ⟨(some 44), none, .bin .add (.t 42) (.t 43)⟩,
  ⟨(some 45), none, .mv (.t 12)⟩,
  ⟨(some 46), none, .bin .shr (.t 45) (.c (.int .u64 32))⟩,
  ⟨(some 47), none, .bin .add (.t 44) (.t 46)⟩,
  ⟨(some 4), none, .mv (.t 47)⟩]
abbrev x22r11 : List XOper := [
  ⟨(some 48), none, .mv (.t 0)⟩,
  ⟨(some 49), none, .mv (.t 1)⟩,
  ⟨(some 50), none, .bin .mul (.t 48) (.t 49)⟩,
  ⟨(some 5), none, .mv (.t 50)⟩]
/-- math/bits.Mul64 -/
abbrev x22b : XCode :=
  (.seq (.reg 0 x22r0 none)
  (.seq (.reg 1 x22r1 none)
  (.seq (.reg 2 x22r2 none)
  (.seq (.reg 3 x22r3 none)
  (.seq (.reg 4 x22r4 none)
  (.seq (.reg 5 x22r5 none)
  (.seq (.reg 6 x22r6 none)
  (.seq (.reg 7 x22r7 none)
  (.seq (.reg 8 x22r8 none)
  (.seq (.reg 9 x22r9 none)
  (.seq (.reg 10 x22r10 none)
  (.seq (.reg 11 x22r11 none)
  .ret))))))))))))
def x22 : XFunc := ⟨51, 2, [.tmp 4, .tmp 5], x22b⟩
theorem x22_ok : chkF Tryd.prog Tryd.f22 x22 = true := by kernel_rfl
theorem x22_eq : x22.body = x22b ∧ x22.res = [.tmp 4, .tmp 5] ∧ x22.np = 2 := ⟨rfl, rfl, rfl⟩

abbrev x23r0 : List XOper := [
  ⟨(some 1), none, .box (.t 0)⟩,
  ⟨(some 2), none, .alloc [(.int .u64 0), (.int .u64 0)]⟩]
abbrev x23r1 : List XOper := [
  ⟨(some 3), none, .fa 1 (.t 1)⟩,
  ⟨(some 4), none, .load false 1 (.t 3)⟩,
  ⟨(some 5), none, .fa 0 (.t 1)⟩,
  ⟨(some 6), none, .load false 1 (.t 5)⟩,
  ⟨(some 7), none, .build [(.int .u64 0), (.int .u64 0)] [(0, 1, (.t 4)), (1, 1, (.t 6))]⟩,
  ⟨none, none, .store 2 (.t 2) (.t 7)⟩]
/-- datum/wide.halves -/
abbrev x23b : XCode :=
  (.seq (.reg 0 x23r0 none)
  (.seq (.reg 1 x23r1 none)
  .ret))
def x23 : XFunc := ⟨8, 1, [.cell 2 true 2], x23b⟩
theorem x23_ok : chkF Tryd.prog Tryd.f23 x23 = true := by kernel_rfl
theorem x23_eq : x23.body = x23b ∧ x23.res = [.cell 2 true 2] ∧ x23.np = 1 := ⟨rfl, rfl, rfl⟩

abbrev x25r0 : List XOper := [
  ⟨(some 2), none, .mv (.c (.str ⟨#[]⟩))⟩]
abbrev x25r1 : List XOper := [
  ⟨(some 3), none, .mv (.t 0)⟩,
  ⟨(some 4), none, .bin .lss (.t 3) (.c (.int .i64 10))⟩]
abbrev x25r2 : List XOper := [
  ⟨(some 5), none, .mv (.t 0)⟩,
  ⟨(some 6), none, .mv (.t 0)⟩,
  ⟨(some 7), none, .bin .add (.t 6) (.c (.int .i64 1))⟩,
  ⟨(some 8), none, .slS (.c (.str ⟨#[48, 49, 50, 51, 52, 53, 54, 55, 56, 57, 97, 98, 99, 100, 101, 102, 103, 104, 105, 106, 107, 108, 109, 110, 111, 112, 113, 114, 115, 116, 117, 118, 119, 120, 121, 122]⟩)) (some (.t 5)) (some (.t 7))⟩,
  ⟨(some 2), none, .mv (.t 8)⟩]
abbrev x25r3 : List XOper := [
  ⟨(some 9), none, .mv (.t 0)⟩,
  ⟨(some 10), none, .bin .mul (.t 9) (.c (.int .i64 2))⟩,
  ⟨(some 11), none, .mv (.t 0)⟩,
  ⟨(some 12), none, .bin .mul (.t 11) (.c (.int .i64 2))⟩,
  ⟨(some 13), none, .bin .add (.t 12) (.c (.int .i64 2))⟩,
  ⟨(some 14), none, .slS (.c (.str ⟨#[48, 48, 48, 49, 48, 50, 48, 51, 48, 52, 48, 53, 48, 54, 48, 55, 48, 56, 48, 57, 49, 48, 49, 49, 49, 50, 49, 51, 49, 52, 49, 53, 49, 54, 49, 55, 49, 56, 49, 57, 50, 48, 50, 49, 50, 50, 50, 51, 50, 52, 50, 53, 50, 54, 50, 55, 50, 56, 50, 57, 51, 48, 51, 49, 51, 50, 51, 51, 51, 52, 51, 53, 51, 54, 51, 55, 51, 56, 51, 57, 52, 48, 52, 49, 52, 50, 52, 51, 52, 52, 52, 53, 52, 54, 52, 55, 52, 56, 52, 57, 53, 48, 53, 49, 53, 50, 53, 51, 53, 52, 53, 53, 53, 54, 53, 55, 53, 56, 53, 57, 54, 48, 54, 49, 54, 50, 54, 51, 54, 52, 54, 53, 54, 54, 54, 55, 54, 56, 54, 57, 55, 48, 55, 49, 55, 50, 55, 51, 55, 52, 55, 53, 55, 54, 55, 55, 55, 56, 55, 57, 56, 48, 56, 49, 56, 50, 56, 51, 56, 52, 56, 53, 56, 54, 56, 55, 56, 56, 56, 57, 57, 48, 57, 49, 57, 50, 57, 51, 57, 52, 57, 53, 57, 54, 57, 55, 57, 56, 57, 57]⟩)) (some (.t 10)) (some (.t 13))⟩,
  ⟨(some 2), none, .mv (.t 14)⟩]
/-- internal/strconv.small -/
abbrev x25b : XCode :=
  (.seq (.reg 0 x25r0 none)
  (.seq (.seq (.reg 1 x25r1 none)
  (.cond (.t 4)
    (.seq (.reg 2 x25r2 none)
    .ret)
    .skip))
  (.seq (.reg 3 x25r3 none)
  .ret)))
def x25 : XFunc := ⟨15, 1, [.tmp 2], x25b⟩
theorem x25_ok : chkF Tryd.prog Tryd.f25 x25 = true := by kernel_rfl
theorem x25_eq : x25.body = x25b ∧ x25.res = [.tmp 2] ∧ x25.np = 1 := ⟨rfl, rfl, rfl⟩

abbrev x27r0 : List XOper := [
  ⟨(some 17), none, .mv (.t 0)⟩,
  ⟨(some 18), none, .lenV (.t 17)⟩,
  ⟨(some 4), none, .mv (.t 18)⟩]
abbrev x27r1 : List XOper := [
  ⟨(some 19), none, .mv (.t 4)⟩,
  ⟨(some 20), none, .bin .geq (.t 19) (.c (.int .i64 8))⟩]
abbrev x27r2 : List XOper := [
  ⟨(some 21), none, .mv (.t 1)⟩,
  ⟨(some 22), none, .bin .rem (.t 21) (.c (.int .u64 100000000))⟩,
  ⟨(some 23), none, .conv .u32 (.t 22)⟩,
  ⟨(some 5), none, .mv (.t 23)⟩]
abbrev x27r3 : List XOper := [
  ⟨(some 24), none, .mv (.t 1)⟩,
  ⟨(some 25), none, .bin .quo (.t 24) (.c (.int .u64 100000000))⟩,
  ⟨(some 1), none, .mv (.t 25)⟩]
abbrev x27r4 : List XOper := [
  ⟨(some 26), none, .mv (.t 5)⟩,
  ⟨(some 27), none, .bin .quo (.t 26) (.c (.int .u32 10000))⟩,
  ⟨(some 28), none, .mv (.t 5)⟩,
  ⟨(some 29), none, .bin .rem (.t 28) (.c (.int .u32 10000))⟩,
  ⟨(some 6), none, .mv (.t 27)⟩,
  ⟨(some 7), none, .mv (.t 29)⟩]
abbrev x27r5 : List XOper := [
  ⟨(some 30), none, .mv (.t 7)⟩,
  ⟨(some 31), none, .bin .quo (.t 30) (.c (.int .u32 100))⟩,
  ⟨(some 32), none, .bin .mul (.t 31) (.c (.int .u32 2))⟩,
  ⟨(some 33), none, .mv (.t 7)⟩,
  ⟨(some 34), none, .bin .rem (.t 33) (.c (.int .u32 100))⟩,
  ⟨(some 35), none, .bin .mul (.t 34) (.c (.int .u32 2))⟩,
  ⟨(some 8), none, .mv (.t 32)⟩,
  ⟨(some 9), none, .mv (.t 35)⟩]
abbrev x27r6 : List XOper := [
  ⟨(some 36), none, .mv (.t 6)⟩,
  ⟨(some 37), none, .bin .quo (.t 36) (.c (.int .u32 100))⟩,
  ⟨(some 38), none, .bin .mul (.t 37) (.c (.int .u32 2))⟩,
  ⟨(some 39), none, .mv (.t 6)⟩,
  ⟨(some 40), none, .bin .rem (.t 39) (.c (.int .u32 100))⟩,
  ⟨(some 41), none, .bin .mul (.t 40) (.c (.int .u32 2))⟩,
  ⟨(some 10), none, .mv (.t 38)⟩,
  ⟨(some 11), none, .mv (.t 41)⟩]
abbrev x27r7 : List XOper := [
  ⟨(some 42), none, .mv (.t 0)⟩,
  ⟨(some 43), none, .mv (.t 4)⟩,
  ⟨(some 44), none, .bin .sub (.t 43) (.c (.int .i64 1))⟩,
  ⟨(some 45), none, .mv (.t 0)⟩,
  ⟨(some 46), none, .mv (.t 4)⟩,
  ⟨(some 47), none, .bin .sub (.t 46) (.c (.int .i64 2))⟩,
  ⟨(some 48), none, .mv (.t 9)⟩,
  ⟨(some 49), none, .bin .add (.t 48) (.c (.int .u32 1))⟩,
  ⟨(some 50), none, .ixS (.c (.str ⟨#[48, 48, 48, 49, 48, 50, 48, 51, 48, 52, 48, 53, 48, 54, 48, 55, 48, 56, 48, 57, 49, 48, 49, 49, 49, 50, 49, 51, 49, 52, 49, 53, 49, 54, 49, 55, 49, 56, 49, 57, 50, 48, 50, 49, 50, 50, 50, 51, 50, 52, 50, 53, 50, 54, 50, 55, 50, 56, 50, 57, 51, 48, 51, 49, 51, 50, 51, 51, 51, 52, 51, 53, 51, 54, 51, 55, 51, 56, 51, 57, 52, 48, 52, 49, 52, 50, 52, 51, 52, 52, 52, 53, 52, 54, 52, 55, 52, 56, 52, 57, 53, 48, 53, 49, 53, 50, 53, 51, 53, 52, 53, 53, 53, 54, 53, 55, 53, 56, 53, 57, 54, 48, 54, 49, 54, 50, 54, 51, 54, 52, 54, 53, 54, 54, 54, 55, 54, 56, 54, 57, 55, 48, 55, 49, 55, 50, 55, 51, 55, 52, 55, 53, 55, 54, 55, 55, 55, 56, 55, 57, 56, 48, 56, 49, 56, 50, 56, 51, 56, 52, 56, 53, 56, 54, 56, 55, 56, 56, 56, 57, 57, 48, 57, 49, 57, 50, 57, 51, 57, 52, 57, 53, 57, 54, 57, 55, 57, 56, 57, 57]⟩)) (.t 49)⟩,
  ⟨(some 51), none, .mv (.t 9)⟩,
  ⟨(some 52), none, .ixS (.c (.str ⟨#[48, 48, 48, 49, 48, 50, 48, 51, 48, 52, 48, 53, 48, 54, 48, 55, 48, 56, 48, 57, 49, 48, 49, 49, 49, 50, 49, 51, 49, 52, 49, 53, 49, 54, 49, 55, 49, 56, 49, 57, 50, 48, 50, 49, 50, 50, 50, 51, 50, 52, 50, 53, 50, 54, 50, 55, 50, 56, 50, 57, 51, 48, 51, 49, 51, 50, 51, 51, 51, 52, 51, 53, 51, 54, 51, 55, 51, 56, 51, 57, 52, 48, 52, 49, 52, 50, 52, 51, 52, 52, 52, 53, 52, 54, 52, 55, 52, 56, 52, 57, 53, 48, 53, 49, 53, 50, 53, 51, 53, 52, 53, 53, 53, 54, 53, 55, 53, 56, 53, 57, 54, 48, 54, 49, 54, 50, 54, 51, 54, 52, 54, 53, 54, 54, 54, 55, 54, 56, 54, 57, 55, 48, 55, 49, 55, 50, 55, 51, 55, 52, 55, 53, 55, 54, 55, 55, 55, 56, 55, 57, 56, 48, 56, 49, 56, 50, 56, 51, 56, 52, 56, 53, 56, 54, 56, 55, 56, 56, 56, 57, 57, 48, 57, 49, 57, 50, 57, 51, 57, 52, 57, 53, 57, 54, 57, 55, 57, 56, 57, 57]⟩)) (.t 51)⟩,
  ⟨(some 53), none, .iaS 1 (.t 42) (.t 44)⟩,
  ⟨none, none, .store 1 (.t 53) (.t 50)⟩,
  ⟨(some 54), none, .iaS 1 (.t 45) (.t 47)⟩,
  ⟨none, none, .store 1 (.t 54) (.t 52)⟩]
abbrev x27r8 : List XOper := [
  ⟨(some 55), none, .mv (.t 0)⟩,
  ⟨(some 56), none, .mv (.t 4)⟩,
  ⟨(some 57), none, .bin .sub (.t 56) (.c (.int .i64 3))⟩,
  ⟨(some 58), none, .mv (.t 0)⟩,
  ⟨(some 59), none, .mv (.t 4)⟩,
  ⟨(some 60), none, .bin .sub (.t 59) (.c (.int .i64 4))⟩,
  ⟨(some 61), none, .mv (.t 8)⟩,
  ⟨(some 62), none, .bin .add (.t 61) (.c (.int .u32 1))⟩,
  ⟨(some 63), none, .ixS (.c (.str ⟨#[48, 48, 48, 49, 48, 50, 48, 51, 48, 52, 48, 53, 48, 54, 48, 55, 48, 56, 48, 57, 49, 48, 49, 49, 49, 50, 49, 51, 49, 52, 49, 53, 49, 54, 49, 55, 49, 56, 49, 57, 50, 48, 50, 49, 50, 50, 50, 51, 50, 52, 50, 53, 50, 54, 50, 55, 50, 56, 50, 57, 51, 48, 51, 49, 51, 50, 51, 51, 51, 52, 51, 53, 51, 54, 51, 55, 51, 56, 51, 57, 52, 48, 52, 49, 52, 50, 52, 51, 52, 52, 52, 53, 52, 54, 52, 55, 52, 56, 52, 57, 53, 48, 53, 49, 53, 50, 53, 51, 53, 52, 53, 53, 53, 54, 53, 55, 53, 56, 53, 57, 54, 48, 54, 49, 54, 50, 54, 51, 54, 52, 54, 53, 54, 54, 54, 55, 54, 56, 54, 57, 55, 48, 55, 49, 55, 50, 55, 51, 55, 52, 55, 53, 55, 54, 55, 55, 55, 56, 55, 57, 56, 48, 56, 49, 56, 50, 56, 51, 56, 52, 56, 53, 56, 54, 56, 55, 56, 56, 56, 57, 57, 48, 57, 49, 57, 50, 57, 51, 57, 52, 57, 53, 57, 54, 57, 55, 57, 56, 57, 57]⟩)) (.t 62)⟩,
  ⟨(some 64), none, .mv (.t 8)⟩,
  ⟨(some 65), none, .ixS (.c (.str ⟨#[48, 48, 48, 49, 48, 50, 48, 51, 48, 52, 48, 53, 48, 54, 48, 55, 48, 56, 48, 57, 49, 48, 49, 49, 49, 50, 49, 51, 49, 52, 49, 53, 49, 54, 49, 55, 49, 56, 49, 57, 50, 48, 50, 49, 50, 50, 50, 51, 50, 52, 50, 53, 50, 54, 50, 55, 50, 56, 50, 57, 51, 48, 51, 49, 51, 50, 51, 51, 51, 52, 51, 53, 51, 54, 51, 55, 51, 56, 51, 57, 52, 48, 52, 49, 52, 50, 52, 51, 52, 52, 52, 53, 52, 54, 52, 55, 52, 56, 52, 57, 53, 48, 53, 49, 53, 50, 53, 51, 53, 52, 53, 53, 53, 54, 53, 55, 53, 56, 53, 57, 54, 48, 54, 49, 54, 50, 54, 51, 54, 52, 54, 53, 54, 54, 54, 55, 54, 56, 54, 57, 55, 48, 55, 49, 55, 50, 55, 51, 55, 52, 55, 53, 55, 54, 55, 55, 55, 56, 55, 57, 56, 48, 56, 49, 56, 50, 56, 51, 56, 52, 56, 53, 56, 54, 56, 55, 56, 56, 56, 57, 57, 48, 57, 49, 57, 50, 57, 51, 57, 52, 57, 53, 57, 54, 57, 55, 57, 56, 57, 57]⟩)) (.t 64)⟩,
  ⟨(some 66), none, .iaS 1 (.t 55) (.t 57)⟩,
  ⟨none, none, .store 1 (.t 66) (.t 63)⟩,
  ⟨(some 67), none, .iaS 1 (.t 58) (.t 60)⟩,
  ⟨none, none, .store 1 (.t 67) (.t 65)⟩]
abbrev x27r9 : List XOper := [
  ⟨(some 68), none, .mv (.t 0)⟩,
  ⟨(some 69), none, .mv (.t 4)⟩,
  ⟨(some 70), none, .bin .sub (.t 69) (.c (.int .i64 5))⟩,
  ⟨(some 71), none, .mv (.t 0)⟩,
  ⟨(some 72), none, .mv (.t 4)⟩,
  ⟨(some 73), none, .bin .sub (.t 72) (.c (.int .i64 6))⟩,
  ⟨(some 74), none, .mv (.t 11)⟩,
  ⟨(some 75), none, .bin .add (.t 74) (.c (.int .u32 1))⟩,
  ⟨(some 76), none, .ixS (.c (.str ⟨#[48, 48, 48, 49, 48, 50, 48, 51, 48, 52, 48, 53, 48, 54, 48, 55, 48, 56, 48, 57, 49, 48, 49, 49, 49, 50, 49, 51, 49, 52, 49, 53, 49, 54, 49, 55, 49, 56, 49, 57, 50, 48, 50, 49, 50, 50, 50, 51, 50, 52, 50, 53, 50, 54, 50, 55, 50, 56, 50, 57, 51, 48, 51, 49, 51, 50, 51, 51, 51, 52, 51, 53, 51, 54, 51, 55, 51, 56, 51, 57, 52, 48, 52, 49, 52, 50, 52, 51, 52, 52, 52, 53, 52, 54, 52, 55, 52, 56, 52, 57, 53, 48, 53, 49, 53, 50, 53, 51, 53, 52, 53, 53, 53, 54, 53, 55, 53, 56, 53, 57, 54, 48, 54, 49, 54, 50, 54, 51, 54, 52, 54, 53, 54, 54, 54, 55, 54, 56, 54, 57, 55, 48, 55, 49, 55, 50, 55, 51, 55, 52, 55, 53, 55, 54, 55, 55, 55, 56, 55, 57, 56, 48, 56, 49, 56, 50, 56, 51, 56, 52, 56, 53, 56, 54, 56, 55, 56, 56, 56, 57, 57, 48, 57, 49, 57, 50, 57, 51, 57, 52, 57, 53, 57, 54, 57, 55, 57, 56, 57, 57]⟩)) (.t 75)⟩,
  ⟨(some 77), none, .mv (.t 11)⟩,
  ⟨(some 78), none, .ixS (.c (.str ⟨#[48, 48, 48, 49, 48, 50, 48, 51, 48, 52, 48, 53, 48, 54, 48, 55, 48, 56, 48, 57, 49, 48, 49, 49, 49, 50, 49, 51, 49, 52, 49, 53, 49, 54, 49, 55, 49, 56, 49, 57, 50, 48, 50, 49, 50, 50, 50, 51, 50, 52, 50, 53, 50, 54, 50, 55, 50, 56, 50, 57, 51, 48, 51, 49, 51, 50, 51, 51, 51, 52, 51, 53, 51, 54, 51, 55, 51, 56, 51, 57, 52, 48, 52, 49, 52, 50, 52, 51, 52, 52, 52, 53, 52, 54, 52, 55, 52, 56, 52, 57, 53, 48, 53, 49, 53, 50, 53, 51, 53, 52, 53, 53, 53, 54, 53, 55, 53, 56, 53, 57, 54, 48, 54, 49, 54, 50, 54, 51, 54, 52, 54, 53, 54, 54, 54, 55, 54, 56, 54, 57, 55, 48, 55, 49, 55, 50, 55, 51, 55, 52, 55, 53, 55, 54, 55, 55, 55, 56, 55, 57, 56, 48, 56, 49, 56, 50, 56, 51, 56, 52, 56, 53, 56, 54, 56, 55, 56, 56, 56, 57, 57, 48, 57, 49, 57, 50, 57, 51, 57, 52, 57, 53, 57, 54, 57, 55, 57, 56, 57, 57]⟩)) (.t 77)⟩,
  ⟨(some 79), none, .iaS 1 (.t 68) (.t 70)⟩,
  ⟨none, none, .store 1 (.t 79) (.t 76)⟩,
  ⟨(some 80), none, .iaS 1 (.t 71) (.t 73)⟩,
  ⟨none, none, .store 1 (.t 80) (.t 78)⟩]
abbrev x27r10 : List XOper := [
  ⟨(some 81), none, .mv (.t 0)⟩,
  ⟨(some 82), none, .mv (.t 4)⟩,
  ⟨(some 83), none, .bin .sub (.t 82) (.c (.int .i64 7))⟩,
  ⟨(some 84), none, .mv (.t 0)⟩,
  ⟨(some 85), none, .mv (.t 4)⟩,
  ⟨(some 86), none, .bin .sub (.t 85) (.c (.int .i64 8))⟩,
  ⟨(some 87), none, .mv (.t 10)⟩,
  ⟨(some 88), none, .bin .add (.t 87) (.c (.int .u32 1))⟩,
  ⟨(some 89), none, .ixS (.c (.str ⟨#[48, 48, 48, 49, 48, 50, 48, 51, 48, 52, 48, 53, 48, 54, 48, 55, 48, 56, 48, 57, 49, 48, 49, 49, 49, 50, 49, 51, 49, 52, 49, 53, 49, 54, 49, 55, 49, 56, 49, 57, 50, 48, 50, 49, 50, 50, 50, 51, 50, 52, 50, 53, 50, 54, 50, 55, 50, 56, 50, 57, 51, 48, 51, 49, 51, 50, 51, 51, 51, 52, 51, 53, 51, 54, 51, 55, 51, 56, 51, 57, 52, 48, 52, 49, 52, 50, 52, 51, 52, 52, 52, 53, 52, 54, 52, 55, 52, 56, 52, 57, 53, 48, 53, 49, 53, 50, 53, 51, 53, 52, 53, 53, 53, 54, 53, 55, 53, 56, 53, 57, 54, 48, 54, 49, 54, 50, 54, 51, 54, 52, 54, 53, 54, 54, 54, 55, 54, 56, 54, 57, 55, 48, 55, 49, 55, 50, 55, 51, 55, 52, 55, 53, 55, 54, 55, 55, 55, 56, 55, 57, 56, 48, 56, 49, 56, 50, 56, 51, 56, 52, 56, 53, 56, 54, 56, 55, 56, 56, 56, 57, 57, 48, 57, 49, 57, 50, 57, 51, 57, 52, 57, 53, 57, 54, 57, 55, 57, 56, 57, 57]⟩)) (.t 88)⟩,
  ⟨(some 90), none, .mv (.t 10)⟩,
  ⟨(some 91), none, .ixS (.c (.str ⟨#[48, 48, 48, 49, 48, 50, 48, 51, 48, 52, 48, 53, 48, 54, 48, 55, 48, 56, 48, 57, 49, 48, 49, 49, 49, 50, 49, 51, 49, 52, 49, 53, 49, 54, 49, 55, 49, 56, 49, 57, 50, 48, 50, 49, 50, 50, 50, 51, 50, 52, 50, 53, 50, 54, 50, 55, 50, 56, 50, 57, 51, 48, 51, 49, 51, 50, 51, 51, 51, 52, 51, 53, 51, 54, 51, 55, 51, 56, 51, 57, 52, 48, 52, 49, 52, 50, 52, 51, 52, 52, 52, 53, 52, 54, 52, 55, 52, 56, 52, 57, 53, 48, 53, 49, 53, 50, 53, 51, 53, 52, 53, 53, 53, 54, 53, 55, 53, 56, 53, 57, 54, 48, 54, 49, 54, 50, 54, 51, 54, 52, 54, 53, 54, 54, 54, 55, 54, 56, 54, 57, 55, 48, 55, 49, 55, 50, 55, 51, 55, 52, 55, 53, 55, 54, 55, 55, 55, 56, 55, 57, 56, 48, 56, 49, 56, 50, 56, 51, 56, 52, 56, 53, 56, 54, 56, 55, 56, 56, 56, 57, 57, 48, 57, 49, 57, 50, 57, 51, 57, 52, 57, 53, 57, 54, 57, 55, 57, 56, 57, 57]⟩)) (.t 90)⟩,
  ⟨(some 92), none, .iaS 1 (.t 81) (.t 83)⟩,
  ⟨none, none, .store 1 (.t 92) (.t 89)⟩,
  ⟨(some 93), none, .iaS 1 (.t 84) (.t 86)⟩,
  ⟨none, none, .store 1 (.t 93) (.t 91)⟩]
abbrev x27r11 : List XOper := [
  ⟨(some 94), none, .mv (.t 4)⟩,
  ⟨(some 95), none, .bin .sub (.t 94) (.c (.int .i64 8))⟩,
  ⟨(some 4), none, .mv (.t 95)⟩]
abbrev x27l1 : XCode :=
  (.seq (.seq (.reg 1 x27r1 none)
  (.cond (.t 20)
    .skip
    (.exit 0)))
  (.block 1
    (.seq (.reg 2 x27r2 none)
    (.seq (.reg 3 x27r3 none)
    (.seq (.reg 4 x27r4 none)
    (.seq (.reg 5 x27r5 none)
    (.seq (.reg 6 x27r6 none)
    (.seq (.reg 7 x27r7 (some ⟨[]⟩))
    (.seq (.reg 8 x27r8 (some ⟨[]⟩))
    (.seq (.reg 9 x27r9 (some ⟨[]⟩))
    (.seq (.reg 10 x27r10 (some ⟨[]⟩))
    (.reg 11 x27r11 none))))))))))))
abbrev x27r12 : List XOper := [
  ⟨(some 96), none, .mv (.t 1)⟩,
  ⟨(some 97), none, .conv .u32 (.t 96)⟩,
  ⟨(some 12), none, .mv (.t 97)⟩]
abbrev x27r13 : List XOper := [
  ⟨(some 98), none, .mv (.t 4)⟩,
  ⟨(some 99), none, .bin .geq (.t 98) (.c (.int .i64 4))⟩]
abbrev x27r14 : List XOper := [
  ⟨(some 100), none, .mv (.t 12)⟩,
  ⟨(some 101), none, .bin .rem (.t 100) (.c (.int .u32 10000))⟩,
  ⟨(some 13), none, .mv (.t 101)⟩]
abbrev x27r15 : List XOper := [
  ⟨(some 102), none, .mv (.t 12)⟩,
  ⟨(some 103), none, .bin .quo (.t 102) (.c (.int .u32 10000))⟩,
  ⟨(some 12), none, .mv (.t 103)⟩]
abbrev x27r16 : List XOper := [
  ⟨(some 104), none, .mv (.t 13)⟩,
  ⟨(some 105), none, .bin .quo (.t 104) (.c (.int .u32 100))⟩,
  ⟨(some 106), none, .bin .mul (.t 105) (.c (.int .u32 2))⟩,
  ⟨(some 107), none, .mv (.t 13)⟩,
  ⟨(some 108), none, .bin .rem (.t 107) (.c (.int .u32 100))⟩,
  ⟨(some 109), none, .bin .mul (.t 108) (.c (.int .u32 2))⟩,
  ⟨(some 14), none, .mv (.t 106)⟩,
  ⟨(some 15), none, .mv (.t 109)⟩]
abbrev x27r17 : List XOper := [
  ⟨(some 110), none, .mv (.t 0)⟩,
  ⟨(some 111), none, .mv (.t 4)⟩,
  ⟨(some 112), none, .bin .sub (.t 111) (.c (.int .i64 1))⟩,
  ⟨(some 113), none, .mv (.t 0)⟩,
  ⟨(some 114), none, .mv (.t 4)⟩,
  ⟨(some 115), none, .bin .sub (.t 114) (.c (.int .i64 2))⟩,
  ⟨(some 116), none, .mv (.t 15)⟩,
  ⟨(some 117), none, .bin .add (.t 116) (.c (.int .u32 1))⟩,
  ⟨(some 118), none, .ixS (.c (.str ⟨#[48, 48, 48, 49, 48, 50, 48, 51, 48, 52, 48, 53, 48, 54, 48, 55, 48, 56, 48, 57, 49, 48, 49, 49, 49, 50, 49, 51, 49, 52, 49, 53, 49, 54, 49, 55, 49, 56, 49, 57, 50, 48, 50, 49, 50, 50, 50, 51, 50, 52, 50, 53, 50, 54, 50, 55, 50, 56, 50, 57, 51, 48, 51, 49, 51, 50, 51, 51, 51, 52, 51, 53, 51, 54, 51, 55, 51, 56, 51, 57, 52, 48, 52, 49, 52, 50, 52, 51, 52, 52, 52, 53, 52, 54, 52, 55, 52, 56, 52, 57, 53, 48, 53, 49, 53, 50, 53, 51, 53, 52, 53, 53, 53, 54, 53, 55, 53, 56, 53, 57, 54, 48, 54, 49, 54, 50, 54, 51, 54, 52, 54, 53, 54, 54, 54, 55, 54, 56, 54, 57, 55, 48, 55, 49, 55, 50, 55, 51, 55, 52, 55, 53, 55, 54, 55, 55, 55, 56, 55, 57, 56, 48, 56, 49, 56, 50, 56, 51, 56, 52, 56, 53, 56, 54, 56, 55, 56, 56, 56, 57, 57, 48, 57, 49, 57, 50, 57, 51, 57, 52, 57, 53, 57, 54, 57, 55, 57, 56, 57, 57]⟩)) (.t 117)⟩,
  ⟨(some 119), none, .mv (.t 15)⟩,
  ⟨(some 120), none, .ixS (.c (.str ⟨#[48, 48, 48, 49, 48, 50, 48, 51, 48, 52, 48, 53, 48, 54, 48, 55, 48, 56, 48, 57, 49, 48, 49, 49, 49, 50, 49, 51, 49, 52, 49, 53, 49, 54, 49, 55, 49, 56, 49, 57, 50, 48, 50, 49, 50, 50, 50, 51, 50, 52, 50, 53, 50, 54, 50, 55, 50, 56, 50, 57, 51, 48, 51, 49, 51, 50, 51, 51, 51, 52, 51, 53, 51, 54, 51, 55, 51, 56, 51, 57, 52, 48, 52, 49, 52, 50, 52, 51, 52, 52, 52, 53, 52, 54, 52, 55, 52, 56, 52, 57, 53, 48, 53, 49, 53, 50, 53, 51, 53, 52, 53, 53, 53, 54, 53, 55, 53, 56, 53, 57, 54, 48, 54, 49, 54, 50, 54, 51, 54, 52, 54, 53, 54, 54, 54, 55, 54, 56, 54, 57, 55, 48, 55, 49, 55, 50, 55, 51, 55, 52, 55, 53, 55, 54, 55, 55, 55, 56, 55, 57, 56, 48, 56, 49, 56, 50, 56, 51, 56, 52, 56, 53, 56, 54, 56, 55, 56, 56, 56, 57, 57, 48, 57, 49, 57, 50, 57, 51, 57, 52, 57, 53, 57, 54, 57, 55, 57, 56, 57, 57]⟩)) (.t 119)⟩,
  ⟨(some 121), none, .iaS 1 (.t 110) (.t 112)⟩,
  ⟨none, none, .store 1 (.t 121) (.t 118)⟩,
  ⟨(some 122), none, .iaS 1 (.t 113) (.t 115)⟩,
  ⟨none, none, .store 1 (.t 122) (.t 120)⟩]
abbrev x27r18 : List XOper := [
  ⟨(some 123), none, .mv (.t 0)⟩,
  ⟨(some 124), none, .mv (.t 4)⟩,
  ⟨(some 125), none, .bin .sub (.t 124) (.c (.int .i64 3))⟩,
  ⟨(some 126), none, .mv (.t 0)⟩,
  ⟨(some 127), none, .mv (.t 4)⟩,
  ⟨(some 128), none, .bin .sub (.t 127) (.c (.int .i64 4))⟩,
  ⟨(some 129), none, .mv (.t 14)⟩,
  ⟨(some 130), none, .bin .add (.t 129) (.c (.int .u32 1))⟩,
  ⟨(some 131), none, .ixS (.c (.str ⟨#[48, 48, 48, 49, 48, 50, 48, 51, 48, 52, 48, 53, 48, 54, 48, 55, 48, 56, 48, 57, 49, 48, 49, 49, 49, 50, 49, 51, 49, 52, 49, 53, 49, 54, 49, 55, 49, 56, 49, 57, 50, 48, 50, 49, 50, 50, 50, 51, 50, 52, 50, 53, 50, 54, 50, 55, 50, 56, 50, 57, 51, 48, 51, 49, 51, 50, 51, 51, 51, 52, 51, 53, 51, 54, 51, 55, 51, 56, 51, 57, 52, 48, 52, 49, 52, 50, 52, 51, 52, 52, 52, 53, 52, 54, 52, 55, 52, 56, 52, 57, 53, 48, 53, 49, 53, 50, 53, 51, 53, 52, 53, 53, 53, 54, 53, 55, 53, 56, 53, 57, 54, 48, 54, 49, 54, 50, 54, 51, 54, 52, 54, 53, 54, 54, 54, 55, 54, 56, 54, 57, 55, 48, 55, 49, 55, 50, 55, 51, 55, 52, 55, 53, 55, 54, 55, 55, 55, 56, 55, 57, 56, 48, 56, 49, 56, 50, 56, 51, 56, 52, 56, 53, 56, 54, 56, 55, 56, 56, 56, 57, 57, 48, 57, 49, 57, 50, 57, 51, 57, 52, 57, 53, 57, 54, 57, 55, 57, 56, 57, 57]⟩)) (.t 130)⟩,
  ⟨(some 132), none, .mv (.t 14)⟩,
  ⟨(some 133), none, .ixS (.c (.str ⟨#[48, 48, 48, 49, 48, 50, 48, 51, 48, 52, 48, 53, 48, 54, 48, 55, 48, 56, 48, 57, 49, 48, 49, 49, 49, 50, 49, 51, 49, 52, 49, 53, 49, 54, 49, 55, 49, 56, 49, 57, 50, 48, 50, 49, 50, 50, 50, 51, 50, 52, 50, 53, 50, 54, 50, 55, 50, 56, 50, 57, 51, 48, 51, 49, 51, 50, 51, 51, 51, 52, 51, 53, 51, 54, 51, 55, 51, 56, 51, 57, 52, 48, 52, 49, 52, 50, 52, 51, 52, 52, 52, 53, 52, 54, 52, 55, 52, 56, 52, 57, 53, 48, 53, 49, 53, 50, 53, 51, 53, 52, 53, 53, 53, 54, 53, 55, 53, 56, 53, 57, 54, 48, 54, 49, 54, 50, 54, 51, 54, 52, 54, 53, 54, 54, 54, 55, 54, 56, 54, 57, 55, 48, 55, 49, 55, 50, 55, 51, 55, 52, 55, 53, 55, 54, 55, 55, 55, 56, 55, 57, 56, 48, 56, 49, 56, 50, 56, 51, 56, 52, 56, 53, 56, 54, 56, 55, 56, 56, 56, 57, 57, 48, 57, 49, 57, 50, 57, 51, 57, 52, 57, 53, 57, 54, 57, 55, 57, 56, 57, 57]⟩)) (.t 132)⟩,
  ⟨(some 134), none, .iaS 1 (.t 123) (.t 125)⟩,
  ⟨none, none, .store 1 (.t 134) (.t 131)⟩,
  ⟨(some 135), none, .iaS 1 (.t 126) (.t 128)⟩,
  ⟨none, none, .store 1 (.t 135) (.t 133)⟩]
abbrev x27r19 : List XOper := [
  ⟨(some 136), none, .mv (.t 4)⟩,
  ⟨(some 137), none, .bin .sub (.t 136) (.c (.int .i64 4))⟩,
  ⟨(some 4), none, .mv (.t 137)⟩]
abbrev x27r20 : List XOper := [
  ⟨(some 138), none, .mv (.t 4)⟩,
  ⟨(some 139), none, .bin .geq (.t 138) (.c (.int .i64 2))⟩]
abbrev x27r21 : List XOper := [
  ⟨(some 140), none, .mv (.t 12)⟩,
  ⟨(some 141), none, .bin .rem (.t 140) (.c (.int .u32 100))⟩,
  ⟨(some 142), none, .bin .mul (.t 141) (.c (.int .u32 2))⟩,
  ⟨(some 16), none, .mv (.t 142)⟩]
abbrev x27r22 : List XOper := [
  ⟨(some 143), none, .mv (.t 12)⟩,
  ⟨(some 144), none, .bin .quo (.t 143) (.c (.int .u32 100))⟩,
  ⟨(some 12), none, .mv (.t 144)⟩]
abbrev x27r23 : List XOper := [
  ⟨(some 145), none, .mv (.t 0)⟩,
  ⟨(some 146), none, .mv (.t 4)⟩,
  ⟨(some 147), none, .bin .sub (.t 146) (.c (.int .i64 1))⟩,
  ⟨(some 148), none, .mv (.t 0)⟩,
  ⟨(some 149), none, .mv (.t 4)⟩,
  ⟨(some 150), none, .bin .sub (.t 149) (.c (.int .i64 2))⟩,
  ⟨(some 151), none, .mv (.t 16)⟩,
  ⟨(some 152), none, .bin .add (.t 151) (.c (.int .u32 1))⟩,
  ⟨(some 153), none, .ixS (.c (.str ⟨#[48, 48, 48, 49, 48, 50, 48, 51, 48, 52, 48, 53, 48, 54, 48, 55, 48, 56, 48, 57, 49, 48, 49, 49, 49, 50, 49, 51, 49, 52, 49, 53, 49, 54, 49, 55, 49, 56, 49, 57, 50, 48, 50, 49, 50, 50, 50, 51, 50, 52, 50, 53, 50, 54, 50, 55, 50, 56, 50, 57, 51, 48, 51, 49, 51, 50, 51, 51, 51, 52, 51, 53, 51, 54, 51, 55, 51, 56, 51, 57, 52, 48, 52, 49, 52, 50, 52, 51, 52, 52, 52, 53, 52, 54, 52, 55, 52, 56, 52, 57, 53, 48, 53, 49, 53, 50, 53, 51, 53, 52, 53, 53, 53, 54, 53, 55, 53, 56, 53, 57, 54, 48, 54, 49, 54, 50, 54, 51, 54, 52, 54, 53, 54, 54, 54, 55, 54, 56, 54, 57, 55, 48, 55, 49, 55, 50, 55, 51, 55, 52, 55, 53, 55, 54, 55, 55, 55, 56, 55, 57, 56, 48, 56, 49, 56, 50, 56, 51, 56, 52, 56, 53, 56, 54, 56, 55, 56, 56, 56, 57, 57, 48, 57, 49, 57, 50, 57, 51, 57, 52, 57, 53, 57, 54, 57, 55, 57, 56, 57, 57]⟩)) (.t 152)⟩,
  ⟨(some 154), none, .mv (.t 16)⟩,
  ⟨(some 155), none, .ixS (.c (.str ⟨#[48, 48, 48, 49, 48, 50, 48, 51, 48, 52, 48, 53, 48, 54, 48, 55, 48, 56, 48, 57, 49, 48, 49, 49, 49, 50, 49, 51, 49, 52, 49, 53, 49, 54, 49, 55, 49, 56, 49, 57, 50, 48, 50, 49, 50, 50, 50, 51, 50, 52, 50, 53, 50, 54, 50, 55, 50, 56, 50, 57, 51, 48, 51, 49, 51, 50, 51, 51, 51, 52, 51, 53, 51, 54, 51, 55, 51, 56, 51, 57, 52, 48, 52, 49, 52, 50, 52, 51, 52, 52, 52, 53, 52, 54, 52, 55, 52, 56, 52, 57, 53, 48, 53, 49, 53, 50, 53, 51, 53, 52, 53, 53, 53, 54, 53, 55, 53, 56, 53, 57, 54, 48, 54, 49, 54, 50, 54, 51, 54, 52, 54, 53, 54, 54, 54, 55, 54, 56, 54, 57, 55, 48, 55, 49, 55, 50, 55, 51, 55, 52, 55, 53, 55, 54, 55, 55, 55, 56, 55, 57, 56, 48, 56, 49, 56, 50, 56, 51, 56, 52, 56, 53, 56, 54, 56, 55, 56, 56, 56, 57, 57, 48, 57, 49, 57, 50, 57, 51, 57, 52, 57, 53, 57, 54, 57, 55, 57, 56, 57, 57]⟩)) (.t 154)⟩,
  ⟨(some 156), none, .iaS 1 (.t 145) (.t 147)⟩,
  ⟨none, none, .store 1 (.t 156) (.t 153)⟩,
  ⟨(some 157), none, .iaS 1 (.t 148) (.t 150)⟩,
  ⟨none, none, .store 1 (.t 157) (.t 155)⟩]
abbrev x27r24 : List XOper := [
  ⟨(some 158), none, .mv (.t 4)⟩,
  ⟨(some 159), none, .bin .sub (.t 158) (.c (.int .i64 2))⟩,
  ⟨(some 4), none, .mv (.t 159)⟩]
abbrev x27r25 : List XOper := [
  ⟨(some 160), none, .mv (.t 4)⟩,
  ⟨(some 161), none, .bin .gtr (.t 160) (.c (.int .i64 0))⟩]
abbrev x27r26 : List XOper := [
  ⟨(some 162), none, .mv (.t 0)⟩,
  ⟨(some 163), none, .mv (.t 12)⟩,
  ⟨(some 164), none, .bin .add (.c (.int .u32 48)) (.t 163)⟩,
  ⟨(some 165), none, .conv .u8 (.t 164)⟩,
  ⟨(some 166), none, .iaS 1 (.t 162) (.c (.int .i64 0))⟩,
  ⟨none, none, .store 1 (.t 166) (.t 165)⟩]
/-- internal/strconv.formatBase10 -/
abbrev x27b : XCode :=
  (.seq (.reg 0 x27r0 none)
  (.seq (.block 0
    (.loop x27l1))
  (.seq (.reg 12 x27r12 none)
  (.seq (.seq (.reg 13 x27r13 none)
  (.cond (.t 99)
    (.seq (.reg 14 x27r14 none)
    (.seq (.reg 15 x27r15 none)
    (.seq (.reg 16 x27r16 none)
    (.seq (.reg 17 x27r17 (some ⟨[]⟩))
    (.seq (.reg 18 x27r18 (some ⟨[]⟩))
    (.reg 19 x27r19 none))))))
    .skip))
  (.seq (.seq (.reg 20 x27r20 none)
  (.cond (.t 139)
    (.seq (.reg 21 x27r21 none)
    (.seq (.reg 22 x27r22 none)
    (.seq (.reg 23 x27r23 (some ⟨[]⟩))
    (.reg 24 x27r24 none))))
    .skip))
  (.seq (.reg 25 x27r25 none)
  (.cond (.t 161)
    (.reg 26 x27r26 none)
    .skip)))))))
def x27 : XFunc := ⟨167, 2, [], x27b⟩
theorem x27_ok : chkF Tryd.prog Tryd.f27 x27 = true := by kernel_rfl
theorem x27_eq : x27.body = x27b ∧ x27.res = [] ∧ x27.np = 2 := ⟨rfl, rfl, rfl⟩

abbrev x29r0 : List XOper := [
  ⟨(some 2), none, .mv (.c (.int .i64 0))⟩]
abbrev x29r1 : List XOper := [
  ⟨(some 3), none, .mv (.t 0)⟩,
  ⟨(some 4), none, .bin .geq (.t 3) (.c (.int .u64 4294967296))⟩]
abbrev x29r2 : List XOper := [
  ⟨(some 5), none, .mv (.t 0)⟩,
  ⟨(some 6), none, .bin .shr (.t 5) (.c (.int .u64 32))⟩,
  ⟨(some 0), none, .mv (.t 6)⟩]
abbrev x29r3 : List XOper := [
  ⟨(some 2), none, .mv (.c (.int .i64 32))⟩]
abbrev x29r4 : List XOper := [
  ⟨(some 7), none, .mv (.t 0)⟩,
  ⟨(some 8), none, .bin .geq (.t 7) (.c (.int .u64 65536))⟩]
abbrev x29r5 : List XOper := [
  ⟨(some 9), none, .mv (.t 0)⟩,
  ⟨(some 10), none, .bin .shr (.t 9) (.c (.int .u64 16))⟩,
  ⟨(some 0), none, .mv (.t 10)⟩]
abbrev x29r6 : List XOper := [
  ⟨(some 11), none, .mv (.t 2)⟩,
  ⟨(some 12), none, .bin .add (.t 11) (.c (.int .i64 16))⟩,
  ⟨(some 2), none, .mv (.t 12)⟩]
abbrev x29r7 : List XOper := [
  ⟨(some 13), none, .mv (.t 0)⟩,
  ⟨(some 14), none, .bin .geq (.t 13) (.c (.int .u64 256))⟩]
abbrev x29r8 : List XOper := [
  ⟨(some 15), none, .mv (.t 0)⟩,
  ⟨(some 16), none, .bin .shr (.t 15) (.c (.int .u64 8))⟩,
  ⟨(some 0), none, .mv (.t 16)⟩]
abbrev x29r9 : List XOper := [
  ⟨(some 17), none, .mv (.t 2)⟩,
  ⟨(some 18), none, .bin .add (.t 17) (.c (.int .i64 8))⟩,
  ⟨(some 2), none, .mv (.t 18)⟩]
abbrev x29r10 : List XOper := [
  ⟨(some 19), none, .mv (.t 2)⟩,
  ⟨(some 20), none, .mv (.t 0)⟩,
  ⟨(some 21), none, .conv .u8 (.t 20)⟩,
  ⟨(some 22), none, .ixS (.c (.str ⟨#[0, 1, 2, 2, 3, 3, 3, 3, 4, 4, 4, 4, 4, 4, 4, 4, 5, 5, 5, 5, 5, 5, 5, 5, 5, 5, 5, 5, 5, 5, 5, 5, 6, 6, 6, 6, 6, 6, 6, 6, 6, 6, 6, 6, 6, 6, 6, 6, 6, 6, 6, 6, 6, 6, 6, 6, 6, 6, 6, 6, 6, 6, 6, 6, 7, 7, 7, 7, 7, 7, 7, 7, 7, 7, 7, 7, 7, 7, 7, 7, 7, 7, 7, 7, 7, 7, 7, 7, 7, 7, 7, 7, 7, 7, 7, 7, 7, 7, 7, 7, 7, 7, 7, 7, 7, 7, 7, 7, 7, 7, 7, 7, 7, 7, 7, 7, 7, 7, 7, 7, 7, 7, 7, 7, 7, 7, 7, 7, 8, 8, 8, 8, 8, 8, 8, 8, 8, 8, 8, 8, 8, 8, 8, 8, 8, 8, 8, 8, 8, 8, 8, 8, 8, 8, 8, 8, 8, 8, 8, 8, 8, 8, 8, 8, 8, 8, 8, 8, 8, 8, 8, 8, 8, 8, 8, 8, 8, 8, 8, 8, 8, 8, 8, 8, 8, 8, 8, 8, 8, 8, 8, 8, 8, 8, 8, 8, 8, 8, 8, 8, 8, 8, 8, 8, 8, 8, 8, 8, 8, 8, 8, 8, 8, 8, 8, 8, 8, 8, 8, 8, 8, 8, 8, 8, 8, 8, 8, 8, 8, 8, 8, 8, 8, 8, 8, 8, 8, 8, 8, 8, 8, 8, 8, 8, 8, 8, 8, 8, 8, 8, 8, 8, 8, 8, 8, 8]⟩)) (.t 21)⟩,
  ⟨(some 23), none, .conv .i64 (.t 22)⟩,
  ⟨(some 24), none, .bin .add (.t 19) (.t 23)⟩,
  ⟨(some 2), none, .mv (.t 24)⟩]
/-- math/bits.Len64 -/
abbrev x29b : XCode :=
  (.seq (.reg 0 x29r0 none)
  (.seq (.seq (.reg 1 x29r1 none)
  (.cond (.t 4)
    (.seq (.reg 2 x29r2 none)
    (.reg 3 x29r3 none))
    .skip))
  (.seq (.seq (.reg 4 x29r4 none)
  (.cond (.t 8)
    (.seq (.reg 5 x29r5 none)
    (.reg 6 x29r6 none))
    .skip))
  (.seq (.seq (.reg 7 x29r7 none)
  (.cond (.t 14)
    (.seq (.reg 8 x29r8 none)
    (.reg 9 x29r9 none))
    .skip))
  (.seq (.reg 10 x29r10 none)
  .ret)))))
def x29 : XFunc := ⟨25, 1, [.tmp 2], x29b⟩
theorem x29_ok : chkF Tryd.prog Tryd.f29 x29 = true := by kernel_rfl
theorem x29_eq : x29.body = x29b ∧ x29.res = [.tmp 2] ∧ x29.np = 1 := ⟨rfl, rfl, rfl⟩

abbrev x34r0 : List XOper := [
  ⟨(some 2), none, .mv (.c (.int .i64 0))⟩]
abbrev x34r1 : List XOper := [
  ⟨(some 3), none, .mv (.t 0)⟩,
  ⟨(some 4), none, .bin .mul (.t 3) (.c (.int .i64 78913))⟩,
  ⟨(some 5), none, .bin .shr (.t 4) (.c (.int .u64 18))⟩,
  ⟨(some 2), none, .mv (.t 5)⟩]
/-- internal/strconv.log10Pow2 -/
abbrev x34b : XCode :=
  (.seq (.reg 0 x34r0 none)
  (.seq (.reg 1 x34r1 none)
  .ret))
def x34 : XFunc := ⟨6, 1, [.tmp 2], x34b⟩
theorem x34_ok : chkF Tryd.prog Tryd.f34 x34 = true := by kernel_rfl
theorem x34_eq : x34.body = x34b ∧ x34.res = [.tmp 2] ∧ x34.np = 1 := ⟨rfl, rfl, rfl⟩

abbrev x35r0 : List XOper := [
  ⟨(some 2), none, .mv (.c (.int .i64 0))⟩]
abbrev x35r1 : List XOper := [
  ⟨(some 3), none, .mv (.t 0)⟩]
abbrev x35r2 : List XOper := [
  ⟨(some 2), none, .mv (.c (.int .i64 1))⟩]
abbrev x35r3 : List XOper := [
  ⟨(some 2), none, .mv (.c (.int .i64 0))⟩]
/-- internal/strconv.bool2[int] -/
abbrev x35b : XCode :=
  (.seq (.reg 0 x35r0 none)
  (.seq (.seq (.reg 1 x35r1 none)
  (.cond (.t 3)
    (.seq (.reg 2 x35r2 none)
    .ret)
    .skip))
  (.seq (.reg 3 x35r3 none)
  .ret)))
def x35 : XFunc := ⟨4, 1, [.tmp 2], x35b⟩
theorem x35_ok : chkF Tryd.prog Tryd.f35 x35 = true := by kernel_rfl
theorem x35_eq : x35.body = x35b ∧ x35.res = [.tmp 2] ∧ x35.np = 1 := ⟨rfl, rfl, rfl⟩


def xf : FuncId → Option XFunc
  | 3 => some x3
  | 4 => some x4
  | 5 => some x5
  | 6 => some x6
  | 7 => some x7
  | 8 => some x8
  | 10 => some x10
  | 11 => some x11
  | 12 => some x12
  | 13 => some x13
  | 14 => some x14
  | 15 => some x15
  | 22 => some x22
  | 23 => some x23
  | 25 => some x25
  | 27 => some x27
  | 29 => some x29
  | 34 => some x34
  | 35 => some x35
  | _ => none
def C0 : Cfg := ⟨fun _ => none, xf⟩
theorem ok0 : CfgOk Tryd.prog C0 := by
  refine ⟨(fun g F h => by cases h), (fun g x h => ?_), by kernel_rfl⟩
  simp only [C0, xf] at h
  split at h
  · cases h; exact ⟨Tryd.f3, Tryd.func3, x3_ok⟩
  · cases h; exact ⟨Tryd.f4, Tryd.func4, x4_ok⟩
  · cases h; exact ⟨Tryd.f5, Tryd.func5, x5_ok⟩
  · cases h; exact ⟨Tryd.f6, Tryd.func6, x6_ok⟩
  · cases h; exact ⟨Tryd.f7, Tryd.func7, x7_ok⟩
  · cases h; exact ⟨Tryd.f8, Tryd.func8, x8_ok⟩
  · cases h; exact ⟨Tryd.f10, Tryd.func10, x10_ok⟩
  · cases h; exact ⟨Tryd.f11, Tryd.func11, x11_ok⟩
  · cases h; exact ⟨Tryd.f12, Tryd.func12, x12_ok⟩
  · cases h; exact ⟨Tryd.f13, Tryd.func13, x13_ok⟩
  · cases h; exact ⟨Tryd.f14, Tryd.func14, x14_ok⟩
  · cases h; exact ⟨Tryd.f15, Tryd.func15, x15_ok⟩
  · cases h; exact ⟨Tryd.f22, Tryd.func22, x22_ok⟩
  · cases h; exact ⟨Tryd.f23, Tryd.func23, x23_ok⟩
  · cases h; exact ⟨Tryd.f25, Tryd.func25, x25_ok⟩
  · cases h; exact ⟨Tryd.f27, Tryd.func27, x27_ok⟩
  · cases h; exact ⟨Tryd.f29, Tryd.func29, x29_ok⟩
  · cases h; exact ⟨Tryd.f34, Tryd.func34, x34_ok⟩
  · cases h; exact ⟨Tryd.f35, Tryd.func35, x35_ok⟩
  · cases h
end Go.Proofs.YtfndobdfdhkepaaDoor
