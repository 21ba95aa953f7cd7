/- Functions, as Am runs them (printed by Show). -/
import Derived.Test.YtopjiafdimoeiaaEn6
import Derived.Test.YtopjiafdimoeiaaProg
import Derived.KernelRfl
namespace Go.Proofs.Ytopjiafdimoeiaa
open Go Go.Am Go.Proofs
set_option maxRecDepth 100000
def ir7 : Fun := .mk 62 [.t 4] (
  .seq (.reg [⟨some 4, none, .mv (.c (.bool false))⟩])
  (.seq (.seq (.reg [⟨some 13, none, .mv (.t 0)⟩,
    ⟨some 14, none, .call (.c (.fn 39 [] [])) [.t 13]⟩,
    ⟨some 15, none, .un .not (.t 14)⟩])
  (.cond (.t 15) (.seq (.reg [⟨some 16, none, .call (.c (.fn 40 [] [])) []⟩,
      ⟨some 4, none, .mv (.t 16)⟩])
    (.ret))
    (.skip)))
  (.seq (.reg [⟨some 18, none, .mv (.t 0)⟩,
    ⟨some 19, none, .mv (.t 1)⟩,
    ⟨some 20, none, .call (.c (.fn 41 [] [])) [.t 18, .t 19]⟩,
    ⟨some 17, none, .mv (.t 20)⟩,
    ⟨some 21, none, .ext 0 (.t 17)⟩,
    ⟨some 22, none, .ext 1 (.t 17)⟩,
    ⟨some 5, none, .mv (.t 21)⟩,
    ⟨some 6, none, .mv (.t 22)⟩])
  (.seq (.reg [⟨some 24, none, .mv (.t 0)⟩,
    ⟨some 25, none, .mv (.t 1)⟩,
    ⟨some 26, none, .call (.c (.fn 42 [] [])) [.t 24, .t 25]⟩,
    ⟨some 23, none, .mv (.t 26)⟩,
    ⟨some 27, none, .ext 0 (.t 23)⟩,
    ⟨some 28, none, .ext 1 (.t 23)⟩,
    ⟨some 7, none, .mv (.t 27)⟩,
    ⟨some 8, none, .mv (.t 28)⟩])
  (.seq (.reg [⟨some 30, none, .mv (.t 0)⟩,
    ⟨some 31, none, .mv (.t 1)⟩,
    ⟨some 32, none, .call (.c (.fn 43 [] [])) [.t 30, .t 31]⟩,
    ⟨some 29, none, .mv (.t 32)⟩,
    ⟨some 33, none, .ext 0 (.t 29)⟩,
    ⟨some 34, none, .ext 1 (.t 29)⟩,
    ⟨some 9, none, .mv (.t 33)⟩,
    ⟨some 10, none, .mv (.t 34)⟩])
  (.seq (.reg [⟨some 36, none, .mv (.t 0)⟩,
    ⟨some 37, none, .mv (.t 1)⟩,
    ⟨some 38, none, .call (.c (.fn 44 [] [])) [.t 36, .t 37]⟩,
    ⟨some 35, none, .mv (.t 38)⟩,
    ⟨some 39, none, .ext 0 (.t 35)⟩,
    ⟨some 40, none, .ext 1 (.t 35)⟩,
    ⟨some 11, none, .mv (.t 39)⟩,
    ⟨some 12, none, .mv (.t 40)⟩])
  (.seq (.reg [⟨some 41, none, .call (.c (.fn 40 [] [])) []⟩,
    ⟨some 42, none, .mv (.t 41)⟩,
    ⟨some 43, some (42, true), .mv (.t 5)⟩,
    ⟨some 44, some (42, true), .mv (.t 7)⟩,
    ⟨some 45, some (42, true), .call (.c (.fn 45 [] [])) [.t 43, .t 44]⟩,
    ⟨some 46, none, .pick (.t 42) (.t 45) (.c (.bool false))⟩,
    ⟨some 47, none, .mv (.t 46)⟩,
    ⟨some 48, some (47, true), .mv (.t 6)⟩,
    ⟨some 49, some (47, true), .mv (.t 8)⟩,
    ⟨some 50, some (47, true), .bin false .eql (.t 48) (.t 49)⟩,
    ⟨some 51, none, .pick (.t 47) (.t 50) (.c (.bool false))⟩,
    ⟨some 52, none, .mv (.t 51)⟩,
    ⟨some 53, some (52, true), .mv (.t 9)⟩,
    ⟨some 54, some (52, true), .mv (.t 11)⟩,
    ⟨some 55, some (52, true), .call (.c (.fn 45 [] [])) [.t 53, .t 54]⟩,
    ⟨some 56, none, .pick (.t 52) (.t 55) (.c (.bool false))⟩,
    ⟨some 57, none, .mv (.t 56)⟩,
    ⟨some 58, some (57, true), .mv (.t 10)⟩,
    ⟨some 59, some (57, true), .mv (.t 12)⟩,
    ⟨some 60, some (57, true), .bin false .eql (.t 58) (.t 59)⟩,
    ⟨some 61, none, .pick (.t 57) (.t 60) (.c (.bool false))⟩,
    ⟨some 4, none, .mv (.t 61)⟩])
  (.ret)))))))) false false
theorem mk7 : cFun Try.prog false false Try.f7 = some ir7 := by kernel_rfl
def ir8 : Fun := .mk 100 [.t 6] (
  .seq (.reg [⟨some 3, none, .box (.t 0)⟩,
    ⟨some 5, none, .box (.t 2)⟩,
    ⟨some 6, none, .mv (.c (.bool false))⟩])
  (.seq (.seq (.reg [⟨some 15, none, .load true 2 (.t 3)⟩,
    ⟨some 16, none, .mv (.t 1)⟩,
    ⟨some 17, none, .call (.c (.fn 46 [] [])) [.t 15, .t 16]⟩,
    ⟨some 18, none, .un .not (.t 17)⟩,
    ⟨some 19, none, .mv (.t 18)⟩,
    ⟨some 20, some (19, false), .load true 2 (.t 5)⟩,
    ⟨some 21, some (19, false), .call (.c (.fn 47 [] [])) [.t 20]⟩,
    ⟨some 22, some (19, false), .bin false .neq (.t 21) (.c (.int .i64 0))⟩,
    ⟨some 23, none, .pick (.t 19) (.c (.bool true)) (.t 22)⟩])
  (.cond (.t 23) (.seq (.reg [⟨some 24, none, .call (.c (.fn 40 [] [])) []⟩,
      ⟨some 6, none, .mv (.t 24)⟩])
    (.ret))
    (.skip)))
  (.seq (.reg [⟨some 26, none, .load true 2 (.t 3)⟩,
    ⟨some 27, none, .mv (.t 1)⟩,
    ⟨some 28, none, .call (.c (.fn 48 [] [])) [.t 26, .t 27]⟩,
    ⟨some 25, none, .mv (.t 28)⟩,
    ⟨some 29, none, .ext 0 (.t 25)⟩,
    ⟨some 30, none, .ext 1 (.t 25)⟩,
    ⟨some 7, none, .mv (.t 29)⟩,
    ⟨some 8, none, .mv (.t 30)⟩])
  (.seq (.reg [⟨some 32, none, .load true 2 (.t 3)⟩,
    ⟨some 33, none, .mv (.t 1)⟩,
    ⟨some 34, none, .call (.c (.fn 49 [] [])) [.t 32, .t 33]⟩,
    ⟨some 31, none, .mv (.t 34)⟩,
    ⟨some 35, none, .ext 0 (.t 31)⟩,
    ⟨some 36, none, .ext 1 (.t 31)⟩,
    ⟨some 37, none, .ext 2 (.t 31)⟩,
    ⟨some 9, none, .mv (.t 35)⟩,
    ⟨some 10, none, .mv (.t 36)⟩,
    ⟨some 11, none, .mv (.t 37)⟩])
  (.seq (.draw [⟨some 39, none, .load true 2 (.t 3)⟩,
    ⟨some 40, none, .mv (.t 1)⟩,
    ⟨some 41, none, .call (.c (.fn 50 [] [])) [.t 40]⟩,
    ⟨some 42, none, .load true 2 (.t 5)⟩,
    ⟨some 43, none, .bslice false 2 [.int .i64 0, .bool false] 1 [(0, (.t 42))]⟩,
    ⟨some 44, none, .app 2 16 (.t 41) (.t 43)⟩,
    ⟨some 45, none, .call (.c (.fn 49 [] [])) [.t 39, .t 44]⟩,
    ⟨some 38, none, .mv (.t 45)⟩,
    ⟨some 46, none, .ext 0 (.t 38)⟩,
    ⟨some 47, none, .ext 1 (.t 38)⟩,
    ⟨some 48, none, .ext 2 (.t 38)⟩,
    ⟨some 12, none, .mv (.t 46)⟩,
    ⟨some 13, none, .mv (.t 47)⟩,
    ⟨some 14, none, .mv (.t 48)⟩] [(0, 2), (0, 5), (3, 2)])
  (.seq (.seq (.reg [⟨some 49, none, .mv (.t 11)⟩,
    ⟨some 50, none, .bin false .neq (.t 49) (.c (.int .i64 0))⟩,
    ⟨some 51, none, .mv (.t 50)⟩,
    ⟨some 52, some (51, false), .mv (.t 14)⟩,
    ⟨some 53, some (51, false), .bin false .neq (.t 52) (.c (.int .i64 0))⟩,
    ⟨some 54, none, .pick (.t 51) (.c (.bool true)) (.t 53)⟩])
  (.cond (.t 54) (.seq (.reg [⟨some 6, none, .mv (.c (.bool false))⟩])
    (.ret))
    (.skip)))
  (.seq (.seq (.reg [⟨some 55, none, .mv (.t 9)⟩,
    ⟨some 56, none, .un .not (.t 55)⟩])
  (.cond (.t 56) (.seq (.reg [⟨some 57, none, .mv (.t 8)⟩,
      ⟨some 58, none, .bin false .eql (.t 57) (.c (.int .i64 14))⟩,
      ⟨some 59, none, .mv (.t 58)⟩,
      ⟨some 60, some (59, true), .mv (.t 12)⟩,
      ⟨some 61, some (59, true), .un .not (.t 60)⟩,
      ⟨some 62, none, .pick (.t 59) (.t 61) (.c (.bool false))⟩,
      ⟨some 63, none, .mv (.t 62)⟩,
      ⟨some 64, some (63, true), .mv (.t 10)⟩,
      ⟨some 65, some (63, true), .mv (.t 13)⟩,
      ⟨some 66, some (63, true), .bin false .eql (.t 64) (.t 65)⟩,
      ⟨some 67, none, .pick (.t 63) (.t 66) (.c (.bool false))⟩,
      ⟨some 68, none, .mv (.t 67)⟩,
      ⟨some 69, some (68, true), .mv (.t 10)⟩,
      ⟨some 70, some (68, true), .mv (.t 1)⟩,
      ⟨some 71, some (68, true), .len false (.t 70)⟩,
      ⟨some 72, some (68, true), .bin false .lss (.t 69) (.t 71)⟩,
      ⟨some 73, none, .pick (.t 68) (.t 72) (.c (.bool false))⟩,
      ⟨some 74, none, .mv (.t 73)⟩,
      ⟨some 75, some (74, true), .call (.c (.fn 40 [] [])) []⟩,
      ⟨some 76, none, .pick (.t 74) (.t 75) (.c (.bool false))⟩,
      ⟨some 6, none, .mv (.t 76)⟩])
    (.ret))
    (.skip)))
  (.seq (.reg [⟨some 77, none, .mv (.t 8)⟩,
    ⟨some 78, none, .bin false .eql (.t 77) (.c (.int .i64 0))⟩,
    ⟨some 79, none, .mv (.t 78)⟩,
    ⟨some 80, some (79, true), .mv (.t 7)⟩,
    ⟨some 81, some (79, true), .len false (.t 80)⟩,
    ⟨some 82, some (79, true), .bin false .gtr (.t 81) (.c (.int .i64 0))⟩,
    ⟨some 83, none, .pick (.t 79) (.t 82) (.c (.bool false))⟩,
    ⟨some 84, none, .mv (.t 83)⟩,
    ⟨some 85, some (84, true), .mv (.t 10)⟩,
    ⟨some 86, some (84, true), .mv (.t 1)⟩,
    ⟨some 87, some (84, true), .len false (.t 86)⟩,
    ⟨some 88, some (84, true), .bin false .eql (.t 85) (.t 87)⟩,
    ⟨some 89, none, .pick (.t 84) (.t 88) (.c (.bool false))⟩,
    ⟨some 90, none, .mv (.t 89)⟩,
    ⟨some 91, some (90, true), .mv (.t 12)⟩,
    ⟨some 92, some (90, true), .mv (.t 7)⟩,
    ⟨some 93, some (90, true), .load true 2 (.t 5)⟩,
    ⟨some 94, some (90, true), .call (.c (.fn 51 [] [])) [.t 92, .t 93]⟩,
    ⟨some 95, some (90, true), .bin true .eql (.t 91) (.t 94)⟩,
    ⟨some 96, none, .pick (.t 90) (.t 95) (.c (.bool false))⟩,
    ⟨some 97, none, .mv (.t 96)⟩,
    ⟨some 98, some (97, true), .call (.c (.fn 40 [] [])) []⟩,
    ⟨some 99, none, .pick (.t 97) (.t 98) (.c (.bool false))⟩,
    ⟨some 6, none, .mv (.t 99)⟩])
  (.ret))))))))) false false
theorem mk8 : cFun Try.prog false false Try.f8 = some ir8 := by kernel_rfl
def ir9 : Fun := .mk 85 [.t 4] (
  .seq (.reg [⟨some 2, none, .box (.t 0)⟩,
    ⟨some 4, none, .mv (.c (.bool false))⟩])
  (.seq (.seq (.reg [⟨some 17, none, .load true 2 (.t 2)⟩,
    ⟨some 18, none, .call (.c (.fn 52 [] [])) [.t 17]⟩,
    ⟨some 19, none, .un .not (.t 18)⟩,
    ⟨some 20, none, .mv (.t 19)⟩,
    ⟨some 21, some (20, false), .mv (.t 1)⟩,
    ⟨some 22, some (20, false), .call (.c (.fn 39 [] [])) [.t 21]⟩,
    ⟨some 23, some (20, false), .un .not (.t 22)⟩,
    ⟨some 24, none, .pick (.t 20) (.c (.bool true)) (.t 23)⟩])
  (.cond (.t 24) (.seq (.reg [⟨some 25, none, .call (.c (.fn 40 [] [])) []⟩,
      ⟨some 4, none, .mv (.t 25)⟩])
    (.ret))
    (.skip)))
  (.seq (.reg [⟨some 27, none, .load true 2 (.t 2)⟩,
    ⟨some 28, none, .mv (.t 1)⟩,
    ⟨some 29, none, .call (.c (.fn 49 [] [])) [.t 27, .t 28]⟩,
    ⟨some 26, none, .mv (.t 29)⟩,
    ⟨some 30, none, .ext 0 (.t 26)⟩,
    ⟨some 31, none, .ext 1 (.t 26)⟩,
    ⟨some 32, none, .ext 2 (.t 26)⟩,
    ⟨some 5, none, .mv (.t 30)⟩,
    ⟨some 6, none, .mv (.t 31)⟩,
    ⟨some 7, none, .mv (.t 32)⟩])
  (.seq (.reg [⟨some 34, none, .load true 2 (.t 2)⟩,
    ⟨some 35, none, .mv (.t 1)⟩,
    ⟨some 36, none, .call (.c (.fn 53 [] [])) [.t 34, .t 35]⟩,
    ⟨some 33, none, .mv (.t 36)⟩,
    ⟨some 37, none, .ext 0 (.t 33)⟩,
    ⟨some 38, none, .ext 1 (.t 33)⟩,
    ⟨some 39, none, .ext 2 (.t 33)⟩,
    ⟨some 8, none, .mv (.t 37)⟩,
    ⟨some 9, none, .mv (.t 38)⟩,
    ⟨some 10, none, .mv (.t 39)⟩])
  (.seq (.reg [⟨some 41, none, .load true 2 (.t 2)⟩,
    ⟨some 42, none, .mv (.t 1)⟩,
    ⟨some 43, none, .call (.c (.fn 54 [] [])) [.t 41, .t 42]⟩,
    ⟨some 40, none, .mv (.t 43)⟩,
    ⟨some 44, none, .ext 0 (.t 40)⟩,
    ⟨some 45, none, .ext 1 (.t 40)⟩,
    ⟨some 46, none, .ext 2 (.t 40)⟩,
    ⟨some 11, none, .mv (.t 44)⟩,
    ⟨some 12, none, .mv (.t 45)⟩,
    ⟨some 13, none, .mv (.t 46)⟩])
  (.seq (.reg [⟨some 48, none, .load true 2 (.t 2)⟩,
    ⟨some 49, none, .mv (.t 1)⟩,
    ⟨some 50, none, .call (.c (.fn 55 [] [])) [.t 48, .t 49]⟩,
    ⟨some 47, none, .mv (.t 50)⟩,
    ⟨some 51, none, .ext 0 (.t 47)⟩,
    ⟨some 52, none, .ext 1 (.t 47)⟩,
    ⟨some 53, none, .ext 2 (.t 47)⟩,
    ⟨some 14, none, .mv (.t 51)⟩,
    ⟨some 15, none, .mv (.t 52)⟩,
    ⟨some 16, none, .mv (.t 53)⟩])
  (.seq (.reg [⟨some 54, none, .call (.c (.fn 40 [] [])) []⟩,
    ⟨some 55, none, .mv (.t 54)⟩,
    ⟨some 56, some (55, true), .mv (.t 5)⟩,
    ⟨some 57, some (55, true), .mv (.t 8)⟩,
    ⟨some 58, some (55, true), .bin true .eql (.t 56) (.t 57)⟩,
    ⟨some 59, none, .pick (.t 55) (.t 58) (.c (.bool false))⟩,
    ⟨some 60, none, .mv (.t 59)⟩,
    ⟨some 61, some (60, true), .mv (.t 6)⟩,
    ⟨some 62, some (60, true), .mv (.t 9)⟩,
    ⟨some 63, some (60, true), .bin false .eql (.t 61) (.t 62)⟩,
    ⟨some 64, none, .pick (.t 60) (.t 63) (.c (.bool false))⟩,
    ⟨some 65, none, .mv (.t 64)⟩,
    ⟨some 66, some (65, true), .mv (.t 7)⟩,
    ⟨some 67, some (65, true), .mv (.t 10)⟩,
    ⟨some 68, some (65, true), .bin false .eql (.t 66) (.t 67)⟩,
    ⟨some 69, none, .pick (.t 65) (.t 68) (.c (.bool false))⟩,
    ⟨some 70, none, .mv (.t 69)⟩,
    ⟨some 71, some (70, true), .mv (.t 11)⟩,
    ⟨some 72, some (70, true), .mv (.t 14)⟩,
    ⟨some 73, some (70, true), .bin false .eql (.t 71) (.t 72)⟩,
    ⟨some 74, none, .pick (.t 70) (.t 73) (.c (.bool false))⟩,
    ⟨some 75, none, .mv (.t 74)⟩,
    ⟨some 76, some (75, true), .mv (.t 12)⟩,
    ⟨some 77, some (75, true), .mv (.t 15)⟩,
    ⟨some 78, some (75, true), .bin false .eql (.t 76) (.t 77)⟩,
    ⟨some 79, none, .pick (.t 75) (.t 78) (.c (.bool false))⟩,
    ⟨some 80, none, .mv (.t 79)⟩,
    ⟨some 81, some (80, true), .mv (.t 13)⟩,
    ⟨some 82, some (80, true), .mv (.t 16)⟩,
    ⟨some 83, some (80, true), .bin false .eql (.t 81) (.t 82)⟩,
    ⟨some 84, none, .pick (.t 80) (.t 83) (.c (.bool false))⟩,
    ⟨some 4, none, .mv (.t 84)⟩])
  (.ret)))))))) false false
theorem mk9 : cFun Try.prog false false Try.f9 = some ir9 := by kernel_rfl
def ir10 : Fun := .mk 102 [.t 6] (
  .seq (.reg [⟨some 3, none, .box (.t 0)⟩,
    ⟨some 6, none, .mv (.c (.bool false))⟩])
  (.seq (.seq (.reg [⟨some 19, none, .load true 2 (.t 3)⟩,
    ⟨some 20, none, .call (.c (.fn 52 [] [])) [.t 19]⟩,
    ⟨some 21, none, .un .not (.t 20)⟩,
    ⟨some 22, none, .mv (.t 21)⟩,
    ⟨some 23, some (22, false), .mv (.t 1)⟩,
    ⟨some 24, some (22, false), .call (.c (.fn 39 [] [])) [.t 23]⟩,
    ⟨some 25, some (22, false), .un .not (.t 24)⟩,
    ⟨some 26, none, .pick (.t 22) (.c (.bool true)) (.t 25)⟩,
    ⟨some 27, none, .mv (.t 26)⟩,
    ⟨some 28, some (27, false), .mv (.t 2)⟩,
    ⟨some 29, some (27, false), .call (.c (.fn 39 [] [])) [.t 28]⟩,
    ⟨some 30, some (27, false), .un .not (.t 29)⟩,
    ⟨some 31, none, .pick (.t 27) (.c (.bool true)) (.t 30)⟩])
  (.cond (.t 31) (.seq (.reg [⟨some 32, none, .call (.c (.fn 40 [] [])) []⟩,
      ⟨some 6, none, .mv (.t 32)⟩])
    (.ret))
    (.skip)))
  (.seq (.reg [⟨some 34, none, .load true 2 (.t 3)⟩,
    ⟨some 35, none, .mv (.t 1)⟩,
    ⟨some 36, none, .call (.c (.fn 56 [] [])) [.t 34, .t 35]⟩,
    ⟨some 33, none, .mv (.t 36)⟩,
    ⟨some 37, none, .ext 0 (.t 33)⟩,
    ⟨some 38, none, .ext 1 (.t 33)⟩,
    ⟨some 7, none, .mv (.t 37)⟩,
    ⟨some 8, none, .mv (.t 38)⟩])
  (.seq (.reg [⟨some 40, none, .load true 2 (.t 3)⟩,
    ⟨some 41, none, .mv (.t 1)⟩,
    ⟨some 42, none, .call (.c (.fn 57 [] [])) [.t 40, .t 41]⟩,
    ⟨some 39, none, .mv (.t 42)⟩,
    ⟨some 43, none, .ext 0 (.t 39)⟩,
    ⟨some 44, none, .ext 1 (.t 39)⟩,
    ⟨some 9, none, .mv (.t 43)⟩,
    ⟨some 10, none, .mv (.t 44)⟩])
  (.seq (.reg [⟨some 46, none, .load true 2 (.t 3)⟩,
    ⟨some 47, none, .mv (.t 1)⟩,
    ⟨some 48, none, .call (.c (.fn 48 [] [])) [.t 46, .t 47]⟩,
    ⟨some 45, none, .mv (.t 48)⟩,
    ⟨some 49, none, .ext 0 (.t 45)⟩,
    ⟨some 50, none, .ext 1 (.t 45)⟩,
    ⟨some 11, none, .mv (.t 49)⟩,
    ⟨some 12, none, .mv (.t 50)⟩])
  (.seq (.reg [⟨some 52, none, .load true 2 (.t 3)⟩,
    ⟨some 53, none, .mv (.t 1)⟩,
    ⟨some 54, none, .call (.c (.fn 58 [] [])) [.t 52, .t 53]⟩,
    ⟨some 51, none, .mv (.t 54)⟩,
    ⟨some 55, none, .ext 0 (.t 51)⟩,
    ⟨some 56, none, .ext 1 (.t 51)⟩,
    ⟨some 13, none, .mv (.t 55)⟩,
    ⟨some 14, none, .mv (.t 56)⟩])
  (.seq (.reg [⟨some 58, none, .load true 2 (.t 3)⟩,
    ⟨some 59, none, .mv (.t 1)⟩,
    ⟨some 60, none, .mv (.t 2)⟩,
    ⟨some 61, none, .call (.c (.fn 59 [] [])) [.t 58, .t 59, .t 60]⟩,
    ⟨some 57, none, .mv (.t 61)⟩,
    ⟨some 62, none, .ext 0 (.t 57)⟩,
    ⟨some 63, none, .ext 1 (.t 57)⟩,
    ⟨some 15, none, .mv (.t 62)⟩,
    ⟨some 16, none, .mv (.t 63)⟩])
  (.seq (.reg [⟨some 65, none, .load true 2 (.t 3)⟩,
    ⟨some 66, none, .mv (.t 1)⟩,
    ⟨some 67, none, .mv (.t 2)⟩,
    ⟨some 68, none, .call (.c (.fn 60 [] [])) [.t 65, .t 66, .t 67]⟩,
    ⟨some 64, none, .mv (.t 68)⟩,
    ⟨some 69, none, .ext 0 (.t 64)⟩,
    ⟨some 70, none, .ext 1 (.t 64)⟩,
    ⟨some 17, none, .mv (.t 69)⟩,
    ⟨some 18, none, .mv (.t 70)⟩])
  (.seq (.reg [⟨some 71, none, .call (.c (.fn 40 [] [])) []⟩,
    ⟨some 72, none, .mv (.t 71)⟩,
    ⟨some 73, some (72, true), .mv (.t 7)⟩,
    ⟨some 74, some (72, true), .mv (.t 9)⟩,
    ⟨some 75, some (72, true), .call (.c (.fn 61 [] [])) [.t 73, .t 74]⟩,
    ⟨some 76, none, .pick (.t 72) (.t 75) (.c (.bool false))⟩,
    ⟨some 77, none, .mv (.t 76)⟩,
    ⟨some 78, some (77, true), .mv (.t 8)⟩,
    ⟨some 79, some (77, true), .mv (.t 10)⟩,
    ⟨some 80, some (77, true), .bin false .eql (.t 78) (.t 79)⟩,
    ⟨some 81, none, .pick (.t 77) (.t 80) (.c (.bool false))⟩,
    ⟨some 82, none, .mv (.t 81)⟩,
    ⟨some 83, some (82, true), .mv (.t 11)⟩,
    ⟨some 84, some (82, true), .mv (.t 13)⟩,
    ⟨some 85, some (82, true), .call (.c (.fn 61 [] [])) [.t 83, .t 84]⟩,
    ⟨some 86, none, .pick (.t 82) (.t 85) (.c (.bool false))⟩,
    ⟨some 87, none, .mv (.t 86)⟩,
    ⟨some 88, some (87, true), .mv (.t 12)⟩,
    ⟨some 89, some (87, true), .mv (.t 14)⟩,
    ⟨some 90, some (87, true), .bin false .eql (.t 88) (.t 89)⟩,
    ⟨some 91, none, .pick (.t 87) (.t 90) (.c (.bool false))⟩,
    ⟨some 92, none, .mv (.t 91)⟩,
    ⟨some 93, some (92, true), .mv (.t 15)⟩,
    ⟨some 94, some (92, true), .mv (.t 17)⟩,
    ⟨some 95, some (92, true), .bin true .eql (.t 93) (.t 94)⟩,
    ⟨some 96, none, .pick (.t 92) (.t 95) (.c (.bool false))⟩,
    ⟨some 97, none, .mv (.t 96)⟩,
    ⟨some 98, some (97, true), .mv (.t 16)⟩,
    ⟨some 99, some (97, true), .mv (.t 18)⟩,
    ⟨some 100, some (97, true), .bin false .eql (.t 98) (.t 99)⟩,
    ⟨some 101, none, .pick (.t 97) (.t 100) (.c (.bool false))⟩,
    ⟨some 6, none, .mv (.t 101)⟩])
  (.ret)))))))))) false false
theorem mk10 : cFun Try.prog false false Try.f10 = some ir10 := by kernel_rfl
def ir11 : Fun := .mk 153 [.t 6] (
  .seq (.reg [⟨some 3, none, .box (.t 0)⟩,
    ⟨some 6, none, .mv (.c (.bool false))⟩])
  (.seq (.seq (.reg [⟨some 21, none, .load true 2 (.t 3)⟩,
    ⟨some 22, none, .mv (.t 1)⟩,
    ⟨some 23, none, .call (.c (.fn 46 [] [])) [.t 21, .t 22]⟩,
    ⟨some 24, none, .un .not (.t 23)⟩])
  (.cond (.t 24) (.seq (.reg [⟨some 25, none, .call (.c (.fn 40 [] [])) []⟩,
      ⟨some 6, none, .mv (.t 25)⟩])
    (.ret))
    (.skip)))
  (.seq (.reg [⟨some 27, none, .load true 2 (.t 3)⟩,
    ⟨some 28, none, .mv (.t 1)⟩,
    ⟨some 29, none, .call (.c (.fn 56 [] [])) [.t 27, .t 28]⟩,
    ⟨some 26, none, .mv (.t 29)⟩,
    ⟨some 30, none, .ext 0 (.t 26)⟩,
    ⟨some 31, none, .ext 1 (.t 26)⟩,
    ⟨some 7, none, .mv (.t 30)⟩,
    ⟨some 8, none, .mv (.t 31)⟩])
  (.seq (.seq (.reg [⟨some 32, none, .mv (.t 8)⟩,
    ⟨some 33, none, .bin false .neq (.t 32) (.c (.int .i64 0))⟩])
  (.cond (.t 33) (.seq (.reg [⟨some 34, none, .mv (.t 8)⟩,
      ⟨some 35, none, .bin false .eql (.t 34) (.c (.int .i64 14))⟩,
      ⟨some 36, none, .mv (.t 35)⟩,
      ⟨some 37, some (36, true), .call (.c (.fn 40 [] [])) []⟩,
      ⟨some 38, none, .pick (.t 36) (.t 37) (.c (.bool false))⟩,
      ⟨some 6, none, .mv (.t 38)⟩])
    (.ret))
    (.skip)))
  (.seq (.reg [⟨some 40, none, .load true 2 (.t 3)⟩,
    ⟨some 41, none, .mv (.t 7)⟩,
    ⟨some 42, none, .call (.c (.fn 56 [] [])) [.t 40, .t 41]⟩,
    ⟨some 39, none, .mv (.t 42)⟩,
    ⟨some 43, none, .ext 0 (.t 39)⟩,
    ⟨some 44, none, .ext 1 (.t 39)⟩,
    ⟨some 9, none, .mv (.t 43)⟩,
    ⟨some 10, none, .mv (.t 44)⟩])
  (.seq (.reg [⟨some 46, none, .load true 2 (.t 3)⟩,
    ⟨some 47, none, .mv (.t 1)⟩,
    ⟨some 48, none, .mv (.t 7)⟩,
    ⟨some 49, none, .call (.c (.fn 59 [] [])) [.t 46, .t 47, .t 48]⟩,
    ⟨some 45, none, .mv (.t 49)⟩,
    ⟨some 50, none, .ext 0 (.t 45)⟩,
    ⟨some 51, none, .ext 1 (.t 45)⟩,
    ⟨some 11, none, .mv (.t 50)⟩,
    ⟨some 12, none, .mv (.t 51)⟩])
  (.seq (.reg [⟨some 53, none, .load true 2 (.t 3)⟩,
    ⟨some 54, none, .mv (.t 1)⟩,
    ⟨some 55, none, .call (.c (.fn 48 [] [])) [.t 53, .t 54]⟩,
    ⟨some 52, none, .mv (.t 55)⟩,
    ⟨some 56, none, .ext 0 (.t 52)⟩,
    ⟨some 57, none, .ext 1 (.t 52)⟩,
    ⟨some 13, none, .mv (.t 56)⟩,
    ⟨some 14, none, .mv (.t 57)⟩])
  (.seq (.reg [⟨some 59, none, .load true 2 (.t 3)⟩,
    ⟨some 60, none, .mv (.t 7)⟩,
    ⟨some 61, none, .call (.c (.fn 48 [] [])) [.t 59, .t 60]⟩,
    ⟨some 58, none, .mv (.t 61)⟩,
    ⟨some 62, none, .ext 0 (.t 58)⟩,
    ⟨some 63, none, .ext 1 (.t 58)⟩,
    ⟨some 15, none, .mv (.t 62)⟩,
    ⟨some 16, none, .mv (.t 63)⟩])
  (.seq (.seq (.reg [⟨some 64, none, .mv (.t 10)⟩,
    ⟨some 65, none, .mv (.t 12)⟩,
    ⟨some 66, none, .bin false .add (.t 64) (.t 65)⟩,
    ⟨some 67, none, .mv (.t 14)⟩,
    ⟨some 68, none, .bin false .add (.t 66) (.t 67)⟩,
    ⟨some 69, none, .mv (.t 16)⟩,
    ⟨some 70, none, .bin false .add (.t 68) (.t 69)⟩,
    ⟨some 71, none, .bin false .neq (.t 70) (.c (.int .i64 0))⟩,
    ⟨some 72, none, .mv (.t 71)⟩,
    ⟨some 73, some (72, false), .mv (.t 11)⟩,
    ⟨some 74, some (72, false), .un .not (.t 73)⟩,
    ⟨some 75, none, .pick (.t 72) (.c (.bool true)) (.t 74)⟩,
    ⟨some 76, none, .mv (.t 75)⟩,
    ⟨some 77, some (76, false), .mv (.t 7)⟩,
    ⟨some 78, some (76, false), .mv (.t 9)⟩,
    ⟨some 79, some (76, false), .call (.c (.fn 62 [] [])) [.t 77, .t 78]⟩,
    ⟨some 80, some (76, false), .un .not (.t 79)⟩,
    ⟨some 81, none, .pick (.t 76) (.c (.bool true)) (.t 80)⟩,
    ⟨some 82, none, .mv (.t 81)⟩,
    ⟨some 83, some (82, false), .mv (.t 13)⟩,
    ⟨some 84, some (82, false), .mv (.t 15)⟩,
    ⟨some 85, some (82, false), .call (.c (.fn 62 [] [])) [.t 83, .t 84]⟩,
    ⟨some 86, some (82, false), .un .not (.t 85)⟩,
    ⟨some 87, none, .pick (.t 82) (.c (.bool true)) (.t 86)⟩])
  (.cond (.t 87) (.seq (.reg [⟨some 6, none, .mv (.c (.bool false))⟩])
    (.ret))
    (.skip)))
  (.seq (.seq (.reg [⟨some 88, none, .mv (.t 1)⟩,
    ⟨some 89, none, .len false (.t 88)⟩,
    ⟨some 90, none, .bin false .lss (.t 89) (.c (.int .i64 2))⟩])
  (.cond (.t 90) (.seq (.reg [⟨some 91, none, .call (.c (.fn 40 [] [])) []⟩,
      ⟨some 6, none, .mv (.t 91)⟩])
    (.ret))
    (.skip)))
  (.seq (.reg [⟨some 92, none, .mv (.t 2)⟩,
    ⟨some 93, none, .conv (.int .i64) (.t 92)⟩,
    ⟨some 94, none, .mv (.t 1)⟩,
    ⟨some 95, none, .len false (.t 94)⟩,
    ⟨some 96, none, .bin false .sub (.t 95) (.c (.int .i64 1))⟩,
    ⟨some 97, none, .bin false .rem (.t 93) (.t 96)⟩,
    ⟨some 17, none, .mv (.t 97)⟩])
  (.seq (.reg [⟨some 98, none, .mv (.t 1)⟩,
    ⟨some 99, none, .call (.c (.fn 50 [] [])) [.t 98]⟩,
    ⟨some 18, none, .mv (.t 99)⟩])
  (.seq (.draw [⟨some 100, none, .mv (.t 18)⟩,
    ⟨some 101, none, .mv (.t 17)⟩,
    ⟨some 102, none, .mv (.t 18)⟩,
    ⟨some 103, none, .mv (.t 17)⟩,
    ⟨some 104, none, .bin false .add (.t 103) (.c (.int .i64 1))⟩,
    ⟨some 105, none, .mv (.t 18)⟩,
    ⟨some 106, none, .mv (.t 17)⟩,
    ⟨some 107, none, .bin false .add (.t 106) (.c (.int .i64 1))⟩,
    ⟨some 108, none, .iaddrL 2 (.t 105) (.t 107)⟩,
    ⟨some 109, none, .load true 2 (.t 108)⟩,
    ⟨some 110, none, .mv (.t 18)⟩,
    ⟨some 111, none, .mv (.t 17)⟩,
    ⟨some 112, none, .iaddrL 2 (.t 110) (.t 111)⟩,
    ⟨some 113, none, .load true 2 (.t 112)⟩,
    ⟨some 114, none, .iaddrL 2 (.t 100) (.t 101)⟩,
    ⟨none, none, .store 2 (.t 114) (.t 109)⟩,
    ⟨some 115, none, .iaddrL 2 (.t 102) (.t 104)⟩,
    ⟨none, none, .store 2 (.t 115) (.t 113)⟩] [])
  (.seq (.reg [⟨some 117, none, .load true 2 (.t 3)⟩,
    ⟨some 118, none, .mv (.t 18)⟩,
    ⟨some 119, none, .call (.c (.fn 49 [] [])) [.t 117, .t 118]⟩,
    ⟨some 116, none, .mv (.t 119)⟩,
    ⟨some 120, none, .ext 0 (.t 116)⟩,
    ⟨some 121, none, .ext 1 (.t 116)⟩,
    ⟨some 122, none, .ext 2 (.t 116)⟩,
    ⟨some 19, none, .mv (.t 120)⟩,
    ⟨some 20, none, .mv (.t 121)⟩,
    ⟨some 10, none, .mv (.t 122)⟩])
  (.seq (.reg [⟨some 124, none, .load true 2 (.t 3)⟩,
    ⟨some 125, none, .mv (.t 1)⟩,
    ⟨some 126, none, .mv (.t 18)⟩,
    ⟨some 127, none, .call (.c (.fn 59 [] [])) [.t 124, .t 125, .t 126]⟩,
    ⟨some 123, none, .mv (.t 127)⟩,
    ⟨some 128, none, .ext 0 (.t 123)⟩,
    ⟨some 129, none, .ext 1 (.t 123)⟩,
    ⟨some 11, none, .mv (.t 128)⟩,
    ⟨some 12, none, .mv (.t 129)⟩])
  (.seq (.reg [⟨some 130, none, .mv (.t 10)⟩,
    ⟨some 131, none, .bin false .eql (.t 130) (.c (.int .i64 0))⟩,
    ⟨some 132, none, .mv (.t 131)⟩,
    ⟨some 133, some (132, true), .mv (.t 19)⟩,
    ⟨some 134, some (132, true), .mv (.t 133)⟩,
    ⟨some 135, some (134, true), .mv (.t 12)⟩,
    ⟨some 136, some (134, true), .bin false .eql (.t 135) (.c (.int .i64 0))⟩,
    ⟨some 137, some (132, true), .pick (.t 134) (.t 136) (.c (.bool false))⟩,
    ⟨some 138, some (132, true), .mv (.t 137)⟩,
    ⟨some 139, some (138, true), .mv (.t 11)⟩,
    ⟨some 140, some (132, true), .pick (.t 138) (.t 139) (.c (.bool false))⟩,
    ⟨some 141, some (132, true), .mv (.t 140)⟩,
    ⟨some 142, some (141, false), .mv (.t 19)⟩,
    ⟨some 143, some (141, false), .un .not (.t 142)⟩,
    ⟨some 144, some (141, false), .mv (.t 143)⟩,
    ⟨some 145, some (144, true), .mv (.t 12)⟩,
    ⟨some 146, some (144, true), .bin false .eql (.t 145) (.c (.int .i64 14))⟩,
    ⟨some 147, some (141, false), .pick (.t 144) (.t 146) (.c (.bool false))⟩,
    ⟨some 148, some (132, true), .pick (.t 141) (.c (.bool true)) (.t 147)⟩,
    ⟨some 149, none, .pick (.t 132) (.t 148) (.c (.bool false))⟩,
    ⟨some 150, none, .mv (.t 149)⟩,
    ⟨some 151, some (150, true), .call (.c (.fn 40 [] [])) []⟩,
    ⟨some 152, none, .pick (.t 150) (.t 151) (.c (.bool false))⟩,
    ⟨some 6, none, .mv (.t 152)⟩])
  (.ret))))))))))))))))) false false
theorem mk11 : cFun Try.prog false false Try.f11 = some ir11 := by kernel_rfl
def ir12 : Fun := .mk 117 [.t 6] (
  .seq (.reg [⟨some 3, none, .box (.t 0)⟩,
    ⟨some 6, none, .mv (.c (.bool false))⟩])
  (.seq (.seq (.reg [⟨some 17, none, .load true 2 (.t 3)⟩,
    ⟨some 18, none, .call (.c (.fn 46 [] [])) [.t 17, .c (.nils)]⟩,
    ⟨some 19, none, .un .not (.t 18)⟩])
  (.cond (.t 19) (.seq (.reg [⟨some 20, none, .call (.c (.fn 40 [] [])) []⟩,
      ⟨some 6, none, .mv (.t 20)⟩])
    (.ret))
    (.skip)))
  (.seq (.reg [⟨some 21, none, .load true 2 (.t 3)⟩,
    ⟨some 22, none, .call (.c (.fn 63 [] [])) [.t 21]⟩,
    ⟨some 7, none, .mv (.t 22)⟩])
  (.seq (.reg [⟨some 23, none, .mv (.t 1)⟩,
    ⟨some 24, none, .bin false .rem (.t 23) (.c (.int .u8 3))⟩,
    ⟨some 25, none, .conv (.int .i64) (.t 24)⟩,
    ⟨some 8, none, .mv (.t 25)⟩])
  (.seq (.reg [⟨some 26, none, .mv (.t 7)⟩,
    ⟨some 27, none, .mv (.t 8)⟩,
    ⟨some 28, none, .call (.c (.fn 64 [] [])) [.t 26, .t 27]⟩,
    ⟨some 9, none, .mv (.t 28)⟩])
  (.seq (.reg [⟨some 30, none, .load true 2 (.t 3)⟩,
    ⟨some 31, none, .mv (.t 9)⟩,
    ⟨some 32, none, .call (.c (.fn 54 [] [])) [.t 30, .t 31]⟩,
    ⟨some 29, none, .mv (.t 32)⟩,
    ⟨some 33, none, .ext 0 (.t 29)⟩,
    ⟨some 34, none, .ext 1 (.t 29)⟩,
    ⟨some 35, none, .ext 2 (.t 29)⟩,
    ⟨some 10, none, .mv (.t 33)⟩,
    ⟨some 11, none, .mv (.t 34)⟩,
    ⟨some 12, none, .mv (.t 35)⟩])
  (.seq (.reg [⟨some 37, none, .load true 2 (.t 3)⟩,
    ⟨some 38, none, .mv (.t 9)⟩,
    ⟨some 39, none, .call (.c (.fn 56 [] [])) [.t 37, .t 38]⟩,
    ⟨some 36, none, .mv (.t 39)⟩,
    ⟨some 40, none, .ext 0 (.t 36)⟩,
    ⟨some 41, none, .ext 1 (.t 36)⟩,
    ⟨some 13, none, .mv (.t 40)⟩,
    ⟨some 14, none, .mv (.t 41)⟩])
  (.seq (.seq (.reg [⟨some 42, none, .mv (.t 12)⟩,
    ⟨some 43, none, .bin false .neq (.t 42) (.c (.int .i64 0))⟩,
    ⟨some 44, none, .mv (.t 43)⟩,
    ⟨some 45, some (44, false), .mv (.t 14)⟩,
    ⟨some 46, some (44, false), .bin false .neq (.t 45) (.c (.int .i64 0))⟩,
    ⟨some 47, none, .pick (.t 44) (.c (.bool true)) (.t 46)⟩,
    ⟨some 48, none, .mv (.t 47)⟩,
    ⟨some 49, some (48, false), .mv (.t 10)⟩,
    ⟨some 50, some (48, false), .mv (.t 8)⟩,
    ⟨some 51, some (48, false), .bin false .neq (.t 49) (.t 50)⟩,
    ⟨some 52, none, .pick (.t 48) (.c (.bool true)) (.t 51)⟩,
    ⟨some 53, none, .mv (.t 52)⟩,
    ⟨some 54, some (53, false), .mv (.t 11)⟩,
    ⟨some 55, some (53, false), .bin false .neq (.t 54) (.c (.int .i64 0))⟩,
    ⟨some 56, none, .pick (.t 53) (.c (.bool true)) (.t 55)⟩,
    ⟨some 57, none, .mv (.t 56)⟩,
    ⟨some 58, some (57, false), .mv (.t 13)⟩,
    ⟨some 59, some (57, false), .mv (.t 9)⟩,
    ⟨some 60, some (57, false), .call (.c (.fn 62 [] [])) [.t 58, .t 59]⟩,
    ⟨some 61, some (57, false), .un .not (.t 60)⟩,
    ⟨some 62, none, .pick (.t 57) (.c (.bool true)) (.t 61)⟩])
  (.cond (.t 62) (.seq (.reg [⟨some 6, none, .mv (.c (.bool false))⟩])
    (.ret))
    (.skip)))
  (.seq (.draw [⟨some 63, none, .mv (.t 9)⟩,
    ⟨some 64, none, .call (.c (.fn 50 [] [])) [.t 63]⟩,
    ⟨some 65, none, .mv (.t 7)⟩,
    ⟨some 66, none, .mv (.t 2)⟩,
    ⟨some 67, none, .conv (.int .i64) (.t 66)⟩,
    ⟨some 68, none, .mv (.t 7)⟩,
    ⟨some 69, none, .len false (.t 68)⟩,
    ⟨some 70, none, .bin false .rem (.t 67) (.t 69)⟩,
    ⟨some 71, none, .slcL 2 (.t 65) none (some (.t 70)) none⟩,
    ⟨some 72, none, .app 2 16 (.t 64) (.t 71)⟩,
    ⟨some 15, none, .mv (.t 72)⟩] [])
  (.seq (.reg [⟨some 74, none, .load true 2 (.t 3)⟩,
    ⟨some 75, none, .mv (.t 15)⟩,
    ⟨some 76, none, .call (.c (.fn 54 [] [])) [.t 74, .t 75]⟩,
    ⟨some 73, none, .mv (.t 76)⟩,
    ⟨some 77, none, .ext 0 (.t 73)⟩,
    ⟨some 78, none, .ext 1 (.t 73)⟩,
    ⟨some 79, none, .ext 2 (.t 73)⟩,
    ⟨some 10, none, .mv (.t 77)⟩,
    ⟨some 11, none, .mv (.t 78)⟩,
    ⟨some 12, none, .mv (.t 79)⟩])
  (.seq (.reg [⟨some 81, none, .mv (.t 15)⟩,
    ⟨some 82, none, .faddr 0 (.t 3)⟩,
    ⟨some 83, none, .load false 1 (.t 82)⟩,
    ⟨some 84, none, .call (.c (.fn 43 [] [])) [.t 81, .t 83]⟩,
    ⟨some 80, none, .mv (.t 84)⟩,
    ⟨some 85, none, .ext 0 (.t 80)⟩,
    ⟨some 86, none, .ext 1 (.t 80)⟩,
    ⟨some 16, none, .mv (.t 85)⟩,
    ⟨some 14, none, .mv (.t 86)⟩])
  (.seq (.reg [⟨some 87, none, .mv (.t 12)⟩,
    ⟨some 88, none, .bin false .eql (.t 87) (.c (.int .i64 0))⟩,
    ⟨some 89, none, .mv (.t 88)⟩,
    ⟨some 90, some (89, true), .mv (.t 14)⟩,
    ⟨some 91, some (89, true), .bin false .eql (.t 90) (.c (.int .i64 0))⟩,
    ⟨some 92, none, .pick (.t 89) (.t 91) (.c (.bool false))⟩,
    ⟨some 93, none, .mv (.t 92)⟩,
    ⟨some 94, some (93, true), .mv (.t 10)⟩,
    ⟨some 95, some (93, true), .mv (.t 8)⟩,
    ⟨some 96, some (93, true), .bin false .eql (.t 94) (.t 95)⟩,
    ⟨some 97, none, .pick (.t 93) (.t 96) (.c (.bool false))⟩,
    ⟨some 98, none, .mv (.t 97)⟩,
    ⟨some 99, some (98, true), .mv (.t 11)⟩,
    ⟨some 100, some (98, true), .mv (.t 2)⟩,
    ⟨some 101, some (98, true), .conv (.int .i64) (.t 100)⟩,
    ⟨some 102, some (98, true), .mv (.t 7)⟩,
    ⟨some 103, some (98, true), .len false (.t 102)⟩,
    ⟨some 104, some (98, true), .bin false .rem (.t 101) (.t 103)⟩,
    ⟨some 105, some (98, true), .bin false .eql (.t 99) (.t 104)⟩,
    ⟨some 106, none, .pick (.t 98) (.t 105) (.c (.bool false))⟩,
    ⟨some 107, none, .mv (.t 106)⟩,
    ⟨some 108, some (107, true), .mv (.t 16)⟩,
    ⟨some 109, some (107, true), .len false (.t 108)⟩,
    ⟨some 110, some (107, true), .faddr 0 (.t 3)⟩,
    ⟨some 111, some (107, true), .load false 1 (.t 110)⟩,
    ⟨some 112, some (107, true), .bin false .eql (.t 109) (.t 111)⟩,
    ⟨some 113, none, .pick (.t 107) (.t 112) (.c (.bool false))⟩,
    ⟨some 114, none, .mv (.t 113)⟩,
    ⟨some 115, some (114, true), .call (.c (.fn 40 [] [])) []⟩,
    ⟨some 116, none, .pick (.t 114) (.t 115) (.c (.bool false))⟩,
    ⟨some 6, none, .mv (.t 116)⟩])
  (.ret))))))))))))) false false
theorem mk12 : cFun Try.prog false false Try.f12 = some ir12 := by kernel_rfl
def ir39 : Fun := .mk 16 [.t 2] (
  .seq (.reg [⟨some 2, none, .mv (.c (.bool false))⟩])
  (.seq (.reg [⟨some 3, none, .mv (.t 0)⟩,
    ⟨some 4, none, .len false (.t 3)⟩,
    ⟨some 5, none, .bin false .leq (.t 4) (.c (.int .i64 40))⟩,
    ⟨some 6, none, .mv (.t 5)⟩,
    ⟨some 7, some (6, false), .mv (.t 0)⟩,
    ⟨some 8, some (6, false), .len false (.t 7)⟩,
    ⟨some 9, some (6, false), .bin false .gtr (.t 8) (.c (.int .i64 4096))⟩,
    ⟨some 10, some (6, false), .mv (.t 9)⟩,
    ⟨some 11, some (10, true), .mv (.t 0)⟩,
    ⟨some 12, some (10, true), .len false (.t 11)⟩,
    ⟨some 13, some (10, true), .bin false .lss (.t 12) (.c (.int .i64 8192))⟩,
    ⟨some 14, some (6, false), .pick (.t 10) (.t 13) (.c (.bool false))⟩,
    ⟨some 15, none, .pick (.t 6) (.c (.bool true)) (.t 14)⟩,
    ⟨some 2, none, .mv (.t 15)⟩])
  (.ret))) false false
theorem mk39 : cFun Try.prog false false Try.f39 = some ir39 := by kernel_rfl
def ir40 : Fun := .mk 81 [.t 0] (
  .seq (.reg [⟨some 0, none, .mv (.c (.bool false))⟩])
  (.seq (.reg [⟨some 13, none, .call (.c (.fn 88 [] [])) []⟩,
    ⟨some 1, none, .alloc [.int .i64 0, .nils]⟩,
    ⟨none, none, .store 2 (.t 1) (.t 13)⟩])
  (.seq (.draw [⟨some 15, none, .load true 2 (.t 1)⟩,
    ⟨some 16, none, .call (.c (.fn 89 [] [])) [.c (.str [65, 43, 32, 67, 43, 32, 66, 43, 32, 66, 45])]⟩,
    ⟨some 17, none, .call (.c (.fn 56 [] [])) [.t 15, .t 16]⟩,
    ⟨some 14, none, .mv (.t 17)⟩,
    ⟨some 18, none, .ext 0 (.t 14)⟩,
    ⟨some 19, none, .ext 1 (.t 14)⟩,
    ⟨some 2, none, .mv (.t 18)⟩,
    ⟨some 3, none, .mv (.t 19)⟩] [(0, 1)])
  (.seq (.draw [⟨some 21, none, .load true 2 (.t 1)⟩,
    ⟨some 22, none, .call (.c (.fn 89 [] [])) [.c (.str [65, 43, 32, 67, 43, 32, 66, 43, 32, 66, 45])]⟩,
    ⟨some 23, none, .call (.c (.fn 48 [] [])) [.t 21, .t 22]⟩,
    ⟨some 20, none, .mv (.t 23)⟩,
    ⟨some 24, none, .ext 0 (.t 20)⟩,
    ⟨some 25, none, .ext 1 (.t 20)⟩,
    ⟨some 4, none, .mv (.t 24)⟩,
    ⟨some 5, none, .mv (.t 25)⟩] [(0, 1)])
  (.seq (.draw [⟨some 27, none, .load true 2 (.t 1)⟩,
    ⟨some 28, none, .call (.c (.fn 89 [] [])) [.c (.str [65, 43, 32, 66, 43, 32, 66, 45])]⟩,
    ⟨some 29, none, .call (.c (.fn 49 [] [])) [.t 27, .t 28]⟩,
    ⟨some 26, none, .mv (.t 29)⟩,
    ⟨some 30, none, .ext 0 (.t 26)⟩,
    ⟨some 31, none, .ext 1 (.t 26)⟩,
    ⟨some 32, none, .ext 2 (.t 26)⟩,
    ⟨some 6, none, .mv (.t 30)⟩,
    ⟨some 7, none, .mv (.t 31)⟩,
    ⟨some 8, none, .mv (.t 32)⟩] [(0, 1)])
  (.seq (.reg [⟨some 34, none, .call (.c (.fn 89 [] [])) [.c (.str [65, 43, 32, 66, 43, 32, 65, 45, 32, 65, 43])]⟩,
    ⟨some 35, none, .call (.c (.fn 41 [] [])) [.t 34, .c (.int .i64 0)]⟩,
    ⟨some 33, none, .mv (.t 35)⟩,
    ⟨some 36, none, .ext 0 (.t 33)⟩,
    ⟨some 37, none, .ext 1 (.t 33)⟩,
    ⟨some 9, none, .mv (.t 36)⟩,
    ⟨some 10, none, .mv (.t 37)⟩])
  (.seq (.reg [⟨some 39, none, .call (.c (.fn 89 [] [])) [.c (.str [65, 43, 32, 66, 43, 32, 65, 45, 32, 65, 43])]⟩,
    ⟨some 40, none, .call (.c (.fn 43 [] [])) [.t 39, .c (.int .i64 2)]⟩,
    ⟨some 38, none, .mv (.t 40)⟩,
    ⟨some 41, none, .ext 0 (.t 38)⟩,
    ⟨some 42, none, .ext 1 (.t 38)⟩,
    ⟨some 11, none, .mv (.t 41)⟩,
    ⟨some 12, none, .mv (.t 42)⟩])
  (.seq (.reg [⟨some 43, none, .mv (.t 3)⟩,
    ⟨some 44, none, .mv (.t 5)⟩,
    ⟨some 45, none, .bin false .add (.t 43) (.t 44)⟩,
    ⟨some 46, none, .mv (.t 8)⟩,
    ⟨some 47, none, .bin false .add (.t 45) (.t 46)⟩,
    ⟨some 48, none, .mv (.t 10)⟩,
    ⟨some 49, none, .bin false .add (.t 47) (.t 48)⟩,
    ⟨some 50, none, .mv (.t 12)⟩,
    ⟨some 51, none, .bin false .add (.t 49) (.t 50)⟩,
    ⟨some 52, none, .bin false .eql (.t 51) (.c (.int .i64 0))⟩,
    ⟨some 53, none, .mv (.t 52)⟩,
    ⟨some 54, some (53, true), .mv (.t 2)⟩,
    ⟨some 55, some (53, true), .call (.c (.fn 89 [] [])) [.c (.str [65, 43, 32, 66, 43, 32, 67, 43, 32, 66, 45])]⟩,
    ⟨some 56, some (53, true), .call (.c (.fn 62 [] [])) [.t 54, .t 55]⟩,
    ⟨some 57, none, .pick (.t 53) (.t 56) (.c (.bool false))⟩,
    ⟨some 58, none, .mv (.t 57)⟩,
    ⟨some 59, some (58, true), .mv (.t 4)⟩,
    ⟨some 60, some (58, true), .call (.c (.fn 89 [] [])) [.c (.str [67, 45])]⟩,
    ⟨some 61, some (58, true), .call (.c (.fn 62 [] [])) [.t 59, .t 60]⟩,
    ⟨some 62, none, .pick (.t 58) (.t 61) (.c (.bool false))⟩,
    ⟨some 63, none, .mv (.t 62)⟩,
    ⟨some 64, some (63, true), .mv (.t 6)⟩,
    ⟨some 65, some (63, true), .un .not (.t 64)⟩,
    ⟨some 66, none, .pick (.t 63) (.t 65) (.c (.bool false))⟩,
    ⟨some 67, none, .mv (.t 66)⟩,
    ⟨some 68, some (67, true), .mv (.t 7)⟩,
    ⟨some 69, some (67, true), .bin false .eql (.t 68) (.c (.int .i64 2))⟩,
    ⟨some 70, none, .pick (.t 67) (.t 69) (.c (.bool false))⟩,
    ⟨some 71, none, .mv (.t 70)⟩,
    ⟨some 72, some (71, true), .mv (.t 9)⟩,
    ⟨some 73, some (71, true), .bslice false 1 [.bool false] 3 [(0, (.c (.bool true))), (1, (.c (.bool false))), (2, (.c (.bool true)))]⟩,
    ⟨some 74, some (71, true), .call (.c (.fn 90 [] [])) [.t 72, .t 73]⟩,
    ⟨some 75, none, .pick (.t 71) (.t 74) (.c (.bool false))⟩,
    ⟨some 76, none, .mv (.t 75)⟩,
    ⟨some 77, some (76, true), .mv (.t 11)⟩,
    ⟨some 78, some (76, true), .bslice false 1 [.bool false] 2 [(0, (.c (.bool true))), (1, (.c (.bool true)))]⟩,
    ⟨some 79, some (76, true), .call (.c (.fn 90 [] [])) [.t 77, .t 78]⟩,
    ⟨some 80, none, .pick (.t 76) (.t 79) (.c (.bool false))⟩,
    ⟨some 0, none, .mv (.t 80)⟩])
  (.ret))))))))) false false
theorem mk40 : cFun Try.prog false false Try.f40 = some ir40 := by kernel_rfl
def L41_0 : C := (
  .seq (.reg [⟨some 24, none, .bin false .lss (.t 23) (.t 22)⟩])
  (.seq (.cond (.t 24) (.skip)
    (.exit 0))
  (.seq (.block 1 (.seq (.reg [⟨some 25, none, .iaddrL 2 (.t 21) (.t 23)⟩,
      ⟨some 26, none, .load true 2 (.t 25)⟩,
      ⟨some 9, none, .alloc [.int .i64 0, .bool false]⟩,
      ⟨none, none, .store 2 (.t 9) (.t 26)⟩])
    (.seq (.reg [⟨some 27, none, .faddr 0 (.t 9)⟩,
      ⟨some 28, none, .load false 1 (.t 27)⟩,
      ⟨some 29, none, .mv (.t 1)⟩,
      ⟨some 30, none, .bin false .eql (.t 28) (.t 29)⟩])
    (.cond (.t 30) (.reg [⟨some 31, none, .mv (.t 7)⟩,
        ⟨some 32, none, .faddr 1 (.t 9)⟩,
        ⟨some 33, none, .load false 1 (.t 32)⟩,
        ⟨some 34, none, .bslice false 1 [.bool false] 1 [(0, (.t 33))]⟩,
        ⟨some 35, none, .app 1 1 (.t 31) (.t 34)⟩,
        ⟨some 7, none, .mv (.t 35)⟩])
      (.skip)))))
  (.reg [⟨some 36, none, .bin false .add (.t 23) (.c (.int .i64 1))⟩,
    ⟨some 23, none, .mv (.t 36)⟩]))))
def ir41 : Fun := .mk 38 [.t 4, .t 5] (
  .seq (.reg [⟨some 4, none, .mv (.c (.nils))⟩,
    ⟨some 5, none, .mv (.c (.int .i64 0))⟩])
  (.seq (.seq (.reg [⟨some 10, none, .mv (.t 0)⟩,
    ⟨some 11, none, .call (.c (.fn 91 [] [])) [.t 10]⟩,
    ⟨some 6, none, .mv (.t 11)⟩])
  (.seq (.reg [⟨some 12, none, .mv (.t 6)⟩,
    ⟨some 13, none, .bin false .neq (.t 12) (.c (.int .i64 0))⟩])
  (.cond (.t 13) (.seq (.reg [⟨some 14, none, .mv (.t 6)⟩,
      ⟨some 4, none, .mv (.c (.nils))⟩,
      ⟨some 5, none, .mv (.t 14)⟩])
    (.ret))
    (.skip))))
  (.seq (.seq (.reg [⟨some 15, none, .mv (.t 1)⟩,
    ⟨some 16, none, .bin false .lss (.t 15) (.c (.int .i64 0))⟩,
    ⟨some 17, none, .mv (.t 16)⟩,
    ⟨some 18, some (17, false), .mv (.t 1)⟩,
    ⟨some 19, some (17, false), .bin false .geq (.t 18) (.c (.int .i64 6))⟩,
    ⟨some 20, none, .pick (.t 17) (.c (.bool true)) (.t 19)⟩])
  (.cond (.t 20) (.seq (.reg [⟨some 4, none, .mv (.c (.nils))⟩,
      ⟨some 5, none, .mv (.c (.int .i64 2))⟩])
    (.ret))
    (.skip)))
  (.seq (.reg [⟨some 7, none, .mv (.c (.nils))⟩])
  (.seq (.seq (.reg [⟨some 21, none, .mv (.t 0)⟩,
    ⟨some 22, none, .len false (.t 21)⟩,
    ⟨some 23, none, .mv (.c (.int .i64 0))⟩])
  (.block 0 (.loop L41_0)))
  (.seq (.reg [⟨some 37, none, .mv (.t 7)⟩,
    ⟨some 4, none, .mv (.t 37)⟩,
    ⟨some 5, none, .mv (.c (.int .i64 0))⟩])
  (.ret))))))) false false
theorem mk41 : cFun Try.prog false false Try.f41 = some ir41 := by kernel_rfl
def L42_0 : C := (
  .seq (.seq (.reg [⟨some 17, none, .mv (.t 8)⟩,
    ⟨some 18, none, .mv (.t 0)⟩,
    ⟨some 19, none, .len false (.t 18)⟩,
    ⟨some 20, none, .bin false .lss (.t 17) (.t 19)⟩])
  (.cond (.t 20) (.skip)
    (.exit 0)))
  (.seq (.block 1 (.seq (.reg [⟨some 23, none, .mv (.t 0)⟩,
      ⟨some 24, none, .mv (.t 8)⟩,
      ⟨some 25, none, .iaddrL 2 (.t 23) (.t 24)⟩,
      ⟨some 26, none, .faddr 0 (.t 25)⟩,
      ⟨some 27, none, .load false 1 (.t 26)⟩,
      ⟨some 28, none, .mv (.t 1)⟩,
      ⟨some 29, none, .bin false .eql (.t 27) (.t 28)⟩])
    (.cond (.t 29) (.reg [⟨some 30, none, .mv (.t 7)⟩,
        ⟨some 31, none, .mv (.t 0)⟩,
        ⟨some 32, none, .mv (.t 8)⟩,
        ⟨some 33, none, .iaddrL 2 (.t 31) (.t 32)⟩,
        ⟨some 34, none, .faddr 1 (.t 33)⟩,
        ⟨some 35, none, .load false 1 (.t 34)⟩,
        ⟨some 36, none, .bslice false 1 [.bool false] 1 [(0, (.t 35))]⟩,
        ⟨some 37, none, .app 1 1 (.t 30) (.t 36)⟩,
        ⟨some 7, none, .mv (.t 37)⟩])
      (.skip))))
  (.reg [⟨some 21, none, .mv (.t 8)⟩,
    ⟨some 22, none, .bin false .add (.t 21) (.c (.int .i64 1))⟩,
    ⟨some 8, none, .mv (.t 22)⟩])))
def ir42 : Fun := .mk 39 [.t 4, .t 5] (
  .seq (.reg [⟨some 4, none, .mv (.c (.nils))⟩,
    ⟨some 5, none, .mv (.c (.int .i64 0))⟩])
  (.seq (.seq (.reg [⟨some 9, none, .mv (.t 0)⟩,
    ⟨some 10, none, .call (.c (.fn 92 [] [])) [.t 9]⟩,
    ⟨some 6, none, .mv (.t 10)⟩])
  (.seq (.reg [⟨some 11, none, .mv (.t 6)⟩,
    ⟨some 12, none, .bin false .neq (.t 11) (.c (.int .i64 0))⟩])
  (.cond (.t 12) (.seq (.reg [⟨some 13, none, .mv (.t 6)⟩,
      ⟨some 4, none, .mv (.c (.nils))⟩,
      ⟨some 5, none, .mv (.t 13)⟩])
    (.ret))
    (.skip))))
  (.seq (.seq (.reg [⟨some 14, none, .mv (.t 1)⟩,
    ⟨some 15, none, .call (.c (.fn 93 [] [])) [.t 14]⟩,
    ⟨some 16, none, .un .not (.t 15)⟩])
  (.cond (.t 16) (.seq (.reg [⟨some 4, none, .mv (.c (.nils))⟩,
      ⟨some 5, none, .mv (.c (.int .i64 2))⟩])
    (.ret))
    (.skip)))
  (.seq (.reg [⟨some 7, none, .mv (.c (.nils))⟩])
  (.seq (.seq (.reg [⟨some 8, none, .mv (.c (.int .i64 0))⟩])
  (.block 0 (.loop L42_0)))
  (.seq (.reg [⟨some 38, none, .mv (.t 7)⟩,
    ⟨some 4, none, .mv (.t 38)⟩,
    ⟨some 5, none, .mv (.c (.int .i64 0))⟩])
  (.ret))))))) false false
theorem mk42 : cFun Try.prog false false Try.f42 = some ir42 := by kernel_rfl
def L43_0 : C := (
  .seq (.reg [⟨some 26, none, .bin false .lss (.t 25) (.t 24)⟩])
  (.seq (.cond (.t 26) (.skip)
    (.exit 0))
  (.seq (.block 1 (.seq (.reg [⟨some 27, none, .iaddrL 2 (.t 23) (.t 25)⟩,
      ⟨some 28, none, .load true 2 (.t 27)⟩,
      ⟨some 9, none, .alloc [.int .i64 0, .bool false]⟩,
      ⟨none, none, .store 2 (.t 9) (.t 28)⟩])
    (.seq (.block 2 (.seq (.reg [⟨some 30, none, .faddr 0 (.t 9)⟩,
        ⟨some 31, none, .load false 1 (.t 30)⟩,
        ⟨some 32, none, .mv (.t 1)⟩,
        ⟨some 33, none, .bin false .geq (.t 31) (.t 32)⟩,
        ⟨some 29, none, .mv (.t 33)⟩])
      (.cond (.t 29) (.seq (.reg [⟨some 4, none, .mv (.c (.nils))⟩,
          ⟨some 5, none, .mv (.c (.int .i64 6))⟩])
        (.ret))
        (.seq (.draw [⟨some 35, none, .mv (.t 7)⟩,
          ⟨some 36, none, .faddr 0 (.t 9)⟩,
          ⟨some 37, none, .load false 1 (.t 36)⟩,
          ⟨some 38, none, .iaddrL 1 (.t 35) (.t 37)⟩,
          ⟨some 39, none, .load false 1 (.t 38)⟩,
          ⟨some 40, none, .faddr 1 (.t 9)⟩,
          ⟨some 41, none, .load false 1 (.t 40)⟩,
          ⟨some 42, none, .bin true .eql (.t 39) (.t 41)⟩,
          ⟨some 34, none, .mv (.t 42)⟩] [])
        (.cond (.t 34) (.seq (.reg [⟨some 4, none, .mv (.c (.nils))⟩,
            ⟨some 5, none, .mv (.c (.int .i64 14))⟩])
          (.ret))
          (.skip))))))
    (.reg [⟨some 43, none, .mv (.t 7)⟩,
      ⟨some 44, none, .faddr 0 (.t 9)⟩,
      ⟨some 45, none, .load false 1 (.t 44)⟩,
      ⟨some 46, none, .faddr 1 (.t 9)⟩,
      ⟨some 47, none, .load false 1 (.t 46)⟩,
      ⟨some 48, none, .iaddrL 1 (.t 43) (.t 45)⟩,
      ⟨none, none, .store 1 (.t 48) (.t 47)⟩]))))
  (.reg [⟨some 49, none, .bin false .add (.t 25) (.c (.int .i64 1))⟩,
    ⟨some 25, none, .mv (.t 49)⟩]))))
def ir43 : Fun := .mk 51 [.t 4, .t 5] (
  .seq (.reg [⟨some 4, none, .mv (.c (.nils))⟩,
    ⟨some 5, none, .mv (.c (.int .i64 0))⟩])
  (.seq (.seq (.reg [⟨some 10, none, .mv (.t 0)⟩,
    ⟨some 11, none, .call (.c (.fn 91 [] [])) [.t 10]⟩,
    ⟨some 6, none, .mv (.t 11)⟩])
  (.seq (.reg [⟨some 12, none, .mv (.t 6)⟩,
    ⟨some 13, none, .bin false .neq (.t 12) (.c (.int .i64 0))⟩])
  (.cond (.t 13) (.seq (.reg [⟨some 14, none, .mv (.t 6)⟩,
      ⟨some 4, none, .mv (.c (.nils))⟩,
      ⟨some 5, none, .mv (.t 14)⟩])
    (.ret))
    (.skip))))
  (.seq (.seq (.reg [⟨some 15, none, .mv (.t 1)⟩,
    ⟨some 16, none, .bin false .lss (.t 15) (.c (.int .i64 1))⟩,
    ⟨some 17, none, .mv (.t 16)⟩,
    ⟨some 18, some (17, false), .mv (.t 1)⟩,
    ⟨some 19, some (17, false), .bin false .gtr (.t 18) (.c (.int .i64 6))⟩,
    ⟨some 20, none, .pick (.t 17) (.c (.bool true)) (.t 19)⟩])
  (.cond (.t 20) (.seq (.reg [⟨some 4, none, .mv (.c (.nils))⟩,
      ⟨some 5, none, .mv (.c (.int .i64 2))⟩])
    (.ret))
    (.skip)))
  (.seq (.reg [⟨some 21, none, .mv (.t 1)⟩,
    ⟨some 22, none, .mkslice 1 1 [.bool false] (.t 21) (.t 21)⟩,
    ⟨some 7, none, .mv (.t 22)⟩])
  (.seq (.seq (.reg [⟨some 23, none, .mv (.t 0)⟩,
    ⟨some 24, none, .len false (.t 23)⟩,
    ⟨some 25, none, .mv (.c (.int .i64 0))⟩])
  (.block 0 (.loop L43_0)))
  (.seq (.reg [⟨some 50, none, .mv (.t 7)⟩,
    ⟨some 4, none, .mv (.t 50)⟩,
    ⟨some 5, none, .mv (.c (.int .i64 0))⟩])
  (.ret))))))) false false
theorem mk43 : cFun Try.prog false false Try.f43 = some ir43 := by kernel_rfl
def L44_0 : C := (
  .seq (.seq (.reg [⟨some 23, none, .mv (.t 8)⟩,
    ⟨some 24, none, .mv (.t 0)⟩,
    ⟨some 25, none, .len false (.t 24)⟩,
    ⟨some 26, none, .bin false .lss (.t 23) (.t 25)⟩])
  (.cond (.t 26) (.skip)
    (.exit 0)))
  (.seq (.block 1 (.seq (.reg [⟨some 29, none, .mv (.t 0)⟩,
      ⟨some 30, none, .mv (.t 8)⟩,
      ⟨some 31, none, .iaddrL 2 (.t 29) (.t 30)⟩,
      ⟨some 32, none, .faddr 0 (.t 31)⟩,
      ⟨some 33, none, .load false 1 (.t 32)⟩,
      ⟨some 9, none, .mv (.t 33)⟩])
    (.seq (.seq (.reg [⟨some 34, none, .mv (.t 9)⟩,
      ⟨some 35, none, .mv (.t 1)⟩,
      ⟨some 36, none, .bin false .geq (.t 34) (.t 35)⟩])
    (.cond (.t 36) (.seq (.reg [⟨some 4, none, .mv (.c (.nils))⟩,
        ⟨some 5, none, .mv (.c (.int .i64 6))⟩])
      (.ret))
      (.skip)))
    (.seq (.seq (.draw [⟨some 37, none, .mv (.t 7)⟩,
      ⟨some 38, none, .mv (.t 9)⟩,
      ⟨some 39, none, .iaddrL 1 (.t 37) (.t 38)⟩,
      ⟨some 40, none, .load false 1 (.t 39)⟩,
      ⟨some 41, none, .mv (.t 0)⟩,
      ⟨some 42, none, .mv (.t 8)⟩,
      ⟨some 43, none, .iaddrL 2 (.t 41) (.t 42)⟩,
      ⟨some 44, none, .faddr 1 (.t 43)⟩,
      ⟨some 45, none, .load false 1 (.t 44)⟩,
      ⟨some 46, none, .bin true .eql (.t 40) (.t 45)⟩] [])
    (.cond (.t 46) (.seq (.reg [⟨some 4, none, .mv (.c (.nils))⟩,
        ⟨some 5, none, .mv (.c (.int .i64 14))⟩])
      (.ret))
      (.skip)))
    (.reg [⟨some 47, none, .mv (.t 7)⟩,
      ⟨some 48, none, .mv (.t 9)⟩,
      ⟨some 49, none, .mv (.t 0)⟩,
      ⟨some 50, none, .mv (.t 8)⟩,
      ⟨some 51, none, .iaddrL 2 (.t 49) (.t 50)⟩,
      ⟨some 52, none, .faddr 1 (.t 51)⟩,
      ⟨some 53, none, .load false 1 (.t 52)⟩,
      ⟨some 54, none, .iaddrL 1 (.t 47) (.t 48)⟩,
      ⟨none, none, .store 1 (.t 54) (.t 53)⟩])))))
  (.reg [⟨some 27, none, .mv (.t 8)⟩,
    ⟨some 28, none, .bin false .add (.t 27) (.c (.int .i64 1))⟩,
    ⟨some 8, none, .mv (.t 28)⟩])))
def ir44 : Fun := .mk 56 [.t 4, .t 5] (
  .seq (.reg [⟨some 4, none, .mv (.c (.nils))⟩,
    ⟨some 5, none, .mv (.c (.int .i64 0))⟩])
  (.seq (.seq (.reg [⟨some 10, none, .mv (.t 0)⟩,
    ⟨some 11, none, .call (.c (.fn 92 [] [])) [.t 10]⟩,
    ⟨some 6, none, .mv (.t 11)⟩])
  (.seq (.reg [⟨some 12, none, .mv (.t 6)⟩,
    ⟨some 13, none, .bin false .neq (.t 12) (.c (.int .i64 0))⟩])
  (.cond (.t 13) (.seq (.reg [⟨some 14, none, .mv (.t 6)⟩,
      ⟨some 4, none, .mv (.c (.nils))⟩,
      ⟨some 5, none, .mv (.t 14)⟩])
    (.ret))
    (.skip))))
  (.seq (.seq (.reg [⟨some 15, none, .mv (.t 1)⟩,
    ⟨some 16, none, .bin false .lss (.t 15) (.c (.int .i64 1))⟩,
    ⟨some 17, none, .mv (.t 16)⟩,
    ⟨some 18, some (17, false), .mv (.t 1)⟩,
    ⟨some 19, some (17, false), .bin false .gtr (.t 18) (.c (.int .i64 6))⟩,
    ⟨some 20, none, .pick (.t 17) (.c (.bool true)) (.t 19)⟩])
  (.cond (.t 20) (.seq (.reg [⟨some 4, none, .mv (.c (.nils))⟩,
      ⟨some 5, none, .mv (.c (.int .i64 2))⟩])
    (.ret))
    (.skip)))
  (.seq (.reg [⟨some 21, none, .mv (.t 1)⟩,
    ⟨some 22, none, .mkslice 1 1 [.bool false] (.t 21) (.t 21)⟩,
    ⟨some 7, none, .mv (.t 22)⟩])
  (.seq (.seq (.reg [⟨some 8, none, .mv (.c (.int .i64 0))⟩])
  (.block 0 (.loop L44_0)))
  (.seq (.reg [⟨some 55, none, .mv (.t 7)⟩,
    ⟨some 4, none, .mv (.t 55)⟩,
    ⟨some 5, none, .mv (.c (.int .i64 0))⟩])
  (.ret))))))) false false
theorem mk44 : cFun Try.prog false false Try.f44 = some ir44 := by kernel_rfl
def ir45 : Fun := .mk 8 [.t 4] (
  .seq (.reg [⟨some 4, none, .mv (.c (.bool false))⟩])
  (.seq (.reg [⟨some 5, none, .mv (.t 0)⟩,
    ⟨some 6, none, .mv (.t 1)⟩,
    ⟨some 7, none, .call (.c (.fn 94 [] [])) [.t 5, .t 6]⟩,
    ⟨some 4, none, .mv (.t 7)⟩])
  (.ret))) false false
theorem mk45 : cFun Try.prog false false Try.f45 = some ir45 := by kernel_rfl
def ir46 : Fun := .mk 22 [.t 4] (
  .seq (.reg [⟨some 2, none, .box (.t 0)⟩,
    ⟨some 4, none, .mv (.c (.bool false))⟩])
  (.seq (.reg [⟨some 5, none, .load true 2 (.t 2)⟩,
    ⟨some 6, none, .call (.c (.fn 52 [] [])) [.t 5]⟩,
    ⟨some 7, none, .mv (.t 6)⟩,
    ⟨some 8, some (7, true), .mv (.t 1)⟩,
    ⟨some 9, some (7, true), .len false (.t 8)⟩,
    ⟨some 10, some (7, true), .bin false .leq (.t 9) (.c (.int .i64 40))⟩,
    ⟨some 11, none, .pick (.t 7) (.t 10) (.c (.bool false))⟩,
    ⟨some 12, none, .mv (.t 11)⟩,
    ⟨some 13, some (12, true), .load true 2 (.t 2)⟩,
    ⟨some 14, some (12, true), .call (.c (.fn 95 [] [])) [.t 13]⟩,
    ⟨some 15, some (12, true), .bin false .eql (.t 14) (.c (.int .i64 0))⟩,
    ⟨some 16, none, .pick (.t 12) (.t 15) (.c (.bool false))⟩,
    ⟨some 17, none, .mv (.t 16)⟩,
    ⟨some 18, some (17, true), .mv (.t 1)⟩,
    ⟨some 19, some (17, true), .call (.c (.fn 92 [] [])) [.t 18]⟩,
    ⟨some 20, some (17, true), .bin false .eql (.t 19) (.c (.int .i64 0))⟩,
    ⟨some 21, none, .pick (.t 17) (.t 20) (.c (.bool false))⟩,
    ⟨some 4, none, .mv (.t 21)⟩])
  (.ret))) false false
theorem mk46 : cFun Try.prog false false Try.f46 = some ir46 := by kernel_rfl
def ir47 : Fun := .mk 7 [.t 2] (
  .seq (.reg [⟨some 1, none, .box (.t 0)⟩,
    ⟨some 2, none, .mv (.c (.int .i64 0))⟩])
  (.seq (.seq (.reg [⟨some 3, none, .faddr 0 (.t 1)⟩,
    ⟨some 4, none, .load false 1 (.t 3)⟩,
    ⟨some 5, none, .call (.c (.fn 93 [] [])) [.t 4]⟩,
    ⟨some 6, none, .un .not (.t 5)⟩])
  (.cond (.t 6) (.seq (.reg [⟨some 2, none, .mv (.c (.int .i64 2))⟩])
    (.ret))
    (.skip)))
  (.seq (.reg [⟨some 2, none, .mv (.c (.int .i64 0))⟩])
  (.ret)))) false false
theorem mk47 : cFun Try.prog false false Try.f47 = some ir47 := by kernel_rfl
def ir48 : Fun := .mk 22 [.t 4, .t 5] (
  .seq (.reg [⟨some 2, none, .box (.t 0)⟩,
    ⟨some 4, none, .mv (.c (.nils))⟩,
    ⟨some 5, none, .mv (.c (.int .i64 0))⟩])
  (.seq (.reg [⟨some 10, none, .load true 2 (.t 2)⟩,
    ⟨some 11, none, .mv (.t 1)⟩,
    ⟨some 12, none, .call (.c (.fn 96 [] [])) [.t 10, .t 11]⟩,
    ⟨some 9, none, .mv (.t 12)⟩,
    ⟨some 13, none, .ext 0 (.t 9)⟩,
    ⟨some 14, none, .ext 1 (.t 9)⟩,
    ⟨some 15, none, .ext 2 (.t 9)⟩,
    ⟨some 6, none, .mv (.t 13)⟩,
    ⟨some 7, none, .mv (.t 14)⟩,
    ⟨some 8, none, .mv (.t 15)⟩])
  (.seq (.seq (.reg [⟨some 16, none, .mv (.t 8)⟩,
    ⟨some 17, none, .bin false .neq (.t 16) (.c (.int .i64 0))⟩])
  (.cond (.t 17) (.seq (.reg [⟨some 18, none, .mv (.t 8)⟩,
      ⟨some 4, none, .mv (.c (.nils))⟩,
      ⟨some 5, none, .mv (.t 18)⟩])
    (.ret))
    (.skip)))
  (.seq (.reg [⟨some 19, none, .mv (.t 7)⟩,
    ⟨some 20, none, .call (.c (.fn 97 [] [])) [.t 19, .c (.fn 98 [] [])]⟩])
  (.seq (.reg [⟨some 21, none, .mv (.t 7)⟩,
    ⟨some 4, none, .mv (.t 21)⟩,
    ⟨some 5, none, .mv (.c (.int .i64 0))⟩])
  (.ret)))))) false false
theorem mk48 : cFun Try.prog false false Try.f48 = some ir48 := by kernel_rfl
def ir49 : Fun := .mk 30 [.t 4, .t 5, .t 6] (
  .seq (.reg [⟨some 2, none, .box (.t 0)⟩,
    ⟨some 4, none, .mv (.c (.bool false))⟩,
    ⟨some 5, none, .mv (.c (.int .i64 0))⟩,
    ⟨some 6, none, .mv (.c (.int .i64 0))⟩])
  (.seq (.seq (.reg [⟨some 11, none, .load true 2 (.t 2)⟩,
    ⟨some 12, none, .mv (.t 1)⟩,
    ⟨some 13, none, .bslice true 1 [.imm []] 1 [(0, (.t 12))]⟩,
    ⟨some 14, none, .call (.c (.fn 99 [] [])) [.t 11, .t 13]⟩,
    ⟨some 7, none, .mv (.t 14)⟩])
  (.seq (.reg [⟨some 15, none, .mv (.t 7)⟩,
    ⟨some 16, none, .bin false .neq (.t 15) (.c (.int .i64 0))⟩])
  (.cond (.t 16) (.seq (.reg [⟨some 17, none, .mv (.t 7)⟩,
      ⟨some 4, none, .mv (.c (.bool false))⟩,
      ⟨some 5, none, .mv (.c (.int .i64 0))⟩,
      ⟨some 6, none, .mv (.t 17)⟩])
    (.ret))
    (.skip))))
  (.seq (.reg [⟨some 19, none, .load true 2 (.t 2)⟩,
    ⟨some 20, none, .mv (.t 1)⟩,
    ⟨some 21, none, .call (.c (.fn 100 [] [])) [.t 19, .t 20]⟩,
    ⟨some 18, none, .mv (.t 21)⟩,
    ⟨some 22, none, .ext 0 (.t 18)⟩,
    ⟨some 23, none, .ext 1 (.t 18)⟩,
    ⟨some 24, none, .ext 2 (.t 18)⟩,
    ⟨some 8, none, .mv (.t 22)⟩,
    ⟨some 9, none, .mv (.t 23)⟩,
    ⟨some 10, none, .mv (.t 24)⟩])
  (.seq (.reg [⟨some 25, none, .mv (.t 8)⟩,
    ⟨some 26, none, .mv (.t 1)⟩,
    ⟨some 27, none, .len false (.t 26)⟩,
    ⟨some 28, none, .bin false .eql (.t 25) (.t 27)⟩,
    ⟨some 29, none, .mv (.t 8)⟩,
    ⟨some 4, none, .mv (.t 28)⟩,
    ⟨some 5, none, .mv (.t 29)⟩,
    ⟨some 6, none, .mv (.c (.int .i64 0))⟩])
  (.ret))))) false false
theorem mk49 : cFun Try.prog false false Try.f49 = some ir49 := by kernel_rfl
def ir50 : Fun := .mk 8 [.t 2] (
  .seq (.reg [⟨some 2, none, .mv (.c (.nils))⟩])
  (.seq (.seq (.reg [⟨some 3, none, .mv (.t 0)⟩,
    ⟨some 4, none, .isnil false (.t 3)⟩])
  (.cond (.t 4) (.seq (.reg [⟨some 2, none, .mv (.c (.nils))⟩])
    (.ret))
    (.skip)))
  (.seq (.reg [⟨some 5, none, .bslice false 2 [.int .i64 0, .bool false] 0 []⟩,
    ⟨some 6, none, .mv (.t 0)⟩,
    ⟨some 7, none, .app 2 16 (.t 5) (.t 6)⟩,
    ⟨some 2, none, .mv (.t 7)⟩])
  (.ret)))) true false
theorem mk50 : cFun Try.prog true false Try.f50 = some ir50 := by kernel_rfl
def ir51 : Fun := .mk 9 [.t 4] (
  .seq (.reg [⟨some 3, none, .box (.t 1)⟩,
    ⟨some 4, none, .mv (.c (.bool false))⟩])
  (.seq (.reg [⟨some 5, none, .mv (.t 0)⟩,
    ⟨some 6, none, .load true 2 (.t 3)⟩,
    ⟨some 7, none, .call (.c (.fn 101 [] [])) [.t 5, .t 6]⟩,
    ⟨some 8, none, .bin false .geq (.t 7) (.c (.int .i64 0))⟩,
    ⟨some 4, none, .mv (.t 8)⟩])
  (.ret))) false false
theorem mk51 : cFun Try.prog false false Try.f51 = some ir51 := by kernel_rfl
def ir52 : Fun := .mk 16 [.t 2] (
  .seq (.reg [⟨some 1, none, .box (.t 0)⟩,
    ⟨some 2, none, .mv (.c (.bool false))⟩])
  (.seq (.reg [⟨some 3, none, .load true 2 (.t 1)⟩,
    ⟨some 4, none, .call (.c (.fn 102 [] [])) [.t 3]⟩,
    ⟨some 5, none, .mv (.t 4)⟩,
    ⟨some 6, some (5, true), .faddr 1 (.t 1)⟩,
    ⟨some 7, some (5, true), .load false 1 (.t 6)⟩,
    ⟨some 8, some (5, true), .len false (.t 7)⟩,
    ⟨some 9, some (5, true), .bin false .leq (.t 8) (.c (.int .i64 12))⟩,
    ⟨some 10, some (5, true), .mv (.t 9)⟩,
    ⟨some 11, some (10, false), .load true 2 (.t 1)⟩,
    ⟨some 12, some (10, false), .call (.c (.fn 95 [] [])) [.t 11]⟩,
    ⟨some 13, some (10, false), .bin false .neq (.t 12) (.c (.int .i64 0))⟩,
    ⟨some 14, some (5, true), .pick (.t 10) (.c (.bool true)) (.t 13)⟩,
    ⟨some 15, none, .pick (.t 5) (.t 14) (.c (.bool false))⟩,
    ⟨some 2, none, .mv (.t 15)⟩])
  (.ret))) false false
theorem mk52 : cFun Try.prog false false Try.f52 = some ir52 := by kernel_rfl
def ir53 : Fun := .mk 23 [.t 4, .t 5, .t 6] (
  .seq (.reg [⟨some 2, none, .box (.t 0)⟩,
    ⟨some 4, none, .mv (.c (.bool false))⟩,
    ⟨some 5, none, .mv (.c (.int .i64 0))⟩,
    ⟨some 6, none, .mv (.c (.int .i64 0))⟩])
  (.seq (.seq (.reg [⟨some 9, none, .load true 2 (.t 2)⟩,
    ⟨some 10, none, .mv (.t 1)⟩,
    ⟨some 11, none, .call (.c (.fn 103 [] [])) [.t 9, .t 10]⟩,
    ⟨some 7, none, .mv (.t 11)⟩])
  (.seq (.reg [⟨some 12, none, .mv (.t 7)⟩,
    ⟨some 13, none, .bin false .neq (.t 12) (.c (.int .i64 0))⟩])
  (.cond (.t 13) (.seq (.reg [⟨some 14, none, .mv (.t 7)⟩,
      ⟨some 4, none, .mv (.c (.bool false))⟩,
      ⟨some 5, none, .mv (.c (.int .i64 0))⟩,
      ⟨some 6, none, .mv (.t 14)⟩])
    (.ret))
    (.skip))))
  (.seq (.reg [⟨some 15, none, .load true 2 (.t 2)⟩,
    ⟨some 16, none, .mv (.t 1)⟩,
    ⟨some 17, none, .call (.c (.fn 104 [] [])) [.t 15, .t 16]⟩,
    ⟨some 8, none, .mv (.t 17)⟩])
  (.seq (.reg [⟨some 18, none, .mv (.t 8)⟩,
    ⟨some 19, none, .mv (.t 1)⟩,
    ⟨some 20, none, .len false (.t 19)⟩,
    ⟨some 21, none, .bin false .eql (.t 18) (.t 20)⟩,
    ⟨some 22, none, .mv (.t 8)⟩,
    ⟨some 4, none, .mv (.t 21)⟩,
    ⟨some 5, none, .mv (.t 22)⟩,
    ⟨some 6, none, .mv (.c (.int .i64 0))⟩])
  (.ret))))) false false
theorem mk53 : cFun Try.prog false false Try.f53 = some ir53 := by kernel_rfl
def L54_0 : C := (
  .seq (.reg [⟨some 27, none, .bin false .lss (.t 26) (.t 25)⟩])
  (.seq (.cond (.t 27) (.skip)
    (.exit 0))
  (.seq (.block 1 (.seq (.reg [⟨some 28, none, .iaddrL 2 (.t 24) (.t 26)⟩,
      ⟨some 29, none, .load true 2 (.t 28)⟩,
      ⟨some 12, none, .alloc [.nils, .int .i64 0]⟩,
      ⟨none, none, .store 2 (.t 12) (.t 29)⟩])
    (.reg [⟨some 30, none, .mv (.t 10)⟩,
      ⟨some 31, none, .faddr 0 (.t 12)⟩,
      ⟨some 32, none, .load false 1 (.t 31)⟩,
      ⟨some 33, none, .len false (.t 32)⟩,
      ⟨some 34, none, .bin false .add (.t 30) (.t 33)⟩,
      ⟨some 10, none, .mv (.t 34)⟩])))
  (.reg [⟨some 35, none, .bin false .add (.t 26) (.c (.int .i64 1))⟩,
    ⟨some 26, none, .mv (.t 35)⟩]))))
def ir54 : Fun := .mk 44 [.t 4, .t 5, .t 6] (
  .seq (.reg [⟨some 2, none, .box (.t 0)⟩,
    ⟨some 4, none, .mv (.c (.int .i64 0))⟩,
    ⟨some 5, none, .mv (.c (.int .i64 0))⟩,
    ⟨some 6, none, .mv (.c (.int .i64 0))⟩])
  (.seq (.seq (.reg [⟨some 14, none, .load true 2 (.t 2)⟩,
    ⟨some 15, none, .mv (.t 1)⟩,
    ⟨some 16, none, .call (.c (.fn 96 [] [])) [.t 14, .t 15]⟩,
    ⟨some 13, none, .mv (.t 16)⟩,
    ⟨some 17, none, .ext 0 (.t 13)⟩,
    ⟨some 18, none, .ext 1 (.t 13)⟩,
    ⟨some 19, none, .ext 2 (.t 13)⟩,
    ⟨some 7, none, .mv (.t 17)⟩,
    ⟨some 8, none, .mv (.t 18)⟩,
    ⟨some 9, none, .mv (.t 19)⟩])
  (.seq (.reg [⟨some 20, none, .mv (.t 9)⟩,
    ⟨some 21, none, .bin false .neq (.t 20) (.c (.int .i64 0))⟩])
  (.cond (.t 21) (.seq (.reg [⟨some 22, none, .mv (.t 9)⟩,
      ⟨some 4, none, .mv (.c (.int .i64 0))⟩,
      ⟨some 5, none, .mv (.c (.int .i64 0))⟩,
      ⟨some 6, none, .mv (.t 22)⟩])
    (.ret))
    (.skip))))
  (.seq (.reg [⟨some 10, none, .mv (.c (.int .i64 0))⟩])
  (.seq (.seq (.reg [⟨some 23, none, .faddr 1 (.t 2)⟩,
    ⟨some 24, none, .load false 1 (.t 23)⟩,
    ⟨some 25, none, .len false (.t 24)⟩,
    ⟨some 26, none, .mv (.c (.int .i64 0))⟩])
  (.block 0 (.loop L54_0)))
  (.seq (.draw [⟨some 36, none, .mv (.t 1)⟩,
    ⟨some 37, none, .len false (.t 36)⟩,
    ⟨some 38, none, .mv (.t 10)⟩,
    ⟨some 39, none, .bin false .quo (.t 37) (.t 38)⟩,
    ⟨some 40, none, .mv (.t 1)⟩,
    ⟨some 41, none, .len false (.t 40)⟩,
    ⟨some 42, none, .mv (.t 10)⟩,
    ⟨some 43, none, .bin false .rem (.t 41) (.t 42)⟩,
    ⟨some 4, none, .mv (.t 39)⟩,
    ⟨some 5, none, .mv (.t 43)⟩,
    ⟨some 6, none, .mv (.c (.int .i64 0))⟩] [])
  (.ret)))))) false false
theorem mk54 : cFun Try.prog false false Try.f54 = some ir54 := by kernel_rfl
def ir55 : Fun := .mk 30 [.t 4, .t 5, .t 6] (
  .seq (.reg [⟨some 2, none, .box (.t 0)⟩,
    ⟨some 4, none, .mv (.c (.int .i64 0))⟩,
    ⟨some 5, none, .mv (.c (.int .i64 0))⟩,
    ⟨some 6, none, .mv (.c (.int .i64 0))⟩])
  (.seq (.seq (.reg [⟨some 9, none, .load true 2 (.t 2)⟩,
    ⟨some 10, none, .mv (.t 1)⟩,
    ⟨some 11, none, .call (.c (.fn 105 [] [])) [.t 9, .t 10]⟩,
    ⟨some 7, none, .mv (.t 11)⟩])
  (.seq (.reg [⟨some 12, none, .mv (.t 7)⟩,
    ⟨some 13, none, .bin false .neq (.t 12) (.c (.int .i64 0))⟩])
  (.cond (.t 13) (.seq (.reg [⟨some 14, none, .mv (.t 7)⟩,
      ⟨some 4, none, .mv (.c (.int .i64 0))⟩,
      ⟨some 5, none, .mv (.c (.int .i64 0))⟩,
      ⟨some 6, none, .mv (.t 14)⟩])
    (.ret))
    (.skip))))
  (.seq (.reg [⟨some 15, none, .load true 2 (.t 2)⟩,
    ⟨some 16, none, .mv (.t 1)⟩,
    ⟨some 17, none, .mv (.t 1)⟩,
    ⟨some 18, none, .len false (.t 17)⟩,
    ⟨some 19, none, .call (.c (.fn 106 [] [])) [.t 15, .t 16, .t 18]⟩,
    ⟨some 20, none, .fld false 0 1 (.t 19)⟩,
    ⟨some 8, none, .mv (.t 20)⟩])
  (.seq (.reg [⟨some 21, none, .mv (.t 8)⟩,
    ⟨some 22, none, .mv (.t 1)⟩,
    ⟨some 23, none, .len false (.t 22)⟩,
    ⟨some 24, none, .mv (.t 8)⟩,
    ⟨some 25, none, .load true 2 (.t 2)⟩,
    ⟨some 26, none, .call (.c (.fn 63 [] [])) [.t 25]⟩,
    ⟨some 27, none, .len false (.t 26)⟩,
    ⟨some 28, none, .bin false .mul (.t 24) (.t 27)⟩,
    ⟨some 29, none, .bin false .sub (.t 23) (.t 28)⟩,
    ⟨some 4, none, .mv (.t 21)⟩,
    ⟨some 5, none, .mv (.t 29)⟩,
    ⟨some 6, none, .mv (.c (.int .i64 0))⟩])
  (.ret))))) false false
theorem mk55 : cFun Try.prog false false Try.f55 = some ir55 := by kernel_rfl
def ir56 : Fun := .mk 21 [.t 4, .t 5] (
  .seq (.reg [⟨some 2, none, .box (.t 0)⟩,
    ⟨some 4, none, .mv (.c (.nils))⟩,
    ⟨some 5, none, .mv (.c (.int .i64 0))⟩])
  (.seq (.reg [⟨some 10, none, .load true 2 (.t 2)⟩,
    ⟨some 11, none, .mv (.t 1)⟩,
    ⟨some 12, none, .call (.c (.fn 96 [] [])) [.t 10, .t 11]⟩,
    ⟨some 9, none, .mv (.t 12)⟩,
    ⟨some 13, none, .ext 0 (.t 9)⟩,
    ⟨some 14, none, .ext 1 (.t 9)⟩,
    ⟨some 15, none, .ext 2 (.t 9)⟩,
    ⟨some 6, none, .mv (.t 13)⟩,
    ⟨some 7, none, .mv (.t 14)⟩,
    ⟨some 8, none, .mv (.t 15)⟩])
  (.seq (.seq (.reg [⟨some 16, none, .mv (.t 8)⟩,
    ⟨some 17, none, .bin false .neq (.t 16) (.c (.int .i64 0))⟩])
  (.cond (.t 17) (.seq (.reg [⟨some 18, none, .mv (.t 8)⟩,
      ⟨some 4, none, .mv (.c (.nils))⟩,
      ⟨some 5, none, .mv (.t 18)⟩])
    (.ret))
    (.skip)))
  (.seq (.reg [⟨some 19, none, .mv (.t 6)⟩,
    ⟨some 20, none, .call (.c (.fn 107 [] [])) [.t 19]⟩,
    ⟨some 4, none, .mv (.t 20)⟩,
    ⟨some 5, none, .mv (.c (.int .i64 0))⟩])
  (.ret))))) false false
theorem mk56 : cFun Try.prog false false Try.f56 = some ir56 := by kernel_rfl
def ir57 : Fun := .mk 16 [.t 4, .t 5] (
  .seq (.reg [⟨some 2, none, .box (.t 0)⟩,
    ⟨some 4, none, .mv (.c (.nils))⟩,
    ⟨some 5, none, .mv (.c (.int .i64 0))⟩])
  (.seq (.seq (.reg [⟨some 7, none, .load true 2 (.t 2)⟩,
    ⟨some 8, none, .mv (.t 1)⟩,
    ⟨some 9, none, .call (.c (.fn 105 [] [])) [.t 7, .t 8]⟩,
    ⟨some 6, none, .mv (.t 9)⟩])
  (.seq (.reg [⟨some 10, none, .mv (.t 6)⟩,
    ⟨some 11, none, .bin false .neq (.t 10) (.c (.int .i64 0))⟩])
  (.cond (.t 11) (.seq (.reg [⟨some 12, none, .mv (.t 6)⟩,
      ⟨some 4, none, .mv (.c (.nils))⟩,
      ⟨some 5, none, .mv (.t 12)⟩])
    (.ret))
    (.skip))))
  (.seq (.reg [⟨some 13, none, .load true 2 (.t 2)⟩,
    ⟨some 14, none, .mv (.t 1)⟩,
    ⟨some 15, none, .call (.c (.fn 108 [] [])) [.t 13, .t 14]⟩,
    ⟨some 4, none, .mv (.t 15)⟩,
    ⟨some 5, none, .mv (.c (.int .i64 0))⟩])
  (.ret)))) false false
theorem mk57 : cFun Try.prog false false Try.f57 = some ir57 := by kernel_rfl
def ir58 : Fun := .mk 21 [.t 4, .t 5] (
  .seq (.reg [⟨some 2, none, .box (.t 0)⟩,
    ⟨some 4, none, .mv (.c (.nils))⟩,
    ⟨some 5, none, .mv (.c (.int .i64 0))⟩])
  (.seq (.seq (.reg [⟨some 7, none, .load true 2 (.t 2)⟩,
    ⟨some 8, none, .mv (.t 1)⟩,
    ⟨some 9, none, .call (.c (.fn 105 [] [])) [.t 7, .t 8]⟩,
    ⟨some 6, none, .mv (.t 9)⟩])
  (.seq (.reg [⟨some 10, none, .mv (.t 6)⟩,
    ⟨some 11, none, .bin false .neq (.t 10) (.c (.int .i64 0))⟩])
  (.cond (.t 11) (.seq (.reg [⟨some 12, none, .mv (.t 6)⟩,
      ⟨some 4, none, .mv (.c (.nils))⟩,
      ⟨some 5, none, .mv (.t 12)⟩])
    (.ret))
    (.skip))))
  (.seq (.reg [⟨some 13, none, .bslice false 2 [.int .i64 0, .bool false] 0 []⟩,
    ⟨some 14, none, .load true 2 (.t 2)⟩,
    ⟨some 15, none, .mv (.t 1)⟩,
    ⟨some 16, none, .mv (.t 1)⟩,
    ⟨some 17, none, .len false (.t 16)⟩,
    ⟨some 18, none, .call (.c (.fn 106 [] [])) [.t 14, .t 15, .t 17]⟩,
    ⟨some 19, none, .fld false 2 1 (.t 18)⟩,
    ⟨some 20, none, .app 2 16 (.t 13) (.t 19)⟩,
    ⟨some 4, none, .mv (.t 20)⟩,
    ⟨some 5, none, .mv (.c (.int .i64 0))⟩])
  (.ret)))) false false
theorem mk58 : cFun Try.prog false false Try.f58 = some ir58 := by kernel_rfl
def ir59 : Fun := .mk 47 [.t 6, .t 7] (
  .seq (.reg [⟨some 3, none, .box (.t 0)⟩,
    ⟨some 6, none, .mv (.c (.bool false))⟩,
    ⟨some 7, none, .mv (.c (.int .i64 0))⟩])
  (.seq (.seq (.reg [⟨some 14, none, .load true 2 (.t 3)⟩,
    ⟨some 15, none, .mv (.t 1)⟩,
    ⟨some 16, none, .mv (.t 2)⟩,
    ⟨some 17, none, .bslice true 1 [.imm []] 2 [(0, (.t 15)), (1, (.t 16))]⟩,
    ⟨some 18, none, .call (.c (.fn 99 [] [])) [.t 14, .t 17]⟩,
    ⟨some 8, none, .mv (.t 18)⟩])
  (.seq (.reg [⟨some 19, none, .mv (.t 8)⟩,
    ⟨some 20, none, .bin false .neq (.t 19) (.c (.int .i64 0))⟩])
  (.cond (.t 20) (.seq (.reg [⟨some 21, none, .mv (.t 8)⟩,
      ⟨some 6, none, .mv (.c (.bool false))⟩,
      ⟨some 7, none, .mv (.t 21)⟩])
    (.ret))
    (.skip))))
  (.seq (.reg [⟨some 23, none, .load true 2 (.t 3)⟩,
    ⟨some 24, none, .mv (.t 1)⟩,
    ⟨some 25, none, .call (.c (.fn 96 [] [])) [.t 23, .t 24]⟩,
    ⟨some 22, none, .mv (.t 25)⟩,
    ⟨some 26, none, .ext 0 (.t 22)⟩,
    ⟨some 27, none, .ext 1 (.t 22)⟩,
    ⟨some 28, none, .ext 2 (.t 22)⟩,
    ⟨some 9, none, .mv (.t 26)⟩,
    ⟨some 10, none, .mv (.t 27)⟩,
    ⟨some 11, none, .mv (.t 28)⟩])
  (.seq (.seq (.reg [⟨some 29, none, .mv (.t 11)⟩,
    ⟨some 30, none, .bin false .neq (.t 29) (.c (.int .i64 0))⟩])
  (.cond (.t 30) (.seq (.reg [⟨some 31, none, .mv (.t 11)⟩,
      ⟨some 6, none, .mv (.c (.bool false))⟩,
      ⟨some 7, none, .mv (.t 31)⟩])
    (.ret))
    (.skip)))
  (.seq (.reg [⟨some 33, none, .load true 2 (.t 3)⟩,
    ⟨some 34, none, .mv (.t 2)⟩,
    ⟨some 35, none, .call (.c (.fn 96 [] [])) [.t 33, .t 34]⟩,
    ⟨some 32, none, .mv (.t 35)⟩,
    ⟨some 36, none, .ext 0 (.t 32)⟩,
    ⟨some 37, none, .ext 1 (.t 32)⟩,
    ⟨some 38, none, .ext 2 (.t 32)⟩,
    ⟨some 12, none, .mv (.t 36)⟩,
    ⟨some 13, none, .mv (.t 37)⟩,
    ⟨some 11, none, .mv (.t 38)⟩])
  (.seq (.seq (.reg [⟨some 39, none, .mv (.t 11)⟩,
    ⟨some 40, none, .bin false .neq (.t 39) (.c (.int .i64 0))⟩])
  (.cond (.t 40) (.seq (.reg [⟨some 41, none, .mv (.t 11)⟩,
      ⟨some 6, none, .mv (.c (.bool false))⟩,
      ⟨some 7, none, .mv (.t 41)⟩])
    (.ret))
    (.skip)))
  (.seq (.reg [⟨some 42, none, .mv (.t 9)⟩,
    ⟨some 43, none, .call (.c (.fn 107 [] [])) [.t 42]⟩,
    ⟨some 44, none, .mv (.t 12)⟩,
    ⟨some 45, none, .call (.c (.fn 107 [] [])) [.t 44]⟩,
    ⟨some 46, none, .call (.c (.fn 62 [] [])) [.t 43, .t 45]⟩,
    ⟨some 6, none, .mv (.t 46)⟩,
    ⟨some 7, none, .mv (.c (.int .i64 0))⟩])
  (.ret)))))))) false false
theorem mk59 : cFun Try.prog false false Try.f59 = some ir59 := by kernel_rfl
def ir60 : Fun := .mk 38 [.t 6, .t 7] (
  .seq (.reg [⟨some 3, none, .box (.t 0)⟩,
    ⟨some 6, none, .mv (.c (.bool false))⟩,
    ⟨some 7, none, .mv (.c (.int .i64 0))⟩])
  (.seq (.seq (.reg [⟨some 10, none, .load true 2 (.t 3)⟩,
    ⟨some 11, none, .mv (.t 1)⟩,
    ⟨some 12, none, .call (.c (.fn 103 [] [])) [.t 10, .t 11]⟩,
    ⟨some 8, none, .mv (.t 12)⟩])
  (.seq (.reg [⟨some 13, none, .mv (.t 8)⟩,
    ⟨some 14, none, .bin false .neq (.t 13) (.c (.int .i64 0))⟩])
  (.cond (.t 14) (.seq (.reg [⟨some 15, none, .mv (.t 8)⟩,
      ⟨some 6, none, .mv (.c (.bool false))⟩,
      ⟨some 7, none, .mv (.t 15)⟩])
    (.ret))
    (.skip))))
  (.seq (.seq (.reg [⟨some 16, none, .mv (.t 2)⟩,
    ⟨some 17, none, .call (.c (.fn 92 [] [])) [.t 16]⟩,
    ⟨some 9, none, .mv (.t 17)⟩])
  (.seq (.reg [⟨some 18, none, .mv (.t 9)⟩,
    ⟨some 19, none, .bin false .neq (.t 18) (.c (.int .i64 0))⟩])
  (.cond (.t 19) (.seq (.reg [⟨some 20, none, .mv (.t 9)⟩,
      ⟨some 6, none, .mv (.c (.bool false))⟩,
      ⟨some 7, none, .mv (.t 20)⟩])
    (.ret))
    (.skip))))
  (.seq (.seq (.reg [⟨some 21, none, .load true 2 (.t 3)⟩,
    ⟨some 22, none, .mv (.t 1)⟩,
    ⟨some 23, none, .call (.c (.fn 105 [] [])) [.t 21, .t 22]⟩,
    ⟨some 24, none, .bin false .neq (.t 23) (.c (.int .i64 0))⟩,
    ⟨some 25, none, .mv (.t 24)⟩,
    ⟨some 26, some (25, false), .load true 2 (.t 3)⟩,
    ⟨some 27, some (25, false), .mv (.t 2)⟩,
    ⟨some 28, some (25, false), .call (.c (.fn 105 [] [])) [.t 26, .t 27]⟩,
    ⟨some 29, some (25, false), .bin false .neq (.t 28) (.c (.int .i64 0))⟩,
    ⟨some 30, none, .pick (.t 25) (.c (.bool true)) (.t 29)⟩])
  (.cond (.t 30) (.seq (.reg [⟨some 6, none, .mv (.c (.bool false))⟩,
      ⟨some 7, none, .mv (.c (.int .i64 14))⟩])
    (.ret))
    (.skip)))
  (.seq (.draw [⟨some 31, none, .load true 2 (.t 3)⟩,
    ⟨some 32, none, .mv (.t 1)⟩,
    ⟨some 33, none, .call (.c (.fn 108 [] [])) [.t 31, .t 32]⟩,
    ⟨some 34, none, .load true 2 (.t 3)⟩,
    ⟨some 35, none, .mv (.t 2)⟩,
    ⟨some 36, none, .call (.c (.fn 108 [] [])) [.t 34, .t 35]⟩,
    ⟨some 37, none, .call (.c (.fn 61 [] [])) [.t 33, .t 36]⟩,
    ⟨some 6, none, .mv (.t 37)⟩,
    ⟨some 7, none, .mv (.c (.int .i64 0))⟩] [(3, 2)])
  (.ret)))))) false false
theorem mk60 : cFun Try.prog false false Try.f60 = some ir60 := by kernel_rfl
def L61_0 : C := (
  .seq (.seq (.reg [⟨some 11, none, .mv (.t 5)⟩,
    ⟨some 12, none, .mv (.t 0)⟩,
    ⟨some 13, none, .len false (.t 12)⟩,
    ⟨some 14, none, .bin false .lss (.t 11) (.t 13)⟩])
  (.cond (.t 14) (.skip)
    (.exit 0)))
  (.seq (.block 1 (.seq (.draw [⟨some 17, none, .mv (.t 0)⟩,
      ⟨some 18, none, .mv (.t 5)⟩,
      ⟨some 19, none, .iaddrL 2 (.t 17) (.t 18)⟩,
      ⟨some 20, none, .load true 2 (.t 19)⟩,
      ⟨some 21, none, .mv (.t 1)⟩,
      ⟨some 22, none, .mv (.t 5)⟩,
      ⟨some 23, none, .iaddrL 2 (.t 21) (.t 22)⟩,
      ⟨some 24, none, .load true 2 (.t 23)⟩,
      ⟨some 25, none, .eqa true [1, 0] (.t 20) (.t 24)⟩] [])
    (.cond (.t 25) (.seq (.reg [⟨some 4, none, .mv (.c (.bool false))⟩])
      (.ret))
      (.skip))))
  (.reg [⟨some 15, none, .mv (.t 5)⟩,
    ⟨some 16, none, .bin false .add (.t 15) (.c (.int .i64 1))⟩,
    ⟨some 5, none, .mv (.t 16)⟩])))
def ir61 : Fun := .mk 26 [.t 4] (
  .seq (.reg [⟨some 4, none, .mv (.c (.bool false))⟩])
  (.seq (.seq (.reg [⟨some 6, none, .mv (.t 0)⟩,
    ⟨some 7, none, .len false (.t 6)⟩,
    ⟨some 8, none, .mv (.t 1)⟩,
    ⟨some 9, none, .len false (.t 8)⟩,
    ⟨some 10, none, .bin false .neq (.t 7) (.t 9)⟩])
  (.cond (.t 10) (.seq (.reg [⟨some 4, none, .mv (.c (.bool false))⟩])
    (.ret))
    (.skip)))
  (.seq (.seq (.reg [⟨some 5, none, .mv (.c (.int .i64 0))⟩])
  (.block 0 (.loop L61_0)))
  (.seq (.reg [⟨some 4, none, .mv (.c (.bool true))⟩])
  (.ret))))) false false
theorem mk61 : cFun Try.prog false false Try.f61 = some ir61 := by kernel_rfl
def L62_0 : C := (
  .seq (.reg [⟨some 14, none, .bin false .lss (.t 13) (.t 12)⟩])
  (.seq (.cond (.t 14) (.skip)
    (.exit 0))
  (.seq (.block 1 (.seq (.reg [⟨some 15, none, .mv (.t 13)⟩,
      ⟨some 5, none, .mv (.t 15)⟩])
    (.seq (.draw [⟨some 16, none, .mv (.t 0)⟩,
      ⟨some 17, none, .mv (.t 5)⟩,
      ⟨some 18, none, .iaddrL 2 (.t 16) (.t 17)⟩,
      ⟨some 19, none, .load true 2 (.t 18)⟩,
      ⟨some 20, none, .mv (.t 1)⟩,
      ⟨some 21, none, .mv (.t 5)⟩,
      ⟨some 22, none, .iaddrL 2 (.t 20) (.t 21)⟩,
      ⟨some 23, none, .load true 2 (.t 22)⟩,
      ⟨some 24, none, .eqa true [1, 0] (.t 19) (.t 23)⟩] [])
    (.cond (.t 24) (.seq (.reg [⟨some 4, none, .mv (.c (.bool false))⟩])
      (.ret))
      (.skip)))))
  (.reg [⟨some 25, none, .bin false .add (.t 13) (.c (.int .i64 1))⟩,
    ⟨some 13, none, .mv (.t 25)⟩]))))
def ir62 : Fun := .mk 26 [.t 4] (
  .seq (.reg [⟨some 4, none, .mv (.c (.bool false))⟩])
  (.seq (.seq (.reg [⟨some 6, none, .mv (.t 0)⟩,
    ⟨some 7, none, .len false (.t 6)⟩,
    ⟨some 8, none, .mv (.t 1)⟩,
    ⟨some 9, none, .len false (.t 8)⟩,
    ⟨some 10, none, .bin false .neq (.t 7) (.t 9)⟩])
  (.cond (.t 10) (.seq (.reg [⟨some 4, none, .mv (.c (.bool false))⟩])
    (.ret))
    (.skip)))
  (.seq (.seq (.reg [⟨some 11, none, .mv (.t 0)⟩,
    ⟨some 12, none, .len false (.t 11)⟩,
    ⟨some 13, none, .mv (.c (.int .i64 0))⟩])
  (.block 0 (.loop L62_0)))
  (.seq (.reg [⟨some 4, none, .mv (.c (.bool true))⟩])
  (.ret))))) false false
theorem mk62 : cFun Try.prog false false Try.f62 = some ir62 := by kernel_rfl
def L63_0 : C := (
  .seq (.seq (.reg [⟨some 5, none, .mv (.t 4)⟩,
    ⟨some 6, none, .faddr 1 (.t 1)⟩,
    ⟨some 7, none, .load false 1 (.t 6)⟩,
    ⟨some 8, none, .len false (.t 7)⟩,
    ⟨some 9, none, .bin false .lss (.t 5) (.t 8)⟩])
  (.cond (.t 9) (.skip)
    (.exit 0)))
  (.seq (.block 1 (.reg [⟨some 12, none, .mv (.t 3)⟩,
      ⟨some 13, none, .faddr 1 (.t 1)⟩,
      ⟨some 14, none, .load false 1 (.t 13)⟩,
      ⟨some 15, none, .mv (.t 4)⟩,
      ⟨some 16, none, .iaddrL 2 (.t 14) (.t 15)⟩,
      ⟨some 17, none, .faddr 0 (.t 16)⟩,
      ⟨some 18, none, .load false 1 (.t 17)⟩,
      ⟨some 19, none, .app 2 16 (.t 12) (.t 18)⟩,
      ⟨some 3, none, .mv (.t 19)⟩]))
  (.reg [⟨some 10, none, .mv (.t 4)⟩,
    ⟨some 11, none, .bin false .add (.t 10) (.c (.int .i64 1))⟩,
    ⟨some 4, none, .mv (.t 11)⟩])))
def ir63 : Fun := .mk 21 [.t 2] (
  .seq (.reg [⟨some 1, none, .box (.t 0)⟩,
    ⟨some 2, none, .mv (.c (.nils))⟩])
  (.seq (.reg [⟨some 3, none, .mv (.c (.nils))⟩])
  (.seq (.seq (.reg [⟨some 4, none, .mv (.c (.int .i64 0))⟩])
  (.block 0 (.loop L63_0)))
  (.seq (.reg [⟨some 20, none, .mv (.t 3)⟩,
    ⟨some 2, none, .mv (.t 20)⟩])
  (.ret))))) false false
theorem mk63 : cFun Try.prog false false Try.f63 = some ir63 := by kernel_rfl
def L64_0 : C := (
  .seq (.seq (.reg [⟨some 34, none, .mv (.t 8)⟩,
    ⟨some 35, none, .mv (.t 7)⟩,
    ⟨some 36, none, .len false (.t 35)⟩,
    ⟨some 37, none, .bin false .lss (.t 34) (.t 36)⟩])
  (.cond (.t 37) (.skip)
    (.exit 0)))
  (.block 1 (.draw [⟨some 38, none, .mv (.t 8)⟩,
      ⟨some 39, none, .mv (.t 7)⟩,
      ⟨some 40, none, .mv (.t 8)⟩,
      ⟨some 41, none, .slcL 2 (.t 39) (some (.t 40)) none none⟩,
      ⟨some 42, none, .mv (.t 7)⟩,
      ⟨some 43, none, .mv (.t 8)⟩,
      ⟨some 44, none, .slcL 2 (.t 42) none (some (.t 43)) none⟩,
      ⟨some 45, none, .cpy 2 (.t 41) (.t 44)⟩,
      ⟨some 46, none, .bin false .add (.t 38) (.t 45)⟩,
      ⟨some 8, none, .mv (.t 46)⟩] [])))
def ir64 : Fun := .mk 48 [.t 4] (
  .seq (.reg [⟨some 4, none, .mv (.c (.nils))⟩])
  (.seq (.seq (.reg [⟨some 9, none, .mv (.t 1)⟩,
    ⟨some 10, none, .bin false .lss (.t 9) (.c (.int .i64 0))⟩])
  (.cond (.t 10) (.reg [⟨some 11, none, .stuck⟩,
      ⟨none, none, .stuck⟩])
    (.skip)))
  (.seq (.reg [⟨some 13, none, .mv (.t 0)⟩,
    ⟨some 14, none, .len false (.t 13)⟩,
    ⟨some 15, none, .conv (.int .u64) (.t 14)⟩,
    ⟨some 16, none, .mv (.t 1)⟩,
    ⟨some 17, none, .conv (.int .u64) (.t 16)⟩,
    ⟨some 18, none, .call (.c (.fn 109 [] [])) [.t 15, .t 17]⟩,
    ⟨some 12, none, .mv (.t 18)⟩,
    ⟨some 19, none, .ext 0 (.t 12)⟩,
    ⟨some 20, none, .ext 1 (.t 12)⟩,
    ⟨some 5, none, .mv (.t 19)⟩,
    ⟨some 6, none, .mv (.t 20)⟩])
  (.seq (.seq (.reg [⟨some 21, none, .mv (.t 5)⟩,
    ⟨some 22, none, .bin false .gtr (.t 21) (.c (.int .u64 0))⟩,
    ⟨some 23, none, .mv (.t 22)⟩,
    ⟨some 24, some (23, false), .mv (.t 6)⟩,
    ⟨some 25, some (23, false), .bin false .gtr (.t 24) (.c (.int .u64 9223372036854775807))⟩,
    ⟨some 26, none, .pick (.t 23) (.c (.bool true)) (.t 25)⟩])
  (.cond (.t 26) (.reg [⟨some 27, none, .stuck⟩,
      ⟨none, none, .stuck⟩])
    (.skip)))
  (.seq (.reg [⟨some 28, none, .mv (.t 6)⟩,
    ⟨some 29, none, .conv (.int .i64) (.t 28)⟩,
    ⟨some 30, none, .mkslice 2 16 [.int .i64 0, .bool false] (.t 29) (.t 29)⟩,
    ⟨some 7, none, .mv (.t 30)⟩])
  (.seq (.reg [⟨some 31, none, .mv (.t 7)⟩,
    ⟨some 32, none, .mv (.t 0)⟩,
    ⟨some 33, none, .cpy 2 (.t 31) (.t 32)⟩,
    ⟨some 8, none, .mv (.t 33)⟩])
  (.seq (.block 0 (.loop L64_0))
  (.seq (.reg [⟨some 47, none, .mv (.t 7)⟩,
    ⟨some 4, none, .mv (.t 47)⟩])
  (.ret))))))))) true false
theorem mk64 : cFun Try.prog true false Try.f64 = some ir64 := by kernel_rfl
def L88_0 : C := (
  .seq (.reg [⟨some 8, none, .bin false .lss (.t 7) (.t 6)⟩])
  (.seq (.cond (.t 8) (.skip)
    (.exit 0))
  (.seq (.block 1 (.seq (.reg [⟨some 9, none, .iaddrL 1 (.t 5) (.t 7)⟩,
      ⟨some 10, none, .load false 1 (.t 9)⟩,
      ⟨some 3, none, .mv (.t 10)⟩])
    (.draw [⟨some 11, none, .faddr 1 (.t 1)⟩,
      ⟨some 12, none, .load false 1 (.t 11)⟩,
      ⟨some 13, none, .mv (.t 3)⟩,
      ⟨some 14, none, .call (.c (.fn 89 [] [])) [.t 13]⟩,
      ⟨some 15, none, .build [.nils, .int .i64 0] [(0, 1, (.t 14))]⟩,
      ⟨some 16, none, .bslice true 2 [.imm [], .int .i64 0] 1 [(0, (.t 15))]⟩,
      ⟨some 17, none, .app 2 32 (.t 12) (.t 16)⟩,
      ⟨some 18, none, .faddr 1 (.t 1)⟩,
      ⟨none, none, .store 1 (.t 18) (.t 17)⟩] [(1, 3), (1, 5)])))
  (.reg [⟨some 19, none, .bin false .add (.t 7) (.c (.int .i64 1))⟩,
    ⟨some 7, none, .mv (.t 19)⟩]))))
def ir88 : Fun := .mk 21 [.cell 0 true 2] (
  .seq (.reg [⟨some 0, none, .alloc [.int .i64 0, .nils]⟩])
  (.seq (.reg [⟨some 4, none, .build [.int .i64 0, .nils] [(0, 1, (.c (.int .i64 3)))]⟩,
    ⟨some 1, none, .alloc [.int .i64 0, .nils]⟩,
    ⟨none, none, .store 2 (.t 1) (.t 4)⟩])
  (.seq (.seq (.reg [⟨some 5, none, .bslice false 1 [.str []] 4 [(0, (.c (.str [65, 43]))), (1, (.c (.str [66, 43, 32, 67, 43]))), (2, (.c (.str [66, 45, 32, 67, 45]))), (3, (.c (.str [65, 45])))]⟩,
    ⟨some 6, none, .len false (.t 5)⟩,
    ⟨some 7, none, .mv (.c (.int .i64 0))⟩])
  (.block 0 (.loop L88_0)))
  (.seq (.reg [⟨some 20, none, .load true 2 (.t 1)⟩,
    ⟨none, none, .store 2 (.t 0) (.t 20)⟩])
  (.ret))))) false false
theorem mk88 : cFun Try.prog false false Try.f88 = some ir88 := by kernel_rfl
def L89_0 : C := (
  .seq (.seq (.reg [⟨some 5, none, .mv (.t 4)⟩,
    ⟨some 6, none, .bin false .add (.t 5) (.c (.int .i64 1))⟩,
    ⟨some 7, none, .mv (.t 0)⟩,
    ⟨some 8, none, .len true (.t 7)⟩,
    ⟨some 9, none, .bin false .lss (.t 6) (.t 8)⟩])
  (.cond (.t 9) (.skip)
    (.exit 0)))
  (.seq (.block 1 (.draw [⟨some 12, none, .mv (.t 3)⟩,
      ⟨some 13, none, .mv (.t 0)⟩,
      ⟨some 14, none, .mv (.t 4)⟩,
      ⟨some 15, none, .idxS (.t 13) (.t 14)⟩,
      ⟨some 16, none, .bin false .sub (.t 15) (.c (.int .u8 65))⟩,
      ⟨some 17, none, .conv (.int .i64) (.t 16)⟩,
      ⟨some 18, none, .mv (.t 0)⟩,
      ⟨some 19, none, .mv (.t 4)⟩,
      ⟨some 20, none, .bin false .add (.t 19) (.c (.int .i64 1))⟩,
      ⟨some 21, none, .idxS (.t 18) (.t 20)⟩,
      ⟨some 22, none, .bin false .eql (.t 21) (.c (.int .u8 43))⟩,
      ⟨some 23, none, .build [.int .i64 0, .bool false] [(0, 1, (.t 17)), (1, 1, (.t 22))]⟩,
      ⟨some 24, none, .bslice false 2 [.int .i64 0, .bool false] 1 [(0, (.t 23))]⟩,
      ⟨some 25, none, .app 2 16 (.t 12) (.t 24)⟩,
      ⟨some 3, none, .mv (.t 25)⟩] []))
  (.reg [⟨some 10, none, .mv (.t 4)⟩,
    ⟨some 11, none, .bin false .add (.t 10) (.c (.int .i64 3))⟩,
    ⟨some 4, none, .mv (.t 11)⟩])))
def ir89 : Fun := .mk 27 [.t 2] (
  .seq (.reg [⟨some 2, none, .mv (.c (.nils))⟩])
  (.seq (.reg [⟨some 3, none, .mv (.c (.nils))⟩])
  (.seq (.seq (.reg [⟨some 4, none, .mv (.c (.int .i64 0))⟩])
  (.block 0 (.loop L89_0)))
  (.seq (.reg [⟨some 26, none, .mv (.t 3)⟩,
    ⟨some 2, none, .mv (.t 26)⟩])
  (.ret))))) false false
theorem mk89 : cFun Try.prog false false Try.f89 = some ir89 := by kernel_rfl
def L90_0 : C := (
  .seq (.reg [⟨some 14, none, .bin false .lss (.t 13) (.t 12)⟩])
  (.seq (.cond (.t 14) (.skip)
    (.exit 0))
  (.seq (.block 1 (.seq (.reg [⟨some 15, none, .mv (.t 13)⟩,
      ⟨some 5, none, .mv (.t 15)⟩])
    (.seq (.draw [⟨some 16, none, .mv (.t 0)⟩,
      ⟨some 17, none, .mv (.t 5)⟩,
      ⟨some 18, none, .iaddrL 1 (.t 16) (.t 17)⟩,
      ⟨some 19, none, .load false 1 (.t 18)⟩,
      ⟨some 20, none, .mv (.t 1)⟩,
      ⟨some 21, none, .mv (.t 5)⟩,
      ⟨some 22, none, .iaddrL 1 (.t 20) (.t 21)⟩,
      ⟨some 23, none, .load false 1 (.t 22)⟩,
      ⟨some 24, none, .bin true .neq (.t 19) (.t 23)⟩] [])
    (.cond (.t 24) (.seq (.reg [⟨some 4, none, .mv (.c (.bool false))⟩])
      (.ret))
      (.skip)))))
  (.reg [⟨some 25, none, .bin false .add (.t 13) (.c (.int .i64 1))⟩,
    ⟨some 13, none, .mv (.t 25)⟩]))))
def ir90 : Fun := .mk 26 [.t 4] (
  .seq (.reg [⟨some 4, none, .mv (.c (.bool false))⟩])
  (.seq (.seq (.reg [⟨some 6, none, .mv (.t 0)⟩,
    ⟨some 7, none, .len false (.t 6)⟩,
    ⟨some 8, none, .mv (.t 1)⟩,
    ⟨some 9, none, .len false (.t 8)⟩,
    ⟨some 10, none, .bin false .neq (.t 7) (.t 9)⟩])
  (.cond (.t 10) (.seq (.reg [⟨some 4, none, .mv (.c (.bool false))⟩])
    (.ret))
    (.skip)))
  (.seq (.seq (.reg [⟨some 11, none, .mv (.t 0)⟩,
    ⟨some 12, none, .len false (.t 11)⟩,
    ⟨some 13, none, .mv (.c (.int .i64 0))⟩])
  (.block 0 (.loop L90_0)))
  (.seq (.reg [⟨some 4, none, .mv (.c (.bool true))⟩])
  (.ret))))) false false
theorem mk90 : cFun Try.prog false false Try.f90 = some ir90 := by kernel_rfl
def L91_0 : C := (
  .seq (.reg [⟨some 12, none, .bin false .lss (.t 11) (.t 10)⟩])
  (.seq (.cond (.t 12) (.skip)
    (.exit 0))
  (.seq (.block 1 (.seq (.reg [⟨some 13, none, .iaddrL 2 (.t 9) (.t 11)⟩,
      ⟨some 14, none, .load true 2 (.t 13)⟩,
      ⟨some 4, none, .alloc [.int .i64 0, .bool false]⟩,
      ⟨none, none, .store 2 (.t 4) (.t 14)⟩])
    (.seq (.reg [⟨some 15, none, .load true 2 (.t 4)⟩,
      ⟨some 16, none, .call (.c (.fn 135 [] [])) [.t 15]⟩,
      ⟨some 5, none, .mv (.t 16)⟩])
    (.seq (.reg [⟨some 17, none, .mv (.t 5)⟩,
      ⟨some 18, none, .bin false .neq (.t 17) (.c (.int .i64 0))⟩])
    (.cond (.t 18) (.seq (.reg [⟨some 19, none, .mv (.t 5)⟩,
        ⟨some 2, none, .mv (.t 19)⟩])
      (.ret))
      (.skip))))))
  (.reg [⟨some 20, none, .bin false .add (.t 11) (.c (.int .i64 1))⟩,
    ⟨some 11, none, .mv (.t 20)⟩]))))
def ir91 : Fun := .mk 21 [.t 2] (
  .seq (.reg [⟨some 2, none, .mv (.c (.int .i64 0))⟩])
  (.seq (.seq (.reg [⟨some 6, none, .mv (.t 0)⟩,
    ⟨some 7, none, .len false (.t 6)⟩,
    ⟨some 8, none, .bin false .gtr (.t 7) (.c (.int .i64 4096))⟩])
  (.cond (.t 8) (.seq (.reg [⟨some 2, none, .mv (.c (.int .i64 5))⟩])
    (.ret))
    (.skip)))
  (.seq (.seq (.reg [⟨some 9, none, .mv (.t 0)⟩,
    ⟨some 10, none, .len false (.t 9)⟩,
    ⟨some 11, none, .mv (.c (.int .i64 0))⟩])
  (.block 0 (.loop L91_0)))
  (.seq (.reg [⟨some 2, none, .mv (.c (.int .i64 0))⟩])
  (.ret))))) false false
theorem mk91 : cFun Try.prog false false Try.f91 = some ir91 := by kernel_rfl
def L92_0 : C := (
  .seq (.seq (.reg [⟨some 8, none, .mv (.t 3)⟩,
    ⟨some 9, none, .mv (.t 0)⟩,
    ⟨some 10, none, .len false (.t 9)⟩,
    ⟨some 11, none, .bin false .lss (.t 8) (.t 10)⟩])
  (.cond (.t 11) (.skip)
    (.exit 0)))
  (.seq (.block 1 (.seq (.reg [⟨some 14, none, .mv (.t 0)⟩,
      ⟨some 15, none, .mv (.t 3)⟩,
      ⟨some 16, none, .iaddrL 2 (.t 14) (.t 15)⟩,
      ⟨some 17, none, .load true 2 (.t 16)⟩,
      ⟨some 18, none, .call (.c (.fn 47 [] [])) [.t 17]⟩,
      ⟨some 4, none, .mv (.t 18)⟩])
    (.seq (.reg [⟨some 19, none, .mv (.t 4)⟩,
      ⟨some 20, none, .bin false .neq (.t 19) (.c (.int .i64 0))⟩])
    (.cond (.t 20) (.seq (.reg [⟨some 21, none, .mv (.t 4)⟩,
        ⟨some 2, none, .mv (.t 21)⟩])
      (.ret))
      (.skip)))))
  (.reg [⟨some 12, none, .mv (.t 3)⟩,
    ⟨some 13, none, .bin false .add (.t 12) (.c (.int .i64 1))⟩,
    ⟨some 3, none, .mv (.t 13)⟩])))
def ir92 : Fun := .mk 22 [.t 2] (
  .seq (.reg [⟨some 2, none, .mv (.c (.int .i64 0))⟩])
  (.seq (.seq (.reg [⟨some 5, none, .mv (.t 0)⟩,
    ⟨some 6, none, .len false (.t 5)⟩,
    ⟨some 7, none, .bin false .gtr (.t 6) (.c (.int .i64 4096))⟩])
  (.cond (.t 7) (.seq (.reg [⟨some 2, none, .mv (.c (.int .i64 5))⟩])
    (.ret))
    (.skip)))
  (.seq (.seq (.reg [⟨some 3, none, .mv (.c (.int .i64 0))⟩])
  (.block 0 (.loop L92_0)))
  (.seq (.reg [⟨some 2, none, .mv (.c (.int .i64 0))⟩])
  (.ret))))) false false
theorem mk92 : cFun Try.prog false false Try.f92 = some ir92 := by kernel_rfl
def ir93 : Fun := .mk 9 [.t 2] (
  .seq (.reg [⟨some 2, none, .mv (.c (.bool false))⟩])
  (.seq (.reg [⟨some 3, none, .mv (.t 0)⟩,
    ⟨some 4, none, .bin false .geq (.t 3) (.c (.int .i64 0))⟩,
    ⟨some 5, none, .mv (.t 4)⟩,
    ⟨some 6, some (5, true), .mv (.t 0)⟩,
    ⟨some 7, some (5, true), .bin false .lss (.t 6) (.c (.int .i64 6))⟩,
    ⟨some 8, none, .pick (.t 5) (.t 7) (.c (.bool false))⟩,
    ⟨some 2, none, .mv (.t 8)⟩])
  (.ret))) false false
theorem mk93 : cFun Try.prog false false Try.f93 = some ir93 := by kernel_rfl
def L94_0 : C := (
  .seq (.seq (.reg [⟨some 11, none, .mv (.t 5)⟩,
    ⟨some 12, none, .mv (.t 0)⟩,
    ⟨some 13, none, .len false (.t 12)⟩,
    ⟨some 14, none, .bin false .lss (.t 11) (.t 13)⟩])
  (.cond (.t 14) (.skip)
    (.exit 0)))
  (.seq (.block 1 (.seq (.draw [⟨some 17, none, .mv (.t 0)⟩,
      ⟨some 18, none, .mv (.t 5)⟩,
      ⟨some 19, none, .iaddrL 1 (.t 17) (.t 18)⟩,
      ⟨some 20, none, .load false 1 (.t 19)⟩,
      ⟨some 21, none, .mv (.t 1)⟩,
      ⟨some 22, none, .mv (.t 5)⟩,
      ⟨some 23, none, .iaddrL 1 (.t 21) (.t 22)⟩,
      ⟨some 24, none, .load false 1 (.t 23)⟩,
      ⟨some 25, none, .bin true .neq (.t 20) (.t 24)⟩] [])
    (.cond (.t 25) (.seq (.reg [⟨some 4, none, .mv (.c (.bool false))⟩])
      (.ret))
      (.skip))))
  (.reg [⟨some 15, none, .mv (.t 5)⟩,
    ⟨some 16, none, .bin false .add (.t 15) (.c (.int .i64 1))⟩,
    ⟨some 5, none, .mv (.t 16)⟩])))
def ir94 : Fun := .mk 26 [.t 4] (
  .seq (.reg [⟨some 4, none, .mv (.c (.bool false))⟩])
  (.seq (.seq (.reg [⟨some 6, none, .mv (.t 0)⟩,
    ⟨some 7, none, .len false (.t 6)⟩,
    ⟨some 8, none, .mv (.t 1)⟩,
    ⟨some 9, none, .len false (.t 8)⟩,
    ⟨some 10, none, .bin false .neq (.t 7) (.t 9)⟩])
  (.cond (.t 10) (.seq (.reg [⟨some 4, none, .mv (.c (.bool false))⟩])
    (.ret))
    (.skip)))
  (.seq (.seq (.reg [⟨some 5, none, .mv (.c (.int .i64 0))⟩])
  (.block 0 (.loop L94_0)))
  (.seq (.reg [⟨some 4, none, .mv (.c (.bool true))⟩])
  (.ret))))) false false
theorem mk94 : cFun Try.prog false false Try.f94 = some ir94 := by kernel_rfl
def L95_0 : C := (
  .seq (.seq (.reg [⟨some 26, none, .mv (.t 4)⟩,
    ⟨some 27, none, .faddr 0 (.t 1)⟩,
    ⟨some 28, none, .load false 1 (.t 27)⟩,
    ⟨some 29, none, .bin false .lss (.t 26) (.t 28)⟩])
  (.cond (.t 29) (.skip)
    (.exit 0)))
  (.seq (.block 1 (.seq (.reg [⟨some 32, none, .load true 2 (.t 1)⟩,
      ⟨some 33, none, .mv (.t 4)⟩,
      ⟨some 34, none, .call (.c (.fn 137 [] [])) [.t 32, .t 33]⟩,
      ⟨some 35, none, .un .not (.t 34)⟩])
    (.cond (.t 35) (.seq (.reg [⟨some 2, none, .mv (.c (.int .i64 13))⟩])
      (.ret))
      (.skip))))
  (.reg [⟨some 30, none, .mv (.t 4)⟩,
    ⟨some 31, none, .bin false .add (.t 30) (.c (.int .i64 1))⟩,
    ⟨some 4, none, .mv (.t 31)⟩])))
def ir95 : Fun := .mk 36 [.t 2] (
  .seq (.reg [⟨some 1, none, .box (.t 0)⟩,
    ⟨some 2, none, .mv (.c (.int .i64 0))⟩])
  (.seq (.seq (.reg [⟨some 5, none, .faddr 0 (.t 1)⟩,
    ⟨some 6, none, .load false 1 (.t 5)⟩,
    ⟨some 7, none, .bin false .lss (.t 6) (.c (.int .i64 1))⟩,
    ⟨some 8, none, .mv (.t 7)⟩,
    ⟨some 9, some (8, false), .faddr 0 (.t 1)⟩,
    ⟨some 10, some (8, false), .load false 1 (.t 9)⟩,
    ⟨some 11, some (8, false), .bin false .gtr (.t 10) (.c (.int .i64 6))⟩,
    ⟨some 12, none, .pick (.t 8) (.c (.bool true)) (.t 11)⟩])
  (.cond (.t 12) (.seq (.reg [⟨some 2, none, .mv (.c (.int .i64 2))⟩])
    (.ret))
    (.skip)))
  (.seq (.seq (.reg [⟨some 13, none, .faddr 1 (.t 1)⟩,
    ⟨some 14, none, .load false 1 (.t 13)⟩,
    ⟨some 15, none, .len false (.t 14)⟩,
    ⟨some 16, none, .bin false .eql (.t 15) (.c (.int .i64 0))⟩])
  (.cond (.t 16) (.seq (.reg [⟨some 2, none, .mv (.c (.int .i64 13))⟩])
    (.ret))
    (.skip)))
  (.seq (.seq (.reg [⟨some 17, none, .faddr 1 (.t 1)⟩,
    ⟨some 18, none, .load false 1 (.t 17)⟩,
    ⟨some 19, none, .len false (.t 18)⟩,
    ⟨some 20, none, .bin false .gtr (.t 19) (.c (.int .i64 64))⟩])
  (.cond (.t 20) (.seq (.reg [⟨some 2, none, .mv (.c (.int .i64 5))⟩])
    (.ret))
    (.skip)))
  (.seq (.seq (.reg [⟨some 21, none, .load true 2 (.t 1)⟩,
    ⟨some 22, none, .call (.c (.fn 136 [] [])) [.t 21]⟩,
    ⟨some 3, none, .mv (.t 22)⟩])
  (.seq (.reg [⟨some 23, none, .mv (.t 3)⟩,
    ⟨some 24, none, .bin false .neq (.t 23) (.c (.int .i64 0))⟩])
  (.cond (.t 24) (.seq (.reg [⟨some 25, none, .mv (.t 3)⟩,
      ⟨some 2, none, .mv (.t 25)⟩])
    (.ret))
    (.skip))))
  (.seq (.seq (.reg [⟨some 4, none, .mv (.c (.int .i64 0))⟩])
  (.block 0 (.loop L95_0)))
  (.seq (.reg [⟨some 2, none, .mv (.c (.int .i64 0))⟩])
  (.ret)))))))) false false
theorem mk95 : cFun Try.prog false false Try.f95 = some ir95 := by kernel_rfl
def ir96 : Fun := .mk 31 [.t 4, .t 5, .t 6] (
  .seq (.reg [⟨some 2, none, .box (.t 0)⟩,
    ⟨some 4, none, .mv (.c (.nils))⟩,
    ⟨some 5, none, .mv (.c (.nils))⟩,
    ⟨some 6, none, .mv (.c (.int .i64 0))⟩])
  (.seq (.seq (.reg [⟨some 11, none, .load true 2 (.t 2)⟩,
    ⟨some 12, none, .mv (.t 1)⟩,
    ⟨some 13, none, .bslice true 1 [.imm []] 1 [(0, (.t 12))]⟩,
    ⟨some 14, none, .call (.c (.fn 99 [] [])) [.t 11, .t 13]⟩,
    ⟨some 7, none, .mv (.t 14)⟩])
  (.seq (.reg [⟨some 15, none, .mv (.t 7)⟩,
    ⟨some 16, none, .bin false .neq (.t 15) (.c (.int .i64 0))⟩])
  (.cond (.t 16) (.seq (.reg [⟨some 17, none, .mv (.t 7)⟩,
      ⟨some 4, none, .mv (.c (.nils))⟩,
      ⟨some 5, none, .mv (.c (.nils))⟩,
      ⟨some 6, none, .mv (.t 17)⟩])
    (.ret))
    (.skip))))
  (.seq (.reg [⟨some 19, none, .load true 2 (.t 2)⟩,
    ⟨some 20, none, .mv (.t 1)⟩,
    ⟨some 21, none, .call (.c (.fn 100 [] [])) [.t 19, .t 20]⟩,
    ⟨some 18, none, .mv (.t 21)⟩,
    ⟨some 22, none, .ext 0 (.t 18)⟩,
    ⟨some 23, none, .ext 1 (.t 18)⟩,
    ⟨some 24, none, .ext 2 (.t 18)⟩,
    ⟨some 8, none, .mv (.t 22)⟩,
    ⟨some 9, none, .mv (.t 23)⟩,
    ⟨some 10, none, .mv (.t 24)⟩])
  (.seq (.seq (.reg [⟨some 25, none, .mv (.t 8)⟩,
    ⟨some 26, none, .mv (.t 1)⟩,
    ⟨some 27, none, .len false (.t 26)⟩,
    ⟨some 28, none, .bin false .lss (.t 25) (.t 27)⟩])
  (.cond (.t 28) (.seq (.reg [⟨some 4, none, .mv (.c (.nils))⟩,
      ⟨some 5, none, .mv (.c (.nils))⟩,
      ⟨some 6, none, .mv (.c (.int .i64 14))⟩])
    (.ret))
    (.skip)))
  (.seq (.reg [⟨some 29, none, .mv (.t 9)⟩,
    ⟨some 30, none, .mv (.t 10)⟩,
    ⟨some 4, none, .mv (.t 29)⟩,
    ⟨some 5, none, .mv (.t 30)⟩,
    ⟨some 6, none, .mv (.c (.int .i64 0))⟩])
  (.ret)))))) true false
theorem mk96 : cFun Try.prog true false Try.f96 = some ir96 := by kernel_rfl
def ir97 : Fun := .mk 14 [] (
  .seq (.reg [⟨some 5, none, .mv (.t 0)⟩,
    ⟨some 6, none, .len false (.t 5)⟩,
    ⟨some 4, none, .mv (.t 6)⟩])
  (.reg [⟨some 7, none, .mv (.t 0)⟩,
    ⟨some 8, none, .mv (.t 4)⟩,
    ⟨some 9, none, .mv (.t 4)⟩,
    ⟨some 10, none, .conv (.int .u64) (.t 9)⟩,
    ⟨some 11, none, .call (.c (.fn 139 [] [])) [.t 10]⟩,
    ⟨some 12, none, .mv (.t 1)⟩,
    ⟨some 13, none, .call (.c (.fn 138 [] [])) [.t 7, .c (.int .i64 0), .t 8, .t 11, .t 12]⟩])) false true
theorem mk97 : cFun Try.prog false true Try.f97 = some ir97 := by kernel_rfl
def ir98 : Fun := .mk 23 [.t 4] (
  .seq (.reg [⟨some 2, none, .box (.t 0)⟩,
    ⟨some 3, none, .box (.t 1)⟩,
    ⟨some 4, none, .mv (.c (.int .i64 0))⟩])
  (.seq (.block 0 (.seq (.reg [⟨some 6, none, .load true 2 (.t 2)⟩,
      ⟨some 7, none, .load true 2 (.t 3)⟩,
      ⟨some 8, none, .eqa false [1, 0] (.t 6) (.t 7)⟩,
      ⟨some 5, none, .mv (.t 8)⟩])
    (.cond (.t 5) (.seq (.reg [⟨some 4, none, .mv (.c (.int .i64 0))⟩])
      (.ret))
      (.seq (.reg [⟨some 10, none, .faddr 0 (.t 2)⟩,
        ⟨some 11, none, .load false 1 (.t 10)⟩,
        ⟨some 12, none, .faddr 0 (.t 3)⟩,
        ⟨some 13, none, .load false 1 (.t 12)⟩,
        ⟨some 14, none, .bin false .neq (.t 11) (.t 13)⟩,
        ⟨some 9, none, .mv (.t 14)⟩])
      (.cond (.t 9) (.seq (.reg [⟨some 15, none, .faddr 0 (.t 2)⟩,
          ⟨some 16, none, .load false 1 (.t 15)⟩,
          ⟨some 17, none, .faddr 0 (.t 3)⟩,
          ⟨some 18, none, .load false 1 (.t 17)⟩,
          ⟨some 19, none, .bin false .sub (.t 16) (.t 18)⟩,
          ⟨some 4, none, .mv (.t 19)⟩])
        (.ret))
        (.seq (.reg [⟨some 21, none, .faddr 1 (.t 3)⟩,
          ⟨some 22, none, .load false 1 (.t 21)⟩,
          ⟨some 20, none, .mv (.t 22)⟩])
        (.cond (.t 20) (.seq (.reg [⟨some 4, none, .mv (.c (.int .i64 (-1)))⟩])
          (.ret))
          (.skip))))))))
  (.seq (.reg [⟨some 4, none, .mv (.c (.int .i64 1))⟩])
  (.ret)))) false false
theorem mk98 : cFun Try.prog false false Try.f98 = some ir98 := by kernel_rfl
def L99_0 : C := (
  .seq (.reg [⟨some 17, none, .bin false .lss (.t 16) (.t 15)⟩])
  (.seq (.cond (.t 17) (.skip)
    (.exit 0))
  (.seq (.block 1 (.seq (.reg [⟨some 18, none, .iaddrL 1 (.t 14) (.t 16)⟩,
      ⟨some 19, none, .load false 1 (.t 18)⟩,
      ⟨some 7, none, .mv (.t 19)⟩])
    (.seq (.reg [⟨some 20, none, .mv (.t 7)⟩,
      ⟨some 21, none, .call (.c (.fn 91 [] [])) [.t 20]⟩,
      ⟨some 8, none, .mv (.t 21)⟩])
    (.seq (.reg [⟨some 22, none, .mv (.t 8)⟩,
      ⟨some 23, none, .bin false .neq (.t 22) (.c (.int .i64 0))⟩])
    (.cond (.t 23) (.seq (.reg [⟨some 24, none, .mv (.t 8)⟩,
        ⟨some 4, none, .mv (.t 24)⟩])
      (.ret))
      (.skip))))))
  (.reg [⟨some 25, none, .bin false .add (.t 16) (.c (.int .i64 1))⟩,
    ⟨some 16, none, .mv (.t 25)⟩]))))
def ir99 : Fun := .mk 26 [.t 4] (
  .seq (.reg [⟨some 2, none, .box (.t 0)⟩,
    ⟨some 4, none, .mv (.c (.int .i64 0))⟩])
  (.seq (.seq (.reg [⟨some 9, none, .load true 2 (.t 2)⟩,
    ⟨some 10, none, .call (.c (.fn 140 [] [])) [.t 9]⟩,
    ⟨some 5, none, .mv (.t 10)⟩])
  (.seq (.reg [⟨some 11, none, .mv (.t 5)⟩,
    ⟨some 12, none, .bin false .neq (.t 11) (.c (.int .i64 0))⟩])
  (.cond (.t 12) (.seq (.reg [⟨some 13, none, .mv (.t 5)⟩,
      ⟨some 4, none, .mv (.t 13)⟩])
    (.ret))
    (.skip))))
  (.seq (.seq (.reg [⟨some 14, none, .mv (.t 1)⟩,
    ⟨some 15, none, .len false (.t 14)⟩,
    ⟨some 16, none, .mv (.c (.int .i64 0))⟩])
  (.block 0 (.loop L99_0)))
  (.seq (.reg [⟨some 4, none, .mv (.c (.int .i64 0))⟩])
  (.ret))))) false false
theorem mk99 : cFun Try.prog false false Try.f99 = some ir99 := by kernel_rfl
def L100_0 : C := (
  .reg [⟨some 9, none, .mv (.t 15)⟩])
def L100_1 : C := (
  .seq (.seq (.reg [⟨some 18, none, .load false 1 (.t 7)⟩,
    ⟨some 19, none, .load false 1 (.t 3)⟩,
    ⟨some 20, none, .len false (.t 19)⟩,
    ⟨some 21, none, .bin false .lss (.t 18) (.t 20)⟩,
    ⟨some 22, none, .mv (.t 21)⟩,
    ⟨some 23, some (22, true), .mv (.t 10)⟩,
    ⟨some 24, some (22, true), .len false (.t 23)⟩,
    ⟨some 25, some (22, true), .bin false .gtr (.t 24) (.c (.int .i64 0))⟩,
    ⟨some 26, none, .pick (.t 22) (.t 25) (.c (.bool false))⟩])
  (.cond (.t 26) (.skip)
    (.exit 2)))
  (.block 3 (.seq (.reg [⟨some 27, none, .mv (.t 10)⟩,
      ⟨some 28, none, .load false 1 (.t 3)⟩,
      ⟨some 29, none, .load false 1 (.t 7)⟩,
      ⟨some 30, none, .iaddrL 2 (.t 28) (.t 29)⟩,
      ⟨some 31, none, .load true 2 (.t 30)⟩,
      ⟨some 32, none, .call (.c (.fn 101 [] [])) [.t 27, .t 31]⟩,
      ⟨some 12, none, .mv (.t 32)⟩])
    (.seq (.seq (.reg [⟨some 33, none, .mv (.t 12)⟩,
      ⟨some 34, none, .bin false .lss (.t 33) (.c (.int .i64 0))⟩])
    (.cond (.t 34) (.exit 2)
      (.skip)))
    (.seq (.reg [⟨some 35, none, .mv (.t 11)⟩,
      ⟨some 36, none, .mv (.t 10)⟩,
      ⟨some 37, none, .mv (.t 12)⟩,
      ⟨some 38, none, .iaddrL 2 (.t 36) (.t 37)⟩,
      ⟨some 39, none, .load true 2 (.t 38)⟩,
      ⟨some 40, none, .bslice false 2 [.int .i64 0, .bool false] 1 [(0, (.t 39))]⟩,
      ⟨some 41, none, .app 2 16 (.t 35) (.t 40)⟩,
      ⟨some 11, none, .mv (.t 41)⟩])
    (.seq (.reg [⟨some 42, none, .mv (.t 10)⟩,
      ⟨some 43, none, .mv (.t 12)⟩,
      ⟨some 44, none, .mv (.t 12)⟩,
      ⟨some 45, none, .bin false .add (.t 44) (.c (.int .i64 1))⟩,
      ⟨some 46, none, .call (.c (.fn 142 [] [])) [.t 42, .t 43, .t 45]⟩,
      ⟨some 10, none, .mv (.t 46)⟩])
    (.reg [⟨some 47, none, .load false 1 (.t 7)⟩,
      ⟨some 48, none, .bin false .add (.t 47) (.c (.int .i64 1))⟩,
      ⟨none, none, .store 1 (.t 7) (.t 48)⟩])))))))
def L100_2 : C := (
  .block 1 (.seq (.reg [⟨some 16, none, .mv (.t 9)⟩,
      ⟨some 17, none, .call (.c (.fn 50 [] [])) [.t 16]⟩,
      ⟨some 10, none, .mv (.t 17)⟩])
    (.seq (.reg [⟨some 11, none, .mv (.c (.nils))⟩])
    (.seq (.block 2 (.loop L100_1))
    (.seq (.reg [⟨some 49, none, .load false 1 (.t 8)⟩,
      ⟨some 50, none, .mv (.t 11)⟩,
      ⟨some 51, none, .bslice true 1 [.imm []] 1 [(0, (.t 50))]⟩,
      ⟨some 52, none, .app 1 24 (.t 49) (.t 51)⟩,
      ⟨none, none, .store 1 (.t 8) (.t 52)⟩])
    (.seq (.reg [⟨some 53, none, .mv (.t 10)⟩,
      ⟨some 54, none, .len false (.t 53)⟩,
      ⟨some 55, none, .bin false .gtr (.t 54) (.c (.int .i64 0))⟩])
    (.cond (.t 55) (.seq (.draw [⟨some 56, none, .load false 1 (.t 7)⟩,
        ⟨some 57, none, .load false 1 (.t 8)⟩,
        ⟨some 58, none, .mv (.t 10)⟩,
        ⟨none, none, .store 1 (.t 4) (.t 56)⟩,
        ⟨none, none, .store 1 (.t 5) (.t 57)⟩,
        ⟨none, none, .store 1 (.t 6) (.t 58)⟩] [(1, 3)])
      (.ret))
      (.skip))))))))
def ir100 : Fun := .mk 61 [.cell 4 false 1, .cell 5 false 1, .cell 6 false 1] (
  .seq (.reg [⟨some 2, none, .box (.t 0)⟩,
    ⟨some 3, none, .box (.t 1)⟩,
    ⟨some 4, none, .alloc [.int .i64 0]⟩,
    ⟨some 5, none, .alloc [.nils]⟩,
    ⟨some 6, none, .alloc [.nils]⟩])
  (.seq (.reg [⟨some 7, none, .alloc [.int .i64 0]⟩,
    ⟨none, none, .store 1 (.t 7) (.c (.int .i64 0))⟩])
  (.seq (.reg [⟨some 8, none, .alloc [.nils]⟩])
  (.seq (.seq (.reg [⟨some 13, none, .load true 2 (.t 2)⟩,
    ⟨some 14, none, .call (.c (.fn 141 [] [])) [.t 13]⟩])
  (.block 0 (.range (.t 14) [15] L100_0 L100_2)))
  (.seq (.draw [⟨some 59, none, .load false 1 (.t 7)⟩,
    ⟨some 60, none, .load false 1 (.t 8)⟩,
    ⟨none, none, .store 1 (.t 4) (.t 59)⟩,
    ⟨none, none, .store 1 (.t 5) (.t 60)⟩,
    ⟨none, none, .store 1 (.t 6) (.c (.nils))⟩] [(1, 2)])
  (.ret)))))) true false
theorem mk100 : cFun Try.prog true false Try.f100 = some ir100 := by kernel_rfl
def L101_0 : C := (
  .seq (.reg [⟨some 9, none, .bin false .lss (.t 8) (.t 7)⟩])
  (.seq (.cond (.t 9) (.skip)
    (.exit 0))
  (.seq (.block 1 (.seq (.reg [⟨some 10, none, .mv (.t 8)⟩,
      ⟨some 5, none, .mv (.t 10)⟩])
    (.seq (.draw [⟨some 11, none, .load true 2 (.t 3)⟩,
      ⟨some 12, none, .mv (.t 0)⟩,
      ⟨some 13, none, .mv (.t 5)⟩,
      ⟨some 14, none, .iaddrL 2 (.t 12) (.t 13)⟩,
      ⟨some 15, none, .load true 2 (.t 14)⟩,
      ⟨some 16, none, .eqa false [1, 0] (.t 11) (.t 15)⟩] [])
    (.cond (.t 16) (.seq (.reg [⟨some 17, none, .mv (.t 5)⟩,
        ⟨some 4, none, .mv (.t 17)⟩])
      (.ret))
      (.skip)))))
  (.reg [⟨some 18, none, .bin false .add (.t 8) (.c (.int .i64 1))⟩,
    ⟨some 8, none, .mv (.t 18)⟩]))))
def ir101 : Fun := .mk 19 [.t 4] (
  .seq (.reg [⟨some 3, none, .box (.t 1)⟩,
    ⟨some 4, none, .mv (.c (.int .i64 0))⟩])
  (.seq (.seq (.reg [⟨some 6, none, .mv (.t 0)⟩,
    ⟨some 7, none, .len false (.t 6)⟩,
    ⟨some 8, none, .mv (.c (.int .i64 0))⟩])
  (.block 0 (.loop L101_0)))
  (.seq (.reg [⟨some 4, none, .mv (.c (.int .i64 (-1)))⟩])
  (.ret)))) false false
theorem mk101 : cFun Try.prog false false Try.f101 = some ir101 := by kernel_rfl
def L102_0 : C := (
  .seq (.seq (.reg [⟨some 8, none, .mv (.t 3)⟩,
    ⟨some 9, none, .faddr 1 (.t 1)⟩,
    ⟨some 10, none, .load false 1 (.t 9)⟩,
    ⟨some 11, none, .len false (.t 10)⟩,
    ⟨some 12, none, .bin false .lss (.t 8) (.t 11)⟩])
  (.cond (.t 12) (.skip)
    (.exit 0)))
  (.seq (.block 1 (.seq (.reg [⟨some 15, none, .faddr 1 (.t 1)⟩,
      ⟨some 16, none, .load false 1 (.t 15)⟩,
      ⟨some 17, none, .mv (.t 3)⟩,
      ⟨some 18, none, .iaddrL 2 (.t 16) (.t 17)⟩,
      ⟨some 19, none, .faddr 0 (.t 18)⟩,
      ⟨some 20, none, .load false 1 (.t 19)⟩,
      ⟨some 21, none, .len false (.t 20)⟩,
      ⟨some 22, none, .bin false .gtr (.t 21) (.c (.int .i64 40))⟩])
    (.cond (.t 22) (.seq (.reg [⟨some 2, none, .mv (.c (.bool false))⟩])
      (.ret))
      (.skip))))
  (.reg [⟨some 13, none, .mv (.t 3)⟩,
    ⟨some 14, none, .bin false .add (.t 13) (.c (.int .i64 1))⟩,
    ⟨some 3, none, .mv (.t 14)⟩])))
def ir102 : Fun := .mk 23 [.t 2] (
  .seq (.reg [⟨some 1, none, .box (.t 0)⟩,
    ⟨some 2, none, .mv (.c (.bool false))⟩])
  (.seq (.seq (.reg [⟨some 4, none, .faddr 1 (.t 1)⟩,
    ⟨some 5, none, .load false 1 (.t 4)⟩,
    ⟨some 6, none, .len false (.t 5)⟩,
    ⟨some 7, none, .bin false .gtr (.t 6) (.c (.int .i64 128))⟩])
  (.cond (.t 7) (.seq (.reg [⟨some 2, none, .mv (.c (.bool false))⟩])
    (.ret))
    (.skip)))
  (.seq (.seq (.reg [⟨some 3, none, .mv (.c (.int .i64 0))⟩])
  (.block 0 (.loop L102_0)))
  (.seq (.reg [⟨some 2, none, .mv (.c (.bool true))⟩])
  (.ret))))) false false
theorem mk102 : cFun Try.prog false false Try.f102 = some ir102 := by kernel_rfl
def ir103 : Fun := .mk 13 [.t 4] (
  .seq (.reg [⟨some 2, none, .box (.t 0)⟩,
    ⟨some 4, none, .mv (.c (.int .i64 0))⟩])
  (.seq (.seq (.reg [⟨some 6, none, .load true 2 (.t 2)⟩,
    ⟨some 7, none, .call (.c (.fn 95 [] [])) [.t 6]⟩,
    ⟨some 5, none, .mv (.t 7)⟩])
  (.seq (.reg [⟨some 8, none, .mv (.t 5)⟩,
    ⟨some 9, none, .bin false .neq (.t 8) (.c (.int .i64 0))⟩])
  (.cond (.t 9) (.seq (.reg [⟨some 10, none, .mv (.t 5)⟩,
      ⟨some 4, none, .mv (.t 10)⟩])
    (.ret))
    (.skip))))
  (.seq (.reg [⟨some 11, none, .mv (.t 1)⟩,
    ⟨some 12, none, .call (.c (.fn 92 [] [])) [.t 11]⟩,
    ⟨some 4, none, .mv (.t 12)⟩])
  (.ret)))) false false
theorem mk103 : cFun Try.prog false false Try.f103 = some ir103 := by kernel_rfl
def L104_0 : C := (
  .seq (.seq (.reg [⟨some 6, none, .mv (.t 5)⟩,
    ⟨some 7, none, .mv (.t 1)⟩,
    ⟨some 8, none, .len false (.t 7)⟩,
    ⟨some 9, none, .bin false .lss (.t 6) (.t 8)⟩,
    ⟨some 10, none, .mv (.t 9)⟩,
    ⟨some 11, some (10, true), .load true 2 (.t 2)⟩,
    ⟨some 12, some (10, true), .mv (.t 1)⟩,
    ⟨some 13, some (10, true), .mv (.t 5)⟩,
    ⟨some 14, some (10, true), .bin false .add (.t 13) (.c (.int .i64 1))⟩,
    ⟨some 15, some (10, true), .call (.c (.fn 106 [] [])) [.t 11, .t 12, .t 14]⟩,
    ⟨some 16, some (10, true), .fld false 3 1 (.t 15)⟩,
    ⟨some 17, none, .pick (.t 10) (.t 16) (.c (.bool false))⟩])
  (.cond (.t 17) (.skip)
    (.exit 0)))
  (.block 1 (.reg [⟨some 18, none, .mv (.t 5)⟩,
      ⟨some 19, none, .bin false .add (.t 18) (.c (.int .i64 1))⟩,
      ⟨some 5, none, .mv (.t 19)⟩])))
def ir104 : Fun := .mk 21 [.t 4] (
  .seq (.reg [⟨some 2, none, .box (.t 0)⟩,
    ⟨some 4, none, .mv (.c (.int .i64 0))⟩])
  (.seq (.reg [⟨some 5, none, .mv (.c (.int .i64 0))⟩])
  (.seq (.block 0 (.loop L104_0))
  (.seq (.reg [⟨some 20, none, .mv (.t 5)⟩,
    ⟨some 4, none, .mv (.t 20)⟩])
  (.ret))))) false false
theorem mk104 : cFun Try.prog false false Try.f104 = some ir104 := by kernel_rfl
def ir105 : Fun := .mk 19 [.t 4] (
  .seq (.reg [⟨some 2, none, .box (.t 0)⟩,
    ⟨some 4, none, .mv (.c (.int .i64 0))⟩])
  (.seq (.seq (.reg [⟨some 6, none, .load true 2 (.t 2)⟩,
    ⟨some 7, none, .mv (.t 1)⟩,
    ⟨some 8, none, .call (.c (.fn 103 [] [])) [.t 6, .t 7]⟩,
    ⟨some 5, none, .mv (.t 8)⟩])
  (.seq (.reg [⟨some 9, none, .mv (.t 5)⟩,
    ⟨some 10, none, .bin false .neq (.t 9) (.c (.int .i64 0))⟩])
  (.cond (.t 10) (.seq (.reg [⟨some 11, none, .mv (.t 5)⟩,
      ⟨some 4, none, .mv (.t 11)⟩])
    (.ret))
    (.skip))))
  (.seq (.seq (.reg [⟨some 12, none, .load true 2 (.t 2)⟩,
    ⟨some 13, none, .mv (.t 1)⟩,
    ⟨some 14, none, .mv (.t 1)⟩,
    ⟨some 15, none, .len false (.t 14)⟩,
    ⟨some 16, none, .call (.c (.fn 106 [] [])) [.t 12, .t 13, .t 15]⟩,
    ⟨some 17, none, .fld false 3 1 (.t 16)⟩,
    ⟨some 18, none, .un .not (.t 17)⟩])
  (.cond (.t 18) (.seq (.reg [⟨some 4, none, .mv (.c (.int .i64 14))⟩])
    (.ret))
    (.skip)))
  (.seq (.reg [⟨some 4, none, .mv (.c (.int .i64 0))⟩])
  (.ret))))) false false
theorem mk105 : cFun Try.prog false false Try.f105 = some ir105 := by kernel_rfl
def L106_0 : C := (
  .seq (.seq (.reg [⟨some 22, none, .mv (.t 10)⟩,
    ⟨some 23, none, .faddr 2 (.t 7)⟩,
    ⟨some 24, none, .load false 1 (.t 23)⟩,
    ⟨some 25, none, .len false (.t 24)⟩,
    ⟨some 26, none, .bin false .lss (.t 22) (.t 25)⟩])
  (.cond (.t 26) (.skip)
    (.exit 2)))
  (.seq (.block 3 (.seq (.draw [⟨some 29, none, .faddr 2 (.t 7)⟩,
      ⟨some 30, none, .load false 1 (.t 29)⟩,
      ⟨some 31, none, .mv (.t 10)⟩,
      ⟨some 32, none, .iaddrL 2 (.t 30) (.t 31)⟩,
      ⟨some 33, none, .load true 2 (.t 32)⟩,
      ⟨some 34, none, .mv (.t 1)⟩,
      ⟨some 35, none, .mv (.t 8)⟩,
      ⟨some 36, none, .iaddrL 2 (.t 34) (.t 35)⟩,
      ⟨some 37, none, .load true 2 (.t 36)⟩,
      ⟨some 38, none, .eqa true [1, 0] (.t 33) (.t 37)⟩] [])
    (.cond (.t 38) (.reg [⟨some 39, none, .mv (.t 9)⟩,
        ⟨some 40, none, .faddr 2 (.t 7)⟩,
        ⟨some 41, none, .load false 1 (.t 40)⟩,
        ⟨some 42, none, .mv (.t 10)⟩,
        ⟨some 43, none, .iaddrL 2 (.t 41) (.t 42)⟩,
        ⟨some 44, none, .load true 2 (.t 43)⟩,
        ⟨some 45, none, .bslice false 2 [.int .i64 0, .bool false] 1 [(0, (.t 44))]⟩,
        ⟨some 46, none, .app 2 16 (.t 39) (.t 45)⟩,
        ⟨some 9, none, .mv (.t 46)⟩])
      (.skip))))
  (.reg [⟨some 27, none, .mv (.t 10)⟩,
    ⟨some 28, none, .bin false .add (.t 27) (.c (.int .i64 1))⟩,
    ⟨some 10, none, .mv (.t 28)⟩])))
def L106_1 : C := (
  .seq (.seq (.reg [⟨some 17, none, .mv (.t 8)⟩,
    ⟨some 18, none, .mv (.t 2)⟩,
    ⟨some 19, none, .bin false .lss (.t 17) (.t 18)⟩])
  (.cond (.t 19) (.skip)
    (.exit 0)))
  (.seq (.block 1 (.seq (.reg [⟨some 9, none, .mv (.c (.nils))⟩])
    (.seq (.seq (.reg [⟨some 10, none, .mv (.c (.int .i64 0))⟩])
    (.block 2 (.loop L106_0)))
    (.seq (.seq (.reg [⟨some 47, none, .mv (.t 9)⟩,
      ⟨some 48, none, .len false (.t 47)⟩,
      ⟨some 49, none, .faddr 2 (.t 7)⟩,
      ⟨some 50, none, .load false 1 (.t 49)⟩,
      ⟨some 51, none, .len false (.t 50)⟩,
      ⟨some 52, none, .bin false .eql (.t 48) (.t 51)⟩])
    (.cond (.t 52) (.seq (.reg [⟨some 53, none, .build [.int .i64 0, .int .i64 0, .nils, .bool false] []⟩,
        ⟨none, none, .store 4 (.t 6) (.t 53)⟩])
      (.ret))
      (.skip)))
    (.seq (.reg [⟨some 54, none, .mv (.t 9)⟩,
      ⟨some 55, none, .faddr 2 (.t 7)⟩,
      ⟨none, none, .store 1 (.t 55) (.t 54)⟩])
    (.seq (.reg [⟨some 56, none, .mv (.t 9)⟩,
      ⟨some 57, none, .len false (.t 56)⟩,
      ⟨some 58, none, .bin false .eql (.t 57) (.c (.int .i64 0))⟩])
    (.cond (.t 58) (.seq (.reg [⟨some 59, none, .faddr 1 (.t 7)⟩,
        ⟨some 60, none, .load false 1 (.t 59)⟩,
        ⟨some 61, none, .bin false .add (.t 60) (.c (.int .i64 1))⟩,
        ⟨some 62, none, .faddr 1 (.t 7)⟩,
        ⟨none, none, .store 1 (.t 62) (.t 61)⟩])
      (.seq (.seq (.reg [⟨some 63, none, .faddr 1 (.t 7)⟩,
        ⟨some 64, none, .load false 1 (.t 63)⟩,
        ⟨some 65, none, .faddr 1 (.t 3)⟩,
        ⟨some 66, none, .load false 1 (.t 65)⟩,
        ⟨some 67, none, .len false (.t 66)⟩,
        ⟨some 68, none, .bin false .eql (.t 64) (.t 67)⟩])
      (.cond (.t 68) (.reg [⟨some 69, none, .faddr 0 (.t 7)⟩,
          ⟨some 70, none, .load false 1 (.t 69)⟩,
          ⟨some 71, none, .bin false .add (.t 70) (.c (.int .i64 1))⟩,
          ⟨some 72, none, .faddr 0 (.t 7)⟩,
          ⟨none, none, .store 1 (.t 72) (.t 71)⟩,
          ⟨some 73, none, .faddr 1 (.t 7)⟩,
          ⟨none, none, .store 1 (.t 73) (.c (.int .i64 0))⟩])
        (.skip)))
      (.reg [⟨some 74, none, .faddr 1 (.t 3)⟩,
        ⟨some 75, none, .load false 1 (.t 74)⟩,
        ⟨some 76, none, .faddr 1 (.t 7)⟩,
        ⟨some 77, none, .load false 1 (.t 76)⟩,
        ⟨some 78, none, .iaddrL 2 (.t 75) (.t 77)⟩,
        ⟨some 79, none, .faddr 0 (.t 78)⟩,
        ⟨some 80, none, .load false 1 (.t 79)⟩,
        ⟨some 81, none, .faddr 2 (.t 7)⟩,
        ⟨none, none, .store 1 (.t 81) (.t 80)⟩])))
      (.skip))))))))
  (.reg [⟨some 20, none, .mv (.t 8)⟩,
    ⟨some 21, none, .bin false .add (.t 20) (.c (.int .i64 1))⟩,
    ⟨some 8, none, .mv (.t 21)⟩])))
def ir106 : Fun := .mk 83 [.cell 6 true 4] (
  .seq (.reg [⟨some 3, none, .box (.t 0)⟩,
    ⟨some 6, none, .alloc [.int .i64 0, .int .i64 0, .nils, .bool false]⟩])
  (.seq (.reg [⟨some 11, none, .faddr 1 (.t 3)⟩,
    ⟨some 12, none, .load false 1 (.t 11)⟩,
    ⟨some 13, none, .iaddrL 2 (.t 12) (.c (.int .i64 0))⟩,
    ⟨some 14, none, .faddr 0 (.t 13)⟩,
    ⟨some 15, none, .load false 1 (.t 14)⟩,
    ⟨some 16, none, .build [.int .i64 0, .int .i64 0, .nils, .bool false] [(2, 1, (.t 15)), (3, 1, (.c (.bool true)))]⟩,
    ⟨some 7, none, .alloc [.int .i64 0, .int .i64 0, .nils, .bool false]⟩,
    ⟨none, none, .store 4 (.t 7) (.t 16)⟩])
  (.seq (.seq (.reg [⟨some 8, none, .mv (.c (.int .i64 0))⟩])
  (.block 0 (.loop L106_1)))
  (.seq (.reg [⟨some 82, none, .load true 4 (.t 7)⟩,
    ⟨none, none, .store 4 (.t 6) (.t 82)⟩])
  (.ret))))) false false
theorem mk106 : cFun Try.prog false false Try.f106 = some ir106 := by kernel_rfl
def L107_0 : C := (
  .seq (.reg [⟨some 9, none, .bin false .lss (.t 8) (.t 7)⟩])
  (.seq (.cond (.t 9) (.skip)
    (.exit 0))
  (.seq (.block 1 (.seq (.reg [⟨some 10, none, .iaddrL 1 (.t 6) (.t 8)⟩,
      ⟨some 11, none, .load false 1 (.t 10)⟩,
      ⟨some 5, none, .mv (.t 11)⟩])
    (.reg [⟨some 12, none, .mv (.t 3)⟩,
      ⟨some 13, none, .mv (.t 5)⟩,
      ⟨some 14, none, .call (.c (.fn 144 [] [])) [.t 13]⟩,
      ⟨some 15, none, .call (.c (.fn 143 [] [])) [.t 14, .c (.fn 98 [] [])]⟩,
      ⟨some 16, none, .app 2 16 (.t 12) (.t 15)⟩,
      ⟨some 3, none, .mv (.t 16)⟩])))
  (.reg [⟨some 17, none, .bin false .add (.t 8) (.c (.int .i64 1))⟩,
    ⟨some 8, none, .mv (.t 17)⟩]))))
def ir107 : Fun := .mk 19 [.t 2] (
  .seq (.reg [⟨some 2, none, .mv (.c (.nils))⟩])
  (.seq (.reg [⟨some 3, none, .mv (.c (.nils))⟩])
  (.seq (.seq (.reg [⟨some 6, none, .mv (.t 0)⟩,
    ⟨some 7, none, .len false (.t 6)⟩,
    ⟨some 8, none, .mv (.c (.int .i64 0))⟩])
  (.block 0 (.loop L107_0)))
  (.seq (.reg [⟨some 18, none, .mv (.t 3)⟩,
    ⟨some 2, none, .mv (.t 18)⟩])
  (.ret))))) false false
theorem mk107 : cFun Try.prog false false Try.f107 = some ir107 := by kernel_rfl
def L108_0 : C := (
  .seq (.seq (.draw [⟨some 18, none, .mv (.t 7)⟩,
    ⟨some 19, none, .bin false .gtr (.t 18) (.c (.int .i64 0))⟩,
    ⟨some 20, none, .mv (.t 19)⟩,
    ⟨some 21, some (20, true), .mv (.t 5)⟩,
    ⟨some 22, some (20, true), .mv (.t 7)⟩,
    ⟨some 23, some (20, true), .iaddrL 2 (.t 21) (.t 22)⟩,
    ⟨some 24, some (20, true), .faddr 0 (.t 23)⟩,
    ⟨some 25, some (20, true), .load false 1 (.t 24)⟩,
    ⟨some 26, some (20, true), .mv (.t 5)⟩,
    ⟨some 27, some (20, true), .mv (.t 7)⟩,
    ⟨some 28, some (20, true), .bin false .sub (.t 27) (.c (.int .i64 1))⟩,
    ⟨some 29, some (20, true), .iaddrL 2 (.t 26) (.t 28)⟩,
    ⟨some 30, some (20, true), .faddr 0 (.t 29)⟩,
    ⟨some 31, some (20, true), .load false 1 (.t 30)⟩,
    ⟨some 32, some (20, true), .bin false .lss (.t 25) (.t 31)⟩,
    ⟨some 33, none, .pick (.t 20) (.t 32) (.c (.bool false))⟩,
    ⟨some 34, none, .mv (.t 33)⟩,
    ⟨some 35, some (34, true), .load true 2 (.t 2)⟩,
    ⟨some 36, some (34, true), .mv (.t 1)⟩,
    ⟨some 37, some (34, true), .mv (.t 7)⟩,
    ⟨some 38, some (34, true), .bin false .sub (.t 37) (.c (.int .i64 1))⟩,
    ⟨some 39, some (34, true), .call (.c (.fn 145 [] [])) [.t 35, .t 36, .t 38]⟩,
    ⟨some 40, none, .pick (.t 34) (.t 39) (.c (.bool false))⟩] [])
  (.cond (.t 40) (.skip)
    (.exit 2)))
  (.seq (.block 3 (.draw [⟨some 43, none, .mv (.t 5)⟩,
      ⟨some 44, none, .mv (.t 7)⟩,
      ⟨some 45, none, .mv (.t 5)⟩,
      ⟨some 46, none, .mv (.t 7)⟩,
      ⟨some 47, none, .bin false .sub (.t 46) (.c (.int .i64 1))⟩,
      ⟨some 48, none, .mv (.t 5)⟩,
      ⟨some 49, none, .mv (.t 7)⟩,
      ⟨some 50, none, .bin false .sub (.t 49) (.c (.int .i64 1))⟩,
      ⟨some 51, none, .iaddrL 2 (.t 48) (.t 50)⟩,
      ⟨some 52, none, .load true 2 (.t 51)⟩,
      ⟨some 53, none, .mv (.t 5)⟩,
      ⟨some 54, none, .mv (.t 7)⟩,
      ⟨some 55, none, .iaddrL 2 (.t 53) (.t 54)⟩,
      ⟨some 56, none, .load true 2 (.t 55)⟩,
      ⟨some 57, none, .iaddrL 2 (.t 43) (.t 44)⟩,
      ⟨none, none, .store 2 (.t 57) (.t 52)⟩,
      ⟨some 58, none, .iaddrL 2 (.t 45) (.t 47)⟩,
      ⟨none, none, .store 2 (.t 58) (.t 56)⟩] []))
  (.reg [⟨some 41, none, .mv (.t 7)⟩,
    ⟨some 42, none, .bin false .sub (.t 41) (.c (.int .i64 1))⟩,
    ⟨some 7, none, .mv (.t 42)⟩])))
def L108_1 : C := (
  .seq (.seq (.reg [⟨some 11, none, .mv (.t 6)⟩,
    ⟨some 12, none, .mv (.t 5)⟩,
    ⟨some 13, none, .len false (.t 12)⟩,
    ⟨some 14, none, .bin false .lss (.t 11) (.t 13)⟩])
  (.cond (.t 14) (.skip)
    (.exit 0)))
  (.seq (.block 1 (.seq (.reg [⟨some 17, none, .mv (.t 6)⟩,
      ⟨some 7, none, .mv (.t 17)⟩])
    (.block 2 (.loop L108_0))))
  (.reg [⟨some 15, none, .mv (.t 6)⟩,
    ⟨some 16, none, .bin false .add (.t 15) (.c (.int .i64 1))⟩,
    ⟨some 6, none, .mv (.t 16)⟩])))
def ir108 : Fun := .mk 60 [.t 4] (
  .seq (.reg [⟨some 2, none, .box (.t 0)⟩,
    ⟨some 4, none, .mv (.c (.nils))⟩])
  (.seq (.reg [⟨some 8, none, .bslice false 2 [.int .i64 0, .bool false] 0 []⟩,
    ⟨some 9, none, .mv (.t 1)⟩,
    ⟨some 10, none, .app 2 16 (.t 8) (.t 9)⟩,
    ⟨some 5, none, .mv (.t 10)⟩])
  (.seq (.seq (.reg [⟨some 6, none, .mv (.c (.int .i64 1))⟩])
  (.block 0 (.loop L108_1)))
  (.seq (.reg [⟨some 59, none, .mv (.t 5)⟩,
    ⟨some 4, none, .mv (.t 59)⟩])
  (.ret))))) false false
theorem mk108 : cFun Try.prog false false Try.f108 = some ir108 := by kernel_rfl
def ir109 : Fun := .mk 30 [.t 4, .t 5] (
  .seq (.reg [⟨some 4, none, .mv (.c (.int .u64 0))⟩,
    ⟨some 5, none, .mv (.c (.int .u64 0))⟩])
  (.seq (.cond (.c (.bool false)) (.seq (.reg [⟨some 11, none, .mv (.t 0)⟩,
      ⟨some 12, none, .conv (.int .u32) (.t 11)⟩,
      ⟨some 13, none, .mv (.t 1)⟩,
      ⟨some 14, none, .conv (.int .u32) (.t 13)⟩,
      ⟨some 15, none, .call (.c (.fn 146 [] [])) [.t 12, .t 14]⟩,
      ⟨some 10, none, .mv (.t 15)⟩,
      ⟨some 16, none, .ext 0 (.t 10)⟩,
      ⟨some 17, none, .ext 1 (.t 10)⟩,
      ⟨some 6, none, .mv (.t 16)⟩,
      ⟨some 7, none, .mv (.t 17)⟩])
    (.seq (.reg [⟨some 18, none, .mv (.t 6)⟩,
      ⟨some 19, none, .conv (.int .u64) (.t 18)⟩,
      ⟨some 20, none, .mv (.t 7)⟩,
      ⟨some 21, none, .conv (.int .u64) (.t 20)⟩,
      ⟨some 4, none, .mv (.t 19)⟩,
      ⟨some 5, none, .mv (.t 21)⟩])
    (.ret)))
    (.skip))
  (.seq (.reg [⟨some 23, none, .mv (.t 0)⟩,
    ⟨some 24, none, .mv (.t 1)⟩,
    ⟨some 25, none, .call (.c (.fn 147 [] [])) [.t 23, .t 24]⟩,
    ⟨some 22, none, .mv (.t 25)⟩,
    ⟨some 26, none, .ext 0 (.t 22)⟩,
    ⟨some 27, none, .ext 1 (.t 22)⟩,
    ⟨some 8, none, .mv (.t 26)⟩,
    ⟨some 9, none, .mv (.t 27)⟩])
  (.seq (.reg [⟨some 28, none, .mv (.t 8)⟩,
    ⟨some 29, none, .mv (.t 9)⟩,
    ⟨some 4, none, .mv (.t 28)⟩,
    ⟨some 5, none, .mv (.t 29)⟩])
  (.ret))))) false false
theorem mk109 : cFun Try.prog false false Try.f109 = some ir109 := by kernel_rfl
def ir135 : Fun := .mk 7 [.t 2] (
  .seq (.reg [⟨some 1, none, .box (.t 0)⟩,
    ⟨some 2, none, .mv (.c (.int .i64 0))⟩])
  (.seq (.seq (.reg [⟨some 3, none, .faddr 0 (.t 1)⟩,
    ⟨some 4, none, .load false 1 (.t 3)⟩,
    ⟨some 5, none, .call (.c (.fn 164 [] [])) [.t 4]⟩,
    ⟨some 6, none, .un .not (.t 5)⟩])
  (.cond (.t 6) (.seq (.reg [⟨some 2, none, .mv (.c (.int .i64 2))⟩])
    (.ret))
    (.skip)))
  (.seq (.reg [⟨some 2, none, .mv (.c (.int .i64 0))⟩])
  (.ret)))) false false
theorem mk135 : cFun Try.prog false false Try.f135 = some ir135 := by kernel_rfl
def L136_0 : C := (
  .seq (.seq (.reg [⟨some 29, none, .mv (.t 7)⟩,
    ⟨some 30, none, .faddr 0 (.t 5)⟩,
    ⟨some 31, none, .load false 1 (.t 30)⟩,
    ⟨some 32, none, .len false (.t 31)⟩,
    ⟨some 33, none, .bin false .lss (.t 29) (.t 32)⟩])
  (.cond (.t 33) (.skip)
    (.exit 2)))
  (.seq (.block 3 (.seq (.draw [⟨some 36, none, .faddr 0 (.t 5)⟩,
      ⟨some 37, none, .load false 1 (.t 36)⟩,
      ⟨some 38, none, .mv (.t 7)⟩,
      ⟨some 39, none, .iaddrL 2 (.t 37) (.t 38)⟩,
      ⟨some 40, none, .faddr 0 (.t 39)⟩,
      ⟨some 41, none, .load false 1 (.t 40)⟩,
      ⟨some 42, none, .faddr 0 (.t 1)⟩,
      ⟨some 43, none, .load false 1 (.t 42)⟩,
      ⟨some 44, none, .bin false .geq (.t 41) (.t 43)⟩] [])
    (.cond (.t 44) (.seq (.reg [⟨some 2, none, .mv (.c (.int .i64 6))⟩])
      (.ret))
      (.skip))))
  (.reg [⟨some 34, none, .mv (.t 7)⟩,
    ⟨some 35, none, .bin false .add (.t 34) (.c (.int .i64 1))⟩,
    ⟨some 7, none, .mv (.t 35)⟩])))
def L136_1 : C := (
  .seq (.seq (.reg [⟨some 12, none, .mv (.t 4)⟩,
    ⟨some 13, none, .faddr 1 (.t 1)⟩,
    ⟨some 14, none, .load false 1 (.t 13)⟩,
    ⟨some 15, none, .len false (.t 14)⟩,
    ⟨some 16, none, .bin false .lss (.t 12) (.t 15)⟩])
  (.cond (.t 16) (.skip)
    (.exit 0)))
  (.seq (.block 1 (.seq (.reg [⟨some 19, none, .faddr 1 (.t 1)⟩,
      ⟨some 20, none, .load false 1 (.t 19)⟩,
      ⟨some 21, none, .mv (.t 4)⟩,
      ⟨some 22, none, .iaddrL 2 (.t 20) (.t 21)⟩,
      ⟨some 23, none, .load true 2 (.t 22)⟩,
      ⟨some 5, none, .alloc [.nils, .int .i64 0]⟩,
      ⟨none, none, .store 2 (.t 5) (.t 23)⟩])
    (.seq (.seq (.reg [⟨some 24, none, .load true 2 (.t 5)⟩,
      ⟨some 25, none, .call (.c (.fn 165 [] [])) [.t 24]⟩,
      ⟨some 6, none, .mv (.t 25)⟩])
    (.seq (.reg [⟨some 26, none, .mv (.t 6)⟩,
      ⟨some 27, none, .bin false .neq (.t 26) (.c (.int .i64 0))⟩])
    (.cond (.t 27) (.seq (.reg [⟨some 28, none, .mv (.t 6)⟩,
        ⟨some 2, none, .mv (.t 28)⟩])
      (.ret))
      (.skip))))
    (.seq (.seq (.reg [⟨some 7, none, .mv (.c (.int .i64 0))⟩])
    (.block 2 (.loop L136_0)))
    (.seq (.seq (.reg [⟨some 45, none, .load true 2 (.t 5)⟩,
      ⟨some 46, none, .mv (.t 3)⟩,
      ⟨some 47, none, .call (.c (.fn 166 [] [])) [.t 45, .t 46]⟩,
      ⟨some 48, none, .un .not (.t 47)⟩])
    (.cond (.t 48) (.seq (.reg [⟨some 2, none, .mv (.c (.int .i64 14))⟩])
      (.ret))
      (.skip)))
    (.reg [⟨some 49, none, .load true 2 (.t 5)⟩,
      ⟨some 50, none, .mv (.t 3)⟩,
      ⟨some 51, none, .call (.c (.fn 167 [] [])) [.t 49, .t 50]⟩,
      ⟨some 3, none, .mv (.t 51)⟩]))))))
  (.reg [⟨some 17, none, .mv (.t 4)⟩,
    ⟨some 18, none, .bin false .add (.t 17) (.c (.int .i64 1))⟩,
    ⟨some 4, none, .mv (.t 18)⟩])))
def L136_2 : C := (
  .seq (.seq (.reg [⟨some 52, none, .mv (.t 8)⟩,
    ⟨some 53, none, .faddr 0 (.t 1)⟩,
    ⟨some 54, none, .load false 1 (.t 53)⟩,
    ⟨some 55, none, .bin false .lss (.t 52) (.t 54)⟩])
  (.cond (.t 55) (.skip)
    (.exit 4)))
  (.seq (.block 5 (.seq (.reg [⟨some 58, none, .mv (.t 3)⟩,
      ⟨some 59, none, .mv (.t 8)⟩,
      ⟨some 60, none, .iaddrL 1 (.t 58) (.t 59)⟩,
      ⟨some 61, none, .load false 1 (.t 60)⟩])
    (.cond (.t 61) (.seq (.reg [⟨some 2, none, .mv (.c (.int .i64 9))⟩])
      (.ret))
      (.skip))))
  (.reg [⟨some 56, none, .mv (.t 8)⟩,
    ⟨some 57, none, .bin false .add (.t 56) (.c (.int .i64 1))⟩,
    ⟨some 8, none, .mv (.t 57)⟩])))
def ir136 : Fun := .mk 62 [.t 2] (
  .seq (.reg [⟨some 1, none, .box (.t 0)⟩,
    ⟨some 2, none, .mv (.c (.int .i64 0))⟩])
  (.seq (.reg [⟨some 9, none, .faddr 0 (.t 1)⟩,
    ⟨some 10, none, .load false 1 (.t 9)⟩,
    ⟨some 11, none, .mkslice 1 1 [.bool false] (.t 10) (.t 10)⟩,
    ⟨some 3, none, .mv (.t 11)⟩])
  (.seq (.seq (.reg [⟨some 4, none, .mv (.c (.int .i64 0))⟩])
  (.block 0 (.loop L136_1)))
  (.seq (.seq (.reg [⟨some 8, none, .mv (.c (.int .i64 0))⟩])
  (.block 4 (.loop L136_2)))
  (.seq (.reg [⟨some 2, none, .mv (.c (.int .i64 0))⟩])
  (.ret)))))) false false
theorem mk136 : cFun Try.prog false false Try.f136 = some ir136 := by kernel_rfl
def L137_0 : C := (
  .seq (.seq (.reg [⟨some 6, none, .mv (.t 5)⟩,
    ⟨some 7, none, .faddr 1 (.t 2)⟩,
    ⟨some 8, none, .load false 1 (.t 7)⟩,
    ⟨some 9, none, .len false (.t 8)⟩,
    ⟨some 10, none, .bin false .lss (.t 6) (.t 9)⟩])
  (.cond (.t 10) (.skip)
    (.exit 0)))
  (.seq (.block 1 (.seq (.reg [⟨some 13, none, .faddr 1 (.t 2)⟩,
      ⟨some 14, none, .load false 1 (.t 13)⟩,
      ⟨some 15, none, .mv (.t 5)⟩,
      ⟨some 16, none, .iaddrL 2 (.t 14) (.t 15)⟩,
      ⟨some 17, none, .load true 2 (.t 16)⟩,
      ⟨some 18, none, .mv (.t 1)⟩,
      ⟨some 19, none, .call (.c (.fn 168 [] [])) [.t 17, .t 18]⟩,
      ⟨some 20, none, .bin false .neq (.t 19) (.c (.int .i64 0))⟩])
    (.cond (.t 20) (.seq (.reg [⟨some 4, none, .mv (.c (.bool true))⟩])
      (.ret))
      (.skip))))
  (.reg [⟨some 11, none, .mv (.t 5)⟩,
    ⟨some 12, none, .bin false .add (.t 11) (.c (.int .i64 1))⟩,
    ⟨some 5, none, .mv (.t 12)⟩])))
def ir137 : Fun := .mk 21 [.t 4] (
  .seq (.reg [⟨some 2, none, .box (.t 0)⟩,
    ⟨some 4, none, .mv (.c (.bool false))⟩])
  (.seq (.seq (.reg [⟨some 5, none, .mv (.c (.int .i64 0))⟩])
  (.block 0 (.loop L137_0)))
  (.seq (.reg [⟨some 4, none, .mv (.c (.bool false))⟩])
  (.ret)))) false false
theorem mk137 : cFun Try.prog false false Try.f137 = some ir137 := by kernel_rfl
def L138_0 : C := (
  .block 1 (.seq (.reg [⟨some 21, none, .mv (.t 2)⟩,
      ⟨some 22, none, .mv (.t 1)⟩,
      ⟨some 23, none, .bin false .sub (.t 21) (.t 22)⟩,
      ⟨some 12, none, .mv (.t 23)⟩])
    (.seq (.seq (.reg [⟨some 24, none, .mv (.t 12)⟩,
      ⟨some 25, none, .bin false .leq (.t 24) (.c (.int .i64 12))⟩])
    (.cond (.t 25) (.seq (.reg [⟨some 26, none, .mv (.t 0)⟩,
        ⟨some 27, none, .mv (.t 1)⟩,
        ⟨some 28, none, .mv (.t 2)⟩,
        ⟨some 29, none, .mv (.t 4)⟩,
        ⟨some 30, none, .call (.c (.fn 169 [] [])) [.t 26, .t 27, .t 28, .t 29]⟩])
      (.ret))
      (.skip)))
    (.seq (.seq (.reg [⟨some 31, none, .mv (.t 3)⟩,
      ⟨some 32, none, .bin false .eql (.t 31) (.c (.int .i64 0))⟩])
    (.cond (.t 32) (.seq (.reg [⟨some 33, none, .mv (.t 0)⟩,
        ⟨some 34, none, .mv (.t 1)⟩,
        ⟨some 35, none, .mv (.t 2)⟩,
        ⟨some 36, none, .mv (.t 4)⟩,
        ⟨some 37, none, .call (.c (.fn 170 [] [])) [.t 33, .t 34, .t 35, .t 36]⟩])
      (.ret))
      (.skip)))
    (.seq (.seq (.reg [⟨some 38, none, .mv (.t 10)⟩,
      ⟨some 39, none, .un .not (.t 38)⟩])
    (.cond (.t 39) (.seq (.reg [⟨some 40, none, .mv (.t 0)⟩,
        ⟨some 41, none, .mv (.t 1)⟩,
        ⟨some 42, none, .mv (.t 2)⟩,
        ⟨some 43, none, .mv (.t 4)⟩,
        ⟨some 44, none, .call (.c (.fn 171 [] [])) [.t 40, .t 41, .t 42, .t 43]⟩])
      (.reg [⟨some 45, none, .mv (.t 3)⟩,
        ⟨some 46, none, .bin false .sub (.t 45) (.c (.int .i64 1))⟩,
        ⟨some 3, none, .mv (.t 46)⟩]))
      (.skip)))
    (.seq (.reg [⟨some 48, none, .mv (.t 0)⟩,
      ⟨some 49, none, .mv (.t 1)⟩,
      ⟨some 50, none, .mv (.t 2)⟩,
      ⟨some 51, none, .mv (.t 4)⟩,
      ⟨some 52, none, .call (.c (.fn 172 [] [])) [.t 48, .t 49, .t 50, .t 51]⟩,
      ⟨some 47, none, .mv (.t 52)⟩,
      ⟨some 53, none, .ext 0 (.t 47)⟩,
      ⟨some 54, none, .ext 1 (.t 47)⟩,
      ⟨some 13, none, .mv (.t 53)⟩,
      ⟨some 14, none, .mv (.t 54)⟩])
    (.seq (.seq (.reg [⟨some 55, none, .mv (.t 14)⟩,
      ⟨some 56, none, .bin false .eql (.t 55) (.c (.int .i64 2))⟩])
    (.cond (.t 56) (.seq (.reg [⟨some 57, none, .mv (.t 0)⟩,
        ⟨some 58, none, .mv (.t 1)⟩,
        ⟨some 59, none, .mv (.t 2)⟩,
        ⟨some 60, none, .mv (.t 4)⟩,
        ⟨some 61, none, .call (.c (.fn 173 [] [])) [.t 57, .t 58, .t 59, .t 60]⟩])
      (.seq (.reg [⟨some 62, none, .mv (.t 2)⟩,
        ⟨some 63, none, .bin false .sub (.t 62) (.c (.int .i64 1))⟩,
        ⟨some 64, none, .mv (.t 13)⟩,
        ⟨some 65, none, .mv (.t 1)⟩,
        ⟨some 66, none, .bin false .sub (.t 64) (.t 65)⟩,
        ⟨some 67, none, .bin false .sub (.t 63) (.t 66)⟩,
        ⟨some 13, none, .mv (.t 67)⟩])
      (.reg [⟨some 14, none, .mv (.c (.int .i64 1))⟩])))
      (.skip)))
    (.seq (.seq (.reg [⟨some 68, none, .mv (.t 10)⟩,
      ⟨some 69, none, .mv (.t 68)⟩,
      ⟨some 70, some (69, true), .mv (.t 11)⟩,
      ⟨some 71, none, .pick (.t 69) (.t 70) (.c (.bool false))⟩,
      ⟨some 72, none, .mv (.t 71)⟩,
      ⟨some 73, some (72, true), .mv (.t 14)⟩,
      ⟨some 74, some (72, true), .bin false .eql (.t 73) (.c (.int .i64 1))⟩,
      ⟨some 75, none, .pick (.t 72) (.t 74) (.c (.bool false))⟩])
    (.cond (.t 75) (.seq (.reg [⟨some 76, none, .mv (.t 0)⟩,
        ⟨some 77, none, .mv (.t 1)⟩,
        ⟨some 78, none, .mv (.t 2)⟩,
        ⟨some 79, none, .mv (.t 4)⟩,
        ⟨some 80, none, .call (.c (.fn 174 [] [])) [.t 76, .t 77, .t 78, .t 79]⟩])
      (.cond (.t 80) (.ret)
        (.skip)))
      (.skip)))
    (.seq (.seq (.draw [⟨some 81, none, .mv (.t 1)⟩,
      ⟨some 82, none, .bin false .gtr (.t 81) (.c (.int .i64 0))⟩,
      ⟨some 83, none, .mv (.t 82)⟩,
      ⟨some 84, some (83, true), .mv (.t 4)⟩,
      ⟨some 85, some (83, true), .mv (.t 0)⟩,
      ⟨some 86, some (83, true), .mv (.t 1)⟩,
      ⟨some 87, some (83, true), .bin false .sub (.t 86) (.c (.int .i64 1))⟩,
      ⟨some 88, some (83, true), .iaddrL 2 (.t 85) (.t 87)⟩,
      ⟨some 89, some (83, true), .load true 2 (.t 88)⟩,
      ⟨some 90, some (83, true), .mv (.t 0)⟩,
      ⟨some 91, some (83, true), .mv (.t 13)⟩,
      ⟨some 92, some (83, true), .iaddrL 2 (.t 90) (.t 91)⟩,
      ⟨some 93, some (83, true), .load true 2 (.t 92)⟩,
      ⟨some 94, some (83, true), .call (.t 84) [.t 89, .t 93]⟩,
      ⟨some 95, some (83, true), .bin false .lss (.t 94) (.c (.int .i64 0))⟩,
      ⟨some 96, some (83, true), .un .not (.t 95)⟩,
      ⟨some 97, none, .pick (.t 83) (.t 96) (.c (.bool false))⟩] [])
    (.cond (.t 97) (.seq (.reg [⟨some 98, none, .mv (.t 0)⟩,
        ⟨some 99, none, .mv (.t 1)⟩,
        ⟨some 100, none, .mv (.t 2)⟩,
        ⟨some 101, none, .mv (.t 13)⟩,
        ⟨some 102, none, .mv (.t 4)⟩,
        ⟨some 103, none, .call (.c (.fn 175 [] [])) [.t 98, .t 99, .t 100, .t 101, .t 102]⟩,
        ⟨some 15, none, .mv (.t 103)⟩])
      (.seq (.reg [⟨some 104, none, .mv (.t 15)⟩,
        ⟨some 1, none, .mv (.t 104)⟩])
      (.exit 1)))
      (.skip)))
    (.seq (.reg [⟨some 106, none, .mv (.t 0)⟩,
      ⟨some 107, none, .mv (.t 1)⟩,
      ⟨some 108, none, .mv (.t 2)⟩,
      ⟨some 109, none, .mv (.t 13)⟩,
      ⟨some 110, none, .mv (.t 4)⟩,
      ⟨some 111, none, .call (.c (.fn 176 [] [])) [.t 106, .t 107, .t 108, .t 109, .t 110]⟩,
      ⟨some 105, none, .mv (.t 111)⟩,
      ⟨some 112, none, .ext 0 (.t 105)⟩,
      ⟨some 113, none, .ext 1 (.t 105)⟩,
      ⟨some 16, none, .mv (.t 112)⟩,
      ⟨some 17, none, .mv (.t 113)⟩])
    (.seq (.reg [⟨some 114, none, .mv (.t 17)⟩,
      ⟨some 11, none, .mv (.t 114)⟩])
    (.seq (.reg [⟨some 115, none, .mv (.t 16)⟩,
      ⟨some 116, none, .mv (.t 1)⟩,
      ⟨some 117, none, .bin false .sub (.t 115) (.t 116)⟩,
      ⟨some 118, none, .mv (.t 2)⟩,
      ⟨some 119, none, .mv (.t 16)⟩,
      ⟨some 120, none, .bin false .sub (.t 118) (.t 119)⟩,
      ⟨some 18, none, .mv (.t 117)⟩,
      ⟨some 19, none, .mv (.t 120)⟩])
    (.seq (.reg [⟨some 121, none, .mv (.t 12)⟩,
      ⟨some 122, none, .bin false .quo (.t 121) (.c (.int .i64 8))⟩,
      ⟨some 20, none, .mv (.t 122)⟩])
    (.seq (.reg [⟨some 123, none, .mv (.t 18)⟩,
      ⟨some 124, none, .mv (.t 19)⟩,
      ⟨some 125, none, .bin false .lss (.t 123) (.t 124)⟩])
    (.cond (.t 125) (.seq (.reg [⟨some 126, none, .mv (.t 18)⟩,
        ⟨some 127, none, .mv (.t 20)⟩,
        ⟨some 128, none, .bin false .geq (.t 126) (.t 127)⟩,
        ⟨some 10, none, .mv (.t 128)⟩])
      (.seq (.reg [⟨some 129, none, .mv (.t 0)⟩,
        ⟨some 130, none, .mv (.t 1)⟩,
        ⟨some 131, none, .mv (.t 16)⟩,
        ⟨some 132, none, .mv (.t 3)⟩,
        ⟨some 133, none, .mv (.t 4)⟩,
        ⟨some 134, none, .call (.c (.fn 138 [] [])) [.t 129, .t 130, .t 131, .t 132, .t 133]⟩])
      (.reg [⟨some 135, none, .mv (.t 16)⟩,
        ⟨some 136, none, .bin false .add (.t 135) (.c (.int .i64 1))⟩,
        ⟨some 1, none, .mv (.t 136)⟩])))
      (.seq (.reg [⟨some 137, none, .mv (.t 19)⟩,
        ⟨some 138, none, .mv (.t 20)⟩,
        ⟨some 139, none, .bin false .geq (.t 137) (.t 138)⟩,
        ⟨some 10, none, .mv (.t 139)⟩])
      (.seq (.reg [⟨some 140, none, .mv (.t 0)⟩,
        ⟨some 141, none, .mv (.t 16)⟩,
        ⟨some 142, none, .bin false .add (.t 141) (.c (.int .i64 1))⟩,
        ⟨some 143, none, .mv (.t 2)⟩,
        ⟨some 144, none, .mv (.t 3)⟩,
        ⟨some 145, none, .mv (.t 4)⟩,
        ⟨some 146, none, .call (.c (.fn 138 [] [])) [.t 140, .t 142, .t 143, .t 144, .t 145]⟩])
      (.reg [⟨some 147, none, .mv (.t 16)⟩,
        ⟨some 2, none, .mv (.t 147)⟩]))))))))))))))))))
def ir138 : Fun := .mk 148 [] (
  .seq (.reg [⟨some 10, none, .mv (.c (.bool true))⟩])
  (.seq (.reg [⟨some 11, none, .mv (.c (.bool true))⟩])
  (.block 0 (.loop L138_0)))) false true
theorem mk138 : cFun Try.prog false true Try.f138 = some ir138 := by kernel_rfl
def ir139 : Fun := .mk 8 [.t 2] (
  .seq (.reg [⟨some 2, none, .mv (.c (.int .i64 0))⟩])
  (.seq (.cond (.c (.bool false)) (.seq (.reg [⟨some 3, none, .mv (.t 0)⟩,
      ⟨some 4, none, .conv (.int .u32) (.t 3)⟩,
      ⟨some 5, none, .call (.c (.fn 177 [] [])) [.t 4]⟩,
      ⟨some 2, none, .mv (.t 5)⟩])
    (.ret))
    (.skip))
  (.seq (.reg [⟨some 6, none, .mv (.t 0)⟩,
    ⟨some 7, none, .call (.c (.fn 178 [] [])) [.t 6]⟩,
    ⟨some 2, none, .mv (.t 7)⟩])
  (.ret)))) false false
theorem mk139 : cFun Try.prog false false Try.f139 = some ir139 := by kernel_rfl
def L140_0 : C := (
  .seq (.reg [⟨some 50, none, .bin false .lss (.t 49) (.t 48)⟩])
  (.seq (.cond (.t 50) (.skip)
    (.exit 3))
  (.seq (.block 4 (.seq (.reg [⟨some 51, none, .iaddrL 2 (.t 47) (.t 49)⟩,
      ⟨some 52, none, .load true 2 (.t 51)⟩,
      ⟨some 9, none, .alloc [.int .i64 0, .bool false]⟩,
      ⟨none, none, .store 2 (.t 9) (.t 52)⟩])
    (.reg [⟨some 53, none, .faddr 0 (.t 9)⟩,
      ⟨some 54, none, .load false 1 (.t 53)⟩,
      ⟨some 55, none, .iaddrA 6 1 (.t 4) (.t 54)⟩,
      ⟨none, none, .store 1 (.t 55) (.c (.bool true))⟩])))
  (.reg [⟨some 56, none, .bin false .add (.t 49) (.c (.int .i64 1))⟩,
    ⟨some 49, none, .mv (.t 56)⟩]))))
def L140_1 : C := (
  .seq (.reg [⟨some 33, none, .bin false .lss (.t 32) (.t 31)⟩])
  (.seq (.cond (.t 33) (.skip)
    (.exit 1))
  (.seq (.block 2 (.seq (.reg [⟨some 34, none, .iaddrL 2 (.t 30) (.t 32)⟩,
      ⟨some 35, none, .load true 2 (.t 34)⟩,
      ⟨some 6, none, .alloc [.nils, .int .i64 0]⟩,
      ⟨none, none, .store 2 (.t 6) (.t 35)⟩])
    (.seq (.seq (.reg [⟨some 36, none, .load true 2 (.t 1)⟩,
      ⟨some 37, none, .load true 2 (.t 6)⟩,
      ⟨some 38, none, .load true 6 (.t 3)⟩,
      ⟨some 39, none, .call (.c (.fn 179 [] [])) [.t 36, .t 37, .t 38]⟩,
      ⟨some 7, none, .mv (.t 39)⟩])
    (.seq (.reg [⟨some 40, none, .mv (.t 7)⟩,
      ⟨some 41, none, .bin false .neq (.t 40) (.c (.int .i64 0))⟩])
    (.cond (.t 41) (.seq (.reg [⟨some 42, none, .mv (.t 7)⟩,
        ⟨some 2, none, .mv (.t 42)⟩])
      (.ret))
      (.skip))))
    (.seq (.reg [⟨some 43, none, .load true 6 (.t 3)⟩,
      ⟨some 44, none, .load true 2 (.t 6)⟩,
      ⟨some 45, none, .call (.c (.fn 180 [] [])) [.t 43, .t 44]⟩,
      ⟨none, none, .store 6 (.t 3) (.t 45)⟩])
    (.seq (.reg [⟨some 46, none, .faddr 0 (.t 6)⟩,
      ⟨some 47, none, .load false 1 (.t 46)⟩,
      ⟨some 48, none, .len false (.t 47)⟩,
      ⟨some 49, none, .mv (.c (.int .i64 0))⟩])
    (.block 3 (.loop L140_0)))))))
  (.reg [⟨some 57, none, .bin false .add (.t 32) (.c (.int .i64 1))⟩,
    ⟨some 32, none, .mv (.t 57)⟩]))))
def ir140 : Fun := .mk 65 [.t 2] (
  .seq (.reg [⟨some 1, none, .box (.t 0)⟩,
    ⟨some 2, none, .mv (.c (.int .i64 0))⟩])
  (.seq (.block 0 (.seq (.reg [⟨some 11, none, .faddr 0 (.t 1)⟩,
      ⟨some 12, none, .load false 1 (.t 11)⟩,
      ⟨some 13, none, .bin false .lss (.t 12) (.c (.int .i64 1))⟩,
      ⟨some 14, none, .mv (.t 13)⟩,
      ⟨some 15, some (14, false), .faddr 0 (.t 1)⟩,
      ⟨some 16, some (14, false), .load false 1 (.t 15)⟩,
      ⟨some 17, some (14, false), .bin false .gtr (.t 16) (.c (.int .i64 6))⟩,
      ⟨some 18, none, .pick (.t 14) (.c (.bool true)) (.t 17)⟩,
      ⟨some 10, none, .mv (.t 18)⟩])
    (.cond (.t 10) (.seq (.reg [⟨some 2, none, .mv (.c (.int .i64 2))⟩])
      (.ret))
      (.seq (.reg [⟨some 20, none, .faddr 1 (.t 1)⟩,
        ⟨some 21, none, .load false 1 (.t 20)⟩,
        ⟨some 22, none, .len false (.t 21)⟩,
        ⟨some 23, none, .bin false .eql (.t 22) (.c (.int .i64 0))⟩,
        ⟨some 19, none, .mv (.t 23)⟩])
      (.cond (.t 19) (.seq (.reg [⟨some 2, none, .mv (.c (.int .i64 13))⟩])
        (.ret))
        (.seq (.reg [⟨some 25, none, .faddr 1 (.t 1)⟩,
          ⟨some 26, none, .load false 1 (.t 25)⟩,
          ⟨some 27, none, .len false (.t 26)⟩,
          ⟨some 28, none, .bin false .gtr (.t 27) (.c (.int .i64 64))⟩,
          ⟨some 24, none, .mv (.t 28)⟩])
        (.cond (.t 24) (.seq (.reg [⟨some 2, none, .mv (.c (.int .i64 5))⟩])
          (.ret))
          (.skip))))))))
  (.seq (.reg [⟨some 3, none, .alloc [.bool false, .bool false, .bool false, .bool false, .bool false, .bool false]⟩,
    ⟨some 4, none, .alloc [.bool false, .bool false, .bool false, .bool false, .bool false, .bool false]⟩])
  (.seq (.seq (.reg [⟨some 29, none, .faddr 1 (.t 1)⟩,
    ⟨some 30, none, .load false 1 (.t 29)⟩,
    ⟨some 31, none, .len false (.t 30)⟩,
    ⟨some 32, none, .mv (.c (.int .i64 0))⟩])
  (.block 1 (.loop L140_1)))
  (.seq (.seq (.reg [⟨some 58, none, .load true 6 (.t 3)⟩,
    ⟨some 59, none, .build [.bool false, .bool false, .bool false, .bool false, .bool false, .bool false] []⟩,
    ⟨some 60, none, .eqa true [0, 0, 0, 0, 0, 0] (.t 58) (.t 59)⟩])
  (.cond (.t 60) (.seq (.reg [⟨some 2, none, .mv (.c (.int .i64 9))⟩])
    (.ret))
    (.skip)))
  (.seq (.seq (.reg [⟨some 61, none, .faddr 0 (.t 1)⟩,
    ⟨some 62, none, .load false 1 (.t 61)⟩,
    ⟨some 63, none, .slcA 6 1 (.t 4) none (some (.t 62))⟩,
    ⟨some 64, none, .call (.c (.fn 181 [] [])) [.t 63, .c (.bool false)]⟩])
  (.cond (.t 64) (.seq (.reg [⟨some 2, none, .mv (.c (.int .i64 13))⟩])
    (.ret))
    (.skip)))
  (.seq (.reg [⟨some 2, none, .mv (.c (.int .i64 0))⟩])
  (.ret)))))))) false false
theorem mk140 : cFun Try.prog false false Try.f140 = some ir140 := by kernel_rfl
def ir141 : Fun := .mk 4 [.t 2] (
  .seq (.reg [⟨some 1, none, .box (.t 0)⟩,
    ⟨some 2, none, .mv (.c (.nilfn))⟩])
  (.seq (.reg [⟨some 3, none, .mkfn 182 [] [.t 1]⟩,
    ⟨some 2, none, .mv (.t 3)⟩])
  (.ret))) false true
theorem mk141 : cFun Try.prog false true Try.f141 = some ir141 := by kernel_rfl
def ir142 : Fun := .mk 33 [.t 6] (
  .seq (.reg [⟨some 6, none, .mv (.c (.nils))⟩])
  (.seq (.reg [⟨some 8, none, .mv (.t 0)⟩,
    ⟨some 9, none, .mv (.t 1)⟩,
    ⟨some 10, none, .mv (.t 2)⟩,
    ⟨some 11, none, .mv (.t 0)⟩,
    ⟨some 12, none, .len false (.t 11)⟩,
    ⟨some 13, none, .slcL 2 (.t 8) (some (.t 9)) (some (.t 10)) (some (.t 12))⟩])
  (.seq (.seq (.reg [⟨some 14, none, .mv (.t 1)⟩,
    ⟨some 15, none, .mv (.t 2)⟩,
    ⟨some 16, none, .bin false .eql (.t 14) (.t 15)⟩])
  (.cond (.t 16) (.seq (.reg [⟨some 17, none, .mv (.t 0)⟩,
      ⟨some 6, none, .mv (.t 17)⟩])
    (.ret))
    (.skip)))
  (.seq (.reg [⟨some 18, none, .mv (.t 0)⟩,
    ⟨some 19, none, .len false (.t 18)⟩,
    ⟨some 7, none, .mv (.t 19)⟩])
  (.seq (.draw [⟨some 20, none, .mv (.t 0)⟩,
    ⟨some 21, none, .mv (.t 1)⟩,
    ⟨some 22, none, .slcL 2 (.t 20) none (some (.t 21)) none⟩,
    ⟨some 23, none, .mv (.t 0)⟩,
    ⟨some 24, none, .mv (.t 2)⟩,
    ⟨some 25, none, .slcL 2 (.t 23) (some (.t 24)) none none⟩,
    ⟨some 26, none, .app 2 16 (.t 22) (.t 25)⟩,
    ⟨some 0, none, .mv (.t 26)⟩] [])
  (.seq (.reg [⟨some 27, none, .mv (.t 0)⟩,
    ⟨some 28, none, .mv (.t 0)⟩,
    ⟨some 29, none, .len false (.t 28)⟩,
    ⟨some 30, none, .mv (.t 7)⟩,
    ⟨some 31, none, .slcL 2 (.t 27) (some (.t 29)) (some (.t 30)) none⟩,
    ⟨none, none, .clr 2 [.int .i64 0, .bool false] (.t 31)⟩])
  (.seq (.reg [⟨some 32, none, .mv (.t 0)⟩,
    ⟨some 6, none, .mv (.t 32)⟩])
  (.ret)))))))) true true
theorem mk142 : cFun Try.prog true true Try.f142 = some ir142 := by kernel_rfl
def ir143 : Fun := .mk 12 [.t 4] (
  .seq (.reg [⟨some 4, none, .mv (.c (.nils))⟩])
  (.seq (.reg [⟨some 6, none, .mv (.t 0)⟩,
    ⟨some 7, none, .call (.c (.fn 183 [] [])) [.t 6]⟩,
    ⟨some 5, none, .mv (.t 7)⟩])
  (.seq (.reg [⟨some 8, none, .mv (.t 5)⟩,
    ⟨some 9, none, .mv (.t 1)⟩,
    ⟨some 10, none, .call (.c (.fn 97 [] [])) [.t 8, .t 9]⟩])
  (.seq (.reg [⟨some 11, none, .mv (.t 5)⟩,
    ⟨some 4, none, .mv (.t 11)⟩])
  (.ret))))) true false
theorem mk143 : cFun Try.prog true false Try.f143 = some ir143 := by kernel_rfl
def ir144 : Fun := .mk 4 [.t 2] (
  .seq (.reg [⟨some 1, none, .box (.t 0)⟩,
    ⟨some 2, none, .mv (.c (.nilfn))⟩])
  (.seq (.reg [⟨some 3, none, .mkfn 184 [] [.t 1]⟩,
    ⟨some 2, none, .mv (.t 3)⟩])
  (.ret))) false true
theorem mk144 : cFun Try.prog false true Try.f144 = some ir144 := by kernel_rfl
def ir145 : Fun := .mk 30 [.t 6] (
  .seq (.reg [⟨some 3, none, .box (.t 0)⟩,
    ⟨some 6, none, .mv (.c (.bool false))⟩])
  (.seq (.draw [⟨some 7, none, .alloc [.int .i64 0, .int .i64 0, .nils, .bool false]⟩,
    ⟨some 8, none, .alloc [.int .i64 0, .int .i64 0, .nils, .bool false]⟩,
    ⟨some 9, none, .load true 2 (.t 3)⟩,
    ⟨some 10, none, .mv (.t 1)⟩,
    ⟨some 11, none, .mv (.t 2)⟩,
    ⟨some 12, none, .call (.c (.fn 106 [] [])) [.t 9, .t 10, .t 11]⟩,
    ⟨some 13, none, .load true 2 (.t 3)⟩,
    ⟨some 14, none, .mv (.t 1)⟩,
    ⟨some 15, none, .mv (.t 2)⟩,
    ⟨some 16, none, .bin false .add (.t 15) (.c (.int .i64 1))⟩,
    ⟨some 17, none, .call (.c (.fn 106 [] [])) [.t 13, .t 14, .t 16]⟩,
    ⟨none, none, .store 4 (.t 7) (.t 12)⟩,
    ⟨none, none, .store 4 (.t 8) (.t 17)⟩] [(6, 5)])
  (.seq (.reg [⟨some 18, none, .faddr 0 (.t 7)⟩,
    ⟨some 19, none, .load false 1 (.t 18)⟩,
    ⟨some 20, none, .faddr 0 (.t 8)⟩,
    ⟨some 21, none, .load false 1 (.t 20)⟩,
    ⟨some 22, none, .bin false .eql (.t 19) (.t 21)⟩,
    ⟨some 23, none, .mv (.t 22)⟩,
    ⟨some 24, some (23, true), .faddr 1 (.t 7)⟩,
    ⟨some 25, some (23, true), .load false 1 (.t 24)⟩,
    ⟨some 26, some (23, true), .faddr 1 (.t 8)⟩,
    ⟨some 27, some (23, true), .load false 1 (.t 26)⟩,
    ⟨some 28, some (23, true), .bin false .eql (.t 25) (.t 27)⟩,
    ⟨some 29, none, .pick (.t 23) (.t 28) (.c (.bool false))⟩,
    ⟨some 6, none, .mv (.t 29)⟩])
  (.ret)))) false false
theorem mk145 : cFun Try.prog false false Try.f145 = some ir145 := by kernel_rfl
def ir147 : Fun := .mk 51 [.t 4, .t 5] (
  .seq (.reg [⟨some 4, none, .mv (.c (.int .u64 0))⟩,
    ⟨some 5, none, .mv (.c (.int .u64 0))⟩])
  (.seq (.reg [⟨some 14, none, .mv (.t 0)⟩,
    ⟨some 15, none, .bin false .and (.t 14) (.c (.int .u64 4294967295))⟩,
    ⟨some 6, none, .mv (.t 15)⟩])
  (.seq (.reg [⟨some 16, none, .mv (.t 0)⟩,
    ⟨some 17, none, .bin false .shr (.t 16) (.c (.int .u64 32))⟩,
    ⟨some 7, none, .mv (.t 17)⟩])
  (.seq (.reg [⟨some 18, none, .mv (.t 1)⟩,
    ⟨some 19, none, .bin false .and (.t 18) (.c (.int .u64 4294967295))⟩,
    ⟨some 8, none, .mv (.t 19)⟩])
  (.seq (.reg [⟨some 20, none, .mv (.t 1)⟩,
    ⟨some 21, none, .bin false .shr (.t 20) (.c (.int .u64 32))⟩,
    ⟨some 9, none, .mv (.t 21)⟩])
  (.seq (.reg [⟨some 22, none, .mv (.t 6)⟩,
    ⟨some 23, none, .mv (.t 8)⟩,
    ⟨some 24, none, .bin false .mul (.t 22) (.t 23)⟩,
    ⟨some 10, none, .mv (.t 24)⟩])
  (.seq (.reg [⟨some 25, none, .mv (.t 7)⟩,
    ⟨some 26, none, .mv (.t 8)⟩,
    ⟨some 27, none, .bin false .mul (.t 25) (.t 26)⟩,
    ⟨some 28, none, .mv (.t 10)⟩,
    ⟨some 29, none, .bin false .shr (.t 28) (.c (.int .u64 32))⟩,
    ⟨some 30, none, .bin false .add (.t 27) (.t 29)⟩,
    ⟨some 11, none, .mv (.t 30)⟩])
  (.seq (.reg [⟨some 31, none, .mv (.t 11)⟩,
    ⟨some 32, none, .bin false .and (.t 31) (.c (.int .u64 4294967295))⟩,
    ⟨some 12, none, .mv (.t 32)⟩])
  (.seq (.reg [⟨some 33, none, .mv (.t 11)⟩,
    ⟨some 34, none, .bin false .shr (.t 33) (.c (.int .u64 32))⟩,
    ⟨some 13, none, .mv (.t 34)⟩])
  (.seq (.reg [⟨some 35, none, .mv (.t 12)⟩,
    ⟨some 36, none, .mv (.t 6)⟩,
    ⟨some 37, none, .mv (.t 9)⟩,
    ⟨some 38, none, .bin false .mul (.t 36) (.t 37)⟩,
    ⟨some 39, none, .bin false .add (.t 35) (.t 38)⟩,
    ⟨some 12, none, .mv (.t 39)⟩])
  (.seq (.reg [⟨some 40, none, .mv (.t 7)⟩,
    ⟨some 41, none, .mv (.t 9)⟩,
    ⟨some 42, none, .bin false .mul (.t 40) (.t 41)⟩,
    ⟨some 43, none, .mv (.t 13)⟩,
    ⟨some 44, none, .bin false .add (.t 42) (.t 43)⟩,
    ⟨some 45, none, .mv (.t 12)⟩,
    ⟨some 46, none, .bin false .shr (.t 45) (.c (.int .u64 32))⟩,
    ⟨some 47, none, .bin false .add (.t 44) (.t 46)⟩,
    ⟨some 4, none, .mv (.t 47)⟩])
  (.seq (.reg [⟨some 48, none, .mv (.t 0)⟩,
    ⟨some 49, none, .mv (.t 1)⟩,
    ⟨some 50, none, .bin false .mul (.t 48) (.t 49)⟩,
    ⟨some 5, none, .mv (.t 50)⟩])
  (.ret))))))))))))) false false
theorem mk147 : cFun Try.prog false false Try.f147 = some ir147 := by kernel_rfl
def ir164 : Fun := .mk 9 [.t 2] (
  .seq (.reg [⟨some 2, none, .mv (.c (.bool false))⟩])
  (.seq (.reg [⟨some 3, none, .mv (.t 0)⟩,
    ⟨some 4, none, .bin false .geq (.t 3) (.c (.int .i64 0))⟩,
    ⟨some 5, none, .mv (.t 4)⟩,
    ⟨some 6, some (5, true), .mv (.t 0)⟩,
    ⟨some 7, some (5, true), .bin false .lss (.t 6) (.c (.int .i64 6))⟩,
    ⟨some 8, none, .pick (.t 5) (.t 7) (.c (.bool false))⟩,
    ⟨some 2, none, .mv (.t 8)⟩])
  (.ret))) false false
theorem mk164 : cFun Try.prog false false Try.f164 = some ir164 := by kernel_rfl
def L165_0 : C := (
  .seq (.seq (.reg [⟨some 12, none, .mv (.t 3)⟩,
    ⟨some 13, none, .faddr 0 (.t 1)⟩,
    ⟨some 14, none, .load false 1 (.t 13)⟩,
    ⟨some 15, none, .len false (.t 14)⟩,
    ⟨some 16, none, .bin false .lss (.t 12) (.t 15)⟩])
  (.cond (.t 16) (.skip)
    (.exit 0)))
  (.seq (.block 1 (.seq (.seq (.reg [⟨some 19, none, .faddr 0 (.t 1)⟩,
      ⟨some 20, none, .load false 1 (.t 19)⟩,
      ⟨some 21, none, .mv (.t 3)⟩,
      ⟨some 22, none, .iaddrL 2 (.t 20) (.t 21)⟩,
      ⟨some 23, none, .faddr 0 (.t 22)⟩,
      ⟨some 24, none, .load false 1 (.t 23)⟩,
      ⟨some 25, none, .call (.c (.fn 93 [] [])) [.t 24]⟩,
      ⟨some 26, none, .un .not (.t 25)⟩])
    (.cond (.t 26) (.seq (.reg [⟨some 2, none, .mv (.c (.int .i64 2))⟩])
      (.ret))
      (.skip)))
    (.seq (.seq (.draw [⟨some 27, none, .mv (.t 3)⟩,
      ⟨some 28, none, .bin false .gtr (.t 27) (.c (.int .i64 0))⟩,
      ⟨some 29, none, .mv (.t 28)⟩,
      ⟨some 30, some (29, true), .faddr 0 (.t 1)⟩,
      ⟨some 31, some (29, true), .load false 1 (.t 30)⟩,
      ⟨some 32, some (29, true), .mv (.t 3)⟩,
      ⟨some 33, some (29, true), .iaddrL 2 (.t 31) (.t 32)⟩,
      ⟨some 34, some (29, true), .faddr 0 (.t 33)⟩,
      ⟨some 35, some (29, true), .load false 1 (.t 34)⟩,
      ⟨some 36, some (29, true), .faddr 0 (.t 1)⟩,
      ⟨some 37, some (29, true), .load false 1 (.t 36)⟩,
      ⟨some 38, some (29, true), .mv (.t 3)⟩,
      ⟨some 39, some (29, true), .bin false .sub (.t 38) (.c (.int .i64 1))⟩,
      ⟨some 40, some (29, true), .iaddrL 2 (.t 37) (.t 39)⟩,
      ⟨some 41, some (29, true), .faddr 0 (.t 40)⟩,
      ⟨some 42, some (29, true), .load false 1 (.t 41)⟩,
      ⟨some 43, some (29, true), .bin false .eql (.t 35) (.t 42)⟩,
      ⟨some 44, none, .pick (.t 29) (.t 43) (.c (.bool false))⟩] [])
    (.cond (.t 44) (.seq (.reg [⟨some 2, none, .mv (.c (.int .i64 7))⟩])
      (.ret))
      (.skip)))
    (.seq (.draw [⟨some 45, none, .mv (.t 3)⟩,
      ⟨some 46, none, .bin false .gtr (.t 45) (.c (.int .i64 0))⟩,
      ⟨some 47, none, .mv (.t 46)⟩,
      ⟨some 48, some (47, true), .faddr 0 (.t 1)⟩,
      ⟨some 49, some (47, true), .load false 1 (.t 48)⟩,
      ⟨some 50, some (47, true), .mv (.t 3)⟩,
      ⟨some 51, some (47, true), .iaddrL 2 (.t 49) (.t 50)⟩,
      ⟨some 52, some (47, true), .faddr 0 (.t 51)⟩,
      ⟨some 53, some (47, true), .load false 1 (.t 52)⟩,
      ⟨some 54, some (47, true), .faddr 0 (.t 1)⟩,
      ⟨some 55, some (47, true), .load false 1 (.t 54)⟩,
      ⟨some 56, some (47, true), .mv (.t 3)⟩,
      ⟨some 57, some (47, true), .bin false .sub (.t 56) (.c (.int .i64 1))⟩,
      ⟨some 58, some (47, true), .iaddrL 2 (.t 55) (.t 57)⟩,
      ⟨some 59, some (47, true), .faddr 0 (.t 58)⟩,
      ⟨some 60, some (47, true), .load false 1 (.t 59)⟩,
      ⟨some 61, some (47, true), .bin false .lss (.t 53) (.t 60)⟩,
      ⟨some 62, none, .pick (.t 47) (.t 61) (.c (.bool false))⟩] [])
    (.cond (.t 62) (.seq (.reg [⟨some 2, none, .mv (.c (.int .i64 9))⟩])
      (.ret))
      (.skip))))))
  (.reg [⟨some 17, none, .mv (.t 3)⟩,
    ⟨some 18, none, .bin false .add (.t 17) (.c (.int .i64 1))⟩,
    ⟨some 3, none, .mv (.t 18)⟩])))
def ir165 : Fun := .mk 67 [.t 2] (
  .seq (.reg [⟨some 1, none, .box (.t 0)⟩,
    ⟨some 2, none, .mv (.c (.int .i64 0))⟩])
  (.seq (.seq (.reg [⟨some 4, none, .faddr 0 (.t 1)⟩,
    ⟨some 5, none, .load false 1 (.t 4)⟩,
    ⟨some 6, none, .len false (.t 5)⟩,
    ⟨some 7, none, .bin false .eql (.t 6) (.c (.int .i64 0))⟩])
  (.cond (.t 7) (.seq (.reg [⟨some 2, none, .mv (.c (.int .i64 13))⟩])
    (.ret))
    (.skip)))
  (.seq (.seq (.reg [⟨some 8, none, .faddr 0 (.t 1)⟩,
    ⟨some 9, none, .load false 1 (.t 8)⟩,
    ⟨some 10, none, .len false (.t 9)⟩,
    ⟨some 11, none, .bin false .gtr (.t 10) (.c (.int .i64 6))⟩])
  (.cond (.t 11) (.seq (.reg [⟨some 2, none, .mv (.c (.int .i64 5))⟩])
    (.ret))
    (.skip)))
  (.seq (.seq (.reg [⟨some 3, none, .mv (.c (.int .i64 0))⟩])
  (.block 0 (.loop L165_0)))
  (.seq (.seq (.reg [⟨some 63, none, .faddr 1 (.t 1)⟩,
    ⟨some 64, none, .load false 1 (.t 63)⟩,
    ⟨some 65, none, .call (.c (.fn 191 [] [])) [.t 64]⟩,
    ⟨some 66, none, .un .not (.t 65)⟩])
  (.cond (.t 66) (.seq (.reg [⟨some 2, none, .mv (.c (.int .i64 2))⟩])
    (.ret))
    (.skip)))
  (.seq (.reg [⟨some 2, none, .mv (.c (.int .i64 0))⟩])
  (.ret))))))) false false
theorem mk165 : cFun Try.prog false false Try.f165 = some ir165 := by kernel_rfl
def L166_0 : C := (
  .seq (.seq (.reg [⟨some 7, none, .mv (.t 5)⟩,
    ⟨some 8, none, .faddr 0 (.t 2)⟩,
    ⟨some 9, none, .load false 1 (.t 8)⟩,
    ⟨some 10, none, .len false (.t 9)⟩,
    ⟨some 11, none, .bin false .lss (.t 7) (.t 10)⟩])
  (.cond (.t 11) (.skip)
    (.exit 0)))
  (.seq (.block 1 (.seq (.reg [⟨some 14, none, .faddr 0 (.t 2)⟩,
      ⟨some 15, none, .load false 1 (.t 14)⟩,
      ⟨some 16, none, .mv (.t 5)⟩,
      ⟨some 17, none, .iaddrL 2 (.t 15) (.t 16)⟩,
      ⟨some 18, none, .load true 2 (.t 17)⟩,
      ⟨some 6, none, .alloc [.int .i64 0, .bool false]⟩,
      ⟨none, none, .store 2 (.t 6) (.t 18)⟩])
    (.seq (.draw [⟨some 19, none, .faddr 0 (.t 6)⟩,
      ⟨some 20, none, .load false 1 (.t 19)⟩,
      ⟨some 21, none, .mv (.t 1)⟩,
      ⟨some 22, none, .len false (.t 21)⟩,
      ⟨some 23, none, .bin false .geq (.t 20) (.t 22)⟩,
      ⟨some 24, none, .mv (.t 23)⟩,
      ⟨some 25, some (24, false), .mv (.t 1)⟩,
      ⟨some 26, some (24, false), .faddr 0 (.t 6)⟩,
      ⟨some 27, some (24, false), .load false 1 (.t 26)⟩,
      ⟨some 28, some (24, false), .iaddrL 1 (.t 25) (.t 27)⟩,
      ⟨some 29, some (24, false), .load false 1 (.t 28)⟩,
      ⟨some 30, some (24, false), .faddr 1 (.t 6)⟩,
      ⟨some 31, some (24, false), .load false 1 (.t 30)⟩,
      ⟨some 32, some (24, false), .bin true .eql (.t 29) (.t 31)⟩,
      ⟨some 33, none, .pick (.t 24) (.c (.bool true)) (.t 32)⟩] [])
    (.cond (.t 33) (.seq (.reg [⟨some 4, none, .mv (.c (.bool false))⟩])
      (.ret))
      (.skip)))))
  (.reg [⟨some 12, none, .mv (.t 5)⟩,
    ⟨some 13, none, .bin false .add (.t 12) (.c (.int .i64 1))⟩,
    ⟨some 5, none, .mv (.t 13)⟩])))
def ir166 : Fun := .mk 34 [.t 4] (
  .seq (.reg [⟨some 2, none, .box (.t 0)⟩,
    ⟨some 4, none, .mv (.c (.bool false))⟩])
  (.seq (.seq (.reg [⟨some 5, none, .mv (.c (.int .i64 0))⟩])
  (.block 0 (.loop L166_0)))
  (.seq (.reg [⟨some 4, none, .mv (.c (.bool true))⟩])
  (.ret)))) false false
theorem mk166 : cFun Try.prog false false Try.f166 = some ir166 := by kernel_rfl
def L167_0 : C := (
  .seq (.seq (.reg [⟨some 10, none, .mv (.t 6)⟩,
    ⟨some 11, none, .faddr 0 (.t 2)⟩,
    ⟨some 12, none, .load false 1 (.t 11)⟩,
    ⟨some 13, none, .len false (.t 12)⟩,
    ⟨some 14, none, .bin false .lss (.t 10) (.t 13)⟩])
  (.cond (.t 14) (.skip)
    (.exit 0)))
  (.seq (.block 1 (.draw [⟨some 17, none, .mv (.t 5)⟩,
      ⟨some 18, none, .faddr 0 (.t 2)⟩,
      ⟨some 19, none, .load false 1 (.t 18)⟩,
      ⟨some 20, none, .mv (.t 6)⟩,
      ⟨some 21, none, .iaddrL 2 (.t 19) (.t 20)⟩,
      ⟨some 22, none, .faddr 0 (.t 21)⟩,
      ⟨some 23, none, .load false 1 (.t 22)⟩,
      ⟨some 24, none, .faddr 0 (.t 2)⟩,
      ⟨some 25, none, .load false 1 (.t 24)⟩,
      ⟨some 26, none, .mv (.t 6)⟩,
      ⟨some 27, none, .iaddrL 2 (.t 25) (.t 26)⟩,
      ⟨some 28, none, .faddr 1 (.t 27)⟩,
      ⟨some 29, none, .load false 1 (.t 28)⟩,
      ⟨some 30, none, .iaddrL 1 (.t 17) (.t 23)⟩,
      ⟨none, none, .store 1 (.t 30) (.t 29)⟩] []))
  (.reg [⟨some 15, none, .mv (.t 6)⟩,
    ⟨some 16, none, .bin false .add (.t 15) (.c (.int .i64 1))⟩,
    ⟨some 6, none, .mv (.t 16)⟩])))
def ir167 : Fun := .mk 32 [.t 4] (
  .seq (.reg [⟨some 2, none, .box (.t 0)⟩,
    ⟨some 4, none, .mv (.c (.nils))⟩])
  (.seq (.reg [⟨some 7, none, .bslice false 1 [.bool false] 0 []⟩,
    ⟨some 8, none, .mv (.t 1)⟩,
    ⟨some 9, none, .app 1 1 (.t 7) (.t 8)⟩,
    ⟨some 5, none, .mv (.t 9)⟩])
  (.seq (.seq (.reg [⟨some 6, none, .mv (.c (.int .i64 0))⟩])
  (.block 0 (.loop L167_0)))
  (.seq (.reg [⟨some 31, none, .mv (.t 5)⟩,
    ⟨some 4, none, .mv (.t 31)⟩])
  (.ret))))) false false
theorem mk167 : cFun Try.prog false false Try.f167 = some ir167 := by kernel_rfl
def L168_0 : C := (
  .seq (.seq (.reg [⟨some 6, none, .mv (.t 5)⟩,
    ⟨some 7, none, .faddr 0 (.t 2)⟩,
    ⟨some 8, none, .load false 1 (.t 7)⟩,
    ⟨some 9, none, .len false (.t 8)⟩,
    ⟨some 10, none, .bin false .lss (.t 6) (.t 9)⟩])
  (.cond (.t 10) (.skip)
    (.exit 0)))
  (.seq (.block 1 (.seq (.reg [⟨some 13, none, .faddr 0 (.t 2)⟩,
      ⟨some 14, none, .load false 1 (.t 13)⟩,
      ⟨some 15, none, .mv (.t 5)⟩,
      ⟨some 16, none, .iaddrL 2 (.t 14) (.t 15)⟩,
      ⟨some 17, none, .faddr 0 (.t 16)⟩,
      ⟨some 18, none, .load false 1 (.t 17)⟩,
      ⟨some 19, none, .mv (.t 1)⟩,
      ⟨some 20, none, .bin false .eql (.t 18) (.t 19)⟩])
    (.cond (.t 20) (.seq (.seq (.reg [⟨some 21, none, .faddr 0 (.t 2)⟩,
        ⟨some 22, none, .load false 1 (.t 21)⟩,
        ⟨some 23, none, .mv (.t 5)⟩,
        ⟨some 24, none, .iaddrL 2 (.t 22) (.t 23)⟩,
        ⟨some 25, none, .faddr 1 (.t 24)⟩,
        ⟨some 26, none, .load false 1 (.t 25)⟩])
      (.cond (.t 26) (.seq (.reg [⟨some 4, none, .mv (.c (.int .i64 1))⟩])
        (.ret))
        (.skip)))
      (.seq (.reg [⟨some 4, none, .mv (.c (.int .i64 (-1)))⟩])
      (.ret)))
      (.skip))))
  (.reg [⟨some 11, none, .mv (.t 5)⟩,
    ⟨some 12, none, .bin false .add (.t 11) (.c (.int .i64 1))⟩,
    ⟨some 5, none, .mv (.t 12)⟩])))
def ir168 : Fun := .mk 27 [.t 4] (
  .seq (.reg [⟨some 2, none, .box (.t 0)⟩,
    ⟨some 4, none, .mv (.c (.int .i64 0))⟩])
  (.seq (.seq (.reg [⟨some 5, none, .mv (.c (.int .i64 0))⟩])
  (.block 0 (.loop L168_0)))
  (.seq (.reg [⟨some 4, none, .mv (.c (.int .i64 0))⟩])
  (.ret)))) false false
theorem mk168 : cFun Try.prog false false Try.f168 = some ir168 := by kernel_rfl
def L169_0 : C := (
  .seq (.seq (.draw [⟨some 18, none, .mv (.t 9)⟩,
    ⟨some 19, none, .mv (.t 1)⟩,
    ⟨some 20, none, .bin false .gtr (.t 18) (.t 19)⟩,
    ⟨some 21, none, .mv (.t 20)⟩,
    ⟨some 22, some (21, true), .mv (.t 3)⟩,
    ⟨some 23, some (21, true), .mv (.t 0)⟩,
    ⟨some 24, some (21, true), .mv (.t 9)⟩,
    ⟨some 25, some (21, true), .iaddrL 2 (.t 23) (.t 24)⟩,
    ⟨some 26, some (21, true), .load true 2 (.t 25)⟩,
    ⟨some 27, some (21, true), .mv (.t 0)⟩,
    ⟨some 28, some (21, true), .mv (.t 9)⟩,
    ⟨some 29, some (21, true), .bin false .sub (.t 28) (.c (.int .i64 1))⟩,
    ⟨some 30, some (21, true), .iaddrL 2 (.t 27) (.t 29)⟩,
    ⟨some 31, some (21, true), .load true 2 (.t 30)⟩,
    ⟨some 32, some (21, true), .call (.t 22) [.t 26, .t 31]⟩,
    ⟨some 33, some (21, true), .bin false .lss (.t 32) (.c (.int .i64 0))⟩,
    ⟨some 34, none, .pick (.t 21) (.t 33) (.c (.bool false))⟩] [])
  (.cond (.t 34) (.skip)
    (.exit 2)))
  (.seq (.block 3 (.draw [⟨some 37, none, .mv (.t 0)⟩,
      ⟨some 38, none, .mv (.t 9)⟩,
      ⟨some 39, none, .mv (.t 0)⟩,
      ⟨some 40, none, .mv (.t 9)⟩,
      ⟨some 41, none, .bin false .sub (.t 40) (.c (.int .i64 1))⟩,
      ⟨some 42, none, .mv (.t 0)⟩,
      ⟨some 43, none, .mv (.t 9)⟩,
      ⟨some 44, none, .bin false .sub (.t 43) (.c (.int .i64 1))⟩,
      ⟨some 45, none, .iaddrL 2 (.t 42) (.t 44)⟩,
      ⟨some 46, none, .load true 2 (.t 45)⟩,
      ⟨some 47, none, .mv (.t 0)⟩,
      ⟨some 48, none, .mv (.t 9)⟩,
      ⟨some 49, none, .iaddrL 2 (.t 47) (.t 48)⟩,
      ⟨some 50, none, .load true 2 (.t 49)⟩,
      ⟨some 51, none, .iaddrL 2 (.t 37) (.t 38)⟩,
      ⟨none, none, .store 2 (.t 51) (.t 46)⟩,
      ⟨some 52, none, .iaddrL 2 (.t 39) (.t 41)⟩,
      ⟨none, none, .store 2 (.t 52) (.t 50)⟩] []))
  (.reg [⟨some 35, none, .mv (.t 9)⟩,
    ⟨some 36, none, .bin false .sub (.t 35) (.c (.int .i64 1))⟩,
    ⟨some 9, none, .mv (.t 36)⟩])))
def L169_1 : C := (
  .seq (.seq (.reg [⟨some 12, none, .mv (.t 8)⟩,
    ⟨some 13, none, .mv (.t 2)⟩,
    ⟨some 14, none, .bin false .lss (.t 12) (.t 13)⟩])
  (.cond (.t 14) (.skip)
    (.exit 0)))
  (.seq (.block 1 (.seq (.reg [⟨some 17, none, .mv (.t 8)⟩,
      ⟨some 9, none, .mv (.t 17)⟩])
    (.block 2 (.loop L169_0))))
  (.reg [⟨some 15, none, .mv (.t 8)⟩,
    ⟨some 16, none, .bin false .add (.t 15) (.c (.int .i64 1))⟩,
    ⟨some 8, none, .mv (.t 16)⟩])))
def ir169 : Fun := .mk 53 [] (
  .seq (.reg [⟨some 10, none, .mv (.t 1)⟩,
    ⟨some 11, none, .bin false .add (.t 10) (.c (.int .i64 1))⟩,
    ⟨some 8, none, .mv (.t 11)⟩])
  (.block 0 (.loop L169_1))) false true
theorem mk169 : cFun Try.prog false true Try.f169 = some ir169 := by kernel_rfl
def ir178 : Fun := .mk 25 [.t 2] (
  .seq (.reg [⟨some 2, none, .mv (.c (.int .i64 0))⟩])
  (.seq (.seq (.reg [⟨some 3, none, .mv (.t 0)⟩,
    ⟨some 4, none, .bin false .geq (.t 3) (.c (.int .u64 4294967296))⟩])
  (.cond (.t 4) (.seq (.reg [⟨some 5, none, .mv (.t 0)⟩,
      ⟨some 6, none, .bin false .shr (.t 5) (.c (.int .u64 32))⟩,
      ⟨some 0, none, .mv (.t 6)⟩])
    (.reg [⟨some 2, none, .mv (.c (.int .i64 32))⟩]))
    (.skip)))
  (.seq (.seq (.reg [⟨some 7, none, .mv (.t 0)⟩,
    ⟨some 8, none, .bin false .geq (.t 7) (.c (.int .u64 65536))⟩])
  (.cond (.t 8) (.seq (.reg [⟨some 9, none, .mv (.t 0)⟩,
      ⟨some 10, none, .bin false .shr (.t 9) (.c (.int .u64 16))⟩,
      ⟨some 0, none, .mv (.t 10)⟩])
    (.reg [⟨some 11, none, .mv (.t 2)⟩,
      ⟨some 12, none, .bin false .add (.t 11) (.c (.int .i64 16))⟩,
      ⟨some 2, none, .mv (.t 12)⟩]))
    (.skip)))
  (.seq (.seq (.reg [⟨some 13, none, .mv (.t 0)⟩,
    ⟨some 14, none, .bin false .geq (.t 13) (.c (.int .u64 256))⟩])
  (.cond (.t 14) (.seq (.reg [⟨some 15, none, .mv (.t 0)⟩,
      ⟨some 16, none, .bin false .shr (.t 15) (.c (.int .u64 8))⟩,
      ⟨some 0, none, .mv (.t 16)⟩])
    (.reg [⟨some 17, none, .mv (.t 2)⟩,
      ⟨some 18, none, .bin false .add (.t 17) (.c (.int .i64 8))⟩,
      ⟨some 2, none, .mv (.t 18)⟩]))
    (.skip)))
  (.seq (.reg [⟨some 19, none, .mv (.t 2)⟩,
    ⟨some 20, none, .mv (.t 0)⟩,
    ⟨some 21, none, .conv (.int .u8) (.t 20)⟩,
    ⟨some 22, none, .idxS (.c (.str [0, 1, 2, 2, 3, 3, 3, 3, 4, 4, 4, 4, 4, 4, 4, 4, 5, 5, 5, 5, 5, 5, 5, 5, 5, 5, 5, 5, 5, 5, 5, 5, 6, 6, 6, 6, 6, 6, 6, 6, 6, 6, 6, 6, 6, 6, 6, 6, 6, 6, 6, 6, 6, 6, 6, 6, 6, 6, 6, 6, 6, 6, 6, 6, 7, 7, 7, 7, 7, 7, 7, 7, 7, 7, 7, 7, 7, 7, 7, 7, 7, 7, 7, 7, 7, 7, 7, 7, 7, 7, 7, 7, 7, 7, 7, 7, 7, 7, 7, 7, 7, 7, 7, 7, 7, 7, 7, 7, 7, 7, 7, 7, 7, 7, 7, 7, 7, 7, 7, 7, 7, 7, 7, 7, 7, 7, 7, 7, 8, 8, 8, 8, 8, 8, 8, 8, 8, 8, 8, 8, 8, 8, 8, 8, 8, 8, 8, 8, 8, 8, 8, 8, 8, 8, 8, 8, 8, 8, 8, 8, 8, 8, 8, 8, 8, 8, 8, 8, 8, 8, 8, 8, 8, 8, 8, 8, 8, 8, 8, 8, 8, 8, 8, 8, 8, 8, 8, 8, 8, 8, 8, 8, 8, 8, 8, 8, 8, 8, 8, 8, 8, 8, 8, 8, 8, 8, 8, 8, 8, 8, 8, 8, 8, 8, 8, 8, 8, 8, 8, 8, 8, 8, 8, 8, 8, 8, 8, 8, 8, 8, 8, 8, 8, 8, 8, 8, 8, 8, 8, 8, 8, 8, 8, 8, 8, 8, 8, 8, 8, 8, 8, 8, 8, 8, 8, 8])) (.t 21)⟩,
    ⟨some 23, none, .conv (.int .i64) (.t 22)⟩,
    ⟨some 24, none, .bin false .add (.t 19) (.t 23)⟩,
    ⟨some 2, none, .mv (.t 24)⟩])
  (.ret)))))) false false
theorem mk178 : cFun Try.prog false false Try.f178 = some ir178 := by kernel_rfl
def L179_0 : C := (
  .seq (.reg [⟨some 21, none, .bin false .lss (.t 20) (.t 19)⟩])
  (.seq (.cond (.t 21) (.skip)
    (.exit 0))
  (.seq (.block 1 (.seq (.reg [⟨some 22, none, .iaddrL 2 (.t 18) (.t 20)⟩,
      ⟨some 23, none, .load true 2 (.t 22)⟩,
      ⟨some 9, none, .alloc [.int .i64 0, .bool false]⟩,
      ⟨none, none, .store 2 (.t 9) (.t 23)⟩])
    (.seq (.reg [⟨some 24, none, .faddr 0 (.t 9)⟩,
      ⟨some 25, none, .load false 1 (.t 24)⟩,
      ⟨some 26, none, .faddr 0 (.t 3)⟩,
      ⟨some 27, none, .load false 1 (.t 26)⟩,
      ⟨some 28, none, .bin false .geq (.t 25) (.t 27)⟩])
    (.cond (.t 28) (.seq (.reg [⟨some 6, none, .mv (.c (.int .i64 6))⟩])
      (.ret))
      (.skip)))))
  (.reg [⟨some 29, none, .bin false .add (.t 20) (.c (.int .i64 1))⟩,
    ⟨some 20, none, .mv (.t 29)⟩]))))
def L179_1 : C := (
  .seq (.reg [⟨some 34, none, .bin false .lss (.t 33) (.t 32)⟩])
  (.seq (.cond (.t 34) (.skip)
    (.exit 2))
  (.seq (.block 3 (.seq (.reg [⟨some 35, none, .iaddrL 2 (.t 31) (.t 33)⟩,
      ⟨some 36, none, .load true 2 (.t 35)⟩,
      ⟨some 11, none, .alloc [.int .i64 0, .bool false]⟩,
      ⟨none, none, .store 2 (.t 11) (.t 36)⟩])
    (.seq (.draw [⟨some 37, none, .faddr 0 (.t 11)⟩,
      ⟨some 38, none, .load false 1 (.t 37)⟩,
      ⟨some 39, none, .iaddrA 6 1 (.t 5) (.t 38)⟩,
      ⟨some 40, none, .load false 1 (.t 39)⟩,
      ⟨some 41, none, .faddr 1 (.t 11)⟩,
      ⟨some 42, none, .load false 1 (.t 41)⟩,
      ⟨some 43, none, .bin true .eql (.t 40) (.t 42)⟩] [])
    (.cond (.t 43) (.seq (.reg [⟨some 6, none, .mv (.c (.int .i64 14))⟩])
      (.ret))
      (.skip)))))
  (.reg [⟨some 44, none, .bin false .add (.t 33) (.c (.int .i64 1))⟩,
    ⟨some 33, none, .mv (.t 44)⟩]))))
def ir179 : Fun := .mk 45 [.t 6] (
  .seq (.reg [⟨some 3, none, .box (.t 0)⟩,
    ⟨some 4, none, .box (.t 1)⟩,
    ⟨some 5, none, .box (.t 2)⟩,
    ⟨some 6, none, .mv (.c (.int .i64 0))⟩])
  (.seq (.seq (.reg [⟨some 12, none, .load true 2 (.t 4)⟩,
    ⟨some 13, none, .call (.c (.fn 197 [] [])) [.t 12]⟩,
    ⟨some 7, none, .mv (.t 13)⟩])
  (.seq (.reg [⟨some 14, none, .mv (.t 7)⟩,
    ⟨some 15, none, .bin false .neq (.t 14) (.c (.int .i64 0))⟩])
  (.cond (.t 15) (.seq (.reg [⟨some 16, none, .mv (.t 7)⟩,
      ⟨some 6, none, .mv (.t 16)⟩])
    (.ret))
    (.skip))))
  (.seq (.seq (.reg [⟨some 17, none, .faddr 0 (.t 4)⟩,
    ⟨some 18, none, .load false 1 (.t 17)⟩,
    ⟨some 19, none, .len false (.t 18)⟩,
    ⟨some 20, none, .mv (.c (.int .i64 0))⟩])
  (.block 0 (.loop L179_0)))
  (.seq (.seq (.reg [⟨some 30, none, .faddr 0 (.t 4)⟩,
    ⟨some 31, none, .load false 1 (.t 30)⟩,
    ⟨some 32, none, .len false (.t 31)⟩,
    ⟨some 33, none, .mv (.c (.int .i64 0))⟩])
  (.block 2 (.loop L179_1)))
  (.seq (.reg [⟨some 6, none, .mv (.c (.int .i64 0))⟩])
  (.ret)))))) false false
theorem mk179 : cFun Try.prog false false Try.f179 = some ir179 := by kernel_rfl
def L180_0 : C := (
  .seq (.reg [⟨some 11, none, .bin false .lss (.t 10) (.t 9)⟩])
  (.seq (.cond (.t 11) (.skip)
    (.exit 0))
  (.seq (.block 1 (.seq (.reg [⟨some 12, none, .iaddrL 2 (.t 8) (.t 10)⟩,
      ⟨some 13, none, .load true 2 (.t 12)⟩,
      ⟨some 6, none, .alloc [.int .i64 0, .bool false]⟩,
      ⟨none, none, .store 2 (.t 6) (.t 13)⟩])
    (.reg [⟨some 14, none, .faddr 0 (.t 6)⟩,
      ⟨some 15, none, .load false 1 (.t 14)⟩,
      ⟨some 16, none, .faddr 1 (.t 6)⟩,
      ⟨some 17, none, .load false 1 (.t 16)⟩,
      ⟨some 18, none, .iaddrA 6 1 (.t 2) (.t 15)⟩,
      ⟨none, none, .store 1 (.t 18) (.t 17)⟩])))
  (.reg [⟨some 19, none, .bin false .add (.t 10) (.c (.int .i64 1))⟩,
    ⟨some 10, none, .mv (.t 19)⟩]))))
def ir180 : Fun := .mk 21 [.cell 4 true 6] (
  .seq (.reg [⟨some 2, none, .box (.t 0)⟩,
    ⟨some 3, none, .box (.t 1)⟩,
    ⟨some 4, none, .alloc [.bool false, .bool false, .bool false, .bool false, .bool false, .bool false]⟩])
  (.seq (.seq (.reg [⟨some 7, none, .faddr 0 (.t 3)⟩,
    ⟨some 8, none, .load false 1 (.t 7)⟩,
    ⟨some 9, none, .len false (.t 8)⟩,
    ⟨some 10, none, .mv (.c (.int .i64 0))⟩])
  (.block 0 (.loop L180_0)))
  (.seq (.reg [⟨some 20, none, .load true 6 (.t 2)⟩,
    ⟨none, none, .store 6 (.t 4) (.t 20)⟩])
  (.ret)))) false false
theorem mk180 : cFun Try.prog false false Try.f180 = some ir180 := by kernel_rfl
def ir181 : Fun := .mk 9 [.t 4] (
  .seq (.reg [⟨some 4, none, .mv (.c (.bool false))⟩])
  (.seq (.reg [⟨some 5, none, .mv (.t 0)⟩,
    ⟨some 6, none, .mv (.t 1)⟩,
    ⟨some 7, none, .call (.c (.fn 198 [] [])) [.t 5, .t 6]⟩,
    ⟨some 8, none, .bin false .geq (.t 7) (.c (.int .i64 0))⟩,
    ⟨some 4, none, .mv (.t 8)⟩])
  (.ret))) false true
theorem mk181 : cFun Try.prog false true Try.f181 = some ir181 := by kernel_rfl
def L182_0 : C := (
  .seq (.reg [⟨some 9, none, .bin false .lss (.t 8) (.t 7)⟩])
  (.seq (.cond (.t 9) (.skip)
    (.exit 2))
  (.seq (.block 3 (.seq (.reg [⟨some 10, none, .iaddrL 2 (.t 6) (.t 8)⟩,
      ⟨some 11, none, .load true 2 (.t 10)⟩,
      ⟨some 4, none, .alloc [.nils, .int .i64 0]⟩,
      ⟨none, none, .store 2 (.t 4) (.t 11)⟩])
    (.seq (.reg [⟨some 12, none, .mv (.t 0)⟩,
      ⟨some 13, none, .faddr 0 (.t 4)⟩,
      ⟨some 14, none, .load false 1 (.t 13)⟩,
      ⟨some 15, none, .call (.t 12) [.t 14]⟩,
      ⟨some 16, none, .un .not (.t 15)⟩])
    (.cond (.t 16) (.ret)
      (.skip)))))
  (.reg [⟨some 17, none, .bin false .add (.t 8) (.c (.int .i64 1))⟩,
    ⟨some 8, none, .mv (.t 17)⟩]))))
def L182_1 : C := (
  .block 1 (.seq (.reg [⟨some 5, none, .faddr 1 (.t 1)⟩,
      ⟨some 6, none, .load false 1 (.t 5)⟩,
      ⟨some 7, none, .len false (.t 6)⟩,
      ⟨some 8, none, .mv (.c (.int .i64 0))⟩])
    (.block 2 (.loop L182_0))))
def ir182 : Fun := .mk 18 [] (
  .block 0 (.loop L182_1)) false false
theorem mk182 : cFun Try.prog false false Try.f182 = some ir182 := by kernel_rfl
def ir183 : Fun := .mk 5 [.t 2] (
  .seq (.reg [⟨some 2, none, .mv (.c (.nils))⟩])
  (.seq (.reg [⟨some 3, none, .mv (.t 0)⟩,
    ⟨some 4, none, .call (.c (.fn 199 [] [])) [.c (.nils), .t 3]⟩,
    ⟨some 2, none, .mv (.t 4)⟩])
  (.ret))) true false
theorem mk183 : cFun Try.prog true false Try.f183 = some ir183 := by kernel_rfl
def L184_0 : C := (
  .seq (.reg [⟨some 8, none, .bin false .lss (.t 7) (.t 6)⟩])
  (.seq (.cond (.t 8) (.skip)
    (.exit 0))
  (.seq (.block 1 (.seq (.reg [⟨some 9, none, .iaddrL 2 (.t 5) (.t 7)⟩,
      ⟨some 10, none, .load true 2 (.t 9)⟩,
      ⟨some 4, none, .alloc [.int .i64 0, .bool false]⟩,
      ⟨none, none, .store 2 (.t 4) (.t 10)⟩])
    (.seq (.reg [⟨some 11, none, .mv (.t 0)⟩,
      ⟨some 12, none, .load true 2 (.t 4)⟩,
      ⟨some 13, none, .call (.t 11) [.t 12]⟩,
      ⟨some 14, none, .un .not (.t 13)⟩])
    (.cond (.t 14) (.ret)
      (.skip)))))
  (.reg [⟨some 15, none, .bin false .add (.t 7) (.c (.int .i64 1))⟩,
    ⟨some 7, none, .mv (.t 15)⟩]))))
def ir184 : Fun := .mk 16 [] (
  .seq (.reg [⟨some 5, none, .load false 1 (.t 1)⟩,
    ⟨some 6, none, .len false (.t 5)⟩,
    ⟨some 7, none, .mv (.c (.int .i64 0))⟩])
  (.block 0 (.loop L184_0))) false false
theorem mk184 : cFun Try.prog false false Try.f184 = some ir184 := by kernel_rfl
def ir191 : Fun := .mk 9 [.t 2] (
  .seq (.reg [⟨some 2, none, .mv (.c (.bool false))⟩])
  (.seq (.reg [⟨some 3, none, .mv (.t 0)⟩,
    ⟨some 4, none, .bin false .geq (.t 3) (.c (.int .i64 0))⟩,
    ⟨some 5, none, .mv (.t 4)⟩,
    ⟨some 6, some (5, true), .mv (.t 0)⟩,
    ⟨some 7, some (5, true), .bin false .leq (.t 6) (.c (.int .i64 1000000))⟩,
    ⟨some 8, none, .pick (.t 5) (.t 7) (.c (.bool false))⟩,
    ⟨some 2, none, .mv (.t 8)⟩])
  (.ret))) false false
theorem mk191 : cFun Try.prog false false Try.f191 = some ir191 := by kernel_rfl
def L197_0 : C := (
  .seq (.reg [⟨some 20, none, .bin false .lss (.t 19) (.t 18)⟩])
  (.seq (.cond (.t 20) (.skip)
    (.exit 1))
  (.seq (.block 2 (.seq (.reg [⟨some 21, none, .iaddrL 2 (.t 17) (.t 19)⟩,
      ⟨some 22, none, .load true 2 (.t 21)⟩,
      ⟨some 6, none, .alloc [.int .i64 0, .bool false]⟩,
      ⟨none, none, .store 2 (.t 6) (.t 22)⟩])
    (.seq (.block 3 (.seq (.reg [⟨some 24, none, .faddr 0 (.t 6)⟩,
        ⟨some 25, none, .load false 1 (.t 24)⟩,
        ⟨some 26, none, .call (.c (.fn 164 [] [])) [.t 25]⟩,
        ⟨some 27, none, .un .not (.t 26)⟩,
        ⟨some 23, none, .mv (.t 27)⟩])
      (.cond (.t 23) (.seq (.reg [⟨some 2, none, .mv (.c (.int .i64 2))⟩])
        (.ret))
        (.seq (.reg [⟨some 29, none, .faddr 0 (.t 6)⟩,
          ⟨some 30, none, .load false 1 (.t 29)⟩,
          ⟨some 31, none, .mv (.t 4)⟩,
          ⟨some 32, none, .bin false .eql (.t 30) (.t 31)⟩,
          ⟨some 28, none, .mv (.t 32)⟩])
        (.cond (.t 28) (.seq (.reg [⟨some 2, none, .mv (.c (.int .i64 7))⟩])
          (.ret))
          (.seq (.reg [⟨some 34, none, .faddr 0 (.t 6)⟩,
            ⟨some 35, none, .load false 1 (.t 34)⟩,
            ⟨some 36, none, .mv (.t 4)⟩,
            ⟨some 37, none, .bin false .lss (.t 35) (.t 36)⟩,
            ⟨some 33, none, .mv (.t 37)⟩])
          (.cond (.t 33) (.seq (.reg [⟨some 2, none, .mv (.c (.int .i64 9))⟩])
            (.ret))
            (.skip))))))))
    (.reg [⟨some 38, none, .faddr 0 (.t 6)⟩,
      ⟨some 39, none, .load false 1 (.t 38)⟩,
      ⟨some 4, none, .mv (.t 39)⟩]))))
  (.reg [⟨some 40, none, .bin false .add (.t 19) (.c (.int .i64 1))⟩,
    ⟨some 19, none, .mv (.t 40)⟩]))))
def ir197 : Fun := .mk 49 [.t 2] (
  .seq (.reg [⟨some 1, none, .box (.t 0)⟩,
    ⟨some 2, none, .mv (.c (.int .i64 0))⟩])
  (.seq (.seq (.reg [⟨some 7, none, .faddr 0 (.t 1)⟩,
    ⟨some 8, none, .load false 1 (.t 7)⟩,
    ⟨some 9, none, .len false (.t 8)⟩,
    ⟨some 3, none, .mv (.t 9)⟩])
  (.block 0 (.seq (.reg [⟨some 11, none, .mv (.t 3)⟩,
      ⟨some 12, none, .bin false .eql (.t 11) (.c (.int .i64 0))⟩,
      ⟨some 10, none, .mv (.t 12)⟩])
    (.cond (.t 10) (.seq (.reg [⟨some 2, none, .mv (.c (.int .i64 13))⟩])
      (.ret))
      (.seq (.reg [⟨some 14, none, .mv (.t 3)⟩,
        ⟨some 15, none, .bin false .gtr (.t 14) (.c (.int .i64 6))⟩,
        ⟨some 13, none, .mv (.t 15)⟩])
      (.cond (.t 13) (.seq (.reg [⟨some 2, none, .mv (.c (.int .i64 5))⟩])
        (.ret))
        (.skip)))))))
  (.seq (.reg [⟨some 4, none, .mv (.c (.int .i64 (-1)))⟩])
  (.seq (.seq (.reg [⟨some 16, none, .faddr 0 (.t 1)⟩,
    ⟨some 17, none, .load false 1 (.t 16)⟩,
    ⟨some 18, none, .len false (.t 17)⟩,
    ⟨some 19, none, .mv (.c (.int .i64 0))⟩])
  (.block 1 (.loop L197_0)))
  (.seq (.seq (.reg [⟨some 41, none, .faddr 1 (.t 1)⟩,
    ⟨some 42, none, .load false 1 (.t 41)⟩,
    ⟨some 43, none, .bin false .lss (.t 42) (.c (.int .i64 0))⟩,
    ⟨some 44, none, .mv (.t 43)⟩,
    ⟨some 45, some (44, false), .faddr 1 (.t 1)⟩,
    ⟨some 46, some (44, false), .load false 1 (.t 45)⟩,
    ⟨some 47, some (44, false), .bin false .gtr (.t 46) (.c (.int .i64 1000000))⟩,
    ⟨some 48, none, .pick (.t 44) (.c (.bool true)) (.t 47)⟩])
  (.cond (.t 48) (.seq (.reg [⟨some 2, none, .mv (.c (.int .i64 2))⟩])
    (.ret))
    (.skip)))
  (.seq (.reg [⟨some 2, none, .mv (.c (.int .i64 0))⟩])
  (.ret))))))) false false
theorem mk197 : cFun Try.prog false false Try.f197 = some ir197 := by kernel_rfl
def L198_0 : C := (
  .seq (.reg [⟨some 9, none, .bin false .lss (.t 8) (.t 7)⟩])
  (.seq (.cond (.t 9) (.skip)
    (.exit 0))
  (.seq (.block 1 (.seq (.reg [⟨some 10, none, .mv (.t 8)⟩,
      ⟨some 5, none, .mv (.t 10)⟩])
    (.seq (.reg [⟨some 11, none, .mv (.t 1)⟩,
      ⟨some 12, none, .mv (.t 0)⟩,
      ⟨some 13, none, .mv (.t 5)⟩,
      ⟨some 14, none, .iaddrL 1 (.t 12) (.t 13)⟩,
      ⟨some 15, none, .load false 1 (.t 14)⟩,
      ⟨some 16, none, .bin true .eql (.t 11) (.t 15)⟩])
    (.cond (.t 16) (.seq (.reg [⟨some 17, none, .mv (.t 5)⟩,
        ⟨some 4, none, .mv (.t 17)⟩])
      (.ret))
      (.skip)))))
  (.reg [⟨some 18, none, .bin false .add (.t 8) (.c (.int .i64 1))⟩,
    ⟨some 8, none, .mv (.t 18)⟩]))))
def ir198 : Fun := .mk 19 [.t 4] (
  .seq (.reg [⟨some 4, none, .mv (.c (.int .i64 0))⟩])
  (.seq (.seq (.reg [⟨some 6, none, .mv (.t 0)⟩,
    ⟨some 7, none, .len false (.t 6)⟩,
    ⟨some 8, none, .mv (.c (.int .i64 0))⟩])
  (.block 0 (.loop L198_0)))
  (.seq (.reg [⟨some 4, none, .mv (.c (.int .i64 (-1)))⟩])
  (.ret)))) false true
theorem mk198 : cFun Try.prog false true Try.f198 = some ir198 := by kernel_rfl
def L199_0 : C := (
  .reg [⟨some 5, none, .alloc [.int .i64 0, .bool false]⟩,
    ⟨none, none, .store 2 (.t 5) (.t 7)⟩])
def L199_1 : C := (
  .block 1 (.reg [⟨some 8, none, .load false 1 (.t 2)⟩,
      ⟨some 9, none, .load true 2 (.t 5)⟩,
      ⟨some 10, none, .bslice false 2 [.int .i64 0, .bool false] 1 [(0, (.t 9))]⟩,
      ⟨some 11, none, .app 2 16 (.t 8) (.t 10)⟩,
      ⟨none, none, .store 1 (.t 2) (.t 11)⟩]))
def ir199 : Fun := .mk 13 [.t 4] (
  .seq (.reg [⟨some 2, none, .box (.t 0)⟩,
    ⟨some 4, none, .mv (.c (.nils))⟩])
  (.seq (.seq (.reg [⟨some 6, none, .mv (.t 1)⟩])
  (.block 0 (.range (.t 6) [7] L199_0 L199_1)))
  (.seq (.reg [⟨some 12, none, .load false 1 (.t 2)⟩,
    ⟨some 4, none, .mv (.t 12)⟩])
  (.ret)))) true true
theorem mk199 : cFun Try.prog true true Try.f199 = some ir199 := by kernel_rfl
end Go.Proofs.Ytopjiafdimoeiaa
