/- Functions,as Am runs them (printed by Show). -/
import Derived.Test.YtopjiafdimoeiaaGreatEn6
import Derived.Test.YtopjiafdimoeiaaGreatProg
import Derived.KernelRfl
namespace Go.Proofs.YtopjiafdimoeiaaGreat
open Go Go.Am Go.Proofs
set_option maxRecDepth 100000
def ir5 : Fun := .mk 115 [.t 6] (
 .seq (.reg [⟨some 3,none,.box (.t 0)⟩,
 ⟨some 5,none,.box (.t 2)⟩,
 ⟨some 6,none,.mv (.c (.bool false))⟩])
 (.seq (.reg [⟨some 15,none,.mv (.t 1)⟩,
 ⟨some 16,none,.build [.int .i64 0,.int .i64 0] [(0,1,(.c (.int .i64 3))),(1,1,(.t 15))]⟩,
 ⟨some 7,none,.alloc [.int .i64 0,.int .i64 0]⟩,
 ⟨none,none,.store 2 (.t 7) (.t 16)⟩])
 (.seq (.seq (.reg [⟨some 17,none,.load true 5 (.t 3)⟩,
 ⟨some 18,none,.load true 5 (.t 5)⟩,
 ⟨some 19,none,.call (.c (.fn 13 [] [])) [.t 17,.t 18]⟩,
 ⟨some 20,none,.un .not (.t 19)⟩,
 ⟨some 21,none,.mv (.t 20)⟩,
 ⟨some 22,some (21,false),.load true 5 (.t 3)⟩,
 ⟨some 23,some (21,false),.load true 2 (.t 7)⟩,
 ⟨some 24,some (21,false),.call (.c (.fn 17 [] [])) [.t 22,.t 23]⟩,
 ⟨some 25,some (21,false),.un .not (.t 24)⟩,
 ⟨some 26,none,.pick (.t 21) (.c (.bool true)) (.t 25)⟩,
 ⟨some 27,none,.mv (.t 26)⟩,
 ⟨some 28,some (27,false),.load true 5 (.t 3)⟩,
 ⟨some 29,some (27,false),.load true 5 (.t 5)⟩,
 ⟨some 30,some (27,false),.call (.c (.fn 18 [] [])) [.t 28,.t 29]⟩,
 ⟨some 31,some (27,false),.bin false .neq (.t 30) (.c (.int .i64 0))⟩,
 ⟨some 32,none,.pick (.t 27) (.c (.bool true)) (.t 31)⟩])
 (.cond (.t 32) (.seq (.reg [⟨some 33,none,.call (.c (.fn 7 [] [])) []⟩,
 ⟨some 6,none,.mv (.t 33)⟩])
 (.ret))
 (.skip)))
 (.seq (.reg [⟨some 35,none,.load true 5 (.t 3)⟩,
 ⟨some 36,none,.load true 5 (.t 5)⟩,
 ⟨some 37,none,.call (.c (.fn 19 [] [])) [.t 35,.t 36]⟩,
 ⟨some 34,none,.mv (.t 37)⟩,
 ⟨some 38,none,.ext 0 (.t 34)⟩,
 ⟨some 39,none,.ext 1 (.t 34)⟩,
 ⟨some 8,none,.alloc [.nils,.nils,.nils,.nils,.nils]⟩,
 ⟨none,none,.store 5 (.t 8) (.t 38)⟩,
 ⟨some 9,none,.mv (.t 39)⟩])
 (.seq (.reg [⟨some 41,none,.load true 5 (.t 3)⟩,
 ⟨some 42,none,.load true 5 (.t 8)⟩,
 ⟨some 43,none,.mv (.t 1)⟩,
 ⟨some 44,none,.call (.c (.fn 20 [] [])) [.t 41,.t 42,.t 43]⟩,
 ⟨some 40,none,.mv (.t 44)⟩,
 ⟨some 45,none,.ext 0 (.t 40)⟩,
 ⟨some 46,none,.ext 1 (.t 40)⟩,
 ⟨some 10,none,.mv (.t 45)⟩,
 ⟨some 11,none,.mv (.t 46)⟩])
 (.seq (.seq (.reg [⟨some 47,none,.mv (.t 9)⟩,
 ⟨some 48,none,.bin false .neq (.t 47) (.c (.int .i64 0))⟩,
 ⟨some 49,none,.mv (.t 48)⟩,
 ⟨some 50,some (49,false),.mv (.t 11)⟩,
 ⟨some 51,some (49,false),.bin false .neq (.t 50) (.c (.int .i64 0))⟩,
 ⟨some 52,none,.pick (.t 49) (.c (.bool true)) (.t 51)⟩])
 (.cond (.t 52) (.seq (.reg [⟨some 6,none,.mv (.c (.bool false))⟩])
 (.ret))
 (.skip)))
 (.seq (.seq (.reg [⟨some 53,none,.mv (.t 10)⟩])
 (.cond (.t 53) (.reg [⟨some 54,none,.faddr 0 (.t 7)⟩,
 ⟨none,none,.store 1 (.t 54) (.c (.int .i64 2))⟩])
 (.skip)))
 (.seq (.reg [⟨some 56,none,.load true 5 (.t 3)⟩,
 ⟨some 57,none,.load true 2 (.t 7)⟩,
 ⟨some 58,none,.call (.c (.fn 8 [] [])) [.t 56,.t 57]⟩,
 ⟨some 55,none,.mv (.t 58)⟩,
 ⟨some 59,none,.ext 0 (.t 55)⟩,
 ⟨some 60,none,.ext 1 (.t 55)⟩,
 ⟨some 12,none,.alloc [.int .i64 0,.nils,.nils,.nils,.nils]⟩,
 ⟨none,none,.store 5 (.t 12) (.t 59)⟩,
 ⟨some 9,none,.mv (.t 60)⟩])
 (.seq (.reg [⟨some 62,none,.load true 5 (.t 3)⟩,
 ⟨some 63,none,.load true 2 (.t 7)⟩,
 ⟨some 64,none,.load true 5 (.t 8)⟩,
 ⟨some 65,none,.call (.c (.fn 14 [] [])) [.t 62,.t 63,.t 64]⟩,
 ⟨some 61,none,.mv (.t 65)⟩,
 ⟨some 66,none,.ext 0 (.t 61)⟩,
 ⟨some 67,none,.ext 1 (.t 61)⟩,
 ⟨some 13,none,.alloc [.nils,.nils,.nils,.nils,.nils]⟩,
 ⟨none,none,.store 5 (.t 13) (.t 66)⟩,
 ⟨some 11,none,.mv (.t 67)⟩])
 (.seq (.seq (.reg [⟨some 68,none,.mv (.t 9)⟩,
 ⟨some 69,none,.bin false .neq (.t 68) (.c (.int .i64 0))⟩,
 ⟨some 70,none,.mv (.t 69)⟩,
 ⟨some 71,some (70,false),.mv (.t 11)⟩,
 ⟨some 72,some (70,false),.bin false .neq (.t 71) (.c (.int .i64 0))⟩,
 ⟨some 73,none,.pick (.t 70) (.c (.bool true)) (.t 72)⟩])
 (.cond (.t 73) (.seq (.reg [⟨some 74,none,.mv (.t 9)⟩,
 ⟨some 75,none,.mv (.t 11)⟩,
 ⟨some 76,none,.bin false .eql (.t 74) (.t 75)⟩,
 ⟨some 77,none,.mv (.t 76)⟩,
 ⟨some 78,some (77,true),.mv (.t 9)⟩,
 ⟨some 79,some (77,true),.bin false .eql (.t 78) (.c (.int .i64 12))⟩,
 ⟨some 80,none,.pick (.t 77) (.t 79) (.c (.bool false))⟩,
 ⟨some 81,none,.mv (.t 80)⟩,
 ⟨some 82,some (81,true),.call (.c (.fn 7 [] [])) []⟩,
 ⟨some 83,none,.pick (.t 81) (.t 82) (.c (.bool false))⟩,
 ⟨some 6,none,.mv (.t 83)⟩])
 (.ret))
 (.skip)))
 (.seq (.reg [⟨some 85,none,.load true 5 (.t 12)⟩,
 ⟨some 86,none,.load true 5 (.t 13)⟩,
 ⟨some 87,none,.call (.c (.fn 19 [] [])) [.t 85,.t 86]⟩,
 ⟨some 84,none,.mv (.t 87)⟩,
 ⟨some 88,none,.ext 0 (.t 84)⟩,
 ⟨some 89,none,.ext 1 (.t 84)⟩,
 ⟨some 14,none,.alloc [.nils,.nils,.nils,.nils,.nils]⟩,
 ⟨none,none,.store 5 (.t 14) (.t 88)⟩,
 ⟨some 9,none,.mv (.t 89)⟩])
 (.seq (.draw [⟨some 90,none,.mv (.t 9)⟩,
 ⟨some 91,none,.bin false .eql (.t 90) (.c (.int .i64 0))⟩,
 ⟨some 92,none,.mv (.t 91)⟩,
 ⟨some 93,some (92,true),.faddr 3 (.t 14)⟩,
 ⟨some 94,some (92,true),.load false 1 (.t 93)⟩,
 ⟨some 95,some (92,true),.len false (.t 94)⟩,
 ⟨some 96,some (92,true),.faddr 3 (.t 8)⟩,
 ⟨some 97,some (92,true),.load false 1 (.t 96)⟩,
 ⟨some 98,some (92,true),.len false (.t 97)⟩,
 ⟨some 99,some (92,true),.bin false .geq (.t 95) (.t 98)⟩,
 ⟨some 100,none,.pick (.t 92) (.t 99) (.c (.bool false))⟩,
 ⟨some 101,none,.mv (.t 100)⟩,
 ⟨some 102,some (101,true),.faddr 3 (.t 14)⟩,
 ⟨some 103,some (101,true),.load false 1 (.t 102)⟩,
 ⟨some 104,some (101,true),.faddr 3 (.t 8)⟩,
 ⟨some 105,some (101,true),.load false 1 (.t 104)⟩,
 ⟨some 106,some (101,true),.len false (.t 105)⟩,
 ⟨some 107,some (101,true),.slcL 1 (.t 103) none (some (.t 106)) none⟩,
 ⟨some 108,some (101,true),.faddr 3 (.t 8)⟩,
 ⟨some 109,some (101,true),.load false 1 (.t 108)⟩,
 ⟨some 110,some (101,true),.call (.c (.fn 21 [] [])) [.t 107,.t 109]⟩,
 ⟨some 111,none,.pick (.t 101) (.t 110) (.c (.bool false))⟩,
 ⟨some 112,none,.mv (.t 111)⟩,
 ⟨some 113,some (112,true),.call (.c (.fn 7 [] [])) []⟩,
 ⟨some 114,none,.pick (.t 112) (.t 113) (.c (.bool false))⟩,
 ⟨some 6,none,.mv (.t 114)⟩] [])
 (.ret))))))))))))) false false
theorem mk5 : cFun Tryz.prog false false Tryz.f5 = some ir5 := by kernel_rfl
def L6_0 : C := (
 .seq (.seq (.reg [⟨some 40,none,.mv (.t 3)⟩,
 ⟨some 41,none,.faddr 1 (.t 1)⟩,
 ⟨some 42,none,.load false 1 (.t 41)⟩,
 ⟨some 43,none,.len false (.t 42)⟩,
 ⟨some 44,none,.bin false .lss (.t 40) (.t 43)⟩])
 (.cond (.t 44) (.skip)
 (.exit 0)))
 (.seq (.block 1 (.seq (.reg [⟨some 47,none,.faddr 1 (.t 1)⟩,
 ⟨some 48,none,.load false 1 (.t 47)⟩,
 ⟨some 49,none,.mv (.t 3)⟩,
 ⟨some 50,none,.iaddrL 1 (.t 48) (.t 49)⟩,
 ⟨some 51,none,.load false 1 (.t 50)⟩,
 ⟨some 52,none,.len true (.t 51)⟩,
 ⟨some 53,none,.bin false .gtr (.t 52) (.c (.int .i64 200))⟩])
 (.cond (.t 53) (.seq (.reg [⟨some 2,none,.mv (.c (.bool false))⟩])
 (.ret))
 (.skip))))
 (.reg [⟨some 45,none,.mv (.t 3)⟩,
 ⟨some 46,none,.bin false .add (.t 45) (.c (.int .i64 1))⟩,
 ⟨some 3,none,.mv (.t 46)⟩])))
def L6_1 : C := (
 .seq (.seq (.reg [⟨some 54,none,.mv (.t 4)⟩,
 ⟨some 55,none,.faddr 2 (.t 1)⟩,
 ⟨some 56,none,.load false 1 (.t 55)⟩,
 ⟨some 57,none,.len false (.t 56)⟩,
 ⟨some 58,none,.bin false .lss (.t 54) (.t 57)⟩])
 (.cond (.t 58) (.skip)
 (.exit 2)))
 (.seq (.block 3 (.seq (.reg [⟨some 61,none,.faddr 2 (.t 1)⟩,
 ⟨some 62,none,.load false 1 (.t 61)⟩,
 ⟨some 63,none,.mv (.t 4)⟩,
 ⟨some 64,none,.iaddrL 10 (.t 62) (.t 63)⟩,
 ⟨some 65,none,.load true 10 (.t 64)⟩,
 ⟨some 5,none,.alloc [.str [],.int .i64 0,.int .i64 0,.int .i64 0,.nils,.int .i64 0,.int .i64 0,.nils,.int .i64 0,.bool false]⟩,
 ⟨none,none,.store 10 (.t 5) (.t 65)⟩])
 (.seq (.reg [⟨some 66,none,.faddr 0 (.t 5)⟩,
 ⟨some 67,none,.load false 1 (.t 66)⟩,
 ⟨some 68,none,.len true (.t 67)⟩,
 ⟨some 69,none,.bin false .gtr (.t 68) (.c (.int .i64 200))⟩,
 ⟨some 70,none,.mv (.t 69)⟩,
 ⟨some 71,some (70,false),.faddr 2 (.t 5)⟩,
 ⟨some 72,some (70,false),.load true 3 (.t 71)⟩,
 ⟨some 73,some (70,false),.call (.c (.fn 22 [] [])) [.t 72]⟩,
 ⟨some 74,some (70,false),.un .not (.t 73)⟩,
 ⟨some 75,none,.pick (.t 70) (.c (.bool true)) (.t 74)⟩,
 ⟨some 76,none,.mv (.t 75)⟩,
 ⟨some 77,some (76,false),.faddr 5 (.t 5)⟩,
 ⟨some 78,some (76,false),.load true 3 (.t 77)⟩,
 ⟨some 79,some (76,false),.call (.c (.fn 22 [] [])) [.t 78]⟩,
 ⟨some 80,some (76,false),.un .not (.t 79)⟩,
 ⟨some 81,none,.pick (.t 76) (.c (.bool true)) (.t 80)⟩])
 (.cond (.t 81) (.seq (.reg [⟨some 2,none,.mv (.c (.bool false))⟩])
 (.ret))
 (.skip)))))
 (.reg [⟨some 59,none,.mv (.t 4)⟩,
 ⟨some 60,none,.bin false .add (.t 59) (.c (.int .i64 1))⟩,
 ⟨some 4,none,.mv (.t 60)⟩])))
def ir6 : Fun := .mk 82 [.t 2] (
 .seq (.reg [⟨some 1,none,.box (.t 0)⟩,
 ⟨some 2,none,.mv (.c (.bool false))⟩])
 (.seq (.seq (.reg [⟨some 6,none,.faddr 1 (.t 1)⟩,
 ⟨some 7,none,.load false 1 (.t 6)⟩,
 ⟨some 8,none,.len false (.t 7)⟩,
 ⟨some 9,none,.bin false .gtr (.t 8) (.c (.int .i64 32))⟩,
 ⟨some 10,none,.mv (.t 9)⟩,
 ⟨some 11,some (10,false),.faddr 2 (.t 1)⟩,
 ⟨some 12,some (10,false),.load false 1 (.t 11)⟩,
 ⟨some 13,some (10,false),.len false (.t 12)⟩,
 ⟨some 14,some (10,false),.bin false .gtr (.t 13) (.c (.int .i64 16))⟩,
 ⟨some 15,some (10,false),.mv (.t 14)⟩,
 ⟨some 16,some (15,true),.faddr 2 (.t 1)⟩,
 ⟨some 17,some (15,true),.load false 1 (.t 16)⟩,
 ⟨some 18,some (15,true),.len false (.t 17)⟩,
 ⟨some 19,some (15,true),.bin false .leq (.t 18) (.c (.int .i64 64))⟩,
 ⟨some 20,some (10,false),.pick (.t 15) (.t 19) (.c (.bool false))⟩,
 ⟨some 21,none,.pick (.t 10) (.c (.bool true)) (.t 20)⟩,
 ⟨some 22,none,.mv (.t 21)⟩,
 ⟨some 23,some (22,false),.faddr 2 (.t 1)⟩,
 ⟨some 24,some (22,false),.load false 1 (.t 23)⟩,
 ⟨some 25,some (22,false),.len false (.t 24)⟩,
 ⟨some 26,some (22,false),.bin false .gtr (.t 25) (.c (.int .i64 128))⟩,
 ⟨some 27,none,.pick (.t 22) (.c (.bool true)) (.t 26)⟩,
 ⟨some 28,none,.mv (.t 27)⟩,
 ⟨some 29,some (28,false),.faddr 3 (.t 1)⟩,
 ⟨some 30,some (28,false),.load false 1 (.t 29)⟩,
 ⟨some 31,some (28,false),.len false (.t 30)⟩,
 ⟨some 32,some (28,false),.bin false .gtr (.t 31) (.c (.int .i64 40))⟩,
 ⟨some 33,none,.pick (.t 28) (.c (.bool true)) (.t 32)⟩,
 ⟨some 34,none,.mv (.t 33)⟩,
 ⟨some 35,some (34,false),.faddr 4 (.t 1)⟩,
 ⟨some 36,some (34,false),.load false 1 (.t 35)⟩,
 ⟨some 37,some (34,false),.len false (.t 36)⟩,
 ⟨some 38,some (34,false),.bin false .gtr (.t 37) (.c (.int .i64 40))⟩,
 ⟨some 39,none,.pick (.t 34) (.c (.bool true)) (.t 38)⟩])
 (.cond (.t 39) (.seq (.reg [⟨some 2,none,.mv (.c (.bool false))⟩])
 (.ret))
 (.skip)))
 (.seq (.seq (.reg [⟨some 3,none,.mv (.c (.int .i64 0))⟩])
 (.block 0 (.loop L6_0)))
 (.seq (.seq (.reg [⟨some 4,none,.mv (.c (.int .i64 0))⟩])
 (.block 2 (.loop L6_1)))
 (.seq (.reg [⟨some 2,none,.mv (.c (.bool true))⟩])
 (.ret)))))) false false
theorem mk6 : cFun Tryz.prog false false Tryz.f6 = some ir6 := by kernel_rfl
def ir7 : Fun := .mk 138 [.t 0] (
 .seq (.reg [⟨some 0,none,.mv (.c (.bool false))⟩])
 (.seq (.reg [⟨some 14,none,.call (.c (.fn 23 [] [])) []⟩,
 ⟨some 1,none,.alloc [.int .i64 0,.nils,.nils,.nils,.nils]⟩,
 ⟨none,none,.store 5 (.t 1) (.t 14)⟩])
 (.seq (.reg [⟨some 16,none,.load true 5 (.t 1)⟩,
 ⟨some 17,none,.call (.c (.fn 24 [] [])) [.t 16]⟩,
 ⟨some 15,none,.mv (.t 17)⟩,
 ⟨some 18,none,.ext 0 (.t 15)⟩,
 ⟨some 19,none,.ext 1 (.t 15)⟩,
 ⟨some 2,none,.mv (.t 18)⟩,
 ⟨some 3,none,.mv (.t 19)⟩])
 (.seq (.reg [⟨some 21,none,.load true 5 (.t 1)⟩,
 ⟨some 22,none,.build [.int .i64 0,.int .i64 0] [(0,1,(.c (.int .i64 2))),(1,1,(.c (.int .i64 2)))]⟩,
 ⟨some 23,none,.call (.c (.fn 8 [] [])) [.t 21,.t 22]⟩,
 ⟨some 20,none,.mv (.t 23)⟩,
 ⟨some 24,none,.ext 0 (.t 20)⟩,
 ⟨some 25,none,.ext 1 (.t 20)⟩,
 ⟨some 4,none,.alloc [.int .i64 0,.nils,.nils,.nils,.nils]⟩,
 ⟨none,none,.store 5 (.t 4) (.t 24)⟩,
 ⟨some 5,none,.mv (.t 25)⟩])
 (.seq (.reg [⟨some 27,none,.load true 5 (.t 1)⟩,
 ⟨some 28,none,.build [.int .i64 0,.int .i64 0] [(0,1,(.c (.int .i64 2))),(1,1,(.c (.int .i64 2)))]⟩,
 ⟨some 29,none,.call (.c (.fn 25 [] [])) [.t 27,.t 28]⟩,
 ⟨some 26,none,.mv (.t 29)⟩,
 ⟨some 30,none,.ext 0 (.t 26)⟩,
 ⟨some 31,none,.ext 1 (.t 26)⟩,
 ⟨some 6,none,.mv (.t 30)⟩,
 ⟨some 7,none,.mv (.t 31)⟩])
 (.seq (.reg [⟨some 33,none,.load true 5 (.t 1)⟩,
 ⟨some 34,none,.build [.int .i64 0,.int .i64 0] [(0,1,(.c (.int .i64 0)))]⟩,
 ⟨some 35,none,.call (.c (.fn 8 [] [])) [.t 33,.t 34]⟩,
 ⟨some 32,none,.mv (.t 35)⟩,
 ⟨some 36,none,.ext 0 (.t 32)⟩,
 ⟨some 37,none,.ext 1 (.t 32)⟩,
 ⟨some 8,none,.alloc [.int .i64 0,.nils,.nils,.nils,.nils]⟩,
 ⟨none,none,.store 5 (.t 8) (.t 36)⟩,
 ⟨some 9,none,.mv (.t 37)⟩])
 (.seq (.reg [⟨some 39,none,.load true 5 (.t 1)⟩,
 ⟨some 40,none,.build [.int .i64 0,.int .i64 0] [(0,1,(.c (.int .i64 0)))]⟩,
 ⟨some 41,none,.call (.c (.fn 25 [] [])) [.t 39,.t 40]⟩,
 ⟨some 38,none,.mv (.t 41)⟩,
 ⟨some 42,none,.ext 0 (.t 38)⟩,
 ⟨some 43,none,.ext 1 (.t 38)⟩,
 ⟨some 10,none,.mv (.t 42)⟩,
 ⟨some 11,none,.mv (.t 43)⟩])
 (.seq (.reg [⟨some 45,none,.load true 5 (.t 1)⟩,
 ⟨some 46,none,.call (.c (.fn 26 [] [])) [.t 45,.c (.str [108,105,110,101,32,117,112,32,102,97,108,115,101])]⟩,
 ⟨some 44,none,.mv (.t 46)⟩,
 ⟨some 47,none,.ext 0 (.t 44)⟩,
 ⟨some 48,none,.ext 1 (.t 44)⟩,
 ⟨some 12,none,.alloc [.int .i64 0,.int .i64 0]⟩,
 ⟨none,none,.store 2 (.t 12) (.t 47)⟩,
 ⟨some 13,none,.mv (.t 48)⟩])
 (.seq (.seq (.reg [⟨some 49,none,.mv (.t 3)⟩,
 ⟨some 50,none,.mv (.t 5)⟩,
 ⟨some 51,none,.bin false .add (.t 49) (.t 50)⟩,
 ⟨some 52,none,.mv (.t 7)⟩,
 ⟨some 53,none,.bin false .add (.t 51) (.t 52)⟩,
 ⟨some 54,none,.mv (.t 9)⟩,
 ⟨some 55,none,.bin false .add (.t 53) (.t 54)⟩,
 ⟨some 56,none,.mv (.t 11)⟩,
 ⟨some 57,none,.bin false .add (.t 55) (.t 56)⟩,
 ⟨some 58,none,.mv (.t 13)⟩,
 ⟨some 59,none,.bin false .add (.t 57) (.t 58)⟩,
 ⟨some 60,none,.bin false .neq (.t 59) (.c (.int .i64 0))⟩,
 ⟨some 61,none,.mv (.t 60)⟩,
 ⟨some 62,some (61,false),.mv (.t 2)⟩,
 ⟨some 63,some (61,false),.len false (.t 62)⟩,
 ⟨some 64,some (61,false),.bin false .neq (.t 63) (.c (.int .i64 14))⟩,
 ⟨some 65,none,.pick (.t 61) (.c (.bool true)) (.t 64)⟩,
 ⟨some 66,none,.mv (.t 65)⟩,
 ⟨some 67,some (66,false),.faddr 2 (.t 4)⟩,
 ⟨some 68,some (66,false),.load false 1 (.t 67)⟩,
 ⟨some 69,some (66,false),.len false (.t 68)⟩,
 ⟨some 70,some (66,false),.bin false .neq (.t 69) (.c (.int .i64 2))⟩,
 ⟨some 71,none,.pick (.t 66) (.c (.bool true)) (.t 70)⟩,
 ⟨some 72,none,.mv (.t 71)⟩,
 ⟨some 73,some (72,false),.faddr 2 (.t 8)⟩,
 ⟨some 74,some (72,false),.load false 1 (.t 73)⟩,
 ⟨some 75,some (72,false),.len false (.t 74)⟩,
 ⟨some 76,some (72,false),.bin false .neq (.t 75) (.c (.int .i64 3))⟩,
 ⟨some 77,none,.pick (.t 72) (.c (.bool true)) (.t 76)⟩])
 (.cond (.t 77) (.seq (.reg [⟨some 0,none,.mv (.c (.bool false))⟩])
 (.ret))
 (.skip)))
 (.seq (.reg [⟨some 78,none,.faddr 2 (.t 4)⟩,
 ⟨some 79,none,.load false 1 (.t 78)⟩,
 ⟨some 80,none,.iaddrL 10 (.t 79) (.c (.int .i64 0))⟩,
 ⟨some 81,none,.faddr 2 (.t 80)⟩,
 ⟨some 82,none,.faddr 0 (.t 81)⟩,
 ⟨some 83,none,.load false 1 (.t 82)⟩,
 ⟨some 84,none,.bin false .eql (.t 83) (.c (.int .i64 0))⟩,
 ⟨some 85,none,.mv (.t 84)⟩,
 ⟨some 86,some (85,true),.faddr 2 (.t 4)⟩,
 ⟨some 87,some (85,true),.load false 1 (.t 86)⟩,
 ⟨some 88,some (85,true),.iaddrL 10 (.t 87) (.c (.int .i64 0))⟩,
 ⟨some 89,some (85,true),.faddr 2 (.t 88)⟩,
 ⟨some 90,some (85,true),.faddr 1 (.t 89)⟩,
 ⟨some 91,some (85,true),.load false 1 (.t 90)⟩,
 ⟨some 92,some (85,true),.bin false .eql (.t 91) (.c (.int .i64 1))⟩,
 ⟨some 93,none,.pick (.t 85) (.t 92) (.c (.bool false))⟩,
 ⟨some 94,none,.mv (.t 93)⟩,
 ⟨some 95,some (94,true),.faddr 2 (.t 4)⟩,
 ⟨some 96,some (94,true),.load false 1 (.t 95)⟩,
 ⟨some 97,some (94,true),.iaddrL 10 (.t 96) (.c (.int .i64 1))⟩,
 ⟨some 98,some (94,true),.faddr 2 (.t 97)⟩,
 ⟨some 99,some (94,true),.faddr 0 (.t 98)⟩,
 ⟨some 100,some (94,true),.load false 1 (.t 99)⟩,
 ⟨some 101,some (94,true),.bin false .eql (.t 100) (.c (.int .i64 2))⟩,
 ⟨some 102,none,.pick (.t 94) (.t 101) (.c (.bool false))⟩,
 ⟨some 103,none,.mv (.t 102)⟩,
 ⟨some 104,some (103,true),.mv (.t 6)⟩,
 ⟨some 105,some (103,true),.bslice false 1 [.int .i64 0] 2 [(0,(.c (.int .i64 3))),(1,(.c (.int .i64 4)))]⟩,
 ⟨some 106,some (103,true),.call (.c (.fn 27 [] [])) [.t 104,.t 105]⟩,
 ⟨some 107,none,.pick (.t 103) (.t 106) (.c (.bool false))⟩,
 ⟨some 108,none,.mv (.t 107)⟩,
 ⟨some 109,some (108,true),.faddr 2 (.t 8)⟩,
 ⟨some 110,some (108,true),.load false 1 (.t 109)⟩,
 ⟨some 111,some (108,true),.iaddrL 10 (.t 110) (.c (.int .i64 2))⟩,
 ⟨some 112,some (108,true),.faddr 0 (.t 111)⟩,
 ⟨some 113,some (108,true),.load false 1 (.t 112)⟩,
 ⟨some 114,some (108,true),.bin false .eql (.t 113) (.c (.str [115,116,117,99,107,48]))⟩,
 ⟨some 115,none,.pick (.t 108) (.t 114) (.c (.bool false))⟩,
 ⟨some 116,none,.mv (.t 115)⟩,
 ⟨some 117,some (116,true),.faddr 3 (.t 8)⟩,
 ⟨some 118,some (116,true),.load false 1 (.t 117)⟩,
 ⟨some 119,some (116,true),.bslice false 1 [.int .i64 0] 1 [(0,(.c (.int .i64 5)))]⟩,
 ⟨some 120,some (116,true),.call (.c (.fn 27 [] [])) [.t 118,.t 119]⟩,
 ⟨some 121,none,.pick (.t 116) (.t 120) (.c (.bool false))⟩,
 ⟨some 122,none,.mv (.t 121)⟩,
 ⟨some 123,some (122,true),.faddr 4 (.t 8)⟩,
 ⟨some 124,some (122,true),.load false 1 (.t 123)⟩,
 ⟨some 125,some (122,true),.bslice false 1 [.int .i64 0] 1 [(0,(.c (.int .i64 4)))]⟩,
 ⟨some 126,some (122,true),.call (.c (.fn 27 [] [])) [.t 124,.t 125]⟩,
 ⟨some 127,none,.pick (.t 122) (.t 126) (.c (.bool false))⟩,
 ⟨some 128,none,.mv (.t 127)⟩,
 ⟨some 129,some (128,true),.mv (.t 10)⟩,
 ⟨some 130,some (128,true),.bslice false 1 [.int .i64 0] 1 [(0,(.c (.int .i64 5)))]⟩,
 ⟨some 131,some (128,true),.call (.c (.fn 27 [] [])) [.t 129,.t 130]⟩,
 ⟨some 132,none,.pick (.t 128) (.t 131) (.c (.bool false))⟩,
 ⟨some 133,none,.mv (.t 132)⟩,
 ⟨some 134,some (133,true),.load true 2 (.t 12)⟩,
 ⟨some 135,some (133,true),.build [.int .i64 0,.int .i64 0] [(0,1,(.c (.int .i64 3))),(1,1,(.c (.int .i64 3)))]⟩,
 ⟨some 136,some (133,true),.eqa false [1,1] (.t 134) (.t 135)⟩,
 ⟨some 137,none,.pick (.t 133) (.t 136) (.c (.bool false))⟩,
 ⟨some 0,none,.mv (.t 137)⟩])
 (.ret))))))))))) false false
theorem mk7 : cFun Tryz.prog false false Tryz.f7 = some ir7 := by kernel_rfl
def ir8 : Fun := .mk 27 [.cell 4 true 5,.t 5] (
 .seq (.reg [⟨some 2,none,.box (.t 0)⟩,
 ⟨some 3,none,.box (.t 1)⟩,
 ⟨some 4,none,.alloc [.int .i64 0,.nils,.nils,.nils,.nils]⟩,
 ⟨some 5,none,.mv (.c (.int .i64 0))⟩])
 (.seq (.seq (.reg [⟨some 9,none,.load true 5 (.t 2)⟩,
 ⟨some 10,none,.load true 2 (.t 3)⟩,
 ⟨some 11,none,.call (.c (.fn 28 [] [])) [.t 9,.t 10]⟩,
 ⟨some 6,none,.mv (.t 11)⟩])
 (.seq (.reg [⟨some 12,none,.mv (.t 6)⟩,
 ⟨some 13,none,.bin false .neq (.t 12) (.c (.int .i64 0))⟩])
 (.cond (.t 13) (.seq (.reg [⟨some 14,none,.build [.int .i64 0,.nils,.nils,.nils,.nils] []⟩,
 ⟨some 15,none,.mv (.t 6)⟩,
 ⟨none,none,.store 5 (.t 4) (.t 14)⟩,
 ⟨some 5,none,.mv (.t 15)⟩])
 (.ret))
 (.skip))))
 (.seq (.reg [⟨some 17,none,.load true 5 (.t 2)⟩,
 ⟨some 18,none,.load true 2 (.t 3)⟩,
 ⟨some 19,none,.call (.c (.fn 29 [] [])) [.t 17,.t 18]⟩,
 ⟨some 16,none,.mv (.t 19)⟩,
 ⟨some 20,none,.ext 0 (.t 16)⟩,
 ⟨some 21,none,.ext 1 (.t 16)⟩,
 ⟨some 7,none,.alloc [.int .i64 0,.nils,.nils,.nils,.nils]⟩,
 ⟨none,none,.store 5 (.t 7) (.t 20)⟩,
 ⟨some 8,none,.mv (.t 21)⟩])
 (.seq (.seq (.reg [⟨some 22,none,.load true 5 (.t 7)⟩,
 ⟨some 23,none,.call (.c (.fn 30 [] [])) [.t 22]⟩,
 ⟨some 24,none,.bin false .neq (.t 23) (.c (.int .i64 0))⟩])
 (.cond (.t 24) (.seq (.reg [⟨some 25,none,.build [.int .i64 0,.nils,.nils,.nils,.nils] []⟩,
 ⟨none,none,.store 5 (.t 4) (.t 25)⟩,
 ⟨some 5,none,.mv (.c (.int .i64 12))⟩])
 (.ret))
 (.skip)))
 (.seq (.reg [⟨some 26,none,.load true 5 (.t 7)⟩,
 ⟨none,none,.store 5 (.t 4) (.t 26)⟩,
 ⟨some 5,none,.mv (.c (.int .i64 0))⟩])
 (.ret)))))) false false
theorem mk8 : cFun Tryz.prog false false Tryz.f8 = some ir8 := by kernel_rfl
def ir13 : Fun := .mk 11 [.t 4] (
 .seq (.reg [⟨some 2,none,.box (.t 0)⟩,
 ⟨some 3,none,.box (.t 1)⟩,
 ⟨some 4,none,.mv (.c (.bool false))⟩])
 (.seq (.reg [⟨some 5,none,.load true 5 (.t 2)⟩,
 ⟨some 6,none,.call (.c (.fn 6 [] [])) [.t 5]⟩,
 ⟨some 7,none,.mv (.t 6)⟩,
 ⟨some 8,some (7,true),.load true 5 (.t 3)⟩,
 ⟨some 9,some (7,true),.call (.c (.fn 40 [] [])) [.t 8]⟩,
 ⟨some 10,none,.pick (.t 7) (.t 9) (.c (.bool false))⟩,
 ⟨some 4,none,.mv (.t 10)⟩])
 (.ret))) false false
theorem mk13 : cFun Tryz.prog false false Tryz.f13 = some ir13 := by kernel_rfl
def ir14 : Fun := .mk 67 [.cell 6 true 5,.t 7] (
 .seq (.reg [⟨some 3,none,.box (.t 0)⟩,
 ⟨some 4,none,.box (.t 1)⟩,
 ⟨some 5,none,.box (.t 2)⟩,
 ⟨some 6,none,.alloc [.nils,.nils,.nils,.nils,.nils]⟩,
 ⟨some 7,none,.mv (.c (.int .i64 0))⟩])
 (.seq (.seq (.reg [⟨some 14,none,.load true 5 (.t 3)⟩,
 ⟨some 15,none,.load true 2 (.t 4)⟩,
 ⟨some 16,none,.call (.c (.fn 28 [] [])) [.t 14,.t 15]⟩,
 ⟨some 8,none,.mv (.t 16)⟩])
 (.seq (.reg [⟨some 17,none,.mv (.t 8)⟩,
 ⟨some 18,none,.bin false .neq (.t 17) (.c (.int .i64 0))⟩])
 (.cond (.t 18) (.seq (.reg [⟨some 19,none,.build [.nils,.nils,.nils,.nils,.nils] []⟩,
 ⟨some 20,none,.mv (.t 8)⟩,
 ⟨none,none,.store 5 (.t 6) (.t 19)⟩,
 ⟨some 7,none,.mv (.t 20)⟩])
 (.ret))
 (.skip))))
 (.seq (.seq (.reg [⟨some 21,none,.load true 5 (.t 3)⟩,
 ⟨some 22,none,.load true 5 (.t 5)⟩,
 ⟨some 23,none,.call (.c (.fn 41 [] [])) [.t 21,.t 22]⟩,
 ⟨some 9,none,.mv (.t 23)⟩])
 (.seq (.reg [⟨some 24,none,.mv (.t 9)⟩,
 ⟨some 25,none,.bin false .neq (.t 24) (.c (.int .i64 0))⟩])
 (.cond (.t 25) (.seq (.reg [⟨some 26,none,.build [.nils,.nils,.nils,.nils,.nils] []⟩,
 ⟨some 27,none,.mv (.t 9)⟩,
 ⟨none,none,.store 5 (.t 6) (.t 26)⟩,
 ⟨some 7,none,.mv (.t 27)⟩])
 (.ret))
 (.skip))))
 (.seq (.seq (.reg [⟨some 29,none,.load true 5 (.t 3)⟩,
 ⟨some 30,none,.load true 2 (.t 4)⟩,
 ⟨some 31,none,.call (.c (.fn 8 [] [])) [.t 29,.t 30]⟩,
 ⟨some 28,none,.mv (.t 31)⟩,
 ⟨some 32,none,.ext 0 (.t 28)⟩,
 ⟨some 33,none,.ext 1 (.t 28)⟩,
 ⟨some 10,none,.alloc [.int .i64 0,.nils,.nils,.nils,.nils]⟩,
 ⟨none,none,.store 5 (.t 10) (.t 32)⟩,
 ⟨some 11,none,.mv (.t 33)⟩])
 (.seq (.reg [⟨some 34,none,.mv (.t 11)⟩,
 ⟨some 35,none,.bin false .neq (.t 34) (.c (.int .i64 0))⟩])
 (.cond (.t 35) (.seq (.reg [⟨some 36,none,.build [.nils,.nils,.nils,.nils,.nils] []⟩,
 ⟨some 37,none,.mv (.t 11)⟩,
 ⟨none,none,.store 5 (.t 6) (.t 36)⟩,
 ⟨some 7,none,.mv (.t 37)⟩])
 (.ret))
 (.skip))))
 (.seq (.reg [⟨some 39,none,.load true 5 (.t 3)⟩,
 ⟨some 40,none,.load true 2 (.t 4)⟩,
 ⟨some 41,none,.call (.c (.fn 29 [] [])) [.t 39,.t 40]⟩,
 ⟨some 38,none,.mv (.t 41)⟩,
 ⟨some 42,none,.ext 0 (.t 38)⟩,
 ⟨some 43,none,.ext 1 (.t 38)⟩,
 ⟨some 12,none,.alloc [.int .i64 0,.nils,.nils,.nils,.nils]⟩,
 ⟨none,none,.store 5 (.t 12) (.t 42)⟩,
 ⟨some 13,none,.mv (.t 43)⟩])
 (.seq (.draw [⟨some 44,none,.faddr 0 (.t 5)⟩,
 ⟨some 45,none,.load false 1 (.t 44)⟩,
 ⟨some 46,none,.call (.c (.fn 42 [] [])) [.t 45]⟩,
 ⟨some 47,none,.faddr 1 (.t 5)⟩,
 ⟨some 48,none,.load false 1 (.t 47)⟩,
 ⟨some 49,none,.call (.c (.fn 43 [] [])) [.t 48]⟩,
 ⟨some 50,none,.faddr 2 (.t 5)⟩,
 ⟨some 51,none,.load false 1 (.t 50)⟩,
 ⟨some 52,none,.call (.c (.fn 43 [] [])) [.t 51]⟩,
 ⟨some 53,none,.faddr 3 (.t 5)⟩,
 ⟨some 54,none,.load false 1 (.t 53)⟩,
 ⟨some 55,none,.mv (.t 13)⟩,
 ⟨some 56,none,.bslice false 1 [.imm []] 2 [(0,(.t 54)),(1,(.t 55))]⟩,
 ⟨some 57,none,.call (.c (.fn 44 [] [])) [.t 56]⟩,
 ⟨some 58,none,.faddr 4 (.t 5)⟩,
 ⟨some 59,none,.load false 1 (.t 58)⟩,
 ⟨some 60,none,.bslice false 1 [.int .i64 0] 1 [(0,(.c (.int .i64 0)))]⟩,
 ⟨some 61,none,.mv (.t 13)⟩,
 ⟨some 62,none,.len false (.t 61)⟩,
 ⟨some 63,none,.call (.c (.fn 46 [] [])) [.t 60,.t 62]⟩,
 ⟨some 64,none,.bslice false 1 [.imm []] 2 [(0,(.t 59)),(1,(.t 63))]⟩,
 ⟨some 65,none,.call (.c (.fn 45 [] [])) [.t 64]⟩,
 ⟨some 66,none,.build [.nils,.nils,.nils,.nils,.nils] [(0,1,(.t 46)),(1,1,(.t 49)),(2,1,(.t 52)),(3,1,(.t 57)),(4,1,(.t 65))]⟩,
 ⟨none,none,.store 5 (.t 6) (.t 66)⟩,
 ⟨some 7,none,.mv (.c (.int .i64 0))⟩] [(4,2),(7,2),(7,5),(10,2),(10,5),(10,8),(15,2),(15,5),(15,8),(15,13),(15,19)])
 (.ret))))))) false false
theorem mk14 : cFun Tryz.prog false false Tryz.f14 = some ir14 := by kernel_rfl
def ir17 : Fun := .mk 13 [.t 4] (
 .seq (.reg [⟨some 2,none,.box (.t 0)⟩,
 ⟨some 3,none,.box (.t 1)⟩,
 ⟨some 4,none,.mv (.c (.bool false))⟩])
 (.seq (.reg [⟨some 5,none,.load true 5 (.t 2)⟩,
 ⟨some 6,none,.call (.c (.fn 6 [] [])) [.t 5]⟩,
 ⟨some 7,none,.mv (.t 6)⟩,
 ⟨some 8,some (7,true),.load true 5 (.t 2)⟩,
 ⟨some 9,some (7,true),.load true 2 (.t 3)⟩,
 ⟨some 10,some (7,true),.call (.c (.fn 31 [] [])) [.t 8,.t 9]⟩,
 ⟨some 11,some (7,true),.bin false .eql (.t 10) (.c (.int .i64 0))⟩,
 ⟨some 12,none,.pick (.t 7) (.t 11) (.c (.bool false))⟩,
 ⟨some 4,none,.mv (.t 12)⟩])
 (.ret))) false false
theorem mk17 : cFun Tryz.prog false false Tryz.f17 = some ir17 := by kernel_rfl
def ir18 : Fun := .mk 14 [.t 4] (
 .seq (.reg [⟨some 2,none,.box (.t 0)⟩,
 ⟨some 3,none,.box (.t 1)⟩,
 ⟨some 4,none,.mv (.c (.int .i64 0))⟩])
 (.seq (.seq (.reg [⟨some 6,none,.load true 5 (.t 2)⟩,
 ⟨some 7,none,.call (.c (.fn 33 [] [])) [.t 6]⟩,
 ⟨some 5,none,.mv (.t 7)⟩])
 (.seq (.reg [⟨some 8,none,.mv (.t 5)⟩,
 ⟨some 9,none,.bin false .neq (.t 8) (.c (.int .i64 0))⟩])
 (.cond (.t 9) (.seq (.reg [⟨some 10,none,.mv (.t 5)⟩,
 ⟨some 4,none,.mv (.t 10)⟩])
 (.ret))
 (.skip))))
 (.seq (.reg [⟨some 11,none,.load true 5 (.t 2)⟩,
 ⟨some 12,none,.load true 5 (.t 3)⟩,
 ⟨some 13,none,.call (.c (.fn 49 [] [])) [.t 11,.t 12]⟩,
 ⟨some 4,none,.mv (.t 13)⟩])
 (.ret)))) false false
theorem mk18 : cFun Tryz.prog false false Tryz.f18 = some ir18 := by kernel_rfl
def ir19 : Fun := .mk 17 [.cell 4 true 5,.t 5] (
 .seq (.reg [⟨some 2,none,.box (.t 0)⟩,
 ⟨some 3,none,.box (.t 1)⟩,
 ⟨some 4,none,.alloc [.nils,.nils,.nils,.nils,.nils]⟩,
 ⟨some 5,none,.mv (.c (.int .i64 0))⟩])
 (.seq (.seq (.reg [⟨some 7,none,.load true 5 (.t 2)⟩,
 ⟨some 8,none,.load true 5 (.t 3)⟩,
 ⟨some 9,none,.call (.c (.fn 41 [] [])) [.t 7,.t 8]⟩,
 ⟨some 6,none,.mv (.t 9)⟩])
 (.seq (.reg [⟨some 10,none,.mv (.t 6)⟩,
 ⟨some 11,none,.bin false .neq (.t 10) (.c (.int .i64 0))⟩])
 (.cond (.t 11) (.seq (.reg [⟨some 12,none,.build [.nils,.nils,.nils,.nils,.nils] []⟩,
 ⟨some 13,none,.mv (.t 6)⟩,
 ⟨none,none,.store 5 (.t 4) (.t 12)⟩,
 ⟨some 5,none,.mv (.t 13)⟩])
 (.ret))
 (.skip))))
 (.seq (.reg [⟨some 14,none,.load true 5 (.t 2)⟩,
 ⟨some 15,none,.load true 5 (.t 3)⟩,
 ⟨some 16,none,.call (.c (.fn 50 [] [])) [.t 14,.t 15]⟩,
 ⟨none,none,.store 5 (.t 4) (.t 16)⟩,
 ⟨some 5,none,.mv (.c (.int .i64 0))⟩])
 (.ret)))) false false
theorem mk19 : cFun Tryz.prog false false Tryz.f19 = some ir19 := by kernel_rfl
def ir20 : Fun := .mk 28 [.t 6,.t 7] (
 .seq (.reg [⟨some 3,none,.box (.t 0)⟩,
 ⟨some 4,none,.box (.t 1)⟩,
 ⟨some 6,none,.mv (.c (.bool false))⟩,
 ⟨some 7,none,.mv (.c (.int .i64 0))⟩])
 (.seq (.seq (.reg [⟨some 9,none,.load true 5 (.t 3)⟩,
 ⟨some 10,none,.load true 5 (.t 4)⟩,
 ⟨some 11,none,.call (.c (.fn 41 [] [])) [.t 9,.t 10]⟩,
 ⟨some 8,none,.mv (.t 11)⟩])
 (.seq (.reg [⟨some 12,none,.mv (.t 8)⟩,
 ⟨some 13,none,.bin false .neq (.t 12) (.c (.int .i64 0))⟩])
 (.cond (.t 13) (.seq (.reg [⟨some 14,none,.mv (.t 8)⟩,
 ⟨some 6,none,.mv (.c (.bool false))⟩,
 ⟨some 7,none,.mv (.t 14)⟩])
 (.ret))
 (.skip))))
 (.seq (.seq (.reg [⟨some 15,none,.mv (.t 2)⟩,
 ⟨some 16,none,.bin false .lss (.t 15) (.c (.int .i64 0))⟩,
 ⟨some 17,none,.mv (.t 16)⟩,
 ⟨some 18,some (17,false),.mv (.t 2)⟩,
 ⟨some 19,some (17,false),.load true 5 (.t 3)⟩,
 ⟨some 20,some (17,false),.call (.c (.fn 51 [] [])) [.t 19]⟩,
 ⟨some 21,some (17,false),.bin false .geq (.t 18) (.t 20)⟩,
 ⟨some 22,none,.pick (.t 17) (.c (.bool true)) (.t 21)⟩])
 (.cond (.t 22) (.seq (.reg [⟨some 6,none,.mv (.c (.bool false))⟩,
 ⟨some 7,none,.mv (.c (.int .i64 6))⟩])
 (.ret))
 (.skip)))
 (.seq (.reg [⟨some 23,none,.load true 5 (.t 4)⟩,
 ⟨some 24,none,.call (.c (.fn 52 [] [])) [.t 23]⟩,
 ⟨some 25,none,.mv (.t 2)⟩,
 ⟨some 26,none,.iaddrL 1 (.t 24) (.t 25)⟩,
 ⟨some 27,none,.load false 1 (.t 26)⟩,
 ⟨some 6,none,.mv (.t 27)⟩,
 ⟨some 7,none,.mv (.c (.int .i64 0))⟩])
 (.ret))))) false false
theorem mk20 : cFun Tryz.prog false false Tryz.f20 = some ir20 := by kernel_rfl
def L21_0 : C := (
 .seq (.reg [⟨some 14,none,.bin false .lss (.t 13) (.t 12)⟩])
 (.seq (.cond (.t 14) (.skip)
 (.exit 0))
 (.seq (.block 1 (.seq (.reg [⟨some 15,none,.mv (.t 13)⟩,
 ⟨some 5,none,.mv (.t 15)⟩])
 (.seq (.draw [⟨some 16,none,.mv (.t 0)⟩,
 ⟨some 17,none,.mv (.t 5)⟩,
 ⟨some 18,none,.iaddrL 1 (.t 16) (.t 17)⟩,
 ⟨some 19,none,.load false 1 (.t 18)⟩,
 ⟨some 20,none,.mv (.t 1)⟩,
 ⟨some 21,none,.mv (.t 5)⟩,
 ⟨some 22,none,.iaddrL 1 (.t 20) (.t 21)⟩,
 ⟨some 23,none,.load false 1 (.t 22)⟩,
 ⟨some 24,none,.bin true .neq (.t 19) (.t 23)⟩] [])
 (.cond (.t 24) (.seq (.reg [⟨some 4,none,.mv (.c (.bool false))⟩])
 (.ret))
 (.skip)))))
 (.reg [⟨some 25,none,.bin false .add (.t 13) (.c (.int .i64 1))⟩,
 ⟨some 13,none,.mv (.t 25)⟩]))))
def ir21 : Fun := .mk 26 [.t 4] (
 .seq (.reg [⟨some 4,none,.mv (.c (.bool false))⟩])
 (.seq (.seq (.reg [⟨some 6,none,.mv (.t 0)⟩,
 ⟨some 7,none,.len false (.t 6)⟩,
 ⟨some 8,none,.mv (.t 1)⟩,
 ⟨some 9,none,.len false (.t 8)⟩,
 ⟨some 10,none,.bin false .neq (.t 7) (.t 9)⟩])
 (.cond (.t 10) (.seq (.reg [⟨some 4,none,.mv (.c (.bool false))⟩])
 (.ret))
 (.skip)))
 (.seq (.seq (.reg [⟨some 11,none,.mv (.t 0)⟩,
 ⟨some 12,none,.len false (.t 11)⟩,
 ⟨some 13,none,.mv (.c (.int .i64 0))⟩])
 (.block 0 (.loop L21_0)))
 (.seq (.reg [⟨some 4,none,.mv (.c (.bool true))⟩])
 (.ret))))) false false
theorem mk21 : cFun Tryz.prog false false Tryz.f21 = some ir21 := by kernel_rfl
def ir22 : Fun := .mk 10 [.t 2] (
 .seq (.reg [⟨some 1,none,.box (.t 0)⟩,
 ⟨some 2,none,.mv (.c (.bool false))⟩])
 (.seq (.reg [⟨some 3,none,.load true 3 (.t 1)⟩,
 ⟨some 4,none,.call (.c (.fn 53 [] [])) [.t 3,.c (.int .i64 256)]⟩,
 ⟨some 5,none,.bin false .leq (.t 4) (.c (.int .i64 256))⟩,
 ⟨some 6,none,.mv (.t 5)⟩,
 ⟨some 7,some (6,true),.load true 3 (.t 1)⟩,
 ⟨some 8,some (6,true),.call (.c (.fn 54 [] [])) [.t 7,.c (.int .i64 16)]⟩,
 ⟨some 9,none,.pick (.t 6) (.t 8) (.c (.bool false))⟩,
 ⟨some 2,none,.mv (.t 9)⟩])
 (.ret))) false false
theorem mk22 : cFun Tryz.prog false false Tryz.f22 = some ir22 := by kernel_rfl
def ir23 : Fun := .mk 14 [.cell 0 true 5] (
 .seq (.reg [⟨some 0,none,.alloc [.int .i64 0,.nils,.nils,.nils,.nils]⟩])
 (.seq (.reg [⟨some 2,none,.build [.int .i64 0,.int .i64 0,.nils] [(0,1,(.c (.int .i64 1))),(1,1,(.c (.int .i64 2)))]⟩,
 ⟨some 1,none,.alloc [.int .i64 0,.int .i64 0,.nils]⟩,
 ⟨none,none,.store 3 (.t 1) (.t 2)⟩])
 (.seq (.reg [⟨some 3,none,.bslice false 1 [.str []] 1 [(0,(.c (.str [103,111])))]⟩,
 ⟨some 4,none,.load true 3 (.t 1)⟩,
 ⟨some 5,none,.build [.str [],.int .i64 0,.int .i64 0,.int .i64 0,.nils,.int .i64 0,.int .i64 0,.nils,.int .i64 0,.bool false] [(0,1,(.c (.str [117,112]))),(2,3,(.t 4))]⟩,
 ⟨some 6,none,.load true 3 (.t 1)⟩,
 ⟨some 7,none,.bslice true 3 [.int .i64 0,.int .i64 0,.imm []] 1 [(0,(.t 6))]⟩,
 ⟨some 8,none,.build [.int .i64 0,.int .i64 0,.nils] [(0,1,(.c (.int .i64 2))),(2,1,(.t 7))]⟩,
 ⟨some 9,none,.build [.str [],.int .i64 0,.int .i64 0,.int .i64 0,.nils,.int .i64 0,.int .i64 0,.nils,.int .i64 0,.bool false] [(0,1,(.c (.str [100,111,119,110]))),(2,3,(.t 8))]⟩,
 ⟨some 10,none,.bslice true 10 [.str [],.int .i64 0,.int .i64 0,.int .i64 0,.imm [],.int .i64 0,.int .i64 0,.imm [],.int .i64 0,.bool false] 2 [(0,(.t 5)),(1,(.t 9))]⟩,
 ⟨some 11,none,.bslice false 1 [.int .i64 0] 1 [(0,(.c (.int .i64 3)))]⟩,
 ⟨some 12,none,.bslice false 1 [.int .i64 0] 1 [(0,(.c (.int .i64 4)))]⟩,
 ⟨some 13,none,.build [.int .i64 0,.nils,.nils,.nils,.nils] [(0,1,(.c (.int .i64 1))),(1,1,(.t 3)),(2,1,(.t 10)),(3,1,(.t 11)),(4,1,(.t 12))]⟩,
 ⟨none,none,.store 5 (.t 0) (.t 13)⟩])
 (.ret)))) false false
theorem mk23 : cFun Tryz.prog false false Tryz.f23 = some ir23 := by kernel_rfl
def L24_0 : C := (
 .seq (.reg [⟨some 23,none,.bin false .lss (.t 22) (.t 21)⟩])
 (.seq (.cond (.t 23) (.skip)
 (.exit 2))
 (.seq (.block 3 (.seq (.reg [⟨some 24,none,.mv (.t 22)⟩,
 ⟨some 8,none,.mv (.t 24)⟩])
 (.reg [⟨some 25,none,.mv (.t 5)⟩,
 ⟨some 26,none,.mv (.t 6)⟩,
 ⟨some 27,none,.mv (.t 8)⟩,
 ⟨some 28,none,.build [.int .i64 0,.int .i64 0] [(0,1,(.t 26)),(1,1,(.t 27))]⟩,
 ⟨some 29,none,.bslice false 2 [.int .i64 0,.int .i64 0] 1 [(0,(.t 28))]⟩,
 ⟨some 30,none,.app 2 16 (.t 25) (.t 29)⟩,
 ⟨some 5,none,.mv (.t 30)⟩])))
 (.reg [⟨some 31,none,.bin false .add (.t 22) (.c (.int .i64 1))⟩,
 ⟨some 22,none,.mv (.t 31)⟩]))))
def L24_1 : C := (
 .seq (.reg [⟨some 16,none,.bin false .lss (.t 15) (.c (.int .i64 6))⟩])
 (.seq (.cond (.t 16) (.skip)
 (.exit 0))
 (.seq (.block 1 (.seq (.reg [⟨some 17,none,.mv (.t 15)⟩,
 ⟨some 18,none,.idxA true 6 4 (.t 14) (.t 15)⟩,
 ⟨some 7,none,.alloc [.str [],.bool false,.int .i64 0,.nilfn]⟩,
 ⟨some 6,none,.mv (.t 17)⟩,
 ⟨none,none,.store 4 (.t 7) (.t 18)⟩])
 (.seq (.reg [⟨some 19,none,.load true 5 (.t 1)⟩,
 ⟨some 20,none,.load true 4 (.t 7)⟩,
 ⟨some 21,none,.call (.c (.fn 56 [] [])) [.t 19,.t 20]⟩,
 ⟨some 22,none,.mv (.c (.int .i64 0))⟩])
 (.block 2 (.loop L24_0)))))
 (.reg [⟨some 32,none,.bin false .add (.t 15) (.c (.int .i64 1))⟩,
 ⟨some 15,none,.mv (.t 32)⟩]))))
def ir24 : Fun := .mk 34 [.t 2,.t 3] (
 .seq (.reg [⟨some 1,none,.box (.t 0)⟩,
 ⟨some 2,none,.mv (.c (.nils))⟩,
 ⟨some 3,none,.mv (.c (.int .i64 0))⟩])
 (.seq (.seq (.reg [⟨some 9,none,.load true 5 (.t 1)⟩,
 ⟨some 10,none,.call (.c (.fn 30 [] [])) [.t 9]⟩,
 ⟨some 4,none,.mv (.t 10)⟩])
 (.seq (.reg [⟨some 11,none,.mv (.t 4)⟩,
 ⟨some 12,none,.bin false .neq (.t 11) (.c (.int .i64 0))⟩])
 (.cond (.t 12) (.seq (.reg [⟨some 13,none,.mv (.t 4)⟩,
 ⟨some 2,none,.mv (.c (.nils))⟩,
 ⟨some 3,none,.mv (.t 13)⟩])
 (.ret))
 (.skip))))
 (.seq (.reg [⟨some 5,none,.mv (.c (.nils))⟩])
 (.seq (.seq (.reg [⟨some 14,none,.call (.c (.fn 55 [] [])) []⟩,
 ⟨some 15,none,.mv (.c (.int .i64 0))⟩])
 (.block 0 (.loop L24_1)))
 (.seq (.reg [⟨some 33,none,.mv (.t 5)⟩,
 ⟨some 2,none,.mv (.t 33)⟩,
 ⟨some 3,none,.mv (.c (.int .i64 0))⟩])
 (.ret)))))) false false
theorem mk24 : cFun Tryz.prog false false Tryz.f24 = some ir24 := by kernel_rfl
def L25_0 : C := (
 .seq (.reg [⟨some 34,none,.bin false .lss (.t 33) (.t 32)⟩])
 (.seq (.cond (.t 34) (.skip)
 (.exit 0))
 (.seq (.block 1 (.seq (.reg [⟨some 35,none,.mv (.t 33)⟩,
 ⟨some 36,none,.iaddrL 10 (.t 31) (.t 33)⟩,
 ⟨some 37,none,.load true 10 (.t 36)⟩,
 ⟨some 10,none,.alloc [.str [],.int .i64 0,.int .i64 0,.int .i64 0,.nils,.int .i64 0,.int .i64 0,.nils,.int .i64 0,.bool false]⟩,
 ⟨some 9,none,.mv (.t 35)⟩,
 ⟨none,none,.store 10 (.t 10) (.t 37)⟩])
 (.seq (.reg [⟨some 39,none,.faddr 2 (.t 10)⟩,
 ⟨some 40,none,.load true 3 (.t 39)⟩,
 ⟨some 41,none,.faddr 1 (.t 3)⟩,
 ⟨some 42,none,.load false 1 (.t 41)⟩,
 ⟨some 43,none,.call (.c (.fn 57 [] [])) [.t 40,.t 42,.c (.int .i64 0)]⟩,
 ⟨some 38,none,.mv (.t 43)⟩,
 ⟨some 44,none,.ext 0 (.t 38)⟩,
 ⟨some 45,none,.ext 1 (.t 38)⟩,
 ⟨some 11,none,.alloc [.int .i64 0,.int .i64 0,.nils]⟩,
 ⟨none,none,.store 3 (.t 11) (.t 44)⟩,
 ⟨some 12,none,.mv (.t 45)⟩])
 (.seq (.reg [⟨some 47,none,.faddr 5 (.t 10)⟩,
 ⟨some 48,none,.load true 3 (.t 47)⟩,
 ⟨some 49,none,.faddr 1 (.t 3)⟩,
 ⟨some 50,none,.load false 1 (.t 49)⟩,
 ⟨some 51,none,.call (.c (.fn 57 [] [])) [.t 48,.t 50,.c (.int .i64 0)]⟩,
 ⟨some 46,none,.mv (.t 51)⟩,
 ⟨some 52,none,.ext 0 (.t 46)⟩,
 ⟨some 53,none,.ext 1 (.t 46)⟩,
 ⟨some 13,none,.alloc [.int .i64 0,.int .i64 0,.nils]⟩,
 ⟨none,none,.store 3 (.t 13) (.t 52)⟩,
 ⟨some 14,none,.mv (.t 53)⟩])
 (.seq (.draw [⟨some 54,none,.call (.c (.fn 55 [] [])) []⟩,
 ⟨some 55,none,.faddr 0 (.t 3)⟩,
 ⟨some 56,none,.load false 1 (.t 55)⟩,
 ⟨some 57,none,.idxA true 6 4 (.t 54) (.t 56)⟩,
 ⟨some 58,none,.fld false 1 1 (.t 57)⟩,
 ⟨some 59,none,.mv (.t 58)⟩,
 ⟨some 60,some (59,true),.mv (.t 12)⟩,
 ⟨some 61,some (59,true),.mv (.t 60)⟩,
 ⟨some 62,some (61,false),.mv (.t 14)⟩,
 ⟨some 63,some (59,true),.pick (.t 61) (.c (.bool true)) (.t 62)⟩,
 ⟨some 64,none,.pick (.t 59) (.t 63) (.c (.bool false))⟩] [(2,0)])
 (.cond (.t 64) (.reg [⟨some 65,none,.mv (.t 7)⟩,
 ⟨some 66,none,.mv (.t 8)⟩,
 ⟨some 67,none,.mv (.t 9)⟩,
 ⟨some 68,none,.bin false .add (.t 66) (.t 67)⟩,
 ⟨some 69,none,.bslice false 1 [.int .i64 0] 1 [(0,(.t 68))]⟩,
 ⟨some 70,none,.app 1 8 (.t 65) (.t 69)⟩,
 ⟨some 7,none,.mv (.t 70)⟩])
 (.skip)))))))
 (.reg [⟨some 71,none,.bin false .add (.t 33) (.c (.int .i64 1))⟩,
 ⟨some 33,none,.mv (.t 71)⟩]))))
def L25_1 : C := (
 .seq (.reg [⟨some 77,none,.bin false .lss (.t 76) (.t 75)⟩])
 (.seq (.cond (.t 77) (.skip)
 (.exit 2))
 (.seq (.block 3 (.seq (.reg [⟨some 78,none,.mv (.t 76)⟩,
 ⟨some 79,none,.iaddrL 2 (.t 74) (.t 76)⟩,
 ⟨some 80,none,.load true 2 (.t 79)⟩,
 ⟨some 16,none,.alloc [.int .i64 0,.int .i64 0]⟩,
 ⟨some 15,none,.mv (.t 78)⟩,
 ⟨none,none,.store 2 (.t 16) (.t 80)⟩])
 (.seq (.reg [⟨some 81,none,.load true 2 (.t 16)⟩,
 ⟨some 82,none,.build [.int .i64 0,.int .i64 0] [(0,1,(.c (.int .i64 (-1)))),(1,1,(.c (.int .i64 (-1))))]⟩,
 ⟨some 83,none,.eqa true [1,1] (.t 81) (.t 82)⟩])
 (.cond (.t 83) (.reg [⟨some 84,none,.mv (.t 7)⟩,
 ⟨some 85,none,.load true 5 (.t 2)⟩,
 ⟨some 86,none,.call (.c (.fn 59 [] [])) [.t 85]⟩,
 ⟨some 87,none,.mv (.t 15)⟩,
 ⟨some 88,none,.bin false .add (.t 86) (.t 87)⟩,
 ⟨some 89,none,.bslice false 1 [.int .i64 0] 1 [(0,(.t 88))]⟩,
 ⟨some 90,none,.app 1 8 (.t 84) (.t 89)⟩,
 ⟨some 7,none,.mv (.t 90)⟩])
 (.skip)))))
 (.reg [⟨some 91,none,.bin false .add (.t 76) (.c (.int .i64 1))⟩,
 ⟨some 76,none,.mv (.t 91)⟩]))))
def ir25 : Fun := .mk 93 [.t 4,.t 5] (
 .seq (.reg [⟨some 2,none,.box (.t 0)⟩,
 ⟨some 3,none,.box (.t 1)⟩,
 ⟨some 4,none,.mv (.c (.nils))⟩,
 ⟨some 5,none,.mv (.c (.int .i64 0))⟩])
 (.seq (.seq (.reg [⟨some 17,none,.load true 5 (.t 2)⟩,
 ⟨some 18,none,.load true 2 (.t 3)⟩,
 ⟨some 19,none,.call (.c (.fn 28 [] [])) [.t 17,.t 18]⟩,
 ⟨some 6,none,.mv (.t 19)⟩])
 (.seq (.reg [⟨some 20,none,.mv (.t 6)⟩,
 ⟨some 21,none,.bin false .neq (.t 20) (.c (.int .i64 0))⟩])
 (.cond (.t 21) (.seq (.reg [⟨some 22,none,.mv (.t 6)⟩,
 ⟨some 4,none,.mv (.c (.nils))⟩,
 ⟨some 5,none,.mv (.t 22)⟩])
 (.ret))
 (.skip))))
 (.seq (.reg [⟨some 7,none,.mv (.c (.nils))⟩])
 (.seq (.reg [⟨some 23,none,.faddr 0 (.t 2)⟩,
 ⟨some 24,none,.load false 1 (.t 23)⟩,
 ⟨some 25,none,.bin false .mul (.c (.int .i64 2)) (.t 24)⟩,
 ⟨some 26,none,.faddr 1 (.t 2)⟩,
 ⟨some 27,none,.load false 1 (.t 26)⟩,
 ⟨some 28,none,.len false (.t 27)⟩,
 ⟨some 29,none,.bin false .add (.t 25) (.t 28)⟩,
 ⟨some 8,none,.mv (.t 29)⟩])
 (.seq (.seq (.reg [⟨some 30,none,.faddr 2 (.t 2)⟩,
 ⟨some 31,none,.load false 1 (.t 30)⟩,
 ⟨some 32,none,.len false (.t 31)⟩,
 ⟨some 33,none,.mv (.c (.int .i64 0))⟩])
 (.block 0 (.loop L25_0)))
 (.seq (.seq (.reg [⟨some 72,none,.load true 5 (.t 2)⟩,
 ⟨some 73,none,.load true 2 (.t 3)⟩,
 ⟨some 74,none,.call (.c (.fn 58 [] [])) [.t 72,.t 73]⟩,
 ⟨some 75,none,.len false (.t 74)⟩,
 ⟨some 76,none,.mv (.c (.int .i64 0))⟩])
 (.block 2 (.loop L25_1)))
 (.seq (.reg [⟨some 92,none,.mv (.t 7)⟩,
 ⟨some 4,none,.mv (.t 92)⟩,
 ⟨some 5,none,.mv (.c (.int .i64 0))⟩])
 (.ret)))))))) false false
theorem mk25 : cFun Tryz.prog false false Tryz.f25 = some ir25 := by kernel_rfl
def L26_0 : C := (
 .seq (.reg [⟨some 28,none,.bin false .lss (.t 27) (.t 26)⟩])
 (.seq (.cond (.t 28) (.skip)
 (.exit 1))
 (.seq (.block 2 (.seq (.reg [⟨some 29,none,.iaddrL 2 (.t 25) (.t 27)⟩,
 ⟨some 30,none,.load true 2 (.t 29)⟩,
 ⟨some 9,none,.alloc [.int .i64 0,.int .i64 0]⟩,
 ⟨none,none,.store 2 (.t 9) (.t 30)⟩])
 (.seq (.reg [⟨some 31,none,.load true 5 (.t 2)⟩,
 ⟨some 32,none,.load true 2 (.t 9)⟩,
 ⟨some 33,none,.call (.c (.fn 60 [] [])) [.t 31,.t 32]⟩,
 ⟨some 34,none,.mv (.t 1)⟩,
 ⟨some 35,none,.bin false .eql (.t 33) (.t 34)⟩])
 (.cond (.t 35) (.seq (.reg [⟨some 36,none,.load true 2 (.t 9)⟩,
 ⟨none,none,.store 2 (.t 4) (.t 36)⟩,
 ⟨some 5,none,.mv (.c (.int .i64 0))⟩])
 (.ret))
 (.skip)))))
 (.reg [⟨some 37,none,.bin false .add (.t 27) (.c (.int .i64 1))⟩,
 ⟨some 27,none,.mv (.t 37)⟩]))))
def ir26 : Fun := .mk 39 [.cell 4 true 2,.t 5] (
 .seq (.reg [⟨some 2,none,.box (.t 0)⟩,
 ⟨some 4,none,.alloc [.int .i64 0,.int .i64 0]⟩,
 ⟨some 5,none,.mv (.c (.int .i64 0))⟩])
 (.seq (.reg [⟨some 11,none,.load true 5 (.t 2)⟩,
 ⟨some 12,none,.call (.c (.fn 24 [] [])) [.t 11]⟩,
 ⟨some 10,none,.mv (.t 12)⟩,
 ⟨some 13,none,.ext 0 (.t 10)⟩,
 ⟨some 14,none,.ext 1 (.t 10)⟩,
 ⟨some 6,none,.mv (.t 13)⟩,
 ⟨some 7,none,.mv (.t 14)⟩])
 (.seq (.block 0 (.seq (.reg [⟨some 16,none,.mv (.t 7)⟩,
 ⟨some 17,none,.bin false .neq (.t 16) (.c (.int .i64 0))⟩,
 ⟨some 15,none,.mv (.t 17)⟩])
 (.cond (.t 15) (.seq (.reg [⟨some 18,none,.build [.int .i64 0,.int .i64 0] []⟩,
 ⟨some 19,none,.mv (.t 7)⟩,
 ⟨none,none,.store 2 (.t 4) (.t 18)⟩,
 ⟨some 5,none,.mv (.t 19)⟩])
 (.ret))
 (.seq (.reg [⟨some 21,none,.mv (.t 1)⟩,
 ⟨some 22,none,.len true (.t 21)⟩,
 ⟨some 23,none,.bin false .gtr (.t 22) (.c (.int .i64 4096))⟩,
 ⟨some 20,none,.mv (.t 23)⟩])
 (.cond (.t 20) (.seq (.reg [⟨some 24,none,.build [.int .i64 0,.int .i64 0] []⟩,
 ⟨none,none,.store 2 (.t 4) (.t 24)⟩,
 ⟨some 5,none,.mv (.c (.int .i64 17))⟩])
 (.ret))
 (.skip))))))
 (.seq (.seq (.reg [⟨some 25,none,.mv (.t 6)⟩,
 ⟨some 26,none,.len false (.t 25)⟩,
 ⟨some 27,none,.mv (.c (.int .i64 0))⟩])
 (.block 1 (.loop L26_0)))
 (.seq (.reg [⟨some 38,none,.build [.int .i64 0,.int .i64 0] []⟩,
 ⟨none,none,.store 2 (.t 4) (.t 38)⟩,
 ⟨some 5,none,.mv (.c (.int .i64 4))⟩])
 (.ret)))))) false false
theorem mk26 : cFun Tryz.prog false false Tryz.f26 = some ir26 := by kernel_rfl
def L27_0 : C := (
 .seq (.reg [⟨some 14,none,.bin false .lss (.t 13) (.t 12)⟩])
 (.seq (.cond (.t 14) (.skip)
 (.exit 0))
 (.seq (.block 1 (.seq (.reg [⟨some 15,none,.mv (.t 13)⟩,
 ⟨some 5,none,.mv (.t 15)⟩])
 (.seq (.draw [⟨some 16,none,.mv (.t 0)⟩,
 ⟨some 17,none,.mv (.t 5)⟩,
 ⟨some 18,none,.iaddrL 1 (.t 16) (.t 17)⟩,
 ⟨some 19,none,.load false 1 (.t 18)⟩,
 ⟨some 20,none,.mv (.t 1)⟩,
 ⟨some 21,none,.mv (.t 5)⟩,
 ⟨some 22,none,.iaddrL 1 (.t 20) (.t 21)⟩,
 ⟨some 23,none,.load false 1 (.t 22)⟩,
 ⟨some 24,none,.bin false .neq (.t 19) (.t 23)⟩] [])
 (.cond (.t 24) (.seq (.reg [⟨some 4,none,.mv (.c (.bool false))⟩])
 (.ret))
 (.skip)))))
 (.reg [⟨some 25,none,.bin false .add (.t 13) (.c (.int .i64 1))⟩,
 ⟨some 13,none,.mv (.t 25)⟩]))))
def ir27 : Fun := .mk 26 [.t 4] (
 .seq (.reg [⟨some 4,none,.mv (.c (.bool false))⟩])
 (.seq (.seq (.reg [⟨some 6,none,.mv (.t 0)⟩,
 ⟨some 7,none,.len false (.t 6)⟩,
 ⟨some 8,none,.mv (.t 1)⟩,
 ⟨some 9,none,.len false (.t 8)⟩,
 ⟨some 10,none,.bin false .neq (.t 7) (.t 9)⟩])
 (.cond (.t 10) (.seq (.reg [⟨some 4,none,.mv (.c (.bool false))⟩])
 (.ret))
 (.skip)))
 (.seq (.seq (.reg [⟨some 11,none,.mv (.t 0)⟩,
 ⟨some 12,none,.len false (.t 11)⟩,
 ⟨some 13,none,.mv (.c (.int .i64 0))⟩])
 (.block 0 (.loop L27_0)))
 (.seq (.reg [⟨some 4,none,.mv (.c (.bool true))⟩])
 (.ret))))) false false
theorem mk27 : cFun Tryz.prog false false Tryz.f27 = some ir27 := by kernel_rfl
def ir28 : Fun := .mk 14 [.t 4] (
 .seq (.reg [⟨some 2,none,.box (.t 0)⟩,
 ⟨some 3,none,.box (.t 1)⟩,
 ⟨some 4,none,.mv (.c (.int .i64 0))⟩])
 (.seq (.seq (.reg [⟨some 6,none,.load true 5 (.t 2)⟩,
 ⟨some 7,none,.call (.c (.fn 30 [] [])) [.t 6]⟩,
 ⟨some 5,none,.mv (.t 7)⟩])
 (.seq (.reg [⟨some 8,none,.mv (.t 5)⟩,
 ⟨some 9,none,.bin false .neq (.t 8) (.c (.int .i64 0))⟩])
 (.cond (.t 9) (.seq (.reg [⟨some 10,none,.mv (.t 5)⟩,
 ⟨some 4,none,.mv (.t 10)⟩])
 (.ret))
 (.skip))))
 (.seq (.reg [⟨some 11,none,.load true 5 (.t 2)⟩,
 ⟨some 12,none,.load true 2 (.t 3)⟩,
 ⟨some 13,none,.call (.c (.fn 34 [] [])) [.t 11,.t 12]⟩,
 ⟨some 4,none,.mv (.t 13)⟩])
 (.ret)))) false false
theorem mk28 : cFun Tryz.prog false false Tryz.f28 = some ir28 := by kernel_rfl
def L29_0 : C := (
 .seq (.reg [⟨some 45,none,.bin false .lss (.t 44) (.t 43)⟩])
 (.seq (.cond (.t 45) (.skip)
 (.exit 0))
 (.seq (.block 1 (.seq (.reg [⟨some 46,none,.mv (.t 44)⟩,
 ⟨some 10,none,.mv (.t 46)⟩])
 (.seq (.reg [⟨some 48,none,.load true 5 (.t 2)⟩,
 ⟨some 49,none,.mv (.t 10)⟩,
 ⟨some 50,none,.call (.c (.fn 62 [] [])) [.t 48,.t 49]⟩,
 ⟨some 47,none,.mv (.t 50)⟩,
 ⟨some 51,none,.ext 0 (.t 47)⟩,
 ⟨some 52,none,.ext 1 (.t 47)⟩,
 ⟨some 11,none,.mv (.t 51)⟩,
 ⟨some 12,none,.mv (.t 52)⟩])
 (.reg [⟨some 53,none,.mv (.t 9)⟩,
 ⟨some 54,none,.mv (.t 11)⟩,
 ⟨some 55,none,.bslice false 1 [.str []] 1 [(0,(.t 54))]⟩,
 ⟨some 56,none,.app 1 16 (.t 53) (.t 55)⟩,
 ⟨some 9,none,.mv (.t 56)⟩]))))
 (.reg [⟨some 57,none,.bin false .add (.t 44) (.c (.int .i64 1))⟩,
 ⟨some 44,none,.mv (.t 57)⟩]))))
def L29_1 : C := (
 .seq (.reg [⟨some 62,none,.bin false .lss (.t 61) (.t 60)⟩])
 (.seq (.cond (.t 62) (.skip)
 (.exit 2))
 (.seq (.block 3 (.seq (.reg [⟨some 63,none,.iaddrL 10 (.t 59) (.t 61)⟩,
 ⟨some 64,none,.load true 10 (.t 63)⟩,
 ⟨some 14,none,.alloc [.str [],.int .i64 0,.int .i64 0,.int .i64 0,.nils,.int .i64 0,.int .i64 0,.nils,.int .i64 0,.bool false]⟩,
 ⟨none,none,.store 10 (.t 14) (.t 64)⟩])
 (.seq (.reg [⟨some 66,none,.faddr 2 (.t 14)⟩,
 ⟨some 67,none,.load true 3 (.t 66)⟩,
 ⟨some 68,none,.mv (.t 7)⟩,
 ⟨some 69,none,.faddr 2 (.t 6)⟩,
 ⟨some 70,none,.load false 1 (.t 69)⟩,
 ⟨some 71,none,.call (.c (.fn 57 [] [])) [.t 67,.t 68,.t 70]⟩,
 ⟨some 65,none,.mv (.t 71)⟩,
 ⟨some 72,none,.ext 0 (.t 65)⟩,
 ⟨some 73,none,.ext 1 (.t 65)⟩,
 ⟨some 74,none,.faddr 2 (.t 14)⟩,
 ⟨none,none,.store 3 (.t 74) (.t 72)⟩])
 (.seq (.reg [⟨some 76,none,.faddr 5 (.t 14)⟩,
 ⟨some 77,none,.load true 3 (.t 76)⟩,
 ⟨some 78,none,.mv (.t 7)⟩,
 ⟨some 79,none,.faddr 2 (.t 6)⟩,
 ⟨some 80,none,.load false 1 (.t 79)⟩,
 ⟨some 81,none,.call (.c (.fn 57 [] [])) [.t 77,.t 78,.t 80]⟩,
 ⟨some 75,none,.mv (.t 81)⟩,
 ⟨some 82,none,.ext 0 (.t 75)⟩,
 ⟨some 83,none,.ext 1 (.t 75)⟩,
 ⟨some 84,none,.faddr 5 (.t 14)⟩,
 ⟨none,none,.store 3 (.t 84) (.t 82)⟩])
 (.reg [⟨some 85,none,.faddr 2 (.t 8)⟩,
 ⟨some 86,none,.load false 1 (.t 85)⟩,
 ⟨some 87,none,.load true 10 (.t 14)⟩,
 ⟨some 88,none,.bslice true 10 [.str [],.int .i64 0,.int .i64 0,.int .i64 0,.imm [],.int .i64 0,.int .i64 0,.imm [],.int .i64 0,.bool false] 1 [(0,(.t 87))]⟩,
 ⟨some 89,none,.app 10 120 (.t 86) (.t 88)⟩,
 ⟨some 90,none,.faddr 2 (.t 8)⟩,
 ⟨none,none,.store 1 (.t 90) (.t 89)⟩])))))
 (.reg [⟨some 91,none,.bin false .add (.t 61) (.c (.int .i64 1))⟩,
 ⟨some 61,none,.mv (.t 91)⟩]))))
def L29_2 : C := (
 .seq (.reg [⟨some 106,none,.bin false .lss (.t 105) (.t 104)⟩])
 (.seq (.cond (.t 106) (.skip)
 (.exit 6))
 (.seq (.block 7 (.seq (.reg [⟨some 107,none,.mv (.t 105)⟩,
 ⟨some 108,none,.iaddrL 2 (.t 103) (.t 105)⟩,
 ⟨some 109,none,.load true 2 (.t 108)⟩,
 ⟨some 21,none,.alloc [.int .i64 0,.int .i64 0]⟩,
 ⟨some 20,none,.mv (.t 107)⟩,
 ⟨none,none,.store 2 (.t 21) (.t 109)⟩])
 (.seq (.seq (.reg [⟨some 110,none,.faddr 0 (.t 21)⟩,
 ⟨some 111,none,.load false 1 (.t 110)⟩,
 ⟨some 112,none,.mv (.t 16)⟩,
 ⟨some 113,none,.bin false .eql (.t 111) (.t 112)⟩])
 (.cond (.t 113) (.reg [⟨some 114,none,.faddr 3 (.t 8)⟩,
 ⟨some 115,none,.load false 1 (.t 114)⟩,
 ⟨some 116,none,.mv (.t 20)⟩,
 ⟨some 117,none,.mv (.t 19)⟩,
 ⟨some 118,none,.iaddrL 1 (.t 115) (.t 116)⟩,
 ⟨none,none,.store 1 (.t 118) (.t 117)⟩,
 ⟨some 18,none,.mv (.c (.bool true))⟩])
 (.skip)))
 (.seq (.reg [⟨some 119,none,.faddr 1 (.t 21)⟩,
 ⟨some 120,none,.load false 1 (.t 119)⟩,
 ⟨some 121,none,.mv (.t 16)⟩,
 ⟨some 122,none,.bin false .eql (.t 120) (.t 121)⟩])
 (.cond (.t 122) (.reg [⟨some 123,none,.faddr 4 (.t 8)⟩,
 ⟨some 124,none,.load false 1 (.t 123)⟩,
 ⟨some 125,none,.mv (.t 20)⟩,
 ⟨some 126,none,.mv (.t 19)⟩,
 ⟨some 127,none,.iaddrL 1 (.t 124) (.t 125)⟩,
 ⟨none,none,.store 1 (.t 127) (.t 126)⟩,
 ⟨some 18,none,.mv (.c (.bool true))⟩])
 (.skip))))))
 (.reg [⟨some 128,none,.bin false .add (.t 105) (.c (.int .i64 1))⟩,
 ⟨some 105,none,.mv (.t 128)⟩]))))
def L29_3 : C := (
 .seq (.seq (.reg [⟨some 131,none,.mv (.t 9)⟩,
 ⟨some 132,none,.mv (.t 17)⟩,
 ⟨some 133,none,.call (.c (.fn 63 [] [])) [.t 131,.t 132]⟩])
 (.cond (.t 133) (.skip)
 (.exit 8)))
 (.block 9 (.reg [⟨some 134,none,.mv (.t 17)⟩,
 ⟨some 135,none,.bin false .add (.t 134) (.c (.str [95]))⟩,
 ⟨some 17,none,.mv (.t 135)⟩])))
def L29_4 : C := (
 .seq (.reg [⟨some 95,none,.bin false .lss (.t 94) (.t 93)⟩])
 (.seq (.cond (.t 95) (.skip)
 (.exit 4))
 (.seq (.block 5 (.seq (.reg [⟨some 96,none,.mv (.t 94)⟩,
 ⟨some 97,none,.iaddrL 1 (.t 92) (.t 94)⟩,
 ⟨some 98,none,.load false 1 (.t 97)⟩,
 ⟨some 16,none,.mv (.t 96)⟩,
 ⟨some 17,none,.mv (.t 98)⟩])
 (.seq (.reg [⟨some 18,none,.mv (.c (.bool false))⟩])
 (.seq (.reg [⟨some 99,none,.load true 5 (.t 8)⟩,
 ⟨some 100,none,.call (.c (.fn 59 [] [])) [.t 99]⟩,
 ⟨some 19,none,.mv (.t 100)⟩])
 (.seq (.seq (.reg [⟨some 101,none,.load true 5 (.t 2)⟩,
 ⟨some 102,none,.load true 2 (.t 3)⟩,
 ⟨some 103,none,.call (.c (.fn 58 [] [])) [.t 101,.t 102]⟩,
 ⟨some 104,none,.len false (.t 103)⟩,
 ⟨some 105,none,.mv (.c (.int .i64 0))⟩])
 (.block 6 (.loop L29_2)))
 (.seq (.seq (.reg [⟨some 129,none,.mv (.t 18)⟩,
 ⟨some 130,none,.un .not (.t 129)⟩])
 (.cond (.t 130) (.exit 5)
 (.skip)))
 (.seq (.block 8 (.loop L29_3))
 (.seq (.reg [⟨some 136,none,.mv (.t 9)⟩,
 ⟨some 137,none,.mv (.t 17)⟩,
 ⟨some 138,none,.bslice false 1 [.str []] 1 [(0,(.t 137))]⟩,
 ⟨some 139,none,.app 1 16 (.t 136) (.t 138)⟩,
 ⟨some 9,none,.mv (.t 139)⟩])
 (.seq (.reg [⟨some 140,none,.faddr 2 (.t 8)⟩,
 ⟨some 141,none,.load false 1 (.t 140)⟩,
 ⟨some 142,none,.mv (.t 17)⟩,
 ⟨some 143,none,.mv (.t 16)⟩,
 ⟨some 144,none,.build [.int .i64 0,.int .i64 0,.nils] [(0,1,(.c (.int .i64 0))),(1,1,(.t 143))]⟩,
 ⟨some 145,none,.build [.str [],.int .i64 0,.int .i64 0,.int .i64 0,.nils,.int .i64 0,.int .i64 0,.nils,.int .i64 0,.bool false] [(0,1,(.t 142)),(2,3,(.t 144))]⟩,
 ⟨some 146,none,.bslice true 10 [.str [],.int .i64 0,.int .i64 0,.int .i64 0,.imm [],.int .i64 0,.int .i64 0,.imm [],.int .i64 0,.bool false] 1 [(0,(.t 145))]⟩,
 ⟨some 147,none,.app 10 120 (.t 141) (.t 146)⟩,
 ⟨some 148,none,.faddr 2 (.t 8)⟩,
 ⟨none,none,.store 1 (.t 148) (.t 147)⟩])
 (.reg [⟨some 149,none,.mv (.t 15)⟩,
 ⟨some 150,none,.mv (.t 16)⟩,
 ⟨some 151,none,.bin false .eql (.t 150) (.c (.int .i64 1))⟩,
 ⟨some 152,none,.bslice false 1 [.bool false] 1 [(0,(.t 151))]⟩,
 ⟨some 153,none,.app 1 1 (.t 149) (.t 152)⟩,
 ⟨some 15,none,.mv (.t 153)⟩]))))))))))
 (.reg [⟨some 154,none,.bin false .add (.t 94) (.c (.int .i64 1))⟩,
 ⟨some 94,none,.mv (.t 154)⟩]))))
def ir29 : Fun := .mk 157 [.cell 4 true 5,.t 5] (
 .seq (.reg [⟨some 2,none,.box (.t 0)⟩,
 ⟨some 3,none,.box (.t 1)⟩,
 ⟨some 4,none,.alloc [.int .i64 0,.nils,.nils,.nils,.nils]⟩,
 ⟨some 5,none,.mv (.c (.nils))⟩])
 (.seq (.draw [⟨some 6,none,.alloc [.str [],.bool false,.int .i64 0,.nilfn]⟩,
 ⟨some 22,none,.call (.c (.fn 55 [] [])) []⟩,
 ⟨some 23,none,.faddr 0 (.t 3)⟩,
 ⟨some 24,none,.load false 1 (.t 23)⟩,
 ⟨some 25,none,.idxA true 6 4 (.t 22) (.t 24)⟩,
 ⟨none,none,.store 4 (.t 6) (.t 25)⟩] [(3,1)])
 (.seq (.reg [⟨some 7,none,.mv (.c (.int .i64 (-1)))⟩])
 (.seq (.seq (.reg [⟨some 26,none,.faddr 1 (.t 6)⟩,
 ⟨some 27,none,.load false 1 (.t 26)⟩])
 (.cond (.t 27) (.reg [⟨some 28,none,.faddr 1 (.t 3)⟩,
 ⟨some 29,none,.load false 1 (.t 28)⟩,
 ⟨some 7,none,.mv (.t 29)⟩])
 (.skip)))
 (.seq (.draw [⟨some 8,none,.alloc [.int .i64 0,.nils,.nils,.nils,.nils]⟩,
 ⟨some 30,none,.faddr 0 (.t 2)⟩,
 ⟨some 31,none,.load false 1 (.t 30)⟩,
 ⟨some 32,none,.faddr 1 (.t 2)⟩,
 ⟨some 33,none,.load false 1 (.t 32)⟩,
 ⟨some 34,none,.call (.c (.fn 61 [] [])) [.t 33]⟩,
 ⟨some 35,none,.faddr 3 (.t 2)⟩,
 ⟨some 36,none,.load false 1 (.t 35)⟩,
 ⟨some 37,none,.call (.c (.fn 42 [] [])) [.t 36]⟩,
 ⟨some 38,none,.faddr 4 (.t 2)⟩,
 ⟨some 39,none,.load false 1 (.t 38)⟩,
 ⟨some 40,none,.call (.c (.fn 42 [] [])) [.t 39]⟩,
 ⟨some 41,none,.build [.int .i64 0,.nils,.nils,.nils,.nils] [(0,1,(.t 31)),(1,1,(.t 34)),(3,1,(.t 37)),(4,1,(.t 40))]⟩,
 ⟨none,none,.store 5 (.t 8) (.t 41)⟩] [(2,5),(2,8),(2,11),(7,5),(10,5),(10,8)])
 (.seq (.reg [⟨some 9,none,.mv (.c (.nils))⟩])
 (.seq (.seq (.reg [⟨some 42,none,.load true 5 (.t 2)⟩,
 ⟨some 43,none,.call (.c (.fn 59 [] [])) [.t 42]⟩,
 ⟨some 44,none,.mv (.c (.int .i64 0))⟩])
 (.block 0 (.loop L29_0)))
 (.seq (.seq (.reg [⟨some 58,none,.faddr 2 (.t 2)⟩,
 ⟨some 59,none,.load false 1 (.t 58)⟩,
 ⟨some 60,none,.len false (.t 59)⟩,
 ⟨some 61,none,.mv (.c (.int .i64 0))⟩])
 (.block 2 (.loop L29_1)))
 (.seq (.reg [⟨some 15,none,.mv (.c (.nils))⟩])
 (.seq (.seq (.reg [⟨some 92,none,.bslice false 1 [.str []] 2 [(0,(.c (.str [115,116,117,99,107,48]))),(1,(.c (.str [115,116,117,99,107,49])))]⟩,
 ⟨some 93,none,.len false (.t 92)⟩,
 ⟨some 94,none,.mv (.c (.int .i64 0))⟩])
 (.block 4 (.loop L29_4)))
 (.seq (.reg [⟨some 155,none,.load true 5 (.t 8)⟩,
 ⟨some 156,none,.mv (.t 15)⟩,
 ⟨none,none,.store 5 (.t 4) (.t 155)⟩,
 ⟨some 5,none,.mv (.t 156)⟩])
 (.ret)))))))))))) false false
theorem mk29 : cFun Tryz.prog false false Tryz.f29 = some ir29 := by kernel_rfl
def ir30 : Fun := .mk 11 [.t 2] (
 .seq (.reg [⟨some 1,none,.box (.t 0)⟩,
 ⟨some 2,none,.mv (.c (.int .i64 0))⟩])
 (.seq (.reg [⟨some 6,none,.load true 5 (.t 1)⟩,
 ⟨some 7,none,.call (.c (.fn 64 [] [])) [.t 6]⟩,
 ⟨some 5,none,.mv (.t 7)⟩,
 ⟨some 8,none,.ext 0 (.t 5)⟩,
 ⟨some 9,none,.ext 1 (.t 5)⟩,
 ⟨some 3,none,.mv (.t 8)⟩,
 ⟨some 4,none,.mv (.t 9)⟩])
 (.seq (.reg [⟨some 10,none,.mv (.t 4)⟩,
 ⟨some 2,none,.mv (.t 10)⟩])
 (.ret)))) false false
theorem mk30 : cFun Tryz.prog false false Tryz.f30 = some ir30 := by kernel_rfl
def ir31 : Fun := .mk 14 [.t 4] (
 .seq (.reg [⟨some 2,none,.box (.t 0)⟩,
 ⟨some 3,none,.box (.t 1)⟩,
 ⟨some 4,none,.mv (.c (.int .i64 0))⟩])
 (.seq (.seq (.reg [⟨some 6,none,.load true 5 (.t 2)⟩,
 ⟨some 7,none,.call (.c (.fn 33 [] [])) [.t 6]⟩,
 ⟨some 5,none,.mv (.t 7)⟩])
 (.seq (.reg [⟨some 8,none,.mv (.t 5)⟩,
 ⟨some 9,none,.bin false .neq (.t 8) (.c (.int .i64 0))⟩])
 (.cond (.t 9) (.seq (.reg [⟨some 10,none,.mv (.t 5)⟩,
 ⟨some 4,none,.mv (.t 10)⟩])
 (.ret))
 (.skip))))
 (.seq (.reg [⟨some 11,none,.load true 5 (.t 2)⟩,
 ⟨some 12,none,.load true 2 (.t 3)⟩,
 ⟨some 13,none,.call (.c (.fn 36 [] [])) [.t 11,.t 12]⟩,
 ⟨some 4,none,.mv (.t 13)⟩])
 (.ret)))) false false
theorem mk31 : cFun Tryz.prog false false Tryz.f31 = some ir31 := by kernel_rfl
def L33_0 : C := (
 .seq (.seq (.reg [⟨some 25,none,.mv (.t 3)⟩,
 ⟨some 26,none,.faddr 1 (.t 1)⟩,
 ⟨some 27,none,.load false 1 (.t 26)⟩,
 ⟨some 28,none,.len false (.t 27)⟩,
 ⟨some 29,none,.bin false .lss (.t 25) (.t 28)⟩])
 (.cond (.t 29) (.skip)
 (.exit 0)))
 (.seq (.block 1 (.seq (.reg [⟨some 32,none,.load true 5 (.t 1)⟩,
 ⟨some 33,none,.faddr 0 (.t 1)⟩,
 ⟨some 34,none,.load false 1 (.t 33)⟩,
 ⟨some 35,none,.bin false .mul (.c (.int .i64 2)) (.t 34)⟩,
 ⟨some 36,none,.mv (.t 3)⟩,
 ⟨some 37,none,.bin false .add (.t 35) (.t 36)⟩,
 ⟨some 38,none,.call (.c (.fn 71 [] [])) [.t 32,.t 37]⟩,
 ⟨some 4,none,.mv (.t 38)⟩])
 (.seq (.reg [⟨some 39,none,.mv (.t 4)⟩,
 ⟨some 40,none,.bin false .neq (.t 39) (.c (.int .i64 0))⟩])
 (.cond (.t 40) (.seq (.reg [⟨some 41,none,.mv (.t 4)⟩,
 ⟨some 2,none,.mv (.t 41)⟩])
 (.ret))
 (.skip)))))
 (.reg [⟨some 30,none,.mv (.t 3)⟩,
 ⟨some 31,none,.bin false .add (.t 30) (.c (.int .i64 1))⟩,
 ⟨some 3,none,.mv (.t 31)⟩])))
def L33_1 : C := (
 .seq (.seq (.reg [⟨some 42,none,.mv (.t 5)⟩,
 ⟨some 43,none,.faddr 2 (.t 1)⟩,
 ⟨some 44,none,.load false 1 (.t 43)⟩,
 ⟨some 45,none,.len false (.t 44)⟩,
 ⟨some 46,none,.bin false .lss (.t 42) (.t 45)⟩])
 (.cond (.t 46) (.skip)
 (.exit 2)))
 (.seq (.block 3 (.seq (.reg [⟨some 49,none,.load true 5 (.t 1)⟩,
 ⟨some 50,none,.mv (.t 5)⟩,
 ⟨some 51,none,.call (.c (.fn 72 [] [])) [.t 49,.t 50]⟩,
 ⟨some 6,none,.mv (.t 51)⟩])
 (.seq (.reg [⟨some 52,none,.mv (.t 6)⟩,
 ⟨some 53,none,.bin false .neq (.t 52) (.c (.int .i64 0))⟩])
 (.cond (.t 53) (.seq (.reg [⟨some 54,none,.mv (.t 6)⟩,
 ⟨some 2,none,.mv (.t 54)⟩])
 (.ret))
 (.skip)))))
 (.reg [⟨some 47,none,.mv (.t 5)⟩,
 ⟨some 48,none,.bin false .add (.t 47) (.c (.int .i64 1))⟩,
 ⟨some 5,none,.mv (.t 48)⟩])))
def ir33 : Fun := .mk 57 [.t 2] (
 .seq (.reg [⟨some 1,none,.box (.t 0)⟩,
 ⟨some 2,none,.mv (.c (.int .i64 0))⟩])
 (.seq (.seq (.reg [⟨some 7,none,.faddr 0 (.t 1)⟩,
 ⟨some 8,none,.load false 1 (.t 7)⟩,
 ⟨some 9,none,.bin false .lss (.t 8) (.c (.int .i64 1))⟩,
 ⟨some 10,none,.mv (.t 9)⟩,
 ⟨some 11,some (10,false),.faddr 0 (.t 1)⟩,
 ⟨some 12,some (10,false),.load false 1 (.t 11)⟩,
 ⟨some 13,some (10,false),.bin false .gtr (.t 12) (.c (.int .i64 6))⟩,
 ⟨some 14,none,.pick (.t 10) (.c (.bool true)) (.t 13)⟩])
 (.cond (.t 14) (.seq (.reg [⟨some 2,none,.mv (.c (.int .i64 2))⟩])
 (.ret))
 (.skip)))
 (.seq (.seq (.reg [⟨some 15,none,.faddr 1 (.t 1)⟩,
 ⟨some 16,none,.load false 1 (.t 15)⟩,
 ⟨some 17,none,.len false (.t 16)⟩,
 ⟨some 18,none,.bin false .gtr (.t 17) (.c (.int .i64 16))⟩,
 ⟨some 19,none,.mv (.t 18)⟩,
 ⟨some 20,some (19,false),.faddr 2 (.t 1)⟩,
 ⟨some 21,some (19,false),.load false 1 (.t 20)⟩,
 ⟨some 22,some (19,false),.len false (.t 21)⟩,
 ⟨some 23,some (19,false),.bin false .gtr (.t 22) (.c (.int .i64 64))⟩,
 ⟨some 24,none,.pick (.t 19) (.c (.bool true)) (.t 23)⟩])
 (.cond (.t 24) (.seq (.reg [⟨some 2,none,.mv (.c (.int .i64 5))⟩])
 (.ret))
 (.skip)))
 (.seq (.seq (.reg [⟨some 3,none,.mv (.c (.int .i64 0))⟩])
 (.block 0 (.loop L33_0)))
 (.seq (.seq (.reg [⟨some 5,none,.mv (.c (.int .i64 0))⟩])
 (.block 2 (.loop L33_1)))
 (.seq (.reg [⟨some 55,none,.load true 5 (.t 1)⟩,
 ⟨some 56,none,.call (.c (.fn 73 [] [])) [.t 55]⟩,
 ⟨some 2,none,.mv (.t 56)⟩])
 (.ret))))))) false false
theorem mk33 : cFun Tryz.prog false false Tryz.f33 = some ir33 := by kernel_rfl
def ir34 : Fun := .mk 31 [.t 4] (
 .seq (.reg [⟨some 2,none,.box (.t 0)⟩,
 ⟨some 3,none,.box (.t 1)⟩,
 ⟨some 4,none,.mv (.c (.int .i64 0))⟩])
 (.seq (.seq (.reg [⟨some 6,none,.call (.c (.fn 55 [] [])) []⟩,
 ⟨some 5,none,.alloc [.str [],.bool false,.int .i64 0,.nilfn,.str [],.bool false,.int .i64 0,.nilfn,.str [],.bool false,.int .i64 0,.nilfn,.str [],.bool false,.int .i64 0,.nilfn,.str [],.bool false,.int .i64 0,.nilfn,.str [],.bool false,.int .i64 0,.nilfn]⟩,
 ⟨none,none,.store 24 (.t 5) (.t 6)⟩])
 (.block 0 (.seq (.reg [⟨some 8,none,.faddr 0 (.t 3)⟩,
 ⟨some 9,none,.load false 1 (.t 8)⟩,
 ⟨some 10,none,.bin false .lss (.t 9) (.c (.int .i64 0))⟩,
 ⟨some 11,none,.mv (.t 10)⟩,
 ⟨some 12,some (11,false),.faddr 0 (.t 3)⟩,
 ⟨some 13,some (11,false),.load false 1 (.t 12)⟩,
 ⟨some 14,some (11,false),.bin false .geq (.t 13) (.c (.int .i64 6))⟩,
 ⟨some 15,none,.pick (.t 11) (.c (.bool true)) (.t 14)⟩,
 ⟨some 7,none,.mv (.t 15)⟩])
 (.cond (.t 7) (.seq (.reg [⟨some 4,none,.mv (.c (.int .i64 1))⟩])
 (.ret))
 (.seq (.draw [⟨some 17,none,.faddr 1 (.t 3)⟩,
 ⟨some 18,none,.load false 1 (.t 17)⟩,
 ⟨some 19,none,.bin false .lss (.t 18) (.c (.int .i64 0))⟩,
 ⟨some 20,none,.mv (.t 19)⟩,
 ⟨some 21,some (20,false),.faddr 1 (.t 3)⟩,
 ⟨some 22,some (20,false),.load false 1 (.t 21)⟩,
 ⟨some 23,some (20,false),.load true 5 (.t 2)⟩,
 ⟨some 24,some (20,false),.faddr 0 (.t 3)⟩,
 ⟨some 25,some (20,false),.load false 1 (.t 24)⟩,
 ⟨some 26,some (20,false),.iaddrA 6 4 (.t 5) (.t 25)⟩,
 ⟨some 27,some (20,false),.load true 4 (.t 26)⟩,
 ⟨some 28,some (20,false),.call (.c (.fn 56 [] [])) [.t 23,.t 27]⟩,
 ⟨some 29,some (20,false),.bin false .geq (.t 22) (.t 28)⟩,
 ⟨some 30,none,.pick (.t 20) (.c (.bool true)) (.t 29)⟩,
 ⟨some 16,none,.mv (.t 30)⟩] [(5,11)])
 (.cond (.t 16) (.seq (.reg [⟨some 4,none,.mv (.c (.int .i64 2))⟩])
 (.ret))
 (.skip)))))))
 (.seq (.reg [⟨some 4,none,.mv (.c (.int .i64 0))⟩])
 (.ret)))) false false
theorem mk34 : cFun Tryz.prog false false Tryz.f34 = some ir34 := by kernel_rfl
def ir36 : Fun := .mk 25 [.t 4] (
 .seq (.reg [⟨some 2,none,.box (.t 0)⟩,
 ⟨some 3,none,.box (.t 1)⟩,
 ⟨some 4,none,.mv (.c (.int .i64 0))⟩])
 (.seq (.seq (.reg [⟨some 5,none,.faddr 0 (.t 3)⟩,
 ⟨some 6,none,.load false 1 (.t 5)⟩,
 ⟨some 7,none,.bin false .lss (.t 6) (.c (.int .i64 0))⟩,
 ⟨some 8,none,.mv (.t 7)⟩,
 ⟨some 9,some (8,false),.faddr 0 (.t 3)⟩,
 ⟨some 10,some (8,false),.load false 1 (.t 9)⟩,
 ⟨some 11,some (8,false),.bin false .geq (.t 10) (.c (.int .i64 6))⟩,
 ⟨some 12,none,.pick (.t 8) (.c (.bool true)) (.t 11)⟩])
 (.cond (.t 12) (.seq (.reg [⟨some 4,none,.mv (.c (.int .i64 1))⟩])
 (.ret))
 (.skip)))
 (.seq (.seq (.draw [⟨some 13,none,.faddr 1 (.t 3)⟩,
 ⟨some 14,none,.load false 1 (.t 13)⟩,
 ⟨some 15,none,.bin false .lss (.t 14) (.c (.int .i64 0))⟩,
 ⟨some 16,none,.mv (.t 15)⟩,
 ⟨some 17,some (16,false),.faddr 1 (.t 3)⟩,
 ⟨some 18,some (16,false),.load false 1 (.t 17)⟩,
 ⟨some 19,some (16,false),.load true 5 (.t 2)⟩,
 ⟨some 20,some (16,false),.faddr 0 (.t 3)⟩,
 ⟨some 21,some (16,false),.load false 1 (.t 20)⟩,
 ⟨some 22,some (16,false),.call (.c (.fn 77 [] [])) [.t 19,.t 21]⟩,
 ⟨some 23,some (16,false),.bin false .geq (.t 18) (.t 22)⟩,
 ⟨some 24,none,.pick (.t 16) (.c (.bool true)) (.t 23)⟩] [(5,9)])
 (.cond (.t 24) (.seq (.reg [⟨some 4,none,.mv (.c (.int .i64 2))⟩])
 (.ret))
 (.skip)))
 (.seq (.reg [⟨some 4,none,.mv (.c (.int .i64 0))⟩])
 (.ret))))) false false
theorem mk36 : cFun Tryz.prog false false Tryz.f36 = some ir36 := by kernel_rfl
def ir40 : Fun := .mk 31 [.t 2] (
 .seq (.reg [⟨some 1,none,.box (.t 0)⟩,
 ⟨some 2,none,.mv (.c (.bool false))⟩])
 (.seq (.reg [⟨some 3,none,.faddr 0 (.t 1)⟩,
 ⟨some 4,none,.load false 1 (.t 3)⟩,
 ⟨some 5,none,.len false (.t 4)⟩,
 ⟨some 6,none,.bin false .leq (.t 5) (.c (.int .i64 40))⟩,
 ⟨some 7,none,.mv (.t 6)⟩,
 ⟨some 8,some (7,true),.faddr 1 (.t 1)⟩,
 ⟨some 9,some (7,true),.load false 1 (.t 8)⟩,
 ⟨some 10,some (7,true),.len false (.t 9)⟩,
 ⟨some 11,some (7,true),.bin false .leq (.t 10) (.c (.int .i64 40))⟩,
 ⟨some 12,none,.pick (.t 7) (.t 11) (.c (.bool false))⟩,
 ⟨some 13,none,.mv (.t 12)⟩,
 ⟨some 14,some (13,true),.faddr 2 (.t 1)⟩,
 ⟨some 15,some (13,true),.load false 1 (.t 14)⟩,
 ⟨some 16,some (13,true),.len false (.t 15)⟩,
 ⟨some 17,some (13,true),.bin false .leq (.t 16) (.c (.int .i64 200))⟩,
 ⟨some 18,none,.pick (.t 13) (.t 17) (.c (.bool false))⟩,
 ⟨some 19,none,.mv (.t 18)⟩,
 ⟨some 20,some (19,true),.faddr 3 (.t 1)⟩,
 ⟨some 21,some (19,true),.load false 1 (.t 20)⟩,
 ⟨some 22,some (19,true),.len false (.t 21)⟩,
 ⟨some 23,some (19,true),.bin false .leq (.t 22) (.c (.int .i64 200))⟩,
 ⟨some 24,none,.pick (.t 19) (.t 23) (.c (.bool false))⟩,
 ⟨some 25,none,.mv (.t 24)⟩,
 ⟨some 26,some (25,true),.faddr 4 (.t 1)⟩,
 ⟨some 27,some (25,true),.load false 1 (.t 26)⟩,
 ⟨some 28,some (25,true),.len false (.t 27)⟩,
 ⟨some 29,some (25,true),.bin false .leq (.t 28) (.c (.int .i64 200))⟩,
 ⟨some 30,none,.pick (.t 25) (.t 29) (.c (.bool false))⟩,
 ⟨some 2,none,.mv (.t 30)⟩])
 (.ret))) false false
theorem mk40 : cFun Tryz.prog false false Tryz.f40 = some ir40 := by kernel_rfl
def ir41 : Fun := .mk 14 [.t 4] (
 .seq (.reg [⟨some 2,none,.box (.t 0)⟩,
 ⟨some 3,none,.box (.t 1)⟩,
 ⟨some 4,none,.mv (.c (.int .i64 0))⟩])
 (.seq (.seq (.reg [⟨some 6,none,.load true 5 (.t 2)⟩,
 ⟨some 7,none,.call (.c (.fn 30 [] [])) [.t 6]⟩,
 ⟨some 5,none,.mv (.t 7)⟩])
 (.seq (.reg [⟨some 8,none,.mv (.t 5)⟩,
 ⟨some 9,none,.bin false .neq (.t 8) (.c (.int .i64 0))⟩])
 (.cond (.t 9) (.seq (.reg [⟨some 10,none,.mv (.t 5)⟩,
 ⟨some 4,none,.mv (.t 10)⟩])
 (.ret))
 (.skip))))
 (.seq (.reg [⟨some 11,none,.load true 5 (.t 2)⟩,
 ⟨some 12,none,.load true 5 (.t 3)⟩,
 ⟨some 13,none,.call (.c (.fn 79 [] [])) [.t 11,.t 12]⟩,
 ⟨some 4,none,.mv (.t 13)⟩])
 (.ret)))) false false
theorem mk41 : cFun Tryz.prog false false Tryz.f41 = some ir41 := by kernel_rfl
def ir42 : Fun := .mk 8 [.t 2] (
 .seq (.reg [⟨some 2,none,.mv (.c (.nils))⟩])
 (.seq (.seq (.reg [⟨some 3,none,.mv (.t 0)⟩,
 ⟨some 4,none,.isnil false (.t 3)⟩])
 (.cond (.t 4) (.seq (.reg [⟨some 2,none,.mv (.c (.nils))⟩])
 (.ret))
 (.skip)))
 (.seq (.reg [⟨some 5,none,.bslice false 1 [.int .i64 0] 0 []⟩,
 ⟨some 6,none,.mv (.t 0)⟩,
 ⟨some 7,none,.app 1 8 (.t 5) (.t 6)⟩,
 ⟨some 2,none,.mv (.t 7)⟩])
 (.ret)))) true false
theorem mk42 : cFun Tryz.prog true false Tryz.f42 = some ir42 := by kernel_rfl
def ir43 : Fun := .mk 8 [.t 2] (
 .seq (.reg [⟨some 2,none,.mv (.c (.nils))⟩])
 (.seq (.seq (.reg [⟨some 3,none,.mv (.t 0)⟩,
 ⟨some 4,none,.isnil false (.t 3)⟩])
 (.cond (.t 4) (.seq (.reg [⟨some 2,none,.mv (.c (.nils))⟩])
 (.ret))
 (.skip)))
 (.seq (.reg [⟨some 5,none,.bslice false 1 [.bool false] 0 []⟩,
 ⟨some 6,none,.mv (.t 0)⟩,
 ⟨some 7,none,.app 1 1 (.t 5) (.t 6)⟩,
 ⟨some 2,none,.mv (.t 7)⟩])
 (.ret)))) true false
theorem mk43 : cFun Tryz.prog true false Tryz.f43 = some ir43 := by kernel_rfl
def L44_0 : C := (
 .seq (.reg [⟨some 12,none,.bin false .lss (.t 11) (.t 10)⟩])
 (.seq (.cond (.t 12) (.skip)
 (.exit 0))
 (.seq (.block 1 (.seq (.reg [⟨some 13,none,.iaddrL 1 (.t 9) (.t 11)⟩,
 ⟨some 14,none,.load false 1 (.t 13)⟩,
 ⟨some 5,none,.mv (.t 14)⟩])
 (.seq (.reg [⟨some 15,none,.mv (.t 3)⟩,
 ⟨some 16,none,.mv (.t 5)⟩,
 ⟨some 17,none,.len false (.t 16)⟩,
 ⟨some 18,none,.bin false .add (.t 15) (.t 17)⟩,
 ⟨some 3,none,.mv (.t 18)⟩])
 (.seq (.reg [⟨some 19,none,.mv (.t 3)⟩,
 ⟨some 20,none,.bin false .lss (.t 19) (.c (.int .i64 0))⟩])
 (.cond (.t 20) (.reg [⟨some 21,none,.stuck⟩,
 ⟨none,none,.stuck⟩])
 (.skip))))))
 (.reg [⟨some 22,none,.bin false .add (.t 11) (.c (.int .i64 1))⟩,
 ⟨some 11,none,.mv (.t 22)⟩]))))
def L44_1 : C := (
 .seq (.reg [⟨some 28,none,.bin false .lss (.t 27) (.t 26)⟩])
 (.seq (.cond (.t 28) (.skip)
 (.exit 2))
 (.seq (.block 3 (.seq (.reg [⟨some 29,none,.iaddrL 1 (.t 25) (.t 27)⟩,
 ⟨some 30,none,.load false 1 (.t 29)⟩,
 ⟨some 8,none,.mv (.t 30)⟩])
 (.reg [⟨some 31,none,.mv (.t 6)⟩,
 ⟨some 32,none,.mv (.t 8)⟩,
 ⟨some 33,none,.app 1 1 (.t 31) (.t 32)⟩,
 ⟨some 6,none,.mv (.t 33)⟩])))
 (.reg [⟨some 34,none,.bin false .add (.t 27) (.c (.int .i64 1))⟩,
 ⟨some 27,none,.mv (.t 34)⟩]))))
def ir44 : Fun := .mk 36 [.t 2] (
 .seq (.reg [⟨some 2,none,.mv (.c (.nils))⟩])
 (.seq (.reg [⟨some 3,none,.mv (.c (.int .i64 0))⟩])
 (.seq (.seq (.reg [⟨some 9,none,.mv (.t 0)⟩,
 ⟨some 10,none,.len false (.t 9)⟩,
 ⟨some 11,none,.mv (.c (.int .i64 0))⟩])
 (.block 0 (.loop L44_0)))
 (.seq (.reg [⟨some 23,none,.mv (.t 3)⟩,
 ⟨some 24,none,.call (.c (.fn 80 [] [])) [.c (.nils),.t 23]⟩,
 ⟨some 6,none,.mv (.t 24)⟩])
 (.seq (.seq (.reg [⟨some 25,none,.mv (.t 0)⟩,
 ⟨some 26,none,.len false (.t 25)⟩,
 ⟨some 27,none,.mv (.c (.int .i64 0))⟩])
 (.block 2 (.loop L44_1)))
 (.seq (.reg [⟨some 35,none,.mv (.t 6)⟩,
 ⟨some 2,none,.mv (.t 35)⟩])
 (.ret))))))) true false
theorem mk44 : cFun Tryz.prog true false Tryz.f44 = some ir44 := by kernel_rfl
def L45_0 : C := (
 .seq (.reg [⟨some 12,none,.bin false .lss (.t 11) (.t 10)⟩])
 (.seq (.cond (.t 12) (.skip)
 (.exit 0))
 (.seq (.block 1 (.seq (.reg [⟨some 13,none,.iaddrL 1 (.t 9) (.t 11)⟩,
 ⟨some 14,none,.load false 1 (.t 13)⟩,
 ⟨some 5,none,.mv (.t 14)⟩])
 (.seq (.reg [⟨some 15,none,.mv (.t 3)⟩,
 ⟨some 16,none,.mv (.t 5)⟩,
 ⟨some 17,none,.len false (.t 16)⟩,
 ⟨some 18,none,.bin false .add (.t 15) (.t 17)⟩,
 ⟨some 3,none,.mv (.t 18)⟩])
 (.seq (.reg [⟨some 19,none,.mv (.t 3)⟩,
 ⟨some 20,none,.bin false .lss (.t 19) (.c (.int .i64 0))⟩])
 (.cond (.t 20) (.reg [⟨some 21,none,.stuck⟩,
 ⟨none,none,.stuck⟩])
 (.skip))))))
 (.reg [⟨some 22,none,.bin false .add (.t 11) (.c (.int .i64 1))⟩,
 ⟨some 11,none,.mv (.t 22)⟩]))))
def L45_1 : C := (
 .seq (.reg [⟨some 28,none,.bin false .lss (.t 27) (.t 26)⟩])
 (.seq (.cond (.t 28) (.skip)
 (.exit 2))
 (.seq (.block 3 (.seq (.reg [⟨some 29,none,.iaddrL 1 (.t 25) (.t 27)⟩,
 ⟨some 30,none,.load false 1 (.t 29)⟩,
 ⟨some 8,none,.mv (.t 30)⟩])
 (.reg [⟨some 31,none,.mv (.t 6)⟩,
 ⟨some 32,none,.mv (.t 8)⟩,
 ⟨some 33,none,.app 1 8 (.t 31) (.t 32)⟩,
 ⟨some 6,none,.mv (.t 33)⟩])))
 (.reg [⟨some 34,none,.bin false .add (.t 27) (.c (.int .i64 1))⟩,
 ⟨some 27,none,.mv (.t 34)⟩]))))
def ir45 : Fun := .mk 36 [.t 2] (
 .seq (.reg [⟨some 2,none,.mv (.c (.nils))⟩])
 (.seq (.reg [⟨some 3,none,.mv (.c (.int .i64 0))⟩])
 (.seq (.seq (.reg [⟨some 9,none,.mv (.t 0)⟩,
 ⟨some 10,none,.len false (.t 9)⟩,
 ⟨some 11,none,.mv (.c (.int .i64 0))⟩])
 (.block 0 (.loop L45_0)))
 (.seq (.reg [⟨some 23,none,.mv (.t 3)⟩,
 ⟨some 24,none,.call (.c (.fn 81 [] [])) [.c (.nils),.t 23]⟩,
 ⟨some 6,none,.mv (.t 24)⟩])
 (.seq (.seq (.reg [⟨some 25,none,.mv (.t 0)⟩,
 ⟨some 26,none,.len false (.t 25)⟩,
 ⟨some 27,none,.mv (.c (.int .i64 0))⟩])
 (.block 2 (.loop L45_1)))
 (.seq (.reg [⟨some 35,none,.mv (.t 6)⟩,
 ⟨some 2,none,.mv (.t 35)⟩])
 (.ret))))))) true false
theorem mk45 : cFun Tryz.prog true false Tryz.f45 = some ir45 := by kernel_rfl
def L46_0 : C := (
 .seq (.seq (.reg [⟨some 34,none,.mv (.t 8)⟩,
 ⟨some 35,none,.mv (.t 7)⟩,
 ⟨some 36,none,.len false (.t 35)⟩,
 ⟨some 37,none,.bin false .lss (.t 34) (.t 36)⟩])
 (.cond (.t 37) (.skip)
 (.exit 0)))
 (.block 1 (.draw [⟨some 38,none,.mv (.t 8)⟩,
 ⟨some 39,none,.mv (.t 7)⟩,
 ⟨some 40,none,.mv (.t 8)⟩,
 ⟨some 41,none,.slcL 1 (.t 39) (some (.t 40)) none none⟩,
 ⟨some 42,none,.mv (.t 7)⟩,
 ⟨some 43,none,.mv (.t 8)⟩,
 ⟨some 44,none,.slcL 1 (.t 42) none (some (.t 43)) none⟩,
 ⟨some 45,none,.cpy 1 (.t 41) (.t 44)⟩,
 ⟨some 46,none,.bin false .add (.t 38) (.t 45)⟩,
 ⟨some 8,none,.mv (.t 46)⟩] [])))
def ir46 : Fun := .mk 48 [.t 4] (
 .seq (.reg [⟨some 4,none,.mv (.c (.nils))⟩])
 (.seq (.seq (.reg [⟨some 9,none,.mv (.t 1)⟩,
 ⟨some 10,none,.bin false .lss (.t 9) (.c (.int .i64 0))⟩])
 (.cond (.t 10) (.reg [⟨some 11,none,.stuck⟩,
 ⟨none,none,.stuck⟩])
 (.skip)))
 (.seq (.reg [⟨some 13,none,.mv (.t 0)⟩,
 ⟨some 14,none,.len false (.t 13)⟩,
 ⟨some 15,none,.conv (.int .u64) (.t 14)⟩,
 ⟨some 16,none,.mv (.t 1)⟩,
 ⟨some 17,none,.conv (.int .u64) (.t 16)⟩,
 ⟨some 18,none,.call (.c (.fn 82 [] [])) [.t 15,.t 17]⟩,
 ⟨some 12,none,.mv (.t 18)⟩,
 ⟨some 19,none,.ext 0 (.t 12)⟩,
 ⟨some 20,none,.ext 1 (.t 12)⟩,
 ⟨some 5,none,.mv (.t 19)⟩,
 ⟨some 6,none,.mv (.t 20)⟩])
 (.seq (.seq (.reg [⟨some 21,none,.mv (.t 5)⟩,
 ⟨some 22,none,.bin false .gtr (.t 21) (.c (.int .u64 0))⟩,
 ⟨some 23,none,.mv (.t 22)⟩,
 ⟨some 24,some (23,false),.mv (.t 6)⟩,
 ⟨some 25,some (23,false),.bin false .gtr (.t 24) (.c (.int .u64 9223372036854775807))⟩,
 ⟨some 26,none,.pick (.t 23) (.c (.bool true)) (.t 25)⟩])
 (.cond (.t 26) (.reg [⟨some 27,none,.stuck⟩,
 ⟨none,none,.stuck⟩])
 (.skip)))
 (.seq (.reg [⟨some 28,none,.mv (.t 6)⟩,
 ⟨some 29,none,.conv (.int .i64) (.t 28)⟩,
 ⟨some 30,none,.mkslice 1 8 [.int .i64 0] (.t 29) (.t 29)⟩,
 ⟨some 7,none,.mv (.t 30)⟩])
 (.seq (.reg [⟨some 31,none,.mv (.t 7)⟩,
 ⟨some 32,none,.mv (.t 0)⟩,
 ⟨some 33,none,.cpy 1 (.t 31) (.t 32)⟩,
 ⟨some 8,none,.mv (.t 33)⟩])
 (.seq (.block 0 (.loop L46_0))
 (.seq (.reg [⟨some 47,none,.mv (.t 7)⟩,
 ⟨some 4,none,.mv (.t 47)⟩])
 (.ret))))))))) false false
theorem mk46 : cFun Tryz.prog false false Tryz.f46 = some ir46 := by kernel_rfl
def L49_0 : C := (
 .seq (.seq (.reg [⟨some 50,none,.mv (.t 5)⟩,
 ⟨some 51,none,.faddr 0 (.t 3)⟩,
 ⟨some 52,none,.load false 1 (.t 51)⟩,
 ⟨some 53,none,.len false (.t 52)⟩,
 ⟨some 54,none,.bin false .lss (.t 50) (.t 53)⟩])
 (.cond (.t 54) (.skip)
 (.exit 0)))
 (.seq (.block 1 (.seq (.reg [⟨some 57,none,.faddr 0 (.t 3)⟩,
 ⟨some 58,none,.load false 1 (.t 57)⟩,
 ⟨some 59,none,.mv (.t 5)⟩,
 ⟨some 60,none,.iaddrL 1 (.t 58) (.t 59)⟩,
 ⟨some 61,none,.load false 1 (.t 60)⟩,
 ⟨some 62,none,.bin false .lss (.t 61) (.c (.int .i64 0))⟩,
 ⟨some 63,none,.mv (.t 62)⟩,
 ⟨some 64,some (63,false),.faddr 0 (.t 3)⟩,
 ⟨some 65,some (63,false),.load false 1 (.t 64)⟩,
 ⟨some 66,some (63,false),.mv (.t 5)⟩,
 ⟨some 67,some (63,false),.iaddrL 1 (.t 65) (.t 66)⟩,
 ⟨some 68,some (63,false),.load false 1 (.t 67)⟩,
 ⟨some 69,some (63,false),.bin false .geq (.t 68) (.c (.int .i64 4))⟩,
 ⟨some 70,none,.pick (.t 63) (.c (.bool true)) (.t 69)⟩])
 (.cond (.t 70) (.seq (.reg [⟨some 4,none,.mv (.c (.int .i64 1))⟩])
 (.ret))
 (.skip))))
 (.reg [⟨some 55,none,.mv (.t 5)⟩,
 ⟨some 56,none,.bin false .add (.t 55) (.c (.int .i64 1))⟩,
 ⟨some 5,none,.mv (.t 56)⟩])))
def L49_1 : C := (
 .seq (.seq (.reg [⟨some 71,none,.mv (.t 6)⟩,
 ⟨some 72,none,.faddr 4 (.t 3)⟩,
 ⟨some 73,none,.load false 1 (.t 72)⟩,
 ⟨some 74,none,.len false (.t 73)⟩,
 ⟨some 75,none,.bin false .lss (.t 71) (.t 74)⟩])
 (.cond (.t 75) (.skip)
 (.exit 2)))
 (.seq (.block 3 (.seq (.reg [⟨some 78,none,.faddr 4 (.t 3)⟩,
 ⟨some 79,none,.load false 1 (.t 78)⟩,
 ⟨some 80,none,.mv (.t 6)⟩,
 ⟨some 81,none,.iaddrL 1 (.t 79) (.t 80)⟩,
 ⟨some 82,none,.load false 1 (.t 81)⟩,
 ⟨some 83,none,.bin false .lss (.t 82) (.c (.int .i64 0))⟩,
 ⟨some 84,none,.mv (.t 83)⟩,
 ⟨some 85,some (84,false),.faddr 4 (.t 3)⟩,
 ⟨some 86,some (84,false),.load false 1 (.t 85)⟩,
 ⟨some 87,some (84,false),.mv (.t 6)⟩,
 ⟨some 88,some (84,false),.iaddrL 1 (.t 86) (.t 87)⟩,
 ⟨some 89,some (84,false),.load false 1 (.t 88)⟩,
 ⟨some 90,some (84,false),.bin false .geq (.t 89) (.c (.int .i64 3))⟩,
 ⟨some 91,none,.pick (.t 84) (.c (.bool true)) (.t 90)⟩])
 (.cond (.t 91) (.seq (.reg [⟨some 4,none,.mv (.c (.int .i64 1))⟩])
 (.ret))
 (.skip))))
 (.reg [⟨some 76,none,.mv (.t 6)⟩,
 ⟨some 77,none,.bin false .add (.t 76) (.c (.int .i64 1))⟩,
 ⟨some 6,none,.mv (.t 77)⟩])))
def L49_2 : C := (
 .seq (.seq (.reg [⟨some 92,none,.mv (.t 7)⟩,
 ⟨some 93,none,.faddr 4 (.t 3)⟩,
 ⟨some 94,none,.load false 1 (.t 93)⟩,
 ⟨some 95,none,.len false (.t 94)⟩,
 ⟨some 96,none,.bin false .lss (.t 92) (.t 95)⟩])
 (.cond (.t 96) (.skip)
 (.exit 4)))
 (.seq (.block 5 (.seq (.reg [⟨some 99,none,.faddr 2 (.t 2)⟩,
 ⟨some 100,none,.load false 1 (.t 99)⟩,
 ⟨some 101,none,.mv (.t 7)⟩,
 ⟨some 102,none,.iaddrL 10 (.t 100) (.t 101)⟩,
 ⟨some 103,none,.faddr 1 (.t 102)⟩,
 ⟨some 104,none,.load false 1 (.t 103)⟩,
 ⟨some 105,none,.bin false .eql (.t 104) (.c (.int .i64 2))⟩,
 ⟨some 8,none,.mv (.t 105)⟩])
 (.seq (.draw [⟨some 106,none,.mv (.t 8)⟩,
 ⟨some 107,none,.un .not (.t 106)⟩,
 ⟨some 108,none,.mv (.t 107)⟩,
 ⟨some 109,some (108,true),.faddr 4 (.t 3)⟩,
 ⟨some 110,some (108,true),.load false 1 (.t 109)⟩,
 ⟨some 111,some (108,true),.mv (.t 7)⟩,
 ⟨some 112,some (108,true),.iaddrL 1 (.t 110) (.t 111)⟩,
 ⟨some 113,some (108,true),.load false 1 (.t 112)⟩,
 ⟨some 114,some (108,true),.bin false .neq (.t 113) (.c (.int .i64 0))⟩,
 ⟨some 115,none,.pick (.t 108) (.t 114) (.c (.bool false))⟩,
 ⟨some 116,none,.mv (.t 115)⟩,
 ⟨some 117,some (116,false),.mv (.t 8)⟩,
 ⟨some 118,some (116,false),.mv (.t 117)⟩,
 ⟨some 119,some (118,true),.faddr 3 (.t 3)⟩,
 ⟨some 120,some (118,true),.load false 1 (.t 119)⟩,
 ⟨some 121,some (118,true),.mv (.t 7)⟩,
 ⟨some 122,some (118,true),.iaddrL 1 (.t 120) (.t 121)⟩,
 ⟨some 123,some (118,true),.load false 1 (.t 122)⟩,
 ⟨some 124,some (118,true),.faddr 4 (.t 3)⟩,
 ⟨some 125,some (118,true),.load false 1 (.t 124)⟩,
 ⟨some 126,some (118,true),.mv (.t 7)⟩,
 ⟨some 127,some (118,true),.iaddrL 1 (.t 125) (.t 126)⟩,
 ⟨some 128,some (118,true),.load false 1 (.t 127)⟩,
 ⟨some 129,some (118,true),.bin false .eql (.t 128) (.c (.int .i64 2))⟩,
 ⟨some 130,some (118,true),.bin true .neq (.t 123) (.t 129)⟩,
 ⟨some 131,some (116,false),.pick (.t 118) (.t 130) (.c (.bool false))⟩,
 ⟨some 132,none,.pick (.t 116) (.c (.bool true)) (.t 131)⟩] [])
 (.cond (.t 132) (.seq (.reg [⟨some 4,none,.mv (.c (.int .i64 14))⟩])
 (.ret))
 (.skip)))))
 (.reg [⟨some 97,none,.mv (.t 7)⟩,
 ⟨some 98,none,.bin false .add (.t 97) (.c (.int .i64 1))⟩,
 ⟨some 7,none,.mv (.t 98)⟩])))
def ir49 : Fun := .mk 133 [.t 4] (
 .seq (.reg [⟨some 2,none,.box (.t 0)⟩,
 ⟨some 3,none,.box (.t 1)⟩,
 ⟨some 4,none,.mv (.c (.int .i64 0))⟩])
 (.seq (.seq (.reg [⟨some 9,none,.faddr 0 (.t 3)⟩,
 ⟨some 10,none,.load false 1 (.t 9)⟩,
 ⟨some 11,none,.len false (.t 10)⟩,
 ⟨some 12,none,.faddr 0 (.t 2)⟩,
 ⟨some 13,none,.load false 1 (.t 12)⟩,
 ⟨some 14,none,.bin false .neq (.t 11) (.t 13)⟩,
 ⟨some 15,none,.mv (.t 14)⟩,
 ⟨some 16,some (15,false),.faddr 1 (.t 3)⟩,
 ⟨some 17,some (15,false),.load false 1 (.t 16)⟩,
 ⟨some 18,some (15,false),.len false (.t 17)⟩,
 ⟨some 19,some (15,false),.faddr 0 (.t 2)⟩,
 ⟨some 20,some (15,false),.load false 1 (.t 19)⟩,
 ⟨some 21,some (15,false),.bin false .neq (.t 18) (.t 20)⟩,
 ⟨some 22,none,.pick (.t 15) (.c (.bool true)) (.t 21)⟩,
 ⟨some 23,none,.mv (.t 22)⟩,
 ⟨some 24,some (23,false),.faddr 2 (.t 3)⟩,
 ⟨some 25,some (23,false),.load false 1 (.t 24)⟩,
 ⟨some 26,some (23,false),.len false (.t 25)⟩,
 ⟨some 27,some (23,false),.faddr 1 (.t 2)⟩,
 ⟨some 28,some (23,false),.load false 1 (.t 27)⟩,
 ⟨some 29,some (23,false),.len false (.t 28)⟩,
 ⟨some 30,some (23,false),.bin false .neq (.t 26) (.t 29)⟩,
 ⟨some 31,none,.pick (.t 23) (.c (.bool true)) (.t 30)⟩,
 ⟨some 32,none,.mv (.t 31)⟩,
 ⟨some 33,some (32,false),.faddr 3 (.t 3)⟩,
 ⟨some 34,some (32,false),.load false 1 (.t 33)⟩,
 ⟨some 35,some (32,false),.len false (.t 34)⟩,
 ⟨some 36,some (32,false),.faddr 2 (.t 2)⟩,
 ⟨some 37,some (32,false),.load false 1 (.t 36)⟩,
 ⟨some 38,some (32,false),.len false (.t 37)⟩,
 ⟨some 39,some (32,false),.bin false .neq (.t 35) (.t 38)⟩,
 ⟨some 40,none,.pick (.t 32) (.c (.bool true)) (.t 39)⟩,
 ⟨some 41,none,.mv (.t 40)⟩,
 ⟨some 42,some (41,false),.faddr 4 (.t 3)⟩,
 ⟨some 43,some (41,false),.load false 1 (.t 42)⟩,
 ⟨some 44,some (41,false),.len false (.t 43)⟩,
 ⟨some 45,some (41,false),.faddr 2 (.t 2)⟩,
 ⟨some 46,some (41,false),.load false 1 (.t 45)⟩,
 ⟨some 47,some (41,false),.len false (.t 46)⟩,
 ⟨some 48,some (41,false),.bin false .neq (.t 44) (.t 47)⟩,
 ⟨some 49,none,.pick (.t 41) (.c (.bool true)) (.t 48)⟩])
 (.cond (.t 49) (.seq (.reg [⟨some 4,none,.mv (.c (.int .i64 8))⟩])
 (.ret))
 (.skip)))
 (.seq (.seq (.reg [⟨some 5,none,.mv (.c (.int .i64 0))⟩])
 (.block 0 (.loop L49_0)))
 (.seq (.seq (.reg [⟨some 6,none,.mv (.c (.int .i64 0))⟩])
 (.block 2 (.loop L49_1)))
 (.seq (.seq (.reg [⟨some 7,none,.mv (.c (.int .i64 0))⟩])
 (.block 4 (.loop L49_2)))
 (.seq (.reg [⟨some 4,none,.mv (.c (.int .i64 0))⟩])
 (.ret))))))) false false
theorem mk49 : cFun Tryz.prog false false Tryz.f49 = some ir49 := by kernel_rfl
def L50_0 : C := (
 .seq (.reg [⟨some 33,none,.bin false .lss (.t 32) (.t 31)⟩])
 (.seq (.cond (.t 33) (.skip)
 (.exit 0))
 (.seq (.block 1 (.seq (.reg [⟨some 34,none,.mv (.t 32)⟩,
 ⟨some 35,none,.iaddrL 10 (.t 30) (.t 32)⟩,
 ⟨some 36,none,.load true 10 (.t 35)⟩,
 ⟨some 8,none,.alloc [.str [],.int .i64 0,.int .i64 0,.int .i64 0,.nils,.int .i64 0,.int .i64 0,.nils,.int .i64 0,.bool false]⟩,
 ⟨some 7,none,.mv (.t 34)⟩,
 ⟨none,none,.store 10 (.t 8) (.t 36)⟩])
 (.seq (.reg [⟨some 37,none,.faddr 1 (.t 8)⟩,
 ⟨some 38,none,.load false 1 (.t 37)⟩,
 ⟨some 39,none,.bin false .eql (.t 38) (.c (.int .i64 0))⟩])
 (.cond (.t 39) (.seq (.reg [⟨some 41,none,.faddr 2 (.t 8)⟩,
 ⟨some 42,none,.load true 3 (.t 41)⟩,
 ⟨some 43,none,.mv (.t 6)⟩,
 ⟨some 44,none,.call (.c (.fn 83 [] [])) [.t 42,.t 43]⟩,
 ⟨some 40,none,.mv (.t 44)⟩,
 ⟨some 45,none,.ext 0 (.t 40)⟩,
 ⟨some 46,none,.ext 1 (.t 40)⟩,
 ⟨some 9,none,.mv (.t 45)⟩,
 ⟨some 10,none,.mv (.t 46)⟩])
 (.draw [⟨some 47,none,.faddr 3 (.t 5)⟩,
 ⟨some 48,none,.load false 1 (.t 47)⟩,
 ⟨some 49,none,.mv (.t 7)⟩,
 ⟨some 50,none,.mv (.t 6)⟩,
 ⟨some 51,none,.load true 5 (.t 2)⟩,
 ⟨some 52,none,.call (.c (.fn 84 [] [])) [.t 51]⟩,
 ⟨some 53,none,.mv (.t 7)⟩,
 ⟨some 54,none,.bin false .add (.t 52) (.t 53)⟩,
 ⟨some 55,none,.mv (.t 9)⟩,
 ⟨some 56,none,.mv (.t 9)⟩,
 ⟨some 57,none,.iaddrL 1 (.t 48) (.t 49)⟩,
 ⟨none,none,.store 1 (.t 57) (.t 55)⟩,
 ⟨some 58,none,.iaddrL 1 (.t 50) (.t 54)⟩,
 ⟨none,none,.store 1 (.t 58) (.t 56)⟩] [(1,5)]))
 (.skip)))))
 (.reg [⟨some 59,none,.bin false .add (.t 32) (.c (.int .i64 1))⟩,
 ⟨some 32,none,.mv (.t 59)⟩]))))
def ir50 : Fun := .mk 61 [.cell 4 true 5] (
 .seq (.reg [⟨some 2,none,.box (.t 0)⟩,
 ⟨some 3,none,.box (.t 1)⟩,
 ⟨some 4,none,.alloc [.nils,.nils,.nils,.nils,.nils]⟩])
 (.seq (.draw [⟨some 5,none,.alloc [.nils,.nils,.nils,.nils,.nils]⟩,
 ⟨some 11,none,.faddr 0 (.t 3)⟩,
 ⟨some 12,none,.load false 1 (.t 11)⟩,
 ⟨some 13,none,.call (.c (.fn 42 [] [])) [.t 12]⟩,
 ⟨some 14,none,.faddr 1 (.t 3)⟩,
 ⟨some 15,none,.load false 1 (.t 14)⟩,
 ⟨some 16,none,.call (.c (.fn 43 [] [])) [.t 15]⟩,
 ⟨some 17,none,.faddr 2 (.t 3)⟩,
 ⟨some 18,none,.load false 1 (.t 17)⟩,
 ⟨some 19,none,.call (.c (.fn 43 [] [])) [.t 18]⟩,
 ⟨some 20,none,.faddr 3 (.t 3)⟩,
 ⟨some 21,none,.load false 1 (.t 20)⟩,
 ⟨some 22,none,.call (.c (.fn 43 [] [])) [.t 21]⟩,
 ⟨some 23,none,.faddr 4 (.t 3)⟩,
 ⟨some 24,none,.load false 1 (.t 23)⟩,
 ⟨some 25,none,.call (.c (.fn 42 [] [])) [.t 24]⟩,
 ⟨some 26,none,.build [.nils,.nils,.nils,.nils,.nils] [(0,1,(.t 13)),(1,1,(.t 16)),(2,1,(.t 19)),(3,1,(.t 22)),(4,1,(.t 25))]⟩,
 ⟨none,none,.store 5 (.t 5) (.t 26)⟩] [(5,3),(8,3),(8,6),(11,3),(11,6),(11,9),(14,3),(14,6),(14,9),(14,12)])
 (.seq (.reg [⟨some 27,none,.load true 5 (.t 5)⟩,
 ⟨some 28,none,.call (.c (.fn 52 [] [])) [.t 27]⟩,
 ⟨some 6,none,.mv (.t 28)⟩])
 (.seq (.seq (.reg [⟨some 29,none,.faddr 2 (.t 2)⟩,
 ⟨some 30,none,.load false 1 (.t 29)⟩,
 ⟨some 31,none,.len false (.t 30)⟩,
 ⟨some 32,none,.mv (.c (.int .i64 0))⟩])
 (.block 0 (.loop L50_0)))
 (.seq (.reg [⟨some 60,none,.load true 5 (.t 5)⟩,
 ⟨none,none,.store 5 (.t 4) (.t 60)⟩])
 (.ret)))))) false false
theorem mk50 : cFun Tryz.prog false false Tryz.f50 = some ir50 := by kernel_rfl
def ir51 : Fun := .mk 9 [.t 2] (
 .seq (.reg [⟨some 1,none,.box (.t 0)⟩,
 ⟨some 2,none,.mv (.c (.int .i64 0))⟩])
 (.seq (.draw [⟨some 3,none,.load true 5 (.t 1)⟩,
 ⟨some 4,none,.call (.c (.fn 84 [] [])) [.t 3]⟩,
 ⟨some 5,none,.faddr 2 (.t 1)⟩,
 ⟨some 6,none,.load false 1 (.t 5)⟩,
 ⟨some 7,none,.len false (.t 6)⟩,
 ⟨some 8,none,.bin false .add (.t 4) (.t 7)⟩,
 ⟨some 2,none,.mv (.t 8)⟩] [(3,1)])
 (.ret))) false false
theorem mk51 : cFun Tryz.prog false false Tryz.f51 = some ir51 := by kernel_rfl
def L52_0 : C := (
 .seq (.reg [⟨some 10,none,.bin false .lss (.t 9) (.t 8)⟩])
 (.seq (.cond (.t 10) (.skip)
 (.exit 0))
 (.seq (.block 1 (.seq (.reg [⟨some 11,none,.iaddrL 1 (.t 7) (.t 9)⟩,
 ⟨some 12,none,.load false 1 (.t 11)⟩,
 ⟨some 5,none,.mv (.t 12)⟩])
 (.reg [⟨some 13,none,.mv (.t 3)⟩,
 ⟨some 14,none,.mv (.t 5)⟩,
 ⟨some 15,none,.bin false .eql (.t 14) (.c (.int .i64 0))⟩,
 ⟨some 16,none,.mv (.t 5)⟩,
 ⟨some 17,none,.bin false .eql (.t 16) (.c (.int .i64 2))⟩,
 ⟨some 18,none,.bslice false 1 [.bool false] 2 [(0,(.t 15)),(1,(.t 17))]⟩,
 ⟨some 19,none,.app 1 1 (.t 13) (.t 18)⟩,
 ⟨some 3,none,.mv (.t 19)⟩])))
 (.reg [⟨some 20,none,.bin false .add (.t 9) (.c (.int .i64 1))⟩,
 ⟨some 9,none,.mv (.t 20)⟩]))))
def ir52 : Fun := .mk 28 [.t 2] (
 .seq (.reg [⟨some 1,none,.box (.t 0)⟩,
 ⟨some 2,none,.mv (.c (.nils))⟩])
 (.seq (.reg [⟨some 3,none,.mv (.c (.nils))⟩])
 (.seq (.seq (.reg [⟨some 6,none,.faddr 0 (.t 1)⟩,
 ⟨some 7,none,.load false 1 (.t 6)⟩,
 ⟨some 8,none,.len false (.t 7)⟩,
 ⟨some 9,none,.mv (.c (.int .i64 0))⟩])
 (.block 0 (.loop L52_0)))
 (.seq (.draw [⟨some 21,none,.mv (.t 3)⟩,
 ⟨some 22,none,.faddr 2 (.t 1)⟩,
 ⟨some 23,none,.load false 1 (.t 22)⟩,
 ⟨some 24,none,.app 1 1 (.t 21) (.t 23)⟩,
 ⟨some 25,none,.faddr 3 (.t 1)⟩,
 ⟨some 26,none,.load false 1 (.t 25)⟩,
 ⟨some 27,none,.app 1 1 (.t 24) (.t 26)⟩,
 ⟨some 2,none,.mv (.t 27)⟩] [(5,3)])
 (.ret))))) true false
theorem mk52 : cFun Tryz.prog true false Tryz.f52 = some ir52 := by kernel_rfl
def L53_0 : C := (
 .seq (.seq (.reg [⟨some 7,none,.mv (.t 6)⟩,
 ⟨some 8,none,.faddr 2 (.t 2)⟩,
 ⟨some 9,none,.load false 1 (.t 8)⟩,
 ⟨some 10,none,.len false (.t 9)⟩,
 ⟨some 11,none,.bin false .lss (.t 7) (.t 10)⟩,
 ⟨some 12,none,.mv (.t 11)⟩,
 ⟨some 13,some (12,true),.mv (.t 5)⟩,
 ⟨some 14,some (12,true),.mv (.t 1)⟩,
 ⟨some 15,some (12,true),.bin false .leq (.t 13) (.t 14)⟩,
 ⟨some 16,none,.pick (.t 12) (.t 15) (.c (.bool false))⟩])
 (.cond (.t 16) (.skip)
 (.exit 0)))
 (.seq (.block 1 (.reg [⟨some 19,none,.mv (.t 5)⟩,
 ⟨some 20,none,.faddr 2 (.t 2)⟩,
 ⟨some 21,none,.load false 1 (.t 20)⟩,
 ⟨some 22,none,.mv (.t 6)⟩,
 ⟨some 23,none,.iaddrL 3 (.t 21) (.t 22)⟩,
 ⟨some 24,none,.load true 3 (.t 23)⟩,
 ⟨some 25,none,.mv (.t 1)⟩,
 ⟨some 26,none,.mv (.t 5)⟩,
 ⟨some 27,none,.bin false .sub (.t 25) (.t 26)⟩,
 ⟨some 28,none,.call (.c (.fn 53 [] [])) [.t 24,.t 27]⟩,
 ⟨some 29,none,.bin false .add (.t 19) (.t 28)⟩,
 ⟨some 5,none,.mv (.t 29)⟩]))
 (.reg [⟨some 17,none,.mv (.t 6)⟩,
 ⟨some 18,none,.bin false .add (.t 17) (.c (.int .i64 1))⟩,
 ⟨some 6,none,.mv (.t 18)⟩])))
def ir53 : Fun := .mk 31 [.t 4] (
 .seq (.reg [⟨some 2,none,.box (.t 0)⟩,
 ⟨some 4,none,.mv (.c (.int .i64 0))⟩])
 (.seq (.reg [⟨some 5,none,.mv (.c (.int .i64 1))⟩])
 (.seq (.seq (.reg [⟨some 6,none,.mv (.c (.int .i64 0))⟩])
 (.block 0 (.loop L53_0)))
 (.seq (.reg [⟨some 30,none,.mv (.t 5)⟩,
 ⟨some 4,none,.mv (.t 30)⟩])
 (.ret))))) false false
theorem mk53 : cFun Tryz.prog false false Tryz.f53 = some ir53 := by kernel_rfl
def L54_0 : C := (
 .seq (.seq (.reg [⟨some 14,none,.mv (.t 5)⟩,
 ⟨some 15,none,.faddr 2 (.t 2)⟩,
 ⟨some 16,none,.load false 1 (.t 15)⟩,
 ⟨some 17,none,.len false (.t 16)⟩,
 ⟨some 18,none,.bin false .lss (.t 14) (.t 17)⟩])
 (.cond (.t 18) (.skip)
 (.exit 0)))
 (.seq (.block 1 (.seq (.reg [⟨some 21,none,.faddr 2 (.t 2)⟩,
 ⟨some 22,none,.load false 1 (.t 21)⟩,
 ⟨some 23,none,.mv (.t 5)⟩,
 ⟨some 24,none,.iaddrL 3 (.t 22) (.t 23)⟩,
 ⟨some 25,none,.load true 3 (.t 24)⟩,
 ⟨some 26,none,.mv (.t 1)⟩,
 ⟨some 27,none,.bin false .sub (.t 26) (.c (.int .i64 1))⟩,
 ⟨some 28,none,.call (.c (.fn 54 [] [])) [.t 25,.t 27]⟩,
 ⟨some 29,none,.un .not (.t 28)⟩])
 (.cond (.t 29) (.seq (.reg [⟨some 4,none,.mv (.c (.bool false))⟩])
 (.ret))
 (.skip))))
 (.reg [⟨some 19,none,.mv (.t 5)⟩,
 ⟨some 20,none,.bin false .add (.t 19) (.c (.int .i64 1))⟩,
 ⟨some 5,none,.mv (.t 20)⟩])))
def ir54 : Fun := .mk 30 [.t 4] (
 .seq (.reg [⟨some 2,none,.box (.t 0)⟩,
 ⟨some 4,none,.mv (.c (.bool false))⟩])
 (.seq (.seq (.reg [⟨some 6,none,.mv (.t 1)⟩,
 ⟨some 7,none,.bin false .lss (.t 6) (.c (.int .i64 1))⟩])
 (.cond (.t 7) (.seq (.reg [⟨some 4,none,.mv (.c (.bool false))⟩])
 (.ret))
 (.skip)))
 (.seq (.seq (.reg [⟨some 8,none,.mv (.t 1)⟩,
 ⟨some 9,none,.bin false .eql (.t 8) (.c (.int .i64 1))⟩])
 (.cond (.t 9) (.seq (.reg [⟨some 10,none,.faddr 2 (.t 2)⟩,
 ⟨some 11,none,.load false 1 (.t 10)⟩,
 ⟨some 12,none,.len false (.t 11)⟩,
 ⟨some 13,none,.bin false .eql (.t 12) (.c (.int .i64 0))⟩,
 ⟨some 4,none,.mv (.t 13)⟩])
 (.ret))
 (.skip)))
 (.seq (.seq (.reg [⟨some 5,none,.mv (.c (.int .i64 0))⟩])
 (.block 0 (.loop L54_0)))
 (.seq (.reg [⟨some 4,none,.mv (.c (.bool true))⟩])
 (.ret)))))) false false
theorem mk54 : cFun Tryz.prog false false Tryz.f54 = some ir54 := by kernel_rfl
def ir55 : Fun := .mk 17 [.cell 0 true 24] (
 .seq (.reg [⟨some 0,none,.alloc [.str [],.bool false,.int .i64 0,.nilfn,.str [],.bool false,.int .i64 0,.nilfn,.str [],.bool false,.int .i64 0,.nilfn,.str [],.bool false,.int .i64 0,.nilfn,.str [],.bool false,.int .i64 0,.nilfn,.str [],.bool false,.int .i64 0,.nilfn]⟩])
 (.seq (.reg [⟨some 1,none,.mv (.c (.fn 85 [] []))⟩])
 (.seq (.reg [⟨some 2,none,.mv (.t 1)⟩,
 ⟨some 3,none,.call (.t 2) [.c (.int .i64 0),.c (.int .i64 (-1))]⟩,
 ⟨some 4,none,.build [.str [],.bool false,.int .i64 0,.nilfn] [(0,1,(.c (.str [32,115,116,117,99,107,32,105,110]))),(3,1,(.t 3))]⟩,
 ⟨some 5,none,.mv (.t 1)⟩,
 ⟨some 6,none,.call (.t 5) [.c (.int .i64 (-1)),.c (.int .i64 0)]⟩,
 ⟨some 7,none,.build [.str [],.bool false,.int .i64 0,.nilfn] [(0,1,(.c (.str [32,115,116,117,99,107,32,111,117,116]))),(3,1,(.t 6))]⟩,
 ⟨some 8,none,.build [.str [],.bool false,.int .i64 0,.nilfn] [(0,1,(.c (.str [32,116,114,117,101]))),(1,1,(.c (.bool true))),(2,1,(.c (.int .i64 1)))]⟩,
 ⟨some 9,none,.build [.str [],.bool false,.int .i64 0,.nilfn] [(0,1,(.c (.str [32,102,97,108,115,101]))),(1,1,(.c (.bool true))),(2,1,(.c (.int .i64 0)))]⟩,
 ⟨some 10,none,.mv (.t 1)⟩,
 ⟨some 11,none,.call (.t 10) [.c (.int .i64 1),.c (.int .i64 0)]⟩,
 ⟨some 12,none,.build [.str [],.bool false,.int .i64 0,.nilfn] [(0,1,(.c (.str [32,118,97,108,118,101,32,116,114,117,101]))),(3,1,(.t 11))]⟩,
 ⟨some 13,none,.mv (.t 1)⟩,
 ⟨some 14,none,.call (.t 13) [.c (.int .i64 0),.c (.int .i64 1)]⟩,
 ⟨some 15,none,.build [.str [],.bool false,.int .i64 0,.nilfn] [(0,1,(.c (.str [32,118,97,108,118,101,32,102,97,108,115,101]))),(3,1,(.t 14))]⟩,
 ⟨some 16,none,.build [.str [],.bool false,.int .i64 0,.nilfn,.str [],.bool false,.int .i64 0,.nilfn,.str [],.bool false,.int .i64 0,.nilfn,.str [],.bool false,.int .i64 0,.nilfn,.str [],.bool false,.int .i64 0,.nilfn,.str [],.bool false,.int .i64 0,.nilfn] [(0,4,(.t 4)),(4,4,(.t 7)),(8,4,(.t 8)),(12,4,(.t 9)),(16,4,(.t 12)),(20,4,(.t 15))]⟩,
 ⟨none,none,.store 24 (.t 0) (.t 16)⟩])
 (.ret)))) false true
theorem mk55 : cFun Tryz.prog false true Tryz.f55 = some ir55 := by kernel_rfl
def ir56 : Fun := .mk 11 [.t 4] (
 .seq (.reg [⟨some 2,none,.box (.t 0)⟩,
 ⟨some 3,none,.box (.t 1)⟩,
 ⟨some 4,none,.mv (.c (.int .i64 0))⟩])
 (.seq (.seq (.reg [⟨some 5,none,.faddr 1 (.t 3)⟩,
 ⟨some 6,none,.load false 1 (.t 5)⟩])
 (.cond (.t 6) (.seq (.reg [⟨some 7,none,.load true 5 (.t 2)⟩,
 ⟨some 8,none,.call (.c (.fn 59 [] [])) [.t 7]⟩,
 ⟨some 4,none,.mv (.t 8)⟩])
 (.ret))
 (.skip)))
 (.seq (.reg [⟨some 9,none,.faddr 0 (.t 2)⟩,
 ⟨some 10,none,.load false 1 (.t 9)⟩,
 ⟨some 4,none,.mv (.t 10)⟩])
 (.ret)))) false false
theorem mk56 : cFun Tryz.prog false false Tryz.f56 = some ir56 := by kernel_rfl
def ir57 : Fun := .mk 17 [.cell 6 true 3,.t 7] (
 .seq (.reg [⟨some 3,none,.box (.t 0)⟩,
 ⟨some 4,none,.box (.t 1)⟩,
 ⟨some 5,none,.box (.t 2)⟩,
 ⟨some 6,none,.alloc [.int .i64 0,.int .i64 0,.nils]⟩,
 ⟨some 7,none,.mv (.c (.bool false))⟩])
 (.seq (.reg [⟨some 8,none,.alloc [.bool false]⟩,
 ⟨none,none,.store 1 (.t 8) (.c (.bool false))⟩])
 (.seq (.reg [⟨some 9,none,.alloc [.nilfn]⟩])
 (.seq (.reg [⟨some 11,none,.mkfn 87 [] [.t 4,.t 8,.t 5,.t 9]⟩,
 ⟨none,none,.store 1 (.t 9) (.t 11)⟩])
 (.seq (.reg [⟨some 12,none,.load false 1 (.t 9)⟩,
 ⟨some 13,none,.load true 3 (.t 3)⟩,
 ⟨some 14,none,.call (.t 12) [.t 13]⟩,
 ⟨some 10,none,.alloc [.int .i64 0,.int .i64 0,.nils]⟩,
 ⟨none,none,.store 3 (.t 10) (.t 14)⟩])
 (.seq (.draw [⟨some 15,none,.load true 3 (.t 10)⟩,
 ⟨some 16,none,.load false 1 (.t 8)⟩,
 ⟨none,none,.store 3 (.t 6) (.t 15)⟩,
 ⟨some 7,none,.mv (.t 16)⟩] [(1,2)])
 (.ret))))))) false false
theorem mk57 : cFun Tryz.prog false false Tryz.f57 = some ir57 := by kernel_rfl
def L58_0 : C := (
 .seq (.reg [⟨some 16,none,.bin false .lss (.t 15) (.t 14)⟩])
 (.seq (.cond (.t 16) (.skip)
 (.exit 0))
 (.seq (.block 1 (.seq (.reg [⟨some 17,none,.mv (.t 15)⟩,
 ⟨some 7,none,.mv (.t 17)⟩])
 (.seq (.reg [⟨some 18,none,.build [.int .i64 0,.int .i64 0] [(0,1,(.c (.int .i64 (-1)))),(1,1,(.c (.int .i64 (-1))))]⟩,
 ⟨some 8,none,.alloc [.int .i64 0,.int .i64 0]⟩,
 ⟨none,none,.store 2 (.t 8) (.t 18)⟩])
 (.seq (.block 2 (.seq (.reg [⟨some 20,none,.faddr 1 (.t 5)⟩,
 ⟨some 21,none,.load false 1 (.t 20)⟩,
 ⟨some 22,none,.un .not (.t 21)⟩,
 ⟨some 23,none,.mv (.t 22)⟩,
 ⟨some 24,some (23,true),.mv (.t 7)⟩,
 ⟨some 25,some (23,true),.faddr 1 (.t 3)⟩,
 ⟨some 26,some (23,true),.load false 1 (.t 25)⟩,
 ⟨some 27,some (23,true),.bin false .eql (.t 24) (.t 26)⟩,
 ⟨some 28,none,.pick (.t 23) (.t 27) (.c (.bool false))⟩,
 ⟨some 19,none,.mv (.t 28)⟩])
 (.cond (.t 19) (.reg [⟨some 29,none,.faddr 3 (.t 5)⟩,
 ⟨some 30,none,.load false 1 (.t 29)⟩,
 ⟨some 31,none,.call (.t 30) []⟩,
 ⟨none,none,.store 2 (.t 8) (.t 31)⟩])
 (.seq (.reg [⟨some 33,none,.faddr 1 (.t 5)⟩,
 ⟨some 34,none,.load false 1 (.t 33)⟩,
 ⟨some 32,none,.mv (.t 34)⟩])
 (.cond (.t 32) (.seq (.seq (.draw [⟨some 35,none,.faddr 3 (.t 2)⟩,
 ⟨some 36,none,.load false 1 (.t 35)⟩,
 ⟨some 37,none,.mv (.t 7)⟩,
 ⟨some 38,none,.iaddrL 1 (.t 36) (.t 37)⟩,
 ⟨some 39,none,.load false 1 (.t 38)⟩,
 ⟨some 40,none,.faddr 1 (.t 3)⟩,
 ⟨some 41,none,.load false 1 (.t 40)⟩,
 ⟨some 42,none,.bin false .eql (.t 39) (.t 41)⟩] [])
 (.cond (.t 42) (.reg [⟨some 43,none,.faddr 2 (.t 5)⟩,
 ⟨some 44,none,.load false 1 (.t 43)⟩,
 ⟨some 45,none,.faddr 0 (.t 8)⟩,
 ⟨none,none,.store 1 (.t 45) (.t 44)⟩])
 (.skip)))
 (.seq (.draw [⟨some 46,none,.faddr 4 (.t 2)⟩,
 ⟨some 47,none,.load false 1 (.t 46)⟩,
 ⟨some 48,none,.mv (.t 7)⟩,
 ⟨some 49,none,.iaddrL 1 (.t 47) (.t 48)⟩,
 ⟨some 50,none,.load false 1 (.t 49)⟩,
 ⟨some 51,none,.faddr 1 (.t 3)⟩,
 ⟨some 52,none,.load false 1 (.t 51)⟩,
 ⟨some 53,none,.bin false .eql (.t 50) (.t 52)⟩] [])
 (.cond (.t 53) (.reg [⟨some 54,none,.faddr 2 (.t 5)⟩,
 ⟨some 55,none,.load false 1 (.t 54)⟩,
 ⟨some 56,none,.faddr 1 (.t 8)⟩,
 ⟨none,none,.store 1 (.t 56) (.t 55)⟩])
 (.skip))))
 (.skip))))))
 (.reg [⟨some 57,none,.mv (.t 6)⟩,
 ⟨some 58,none,.load true 2 (.t 8)⟩,
 ⟨some 59,none,.bslice false 2 [.int .i64 0,.int .i64 0] 1 [(0,(.t 58))]⟩,
 ⟨some 60,none,.app 2 16 (.t 57) (.t 59)⟩,
 ⟨some 6,none,.mv (.t 60)⟩])))))
 (.reg [⟨some 61,none,.bin false .add (.t 15) (.c (.int .i64 1))⟩,
 ⟨some 15,none,.mv (.t 61)⟩]))))
def ir58 : Fun := .mk 63 [.t 4] (
 .seq (.reg [⟨some 2,none,.box (.t 0)⟩,
 ⟨some 3,none,.box (.t 1)⟩,
 ⟨some 4,none,.mv (.c (.nils))⟩])
 (.seq (.draw [⟨some 5,none,.alloc [.str [],.bool false,.int .i64 0,.nilfn]⟩,
 ⟨some 9,none,.call (.c (.fn 55 [] [])) []⟩,
 ⟨some 10,none,.faddr 0 (.t 3)⟩,
 ⟨some 11,none,.load false 1 (.t 10)⟩,
 ⟨some 12,none,.idxA true 6 4 (.t 9) (.t 11)⟩,
 ⟨none,none,.store 4 (.t 5) (.t 12)⟩] [(3,1)])
 (.seq (.reg [⟨some 6,none,.mv (.c (.nils))⟩])
 (.seq (.seq (.reg [⟨some 13,none,.faddr 0 (.t 2)⟩,
 ⟨some 14,none,.load false 1 (.t 13)⟩,
 ⟨some 15,none,.mv (.c (.int .i64 0))⟩])
 (.block 0 (.loop L58_0)))
 (.seq (.reg [⟨some 62,none,.mv (.t 6)⟩,
 ⟨some 4,none,.mv (.t 62)⟩])
 (.ret)))))) false false
theorem mk58 : cFun Tryz.prog false false Tryz.f58 = some ir58 := by kernel_rfl
def ir59 : Fun := .mk 14 [.t 2] (
 .seq (.reg [⟨some 1,none,.box (.t 0)⟩,
 ⟨some 2,none,.mv (.c (.int .i64 0))⟩])
 (.seq (.reg [⟨some 3,none,.faddr 0 (.t 1)⟩,
 ⟨some 4,none,.load false 1 (.t 3)⟩,
 ⟨some 5,none,.bin false .mul (.c (.int .i64 2)) (.t 4)⟩,
 ⟨some 6,none,.faddr 1 (.t 1)⟩,
 ⟨some 7,none,.load false 1 (.t 6)⟩,
 ⟨some 8,none,.len false (.t 7)⟩,
 ⟨some 9,none,.bin false .add (.t 5) (.t 8)⟩,
 ⟨some 10,none,.faddr 2 (.t 1)⟩,
 ⟨some 11,none,.load false 1 (.t 10)⟩,
 ⟨some 12,none,.len false (.t 11)⟩,
 ⟨some 13,none,.bin false .add (.t 9) (.t 12)⟩,
 ⟨some 2,none,.mv (.t 13)⟩])
 (.ret))) false false
theorem mk59 : cFun Tryz.prog false false Tryz.f59 = some ir59 := by kernel_rfl
def ir60 : Fun := .mk 36 [.t 4] (
 .seq (.reg [⟨some 2,none,.box (.t 0)⟩,
 ⟨some 3,none,.box (.t 1)⟩,
 ⟨some 4,none,.mv (.c (.str []))⟩])
 (.seq (.draw [⟨some 5,none,.alloc [.str [],.bool false,.int .i64 0,.nilfn]⟩,
 ⟨some 8,none,.call (.c (.fn 55 [] [])) []⟩,
 ⟨some 9,none,.faddr 0 (.t 3)⟩,
 ⟨some 10,none,.load false 1 (.t 9)⟩,
 ⟨some 11,none,.idxA true 6 4 (.t 8) (.t 10)⟩,
 ⟨none,none,.store 4 (.t 5) (.t 11)⟩] [(3,1)])
 (.seq (.seq (.reg [⟨some 12,none,.faddr 1 (.t 5)⟩,
 ⟨some 13,none,.load false 1 (.t 12)⟩,
 ⟨some 14,none,.un .not (.t 13)⟩])
 (.cond (.t 14) (.seq (.draw [⟨some 15,none,.faddr 1 (.t 3)⟩,
 ⟨some 16,none,.load false 1 (.t 15)⟩,
 ⟨some 17,none,.faddr 1 (.t 3)⟩,
 ⟨some 18,none,.load false 1 (.t 17)⟩,
 ⟨some 19,none,.bin false .add (.t 18) (.c (.int .i64 1))⟩,
 ⟨some 20,none,.slcS (.c (.str [65,66,67,68,69,70])) (some (.t 16)) (some (.t 19))⟩,
 ⟨some 21,none,.faddr 0 (.t 5)⟩,
 ⟨some 22,none,.load false 1 (.t 21)⟩,
 ⟨some 23,none,.bin false .add (.t 20) (.t 22)⟩,
 ⟨some 4,none,.mv (.t 23)⟩] [])
 (.ret))
 (.skip)))
 (.seq (.reg [⟨some 25,none,.load true 5 (.t 2)⟩,
 ⟨some 26,none,.faddr 1 (.t 3)⟩,
 ⟨some 27,none,.load false 1 (.t 26)⟩,
 ⟨some 28,none,.call (.c (.fn 62 [] [])) [.t 25,.t 27]⟩,
 ⟨some 24,none,.mv (.t 28)⟩,
 ⟨some 29,none,.ext 0 (.t 24)⟩,
 ⟨some 30,none,.ext 1 (.t 24)⟩,
 ⟨some 6,none,.mv (.t 29)⟩,
 ⟨some 7,none,.mv (.t 30)⟩])
 (.seq (.reg [⟨some 31,none,.mv (.t 6)⟩,
 ⟨some 32,none,.bin false .add (.c (.str [108,105,110,101,32])) (.t 31)⟩,
 ⟨some 33,none,.faddr 0 (.t 5)⟩,
 ⟨some 34,none,.load false 1 (.t 33)⟩,
 ⟨some 35,none,.bin false .add (.t 32) (.t 34)⟩,
 ⟨some 4,none,.mv (.t 35)⟩])
 (.ret)))))) false false
theorem mk60 : cFun Tryz.prog false false Tryz.f60 = some ir60 := by kernel_rfl
def ir61 : Fun := .mk 8 [.t 2] (
 .seq (.reg [⟨some 2,none,.mv (.c (.nils))⟩])
 (.seq (.seq (.reg [⟨some 3,none,.mv (.t 0)⟩,
 ⟨some 4,none,.isnil false (.t 3)⟩])
 (.cond (.t 4) (.seq (.reg [⟨some 2,none,.mv (.c (.nils))⟩])
 (.ret))
 (.skip)))
 (.seq (.reg [⟨some 5,none,.bslice false 1 [.str []] 0 []⟩,
 ⟨some 6,none,.mv (.t 0)⟩,
 ⟨some 7,none,.app 1 16 (.t 5) (.t 6)⟩,
 ⟨some 2,none,.mv (.t 7)⟩])
 (.ret)))) true false
theorem mk61 : cFun Tryz.prog true false Tryz.f61 = some ir61 := by kernel_rfl
def ir62 : Fun := .mk 23 [.t 4,.t 5] (
 .seq (.reg [⟨some 2,none,.box (.t 0)⟩,
 ⟨some 4,none,.mv (.c (.str []))⟩,
 ⟨some 5,none,.mv (.c (.int .i64 0))⟩])
 (.seq (.seq (.reg [⟨some 7,none,.load true 5 (.t 2)⟩,
 ⟨some 8,none,.call (.c (.fn 30 [] [])) [.t 7]⟩,
 ⟨some 6,none,.mv (.t 8)⟩])
 (.seq (.reg [⟨some 9,none,.mv (.t 6)⟩,
 ⟨some 10,none,.bin false .neq (.t 9) (.c (.int .i64 0))⟩])
 (.cond (.t 10) (.seq (.reg [⟨some 11,none,.mv (.t 6)⟩,
 ⟨some 4,none,.mv (.c (.str []))⟩,
 ⟨some 5,none,.mv (.t 11)⟩])
 (.ret))
 (.skip))))
 (.seq (.seq (.reg [⟨some 12,none,.mv (.t 1)⟩,
 ⟨some 13,none,.bin false .lss (.t 12) (.c (.int .i64 0))⟩,
 ⟨some 14,none,.mv (.t 13)⟩,
 ⟨some 15,some (14,false),.mv (.t 1)⟩,
 ⟨some 16,some (14,false),.load true 5 (.t 2)⟩,
 ⟨some 17,some (14,false),.call (.c (.fn 51 [] [])) [.t 16]⟩,
 ⟨some 18,some (14,false),.bin false .geq (.t 15) (.t 17)⟩,
 ⟨some 19,none,.pick (.t 14) (.c (.bool true)) (.t 18)⟩])
 (.cond (.t 19) (.seq (.reg [⟨some 4,none,.mv (.c (.str []))⟩,
 ⟨some 5,none,.mv (.c (.int .i64 6))⟩])
 (.ret))
 (.skip)))
 (.seq (.reg [⟨some 20,none,.load true 5 (.t 2)⟩,
 ⟨some 21,none,.mv (.t 1)⟩,
 ⟨some 22,none,.call (.c (.fn 88 [] [])) [.t 20,.t 21]⟩,
 ⟨some 4,none,.mv (.t 22)⟩,
 ⟨some 5,none,.mv (.c (.int .i64 0))⟩])
 (.ret))))) false false
theorem mk62 : cFun Tryz.prog false false Tryz.f62 = some ir62 := by kernel_rfl
def ir63 : Fun := .mk 9 [.t 4] (
 .seq (.reg [⟨some 4,none,.mv (.c (.bool false))⟩])
 (.seq (.reg [⟨some 5,none,.mv (.t 0)⟩,
 ⟨some 6,none,.mv (.t 1)⟩,
 ⟨some 7,none,.call (.c (.fn 89 [] [])) [.t 5,.t 6]⟩,
 ⟨some 8,none,.bin false .geq (.t 7) (.c (.int .i64 0))⟩,
 ⟨some 4,none,.mv (.t 8)⟩])
 (.ret))) false false
theorem mk63 : cFun Tryz.prog false false Tryz.f63 = some ir63 := by kernel_rfl
def L64_0 : C := (
 .seq (.reg [⟨some 47,none,.bin false .lss (.t 46) (.t 45)⟩])
 (.seq (.cond (.t 47) (.skip)
 (.exit 0))
 (.seq (.block 1 (.seq (.reg [⟨some 48,none,.mv (.t 46)⟩,
 ⟨some 5,none,.mv (.t 48)⟩])
 (.draw [⟨some 49,none,.mv (.t 4)⟩,
 ⟨some 50,none,.nilck (.t 49)⟩,
 ⟨some 51,none,.faddr 5 (.t 50)⟩,
 ⟨some 52,none,.load false 1 (.t 51)⟩,
 ⟨some 53,none,.load true 5 (.t 1)⟩,
 ⟨some 54,none,.mv (.t 5)⟩,
 ⟨some 55,none,.call (.c (.fn 88 [] [])) [.t 53,.t 54]⟩,
 ⟨some 56,none,.mv (.t 5)⟩,
 ⟨none,none,.upd 2 (.t 52) (.t 55) (.t 56)⟩] [(3,6)])))
 (.reg [⟨some 57,none,.bin false .add (.t 46) (.c (.int .i64 1))⟩,
 ⟨some 46,none,.mv (.t 57)⟩]))))
def L64_1 : C := (
 .seq (.reg [⟨some 62,none,.bin false .lss (.t 61) (.t 60)⟩])
 (.seq (.cond (.t 62) (.skip)
 (.exit 2))
 (.seq (.block 3 (.seq (.reg [⟨some 63,none,.iaddrL 1 (.t 59) (.t 61)⟩,
 ⟨some 64,none,.load false 1 (.t 63)⟩,
 ⟨some 7,none,.mv (.t 64)⟩])
 (.seq (.reg [⟨some 65,none,.mv (.t 4)⟩,
 ⟨some 66,none,.mv (.t 7)⟩,
 ⟨some 67,none,.call (.c (.fn 93 [] [])) [.t 65,.t 66]⟩,
 ⟨some 8,none,.mv (.t 67)⟩])
 (.seq (.reg [⟨some 68,none,.mv (.t 8)⟩,
 ⟨some 69,none,.bin false .neq (.t 68) (.c (.int .i64 0))⟩])
 (.cond (.t 69) (.seq (.reg [⟨some 70,none,.mv (.t 8)⟩,
 ⟨some 2,none,.mv (.c (.undef))⟩,
 ⟨some 3,none,.mv (.t 70)⟩])
 (.ret))
 (.skip))))))
 (.reg [⟨some 71,none,.bin false .add (.t 61) (.c (.int .i64 1))⟩,
 ⟨some 61,none,.mv (.t 71)⟩]))))
def L64_2 : C := (
 .seq (.reg [⟨some 76,none,.bin false .lss (.t 75) (.t 74)⟩])
 (.seq (.cond (.t 76) (.skip)
 (.exit 4))
 (.seq (.block 5 (.seq (.reg [⟨some 77,none,.mv (.t 75)⟩,
 ⟨some 9,none,.mv (.t 77)⟩])
 (.seq (.reg [⟨some 78,none,.mv (.t 4)⟩,
 ⟨some 79,none,.mv (.t 9)⟩,
 ⟨some 80,none,.call (.c (.fn 94 [] [])) [.t 78,.t 79]⟩,
 ⟨some 10,none,.mv (.t 80)⟩])
 (.seq (.reg [⟨some 81,none,.mv (.t 10)⟩,
 ⟨some 82,none,.bin false .neq (.t 81) (.c (.int .i64 0))⟩])
 (.cond (.t 82) (.seq (.reg [⟨some 83,none,.mv (.t 10)⟩,
 ⟨some 2,none,.mv (.c (.undef))⟩,
 ⟨some 3,none,.mv (.t 83)⟩])
 (.ret))
 (.skip))))))
 (.reg [⟨some 84,none,.bin false .add (.t 75) (.c (.int .i64 1))⟩,
 ⟨some 75,none,.mv (.t 84)⟩]))))
def ir64 : Fun := .mk 111 [.t 2,.t 3] (
 .seq (.reg [⟨some 1,none,.box (.t 0)⟩,
 ⟨some 2,none,.mv (.c (.undef))⟩,
 ⟨some 3,none,.mv (.c (.int .i64 0))⟩])
 (.seq (.seq (.reg [⟨some 11,none,.faddr 0 (.t 1)⟩,
 ⟨some 12,none,.load false 1 (.t 11)⟩,
 ⟨some 13,none,.bin false .lss (.t 12) (.c (.int .i64 1))⟩,
 ⟨some 14,none,.mv (.t 13)⟩,
 ⟨some 15,some (14,false),.faddr 0 (.t 1)⟩,
 ⟨some 16,some (14,false),.load false 1 (.t 15)⟩,
 ⟨some 17,some (14,false),.bin false .gtr (.t 16) (.c (.int .i64 6))⟩,
 ⟨some 18,none,.pick (.t 14) (.c (.bool true)) (.t 17)⟩])
 (.cond (.t 18) (.seq (.reg [⟨some 2,none,.mv (.c (.undef))⟩,
 ⟨some 3,none,.mv (.c (.int .i64 2))⟩])
 (.ret))
 (.skip)))
 (.seq (.seq (.reg [⟨some 19,none,.faddr 1 (.t 1)⟩,
 ⟨some 20,none,.load false 1 (.t 19)⟩,
 ⟨some 21,none,.len false (.t 20)⟩,
 ⟨some 22,none,.bin false .gtr (.t 21) (.c (.int .i64 16))⟩,
 ⟨some 23,none,.mv (.t 22)⟩,
 ⟨some 24,some (23,false),.faddr 2 (.t 1)⟩,
 ⟨some 25,some (23,false),.load false 1 (.t 24)⟩,
 ⟨some 26,some (23,false),.len false (.t 25)⟩,
 ⟨some 27,some (23,false),.bin false .gtr (.t 26) (.c (.int .i64 64))⟩,
 ⟨some 28,none,.pick (.t 23) (.c (.bool true)) (.t 27)⟩])
 (.cond (.t 28) (.seq (.reg [⟨some 2,none,.mv (.c (.undef))⟩,
 ⟨some 3,none,.mv (.c (.int .i64 5))⟩])
 (.ret))
 (.skip)))
 (.seq (.reg [⟨some 29,none,.load true 5 (.t 1)⟩,
 ⟨some 30,none,.mkmap⟩,
 ⟨some 31,none,.build [.int .i64 0,.nils,.nils,.nils,.nils,.undef,.nilfn,.nilfn,.nilfn] [(0,5,(.t 29)),(5,1,(.t 30))]⟩,
 ⟨some 32,none,.box (.t 31)⟩,
 ⟨some 4,none,.mv (.t 32)⟩])
 (.seq (.reg [⟨some 33,none,.mv (.t 4)⟩,
 ⟨some 34,none,.mv (.t 4)⟩,
 ⟨some 35,none,.mkfn 90 [.t 34] []⟩,
 ⟨some 36,none,.mv (.t 4)⟩,
 ⟨some 37,none,.mkfn 91 [.t 36] []⟩,
 ⟨some 38,none,.mv (.t 4)⟩,
 ⟨some 39,none,.mkfn 92 [.t 38] []⟩,
 ⟨some 40,none,.build [.nilfn,.nilfn,.nilfn] [(0,1,(.t 35)),(1,1,(.t 37)),(2,1,(.t 39))]⟩,
 ⟨some 41,none,.nilck (.t 33)⟩,
 ⟨some 42,none,.faddr 6 (.t 41)⟩,
 ⟨none,none,.store 3 (.t 42) (.t 40)⟩])
 (.seq (.seq (.reg [⟨some 43,none,.faddr 0 (.t 1)⟩,
 ⟨some 44,none,.load false 1 (.t 43)⟩,
 ⟨some 45,none,.bin false .mul (.c (.int .i64 2)) (.t 44)⟩,
 ⟨some 46,none,.mv (.c (.int .i64 0))⟩])
 (.block 0 (.loop L64_0)))
 (.seq (.seq (.reg [⟨some 58,none,.faddr 1 (.t 1)⟩,
 ⟨some 59,none,.load false 1 (.t 58)⟩,
 ⟨some 60,none,.len false (.t 59)⟩,
 ⟨some 61,none,.mv (.c (.int .i64 0))⟩])
 (.block 2 (.loop L64_1)))
 (.seq (.seq (.reg [⟨some 72,none,.faddr 2 (.t 1)⟩,
 ⟨some 73,none,.load false 1 (.t 72)⟩,
 ⟨some 74,none,.len false (.t 73)⟩,
 ⟨some 75,none,.mv (.c (.int .i64 0))⟩])
 (.block 4 (.loop L64_2)))
 (.seq (.seq (.reg [⟨some 85,none,.faddr 3 (.t 1)⟩,
 ⟨some 86,none,.load false 1 (.t 85)⟩,
 ⟨some 87,none,.len false (.t 86)⟩,
 ⟨some 88,none,.faddr 0 (.t 1)⟩,
 ⟨some 89,none,.load false 1 (.t 88)⟩,
 ⟨some 90,none,.bin false .neq (.t 87) (.t 89)⟩,
 ⟨some 91,none,.mv (.t 90)⟩,
 ⟨some 92,some (91,false),.faddr 4 (.t 1)⟩,
 ⟨some 93,some (91,false),.load false 1 (.t 92)⟩,
 ⟨some 94,some (91,false),.len false (.t 93)⟩,
 ⟨some 95,some (91,false),.faddr 0 (.t 1)⟩,
 ⟨some 96,some (91,false),.load false 1 (.t 95)⟩,
 ⟨some 97,some (91,false),.bin false .neq (.t 94) (.t 96)⟩,
 ⟨some 98,none,.pick (.t 91) (.c (.bool true)) (.t 97)⟩])
 (.cond (.t 98) (.seq (.reg [⟨some 2,none,.mv (.c (.undef))⟩,
 ⟨some 3,none,.mv (.c (.int .i64 8))⟩])
 (.ret))
 (.skip)))
 (.seq (.seq (.reg [⟨some 99,none,.faddr 3 (.t 1)⟩,
 ⟨some 100,none,.load false 1 (.t 99)⟩,
 ⟨some 101,none,.faddr 4 (.t 1)⟩,
 ⟨some 102,none,.load false 1 (.t 101)⟩,
 ⟨some 103,none,.bslice false 1 [.imm []] 2 [(0,(.t 100)),(1,(.t 102))]⟩,
 ⟨some 104,none,.call (.c (.fn 45 [] [])) [.t 103]⟩,
 ⟨some 105,none,.mkfn 96 [] [.t 1]⟩,
 ⟨some 106,none,.call (.c (.fn 95 [] [])) [.t 104,.t 105]⟩])
 (.cond (.t 106) (.seq (.reg [⟨some 2,none,.mv (.c (.undef))⟩,
 ⟨some 3,none,.mv (.c (.int .i64 6))⟩])
 (.ret))
 (.skip)))
 (.seq (.reg [⟨some 107,none,.mv (.t 4)⟩,
 ⟨some 108,none,.nilck (.t 107)⟩,
 ⟨some 109,none,.faddr 5 (.t 108)⟩,
 ⟨some 110,none,.load false 1 (.t 109)⟩,
 ⟨some 2,none,.mv (.t 110)⟩,
 ⟨some 3,none,.mv (.c (.int .i64 0))⟩])
 (.ret)))))))))))) false true
theorem mk64 : cFun Tryz.prog false true Tryz.f64 = some ir64 := by kernel_rfl
def ir65 : Fun := .mk 9 [.t 2] (
 .seq (.reg [⟨some 2,none,.mv (.c (.bool false))⟩])
 (.seq (.reg [⟨some 3,none,.mv (.t 0)⟩,
 ⟨some 4,none,.bin false .eql (.t 3) (.c (.int .i64 2))⟩,
 ⟨some 5,none,.mv (.t 4)⟩,
 ⟨some 6,some (5,false),.mv (.t 0)⟩,
 ⟨some 7,some (5,false),.bin false .eql (.t 6) (.c (.int .i64 3))⟩,
 ⟨some 8,none,.pick (.t 5) (.c (.bool true)) (.t 7)⟩,
 ⟨some 2,none,.mv (.t 8)⟩])
 (.ret))) false false
theorem mk65 : cFun Tryz.prog false false Tryz.f65 = some ir65 := by kernel_rfl
def ir67 : Fun := .mk 14 [.t 2] (
 .seq (.reg [⟨some 1,none,.box (.t 0)⟩,
 ⟨some 2,none,.mv (.c (.int .i64 0))⟩])
 (.seq (.reg [⟨some 3,none,.faddr 0 (.t 1)⟩,
 ⟨some 4,none,.load false 1 (.t 3)⟩,
 ⟨some 5,none,.bin false .mul (.c (.int .i64 2)) (.t 4)⟩,
 ⟨some 6,none,.faddr 1 (.t 1)⟩,
 ⟨some 7,none,.load false 1 (.t 6)⟩,
 ⟨some 8,none,.len false (.t 7)⟩,
 ⟨some 9,none,.bin false .add (.t 5) (.t 8)⟩,
 ⟨some 10,none,.faddr 2 (.t 1)⟩,
 ⟨some 11,none,.load false 1 (.t 10)⟩,
 ⟨some 12,none,.len false (.t 11)⟩,
 ⟨some 13,none,.bin false .add (.t 9) (.t 12)⟩,
 ⟨some 2,none,.mv (.t 13)⟩])
 (.ret))) false false
theorem mk67 : cFun Tryz.prog false false Tryz.f67 = some ir67 := by kernel_rfl
def L71_0 : C := (
 .seq (.seq (.reg [⟨some 16,none,.mv (.t 6)⟩,
 ⟨some 17,none,.mv (.t 1)⟩,
 ⟨some 18,none,.bin false .lss (.t 16) (.t 17)⟩])
 (.cond (.t 18) (.skip)
 (.exit 0)))
 (.seq (.block 1 (.seq (.reg [⟨some 21,none,.load true 5 (.t 2)⟩,
 ⟨some 22,none,.mv (.t 6)⟩,
 ⟨some 23,none,.call (.c (.fn 99 [] [])) [.t 21,.t 22]⟩,
 ⟨some 24,none,.mv (.t 5)⟩,
 ⟨some 25,none,.bin false .eql (.t 23) (.t 24)⟩])
 (.cond (.t 25) (.seq (.reg [⟨some 4,none,.mv (.c (.int .i64 7))⟩])
 (.ret))
 (.skip))))
 (.reg [⟨some 19,none,.mv (.t 6)⟩,
 ⟨some 20,none,.bin false .add (.t 19) (.c (.int .i64 1))⟩,
 ⟨some 6,none,.mv (.t 20)⟩])))
def ir71 : Fun := .mk 26 [.t 4] (
 .seq (.reg [⟨some 2,none,.box (.t 0)⟩,
 ⟨some 4,none,.mv (.c (.int .i64 0))⟩])
 (.seq (.reg [⟨some 7,none,.load true 5 (.t 2)⟩,
 ⟨some 8,none,.mv (.t 1)⟩,
 ⟨some 9,none,.call (.c (.fn 99 [] [])) [.t 7,.t 8]⟩,
 ⟨some 5,none,.mv (.t 9)⟩])
 (.seq (.seq (.reg [⟨some 10,none,.mv (.t 5)⟩,
 ⟨some 11,none,.call (.c (.fn 100 [] [])) [.t 10]⟩,
 ⟨some 12,none,.un .not (.t 11)⟩])
 (.cond (.t 12) (.seq (.reg [⟨some 4,none,.mv (.c (.int .i64 3))⟩])
 (.ret))
 (.skip)))
 (.seq (.seq (.reg [⟨some 13,none,.mv (.t 5)⟩,
 ⟨some 14,none,.len true (.t 13)⟩,
 ⟨some 15,none,.bin false .gtr (.t 14) (.c (.int .i64 24))⟩])
 (.cond (.t 15) (.seq (.reg [⟨some 4,none,.mv (.c (.int .i64 17))⟩])
 (.ret))
 (.skip)))
 (.seq (.seq (.reg [⟨some 6,none,.mv (.c (.int .i64 0))⟩])
 (.block 0 (.loop L71_0)))
 (.seq (.reg [⟨some 4,none,.mv (.c (.int .i64 0))⟩])
 (.ret))))))) false false
theorem mk71 : cFun Tryz.prog false false Tryz.f71 = some ir71 := by kernel_rfl
def ir72 : Fun := .mk 96 [.t 4] (
 .seq (.reg [⟨some 2,none,.box (.t 0)⟩,
 ⟨some 4,none,.mv (.c (.int .i64 0))⟩])
 (.seq (.reg [⟨some 11,none,.faddr 2 (.t 2)⟩,
 ⟨some 12,none,.load false 1 (.t 11)⟩,
 ⟨some 13,none,.mv (.t 1)⟩,
 ⟨some 14,none,.iaddrL 10 (.t 12) (.t 13)⟩,
 ⟨some 15,none,.load true 10 (.t 14)⟩,
 ⟨some 5,none,.alloc [.str [],.int .i64 0,.int .i64 0,.int .i64 0,.nils,.int .i64 0,.int .i64 0,.nils,.int .i64 0,.bool false]⟩,
 ⟨none,none,.store 10 (.t 5) (.t 15)⟩])
 (.seq (.seq (.draw [⟨some 16,none,.load true 5 (.t 2)⟩,
 ⟨some 17,none,.load true 5 (.t 2)⟩,
 ⟨some 18,none,.call (.c (.fn 101 [] [])) [.t 17]⟩,
 ⟨some 19,none,.mv (.t 1)⟩,
 ⟨some 20,none,.bin false .add (.t 18) (.t 19)⟩,
 ⟨some 21,none,.call (.c (.fn 71 [] [])) [.t 16,.t 20]⟩,
 ⟨some 6,none,.mv (.t 21)⟩] [(0,2)])
 (.seq (.reg [⟨some 22,none,.mv (.t 6)⟩,
 ⟨some 23,none,.bin false .neq (.t 22) (.c (.int .i64 0))⟩])
 (.cond (.t 23) (.seq (.reg [⟨some 24,none,.mv (.t 6)⟩,
 ⟨some 4,none,.mv (.t 24)⟩])
 (.ret))
 (.skip))))
 (.seq (.seq (.reg [⟨some 25,none,.faddr 1 (.t 5)⟩,
 ⟨some 26,none,.load false 1 (.t 25)⟩,
 ⟨some 27,none,.bin false .lss (.t 26) (.c (.int .i64 0))⟩,
 ⟨some 28,none,.mv (.t 27)⟩,
 ⟨some 29,some (28,false),.faddr 1 (.t 5)⟩,
 ⟨some 30,some (28,false),.load false 1 (.t 29)⟩,
 ⟨some 31,some (28,false),.bin false .geq (.t 30) (.c (.int .i64 3))⟩,
 ⟨some 32,none,.pick (.t 28) (.c (.bool true)) (.t 31)⟩])
 (.cond (.t 32) (.seq (.reg [⟨some 4,none,.mv (.c (.int .i64 1))⟩])
 (.ret))
 (.skip)))
 (.seq (.seq (.draw [⟨some 33,none,.faddr 2 (.t 5)⟩,
 ⟨some 34,none,.load true 3 (.t 33)⟩,
 ⟨some 35,none,.load true 5 (.t 2)⟩,
 ⟨some 36,none,.call (.c (.fn 67 [] [])) [.t 35]⟩,
 ⟨some 37,none,.call (.c (.fn 102 [] [])) [.t 34,.t 36]⟩,
 ⟨some 7,none,.mv (.t 37)⟩] [(1,3)])
 (.seq (.reg [⟨some 38,none,.mv (.t 7)⟩,
 ⟨some 39,none,.bin false .neq (.t 38) (.c (.int .i64 0))⟩])
 (.cond (.t 39) (.seq (.reg [⟨some 40,none,.mv (.t 7)⟩,
 ⟨some 4,none,.mv (.t 40)⟩])
 (.ret))
 (.skip))))
 (.seq (.draw [⟨some 41,none,.faddr 1 (.t 5)⟩,
 ⟨some 42,none,.load false 1 (.t 41)⟩,
 ⟨some 43,none,.bin false .eql (.t 42) (.c (.int .i64 1))⟩,
 ⟨some 44,none,.faddr 1 (.t 5)⟩,
 ⟨some 45,none,.load false 1 (.t 44)⟩,
 ⟨some 46,none,.bin false .eql (.t 45) (.c (.int .i64 2))⟩,
 ⟨some 8,none,.mv (.t 43)⟩,
 ⟨some 9,none,.mv (.t 46)⟩] [])
 (.seq (.seq (.reg [⟨some 47,none,.mv (.t 8)⟩])
 (.cond (.t 47) (.seq (.draw [⟨some 48,none,.faddr 5 (.t 5)⟩,
 ⟨some 49,none,.load true 3 (.t 48)⟩,
 ⟨some 50,none,.load true 5 (.t 2)⟩,
 ⟨some 51,none,.call (.c (.fn 67 [] [])) [.t 50]⟩,
 ⟨some 52,none,.call (.c (.fn 102 [] [])) [.t 49,.t 51]⟩,
 ⟨some 10,none,.mv (.t 52)⟩] [(1,3)])
 (.seq (.reg [⟨some 53,none,.mv (.t 10)⟩,
 ⟨some 54,none,.bin false .neq (.t 53) (.c (.int .i64 0))⟩])
 (.cond (.t 54) (.seq (.reg [⟨some 55,none,.mv (.t 10)⟩,
 ⟨some 4,none,.mv (.t 55)⟩])
 (.ret))
 (.skip))))
 (.skip)))
 (.seq (.seq (.reg [⟨some 56,none,.faddr 1 (.t 5)⟩,
 ⟨some 57,none,.load false 1 (.t 56)⟩,
 ⟨some 58,none,.bin false .eql (.t 57) (.c (.int .i64 0))⟩,
 ⟨some 59,none,.mv (.t 58)⟩,
 ⟨some 60,some (59,true),.load true 5 (.t 2)⟩,
 ⟨some 61,some (59,true),.mv (.t 1)⟩,
 ⟨some 62,some (59,true),.call (.c (.fn 103 [] [])) [.t 60,.t 61]⟩,
 ⟨some 63,none,.pick (.t 59) (.t 62) (.c (.bool false))⟩])
 (.cond (.t 63) (.seq (.reg [⟨some 4,none,.mv (.c (.int .i64 9))⟩])
 (.ret))
 (.skip)))
 (.seq (.seq (.reg [⟨some 64,none,.mv (.t 9)⟩,
 ⟨some 65,none,.mv (.t 64)⟩,
 ⟨some 66,some (65,true),.faddr 8 (.t 5)⟩,
 ⟨some 67,some (65,true),.load false 1 (.t 66)⟩,
 ⟨some 68,some (65,true),.bin false .lss (.t 67) (.c (.int .i64 1))⟩,
 ⟨some 69,some (65,true),.mv (.t 68)⟩,
 ⟨some 70,some (69,false),.faddr 8 (.t 5)⟩,
 ⟨some 71,some (69,false),.load false 1 (.t 70)⟩,
 ⟨some 72,some (69,false),.bin false .gtr (.t 71) (.c (.int .i64 1000000))⟩,
 ⟨some 73,some (65,true),.pick (.t 69) (.c (.bool true)) (.t 72)⟩,
 ⟨some 74,none,.pick (.t 65) (.t 73) (.c (.bool false))⟩])
 (.cond (.t 74) (.seq (.reg [⟨some 4,none,.mv (.c (.int .i64 2))⟩])
 (.ret))
 (.skip)))
 (.seq (.seq (.reg [⟨some 75,none,.mv (.t 8)⟩,
 ⟨some 76,none,.un .not (.t 75)⟩,
 ⟨some 77,none,.mv (.t 76)⟩,
 ⟨some 78,some (77,true),.faddr 5 (.t 5)⟩,
 ⟨some 79,some (77,true),.load true 3 (.t 78)⟩,
 ⟨some 80,some (77,true),.call (.c (.fn 104 [] [])) [.t 79]⟩,
 ⟨some 81,some (77,true),.un .not (.t 80)⟩,
 ⟨some 82,some (77,true),.mv (.t 81)⟩,
 ⟨some 83,some (82,false),.faddr 9 (.t 5)⟩,
 ⟨some 84,some (82,false),.load false 1 (.t 83)⟩,
 ⟨some 85,some (77,true),.pick (.t 82) (.c (.bool true)) (.t 84)⟩,
 ⟨some 86,none,.pick (.t 77) (.t 85) (.c (.bool false))⟩,
 ⟨some 87,none,.mv (.t 86)⟩,
 ⟨some 88,some (87,false),.mv (.t 9)⟩,
 ⟨some 89,some (87,false),.un .not (.t 88)⟩,
 ⟨some 90,some (87,false),.mv (.t 89)⟩,
 ⟨some 91,some (90,true),.faddr 8 (.t 5)⟩,
 ⟨some 92,some (90,true),.load false 1 (.t 91)⟩,
 ⟨some 93,some (90,true),.bin false .neq (.t 92) (.c (.int .i64 0))⟩,
 ⟨some 94,some (87,false),.pick (.t 90) (.t 93) (.c (.bool false))⟩,
 ⟨some 95,none,.pick (.t 87) (.c (.bool true)) (.t 94)⟩])
 (.cond (.t 95) (.seq (.reg [⟨some 4,none,.mv (.c (.int .i64 3))⟩])
 (.ret))
 (.skip)))
 (.seq (.reg [⟨some 4,none,.mv (.c (.int .i64 0))⟩])
 (.ret)))))))))))) false false
theorem mk72 : cFun Tryz.prog false false Tryz.f72 = some ir72 := by kernel_rfl
def L73_0 : C := (
 .seq (.seq (.reg [⟨some 30,none,.mv (.t 5)⟩,
 ⟨some 31,none,.mv (.t 4)⟩,
 ⟨some 32,none,.len false (.t 31)⟩,
 ⟨some 33,none,.bin false .lss (.t 30) (.t 32)⟩])
 (.cond (.t 33) (.skip)
 (.exit 2)))
 (.seq (.block 3 (.seq (.draw [⟨some 36,none,.mv (.t 4)⟩,
 ⟨some 37,none,.mv (.t 5)⟩,
 ⟨some 38,none,.iaddrL 1 (.t 36) (.t 37)⟩,
 ⟨some 39,none,.load false 1 (.t 38)⟩,
 ⟨some 40,none,.bin false .lss (.t 39) (.c (.int .i64 0))⟩,
 ⟨some 41,none,.mv (.t 40)⟩,
 ⟨some 42,some (41,false),.mv (.t 4)⟩,
 ⟨some 43,some (41,false),.mv (.t 5)⟩,
 ⟨some 44,some (41,false),.iaddrL 1 (.t 42) (.t 43)⟩,
 ⟨some 45,some (41,false),.load false 1 (.t 44)⟩,
 ⟨some 46,some (41,false),.load true 5 (.t 1)⟩,
 ⟨some 47,some (41,false),.call (.c (.fn 67 [] [])) [.t 46]⟩,
 ⟨some 48,some (41,false),.bin false .geq (.t 45) (.t 47)⟩,
 ⟨some 49,none,.pick (.t 41) (.c (.bool true)) (.t 48)⟩] [(9,11)])
 (.cond (.t 49) (.seq (.reg [⟨some 2,none,.mv (.c (.int .i64 6))⟩])
 (.ret))
 (.skip))))
 (.reg [⟨some 34,none,.mv (.t 5)⟩,
 ⟨some 35,none,.bin false .add (.t 34) (.c (.int .i64 1))⟩,
 ⟨some 5,none,.mv (.t 35)⟩])))
def L73_1 : C := (
 .seq (.reg [⟨some 27,none,.bin false .lss (.t 26) (.t 25)⟩])
 (.seq (.cond (.t 27) (.skip)
 (.exit 0))
 (.seq (.block 1 (.seq (.reg [⟨some 28,none,.iaddrL 1 (.t 24) (.t 26)⟩,
 ⟨some 29,none,.load false 1 (.t 28)⟩,
 ⟨some 4,none,.mv (.t 29)⟩])
 (.seq (.reg [⟨some 5,none,.mv (.c (.int .i64 0))⟩])
 (.block 2 (.loop L73_0)))))
 (.reg [⟨some 50,none,.bin false .add (.t 26) (.c (.int .i64 1))⟩,
 ⟨some 26,none,.mv (.t 50)⟩]))))
def ir73 : Fun := .mk 51 [.t 2] (
 .seq (.reg [⟨some 1,none,.box (.t 0)⟩,
 ⟨some 2,none,.mv (.c (.int .i64 0))⟩])
 (.seq (.seq (.reg [⟨some 6,none,.faddr 3 (.t 1)⟩,
 ⟨some 7,none,.load false 1 (.t 6)⟩,
 ⟨some 8,none,.len false (.t 7)⟩,
 ⟨some 9,none,.faddr 0 (.t 1)⟩,
 ⟨some 10,none,.load false 1 (.t 9)⟩,
 ⟨some 11,none,.bin false .neq (.t 8) (.t 10)⟩,
 ⟨some 12,none,.mv (.t 11)⟩,
 ⟨some 13,some (12,false),.faddr 4 (.t 1)⟩,
 ⟨some 14,some (12,false),.load false 1 (.t 13)⟩,
 ⟨some 15,some (12,false),.len false (.t 14)⟩,
 ⟨some 16,some (12,false),.faddr 0 (.t 1)⟩,
 ⟨some 17,some (12,false),.load false 1 (.t 16)⟩,
 ⟨some 18,some (12,false),.bin false .neq (.t 15) (.t 17)⟩,
 ⟨some 19,none,.pick (.t 12) (.c (.bool true)) (.t 18)⟩])
 (.cond (.t 19) (.seq (.reg [⟨some 2,none,.mv (.c (.int .i64 8))⟩])
 (.ret))
 (.skip)))
 (.seq (.seq (.reg [⟨some 20,none,.faddr 3 (.t 1)⟩,
 ⟨some 21,none,.load false 1 (.t 20)⟩,
 ⟨some 22,none,.faddr 4 (.t 1)⟩,
 ⟨some 23,none,.load false 1 (.t 22)⟩,
 ⟨some 24,none,.bslice false 1 [.imm []] 2 [(0,(.t 21)),(1,(.t 23))]⟩,
 ⟨some 25,none,.len false (.t 24)⟩,
 ⟨some 26,none,.mv (.c (.int .i64 0))⟩])
 (.block 0 (.loop L73_1)))
 (.seq (.reg [⟨some 2,none,.mv (.c (.int .i64 0))⟩])
 (.ret))))) false false
theorem mk73 : cFun Tryz.prog false false Tryz.f73 = some ir73 := by kernel_rfl
def ir77 : Fun := .mk 11 [.t 4] (
 .seq (.reg [⟨some 2,none,.box (.t 0)⟩,
 ⟨some 4,none,.mv (.c (.int .i64 0))⟩])
 (.seq (.seq (.reg [⟨some 5,none,.mv (.t 1)⟩,
 ⟨some 6,none,.call (.c (.fn 65 [] [])) [.t 5]⟩])
 (.cond (.t 6) (.seq (.reg [⟨some 7,none,.load true 5 (.t 2)⟩,
 ⟨some 8,none,.call (.c (.fn 67 [] [])) [.t 7]⟩,
 ⟨some 4,none,.mv (.t 8)⟩])
 (.ret))
 (.skip)))
 (.seq (.reg [⟨some 9,none,.faddr 0 (.t 2)⟩,
 ⟨some 10,none,.load false 1 (.t 9)⟩,
 ⟨some 4,none,.mv (.t 10)⟩])
 (.ret)))) false false
theorem mk77 : cFun Tryz.prog false false Tryz.f77 = some ir77 := by kernel_rfl
def L79_0 : C := (
 .seq (.reg [⟨some 66,none,.bin false .lss (.t 65) (.t 64)⟩])
 (.seq (.cond (.t 66) (.skip)
 (.exit 0))
 (.seq (.block 1 (.seq (.reg [⟨some 67,none,.mv (.t 65)⟩,
 ⟨some 68,none,.iaddrL 1 (.t 63) (.t 65)⟩,
 ⟨some 69,none,.load false 1 (.t 68)⟩,
 ⟨some 7,none,.mv (.t 67)⟩,
 ⟨some 8,none,.mv (.t 69)⟩])
 (.seq (.reg [⟨some 70,none,.faddr 2 (.t 2)⟩,
 ⟨some 71,none,.load false 1 (.t 70)⟩,
 ⟨some 72,none,.mv (.t 7)⟩,
 ⟨some 73,none,.iaddrL 10 (.t 71) (.t 72)⟩,
 ⟨some 74,none,.faddr 1 (.t 73)⟩,
 ⟨some 75,none,.load false 1 (.t 74)⟩,
 ⟨some 76,none,.bin false .eql (.t 75) (.c (.int .i64 2))⟩,
 ⟨some 9,none,.mv (.t 76)⟩])
 (.seq (.reg [⟨some 77,none,.mv (.t 9)⟩,
 ⟨some 78,none,.un .not (.t 77)⟩,
 ⟨some 79,none,.mv (.t 78)⟩,
 ⟨some 80,some (79,true),.mv (.t 8)⟩,
 ⟨some 81,some (79,true),.bin false .neq (.t 80) (.c (.int .i64 0))⟩,
 ⟨some 82,none,.pick (.t 79) (.t 81) (.c (.bool false))⟩,
 ⟨some 83,none,.mv (.t 82)⟩,
 ⟨some 84,some (83,false),.mv (.t 9)⟩,
 ⟨some 85,some (83,false),.mv (.t 84)⟩,
 ⟨some 86,some (85,true),.faddr 3 (.t 3)⟩,
 ⟨some 87,some (85,true),.load false 1 (.t 86)⟩,
 ⟨some 88,some (85,true),.mv (.t 7)⟩,
 ⟨some 89,some (85,true),.iaddrL 1 (.t 87) (.t 88)⟩,
 ⟨some 90,some (85,true),.load false 1 (.t 89)⟩,
 ⟨some 91,some (85,true),.mv (.t 8)⟩,
 ⟨some 92,some (85,true),.bin false .eql (.t 91) (.c (.int .i64 2))⟩,
 ⟨some 93,some (85,true),.bin true .neq (.t 90) (.t 92)⟩,
 ⟨some 94,some (83,false),.pick (.t 85) (.t 93) (.c (.bool false))⟩,
 ⟨some 95,none,.pick (.t 83) (.c (.bool true)) (.t 94)⟩])
 (.cond (.t 95) (.seq (.reg [⟨some 4,none,.mv (.c (.int .i64 14))⟩])
 (.ret))
 (.skip))))))
 (.reg [⟨some 96,none,.bin false .add (.t 65) (.c (.int .i64 1))⟩,
 ⟨some 65,none,.mv (.t 96)⟩]))))
def ir79 : Fun := .mk 97 [.t 4] (
 .seq (.reg [⟨some 2,none,.box (.t 0)⟩,
 ⟨some 3,none,.box (.t 1)⟩,
 ⟨some 4,none,.mv (.c (.int .i64 0))⟩])
 (.seq (.reg [⟨some 10,none,.faddr 2 (.t 2)⟩,
 ⟨some 11,none,.load false 1 (.t 10)⟩,
 ⟨some 12,none,.len false (.t 11)⟩,
 ⟨some 5,none,.mv (.t 12)⟩])
 (.seq (.seq (.reg [⟨some 13,none,.faddr 0 (.t 3)⟩,
 ⟨some 14,none,.load false 1 (.t 13)⟩,
 ⟨some 15,none,.len false (.t 14)⟩,
 ⟨some 16,none,.faddr 0 (.t 2)⟩,
 ⟨some 17,none,.load false 1 (.t 16)⟩,
 ⟨some 18,none,.bin false .neq (.t 15) (.t 17)⟩,
 ⟨some 19,none,.mv (.t 18)⟩,
 ⟨some 20,some (19,false),.faddr 1 (.t 3)⟩,
 ⟨some 21,some (19,false),.load false 1 (.t 20)⟩,
 ⟨some 22,some (19,false),.len false (.t 21)⟩,
 ⟨some 23,some (19,false),.faddr 0 (.t 2)⟩,
 ⟨some 24,some (19,false),.load false 1 (.t 23)⟩,
 ⟨some 25,some (19,false),.bin false .neq (.t 22) (.t 24)⟩,
 ⟨some 26,none,.pick (.t 19) (.c (.bool true)) (.t 25)⟩,
 ⟨some 27,none,.mv (.t 26)⟩,
 ⟨some 28,some (27,false),.faddr 2 (.t 3)⟩,
 ⟨some 29,some (27,false),.load false 1 (.t 28)⟩,
 ⟨some 30,some (27,false),.len false (.t 29)⟩,
 ⟨some 31,some (27,false),.faddr 1 (.t 2)⟩,
 ⟨some 32,some (27,false),.load false 1 (.t 31)⟩,
 ⟨some 33,some (27,false),.len false (.t 32)⟩,
 ⟨some 34,some (27,false),.bin false .neq (.t 30) (.t 33)⟩,
 ⟨some 35,none,.pick (.t 27) (.c (.bool true)) (.t 34)⟩,
 ⟨some 36,none,.mv (.t 35)⟩,
 ⟨some 37,some (36,false),.faddr 3 (.t 3)⟩,
 ⟨some 38,some (36,false),.load false 1 (.t 37)⟩,
 ⟨some 39,some (36,false),.len false (.t 38)⟩,
 ⟨some 40,some (36,false),.mv (.t 5)⟩,
 ⟨some 41,some (36,false),.bin false .neq (.t 39) (.t 40)⟩,
 ⟨some 42,none,.pick (.t 36) (.c (.bool true)) (.t 41)⟩,
 ⟨some 43,none,.mv (.t 42)⟩,
 ⟨some 44,some (43,false),.faddr 4 (.t 3)⟩,
 ⟨some 45,some (43,false),.load false 1 (.t 44)⟩,
 ⟨some 46,some (43,false),.len false (.t 45)⟩,
 ⟨some 47,some (43,false),.mv (.t 5)⟩,
 ⟨some 48,some (43,false),.bin false .neq (.t 46) (.t 47)⟩,
 ⟨some 49,none,.pick (.t 43) (.c (.bool true)) (.t 48)⟩])
 (.cond (.t 49) (.seq (.reg [⟨some 4,none,.mv (.c (.int .i64 8))⟩])
 (.ret))
 (.skip)))
 (.seq (.reg [⟨some 6,none,.mv (.c (.fn 107 [] []))⟩])
 (.seq (.seq (.draw [⟨some 50,none,.faddr 0 (.t 3)⟩,
 ⟨some 51,none,.load false 1 (.t 50)⟩,
 ⟨some 52,none,.mv (.t 6)⟩,
 ⟨some 53,none,.call (.t 52) [.c (.int .i64 4)]⟩,
 ⟨some 54,none,.call (.c (.fn 95 [] [])) [.t 51,.t 53]⟩,
 ⟨some 55,none,.mv (.t 54)⟩,
 ⟨some 56,some (55,false),.faddr 4 (.t 3)⟩,
 ⟨some 57,some (55,false),.load false 1 (.t 56)⟩,
 ⟨some 58,some (55,false),.mv (.t 6)⟩,
 ⟨some 59,some (55,false),.call (.t 58) [.c (.int .i64 3)]⟩,
 ⟨some 60,some (55,false),.call (.c (.fn 95 [] [])) [.t 57,.t 59]⟩,
 ⟨some 61,none,.pick (.t 55) (.c (.bool true)) (.t 60)⟩] [(1,3),(7,9)])
 (.cond (.t 61) (.seq (.reg [⟨some 4,none,.mv (.c (.int .i64 1))⟩])
 (.ret))
 (.skip)))
 (.seq (.seq (.reg [⟨some 62,none,.faddr 4 (.t 3)⟩,
 ⟨some 63,none,.load false 1 (.t 62)⟩,
 ⟨some 64,none,.len false (.t 63)⟩,
 ⟨some 65,none,.mv (.c (.int .i64 0))⟩])
 (.block 0 (.loop L79_0)))
 (.seq (.reg [⟨some 4,none,.mv (.c (.int .i64 0))⟩])
 (.ret)))))))) false false
theorem mk79 : cFun Tryz.prog false false Tryz.f79 = some ir79 := by kernel_rfl
def ir80 : Fun := .mk 27 [.t 4] (
 .seq (.reg [⟨some 4,none,.mv (.c (.nils))⟩])
 (.seq (.seq (.reg [⟨some 5,none,.mv (.t 1)⟩,
 ⟨some 6,none,.bin false .lss (.t 5) (.c (.int .i64 0))⟩])
 (.cond (.t 6) (.reg [⟨some 7,none,.stuck⟩,
 ⟨none,none,.stuck⟩])
 (.skip)))
 (.seq (.seq (.reg [⟨some 8,none,.mv (.t 1)⟩,
 ⟨some 9,none,.mv (.t 0)⟩,
 ⟨some 10,none,.cap (.t 9)⟩,
 ⟨some 11,none,.mv (.t 0)⟩,
 ⟨some 12,none,.len false (.t 11)⟩,
 ⟨some 13,none,.bin false .sub (.t 10) (.t 12)⟩,
 ⟨some 14,none,.bin false .sub (.t 8) (.t 13)⟩,
 ⟨some 1,none,.mv (.t 14)⟩])
 (.seq (.reg [⟨some 15,none,.mv (.t 1)⟩,
 ⟨some 16,none,.bin false .gtr (.t 15) (.c (.int .i64 0))⟩])
 (.cond (.t 16) (.reg [⟨some 17,none,.mv (.t 0)⟩,
 ⟨some 18,none,.mv (.t 0)⟩,
 ⟨some 19,none,.cap (.t 18)⟩,
 ⟨some 20,none,.slcL 1 (.t 17) none (some (.t 19)) none⟩,
 ⟨some 21,none,.mv (.t 1)⟩,
 ⟨some 22,none,.appz 1 1 [.bool false] (.t 20) (.t 21)⟩,
 ⟨some 23,none,.mv (.t 0)⟩,
 ⟨some 24,none,.len false (.t 23)⟩,
 ⟨some 25,none,.slcL 1 (.t 22) none (some (.t 24)) none⟩,
 ⟨some 0,none,.mv (.t 25)⟩])
 (.skip))))
 (.seq (.reg [⟨some 26,none,.mv (.t 0)⟩,
 ⟨some 4,none,.mv (.t 26)⟩])
 (.ret))))) true true
theorem mk80 : cFun Tryz.prog true true Tryz.f80 = some ir80 := by kernel_rfl
def ir81 : Fun := .mk 27 [.t 4] (
 .seq (.reg [⟨some 4,none,.mv (.c (.nils))⟩])
 (.seq (.seq (.reg [⟨some 5,none,.mv (.t 1)⟩,
 ⟨some 6,none,.bin false .lss (.t 5) (.c (.int .i64 0))⟩])
 (.cond (.t 6) (.reg [⟨some 7,none,.stuck⟩,
 ⟨none,none,.stuck⟩])
 (.skip)))
 (.seq (.seq (.reg [⟨some 8,none,.mv (.t 1)⟩,
 ⟨some 9,none,.mv (.t 0)⟩,
 ⟨some 10,none,.cap (.t 9)⟩,
 ⟨some 11,none,.mv (.t 0)⟩,
 ⟨some 12,none,.len false (.t 11)⟩,
 ⟨some 13,none,.bin false .sub (.t 10) (.t 12)⟩,
 ⟨some 14,none,.bin false .sub (.t 8) (.t 13)⟩,
 ⟨some 1,none,.mv (.t 14)⟩])
 (.seq (.reg [⟨some 15,none,.mv (.t 1)⟩,
 ⟨some 16,none,.bin false .gtr (.t 15) (.c (.int .i64 0))⟩])
 (.cond (.t 16) (.reg [⟨some 17,none,.mv (.t 0)⟩,
 ⟨some 18,none,.mv (.t 0)⟩,
 ⟨some 19,none,.cap (.t 18)⟩,
 ⟨some 20,none,.slcL 1 (.t 17) none (some (.t 19)) none⟩,
 ⟨some 21,none,.mv (.t 1)⟩,
 ⟨some 22,none,.appz 1 8 [.int .i64 0] (.t 20) (.t 21)⟩,
 ⟨some 23,none,.mv (.t 0)⟩,
 ⟨some 24,none,.len false (.t 23)⟩,
 ⟨some 25,none,.slcL 1 (.t 22) none (some (.t 24)) none⟩,
 ⟨some 0,none,.mv (.t 25)⟩])
 (.skip))))
 (.seq (.reg [⟨some 26,none,.mv (.t 0)⟩,
 ⟨some 4,none,.mv (.t 26)⟩])
 (.ret))))) true true
theorem mk81 : cFun Tryz.prog true true Tryz.f81 = some ir81 := by kernel_rfl
def ir82 : Fun := .mk 30 [.t 4,.t 5] (
 .seq (.reg [⟨some 4,none,.mv (.c (.int .u64 0))⟩,
 ⟨some 5,none,.mv (.c (.int .u64 0))⟩])
 (.seq (.cond (.c (.bool false)) (.seq (.reg [⟨some 11,none,.mv (.t 0)⟩,
 ⟨some 12,none,.conv (.int .u32) (.t 11)⟩,
 ⟨some 13,none,.mv (.t 1)⟩,
 ⟨some 14,none,.conv (.int .u32) (.t 13)⟩,
 ⟨some 15,none,.call (.c (.fn 109 [] [])) [.t 12,.t 14]⟩,
 ⟨some 10,none,.mv (.t 15)⟩,
 ⟨some 16,none,.ext 0 (.t 10)⟩,
 ⟨some 17,none,.ext 1 (.t 10)⟩,
 ⟨some 6,none,.mv (.t 16)⟩,
 ⟨some 7,none,.mv (.t 17)⟩])
 (.seq (.reg [⟨some 18,none,.mv (.t 6)⟩,
 ⟨some 19,none,.conv (.int .u64) (.t 18)⟩,
 ⟨some 20,none,.mv (.t 7)⟩,
 ⟨some 21,none,.conv (.int .u64) (.t 20)⟩,
 ⟨some 4,none,.mv (.t 19)⟩,
 ⟨some 5,none,.mv (.t 21)⟩])
 (.ret)))
 (.skip))
 (.seq (.reg [⟨some 23,none,.mv (.t 0)⟩,
 ⟨some 24,none,.mv (.t 1)⟩,
 ⟨some 25,none,.call (.c (.fn 110 [] [])) [.t 23,.t 24]⟩,
 ⟨some 22,none,.mv (.t 25)⟩,
 ⟨some 26,none,.ext 0 (.t 22)⟩,
 ⟨some 27,none,.ext 1 (.t 22)⟩,
 ⟨some 8,none,.mv (.t 26)⟩,
 ⟨some 9,none,.mv (.t 27)⟩])
 (.seq (.reg [⟨some 28,none,.mv (.t 8)⟩,
 ⟨some 29,none,.mv (.t 9)⟩,
 ⟨some 4,none,.mv (.t 28)⟩,
 ⟨some 5,none,.mv (.t 29)⟩])
 (.ret))))) false false
theorem mk82 : cFun Tryz.prog false false Tryz.f82 = some ir82 := by kernel_rfl
def ir83 : Fun := .mk 17 [.t 4,.t 5] (
 .seq (.reg [⟨some 2,none,.box (.t 0)⟩,
 ⟨some 4,none,.mv (.c (.bool false))⟩,
 ⟨some 5,none,.mv (.c (.int .i64 0))⟩])
 (.seq (.seq (.reg [⟨some 7,none,.load true 3 (.t 2)⟩,
 ⟨some 8,none,.mv (.t 1)⟩,
 ⟨some 9,none,.len false (.t 8)⟩,
 ⟨some 10,none,.call (.c (.fn 111 [] [])) [.t 7,.t 9]⟩,
 ⟨some 6,none,.mv (.t 10)⟩])
 (.seq (.reg [⟨some 11,none,.mv (.t 6)⟩,
 ⟨some 12,none,.bin false .neq (.t 11) (.c (.int .i64 0))⟩])
 (.cond (.t 12) (.seq (.reg [⟨some 13,none,.mv (.t 6)⟩,
 ⟨some 4,none,.mv (.c (.bool false))⟩,
 ⟨some 5,none,.mv (.t 13)⟩])
 (.ret))
 (.skip))))
 (.seq (.reg [⟨some 14,none,.load true 3 (.t 2)⟩,
 ⟨some 15,none,.mv (.t 1)⟩,
 ⟨some 16,none,.call (.c (.fn 112 [] [])) [.t 14,.t 15]⟩,
 ⟨some 4,none,.mv (.t 16)⟩,
 ⟨some 5,none,.mv (.c (.int .i64 0))⟩])
 (.ret)))) false false
theorem mk83 : cFun Tryz.prog false false Tryz.f83 = some ir83 := by kernel_rfl
def ir84 : Fun := .mk 10 [.t 2] (
 .seq (.reg [⟨some 1,none,.box (.t 0)⟩,
 ⟨some 2,none,.mv (.c (.int .i64 0))⟩])
 (.seq (.reg [⟨some 3,none,.faddr 0 (.t 1)⟩,
 ⟨some 4,none,.load false 1 (.t 3)⟩,
 ⟨some 5,none,.bin false .mul (.c (.int .i64 2)) (.t 4)⟩,
 ⟨some 6,none,.faddr 1 (.t 1)⟩,
 ⟨some 7,none,.load false 1 (.t 6)⟩,
 ⟨some 8,none,.len false (.t 7)⟩,
 ⟨some 9,none,.bin false .add (.t 5) (.t 8)⟩,
 ⟨some 2,none,.mv (.t 9)⟩])
 (.ret))) false false
theorem mk84 : cFun Tryz.prog false false Tryz.f84 = some ir84 := by kernel_rfl
def ir85 : Fun := .mk 6 [.t 4] (
 .seq (.reg [⟨some 2,none,.box (.t 0)⟩,
 ⟨some 3,none,.box (.t 1)⟩,
 ⟨some 4,none,.mv (.c (.nilfn))⟩])
 (.seq (.reg [⟨some 5,none,.mkfn 86 [] [.t 2,.t 3]⟩,
 ⟨some 4,none,.mv (.t 5)⟩])
 (.ret))) false true
theorem mk85 : cFun Tryz.prog false true Tryz.f85 = some ir85 := by kernel_rfl
def ir86 : Fun := .mk 6 [.cell 2 true 2] (
 .seq (.reg [⟨some 2,none,.alloc [.int .i64 0,.int .i64 0]⟩])
 (.seq (.reg [⟨some 3,none,.load false 1 (.t 0)⟩,
 ⟨some 4,none,.load false 1 (.t 1)⟩,
 ⟨some 5,none,.build [.int .i64 0,.int .i64 0] [(0,1,(.t 3)),(1,1,(.t 4))]⟩,
 ⟨none,none,.store 2 (.t 2) (.t 5)⟩])
 (.ret))) false false
theorem mk86 : cFun Tryz.prog false false Tryz.f86 = some ir86 := by kernel_rfl
def L87_0 : C := (
 .seq (.reg [⟨some 30,none,.bin false .lss (.t 29) (.t 28)⟩])
 (.seq (.cond (.t 30) (.skip)
 (.exit 0))
 (.seq (.block 1 (.seq (.reg [⟨some 31,none,.iaddrL 3 (.t 27) (.t 29)⟩,
 ⟨some 32,none,.load true 3 (.t 31)⟩,
 ⟨some 9,none,.alloc [.int .i64 0,.int .i64 0,.nils]⟩,
 ⟨none,none,.store 3 (.t 9) (.t 32)⟩])
 (.draw [⟨some 33,none,.faddr 2 (.t 7)⟩,
 ⟨some 34,none,.load false 1 (.t 33)⟩,
 ⟨some 35,none,.load false 1 (.t 4)⟩,
 ⟨some 36,none,.load true 3 (.t 9)⟩,
 ⟨some 37,none,.call (.t 35) [.t 36]⟩,
 ⟨some 38,none,.bslice true 3 [.int .i64 0,.int .i64 0,.imm []] 1 [(0,(.t 37))]⟩,
 ⟨some 39,none,.app 3 40 (.t 34) (.t 38)⟩,
 ⟨some 40,none,.faddr 2 (.t 7)⟩,
 ⟨none,none,.store 1 (.t 40) (.t 39)⟩] [(1,4),(1,5)])))
 (.reg [⟨some 41,none,.bin false .add (.t 29) (.c (.int .i64 1))⟩,
 ⟨some 29,none,.mv (.t 41)⟩]))))
def ir87 : Fun := .mk 43 [.cell 6 true 3] (
 .seq (.reg [⟨some 5,none,.box (.t 0)⟩,
 ⟨some 6,none,.alloc [.int .i64 0,.int .i64 0,.nils]⟩])
 (.seq (.seq (.reg [⟨some 10,none,.faddr 0 (.t 5)⟩,
 ⟨some 11,none,.load false 1 (.t 10)⟩,
 ⟨some 12,none,.bin false .eql (.t 11) (.c (.int .i64 1))⟩,
 ⟨some 13,none,.mv (.t 12)⟩,
 ⟨some 14,some (13,true),.faddr 1 (.t 5)⟩,
 ⟨some 15,some (13,true),.load false 1 (.t 14)⟩,
 ⟨some 16,some (13,true),.load false 1 (.t 1)⟩,
 ⟨some 17,some (13,true),.bin false .eql (.t 15) (.t 16)⟩,
 ⟨some 18,none,.pick (.t 13) (.t 17) (.c (.bool false))⟩])
 (.cond (.t 18) (.seq (.reg [⟨none,none,.store 1 (.t 2) (.c (.bool true))⟩])
 (.seq (.reg [⟨some 19,none,.load false 1 (.t 3)⟩,
 ⟨some 20,none,.build [.int .i64 0,.int .i64 0,.nils] [(0,1,(.c (.int .i64 0))),(1,1,(.t 19))]⟩,
 ⟨none,none,.store 3 (.t 6) (.t 20)⟩])
 (.ret)))
 (.skip)))
 (.seq (.reg [⟨some 21,none,.faddr 0 (.t 5)⟩,
 ⟨some 22,none,.load false 1 (.t 21)⟩,
 ⟨some 23,none,.faddr 1 (.t 5)⟩,
 ⟨some 24,none,.load false 1 (.t 23)⟩,
 ⟨some 25,none,.build [.int .i64 0,.int .i64 0,.nils] [(0,1,(.t 22)),(1,1,(.t 24))]⟩,
 ⟨some 7,none,.alloc [.int .i64 0,.int .i64 0,.nils]⟩,
 ⟨none,none,.store 3 (.t 7) (.t 25)⟩])
 (.seq (.seq (.reg [⟨some 26,none,.faddr 2 (.t 5)⟩,
 ⟨some 27,none,.load false 1 (.t 26)⟩,
 ⟨some 28,none,.len false (.t 27)⟩,
 ⟨some 29,none,.mv (.c (.int .i64 0))⟩])
 (.block 0 (.loop L87_0)))
 (.seq (.reg [⟨some 42,none,.load true 3 (.t 7)⟩,
 ⟨none,none,.store 3 (.t 6) (.t 42)⟩])
 (.ret)))))) false false
theorem mk87 : cFun Tryz.prog false false Tryz.f87 = some ir87 := by kernel_rfl
def ir88 : Fun := .mk 46 [.t 4] (
 .seq (.reg [⟨some 2,none,.box (.t 0)⟩,
 ⟨some 4,none,.mv (.c (.str []))⟩])
 (.seq (.reg [⟨some 6,none,.load true 5 (.t 2)⟩,
 ⟨some 7,none,.call (.c (.fn 84 [] [])) [.t 6]⟩,
 ⟨some 5,none,.mv (.t 7)⟩])
 (.block 0 (.seq (.reg [⟨some 17,none,.mv (.t 1)⟩,
 ⟨some 18,none,.faddr 0 (.t 2)⟩,
 ⟨some 19,none,.load false 1 (.t 18)⟩,
 ⟨some 20,none,.bin false .mul (.c (.int .i64 2)) (.t 19)⟩,
 ⟨some 21,none,.bin false .lss (.t 17) (.t 20)⟩,
 ⟨some 16,none,.mv (.t 21)⟩])
 (.cond (.t 16) (.seq (.reg [⟨some 22,none,.mv (.t 1)⟩,
 ⟨some 23,none,.bin false .quo (.t 22) (.c (.int .i64 2))⟩,
 ⟨some 24,none,.bin false .add (.c (.int .i64 97)) (.t 23)⟩,
 ⟨some 25,none,.conv (.int .i32) (.t 24)⟩,
 ⟨some 26,none,.conv .i2s (.t 25)⟩,
 ⟨some 27,none,.mv (.t 1)⟩,
 ⟨some 28,none,.bin false .rem (.t 27) (.c (.int .i64 2))⟩,
 ⟨some 29,none,.bin false .add (.c (.int .i64 48)) (.t 28)⟩,
 ⟨some 30,none,.conv (.int .i32) (.t 29)⟩,
 ⟨some 31,none,.conv .i2s (.t 30)⟩,
 ⟨some 32,none,.bin false .add (.t 26) (.t 31)⟩,
 ⟨some 4,none,.mv (.t 32)⟩])
 (.ret))
 (.seq (.reg [⟨some 34,none,.mv (.t 1)⟩,
 ⟨some 35,none,.mv (.t 5)⟩,
 ⟨some 36,none,.bin false .lss (.t 34) (.t 35)⟩,
 ⟨some 33,none,.mv (.t 36)⟩])
 (.cond (.t 33) (.seq (.reg [⟨some 37,none,.faddr 1 (.t 2)⟩,
 ⟨some 38,none,.load false 1 (.t 37)⟩,
 ⟨some 39,none,.mv (.t 1)⟩,
 ⟨some 40,none,.faddr 0 (.t 2)⟩,
 ⟨some 41,none,.load false 1 (.t 40)⟩,
 ⟨some 42,none,.bin false .mul (.c (.int .i64 2)) (.t 41)⟩,
 ⟨some 43,none,.bin false .sub (.t 39) (.t 42)⟩,
 ⟨some 44,none,.iaddrL 1 (.t 38) (.t 43)⟩,
 ⟨some 45,none,.load false 1 (.t 44)⟩,
 ⟨some 4,none,.mv (.t 45)⟩])
 (.ret))
 (.seq (.reg [⟨some 8,none,.faddr 2 (.t 2)⟩,
 ⟨some 9,none,.load false 1 (.t 8)⟩,
 ⟨some 10,none,.mv (.t 1)⟩,
 ⟨some 11,none,.mv (.t 5)⟩,
 ⟨some 12,none,.bin false .sub (.t 10) (.t 11)⟩,
 ⟨some 13,none,.iaddrL 10 (.t 9) (.t 12)⟩,
 ⟨some 14,none,.faddr 0 (.t 13)⟩,
 ⟨some 15,none,.load false 1 (.t 14)⟩,
 ⟨some 4,none,.mv (.t 15)⟩])
 (.ret))))))))) false false
theorem mk88 : cFun Tryz.prog false false Tryz.f88 = some ir88 := by kernel_rfl
def L89_0 : C := (
 .seq (.reg [⟨some 9,none,.bin false .lss (.t 8) (.t 7)⟩])
 (.seq (.cond (.t 9) (.skip)
 (.exit 0))
 (.seq (.block 1 (.seq (.reg [⟨some 10,none,.mv (.t 8)⟩,
 ⟨some 5,none,.mv (.t 10)⟩])
 (.seq (.reg [⟨some 11,none,.mv (.t 1)⟩,
 ⟨some 12,none,.mv (.t 0)⟩,
 ⟨some 13,none,.mv (.t 5)⟩,
 ⟨some 14,none,.iaddrL 1 (.t 12) (.t 13)⟩,
 ⟨some 15,none,.load false 1 (.t 14)⟩,
 ⟨some 16,none,.bin false .eql (.t 11) (.t 15)⟩])
 (.cond (.t 16) (.seq (.reg [⟨some 17,none,.mv (.t 5)⟩,
 ⟨some 4,none,.mv (.t 17)⟩])
 (.ret))
 (.skip)))))
 (.reg [⟨some 18,none,.bin false .add (.t 8) (.c (.int .i64 1))⟩,
 ⟨some 8,none,.mv (.t 18)⟩]))))
def ir89 : Fun := .mk 19 [.t 4] (
 .seq (.reg [⟨some 4,none,.mv (.c (.int .i64 0))⟩])
 (.seq (.seq (.reg [⟨some 6,none,.mv (.t 0)⟩,
 ⟨some 7,none,.len false (.t 6)⟩,
 ⟨some 8,none,.mv (.c (.int .i64 0))⟩])
 (.block 0 (.loop L89_0)))
 (.seq (.reg [⟨some 4,none,.mv (.c (.int .i64 (-1)))⟩])
 (.ret)))) false false
theorem mk89 : cFun Tryz.prog false false Tryz.f89 = some ir89 := by kernel_rfl
def ir90 : Fun := .mk 35 [.t 4] (
 .seq (.reg [⟨some 2,none,.box (.t 0)⟩,
 ⟨some 3,none,.box (.t 1)⟩,
 ⟨some 4,none,.mv (.c (.int .i64 0))⟩])
 (.seq (.draw [⟨some 5,none,.alloc [.str [],.int .i64 0,.int .i64 0,.int .i64 0,.nils,.int .i64 0,.int .i64 0,.nils,.int .i64 0,.bool false]⟩,
 ⟨some 6,none,.alloc [.bool false]⟩,
 ⟨some 7,none,.load false 1 (.t 2)⟩,
 ⟨some 8,none,.nilck (.t 7)⟩,
 ⟨some 9,none,.faddr 0 (.t 8)⟩,
 ⟨some 10,none,.faddr 2 (.t 9)⟩,
 ⟨some 11,none,.load false 1 (.t 10)⟩,
 ⟨some 12,none,.load false 1 (.t 3)⟩,
 ⟨some 13,none,.iaddrL 10 (.t 11) (.t 12)⟩,
 ⟨some 14,none,.load true 10 (.t 13)⟩,
 ⟨none,none,.store 10 (.t 5) (.t 14)⟩,
 ⟨none,none,.store 1 (.t 6) (.c (.bool false))⟩] [])
 (.seq (.reg [⟨some 15,none,.faddr 2 (.t 5)⟩,
 ⟨some 16,none,.load true 3 (.t 15)⟩,
 ⟨some 17,none,.mkfn 114 [] [.t 2,.t 6,.t 3]⟩,
 ⟨some 18,none,.call (.c (.fn 113 [] [])) [.t 16,.t 17]⟩])
 (.seq (.block 0 (.seq (.reg [⟨some 20,none,.load false 1 (.t 6)⟩,
 ⟨some 19,none,.mv (.t 20)⟩])
 (.cond (.t 19) (.seq (.reg [⟨some 4,none,.mv (.c (.int .i64 9))⟩])
 (.ret))
 (.seq (.reg [⟨some 22,none,.faddr 5 (.t 5)⟩,
 ⟨some 23,none,.load true 3 (.t 22)⟩,
 ⟨some 24,none,.call (.c (.fn 115 [] [])) [.t 23]⟩,
 ⟨some 25,none,.un .not (.t 24)⟩,
 ⟨some 26,none,.mv (.t 25)⟩,
 ⟨some 27,some (26,false),.faddr 9 (.t 5)⟩,
 ⟨some 28,some (26,false),.load false 1 (.t 27)⟩,
 ⟨some 29,none,.pick (.t 26) (.c (.bool true)) (.t 28)⟩,
 ⟨some 30,none,.mv (.t 29)⟩,
 ⟨some 31,some (30,false),.faddr 8 (.t 5)⟩,
 ⟨some 32,some (30,false),.load false 1 (.t 31)⟩,
 ⟨some 33,some (30,false),.bin false .neq (.t 32) (.c (.int .i64 0))⟩,
 ⟨some 34,none,.pick (.t 30) (.c (.bool true)) (.t 33)⟩,
 ⟨some 21,none,.mv (.t 34)⟩])
 (.cond (.t 21) (.seq (.reg [⟨some 4,none,.mv (.c (.int .i64 3))⟩])
 (.ret))
 (.skip))))))
 (.seq (.reg [⟨some 4,none,.mv (.c (.int .i64 0))⟩])
 (.ret)))))) false false
theorem mk90 : cFun Tryz.prog false false Tryz.f90 = some ir90 := by kernel_rfl
def ir91 : Fun := .mk 34 [.t 4] (
 .seq (.reg [⟨some 4,none,.mv (.c (.int .i64 0))⟩])
 (.seq (.seq (.draw [⟨some 6,none,.mv (.t 0)⟩,
 ⟨some 7,none,.nilck (.t 6)⟩,
 ⟨some 8,none,.faddr 0 (.t 7)⟩,
 ⟨some 9,none,.faddr 2 (.t 8)⟩,
 ⟨some 10,none,.load false 1 (.t 9)⟩,
 ⟨some 11,none,.mv (.t 1)⟩,
 ⟨some 12,none,.iaddrL 10 (.t 10) (.t 11)⟩,
 ⟨some 13,none,.faddr 5 (.t 12)⟩,
 ⟨some 14,none,.load true 3 (.t 13)⟩,
 ⟨some 15,none,.mv (.t 0)⟩,
 ⟨some 16,none,.nilck (.t 15)⟩,
 ⟨some 17,none,.faddr 0 (.t 16)⟩,
 ⟨some 18,none,.load true 5 (.t 17)⟩,
 ⟨some 19,none,.call (.c (.fn 51 [] [])) [.t 18]⟩,
 ⟨some 20,none,.call (.c (.fn 111 [] [])) [.t 14,.t 19]⟩,
 ⟨some 5,none,.mv (.t 20)⟩] [(4,13),(8,13)])
 (.seq (.reg [⟨some 21,none,.mv (.t 5)⟩,
 ⟨some 22,none,.bin false .neq (.t 21) (.c (.int .i64 0))⟩])
 (.cond (.t 22) (.seq (.reg [⟨some 23,none,.mv (.t 5)⟩,
 ⟨some 4,none,.mv (.t 23)⟩])
 (.ret))
 (.skip))))
 (.seq (.seq (.reg [⟨some 24,none,.mv (.t 0)⟩,
 ⟨some 25,none,.nilck (.t 24)⟩,
 ⟨some 26,none,.faddr 0 (.t 25)⟩,
 ⟨some 27,none,.faddr 2 (.t 26)⟩,
 ⟨some 28,none,.load false 1 (.t 27)⟩,
 ⟨some 29,none,.mv (.t 1)⟩,
 ⟨some 30,none,.iaddrL 10 (.t 28) (.t 29)⟩,
 ⟨some 31,none,.faddr 8 (.t 30)⟩,
 ⟨some 32,none,.load false 1 (.t 31)⟩,
 ⟨some 33,none,.bin false .neq (.t 32) (.c (.int .i64 0))⟩])
 (.cond (.t 33) (.seq (.reg [⟨some 4,none,.mv (.c (.int .i64 3))⟩])
 (.ret))
 (.skip)))
 (.seq (.reg [⟨some 4,none,.mv (.c (.int .i64 0))⟩])
 (.ret))))) false false
theorem mk91 : cFun Tryz.prog false false Tryz.f91 = some ir91 := by kernel_rfl
def ir92 : Fun := .mk 32 [.t 4] (
 .seq (.reg [⟨some 4,none,.mv (.c (.int .i64 0))⟩])
 (.seq (.seq (.reg [⟨some 6,none,.mv (.t 0)⟩,
 ⟨some 7,none,.nilck (.t 6)⟩,
 ⟨some 8,none,.faddr 0 (.t 7)⟩,
 ⟨some 9,none,.faddr 2 (.t 8)⟩,
 ⟨some 10,none,.load false 1 (.t 9)⟩,
 ⟨some 11,none,.mv (.t 1)⟩,
 ⟨some 12,none,.iaddrL 10 (.t 10) (.t 11)⟩,
 ⟨some 13,none,.load true 10 (.t 12)⟩,
 ⟨some 5,none,.alloc [.str [],.int .i64 0,.int .i64 0,.int .i64 0,.nils,.int .i64 0,.int .i64 0,.nils,.int .i64 0,.bool false]⟩,
 ⟨none,none,.store 10 (.t 5) (.t 13)⟩])
 (.block 0 (.seq (.reg [⟨some 15,none,.faddr 8 (.t 5)⟩,
 ⟨some 16,none,.load false 1 (.t 15)⟩,
 ⟨some 17,none,.bin false .lss (.t 16) (.c (.int .i64 1))⟩,
 ⟨some 18,none,.mv (.t 17)⟩,
 ⟨some 19,some (18,false),.faddr 8 (.t 5)⟩,
 ⟨some 20,some (18,false),.load false 1 (.t 19)⟩,
 ⟨some 21,some (18,false),.bin false .gtr (.t 20) (.c (.int .i64 1000000))⟩,
 ⟨some 22,none,.pick (.t 18) (.c (.bool true)) (.t 21)⟩,
 ⟨some 14,none,.mv (.t 22)⟩])
 (.cond (.t 14) (.seq (.reg [⟨some 4,none,.mv (.c (.int .i64 2))⟩])
 (.ret))
 (.seq (.reg [⟨some 24,none,.faddr 5 (.t 5)⟩,
 ⟨some 25,none,.load true 3 (.t 24)⟩,
 ⟨some 26,none,.call (.c (.fn 115 [] [])) [.t 25]⟩,
 ⟨some 27,none,.un .not (.t 26)⟩,
 ⟨some 28,none,.mv (.t 27)⟩,
 ⟨some 29,some (28,false),.faddr 9 (.t 5)⟩,
 ⟨some 30,some (28,false),.load false 1 (.t 29)⟩,
 ⟨some 31,none,.pick (.t 28) (.c (.bool true)) (.t 30)⟩,
 ⟨some 23,none,.mv (.t 31)⟩])
 (.cond (.t 23) (.seq (.reg [⟨some 4,none,.mv (.c (.int .i64 3))⟩])
 (.ret))
 (.skip)))))))
 (.seq (.reg [⟨some 4,none,.mv (.c (.int .i64 0))⟩])
 (.ret)))) false false
theorem mk92 : cFun Tryz.prog false false Tryz.f92 = some ir92 := by kernel_rfl
def ir93 : Fun := .mk 46 [.t 4] (
 .seq (.reg [⟨some 4,none,.mv (.c (.int .i64 0))⟩])
 (.seq (.seq (.reg [⟨some 7,none,.mv (.t 1)⟩,
 ⟨some 8,none,.bin false .eql (.t 7) (.c (.str []))⟩,
 ⟨some 9,none,.mv (.t 8)⟩,
 ⟨some 10,some (9,false),.mv (.t 1)⟩,
 ⟨some 11,some (9,false),.idxS (.t 10) (.c (.int .i64 0))⟩,
 ⟨some 12,some (9,false),.bin false .lss (.t 11) (.c (.int .u8 97))⟩,
 ⟨some 13,none,.pick (.t 9) (.c (.bool true)) (.t 12)⟩,
 ⟨some 14,none,.mv (.t 13)⟩,
 ⟨some 15,some (14,false),.mv (.t 1)⟩,
 ⟨some 16,some (14,false),.idxS (.t 15) (.c (.int .i64 0))⟩,
 ⟨some 17,some (14,false),.bin false .gtr (.t 16) (.c (.int .u8 122))⟩,
 ⟨some 18,none,.pick (.t 14) (.c (.bool true)) (.t 17)⟩,
 ⟨some 19,none,.mv (.t 18)⟩,
 ⟨some 20,some (19,false),.mv (.t 1)⟩,
 ⟨some 21,some (19,false),.call (.c (.fn 116 [] [])) [.t 20,.c (.fn 117 [] [])]⟩,
 ⟨some 22,none,.pick (.t 19) (.c (.bool true)) (.t 21)⟩])
 (.cond (.t 22) (.seq (.reg [⟨some 4,none,.mv (.c (.int .i64 3))⟩])
 (.ret))
 (.skip)))
 (.seq (.seq (.reg [⟨some 23,none,.mv (.t 1)⟩,
 ⟨some 24,none,.len true (.t 23)⟩,
 ⟨some 25,none,.bin false .gtr (.t 24) (.c (.int .i64 24))⟩])
 (.cond (.t 25) (.seq (.reg [⟨some 4,none,.mv (.c (.int .i64 17))⟩])
 (.ret))
 (.skip)))
 (.seq (.seq (.reg [⟨some 27,none,.mv (.t 0)⟩,
 ⟨some 28,none,.nilck (.t 27)⟩,
 ⟨some 29,none,.faddr 5 (.t 28)⟩,
 ⟨some 30,none,.load false 1 (.t 29)⟩,
 ⟨some 31,none,.mv (.t 1)⟩,
 ⟨some 32,none,.look 2 (.int .i64 0) true (.t 30) (.t 31)⟩,
 ⟨some 26,none,.mv (.t 32)⟩,
 ⟨some 33,none,.ext 0 (.t 26)⟩,
 ⟨some 34,none,.ext 1 (.t 26)⟩,
 ⟨some 5,none,.mv (.t 33)⟩,
 ⟨some 6,none,.mv (.t 34)⟩])
 (.seq (.reg [⟨some 35,none,.mv (.t 6)⟩])
 (.cond (.t 35) (.seq (.reg [⟨some 4,none,.mv (.c (.int .i64 7))⟩])
 (.ret))
 (.skip))))
 (.seq (.draw [⟨some 36,none,.mv (.t 0)⟩,
 ⟨some 37,none,.nilck (.t 36)⟩,
 ⟨some 38,none,.faddr 5 (.t 37)⟩,
 ⟨some 39,none,.load false 1 (.t 38)⟩,
 ⟨some 40,none,.mv (.t 1)⟩,
 ⟨some 41,none,.mv (.t 0)⟩,
 ⟨some 42,none,.nilck (.t 41)⟩,
 ⟨some 43,none,.faddr 5 (.t 42)⟩,
 ⟨some 44,none,.load false 1 (.t 43)⟩,
 ⟨some 45,none,.lenm (.t 44)⟩,
 ⟨none,none,.upd 2 (.t 39) (.t 40) (.t 45)⟩] [(3,9)])
 (.seq (.reg [⟨some 4,none,.mv (.c (.int .i64 0))⟩])
 (.ret))))))) false false
theorem mk93 : cFun Tryz.prog false false Tryz.f93 = some ir93 := by kernel_rfl
def ir94 : Fun := .mk 51 [.t 4] (
 .seq (.reg [⟨some 4,none,.mv (.c (.int .i64 0))⟩])
 (.seq (.reg [⟨some 8,none,.mv (.t 0)⟩,
 ⟨some 9,none,.nilck (.t 8)⟩,
 ⟨some 10,none,.faddr 0 (.t 9)⟩,
 ⟨some 11,none,.faddr 2 (.t 10)⟩,
 ⟨some 12,none,.load false 1 (.t 11)⟩,
 ⟨some 13,none,.mv (.t 1)⟩,
 ⟨some 14,none,.iaddrL 10 (.t 12) (.t 13)⟩,
 ⟨some 15,none,.load true 10 (.t 14)⟩,
 ⟨some 5,none,.alloc [.str [],.int .i64 0,.int .i64 0,.int .i64 0,.nils,.int .i64 0,.int .i64 0,.nils,.int .i64 0,.bool false]⟩,
 ⟨none,none,.store 10 (.t 5) (.t 15)⟩])
 (.seq (.seq (.reg [⟨some 16,none,.mv (.t 0)⟩,
 ⟨some 17,none,.faddr 0 (.t 5)⟩,
 ⟨some 18,none,.load false 1 (.t 17)⟩,
 ⟨some 19,none,.call (.c (.fn 93 [] [])) [.t 16,.t 18]⟩,
 ⟨some 6,none,.mv (.t 19)⟩])
 (.seq (.reg [⟨some 20,none,.mv (.t 6)⟩,
 ⟨some 21,none,.bin false .neq (.t 20) (.c (.int .i64 0))⟩])
 (.cond (.t 21) (.seq (.reg [⟨some 22,none,.mv (.t 6)⟩,
 ⟨some 4,none,.mv (.t 22)⟩])
 (.ret))
 (.skip))))
 (.seq (.seq (.reg [⟨some 23,none,.faddr 1 (.t 5)⟩,
 ⟨some 24,none,.load false 1 (.t 23)⟩,
 ⟨some 25,none,.bin false .lss (.t 24) (.c (.int .i64 0))⟩,
 ⟨some 26,none,.mv (.t 25)⟩,
 ⟨some 27,some (26,false),.faddr 1 (.t 5)⟩,
 ⟨some 28,some (26,false),.load false 1 (.t 27)⟩,
 ⟨some 29,some (26,false),.bin false .geq (.t 28) (.c (.int .i64 3))⟩,
 ⟨some 30,none,.pick (.t 26) (.c (.bool true)) (.t 29)⟩])
 (.cond (.t 30) (.seq (.reg [⟨some 4,none,.mv (.c (.int .i64 1))⟩])
 (.ret))
 (.skip)))
 (.seq (.seq (.draw [⟨some 31,none,.faddr 2 (.t 5)⟩,
 ⟨some 32,none,.load true 3 (.t 31)⟩,
 ⟨some 33,none,.mv (.t 0)⟩,
 ⟨some 34,none,.nilck (.t 33)⟩,
 ⟨some 35,none,.faddr 0 (.t 34)⟩,
 ⟨some 36,none,.load true 5 (.t 35)⟩,
 ⟨some 37,none,.call (.c (.fn 51 [] [])) [.t 36]⟩,
 ⟨some 38,none,.call (.c (.fn 111 [] [])) [.t 32,.t 37]⟩,
 ⟨some 7,none,.mv (.t 38)⟩] [(1,6)])
 (.seq (.reg [⟨some 39,none,.mv (.t 7)⟩,
 ⟨some 40,none,.bin false .neq (.t 39) (.c (.int .i64 0))⟩])
 (.cond (.t 40) (.seq (.reg [⟨some 41,none,.mv (.t 7)⟩,
 ⟨some 4,none,.mv (.t 41)⟩])
 (.ret))
 (.skip))))
 (.seq (.draw [⟨some 42,none,.mv (.t 0)⟩,
 ⟨some 43,none,.faddr 1 (.t 5)⟩,
 ⟨some 44,none,.load false 1 (.t 43)⟩,
 ⟨some 45,none,.nilck (.t 42)⟩,
 ⟨some 46,none,.faddr 6 (.t 45)⟩,
 ⟨some 47,none,.iaddrA 3 1 (.t 46) (.t 44)⟩,
 ⟨some 48,none,.load false 1 (.t 47)⟩,
 ⟨some 49,none,.mv (.t 1)⟩,
 ⟨some 50,none,.call (.t 48) [.t 49]⟩,
 ⟨some 4,none,.mv (.t 50)⟩] [])
 (.ret))))))) false false
theorem mk94 : cFun Tryz.prog false false Tryz.f94 = some ir94 := by kernel_rfl
def ir95 : Fun := .mk 9 [.t 4] (
 .seq (.reg [⟨some 4,none,.mv (.c (.bool false))⟩])
 (.seq (.reg [⟨some 5,none,.mv (.t 0)⟩,
 ⟨some 6,none,.mv (.t 1)⟩,
 ⟨some 7,none,.call (.c (.fn 119 [] [])) [.t 5,.t 6]⟩,
 ⟨some 8,none,.bin false .geq (.t 7) (.c (.int .i64 0))⟩,
 ⟨some 4,none,.mv (.t 8)⟩])
 (.ret))) false false
theorem mk95 : cFun Tryz.prog false false Tryz.f95 = some ir95 := by kernel_rfl
def ir96 : Fun := .mk 12 [.t 3] (
 .seq (.reg [⟨some 3,none,.mv (.c (.bool false))⟩])
 (.seq (.reg [⟨some 4,none,.mv (.t 0)⟩,
 ⟨some 5,none,.bin false .lss (.t 4) (.c (.int .i64 0))⟩,
 ⟨some 6,none,.mv (.t 5)⟩,
 ⟨some 7,some (6,false),.mv (.t 0)⟩,
 ⟨some 8,some (6,false),.load true 5 (.t 1)⟩,
 ⟨some 9,some (6,false),.call (.c (.fn 51 [] [])) [.t 8]⟩,
 ⟨some 10,some (6,false),.bin false .geq (.t 7) (.t 9)⟩,
 ⟨some 11,none,.pick (.t 6) (.c (.bool true)) (.t 10)⟩,
 ⟨some 3,none,.mv (.t 11)⟩])
 (.ret))) false false
theorem mk96 : cFun Tryz.prog false false Tryz.f96 = some ir96 := by kernel_rfl
def ir99 : Fun := .mk 45 [.t 4] (
 .seq (.reg [⟨some 2,none,.box (.t 0)⟩,
 ⟨some 4,none,.mv (.c (.str []))⟩])
 (.seq (.seq (.reg [⟨some 5,none,.mv (.t 1)⟩,
 ⟨some 6,none,.faddr 0 (.t 2)⟩,
 ⟨some 7,none,.load false 1 (.t 6)⟩,
 ⟨some 8,none,.bin false .mul (.c (.int .i64 2)) (.t 7)⟩,
 ⟨some 9,none,.bin false .lss (.t 5) (.t 8)⟩])
 (.cond (.t 9) (.seq (.draw [⟨some 10,none,.mv (.t 1)⟩,
 ⟨some 11,none,.bin false .quo (.t 10) (.c (.int .i64 2))⟩,
 ⟨some 12,none,.mv (.t 1)⟩,
 ⟨some 13,none,.bin false .quo (.t 12) (.c (.int .i64 2))⟩,
 ⟨some 14,none,.bin false .add (.t 13) (.c (.int .i64 1))⟩,
 ⟨some 15,none,.slcS (.c (.str [97,98,99,100,101,102])) (some (.t 11)) (some (.t 14))⟩,
 ⟨some 16,none,.mv (.t 1)⟩,
 ⟨some 17,none,.bin false .rem (.t 16) (.c (.int .i64 2))⟩,
 ⟨some 18,none,.mv (.t 1)⟩,
 ⟨some 19,none,.bin false .rem (.t 18) (.c (.int .i64 2))⟩,
 ⟨some 20,none,.bin false .add (.t 19) (.c (.int .i64 1))⟩,
 ⟨some 21,none,.slcS (.c (.str [48,49])) (some (.t 17)) (some (.t 20))⟩,
 ⟨some 22,none,.bin false .add (.t 15) (.t 21)⟩,
 ⟨some 4,none,.mv (.t 22)⟩] [])
 (.ret))
 (.skip)))
 (.seq (.seq (.reg [⟨some 23,none,.mv (.t 1)⟩,
 ⟨some 24,none,.load true 5 (.t 2)⟩,
 ⟨some 25,none,.call (.c (.fn 101 [] [])) [.t 24]⟩,
 ⟨some 26,none,.bin false .lss (.t 23) (.t 25)⟩])
 (.cond (.t 26) (.seq (.reg [⟨some 27,none,.faddr 1 (.t 2)⟩,
 ⟨some 28,none,.load false 1 (.t 27)⟩,
 ⟨some 29,none,.mv (.t 1)⟩,
 ⟨some 30,none,.faddr 0 (.t 2)⟩,
 ⟨some 31,none,.load false 1 (.t 30)⟩,
 ⟨some 32,none,.bin false .mul (.c (.int .i64 2)) (.t 31)⟩,
 ⟨some 33,none,.bin false .sub (.t 29) (.t 32)⟩,
 ⟨some 34,none,.iaddrL 1 (.t 28) (.t 33)⟩,
 ⟨some 35,none,.load false 1 (.t 34)⟩,
 ⟨some 4,none,.mv (.t 35)⟩])
 (.ret))
 (.skip)))
 (.seq (.draw [⟨some 36,none,.faddr 2 (.t 2)⟩,
 ⟨some 37,none,.load false 1 (.t 36)⟩,
 ⟨some 38,none,.mv (.t 1)⟩,
 ⟨some 39,none,.load true 5 (.t 2)⟩,
 ⟨some 40,none,.call (.c (.fn 101 [] [])) [.t 39]⟩,
 ⟨some 41,none,.bin false .sub (.t 38) (.t 40)⟩,
 ⟨some 42,none,.iaddrL 10 (.t 37) (.t 41)⟩,
 ⟨some 43,none,.faddr 0 (.t 42)⟩,
 ⟨some 44,none,.load false 1 (.t 43)⟩,
 ⟨some 4,none,.mv (.t 44)⟩] [(1,4)])
 (.ret))))) false false
theorem mk99 : cFun Tryz.prog false false Tryz.f99 = some ir99 := by kernel_rfl
def L100_0 : C := (
 .seq (.seq (.reg [⟨some 6,none,.mv (.t 3)⟩,
 ⟨some 7,none,.mv (.t 0)⟩,
 ⟨some 8,none,.len true (.t 7)⟩,
 ⟨some 9,none,.bin false .lss (.t 6) (.t 8)⟩])
 (.cond (.t 9) (.skip)
 (.exit 0)))
 (.seq (.block 1 (.seq (.draw [⟨some 12,none,.mv (.t 0)⟩,
 ⟨some 13,none,.mv (.t 3)⟩,
 ⟨some 14,none,.idxS (.t 12) (.t 13)⟩,
 ⟨some 15,none,.bin false .geq (.t 14) (.c (.int .u8 97))⟩,
 ⟨some 16,none,.mv (.t 15)⟩,
 ⟨some 17,some (16,true),.mv (.t 0)⟩,
 ⟨some 18,some (16,true),.mv (.t 3)⟩,
 ⟨some 19,some (16,true),.idxS (.t 17) (.t 18)⟩,
 ⟨some 20,some (16,true),.bin false .leq (.t 19) (.c (.int .u8 122))⟩,
 ⟨some 21,none,.pick (.t 16) (.t 20) (.c (.bool false))⟩,
 ⟨some 22,none,.mv (.t 0)⟩,
 ⟨some 23,none,.mv (.t 3)⟩,
 ⟨some 24,none,.idxS (.t 22) (.t 23)⟩,
 ⟨some 25,none,.bin false .geq (.t 24) (.c (.int .u8 65))⟩,
 ⟨some 26,none,.mv (.t 25)⟩,
 ⟨some 27,some (26,true),.mv (.t 0)⟩,
 ⟨some 28,some (26,true),.mv (.t 3)⟩,
 ⟨some 29,some (26,true),.idxS (.t 27) (.t 28)⟩,
 ⟨some 30,some (26,true),.bin false .leq (.t 29) (.c (.int .u8 90))⟩,
 ⟨some 31,none,.pick (.t 26) (.t 30) (.c (.bool false))⟩,
 ⟨some 4,none,.mv (.t 21)⟩,
 ⟨some 5,none,.mv (.t 31)⟩] [])
 (.seq (.reg [⟨some 32,none,.mv (.t 3)⟩,
 ⟨some 33,none,.bin false .eql (.t 32) (.c (.int .i64 0))⟩,
 ⟨some 34,none,.mv (.t 33)⟩,
 ⟨some 35,some (34,true),.mv (.t 4)⟩,
 ⟨some 36,some (34,true),.un .not (.t 35)⟩,
 ⟨some 37,none,.pick (.t 34) (.t 36) (.c (.bool false))⟩,
 ⟨some 38,none,.mv (.t 37)⟩,
 ⟨some 39,some (38,false),.mv (.t 4)⟩,
 ⟨some 40,some (38,false),.un .not (.t 39)⟩,
 ⟨some 41,some (38,false),.mv (.t 40)⟩,
 ⟨some 42,some (41,true),.mv (.t 5)⟩,
 ⟨some 43,some (41,true),.un .not (.t 42)⟩,
 ⟨some 44,some (38,false),.pick (.t 41) (.t 43) (.c (.bool false))⟩,
 ⟨some 45,some (38,false),.mv (.t 44)⟩,
 ⟨some 46,some (45,true),.mv (.t 0)⟩,
 ⟨some 47,some (45,true),.mv (.t 3)⟩,
 ⟨some 48,some (45,true),.idxS (.t 46) (.t 47)⟩,
 ⟨some 49,some (45,true),.bin false .neq (.t 48) (.c (.int .u8 95))⟩,
 ⟨some 50,some (38,false),.pick (.t 45) (.t 49) (.c (.bool false))⟩,
 ⟨some 51,some (38,false),.mv (.t 50)⟩,
 ⟨some 52,some (51,true),.mv (.t 0)⟩,
 ⟨some 53,some (51,true),.mv (.t 3)⟩,
 ⟨some 54,some (51,true),.idxS (.t 52) (.t 53)⟩,
 ⟨some 55,some (51,true),.bin false .lss (.t 54) (.c (.int .u8 48))⟩,
 ⟨some 56,some (51,true),.mv (.t 55)⟩,
 ⟨some 57,some (56,false),.mv (.t 0)⟩,
 ⟨some 58,some (56,false),.mv (.t 3)⟩,
 ⟨some 59,some (56,false),.idxS (.t 57) (.t 58)⟩,
 ⟨some 60,some (56,false),.bin false .gtr (.t 59) (.c (.int .u8 57))⟩,
 ⟨some 61,some (51,true),.pick (.t 56) (.c (.bool true)) (.t 60)⟩,
 ⟨some 62,some (38,false),.pick (.t 51) (.t 61) (.c (.bool false))⟩,
 ⟨some 63,none,.pick (.t 38) (.c (.bool true)) (.t 62)⟩])
 (.cond (.t 63) (.seq (.reg [⟨some 2,none,.mv (.c (.bool false))⟩])
 (.ret))
 (.skip)))))
 (.reg [⟨some 10,none,.mv (.t 3)⟩,
 ⟨some 11,none,.bin false .add (.t 10) (.c (.int .i64 1))⟩,
 ⟨some 3,none,.mv (.t 11)⟩])))
def ir100 : Fun := .mk 66 [.t 2] (
 .seq (.reg [⟨some 2,none,.mv (.c (.bool false))⟩])
 (.seq (.seq (.reg [⟨some 3,none,.mv (.c (.int .i64 0))⟩])
 (.block 0 (.loop L100_0)))
 (.seq (.reg [⟨some 64,none,.mv (.t 0)⟩,
 ⟨some 65,none,.bin false .neq (.t 64) (.c (.str []))⟩,
 ⟨some 2,none,.mv (.t 65)⟩])
 (.ret)))) false false
theorem mk100 : cFun Tryz.prog false false Tryz.f100 = some ir100 := by kernel_rfl
def ir101 : Fun := .mk 10 [.t 2] (
 .seq (.reg [⟨some 1,none,.box (.t 0)⟩,
 ⟨some 2,none,.mv (.c (.int .i64 0))⟩])
 (.seq (.reg [⟨some 3,none,.faddr 0 (.t 1)⟩,
 ⟨some 4,none,.load false 1 (.t 3)⟩,
 ⟨some 5,none,.bin false .mul (.c (.int .i64 2)) (.t 4)⟩,
 ⟨some 6,none,.faddr 1 (.t 1)⟩,
 ⟨some 7,none,.load false 1 (.t 6)⟩,
 ⟨some 8,none,.len false (.t 7)⟩,
 ⟨some 9,none,.bin false .add (.t 5) (.t 8)⟩,
 ⟨some 2,none,.mv (.t 9)⟩])
 (.ret))) false false
theorem mk101 : cFun Tryz.prog false false Tryz.f101 = some ir101 := by kernel_rfl
def ir102 : Fun := .mk 17 [.t 4] (
 .seq (.reg [⟨some 2,none,.box (.t 0)⟩,
 ⟨some 4,none,.mv (.c (.int .i64 0))⟩])
 (.seq (.seq (.reg [⟨some 5,none,.mv (.t 1)⟩,
 ⟨some 6,none,.bin false .lss (.t 5) (.c (.int .i64 0))⟩,
 ⟨some 7,none,.mv (.t 6)⟩,
 ⟨some 8,some (7,false),.mv (.t 1)⟩,
 ⟨some 9,some (7,false),.bin false .gtr (.t 8) (.c (.int .i64 256))⟩,
 ⟨some 10,none,.pick (.t 7) (.c (.bool true)) (.t 9)⟩])
 (.cond (.t 10) (.seq (.reg [⟨some 4,none,.mv (.c (.int .i64 2))⟩])
 (.ret))
 (.skip)))
 (.seq (.seq (.reg [⟨some 11,none,.load true 3 (.t 2)⟩,
 ⟨some 12,none,.call (.c (.fn 22 [] [])) [.t 11]⟩,
 ⟨some 13,none,.un .not (.t 12)⟩])
 (.cond (.t 13) (.seq (.reg [⟨some 4,none,.mv (.c (.int .i64 5))⟩])
 (.ret))
 (.skip)))
 (.seq (.reg [⟨some 14,none,.load true 3 (.t 2)⟩,
 ⟨some 15,none,.mv (.t 1)⟩,
 ⟨some 16,none,.call (.c (.fn 120 [] [])) [.t 14,.t 15]⟩,
 ⟨some 4,none,.mv (.t 16)⟩])
 (.ret))))) false false
theorem mk102 : cFun Tryz.prog false false Tryz.f102 = some ir102 := by kernel_rfl
def L103_0 : C := (
 .seq (.seq (.reg [⟨some 7,none,.mv (.t 5)⟩,
 ⟨some 8,none,.faddr 2 (.t 2)⟩,
 ⟨some 9,none,.load false 1 (.t 8)⟩,
 ⟨some 10,none,.len false (.t 9)⟩,
 ⟨some 11,none,.bin false .lss (.t 7) (.t 10)⟩])
 (.cond (.t 11) (.skip)
 (.exit 0)))
 (.seq (.block 1 (.seq (.draw [⟨some 14,none,.faddr 2 (.t 2)⟩,
 ⟨some 15,none,.load false 1 (.t 14)⟩,
 ⟨some 16,none,.mv (.t 5)⟩,
 ⟨some 17,none,.iaddrL 10 (.t 15) (.t 16)⟩,
 ⟨some 18,none,.faddr 1 (.t 17)⟩,
 ⟨some 19,none,.load false 1 (.t 18)⟩,
 ⟨some 20,none,.bin false .eql (.t 19) (.c (.int .i64 0))⟩,
 ⟨some 21,none,.mv (.t 20)⟩,
 ⟨some 22,some (21,true),.faddr 2 (.t 2)⟩,
 ⟨some 23,some (21,true),.load false 1 (.t 22)⟩,
 ⟨some 24,some (21,true),.mv (.t 1)⟩,
 ⟨some 25,some (21,true),.iaddrL 10 (.t 23) (.t 24)⟩,
 ⟨some 26,some (21,true),.faddr 2 (.t 25)⟩,
 ⟨some 27,some (21,true),.load true 3 (.t 26)⟩,
 ⟨some 28,some (21,true),.load true 5 (.t 2)⟩,
 ⟨some 29,some (21,true),.call (.c (.fn 101 [] [])) [.t 28]⟩,
 ⟨some 30,some (21,true),.mv (.t 5)⟩,
 ⟨some 31,some (21,true),.bin false .add (.t 29) (.t 30)⟩,
 ⟨some 32,some (21,true),.call (.c (.fn 121 [] [])) [.t 27,.t 31]⟩,
 ⟨some 33,none,.pick (.t 21) (.t 32) (.c (.bool false))⟩] [(9,15),(13,15)])
 (.cond (.t 33) (.seq (.reg [⟨some 4,none,.mv (.c (.bool true))⟩])
 (.ret))
 (.skip))))
 (.reg [⟨some 12,none,.mv (.t 5)⟩,
 ⟨some 13,none,.bin false .add (.t 12) (.c (.int .i64 1))⟩,
 ⟨some 5,none,.mv (.t 13)⟩])))
def ir103 : Fun := .mk 34 [.t 4] (
 .seq (.reg [⟨some 2,none,.box (.t 0)⟩,
 ⟨some 4,none,.mv (.c (.bool false))⟩])
 (.seq (.seq (.reg [⟨some 6,none,.mv (.t 1)⟩,
 ⟨some 5,none,.mv (.t 6)⟩])
 (.block 0 (.loop L103_0)))
 (.seq (.reg [⟨some 4,none,.mv (.c (.bool false))⟩])
 (.ret)))) false false
theorem mk103 : cFun Tryz.prog false false Tryz.f103 = some ir103 := by kernel_rfl
def ir104 : Fun := .mk 17 [.t 2] (
 .seq (.reg [⟨some 1,none,.box (.t 0)⟩,
 ⟨some 2,none,.mv (.c (.bool false))⟩])
 (.seq (.reg [⟨some 3,none,.faddr 0 (.t 1)⟩,
 ⟨some 4,none,.load false 1 (.t 3)⟩,
 ⟨some 5,none,.bin false .eql (.t 4) (.c (.int .i64 0))⟩,
 ⟨some 6,none,.mv (.t 5)⟩,
 ⟨some 7,some (6,true),.faddr 1 (.t 1)⟩,
 ⟨some 8,some (6,true),.load false 1 (.t 7)⟩,
 ⟨some 9,some (6,true),.bin false .eql (.t 8) (.c (.int .i64 0))⟩,
 ⟨some 10,none,.pick (.t 6) (.t 9) (.c (.bool false))⟩,
 ⟨some 11,none,.mv (.t 10)⟩,
 ⟨some 12,some (11,true),.faddr 2 (.t 1)⟩,
 ⟨some 13,some (11,true),.load false 1 (.t 12)⟩,
 ⟨some 14,some (11,true),.len false (.t 13)⟩,
 ⟨some 15,some (11,true),.bin false .eql (.t 14) (.c (.int .i64 0))⟩,
 ⟨some 16,none,.pick (.t 11) (.t 15) (.c (.bool false))⟩,
 ⟨some 2,none,.mv (.t 16)⟩])
 (.ret))) false false
theorem mk104 : cFun Tryz.prog false false Tryz.f104 = some ir104 := by kernel_rfl
def ir107 : Fun := .mk 4 [.t 2] (
 .seq (.reg [⟨some 1,none,.box (.t 0)⟩,
 ⟨some 2,none,.mv (.c (.nilfn))⟩])
 (.seq (.reg [⟨some 3,none,.mkfn 108 [] [.t 1]⟩,
 ⟨some 2,none,.mv (.t 3)⟩])
 (.ret))) false true
theorem mk107 : cFun Tryz.prog false true Tryz.f107 = some ir107 := by kernel_rfl
def ir108 : Fun := .mk 11 [.t 3] (
 .seq (.reg [⟨some 3,none,.mv (.c (.bool false))⟩])
 (.seq (.reg [⟨some 4,none,.mv (.t 0)⟩,
 ⟨some 5,none,.bin false .lss (.t 4) (.c (.int .i64 0))⟩,
 ⟨some 6,none,.mv (.t 5)⟩,
 ⟨some 7,some (6,false),.mv (.t 0)⟩,
 ⟨some 8,some (6,false),.load false 1 (.t 1)⟩,
 ⟨some 9,some (6,false),.bin false .geq (.t 7) (.t 8)⟩,
 ⟨some 10,none,.pick (.t 6) (.c (.bool true)) (.t 9)⟩,
 ⟨some 3,none,.mv (.t 10)⟩])
 (.ret))) false false
theorem mk108 : cFun Tryz.prog false false Tryz.f108 = some ir108 := by kernel_rfl
def ir110 : Fun := .mk 51 [.t 4,.t 5] (
 .seq (.reg [⟨some 4,none,.mv (.c (.int .u64 0))⟩,
 ⟨some 5,none,.mv (.c (.int .u64 0))⟩])
 (.seq (.reg [⟨some 14,none,.mv (.t 0)⟩,
 ⟨some 15,none,.bin false .and (.t 14) (.c (.int .u64 4294967295))⟩,
 ⟨some 6,none,.mv (.t 15)⟩])
 (.seq (.reg [⟨some 16,none,.mv (.t 0)⟩,
 ⟨some 17,none,.bin false .shr (.t 16) (.c (.int .u64 32))⟩,
 ⟨some 7,none,.mv (.t 17)⟩])
 (.seq (.reg [⟨some 18,none,.mv (.t 1)⟩,
 ⟨some 19,none,.bin false .and (.t 18) (.c (.int .u64 4294967295))⟩,
 ⟨some 8,none,.mv (.t 19)⟩])
 (.seq (.reg [⟨some 20,none,.mv (.t 1)⟩,
 ⟨some 21,none,.bin false .shr (.t 20) (.c (.int .u64 32))⟩,
 ⟨some 9,none,.mv (.t 21)⟩])
 (.seq (.reg [⟨some 22,none,.mv (.t 6)⟩,
 ⟨some 23,none,.mv (.t 8)⟩,
 ⟨some 24,none,.bin false .mul (.t 22) (.t 23)⟩,
 ⟨some 10,none,.mv (.t 24)⟩])
 (.seq (.reg [⟨some 25,none,.mv (.t 7)⟩,
 ⟨some 26,none,.mv (.t 8)⟩,
 ⟨some 27,none,.bin false .mul (.t 25) (.t 26)⟩,
 ⟨some 28,none,.mv (.t 10)⟩,
 ⟨some 29,none,.bin false .shr (.t 28) (.c (.int .u64 32))⟩,
 ⟨some 30,none,.bin false .add (.t 27) (.t 29)⟩,
 ⟨some 11,none,.mv (.t 30)⟩])
 (.seq (.reg [⟨some 31,none,.mv (.t 11)⟩,
 ⟨some 32,none,.bin false .and (.t 31) (.c (.int .u64 4294967295))⟩,
 ⟨some 12,none,.mv (.t 32)⟩])
 (.seq (.reg [⟨some 33,none,.mv (.t 11)⟩,
 ⟨some 34,none,.bin false .shr (.t 33) (.c (.int .u64 32))⟩,
 ⟨some 13,none,.mv (.t 34)⟩])
 (.seq (.reg [⟨some 35,none,.mv (.t 12)⟩,
 ⟨some 36,none,.mv (.t 6)⟩,
 ⟨some 37,none,.mv (.t 9)⟩,
 ⟨some 38,none,.bin false .mul (.t 36) (.t 37)⟩,
 ⟨some 39,none,.bin false .add (.t 35) (.t 38)⟩,
 ⟨some 12,none,.mv (.t 39)⟩])
 (.seq (.reg [⟨some 40,none,.mv (.t 7)⟩,
 ⟨some 41,none,.mv (.t 9)⟩,
 ⟨some 42,none,.bin false .mul (.t 40) (.t 41)⟩,
 ⟨some 43,none,.mv (.t 13)⟩,
 ⟨some 44,none,.bin false .add (.t 42) (.t 43)⟩,
 ⟨some 45,none,.mv (.t 12)⟩,
 ⟨some 46,none,.bin false .shr (.t 45) (.c (.int .u64 32))⟩,
 ⟨some 47,none,.bin false .add (.t 44) (.t 46)⟩,
 ⟨some 4,none,.mv (.t 47)⟩])
 (.seq (.reg [⟨some 48,none,.mv (.t 0)⟩,
 ⟨some 49,none,.mv (.t 1)⟩,
 ⟨some 50,none,.bin false .mul (.t 48) (.t 49)⟩,
 ⟨some 5,none,.mv (.t 50)⟩])
 (.ret))))))))))))) false false
theorem mk110 : cFun Tryz.prog false false Tryz.f110 = some ir110 := by kernel_rfl
def L111_0 : C := (
 .reg [⟨some 9,none,.alloc [.int .i64 0,.int .i64 0,.nils]⟩,
 ⟨none,none,.store 3 (.t 9) (.t 28)⟩])
def L111_1 : C := (
 .block 1 (.seq (.reg [⟨some 29,none,.load true 3 (.t 9)⟩,
 ⟨some 30,none,.load false 1 (.t 3)⟩,
 ⟨some 31,none,.call (.c (.fn 125 [] [])) [.t 29,.t 30]⟩,
 ⟨some 10,none,.mv (.t 31)⟩])
 (.seq (.reg [⟨some 32,none,.mv (.t 10)⟩,
 ⟨some 33,none,.bin false .neq (.t 32) (.c (.int .i64 0))⟩])
 (.cond (.t 33) (.seq (.reg [⟨some 34,none,.mv (.t 10)⟩,
 ⟨none,none,.store 1 (.t 4) (.t 34)⟩])
 (.ret))
 (.skip)))))
def ir111 : Fun := .mk 35 [.cell 4 false 1] (
 .seq (.reg [⟨some 2,none,.box (.t 0)⟩,
 ⟨some 3,none,.box (.t 1)⟩,
 ⟨some 4,none,.alloc [.int .i64 0]⟩])
 (.seq (.seq (.reg [⟨some 11,none,.load false 1 (.t 3)⟩,
 ⟨some 12,none,.bin false .lss (.t 11) (.c (.int .i64 0))⟩,
 ⟨some 13,none,.mv (.t 12)⟩,
 ⟨some 14,some (13,false),.load false 1 (.t 3)⟩,
 ⟨some 15,some (13,false),.bin false .gtr (.t 14) (.c (.int .i64 256))⟩,
 ⟨some 16,none,.pick (.t 13) (.c (.bool true)) (.t 15)⟩])
 (.cond (.t 16) (.seq (.reg [⟨none,none,.store 1 (.t 4) (.c (.int .i64 2))⟩])
 (.ret))
 (.skip)))
 (.seq (.seq (.reg [⟨some 18,none,.load true 3 (.t 2)⟩,
 ⟨some 19,none,.call (.c (.fn 122 [] [])) [.t 18]⟩,
 ⟨some 17,none,.mv (.t 19)⟩,
 ⟨some 20,none,.ext 0 (.t 17)⟩,
 ⟨some 21,none,.ext 1 (.t 17)⟩,
 ⟨some 22,none,.ext 2 (.t 17)⟩,
 ⟨some 5,none,.mv (.t 20)⟩,
 ⟨some 6,none,.mv (.t 21)⟩,
 ⟨some 7,none,.mv (.t 22)⟩])
 (.seq (.reg [⟨some 23,none,.mv (.t 7)⟩,
 ⟨some 24,none,.un .not (.t 23)⟩])
 (.cond (.t 24) (.seq (.reg [⟨none,none,.store 1 (.t 4) (.c (.int .i64 5))⟩])
 (.ret))
 (.skip))))
 (.seq (.seq (.reg [⟨some 25,none,.load true 3 (.t 2)⟩,
 ⟨some 26,none,.call (.c (.fn 124 [] [])) [.t 25]⟩])
 (.block 0 (.range (.t 26) [27,28] L111_0 L111_1)))
 (.seq (.reg [⟨none,none,.store 1 (.t 4) (.c (.int .i64 0))⟩])
 (.ret)))))) false false
theorem mk111 : cFun Tryz.prog false false Tryz.f111 = some ir111 := by kernel_rfl
def ir112 : Fun := .mk 26 [.t 4] (
 .seq (.reg [⟨some 2,none,.box (.t 0)⟩,
 ⟨some 3,none,.box (.t 1)⟩,
 ⟨some 4,none,.mv (.c (.bool false))⟩])
 (.seq (.seq (.reg [⟨some 5,none,.faddr 0 (.t 2)⟩,
 ⟨some 6,none,.load false 1 (.t 5)⟩])
 (.block 0 (.seq (.reg [⟨some 8,none,.bin false .eql (.t 6) (.c (.int .i64 0))⟩,
 ⟨some 7,none,.mv (.t 8)⟩])
 (.cond (.t 7) (.seq (.reg [⟨some 9,none,.faddr 1 (.t 2)⟩,
 ⟨some 10,none,.load false 1 (.t 9)⟩,
 ⟨some 11,none,.bin false .eql (.t 10) (.c (.int .i64 1))⟩,
 ⟨some 4,none,.mv (.t 11)⟩])
 (.ret))
 (.seq (.reg [⟨some 13,none,.bin false .eql (.t 6) (.c (.int .i64 1))⟩,
 ⟨some 12,none,.mv (.t 13)⟩])
 (.cond (.t 12) (.seq (.reg [⟨some 14,none,.load false 1 (.t 3)⟩,
 ⟨some 15,none,.faddr 1 (.t 2)⟩,
 ⟨some 16,none,.load false 1 (.t 15)⟩,
 ⟨some 17,none,.iaddrL 1 (.t 14) (.t 16)⟩,
 ⟨some 18,none,.load false 1 (.t 17)⟩,
 ⟨some 4,none,.mv (.t 18)⟩])
 (.ret))
 (.skip)))))))
 (.seq (.draw [⟨some 19,none,.call (.c (.fn 126 [] [])) []⟩,
 ⟨some 20,none,.faddr 0 (.t 2)⟩,
 ⟨some 21,none,.load false 1 (.t 20)⟩,
 ⟨some 22,none,.idxA true 5 3 (.t 19) (.t 21)⟩,
 ⟨some 23,none,.fld false 2 1 (.t 22)⟩,
 ⟨some 24,none,.mkfn 127 [] [.t 2,.t 3]⟩,
 ⟨some 25,none,.call (.t 23) [.t 24]⟩,
 ⟨some 4,none,.mv (.t 25)⟩] [(2,0)])
 (.ret)))) false false
theorem mk112 : cFun Tryz.prog false false Tryz.f112 = some ir112 := by kernel_rfl
def ir113 : Fun := .mk 9 [] (
 .seq (.reg [⟨some 2,none,.box (.t 0)⟩,
 ⟨some 3,none,.box (.t 1)⟩])
 (.seq (.reg [⟨some 4,none,.alloc [.nilfn]⟩])
 (.seq (.reg [⟨some 5,none,.mkfn 128 [] [.t 3,.t 4]⟩,
 ⟨none,none,.store 1 (.t 4) (.t 5)⟩])
 (.reg [⟨some 6,none,.load false 1 (.t 4)⟩,
 ⟨some 7,none,.load true 3 (.t 2)⟩,
 ⟨some 8,none,.call (.t 6) [.t 7]⟩])))) false false
theorem mk113 : cFun Tryz.prog false false Tryz.f113 = some ir113 := by kernel_rfl
def ir114 : Fun := .mk 31 [] (
 .seq (.reg [⟨some 6,none,.mv (.t 0)⟩,
 ⟨some 7,none,.load false 1 (.t 1)⟩,
 ⟨some 8,none,.nilck (.t 7)⟩,
 ⟨some 9,none,.faddr 0 (.t 8)⟩,
 ⟨some 10,none,.load true 5 (.t 9)⟩,
 ⟨some 11,none,.call (.c (.fn 84 [] [])) [.t 10]⟩,
 ⟨some 12,none,.bin false .sub (.t 6) (.t 11)⟩,
 ⟨some 5,none,.mv (.t 12)⟩])
 (.reg [⟨some 13,none,.load false 1 (.t 2)⟩,
 ⟨some 14,none,.mv (.t 13)⟩,
 ⟨some 15,some (14,false),.mv (.t 5)⟩,
 ⟨some 16,some (14,false),.load false 1 (.t 3)⟩,
 ⟨some 17,some (14,false),.bin false .geq (.t 15) (.t 16)⟩,
 ⟨some 18,some (14,false),.mv (.t 17)⟩,
 ⟨some 19,some (18,true),.load false 1 (.t 1)⟩,
 ⟨some 20,some (18,true),.nilck (.t 19)⟩,
 ⟨some 21,some (18,true),.faddr 0 (.t 20)⟩,
 ⟨some 22,some (18,true),.faddr 2 (.t 21)⟩,
 ⟨some 23,some (18,true),.load false 1 (.t 22)⟩,
 ⟨some 24,some (18,true),.mv (.t 5)⟩,
 ⟨some 25,some (18,true),.iaddrL 10 (.t 23) (.t 24)⟩,
 ⟨some 26,some (18,true),.faddr 1 (.t 25)⟩,
 ⟨some 27,some (18,true),.load false 1 (.t 26)⟩,
 ⟨some 28,some (18,true),.bin false .eql (.t 27) (.c (.int .i64 0))⟩,
 ⟨some 29,some (14,false),.pick (.t 18) (.t 28) (.c (.bool false))⟩,
 ⟨some 30,none,.pick (.t 14) (.c (.bool true)) (.t 29)⟩,
 ⟨none,none,.store 1 (.t 2) (.t 30)⟩])) false false
theorem mk114 : cFun Tryz.prog false false Tryz.f114 = some ir114 := by kernel_rfl
def ir115 : Fun := .mk 17 [.t 2] (
 .seq (.reg [⟨some 1,none,.box (.t 0)⟩,
 ⟨some 2,none,.mv (.c (.bool false))⟩])
 (.seq (.reg [⟨some 3,none,.faddr 0 (.t 1)⟩,
 ⟨some 4,none,.load false 1 (.t 3)⟩,
 ⟨some 5,none,.bin false .eql (.t 4) (.c (.int .i64 0))⟩,
 ⟨some 6,none,.mv (.t 5)⟩,
 ⟨some 7,some (6,true),.faddr 1 (.t 1)⟩,
 ⟨some 8,some (6,true),.load false 1 (.t 7)⟩,
 ⟨some 9,some (6,true),.bin false .eql (.t 8) (.c (.int .i64 0))⟩,
 ⟨some 10,none,.pick (.t 6) (.t 9) (.c (.bool false))⟩,
 ⟨some 11,none,.mv (.t 10)⟩,
 ⟨some 12,some (11,true),.faddr 2 (.t 1)⟩,
 ⟨some 13,some (11,true),.load false 1 (.t 12)⟩,
 ⟨some 14,some (11,true),.len false (.t 13)⟩,
 ⟨some 15,some (11,true),.bin false .eql (.t 14) (.c (.int .i64 0))⟩,
 ⟨some 16,none,.pick (.t 11) (.t 15) (.c (.bool false))⟩,
 ⟨some 2,none,.mv (.t 16)⟩])
 (.ret))) false false
theorem mk115 : cFun Tryz.prog false false Tryz.f115 = some ir115 := by kernel_rfl
def ir116 : Fun := .mk 9 [.t 4] (
 .seq (.reg [⟨some 4,none,.mv (.c (.bool false))⟩])
 (.seq (.reg [⟨some 5,none,.mv (.t 0)⟩,
 ⟨some 6,none,.mv (.t 1)⟩,
 ⟨some 7,none,.call (.c (.fn 129 [] [])) [.t 5,.t 6]⟩,
 ⟨some 8,none,.bin false .geq (.t 7) (.c (.int .i64 0))⟩,
 ⟨some 4,none,.mv (.t 8)⟩])
 (.ret))) false false
theorem mk116 : cFun Tryz.prog false false Tryz.f116 = some ir116 := by kernel_rfl
def ir117 : Fun := .mk 11 [.t 2] (
 .seq (.reg [⟨some 2,none,.mv (.c (.bool false))⟩])
 (.seq (.reg [⟨some 3,none,.mv (.t 0)⟩,
 ⟨some 4,none,.bin false .gtr (.t 3) (.c (.int .i32 122))⟩,
 ⟨some 5,none,.mv (.t 4)⟩,
 ⟨some 6,some (5,false),.mv (.t 0)⟩,
 ⟨some 7,some (5,false),.conv (.int .u8) (.t 6)⟩,
 ⟨some 8,some (5,false),.call (.c (.fn 118 [] [])) [.t 7]⟩,
 ⟨some 9,some (5,false),.un .not (.t 8)⟩,
 ⟨some 10,none,.pick (.t 5) (.c (.bool true)) (.t 9)⟩,
 ⟨some 2,none,.mv (.t 10)⟩])
 (.ret))) false false
theorem mk117 : cFun Tryz.prog false false Tryz.f117 = some ir117 := by kernel_rfl
def ir118 : Fun := .mk 29 [.t 2] (
 .seq (.reg [⟨some 2,none,.mv (.c (.bool false))⟩])
 (.seq (.reg [⟨some 3,none,.mv (.t 0)⟩,
 ⟨some 4,none,.bin false .geq (.t 3) (.c (.int .u8 97))⟩,
 ⟨some 5,none,.mv (.t 4)⟩,
 ⟨some 6,some (5,true),.mv (.t 0)⟩,
 ⟨some 7,some (5,true),.bin false .leq (.t 6) (.c (.int .u8 122))⟩,
 ⟨some 8,none,.pick (.t 5) (.t 7) (.c (.bool false))⟩,
 ⟨some 9,none,.mv (.t 8)⟩,
 ⟨some 10,some (9,false),.mv (.t 0)⟩,
 ⟨some 11,some (9,false),.bin false .geq (.t 10) (.c (.int .u8 65))⟩,
 ⟨some 12,some (9,false),.mv (.t 11)⟩,
 ⟨some 13,some (12,true),.mv (.t 0)⟩,
 ⟨some 14,some (12,true),.bin false .leq (.t 13) (.c (.int .u8 90))⟩,
 ⟨some 15,some (9,false),.pick (.t 12) (.t 14) (.c (.bool false))⟩,
 ⟨some 16,none,.pick (.t 9) (.c (.bool true)) (.t 15)⟩,
 ⟨some 17,none,.mv (.t 16)⟩,
 ⟨some 18,some (17,false),.mv (.t 0)⟩,
 ⟨some 19,some (17,false),.bin false .geq (.t 18) (.c (.int .u8 48))⟩,
 ⟨some 20,some (17,false),.mv (.t 19)⟩,
 ⟨some 21,some (20,true),.mv (.t 0)⟩,
 ⟨some 22,some (20,true),.bin false .leq (.t 21) (.c (.int .u8 57))⟩,
 ⟨some 23,some (17,false),.pick (.t 20) (.t 22) (.c (.bool false))⟩,
 ⟨some 24,none,.pick (.t 17) (.c (.bool true)) (.t 23)⟩,
 ⟨some 25,none,.mv (.t 24)⟩,
 ⟨some 26,some (25,false),.mv (.t 0)⟩,
 ⟨some 27,some (25,false),.bin false .eql (.t 26) (.c (.int .u8 95))⟩,
 ⟨some 28,none,.pick (.t 25) (.c (.bool true)) (.t 27)⟩,
 ⟨some 2,none,.mv (.t 28)⟩])
 (.ret))) false false
theorem mk118 : cFun Tryz.prog false false Tryz.f118 = some ir118 := by kernel_rfl
def L119_0 : C := (
 .seq (.reg [⟨some 9,none,.bin false .lss (.t 8) (.t 7)⟩])
 (.seq (.cond (.t 9) (.skip)
 (.exit 0))
 (.seq (.block 1 (.seq (.reg [⟨some 10,none,.mv (.t 8)⟩,
 ⟨some 5,none,.mv (.t 10)⟩])
 (.seq (.reg [⟨some 11,none,.mv (.t 1)⟩,
 ⟨some 12,none,.mv (.t 0)⟩,
 ⟨some 13,none,.mv (.t 5)⟩,
 ⟨some 14,none,.iaddrL 1 (.t 12) (.t 13)⟩,
 ⟨some 15,none,.load false 1 (.t 14)⟩,
 ⟨some 16,none,.call (.t 11) [.t 15]⟩])
 (.cond (.t 16) (.seq (.reg [⟨some 17,none,.mv (.t 5)⟩,
 ⟨some 4,none,.mv (.t 17)⟩])
 (.ret))
 (.skip)))))
 (.reg [⟨some 18,none,.bin false .add (.t 8) (.c (.int .i64 1))⟩,
 ⟨some 8,none,.mv (.t 18)⟩]))))
def ir119 : Fun := .mk 19 [.t 4] (
 .seq (.reg [⟨some 4,none,.mv (.c (.int .i64 0))⟩])
 (.seq (.seq (.reg [⟨some 6,none,.mv (.t 0)⟩,
 ⟨some 7,none,.len false (.t 6)⟩,
 ⟨some 8,none,.mv (.c (.int .i64 0))⟩])
 (.block 0 (.loop L119_0)))
 (.seq (.reg [⟨some 4,none,.mv (.c (.int .i64 (-1)))⟩])
 (.ret)))) false true
theorem mk119 : cFun Tryz.prog false true Tryz.f119 = some ir119 := by kernel_rfl
def L120_0 : C := (
 .seq (.seq (.reg [⟨some 14,none,.mv (.t 6)⟩,
 ⟨some 15,none,.faddr 2 (.t 2)⟩,
 ⟨some 16,none,.load false 1 (.t 15)⟩,
 ⟨some 17,none,.len false (.t 16)⟩,
 ⟨some 18,none,.bin false .lss (.t 14) (.t 17)⟩])
 (.cond (.t 18) (.skip)
 (.exit 0)))
 (.seq (.block 1 (.seq (.reg [⟨some 21,none,.faddr 2 (.t 2)⟩,
 ⟨some 22,none,.load false 1 (.t 21)⟩,
 ⟨some 23,none,.mv (.t 6)⟩,
 ⟨some 24,none,.iaddrL 3 (.t 22) (.t 23)⟩,
 ⟨some 25,none,.load true 3 (.t 24)⟩,
 ⟨some 26,none,.mv (.t 1)⟩,
 ⟨some 27,none,.call (.c (.fn 120 [] [])) [.t 25,.t 26]⟩,
 ⟨some 7,none,.mv (.t 27)⟩])
 (.seq (.reg [⟨some 28,none,.mv (.t 7)⟩,
 ⟨some 29,none,.bin false .neq (.t 28) (.c (.int .i64 0))⟩])
 (.cond (.t 29) (.seq (.reg [⟨some 30,none,.mv (.t 7)⟩,
 ⟨some 4,none,.mv (.t 30)⟩])
 (.ret))
 (.skip)))))
 (.reg [⟨some 19,none,.mv (.t 6)⟩,
 ⟨some 20,none,.bin false .add (.t 19) (.c (.int .i64 1))⟩,
 ⟨some 6,none,.mv (.t 20)⟩])))
def ir120 : Fun := .mk 31 [.t 4] (
 .seq (.reg [⟨some 2,none,.box (.t 0)⟩,
 ⟨some 4,none,.mv (.c (.int .i64 0))⟩])
 (.seq (.seq (.reg [⟨some 8,none,.load true 3 (.t 2)⟩,
 ⟨some 9,none,.mv (.t 1)⟩,
 ⟨some 10,none,.call (.c (.fn 130 [] [])) [.t 8,.t 9]⟩,
 ⟨some 5,none,.mv (.t 10)⟩])
 (.seq (.reg [⟨some 11,none,.mv (.t 5)⟩,
 ⟨some 12,none,.bin false .neq (.t 11) (.c (.int .i64 0))⟩])
 (.cond (.t 12) (.seq (.reg [⟨some 13,none,.mv (.t 5)⟩,
 ⟨some 4,none,.mv (.t 13)⟩])
 (.ret))
 (.skip))))
 (.seq (.seq (.reg [⟨some 6,none,.mv (.c (.int .i64 0))⟩])
 (.block 0 (.loop L120_0)))
 (.seq (.reg [⟨some 4,none,.mv (.c (.int .i64 0))⟩])
 (.ret))))) false false
theorem mk120 : cFun Tryz.prog false false Tryz.f120 = some ir120 := by kernel_rfl
def L121_0 : C := (
 .seq (.seq (.reg [⟨some 13,none,.mv (.t 5)⟩,
 ⟨some 14,none,.faddr 2 (.t 2)⟩,
 ⟨some 15,none,.load false 1 (.t 14)⟩,
 ⟨some 16,none,.len false (.t 15)⟩,
 ⟨some 17,none,.bin false .lss (.t 13) (.t 16)⟩])
 (.cond (.t 17) (.skip)
 (.exit 0)))
 (.seq (.block 1 (.seq (.reg [⟨some 20,none,.faddr 2 (.t 2)⟩,
 ⟨some 21,none,.load false 1 (.t 20)⟩,
 ⟨some 22,none,.mv (.t 5)⟩,
 ⟨some 23,none,.iaddrL 3 (.t 21) (.t 22)⟩,
 ⟨some 24,none,.load true 3 (.t 23)⟩,
 ⟨some 25,none,.mv (.t 1)⟩,
 ⟨some 26,none,.call (.c (.fn 121 [] [])) [.t 24,.t 25]⟩])
 (.cond (.t 26) (.seq (.reg [⟨some 4,none,.mv (.c (.bool true))⟩])
 (.ret))
 (.skip))))
 (.reg [⟨some 18,none,.mv (.t 5)⟩,
 ⟨some 19,none,.bin false .add (.t 18) (.c (.int .i64 1))⟩,
 ⟨some 5,none,.mv (.t 19)⟩])))
def ir121 : Fun := .mk 27 [.t 4] (
 .seq (.reg [⟨some 2,none,.box (.t 0)⟩,
 ⟨some 4,none,.mv (.c (.bool false))⟩])
 (.seq (.seq (.reg [⟨some 6,none,.faddr 0 (.t 2)⟩,
 ⟨some 7,none,.load false 1 (.t 6)⟩,
 ⟨some 8,none,.bin false .eql (.t 7) (.c (.int .i64 1))⟩])
 (.cond (.t 8) (.seq (.reg [⟨some 9,none,.faddr 1 (.t 2)⟩,
 ⟨some 10,none,.load false 1 (.t 9)⟩,
 ⟨some 11,none,.mv (.t 1)⟩,
 ⟨some 12,none,.bin false .eql (.t 10) (.t 11)⟩,
 ⟨some 4,none,.mv (.t 12)⟩])
 (.ret))
 (.skip)))
 (.seq (.seq (.reg [⟨some 5,none,.mv (.c (.int .i64 0))⟩])
 (.block 0 (.loop L121_0)))
 (.seq (.reg [⟨some 4,none,.mv (.c (.bool false))⟩])
 (.ret))))) false false
theorem mk121 : cFun Tryz.prog false false Tryz.f121 = some ir121 := by kernel_rfl
def L122_0 : C := (
 .reg [⟨some 7,none,.mv (.t 10)⟩])
def L122_1 : C := (
 .block 1 (.seq (.reg [⟨some 12,none,.load false 1 (.t 5)⟩,
 ⟨some 13,none,.bin false .add (.t 12) (.c (.int .i64 1))⟩,
 ⟨none,none,.store 1 (.t 5) (.t 13)⟩])
 (.seq (.reg [⟨some 14,none,.load false 1 (.t 6)⟩,
 ⟨some 15,none,.mv (.t 7)⟩,
 ⟨some 16,none,.mx false (.t 14) (.t 15)⟩,
 ⟨none,none,.store 1 (.t 6) (.t 16)⟩])
 (.seq (.reg [⟨some 17,none,.load false 1 (.t 5)⟩,
 ⟨some 18,none,.bin false .gtr (.t 17) (.c (.int .i64 256))⟩,
 ⟨some 19,none,.mv (.t 18)⟩,
 ⟨some 20,some (19,false),.mv (.t 7)⟩,
 ⟨some 21,some (19,false),.bin false .gtr (.t 20) (.c (.int .i64 16))⟩,
 ⟨some 22,none,.pick (.t 19) (.c (.bool true)) (.t 21)⟩])
 (.cond (.t 22) (.seq (.reg [⟨none,none,.store 1 (.t 2) (.c (.int .i64 0))⟩,
 ⟨none,none,.store 1 (.t 3) (.c (.int .i64 0))⟩,
 ⟨none,none,.store 1 (.t 4) (.c (.bool false))⟩])
 (.ret))
 (.skip))))))
def ir122 : Fun := .mk 25 [.cell 2 false 1,.cell 3 false 1,.cell 4 false 1] (
 .seq (.reg [⟨some 1,none,.box (.t 0)⟩,
 ⟨some 2,none,.alloc [.int .i64 0]⟩,
 ⟨some 3,none,.alloc [.int .i64 0]⟩,
 ⟨some 4,none,.alloc [.bool false]⟩])
 (.seq (.reg [⟨some 5,none,.alloc [.int .i64 0]⟩,
 ⟨some 6,none,.alloc [.int .i64 0]⟩,
 ⟨none,none,.store 1 (.t 5) (.c (.int .i64 0))⟩,
 ⟨none,none,.store 1 (.t 6) (.c (.int .i64 0))⟩])
 (.seq (.seq (.reg [⟨some 8,none,.load true 3 (.t 1)⟩,
 ⟨some 9,none,.call (.c (.fn 124 [] [])) [.t 8]⟩])
 (.block 0 (.range (.t 9) [10,11] L122_0 L122_1)))
 (.seq (.draw [⟨some 23,none,.load false 1 (.t 5)⟩,
 ⟨some 24,none,.load false 1 (.t 6)⟩,
 ⟨none,none,.store 1 (.t 2) (.t 23)⟩,
 ⟨none,none,.store 1 (.t 3) (.t 24)⟩,
 ⟨none,none,.store 1 (.t 4) (.c (.bool true))⟩] [(1,2)])
 (.ret))))) false false
theorem mk122 : cFun Tryz.prog false false Tryz.f122 = some ir122 := by kernel_rfl
def ir124 : Fun := .mk 4 [.t 2] (
 .seq (.reg [⟨some 1,none,.box (.t 0)⟩,
 ⟨some 2,none,.mv (.c (.nilfn))⟩])
 (.seq (.reg [⟨some 3,none,.mkfn 132 [] [.t 1]⟩,
 ⟨some 2,none,.mv (.t 3)⟩])
 (.ret))) false true
theorem mk124 : cFun Tryz.prog false true Tryz.f124 = some ir124 := by kernel_rfl
def ir125 : Fun := .mk 50 [.t 4] (
 .seq (.reg [⟨some 2,none,.box (.t 0)⟩,
 ⟨some 4,none,.mv (.c (.int .i64 0))⟩])
 (.seq (.seq (.reg [⟨some 7,none,.faddr 0 (.t 2)⟩,
 ⟨some 8,none,.load false 1 (.t 7)⟩,
 ⟨some 9,none,.bin false .lss (.t 8) (.c (.int .i64 0))⟩,
 ⟨some 10,none,.mv (.t 9)⟩,
 ⟨some 11,some (10,false),.faddr 0 (.t 2)⟩,
 ⟨some 12,some (10,false),.load false 1 (.t 11)⟩,
 ⟨some 13,some (10,false),.bin false .geq (.t 12) (.c (.int .i64 5))⟩,
 ⟨some 14,none,.pick (.t 10) (.c (.bool true)) (.t 13)⟩])
 (.cond (.t 14) (.seq (.reg [⟨some 4,none,.mv (.c (.int .i64 1))⟩])
 (.ret))
 (.skip)))
 (.seq (.draw [⟨some 5,none,.alloc [.int .i64 0,.int .i64 0,.nilfn]⟩,
 ⟨some 15,none,.call (.c (.fn 126 [] [])) []⟩,
 ⟨some 16,none,.faddr 0 (.t 2)⟩,
 ⟨some 17,none,.load false 1 (.t 16)⟩,
 ⟨some 18,none,.idxA true 5 3 (.t 15) (.t 17)⟩,
 ⟨none,none,.store 3 (.t 5) (.t 18)⟩] [(3,1)])
 (.seq (.seq (.reg [⟨some 19,none,.faddr 2 (.t 2)⟩,
 ⟨some 20,none,.load false 1 (.t 19)⟩,
 ⟨some 21,none,.len false (.t 20)⟩,
 ⟨some 22,none,.faddr 0 (.t 5)⟩,
 ⟨some 23,none,.load false 1 (.t 22)⟩,
 ⟨some 24,none,.bin false .lss (.t 21) (.t 23)⟩,
 ⟨some 25,none,.mv (.t 24)⟩,
 ⟨some 26,some (25,false),.faddr 2 (.t 2)⟩,
 ⟨some 27,some (25,false),.load false 1 (.t 26)⟩,
 ⟨some 28,some (25,false),.len false (.t 27)⟩,
 ⟨some 29,some (25,false),.faddr 1 (.t 5)⟩,
 ⟨some 30,some (25,false),.load false 1 (.t 29)⟩,
 ⟨some 31,some (25,false),.bin false .gtr (.t 28) (.t 30)⟩,
 ⟨some 32,none,.pick (.t 25) (.c (.bool true)) (.t 31)⟩])
 (.cond (.t 32) (.seq (.reg [⟨some 4,none,.mv (.c (.int .i64 3))⟩])
 (.ret))
 (.skip)))
 (.seq (.reg [⟨some 6,none,.mv (.c (.int .i64 0))⟩])
 (.seq (.seq (.reg [⟨some 33,none,.faddr 0 (.t 2)⟩,
 ⟨some 34,none,.load false 1 (.t 33)⟩])
 (.block 0 (.seq (.reg [⟨some 36,none,.bin false .eql (.t 34) (.c (.int .i64 0))⟩,
 ⟨some 35,none,.mv (.t 36)⟩])
 (.cond (.t 35) (.reg [⟨some 6,none,.mv (.c (.int .i64 1))⟩])
 (.seq (.reg [⟨some 38,none,.bin false .eql (.t 34) (.c (.int .i64 1))⟩,
 ⟨some 37,none,.mv (.t 38)⟩])
 (.cond (.t 37) (.reg [⟨some 39,none,.mv (.t 1)⟩,
 ⟨some 40,none,.bin false .sub (.t 39) (.c (.int .i64 1))⟩,
 ⟨some 6,none,.mv (.t 40)⟩])
 (.skip)))))))
 (.seq (.seq (.reg [⟨some 41,none,.faddr 1 (.t 2)⟩,
 ⟨some 42,none,.load false 1 (.t 41)⟩,
 ⟨some 43,none,.bin false .lss (.t 42) (.c (.int .i64 0))⟩,
 ⟨some 44,none,.mv (.t 43)⟩,
 ⟨some 45,some (44,false),.faddr 1 (.t 2)⟩,
 ⟨some 46,some (44,false),.load false 1 (.t 45)⟩,
 ⟨some 47,some (44,false),.mv (.t 6)⟩,
 ⟨some 48,some (44,false),.bin false .gtr (.t 46) (.t 47)⟩,
 ⟨some 49,none,.pick (.t 44) (.c (.bool true)) (.t 48)⟩])
 (.cond (.t 49) (.seq (.reg [⟨some 4,none,.mv (.c (.int .i64 2))⟩])
 (.ret))
 (.skip)))
 (.seq (.reg [⟨some 4,none,.mv (.c (.int .i64 0))⟩])
 (.ret))))))))) false false
theorem mk125 : cFun Tryz.prog false false Tryz.f125 = some ir125 := by kernel_rfl
def ir126 : Fun := .mk 9 [.cell 0 true 15] (
 .seq (.reg [⟨some 0,none,.alloc [.int .i64 0,.int .i64 0,.nilfn,.int .i64 0,.int .i64 0,.nilfn,.int .i64 0,.int .i64 0,.nilfn,.int .i64 0,.int .i64 0,.nilfn,.int .i64 0,.int .i64 0,.nilfn]⟩])
 (.seq (.reg [⟨some 1,none,.build [.int .i64 0,.int .i64 0,.nilfn] []⟩,
 ⟨some 2,none,.build [.int .i64 0,.int .i64 0,.nilfn] []⟩,
 ⟨some 3,none,.call (.c (.fn 134 [] [])) [.c (.bool false)]⟩,
 ⟨some 4,none,.build [.int .i64 0,.int .i64 0,.nilfn] [(0,1,(.c (.int .i64 1))),(1,1,(.c (.int .i64 1))),(2,1,(.t 3))]⟩,
 ⟨some 5,none,.call (.c (.fn 134 [] [])) [.c (.bool true)]⟩,
 ⟨some 6,none,.build [.int .i64 0,.int .i64 0,.nilfn] [(0,1,(.c (.int .i64 2))),(1,1,(.c (.int .i64 256))),(2,1,(.t 5))]⟩,
 ⟨some 7,none,.build [.int .i64 0,.int .i64 0,.nilfn] [(0,1,(.c (.int .i64 2))),(1,1,(.c (.int .i64 256))),(2,1,(.c (.fn 135 [] [])))]⟩,
 ⟨some 8,none,.build [.int .i64 0,.int .i64 0,.nilfn,.int .i64 0,.int .i64 0,.nilfn,.int .i64 0,.int .i64 0,.nilfn,.int .i64 0,.int .i64 0,.nilfn,.int .i64 0,.int .i64 0,.nilfn] [(0,3,(.t 1)),(3,3,(.t 2)),(6,3,(.t 4)),(9,3,(.t 6)),(12,3,(.t 7))]⟩,
 ⟨none,none,.store 15 (.t 0) (.t 8)⟩])
 (.ret))) false true
theorem mk126 : cFun Tryz.prog false true Tryz.f126 = some ir126 := by kernel_rfl
def L127_0 : C := (
 .seq (.reg [⟨some 10,none,.bin false .lss (.t 9) (.t 8)⟩])
 (.seq (.cond (.t 10) (.skip)
 (.exit 0))
 (.seq (.block 1 (.seq (.reg [⟨some 11,none,.iaddrL 3 (.t 7) (.t 9)⟩,
 ⟨some 12,none,.load true 3 (.t 11)⟩,
 ⟨some 5,none,.alloc [.int .i64 0,.int .i64 0,.nils]⟩,
 ⟨none,none,.store 3 (.t 5) (.t 12)⟩])
 (.seq (.reg [⟨some 13,none,.mv (.t 0)⟩,
 ⟨some 14,none,.load true 3 (.t 5)⟩,
 ⟨some 15,none,.load false 1 (.t 2)⟩,
 ⟨some 16,none,.call (.c (.fn 112 [] [])) [.t 14,.t 15]⟩,
 ⟨some 17,none,.call (.t 13) [.t 16]⟩,
 ⟨some 18,none,.un .not (.t 17)⟩])
 (.cond (.t 18) (.ret)
 (.skip)))))
 (.reg [⟨some 19,none,.bin false .add (.t 9) (.c (.int .i64 1))⟩,
 ⟨some 9,none,.mv (.t 19)⟩]))))
def ir127 : Fun := .mk 20 [] (
 .seq (.reg [⟨some 6,none,.faddr 2 (.t 1)⟩,
 ⟨some 7,none,.load false 1 (.t 6)⟩,
 ⟨some 8,none,.len false (.t 7)⟩,
 ⟨some 9,none,.mv (.c (.int .i64 0))⟩])
 (.block 0 (.loop L127_0))) false false
theorem mk127 : cFun Tryz.prog false false Tryz.f127 = some ir127 := by kernel_rfl
def L128_0 : C := (
 .seq (.reg [⟨some 17,none,.bin false .lss (.t 16) (.t 15)⟩])
 (.seq (.cond (.t 17) (.skip)
 (.exit 0))
 (.seq (.block 1 (.seq (.reg [⟨some 18,none,.iaddrL 3 (.t 14) (.t 16)⟩,
 ⟨some 19,none,.load true 3 (.t 18)⟩,
 ⟨some 5,none,.alloc [.int .i64 0,.int .i64 0,.nils]⟩,
 ⟨none,none,.store 3 (.t 5) (.t 19)⟩])
 (.reg [⟨some 20,none,.load false 1 (.t 2)⟩,
 ⟨some 21,none,.load true 3 (.t 5)⟩,
 ⟨some 22,none,.call (.t 20) [.t 21]⟩])))
 (.reg [⟨some 23,none,.bin false .add (.t 16) (.c (.int .i64 1))⟩,
 ⟨some 16,none,.mv (.t 23)⟩]))))
def ir128 : Fun := .mk 24 [] (
 .seq (.reg [⟨some 3,none,.box (.t 0)⟩])
 (.seq (.seq (.reg [⟨some 6,none,.faddr 0 (.t 3)⟩,
 ⟨some 7,none,.load false 1 (.t 6)⟩,
 ⟨some 8,none,.bin false .eql (.t 7) (.c (.int .i64 1))⟩])
 (.cond (.t 8) (.reg [⟨some 9,none,.load false 1 (.t 1)⟩,
 ⟨some 10,none,.faddr 1 (.t 3)⟩,
 ⟨some 11,none,.load false 1 (.t 10)⟩,
 ⟨some 12,none,.call (.t 9) [.t 11]⟩])
 (.skip)))
 (.seq (.reg [⟨some 13,none,.faddr 2 (.t 3)⟩,
 ⟨some 14,none,.load false 1 (.t 13)⟩,
 ⟨some 15,none,.len false (.t 14)⟩,
 ⟨some 16,none,.mv (.c (.int .i64 0))⟩])
 (.block 0 (.loop L128_0))))) false false
theorem mk128 : cFun Tryz.prog false false Tryz.f128 = some ir128 := by kernel_rfl
def ir129 : Fun := .mk 8 [.t 4] (
 .seq (.reg [⟨some 4,none,.mv (.c (.int .i64 0))⟩])
 (.seq (.reg [⟨some 5,none,.mv (.t 0)⟩,
 ⟨some 6,none,.mv (.t 1)⟩,
 ⟨some 7,none,.call (.c (.fn 136 [] [])) [.t 5,.t 6,.c (.bool true)]⟩,
 ⟨some 4,none,.mv (.t 7)⟩])
 (.ret))) false false
theorem mk129 : cFun Tryz.prog false false Tryz.f129 = some ir129 := by kernel_rfl
def ir130 : Fun := .mk 59 [.t 4] (
 .seq (.reg [⟨some 2,none,.box (.t 0)⟩,
 ⟨some 4,none,.mv (.c (.int .i64 0))⟩])
 (.seq (.seq (.reg [⟨some 7,none,.faddr 0 (.t 2)⟩,
 ⟨some 8,none,.load false 1 (.t 7)⟩,
 ⟨some 9,none,.bin false .lss (.t 8) (.c (.int .i64 0))⟩,
 ⟨some 10,none,.mv (.t 9)⟩,
 ⟨some 11,some (10,false),.faddr 0 (.t 2)⟩,
 ⟨some 12,some (10,false),.load false 1 (.t 11)⟩,
 ⟨some 13,some (10,false),.bin false .geq (.t 12) (.c (.int .i64 5))⟩,
 ⟨some 14,none,.pick (.t 10) (.c (.bool true)) (.t 13)⟩])
 (.cond (.t 14) (.seq (.reg [⟨some 4,none,.mv (.c (.int .i64 1))⟩])
 (.ret))
 (.skip)))
 (.seq (.reg [⟨some 15,none,.faddr 2 (.t 2)⟩,
 ⟨some 16,none,.load false 1 (.t 15)⟩,
 ⟨some 17,none,.len false (.t 16)⟩,
 ⟨some 5,none,.mv (.t 17)⟩])
 (.seq (.seq (.reg [⟨some 18,none,.faddr 0 (.t 2)⟩,
 ⟨some 19,none,.load false 1 (.t 18)⟩,
 ⟨some 20,none,.bin false .leq (.t 19) (.c (.int .i64 1))⟩,
 ⟨some 21,none,.mv (.t 20)⟩,
 ⟨some 22,some (21,true),.mv (.t 5)⟩,
 ⟨some 23,some (21,true),.bin false .neq (.t 22) (.c (.int .i64 0))⟩,
 ⟨some 24,none,.pick (.t 21) (.t 23) (.c (.bool false))⟩,
 ⟨some 25,none,.mv (.t 24)⟩,
 ⟨some 26,some (25,false),.faddr 0 (.t 2)⟩,
 ⟨some 27,some (25,false),.load false 1 (.t 26)⟩,
 ⟨some 28,some (25,false),.bin false .eql (.t 27) (.c (.int .i64 2))⟩,
 ⟨some 29,some (25,false),.mv (.t 28)⟩,
 ⟨some 30,some (29,true),.mv (.t 5)⟩,
 ⟨some 31,some (29,true),.bin false .neq (.t 30) (.c (.int .i64 1))⟩,
 ⟨some 32,some (25,false),.pick (.t 29) (.t 31) (.c (.bool false))⟩,
 ⟨some 33,none,.pick (.t 25) (.c (.bool true)) (.t 32)⟩,
 ⟨some 34,none,.mv (.t 33)⟩,
 ⟨some 35,some (34,false),.faddr 0 (.t 2)⟩,
 ⟨some 36,some (34,false),.load false 1 (.t 35)⟩,
 ⟨some 37,some (34,false),.bin false .geq (.t 36) (.c (.int .i64 3))⟩,
 ⟨some 38,some (34,false),.mv (.t 37)⟩,
 ⟨some 39,some (38,true),.mv (.t 5)⟩,
 ⟨some 40,some (38,true),.bin false .lss (.t 39) (.c (.int .i64 2))⟩,
 ⟨some 41,some (34,false),.pick (.t 38) (.t 40) (.c (.bool false))⟩,
 ⟨some 42,none,.pick (.t 34) (.c (.bool true)) (.t 41)⟩])
 (.cond (.t 42) (.seq (.reg [⟨some 4,none,.mv (.c (.int .i64 3))⟩])
 (.ret))
 (.skip)))
 (.seq (.reg [⟨some 6,none,.mv (.c (.int .i64 1))⟩])
 (.seq (.seq (.reg [⟨some 43,none,.faddr 0 (.t 2)⟩,
 ⟨some 44,none,.load false 1 (.t 43)⟩,
 ⟨some 45,none,.bin false .eql (.t 44) (.c (.int .i64 0))⟩])
 (.cond (.t 45) (.reg [⟨some 6,none,.mv (.c (.int .i64 2))⟩])
 (.skip)))
 (.seq (.seq (.reg [⟨some 46,none,.faddr 0 (.t 2)⟩,
 ⟨some 47,none,.load false 1 (.t 46)⟩,
 ⟨some 48,none,.bin false .eql (.t 47) (.c (.int .i64 1))⟩])
 (.cond (.t 48) (.reg [⟨some 49,none,.mv (.t 1)⟩,
 ⟨some 6,none,.mv (.t 49)⟩])
 (.skip)))
 (.seq (.seq (.reg [⟨some 50,none,.faddr 1 (.t 2)⟩,
 ⟨some 51,none,.load false 1 (.t 50)⟩,
 ⟨some 52,none,.bin false .lss (.t 51) (.c (.int .i64 0))⟩,
 ⟨some 53,none,.mv (.t 52)⟩,
 ⟨some 54,some (53,false),.faddr 1 (.t 2)⟩,
 ⟨some 55,some (53,false),.load false 1 (.t 54)⟩,
 ⟨some 56,some (53,false),.mv (.t 6)⟩,
 ⟨some 57,some (53,false),.bin false .geq (.t 55) (.t 56)⟩,
 ⟨some 58,none,.pick (.t 53) (.c (.bool true)) (.t 57)⟩])
 (.cond (.t 58) (.seq (.reg [⟨some 4,none,.mv (.c (.int .i64 2))⟩])
 (.ret))
 (.skip)))
 (.seq (.reg [⟨some 4,none,.mv (.c (.int .i64 0))⟩])
 (.ret)))))))))) false false
theorem mk130 : cFun Tryz.prog false false Tryz.f130 = some ir130 := by kernel_rfl
def ir132 : Fun := .mk 8 [] (
 .seq (.reg [⟨some 2,none,.box (.t 0)⟩])
 (.seq (.reg [⟨some 3,none,.alloc [.nilfn]⟩])
 (.seq (.reg [⟨some 4,none,.mkfn 133 [] [.t 2,.t 3]⟩,
 ⟨none,none,.store 1 (.t 3) (.t 4)⟩])
 (.reg [⟨some 5,none,.load false 1 (.t 3)⟩,
 ⟨some 6,none,.load true 3 (.t 1)⟩,
 ⟨some 7,none,.call (.t 5) [.t 6,.c (.int .i64 1)]⟩])))) false false
theorem mk132 : cFun Tryz.prog false false Tryz.f132 = some ir132 := by kernel_rfl
def L133_0 : C := (
 .seq (.reg [⟨some 18,none,.bin false .lss (.t 17) (.t 16)⟩])
 (.seq (.cond (.t 18) (.skip)
 (.exit 0))
 (.seq (.block 1 (.seq (.reg [⟨some 19,none,.iaddrL 3 (.t 15) (.t 17)⟩,
 ⟨some 20,none,.load true 3 (.t 19)⟩,
 ⟨some 8,none,.alloc [.int .i64 0,.int .i64 0,.nils]⟩,
 ⟨none,none,.store 3 (.t 8) (.t 20)⟩])
 (.seq (.reg [⟨some 21,none,.mv (.t 1)⟩,
 ⟨some 22,none,.bin false .leq (.t 21) (.c (.int .i64 16))⟩,
 ⟨some 23,none,.mv (.t 22)⟩,
 ⟨some 24,some (23,true),.load false 1 (.t 3)⟩,
 ⟨some 25,some (23,true),.load true 3 (.t 8)⟩,
 ⟨some 26,some (23,true),.mv (.t 1)⟩,
 ⟨some 27,some (23,true),.bin false .add (.t 26) (.c (.int .i64 1))⟩,
 ⟨some 28,some (23,true),.call (.t 24) [.t 25,.t 27]⟩,
 ⟨some 29,some (23,true),.un .not (.t 28)⟩,
 ⟨some 30,none,.pick (.t 23) (.t 29) (.c (.bool false))⟩])
 (.cond (.t 30) (.seq (.reg [⟨some 6,none,.mv (.c (.bool false))⟩])
 (.ret))
 (.skip)))))
 (.reg [⟨some 31,none,.bin false .add (.t 17) (.c (.int .i64 1))⟩,
 ⟨some 17,none,.mv (.t 31)⟩]))))
def ir133 : Fun := .mk 32 [.t 6] (
 .seq (.reg [⟨some 4,none,.box (.t 0)⟩,
 ⟨some 6,none,.mv (.c (.bool false))⟩])
 (.seq (.seq (.reg [⟨some 9,none,.load false 1 (.t 2)⟩,
 ⟨some 10,none,.mv (.t 1)⟩,
 ⟨some 11,none,.load true 3 (.t 4)⟩,
 ⟨some 12,none,.call (.t 9) [.t 10,.t 11]⟩,
 ⟨some 13,none,.un .not (.t 12)⟩])
 (.cond (.t 13) (.seq (.reg [⟨some 6,none,.mv (.c (.bool false))⟩])
 (.ret))
 (.skip)))
 (.seq (.seq (.reg [⟨some 14,none,.faddr 2 (.t 4)⟩,
 ⟨some 15,none,.load false 1 (.t 14)⟩,
 ⟨some 16,none,.len false (.t 15)⟩,
 ⟨some 17,none,.mv (.c (.int .i64 0))⟩])
 (.block 0 (.loop L133_0)))
 (.seq (.reg [⟨some 6,none,.mv (.c (.bool true))⟩])
 (.ret))))) false false
theorem mk133 : cFun Tryz.prog false false Tryz.f133 = some ir133 := by kernel_rfl
def ir134 : Fun := .mk 4 [.t 2] (
 .seq (.reg [⟨some 1,none,.box (.t 0)⟩,
 ⟨some 2,none,.mv (.c (.nilfn))⟩])
 (.seq (.reg [⟨some 3,none,.mkfn 137 [] [.t 1]⟩,
 ⟨some 2,none,.mv (.t 3)⟩])
 (.ret))) false true
theorem mk134 : cFun Tryz.prog false true Tryz.f134 = some ir134 := by kernel_rfl
def ir135 : Fun := .mk 7 [.t 2] (
 .seq (.reg [⟨some 2,none,.mv (.c (.bool false))⟩])
 (.seq (.reg [⟨some 3,none,.call (.c (.fn 134 [] [])) [.c (.bool false)]⟩,
 ⟨some 4,none,.mv (.t 0)⟩,
 ⟨some 5,none,.call (.t 3) [.t 4]⟩,
 ⟨some 6,none,.un .not (.t 5)⟩,
 ⟨some 2,none,.mv (.t 6)⟩])
 (.ret))) false false
theorem mk135 : cFun Tryz.prog false false Tryz.f135 = some ir135 := by kernel_rfl
def L136_0 : C := (
 .seq (.reg [⟨some 11,none,.nxt (.t 10)⟩,
 ⟨some 12,none,.ext 0 (.t 11)⟩])
 (.seq (.cond (.t 12) (.skip)
 (.exit 0))
 (.block 1 (.seq (.reg [⟨some 13,none,.ext 1 (.t 11)⟩,
 ⟨some 14,none,.ext 2 (.t 11)⟩,
 ⟨some 7,none,.mv (.t 13)⟩,
 ⟨some 8,none,.mv (.t 14)⟩])
 (.seq (.reg [⟨some 15,none,.mv (.t 1)⟩,
 ⟨some 16,none,.mv (.t 8)⟩,
 ⟨some 17,none,.call (.t 15) [.t 16]⟩,
 ⟨some 18,none,.mv (.t 2)⟩,
 ⟨some 19,none,.bin true .eql (.t 17) (.t 18)⟩])
 (.cond (.t 19) (.seq (.reg [⟨some 20,none,.mv (.t 7)⟩,
 ⟨some 6,none,.mv (.t 20)⟩])
 (.ret))
 (.skip)))))))
def ir136 : Fun := .mk 21 [.t 6] (
 .seq (.reg [⟨some 6,none,.mv (.c (.int .i64 0))⟩])
 (.seq (.seq (.reg [⟨some 9,none,.mv (.t 0)⟩,
 ⟨some 10,none,.rng (.t 9)⟩])
 (.block 0 (.loop L136_0)))
 (.seq (.reg [⟨some 6,none,.mv (.c (.int .i64 (-1)))⟩])
 (.ret)))) false false
theorem mk136 : cFun Tryz.prog false false Tryz.f136 = some ir136 := by kernel_rfl
def L137_0 : C := (
 .reg [⟨some 4,none,.mv (.t 6)⟩])
def L137_1 : C := (
 .block 1 (.seq (.reg [⟨some 7,none,.mv (.t 4)⟩,
 ⟨some 8,none,.load false 1 (.t 1)⟩,
 ⟨some 9,none,.bin true .neq (.t 7) (.t 8)⟩])
 (.cond (.t 9) (.seq (.reg [⟨none,none,.store 1 (.t 3) (.c (.bool false))⟩])
 (.ret))
 (.skip))))
def ir137 : Fun := .mk 10 [.cell 3 false 1] (
 .seq (.reg [⟨some 3,none,.alloc [.bool false]⟩])
 (.seq (.seq (.reg [⟨some 5,none,.mv (.t 0)⟩])
 (.block 0 (.range (.t 5) [6] L137_0 L137_1)))
 (.seq (.reg [⟨none,none,.store 1 (.t 3) (.c (.bool true))⟩])
 (.ret)))) false false
theorem mk137 : cFun Tryz.prog false false Tryz.f137 = some ir137 := by kernel_rfl
end Go.Proofs.YtopjiafdimoeiaaGreat
