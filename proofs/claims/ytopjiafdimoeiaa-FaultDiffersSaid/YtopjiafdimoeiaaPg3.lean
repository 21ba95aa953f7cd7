/- The program that Am runs: the table of the functions. -/
import Derived.Test.YtopjiafdimoeiaaIr3
namespace Go.Proofs.Ytopjiafdimoeiaa
open Go Go.Am Go.Proofs
set_option maxRecDepth 100000
def find : List (Nat × Fun) → Nat → Option Fun
  | [], _ => none
  | (k, g) :: r, f => if f = k then some g else find r f
theorem find_mem : ∀ {l : List (Nat × Fun)} {f : Nat} {g : Fun}, find l f = some g → (f, g) ∈ l
  | (k, g') :: r, f, g, h => by
    simp only [find] at h
    split at h
    · rename_i e; cases h; subst e; exact List.mem_cons_self
    · exact List.mem_cons_of_mem _ (find_mem h)
def From (p : Nat × Fun) : Prop := ∃ fn fresh raw, Try.prog.funcs[p.1]? = some fn ∧ cFun Try.prog fresh raw fn = some p.2
def tbl : List (Nat × Fun) := [(3, ir3), (4, ir4), (5, ir5), (6, ir6), (13, ir13), (14, ir14), (15, ir15), (16, ir16), (17, ir17), (18, ir18), (19, ir19), (20, ir20), (21, ir21), (22, ir22), (23, ir23), (24, ir24), (25, ir25), (26, ir26), (27, ir27), (28, ir28), (29, ir29), (30, ir30), (31, ir31), (32, ir32), (33, ir33), (34, ir34), (35, ir35), (36, ir36), (37, ir37), (38, ir38), (65, ir65), (66, ir66), (67, ir67), (68, ir68), (69, ir69), (70, ir70), (71, ir71), (72, ir72), (73, ir73), (74, ir74), (75, ir75), (76, ir76), (77, ir77), (78, ir78), (79, ir79), (80, ir80), (81, ir81), (82, ir82), (83, ir83), (84, ir84), (85, ir85), (86, ir86), (87, ir87), (110, ir110), (111, ir111), (112, ir112), (113, ir113), (114, ir114), (115, ir115), (116, ir116), (117, ir117), (118, ir118), (119, ir119), (120, ir120), (121, ir121), (122, ir122), (123, ir123), (124, ir124), (125, ir125), (126, ir126), (127, ir127), (128, ir128), (129, ir129), (130, ir130), (131, ir131), (132, ir132), (133, ir133), (134, ir134), (148, ir148), (149, ir149), (150, ir150), (151, ir151), (152, ir152), (153, ir153), (154, ir154), (155, ir155), (156, ir156), (157, ir157), (158, ir158), (159, ir159), (160, ir160), (161, ir161), (162, ir162), (163, ir163), (185, ir185), (186, ir186), (187, ir187), (188, ir188), (189, ir189), (190, ir190), (200, ir200), (201, ir201), (202, ir202), (203, ir203), (204, ir204), (206, ir206), (207, ir207), (208, ir208)]
def pg : Prg := find tbl
theorem from3 : From (3, ir3) := ⟨_, false, false, Try.func3, mk3⟩
theorem from4 : From (4, ir4) := ⟨_, false, false, Try.func4, mk4⟩
theorem from5 : From (5, ir5) := ⟨_, false, false, Try.func5, mk5⟩
theorem from6 : From (6, ir6) := ⟨_, false, false, Try.func6, mk6⟩
theorem from13 : From (13, ir13) := ⟨_, false, false, Try.func13, mk13⟩
theorem from14 : From (14, ir14) := ⟨_, false, false, Try.func14, mk14⟩
theorem from15 : From (15, ir15) := ⟨_, false, false, Try.func15, mk15⟩
theorem from16 : From (16, ir16) := ⟨_, false, false, Try.func16, mk16⟩
theorem from17 : From (17, ir17) := ⟨_, false, false, Try.func17, mk17⟩
theorem from18 : From (18, ir18) := ⟨_, false, false, Try.func18, mk18⟩
theorem from19 : From (19, ir19) := ⟨_, false, false, Try.func19, mk19⟩
theorem from20 : From (20, ir20) := ⟨_, false, false, Try.func20, mk20⟩
theorem from21 : From (21, ir21) := ⟨_, false, false, Try.func21, mk21⟩
theorem from22 : From (22, ir22) := ⟨_, false, false, Try.func22, mk22⟩
theorem from23 : From (23, ir23) := ⟨_, false, false, Try.func23, mk23⟩
theorem from24 : From (24, ir24) := ⟨_, false, false, Try.func24, mk24⟩
theorem from25 : From (25, ir25) := ⟨_, false, false, Try.func25, mk25⟩
theorem from26 : From (26, ir26) := ⟨_, false, false, Try.func26, mk26⟩
theorem from27 : From (27, ir27) := ⟨_, false, false, Try.func27, mk27⟩
theorem from28 : From (28, ir28) := ⟨_, false, false, Try.func28, mk28⟩
theorem from29 : From (29, ir29) := ⟨_, false, false, Try.func29, mk29⟩
theorem from30 : From (30, ir30) := ⟨_, false, false, Try.func30, mk30⟩
theorem from31 : From (31, ir31) := ⟨_, false, false, Try.func31, mk31⟩
theorem from32 : From (32, ir32) := ⟨_, false, false, Try.func32, mk32⟩
theorem from33 : From (33, ir33) := ⟨_, false, false, Try.func33, mk33⟩
theorem from34 : From (34, ir34) := ⟨_, true, true, Try.func34, mk34⟩
theorem from35 : From (35, ir35) := ⟨_, true, false, Try.func35, mk35⟩
theorem from36 : From (36, ir36) := ⟨_, false, false, Try.func36, mk36⟩
theorem from37 : From (37, ir37) := ⟨_, false, false, Try.func37, mk37⟩
theorem from38 : From (38, ir38) := ⟨_, false, false, Try.func38, mk38⟩
theorem from65 : From (65, ir65) := ⟨_, false, false, Try.func65, mk65⟩
theorem from66 : From (66, ir66) := ⟨_, false, false, Try.func66, mk66⟩
theorem from67 : From (67, ir67) := ⟨_, false, true, Try.func67, mk67⟩
theorem from68 : From (68, ir68) := ⟨_, false, false, Try.func68, mk68⟩
theorem from69 : From (69, ir69) := ⟨_, false, false, Try.func69, mk69⟩
theorem from70 : From (70, ir70) := ⟨_, false, false, Try.func70, mk70⟩
theorem from71 : From (71, ir71) := ⟨_, false, false, Try.func71, mk71⟩
theorem from72 : From (72, ir72) := ⟨_, false, false, Try.func72, mk72⟩
theorem from73 : From (73, ir73) := ⟨_, false, false, Try.func73, mk73⟩
theorem from74 : From (74, ir74) := ⟨_, false, false, Try.func74, mk74⟩
theorem from75 : From (75, ir75) := ⟨_, false, false, Try.func75, mk75⟩
theorem from76 : From (76, ir76) := ⟨_, false, false, Try.func76, mk76⟩
theorem from77 : From (77, ir77) := ⟨_, false, false, Try.func77, mk77⟩
theorem from78 : From (78, ir78) := ⟨_, false, false, Try.func78, mk78⟩
theorem from79 : From (79, ir79) := ⟨_, false, false, Try.func79, mk79⟩
theorem from80 : From (80, ir80) := ⟨_, false, false, Try.func80, mk80⟩
theorem from81 : From (81, ir81) := ⟨_, false, false, Try.func81, mk81⟩
theorem from82 : From (82, ir82) := ⟨_, false, false, Try.func82, mk82⟩
theorem from83 : From (83, ir83) := ⟨_, false, false, Try.func83, mk83⟩
theorem from84 : From (84, ir84) := ⟨_, false, true, Try.func84, mk84⟩
theorem from85 : From (85, ir85) := ⟨_, false, false, Try.func85, mk85⟩
theorem from86 : From (86, ir86) := ⟨_, false, false, Try.func86, mk86⟩
theorem from87 : From (87, ir87) := ⟨_, false, true, Try.func87, mk87⟩
theorem from110 : From (110, ir110) := ⟨_, false, false, Try.func110, mk110⟩
theorem from111 : From (111, ir111) := ⟨_, false, false, Try.func111, mk111⟩
theorem from112 : From (112, ir112) := ⟨_, false, true, Try.func112, mk112⟩
theorem from113 : From (113, ir113) := ⟨_, false, false, Try.func113, mk113⟩
theorem from114 : From (114, ir114) := ⟨_, false, false, Try.func114, mk114⟩
theorem from115 : From (115, ir115) := ⟨_, false, false, Try.func115, mk115⟩
theorem from116 : From (116, ir116) := ⟨_, false, false, Try.func116, mk116⟩
theorem from117 : From (117, ir117) := ⟨_, false, false, Try.func117, mk117⟩
theorem from118 : From (118, ir118) := ⟨_, false, false, Try.func118, mk118⟩
theorem from119 : From (119, ir119) := ⟨_, false, false, Try.func119, mk119⟩
theorem from120 : From (120, ir120) := ⟨_, false, false, Try.func120, mk120⟩
theorem from121 : From (121, ir121) := ⟨_, false, false, Try.func121, mk121⟩
theorem from122 : From (122, ir122) := ⟨_, true, false, Try.func122, mk122⟩
theorem from123 : From (123, ir123) := ⟨_, false, false, Try.func123, mk123⟩
theorem from124 : From (124, ir124) := ⟨_, false, false, Try.func124, mk124⟩
theorem from125 : From (125, ir125) := ⟨_, false, false, Try.func125, mk125⟩
theorem from126 : From (126, ir126) := ⟨_, false, false, Try.func126, mk126⟩
theorem from127 : From (127, ir127) := ⟨_, false, false, Try.func127, mk127⟩
theorem from128 : From (128, ir128) := ⟨_, false, false, Try.func128, mk128⟩
theorem from129 : From (129, ir129) := ⟨_, false, false, Try.func129, mk129⟩
theorem from130 : From (130, ir130) := ⟨_, false, false, Try.func130, mk130⟩
theorem from131 : From (131, ir131) := ⟨_, true, false, Try.func131, mk131⟩
theorem from132 : From (132, ir132) := ⟨_, false, false, Try.func132, mk132⟩
theorem from133 : From (133, ir133) := ⟨_, false, false, Try.func133, mk133⟩
theorem from134 : From (134, ir134) := ⟨_, false, false, Try.func134, mk134⟩
theorem from148 : From (148, ir148) := ⟨_, false, false, Try.func148, mk148⟩
theorem from149 : From (149, ir149) := ⟨_, false, false, Try.func149, mk149⟩
theorem from150 : From (150, ir150) := ⟨_, false, false, Try.func150, mk150⟩
theorem from151 : From (151, ir151) := ⟨_, false, false, Try.func151, mk151⟩
theorem from152 : From (152, ir152) := ⟨_, false, false, Try.func152, mk152⟩
theorem from153 : From (153, ir153) := ⟨_, false, false, Try.func153, mk153⟩
theorem from154 : From (154, ir154) := ⟨_, false, false, Try.func154, mk154⟩
theorem from155 : From (155, ir155) := ⟨_, false, false, Try.func155, mk155⟩
theorem from156 : From (156, ir156) := ⟨_, false, false, Try.func156, mk156⟩
theorem from157 : From (157, ir157) := ⟨_, false, false, Try.func157, mk157⟩
theorem from158 : From (158, ir158) := ⟨_, false, false, Try.func158, mk158⟩
theorem from159 : From (159, ir159) := ⟨_, false, false, Try.func159, mk159⟩
theorem from160 : From (160, ir160) := ⟨_, false, false, Try.func160, mk160⟩
theorem from161 : From (161, ir161) := ⟨_, true, true, Try.func161, mk161⟩
theorem from162 : From (162, ir162) := ⟨_, false, false, Try.func162, mk162⟩
theorem from163 : From (163, ir163) := ⟨_, false, false, Try.func163, mk163⟩
theorem from185 : From (185, ir185) := ⟨_, false, false, Try.func185, mk185⟩
theorem from186 : From (186, ir186) := ⟨_, false, false, Try.func186, mk186⟩
theorem from187 : From (187, ir187) := ⟨_, false, true, Try.func187, mk187⟩
theorem from188 : From (188, ir188) := ⟨_, false, false, Try.func188, mk188⟩
theorem from189 : From (189, ir189) := ⟨_, false, false, Try.func189, mk189⟩
theorem from190 : From (190, ir190) := ⟨_, false, false, Try.func190, mk190⟩
theorem from200 : From (200, ir200) := ⟨_, false, false, Try.func200, mk200⟩
theorem from201 : From (201, ir201) := ⟨_, false, false, Try.func201, mk201⟩
theorem from202 : From (202, ir202) := ⟨_, false, false, Try.func202, mk202⟩
theorem from203 : From (203, ir203) := ⟨_, false, true, Try.func203, mk203⟩
theorem from204 : From (204, ir204) := ⟨_, false, false, Try.func204, mk204⟩
theorem from206 : From (206, ir206) := ⟨_, false, true, Try.func206, mk206⟩
theorem from207 : From (207, ir207) := ⟨_, false, false, Try.func207, mk207⟩
theorem from208 : From (208, ir208) := ⟨_, false, false, Try.func208, mk208⟩
theorem tbl_from : ∀ p ∈ tbl, From p := by
  intro p hp
  unfold tbl at hp
  simp only [List.mem_cons, List.not_mem_nil, or_false] at hp
  rcases hp with rfl | rfl | rfl | rfl | rfl | rfl | rfl | rfl | rfl | rfl | rfl | rfl | rfl | rfl | rfl | rfl | rfl | rfl | rfl | rfl | rfl | rfl | rfl | rfl | rfl | rfl | rfl | rfl | rfl | rfl | rfl | rfl | rfl | rfl | rfl | rfl | rfl | rfl | rfl | rfl | rfl | rfl | rfl | rfl | rfl | rfl | rfl | rfl | rfl | rfl | rfl | rfl | rfl | rfl | rfl | rfl | rfl | rfl | rfl | rfl | rfl | rfl | rfl | rfl | rfl | rfl | rfl | rfl | rfl | rfl | rfl | rfl | rfl | rfl | rfl | rfl | rfl | rfl | rfl | rfl | rfl | rfl | rfl | rfl | rfl | rfl | rfl | rfl | rfl | rfl | rfl | rfl | rfl | rfl | rfl | rfl | rfl | rfl | rfl | rfl | rfl | rfl | rfl | rfl | rfl | rfl | rfl | rfl
  · exact from3
  · exact from4
  · exact from5
  · exact from6
  · exact from13
  · exact from14
  · exact from15
  · exact from16
  · exact from17
  · exact from18
  · exact from19
  · exact from20
  · exact from21
  · exact from22
  · exact from23
  · exact from24
  · exact from25
  · exact from26
  · exact from27
  · exact from28
  · exact from29
  · exact from30
  · exact from31
  · exact from32
  · exact from33
  · exact from34
  · exact from35
  · exact from36
  · exact from37
  · exact from38
  · exact from65
  · exact from66
  · exact from67
  · exact from68
  · exact from69
  · exact from70
  · exact from71
  · exact from72
  · exact from73
  · exact from74
  · exact from75
  · exact from76
  · exact from77
  · exact from78
  · exact from79
  · exact from80
  · exact from81
  · exact from82
  · exact from83
  · exact from84
  · exact from85
  · exact from86
  · exact from87
  · exact from110
  · exact from111
  · exact from112
  · exact from113
  · exact from114
  · exact from115
  · exact from116
  · exact from117
  · exact from118
  · exact from119
  · exact from120
  · exact from121
  · exact from122
  · exact from123
  · exact from124
  · exact from125
  · exact from126
  · exact from127
  · exact from128
  · exact from129
  · exact from130
  · exact from131
  · exact from132
  · exact from133
  · exact from134
  · exact from148
  · exact from149
  · exact from150
  · exact from151
  · exact from152
  · exact from153
  · exact from154
  · exact from155
  · exact from156
  · exact from157
  · exact from158
  · exact from159
  · exact from160
  · exact from161
  · exact from162
  · exact from163
  · exact from185
  · exact from186
  · exact from187
  · exact from188
  · exact from189
  · exact from190
  · exact from200
  · exact from201
  · exact from202
  · exact from203
  · exact from204
  · exact from206
  · exact from207
  · exact from208
theorem made : ∀ f g, pg f = some g → ∃ fn fresh raw, Try.prog.funcs[f]? = some fn ∧ cFun Try.prog fresh raw fn = some g := fun f g h => tbl_from (f, g) (find_mem h)
@[simp] theorem pg3 : pg 3 = some ir3 := rfl
@[simp] theorem irraw3 : ir3.raw = false := rfl
@[simp] theorem pg4 : pg 4 = some ir4 := rfl
@[simp] theorem irraw4 : ir4.raw = false := rfl
@[simp] theorem pg5 : pg 5 = some ir5 := rfl
@[simp] theorem irraw5 : ir5.raw = false := rfl
@[simp] theorem pg6 : pg 6 = some ir6 := rfl
@[simp] theorem irraw6 : ir6.raw = false := rfl
@[simp] theorem pg13 : pg 13 = some ir13 := rfl
@[simp] theorem irraw13 : ir13.raw = false := rfl
@[simp] theorem pg14 : pg 14 = some ir14 := rfl
@[simp] theorem irraw14 : ir14.raw = false := rfl
@[simp] theorem pg15 : pg 15 = some ir15 := rfl
@[simp] theorem irraw15 : ir15.raw = false := rfl
@[simp] theorem pg16 : pg 16 = some ir16 := rfl
@[simp] theorem irraw16 : ir16.raw = false := rfl
@[simp] theorem pg17 : pg 17 = some ir17 := rfl
@[simp] theorem irraw17 : ir17.raw = false := rfl
@[simp] theorem pg18 : pg 18 = some ir18 := rfl
@[simp] theorem irraw18 : ir18.raw = false := rfl
@[simp] theorem pg19 : pg 19 = some ir19 := rfl
@[simp] theorem irraw19 : ir19.raw = false := rfl
@[simp] theorem pg20 : pg 20 = some ir20 := rfl
@[simp] theorem irraw20 : ir20.raw = false := rfl
@[simp] theorem pg21 : pg 21 = some ir21 := rfl
@[simp] theorem irraw21 : ir21.raw = false := rfl
@[simp] theorem pg22 : pg 22 = some ir22 := rfl
@[simp] theorem irraw22 : ir22.raw = false := rfl
@[simp] theorem pg23 : pg 23 = some ir23 := rfl
@[simp] theorem irraw23 : ir23.raw = false := rfl
@[simp] theorem pg24 : pg 24 = some ir24 := rfl
@[simp] theorem irraw24 : ir24.raw = false := rfl
@[simp] theorem pg25 : pg 25 = some ir25 := rfl
@[simp] theorem irraw25 : ir25.raw = false := rfl
@[simp] theorem pg26 : pg 26 = some ir26 := rfl
@[simp] theorem irraw26 : ir26.raw = false := rfl
@[simp] theorem pg27 : pg 27 = some ir27 := rfl
@[simp] theorem irraw27 : ir27.raw = false := rfl
@[simp] theorem pg28 : pg 28 = some ir28 := rfl
@[simp] theorem irraw28 : ir28.raw = false := rfl
@[simp] theorem pg29 : pg 29 = some ir29 := rfl
@[simp] theorem irraw29 : ir29.raw = false := rfl
@[simp] theorem pg30 : pg 30 = some ir30 := rfl
@[simp] theorem irraw30 : ir30.raw = false := rfl
@[simp] theorem pg31 : pg 31 = some ir31 := rfl
@[simp] theorem irraw31 : ir31.raw = false := rfl
@[simp] theorem pg32 : pg 32 = some ir32 := rfl
@[simp] theorem irraw32 : ir32.raw = false := rfl
@[simp] theorem pg33 : pg 33 = some ir33 := rfl
@[simp] theorem irraw33 : ir33.raw = false := rfl
@[simp] theorem pg34 : pg 34 = some ir34 := rfl
@[simp] theorem irraw34 : ir34.raw = true := rfl
@[simp] theorem pg35 : pg 35 = some ir35 := rfl
@[simp] theorem irraw35 : ir35.raw = false := rfl
@[simp] theorem pg36 : pg 36 = some ir36 := rfl
@[simp] theorem irraw36 : ir36.raw = false := rfl
@[simp] theorem pg37 : pg 37 = some ir37 := rfl
@[simp] theorem irraw37 : ir37.raw = false := rfl
@[simp] theorem pg38 : pg 38 = some ir38 := rfl
@[simp] theorem irraw38 : ir38.raw = false := rfl
@[simp] theorem pg65 : pg 65 = some ir65 := rfl
@[simp] theorem irraw65 : ir65.raw = false := rfl
@[simp] theorem pg66 : pg 66 = some ir66 := rfl
@[simp] theorem irraw66 : ir66.raw = false := rfl
@[simp] theorem pg67 : pg 67 = some ir67 := rfl
@[simp] theorem irraw67 : ir67.raw = true := rfl
@[simp] theorem pg68 : pg 68 = some ir68 := rfl
@[simp] theorem irraw68 : ir68.raw = false := rfl
@[simp] theorem pg69 : pg 69 = some ir69 := rfl
@[simp] theorem irraw69 : ir69.raw = false := rfl
@[simp] theorem pg70 : pg 70 = some ir70 := rfl
@[simp] theorem irraw70 : ir70.raw = false := rfl
@[simp] theorem pg71 : pg 71 = some ir71 := rfl
@[simp] theorem irraw71 : ir71.raw = false := rfl
@[simp] theorem pg72 : pg 72 = some ir72 := rfl
@[simp] theorem irraw72 : ir72.raw = false := rfl
@[simp] theorem pg73 : pg 73 = some ir73 := rfl
@[simp] theorem irraw73 : ir73.raw = false := rfl
@[simp] theorem pg74 : pg 74 = some ir74 := rfl
@[simp] theorem irraw74 : ir74.raw = false := rfl
@[simp] theorem pg75 : pg 75 = some ir75 := rfl
@[simp] theorem irraw75 : ir75.raw = false := rfl
@[simp] theorem pg76 : pg 76 = some ir76 := rfl
@[simp] theorem irraw76 : ir76.raw = false := rfl
@[simp] theorem pg77 : pg 77 = some ir77 := rfl
@[simp] theorem irraw77 : ir77.raw = false := rfl
@[simp] theorem pg78 : pg 78 = some ir78 := rfl
@[simp] theorem irraw78 : ir78.raw = false := rfl
@[simp] theorem pg79 : pg 79 = some ir79 := rfl
@[simp] theorem irraw79 : ir79.raw = false := rfl
@[simp] theorem pg80 : pg 80 = some ir80 := rfl
@[simp] theorem irraw80 : ir80.raw = false := rfl
@[simp] theorem pg81 : pg 81 = some ir81 := rfl
@[simp] theorem irraw81 : ir81.raw = false := rfl
@[simp] theorem pg82 : pg 82 = some ir82 := rfl
@[simp] theorem irraw82 : ir82.raw = false := rfl
@[simp] theorem pg83 : pg 83 = some ir83 := rfl
@[simp] theorem irraw83 : ir83.raw = false := rfl
@[simp] theorem pg84 : pg 84 = some ir84 := rfl
@[simp] theorem irraw84 : ir84.raw = true := rfl
@[simp] theorem pg85 : pg 85 = some ir85 := rfl
@[simp] theorem irraw85 : ir85.raw = false := rfl
@[simp] theorem pg86 : pg 86 = some ir86 := rfl
@[simp] theorem irraw86 : ir86.raw = false := rfl
@[simp] theorem pg87 : pg 87 = some ir87 := rfl
@[simp] theorem irraw87 : ir87.raw = true := rfl
@[simp] theorem pg110 : pg 110 = some ir110 := rfl
@[simp] theorem irraw110 : ir110.raw = false := rfl
@[simp] theorem pg111 : pg 111 = some ir111 := rfl
@[simp] theorem irraw111 : ir111.raw = false := rfl
@[simp] theorem pg112 : pg 112 = some ir112 := rfl
@[simp] theorem irraw112 : ir112.raw = true := rfl
@[simp] theorem pg113 : pg 113 = some ir113 := rfl
@[simp] theorem irraw113 : ir113.raw = false := rfl
@[simp] theorem pg114 : pg 114 = some ir114 := rfl
@[simp] theorem irraw114 : ir114.raw = false := rfl
@[simp] theorem pg115 : pg 115 = some ir115 := rfl
@[simp] theorem irraw115 : ir115.raw = false := rfl
@[simp] theorem pg116 : pg 116 = some ir116 := rfl
@[simp] theorem irraw116 : ir116.raw = false := rfl
@[simp] theorem pg117 : pg 117 = some ir117 := rfl
@[simp] theorem irraw117 : ir117.raw = false := rfl
@[simp] theorem pg118 : pg 118 = some ir118 := rfl
@[simp] theorem irraw118 : ir118.raw = false := rfl
@[simp] theorem pg119 : pg 119 = some ir119 := rfl
@[simp] theorem irraw119 : ir119.raw = false := rfl
@[simp] theorem pg120 : pg 120 = some ir120 := rfl
@[simp] theorem irraw120 : ir120.raw = false := rfl
@[simp] theorem pg121 : pg 121 = some ir121 := rfl
@[simp] theorem irraw121 : ir121.raw = false := rfl
@[simp] theorem pg122 : pg 122 = some ir122 := rfl
@[simp] theorem irraw122 : ir122.raw = false := rfl
@[simp] theorem pg123 : pg 123 = some ir123 := rfl
@[simp] theorem irraw123 : ir123.raw = false := rfl
@[simp] theorem pg124 : pg 124 = some ir124 := rfl
@[simp] theorem irraw124 : ir124.raw = false := rfl
@[simp] theorem pg125 : pg 125 = some ir125 := rfl
@[simp] theorem irraw125 : ir125.raw = false := rfl
@[simp] theorem pg126 : pg 126 = some ir126 := rfl
@[simp] theorem irraw126 : ir126.raw = false := rfl
@[simp] theorem pg127 : pg 127 = some ir127 := rfl
@[simp] theorem irraw127 : ir127.raw = false := rfl
@[simp] theorem pg128 : pg 128 = some ir128 := rfl
@[simp] theorem irraw128 : ir128.raw = false := rfl
@[simp] theorem pg129 : pg 129 = some ir129 := rfl
@[simp] theorem irraw129 : ir129.raw = false := rfl
@[simp] theorem pg130 : pg 130 = some ir130 := rfl
@[simp] theorem irraw130 : ir130.raw = false := rfl
@[simp] theorem pg131 : pg 131 = some ir131 := rfl
@[simp] theorem irraw131 : ir131.raw = false := rfl
@[simp] theorem pg132 : pg 132 = some ir132 := rfl
@[simp] theorem irraw132 : ir132.raw = false := rfl
@[simp] theorem pg133 : pg 133 = some ir133 := rfl
@[simp] theorem irraw133 : ir133.raw = false := rfl
@[simp] theorem pg134 : pg 134 = some ir134 := rfl
@[simp] theorem irraw134 : ir134.raw = false := rfl
@[simp] theorem pg148 : pg 148 = some ir148 := rfl
@[simp] theorem irraw148 : ir148.raw = false := rfl
@[simp] theorem pg149 : pg 149 = some ir149 := rfl
@[simp] theorem irraw149 : ir149.raw = false := rfl
@[simp] theorem pg150 : pg 150 = some ir150 := rfl
@[simp] theorem irraw150 : ir150.raw = false := rfl
@[simp] theorem pg151 : pg 151 = some ir151 := rfl
@[simp] theorem irraw151 : ir151.raw = false := rfl
@[simp] theorem pg152 : pg 152 = some ir152 := rfl
@[simp] theorem irraw152 : ir152.raw = false := rfl
@[simp] theorem pg153 : pg 153 = some ir153 := rfl
@[simp] theorem irraw153 : ir153.raw = false := rfl
@[simp] theorem pg154 : pg 154 = some ir154 := rfl
@[simp] theorem irraw154 : ir154.raw = false := rfl
@[simp] theorem pg155 : pg 155 = some ir155 := rfl
@[simp] theorem irraw155 : ir155.raw = false := rfl
@[simp] theorem pg156 : pg 156 = some ir156 := rfl
@[simp] theorem irraw156 : ir156.raw = false := rfl
@[simp] theorem pg157 : pg 157 = some ir157 := rfl
@[simp] theorem irraw157 : ir157.raw = false := rfl
@[simp] theorem pg158 : pg 158 = some ir158 := rfl
@[simp] theorem irraw158 : ir158.raw = false := rfl
@[simp] theorem pg159 : pg 159 = some ir159 := rfl
@[simp] theorem irraw159 : ir159.raw = false := rfl
@[simp] theorem pg160 : pg 160 = some ir160 := rfl
@[simp] theorem irraw160 : ir160.raw = false := rfl
@[simp] theorem pg161 : pg 161 = some ir161 := rfl
@[simp] theorem irraw161 : ir161.raw = true := rfl
@[simp] theorem pg162 : pg 162 = some ir162 := rfl
@[simp] theorem irraw162 : ir162.raw = false := rfl
@[simp] theorem pg163 : pg 163 = some ir163 := rfl
@[simp] theorem irraw163 : ir163.raw = false := rfl
@[simp] theorem pg185 : pg 185 = some ir185 := rfl
@[simp] theorem irraw185 : ir185.raw = false := rfl
@[simp] theorem pg186 : pg 186 = some ir186 := rfl
@[simp] theorem irraw186 : ir186.raw = false := rfl
@[simp] theorem pg187 : pg 187 = some ir187 := rfl
@[simp] theorem irraw187 : ir187.raw = true := rfl
@[simp] theorem pg188 : pg 188 = some ir188 := rfl
@[simp] theorem irraw188 : ir188.raw = false := rfl
@[simp] theorem pg189 : pg 189 = some ir189 := rfl
@[simp] theorem irraw189 : ir189.raw = false := rfl
@[simp] theorem pg190 : pg 190 = some ir190 := rfl
@[simp] theorem irraw190 : ir190.raw = false := rfl
@[simp] theorem pg200 : pg 200 = some ir200 := rfl
@[simp] theorem irraw200 : ir200.raw = false := rfl
@[simp] theorem pg201 : pg 201 = some ir201 := rfl
@[simp] theorem irraw201 : ir201.raw = false := rfl
@[simp] theorem pg202 : pg 202 = some ir202 := rfl
@[simp] theorem irraw202 : ir202.raw = false := rfl
@[simp] theorem pg203 : pg 203 = some ir203 := rfl
@[simp] theorem irraw203 : ir203.raw = true := rfl
@[simp] theorem pg204 : pg 204 = some ir204 := rfl
@[simp] theorem irraw204 : ir204.raw = false := rfl
@[simp] theorem pg206 : pg 206 = some ir206 := rfl
@[simp] theorem irraw206 : ir206.raw = true := rfl
@[simp] theorem pg207 : pg 207 = some ir207 := rfl
@[simp] theorem irraw207 : ir207.raw = false := rfl
@[simp] theorem pg208 : pg 208 = some ir208 := rfl
@[simp] theorem irraw208 : ir208.raw = false := rfl
end Go.Proofs.Ytopjiafdimoeiaa
