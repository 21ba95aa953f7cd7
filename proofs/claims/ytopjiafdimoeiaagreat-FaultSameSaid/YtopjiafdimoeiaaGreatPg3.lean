/- The program that Am runs: the table of the functions. -/
import Derived.Test.YtopjiafdimoeiaaGreatIr3
namespace Go.Proofs.YtopjiafdimoeiaaGreat
open Go Go.Am Go.Proofs
set_option maxRecDepth 100000
def find : List (Nat × Fun) → Nat → Option Fun
  | [], _ => none
  | (k, g) :: r, f => if f = k then some g else find r f
theorem find_mem : ∀ {l : List (Nat × Fun)} {f : Nat} {g : Fun}, find l f = some g → (f, g) ∈ l
  | (k, g') :: r, f, g, h => by
    simp only [find] at h
    split at h
    · rename_i e; cases h; subst e; exact List.mem_cons_self
    · exact List.mem_cons_of_mem _ (find_mem h)
def From (p : Nat × Fun) : Prop := ∃ fn fresh raw, Tryz.prog.funcs[p.1]? = some fn ∧ cFun Tryz.prog fresh raw fn = some p.2
def tbl : List (Nat × Fun) := [(5, ir5), (6, ir6), (7, ir7), (8, ir8), (13, ir13), (14, ir14), (17, ir17), (18, ir18), (19, ir19), (20, ir20), (21, ir21), (22, ir22), (23, ir23), (24, ir24), (25, ir25), (26, ir26), (27, ir27), (28, ir28), (29, ir29), (30, ir30), (31, ir31), (33, ir33), (34, ir34), (36, ir36), (40, ir40), (41, ir41), (42, ir42), (43, ir43), (44, ir44), (45, ir45), (46, ir46), (49, ir49), (50, ir50), (51, ir51), (52, ir52), (53, ir53), (54, ir54), (55, ir55), (56, ir56), (57, ir57), (58, ir58), (59, ir59), (60, ir60), (61, ir61), (62, ir62), (63, ir63), (64, ir64), (65, ir65), (67, ir67), (71, ir71), (72, ir72), (73, ir73), (77, ir77), (79, ir79), (80, ir80), (81, ir81), (82, ir82), (83, ir83), (84, ir84), (85, ir85), (86, ir86), (87, ir87), (88, ir88), (89, ir89), (90, ir90), (91, ir91), (92, ir92), (93, ir93), (94, ir94), (95, ir95), (96, ir96), (99, ir99), (100, ir100), (101, ir101), (102, ir102), (103, ir103), (104, ir104), (107, ir107), (108, ir108), (110, ir110), (111, ir111), (112, ir112), (113, ir113), (114, ir114), (115, ir115), (116, ir116), (117, ir117), (118, ir118), (119, ir119), (120, ir120), (121, ir121), (122, ir122), (124, ir124), (125, ir125), (126, ir126), (127, ir127), (128, ir128), (129, ir129), (130, ir130), (132, ir132), (133, ir133), (134, ir134), (135, ir135), (136, ir136), (137, ir137)]
def pg : Prg := find tbl
theorem from5 : From (5, ir5) := ⟨_, false, false, Tryz.func5, mk5⟩
theorem from6 : From (6, ir6) := ⟨_, false, false, Tryz.func6, mk6⟩
theorem from7 : From (7, ir7) := ⟨_, false, false, Tryz.func7, mk7⟩
theorem from8 : From (8, ir8) := ⟨_, false, false, Tryz.func8, mk8⟩
theorem from13 : From (13, ir13) := ⟨_, false, false, Tryz.func13, mk13⟩
theorem from14 : From (14, ir14) := ⟨_, false, false, Tryz.func14, mk14⟩
theorem from17 : From (17, ir17) := ⟨_, false, false, Tryz.func17, mk17⟩
theorem from18 : From (18, ir18) := ⟨_, false, false, Tryz.func18, mk18⟩
theorem from19 : From (19, ir19) := ⟨_, false, false, Tryz.func19, mk19⟩
theorem from20 : From (20, ir20) := ⟨_, false, false, Tryz.func20, mk20⟩
theorem from21 : From (21, ir21) := ⟨_, false, false, Tryz.func21, mk21⟩
theorem from22 : From (22, ir22) := ⟨_, false, false, Tryz.func22, mk22⟩
theorem from23 : From (23, ir23) := ⟨_, false, false, Tryz.func23, mk23⟩
theorem from24 : From (24, ir24) := ⟨_, false, false, Tryz.func24, mk24⟩
theorem from25 : From (25, ir25) := ⟨_, false, false, Tryz.func25, mk25⟩
theorem from26 : From (26, ir26) := ⟨_, false, false, Tryz.func26, mk26⟩
theorem from27 : From (27, ir27) := ⟨_, false, false, Tryz.func27, mk27⟩
theorem from28 : From (28, ir28) := ⟨_, false, false, Tryz.func28, mk28⟩
theorem from29 : From (29, ir29) := ⟨_, false, false, Tryz.func29, mk29⟩
theorem from30 : From (30, ir30) := ⟨_, false, false, Tryz.func30, mk30⟩
theorem from31 : From (31, ir31) := ⟨_, false, false, Tryz.func31, mk31⟩
theorem from33 : From (33, ir33) := ⟨_, false, false, Tryz.func33, mk33⟩
theorem from34 : From (34, ir34) := ⟨_, false, false, Tryz.func34, mk34⟩
theorem from36 : From (36, ir36) := ⟨_, false, false, Tryz.func36, mk36⟩
theorem from40 : From (40, ir40) := ⟨_, false, false, Tryz.func40, mk40⟩
theorem from41 : From (41, ir41) := ⟨_, false, false, Tryz.func41, mk41⟩
theorem from42 : From (42, ir42) := ⟨_, true, false, Tryz.func42, mk42⟩
theorem from43 : From (43, ir43) := ⟨_, true, false, Tryz.func43, mk43⟩
theorem from44 : From (44, ir44) := ⟨_, true, false, Tryz.func44, mk44⟩
theorem from45 : From (45, ir45) := ⟨_, true, false, Tryz.func45, mk45⟩
theorem from46 : From (46, ir46) := ⟨_, false, false, Tryz.func46, mk46⟩
theorem from49 : From (49, ir49) := ⟨_, false, false, Tryz.func49, mk49⟩
theorem from50 : From (50, ir50) := ⟨_, false, false, Tryz.func50, mk50⟩
theorem from51 : From (51, ir51) := ⟨_, false, false, Tryz.func51, mk51⟩
theorem from52 : From (52, ir52) := ⟨_, true, false, Tryz.func52, mk52⟩
theorem from53 : From (53, ir53) := ⟨_, false, false, Tryz.func53, mk53⟩
theorem from54 : From (54, ir54) := ⟨_, false, false, Tryz.func54, mk54⟩
theorem from55 : From (55, ir55) := ⟨_, false, true, Tryz.func55, mk55⟩
theorem from56 : From (56, ir56) := ⟨_, false, false, Tryz.func56, mk56⟩
theorem from57 : From (57, ir57) := ⟨_, false, false, Tryz.func57, mk57⟩
theorem from58 : From (58, ir58) := ⟨_, false, false, Tryz.func58, mk58⟩
theorem from59 : From (59, ir59) := ⟨_, false, false, Tryz.func59, mk59⟩
theorem from60 : From (60, ir60) := ⟨_, false, false, Tryz.func60, mk60⟩
theorem from61 : From (61, ir61) := ⟨_, true, false, Tryz.func61, mk61⟩
theorem from62 : From (62, ir62) := ⟨_, false, false, Tryz.func62, mk62⟩
theorem from63 : From (63, ir63) := ⟨_, false, false, Tryz.func63, mk63⟩
theorem from64 : From (64, ir64) := ⟨_, false, true, Tryz.func64, mk64⟩
theorem from65 : From (65, ir65) := ⟨_, false, false, Tryz.func65, mk65⟩
theorem from67 : From (67, ir67) := ⟨_, false, false, Tryz.func67, mk67⟩
theorem from71 : From (71, ir71) := ⟨_, false, false, Tryz.func71, mk71⟩
theorem from72 : From (72, ir72) := ⟨_, false, false, Tryz.func72, mk72⟩
theorem from73 : From (73, ir73) := ⟨_, false, false, Tryz.func73, mk73⟩
theorem from77 : From (77, ir77) := ⟨_, false, false, Tryz.func77, mk77⟩
theorem from79 : From (79, ir79) := ⟨_, false, false, Tryz.func79, mk79⟩
theorem from80 : From (80, ir80) := ⟨_, true, true, Tryz.func80, mk80⟩
theorem from81 : From (81, ir81) := ⟨_, true, true, Tryz.func81, mk81⟩
theorem from82 : From (82, ir82) := ⟨_, false, false, Tryz.func82, mk82⟩
theorem from83 : From (83, ir83) := ⟨_, false, false, Tryz.func83, mk83⟩
theorem from84 : From (84, ir84) := ⟨_, false, false, Tryz.func84, mk84⟩
theorem from85 : From (85, ir85) := ⟨_, false, true, Tryz.func85, mk85⟩
theorem from86 : From (86, ir86) := ⟨_, false, false, Tryz.func86, mk86⟩
theorem from87 : From (87, ir87) := ⟨_, false, false, Tryz.func87, mk87⟩
theorem from88 : From (88, ir88) := ⟨_, false, false, Tryz.func88, mk88⟩
theorem from89 : From (89, ir89) := ⟨_, false, false, Tryz.func89, mk89⟩
theorem from90 : From (90, ir90) := ⟨_, false, false, Tryz.func90, mk90⟩
theorem from91 : From (91, ir91) := ⟨_, false, false, Tryz.func91, mk91⟩
theorem from92 : From (92, ir92) := ⟨_, false, false, Tryz.func92, mk92⟩
theorem from93 : From (93, ir93) := ⟨_, false, false, Tryz.func93, mk93⟩
theorem from94 : From (94, ir94) := ⟨_, false, false, Tryz.func94, mk94⟩
theorem from95 : From (95, ir95) := ⟨_, false, false, Tryz.func95, mk95⟩
theorem from96 : From (96, ir96) := ⟨_, false, false, Tryz.func96, mk96⟩
theorem from99 : From (99, ir99) := ⟨_, false, false, Tryz.func99, mk99⟩
theorem from100 : From (100, ir100) := ⟨_, false, false, Tryz.func100, mk100⟩
theorem from101 : From (101, ir101) := ⟨_, false, false, Tryz.func101, mk101⟩
theorem from102 : From (102, ir102) := ⟨_, false, false, Tryz.func102, mk102⟩
theorem from103 : From (103, ir103) := ⟨_, false, false, Tryz.func103, mk103⟩
theorem from104 : From (104, ir104) := ⟨_, false, false, Tryz.func104, mk104⟩
theorem from107 : From (107, ir107) := ⟨_, false, true, Tryz.func107, mk107⟩
theorem from108 : From (108, ir108) := ⟨_, false, false, Tryz.func108, mk108⟩
theorem from110 : From (110, ir110) := ⟨_, false, false, Tryz.func110, mk110⟩
theorem from111 : From (111, ir111) := ⟨_, false, false, Tryz.func111, mk111⟩
theorem from112 : From (112, ir112) := ⟨_, false, false, Tryz.func112, mk112⟩
theorem from113 : From (113, ir113) := ⟨_, false, false, Tryz.func113, mk113⟩
theorem from114 : From (114, ir114) := ⟨_, false, false, Tryz.func114, mk114⟩
theorem from115 : From (115, ir115) := ⟨_, false, false, Tryz.func115, mk115⟩
theorem from116 : From (116, ir116) := ⟨_, false, false, Tryz.func116, mk116⟩
theorem from117 : From (117, ir117) := ⟨_, false, false, Tryz.func117, mk117⟩
theorem from118 : From (118, ir118) := ⟨_, false, false, Tryz.func118, mk118⟩
theorem from119 : From (119, ir119) := ⟨_, false, true, Tryz.func119, mk119⟩
theorem from120 : From (120, ir120) := ⟨_, false, false, Tryz.func120, mk120⟩
theorem from121 : From (121, ir121) := ⟨_, false, false, Tryz.func121, mk121⟩
theorem from122 : From (122, ir122) := ⟨_, false, false, Tryz.func122, mk122⟩
theorem from124 : From (124, ir124) := ⟨_, false, true, Tryz.func124, mk124⟩
theorem from125 : From (125, ir125) := ⟨_, false, false, Tryz.func125, mk125⟩
theorem from126 : From (126, ir126) := ⟨_, false, true, Tryz.func126, mk126⟩
theorem from127 : From (127, ir127) := ⟨_, false, false, Tryz.func127, mk127⟩
theorem from128 : From (128, ir128) := ⟨_, false, false, Tryz.func128, mk128⟩
theorem from129 : From (129, ir129) := ⟨_, false, false, Tryz.func129, mk129⟩
theorem from130 : From (130, ir130) := ⟨_, false, false, Tryz.func130, mk130⟩
theorem from132 : From (132, ir132) := ⟨_, false, false, Tryz.func132, mk132⟩
theorem from133 : From (133, ir133) := ⟨_, false, false, Tryz.func133, mk133⟩
theorem from134 : From (134, ir134) := ⟨_, false, true, Tryz.func134, mk134⟩
theorem from135 : From (135, ir135) := ⟨_, false, false, Tryz.func135, mk135⟩
theorem from136 : From (136, ir136) := ⟨_, false, false, Tryz.func136, mk136⟩
theorem from137 : From (137, ir137) := ⟨_, false, false, Tryz.func137, mk137⟩
theorem tbl_from : ∀ p ∈ tbl, From p := by
  intro p hp
  unfold tbl at hp
  simp only [List.mem_cons, List.not_mem_nil, or_false] at hp
  rcases hp with rfl | rfl | rfl | rfl | rfl | rfl | rfl | rfl | rfl | rfl | rfl | rfl | rfl | rfl | rfl | rfl | rfl | rfl | rfl | rfl | rfl | rfl | rfl | rfl | rfl | rfl | rfl | rfl | rfl | rfl | rfl | rfl | rfl | rfl | rfl | rfl | rfl | rfl | rfl | rfl | rfl | rfl | rfl | rfl | rfl | rfl | rfl | rfl | rfl | rfl | rfl | rfl | rfl | rfl | rfl | rfl | rfl | rfl | rfl | rfl | rfl | rfl | rfl | rfl | rfl | rfl | rfl | rfl | rfl | rfl | rfl | rfl | rfl | rfl | rfl | rfl | rfl | rfl | rfl | rfl | rfl | rfl | rfl | rfl | rfl | rfl | rfl | rfl | rfl | rfl | rfl | rfl | rfl | rfl | rfl | rfl | rfl | rfl | rfl | rfl | rfl | rfl | rfl | rfl | rfl
  · exact from5
  · exact from6
  · exact from7
  · exact from8
  · exact from13
  · exact from14
  · exact from17
  · exact from18
  · exact from19
  · exact from20
  · exact from21
  · exact from22
  · exact from23
  · exact from24
  · exact from25
  · exact from26
  · exact from27
  · exact from28
  · exact from29
  · exact from30
  · exact from31
  · exact from33
  · exact from34
  · exact from36
  · exact from40
  · exact from41
  · exact from42
  · exact from43
  · exact from44
  · exact from45
  · exact from46
  · exact from49
  · exact from50
  · exact from51
  · exact from52
  · exact from53
  · exact from54
  · exact from55
  · exact from56
  · exact from57
  · exact from58
  · exact from59
  · exact from60
  · exact from61
  · exact from62
  · exact from63
  · exact from64
  · exact from65
  · exact from67
  · exact from71
  · exact from72
  · exact from73
  · exact from77
  · exact from79
  · exact from80
  · exact from81
  · exact from82
  · exact from83
  · exact from84
  · exact from85
  · exact from86
  · exact from87
  · exact from88
  · exact from89
  · exact from90
  · exact from91
  · exact from92
  · exact from93
  · exact from94
  · exact from95
  · exact from96
  · exact from99
  · exact from100
  · exact from101
  · exact from102
  · exact from103
  · exact from104
  · exact from107
  · exact from108
  · exact from110
  · exact from111
  · exact from112
  · exact from113
  · exact from114
  · exact from115
  · exact from116
  · exact from117
  · exact from118
  · exact from119
  · exact from120
  · exact from121
  · exact from122
  · exact from124
  · exact from125
  · exact from126
  · exact from127
  · exact from128
  · exact from129
  · exact from130
  · exact from132
  · exact from133
  · exact from134
  · exact from135
  · exact from136
  · exact from137
theorem made : ∀ f g, pg f = some g → ∃ fn fresh raw, Tryz.prog.funcs[f]? = some fn ∧ cFun Tryz.prog fresh raw fn = some g := fun f g h => tbl_from (f, g) (find_mem h)
@[simp] theorem pg5 : pg 5 = some ir5 := rfl
@[simp] theorem irraw5 : ir5.raw = false := rfl
@[simp] theorem pg6 : pg 6 = some ir6 := rfl
@[simp] theorem irraw6 : ir6.raw = false := rfl
@[simp] theorem pg7 : pg 7 = some ir7 := rfl
@[simp] theorem irraw7 : ir7.raw = false := rfl
@[simp] theorem pg8 : pg 8 = some ir8 := rfl
@[simp] theorem irraw8 : ir8.raw = false := rfl
@[simp] theorem pg13 : pg 13 = some ir13 := rfl
@[simp] theorem irraw13 : ir13.raw = false := rfl
@[simp] theorem pg14 : pg 14 = some ir14 := rfl
@[simp] theorem irraw14 : ir14.raw = false := rfl
@[simp] theorem pg17 : pg 17 = some ir17 := rfl
@[simp] theorem irraw17 : ir17.raw = false := rfl
@[simp] theorem pg18 : pg 18 = some ir18 := rfl
@[simp] theorem irraw18 : ir18.raw = false := rfl
@[simp] theorem pg19 : pg 19 = some ir19 := rfl
@[simp] theorem irraw19 : ir19.raw = false := rfl
@[simp] theorem pg20 : pg 20 = some ir20 := rfl
@[simp] theorem irraw20 : ir20.raw = false := rfl
@[simp] theorem pg21 : pg 21 = some ir21 := rfl
@[simp] theorem irraw21 : ir21.raw = false := rfl
@[simp] theorem pg22 : pg 22 = some ir22 := rfl
@[simp] theorem irraw22 : ir22.raw = false := rfl
@[simp] theorem pg23 : pg 23 = some ir23 := rfl
@[simp] theorem irraw23 : ir23.raw = false := rfl
@[simp] theorem pg24 : pg 24 = some ir24 := rfl
@[simp] theorem irraw24 : ir24.raw = false := rfl
@[simp] theorem pg25 : pg 25 = some ir25 := rfl
@[simp] theorem irraw25 : ir25.raw = false := rfl
@[simp] theorem pg26 : pg 26 = some ir26 := rfl
@[simp] theorem irraw26 : ir26.raw = false := rfl
@[simp] theorem pg27 : pg 27 = some ir27 := rfl
@[simp] theorem irraw27 : ir27.raw = false := rfl
@[simp] theorem pg28 : pg 28 = some ir28 := rfl
@[simp] theorem irraw28 : ir28.raw = false := rfl
@[simp] theorem pg29 : pg 29 = some ir29 := rfl
@[simp] theorem irraw29 : ir29.raw = false := rfl
@[simp] theorem pg30 : pg 30 = some ir30 := rfl
@[simp] theorem irraw30 : ir30.raw = false := rfl
@[simp] theorem pg31 : pg 31 = some ir31 := rfl
@[simp] theorem irraw31 : ir31.raw = false := rfl
@[simp] theorem pg33 : pg 33 = some ir33 := rfl
@[simp] theorem irraw33 : ir33.raw = false := rfl
@[simp] theorem pg34 : pg 34 = some ir34 := rfl
@[simp] theorem irraw34 : ir34.raw = false := rfl
@[simp] theorem pg36 : pg 36 = some ir36 := rfl
@[simp] theorem irraw36 : ir36.raw = false := rfl
@[simp] theorem pg40 : pg 40 = some ir40 := rfl
@[simp] theorem irraw40 : ir40.raw = false := rfl
@[simp] theorem pg41 : pg 41 = some ir41 := rfl
@[simp] theorem irraw41 : ir41.raw = false := rfl
@[simp] theorem pg42 : pg 42 = some ir42 := rfl
@[simp] theorem irraw42 : ir42.raw = false := rfl
@[simp] theorem pg43 : pg 43 = some ir43 := rfl
@[simp] theorem irraw43 : ir43.raw = false := rfl
@[simp] theorem pg44 : pg 44 = some ir44 := rfl
@[simp] theorem irraw44 : ir44.raw = false := rfl
@[simp] theorem pg45 : pg 45 = some ir45 := rfl
@[simp] theorem irraw45 : ir45.raw = false := rfl
@[simp] theorem pg46 : pg 46 = some ir46 := rfl
@[simp] theorem irraw46 : ir46.raw = false := rfl
@[simp] theorem pg49 : pg 49 = some ir49 := rfl
@[simp] theorem irraw49 : ir49.raw = false := rfl
@[simp] theorem pg50 : pg 50 = some ir50 := rfl
@[simp] theorem irraw50 : ir50.raw = false := rfl
@[simp] theorem pg51 : pg 51 = some ir51 := rfl
@[simp] theorem irraw51 : ir51.raw = false := rfl
@[simp] theorem pg52 : pg 52 = some ir52 := rfl
@[simp] theorem irraw52 : ir52.raw = false := rfl
@[simp] theorem pg53 : pg 53 = some ir53 := rfl
@[simp] theorem irraw53 : ir53.raw = false := rfl
@[simp] theorem pg54 : pg 54 = some ir54 := rfl
@[simp] theorem irraw54 : ir54.raw = false := rfl
@[simp] theorem pg55 : pg 55 = some ir55 := rfl
@[simp] theorem irraw55 : ir55.raw = true := rfl
@[simp] theorem pg56 : pg 56 = some ir56 := rfl
@[simp] theorem irraw56 : ir56.raw = false := rfl
@[simp] theorem pg57 : pg 57 = some ir57 := rfl
@[simp] theorem irraw57 : ir57.raw = false := rfl
@[simp] theorem pg58 : pg 58 = some ir58 := rfl
@[simp] theorem irraw58 : ir58.raw = false := rfl
@[simp] theorem pg59 : pg 59 = some ir59 := rfl
@[simp] theorem irraw59 : ir59.raw = false := rfl
@[simp] theorem pg60 : pg 60 = some ir60 := rfl
@[simp] theorem irraw60 : ir60.raw = false := rfl
@[simp] theorem pg61 : pg 61 = some ir61 := rfl
@[simp] theorem irraw61 : ir61.raw = false := rfl
@[simp] theorem pg62 : pg 62 = some ir62 := rfl
@[simp] theorem irraw62 : ir62.raw = false := rfl
@[simp] theorem pg63 : pg 63 = some ir63 := rfl
@[simp] theorem irraw63 : ir63.raw = false := rfl
@[simp] theorem pg64 : pg 64 = some ir64 := rfl
@[simp] theorem irraw64 : ir64.raw = true := rfl
@[simp] theorem pg65 : pg 65 = some ir65 := rfl
@[simp] theorem irraw65 : ir65.raw = false := rfl
@[simp] theorem pg67 : pg 67 = some ir67 := rfl
@[simp] theorem irraw67 : ir67.raw = false := rfl
@[simp] theorem pg71 : pg 71 = some ir71 := rfl
@[simp] theorem irraw71 : ir71.raw = false := rfl
@[simp] theorem pg72 : pg 72 = some ir72 := rfl
@[simp] theorem irraw72 : ir72.raw = false := rfl
@[simp] theorem pg73 : pg 73 = some ir73 := rfl
@[simp] theorem irraw73 : ir73.raw = false := rfl
@[simp] theorem pg77 : pg 77 = some ir77 := rfl
@[simp] theorem irraw77 : ir77.raw = false := rfl
@[simp] theorem pg79 : pg 79 = some ir79 := rfl
@[simp] theorem irraw79 : ir79.raw = false := rfl
@[simp] theorem pg80 : pg 80 = some ir80 := rfl
@[simp] theorem irraw80 : ir80.raw = true := rfl
@[simp] theorem pg81 : pg 81 = some ir81 := rfl
@[simp] theorem irraw81 : ir81.raw = true := rfl
@[simp] theorem pg82 : pg 82 = some ir82 := rfl
@[simp] theorem irraw82 : ir82.raw = false := rfl
@[simp] theorem pg83 : pg 83 = some ir83 := rfl
@[simp] theorem irraw83 : ir83.raw = false := rfl
@[simp] theorem pg84 : pg 84 = some ir84 := rfl
@[simp] theorem irraw84 : ir84.raw = false := rfl
@[simp] theorem pg85 : pg 85 = some ir85 := rfl
@[simp] theorem irraw85 : ir85.raw = true := rfl
@[simp] theorem pg86 : pg 86 = some ir86 := rfl
@[simp] theorem irraw86 : ir86.raw = false := rfl
@[simp] theorem pg87 : pg 87 = some ir87 := rfl
@[simp] theorem irraw87 : ir87.raw = false := rfl
@[simp] theorem pg88 : pg 88 = some ir88 := rfl
@[simp] theorem irraw88 : ir88.raw = false := rfl
@[simp] theorem pg89 : pg 89 = some ir89 := rfl
@[simp] theorem irraw89 : ir89.raw = false := rfl
@[simp] theorem pg90 : pg 90 = some ir90 := rfl
@[simp] theorem irraw90 : ir90.raw = false := rfl
@[simp] theorem pg91 : pg 91 = some ir91 := rfl
@[simp] theorem irraw91 : ir91.raw = false := rfl
@[simp] theorem pg92 : pg 92 = some ir92 := rfl
@[simp] theorem irraw92 : ir92.raw = false := rfl
@[simp] theorem pg93 : pg 93 = some ir93 := rfl
@[simp] theorem irraw93 : ir93.raw = false := rfl
@[simp] theorem pg94 : pg 94 = some ir94 := rfl
@[simp] theorem irraw94 : ir94.raw = false := rfl
@[simp] theorem pg95 : pg 95 = some ir95 := rfl
@[simp] theorem irraw95 : ir95.raw = false := rfl
@[simp] theorem pg96 : pg 96 = some ir96 := rfl
@[simp] theorem irraw96 : ir96.raw = false := rfl
@[simp] theorem pg99 : pg 99 = some ir99 := rfl
@[simp] theorem irraw99 : ir99.raw = false := rfl
@[simp] theorem pg100 : pg 100 = some ir100 := rfl
@[simp] theorem irraw100 : ir100.raw = false := rfl
@[simp] theorem pg101 : pg 101 = some ir101 := rfl
@[simp] theorem irraw101 : ir101.raw = false := rfl
@[simp] theorem pg102 : pg 102 = some ir102 := rfl
@[simp] theorem irraw102 : ir102.raw = false := rfl
@[simp] theorem pg103 : pg 103 = some ir103 := rfl
@[simp] theorem irraw103 : ir103.raw = false := rfl
@[simp] theorem pg104 : pg 104 = some ir104 := rfl
@[simp] theorem irraw104 : ir104.raw = false := rfl
@[simp] theorem pg107 : pg 107 = some ir107 := rfl
@[simp] theorem irraw107 : ir107.raw = true := rfl
@[simp] theorem pg108 : pg 108 = some ir108 := rfl
@[simp] theorem irraw108 : ir108.raw = false := rfl
@[simp] theorem pg110 : pg 110 = some ir110 := rfl
@[simp] theorem irraw110 : ir110.raw = false := rfl
@[simp] theorem pg111 : pg 111 = some ir111 := rfl
@[simp] theorem irraw111 : ir111.raw = false := rfl
@[simp] theorem pg112 : pg 112 = some ir112 := rfl
@[simp] theorem irraw112 : ir112.raw = false := rfl
@[simp] theorem pg113 : pg 113 = some ir113 := rfl
@[simp] theorem irraw113 : ir113.raw = false := rfl
@[simp] theorem pg114 : pg 114 = some ir114 := rfl
@[simp] theorem irraw114 : ir114.raw = false := rfl
@[simp] theorem pg115 : pg 115 = some ir115 := rfl
@[simp] theorem irraw115 : ir115.raw = false := rfl
@[simp] theorem pg116 : pg 116 = some ir116 := rfl
@[simp] theorem irraw116 : ir116.raw = false := rfl
@[simp] theorem pg117 : pg 117 = some ir117 := rfl
@[simp] theorem irraw117 : ir117.raw = false := rfl
@[simp] theorem pg118 : pg 118 = some ir118 := rfl
@[simp] theorem irraw118 : ir118.raw = false := rfl
@[simp] theorem pg119 : pg 119 = some ir119 := rfl
@[simp] theorem irraw119 : ir119.raw = true := rfl
@[simp] theorem pg120 : pg 120 = some ir120 := rfl
@[simp] theorem irraw120 : ir120.raw = false := rfl
@[simp] theorem pg121 : pg 121 = some ir121 := rfl
@[simp] theorem irraw121 : ir121.raw = false := rfl
@[simp] theorem pg122 : pg 122 = some ir122 := rfl
@[simp] theorem irraw122 : ir122.raw = false := rfl
@[simp] theorem pg124 : pg 124 = some ir124 := rfl
@[simp] theorem irraw124 : ir124.raw = true := rfl
@[simp] theorem pg125 : pg 125 = some ir125 := rfl
@[simp] theorem irraw125 : ir125.raw = false := rfl
@[simp] theorem pg126 : pg 126 = some ir126 := rfl
@[simp] theorem irraw126 : ir126.raw = true := rfl
@[simp] theorem pg127 : pg 127 = some ir127 := rfl
@[simp] theorem irraw127 : ir127.raw = false := rfl
@[simp] theorem pg128 : pg 128 = some ir128 := rfl
@[simp] theorem irraw128 : ir128.raw = false := rfl
@[simp] theorem pg129 : pg 129 = some ir129 := rfl
@[simp] theorem irraw129 : ir129.raw = false := rfl
@[simp] theorem pg130 : pg 130 = some ir130 := rfl
@[simp] theorem irraw130 : ir130.raw = false := rfl
@[simp] theorem pg132 : pg 132 = some ir132 := rfl
@[simp] theorem irraw132 : ir132.raw = false := rfl
@[simp] theorem pg133 : pg 133 = some ir133 := rfl
@[simp] theorem irraw133 : ir133.raw = false := rfl
@[simp] theorem pg134 : pg 134 = some ir134 := rfl
@[simp] theorem irraw134 : ir134.raw = true := rfl
@[simp] theorem pg135 : pg 135 = some ir135 := rfl
@[simp] theorem irraw135 : ir135.raw = false := rfl
@[simp] theorem pg136 : pg 136 = some ir136 := rfl
@[simp] theorem irraw136 : ir136.raw = false := rfl
@[simp] theorem pg137 : pg 137 = some ir137 := rfl
@[simp] theorem irraw137 : ir137.raw = false := rfl
end Go.Proofs.YtopjiafdimoeiaaGreat
