/- The program that Am runs: the table of the functions. -/
import Derived.Test.YtopjiafdimoeiaaIr2
namespace Go.Proofs.Ytopjiafdimoeiaa
open Go Go.Am Go.Proofs
set_option maxRecDepth 100000
def find : List (Nat × Fun) → Nat → Option Fun
  | [], _ => none
  | (k, g) :: r, f => if f = k then some g else find r f
theorem find_mem : ∀ {l : List (Nat × Fun)} {f : Nat} {g : Fun}, find l f = some g → (f, g) ∈ l
  | (k, g') :: r, f, g, h => by
    simp only [find] at h
    split at h
    · rename_i e; cases h; subst e; exact List.mem_cons_self
    · exact List.mem_cons_of_mem _ (find_mem h)
def From (p : Nat × Fun) : Prop := ∃ fn fresh raw, Try.prog.funcs[p.1]? = some fn ∧ cFun Try.prog fresh raw fn = some p.2
def tbl : List (Nat × Fun) := [(7, ir7), (8, ir8), (9, ir9), (10, ir10), (11, ir11), (12, ir12), (39, ir39), (40, ir40), (41, ir41), (42, ir42), (43, ir43), (44, ir44), (45, ir45), (46, ir46), (47, ir47), (48, ir48), (49, ir49), (50, ir50), (51, ir51), (52, ir52), (53, ir53), (54, ir54), (55, ir55), (56, ir56), (57, ir57), (58, ir58), (59, ir59), (60, ir60), (61, ir61), (62, ir62), (63, ir63), (64, ir64), (88, ir88), (89, ir89), (90, ir90), (91, ir91), (92, ir92), (93, ir93), (94, ir94), (95, ir95), (96, ir96), (97, ir97), (98, ir98), (99, ir99), (100, ir100), (101, ir101), (102, ir102), (103, ir103), (104, ir104), (105, ir105), (106, ir106), (107, ir107), (108, ir108), (109, ir109), (135, ir135), (136, ir136), (137, ir137), (138, ir138), (139, ir139), (140, ir140), (141, ir141), (142, ir142), (143, ir143), (144, ir144), (145, ir145), (147, ir147), (164, ir164), (165, ir165), (166, ir166), (167, ir167), (168, ir168), (169, ir169), (178, ir178), (179, ir179), (180, ir180), (181, ir181), (182, ir182), (183, ir183), (184, ir184), (191, ir191), (197, ir197), (198, ir198), (199, ir199)]
def pg : Prg := find tbl
theorem from7 : From (7, ir7) := ⟨_, false, false, Try.func7, mk7⟩
theorem from8 : From (8, ir8) := ⟨_, false, false, Try.func8, mk8⟩
theorem from9 : From (9, ir9) := ⟨_, false, false, Try.func9, mk9⟩
theorem from10 : From (10, ir10) := ⟨_, false, false, Try.func10, mk10⟩
theorem from11 : From (11, ir11) := ⟨_, false, false, Try.func11, mk11⟩
theorem from12 : From (12, ir12) := ⟨_, false, false, Try.func12, mk12⟩
theorem from39 : From (39, ir39) := ⟨_, false, false, Try.func39, mk39⟩
theorem from40 : From (40, ir40) := ⟨_, false, false, Try.func40, mk40⟩
theorem from41 : From (41, ir41) := ⟨_, false, false, Try.func41, mk41⟩
theorem from42 : From (42, ir42) := ⟨_, false, false, Try.func42, mk42⟩
theorem from43 : From (43, ir43) := ⟨_, false, false, Try.func43, mk43⟩
theorem from44 : From (44, ir44) := ⟨_, false, false, Try.func44, mk44⟩
theorem from45 : From (45, ir45) := ⟨_, false, false, Try.func45, mk45⟩
theorem from46 : From (46, ir46) := ⟨_, false, false, Try.func46, mk46⟩
theorem from47 : From (47, ir47) := ⟨_, false, false, Try.func47, mk47⟩
theorem from48 : From (48, ir48) := ⟨_, false, false, Try.func48, mk48⟩
theorem from49 : From (49, ir49) := ⟨_, false, false, Try.func49, mk49⟩
theorem from50 : From (50, ir50) := ⟨_, true, false, Try.func50, mk50⟩
theorem from51 : From (51, ir51) := ⟨_, false, false, Try.func51, mk51⟩
theorem from52 : From (52, ir52) := ⟨_, false, false, Try.func52, mk52⟩
theorem from53 : From (53, ir53) := ⟨_, false, false, Try.func53, mk53⟩
theorem from54 : From (54, ir54) := ⟨_, false, false, Try.func54, mk54⟩
theorem from55 : From (55, ir55) := ⟨_, false, false, Try.func55, mk55⟩
theorem from56 : From (56, ir56) := ⟨_, false, false, Try.func56, mk56⟩
theorem from57 : From (57, ir57) := ⟨_, false, false, Try.func57, mk57⟩
theorem from58 : From (58, ir58) := ⟨_, false, false, Try.func58, mk58⟩
theorem from59 : From (59, ir59) := ⟨_, false, false, Try.func59, mk59⟩
theorem from60 : From (60, ir60) := ⟨_, false, false, Try.func60, mk60⟩
theorem from61 : From (61, ir61) := ⟨_, false, false, Try.func61, mk61⟩
theorem from62 : From (62, ir62) := ⟨_, false, false, Try.func62, mk62⟩
theorem from63 : From (63, ir63) := ⟨_, false, false, Try.func63, mk63⟩
theorem from64 : From (64, ir64) := ⟨_, true, false, Try.func64, mk64⟩
theorem from88 : From (88, ir88) := ⟨_, false, false, Try.func88, mk88⟩
theorem from89 : From (89, ir89) := ⟨_, false, false, Try.func89, mk89⟩
theorem from90 : From (90, ir90) := ⟨_, false, false, Try.func90, mk90⟩
theorem from91 : From (91, ir91) := ⟨_, false, false, Try.func91, mk91⟩
theorem from92 : From (92, ir92) := ⟨_, false, false, Try.func92, mk92⟩
theorem from93 : From (93, ir93) := ⟨_, false, false, Try.func93, mk93⟩
theorem from94 : From (94, ir94) := ⟨_, false, false, Try.func94, mk94⟩
theorem from95 : From (95, ir95) := ⟨_, false, false, Try.func95, mk95⟩
theorem from96 : From (96, ir96) := ⟨_, true, false, Try.func96, mk96⟩
theorem from97 : From (97, ir97) := ⟨_, false, true, Try.func97, mk97⟩
theorem from98 : From (98, ir98) := ⟨_, false, false, Try.func98, mk98⟩
theorem from99 : From (99, ir99) := ⟨_, false, false, Try.func99, mk99⟩
theorem from100 : From (100, ir100) := ⟨_, true, false, Try.func100, mk100⟩
theorem from101 : From (101, ir101) := ⟨_, false, false, Try.func101, mk101⟩
theorem from102 : From (102, ir102) := ⟨_, false, false, Try.func102, mk102⟩
theorem from103 : From (103, ir103) := ⟨_, false, false, Try.func103, mk103⟩
theorem from104 : From (104, ir104) := ⟨_, false, false, Try.func104, mk104⟩
theorem from105 : From (105, ir105) := ⟨_, false, false, Try.func105, mk105⟩
theorem from106 : From (106, ir106) := ⟨_, false, false, Try.func106, mk106⟩
theorem from107 : From (107, ir107) := ⟨_, false, false, Try.func107, mk107⟩
theorem from108 : From (108, ir108) := ⟨_, false, false, Try.func108, mk108⟩
theorem from109 : From (109, ir109) := ⟨_, false, false, Try.func109, mk109⟩
theorem from135 : From (135, ir135) := ⟨_, false, false, Try.func135, mk135⟩
theorem from136 : From (136, ir136) := ⟨_, false, false, Try.func136, mk136⟩
theorem from137 : From (137, ir137) := ⟨_, false, false, Try.func137, mk137⟩
theorem from138 : From (138, ir138) := ⟨_, false, true, Try.func138, mk138⟩
theorem from139 : From (139, ir139) := ⟨_, false, false, Try.func139, mk139⟩
theorem from140 : From (140, ir140) := ⟨_, false, false, Try.func140, mk140⟩
theorem from141 : From (141, ir141) := ⟨_, false, true, Try.func141, mk141⟩
theorem from142 : From (142, ir142) := ⟨_, true, true, Try.func142, mk142⟩
theorem from143 : From (143, ir143) := ⟨_, true, false, Try.func143, mk143⟩
theorem from144 : From (144, ir144) := ⟨_, false, true, Try.func144, mk144⟩
theorem from145 : From (145, ir145) := ⟨_, false, false, Try.func145, mk145⟩
theorem from147 : From (147, ir147) := ⟨_, false, false, Try.func147, mk147⟩
theorem from164 : From (164, ir164) := ⟨_, false, false, Try.func164, mk164⟩
theorem from165 : From (165, ir165) := ⟨_, false, false, Try.func165, mk165⟩
theorem from166 : From (166, ir166) := ⟨_, false, false, Try.func166, mk166⟩
theorem from167 : From (167, ir167) := ⟨_, false, false, Try.func167, mk167⟩
theorem from168 : From (168, ir168) := ⟨_, false, false, Try.func168, mk168⟩
theorem from169 : From (169, ir169) := ⟨_, false, true, Try.func169, mk169⟩
theorem from178 : From (178, ir178) := ⟨_, false, false, Try.func178, mk178⟩
theorem from179 : From (179, ir179) := ⟨_, false, false, Try.func179, mk179⟩
theorem from180 : From (180, ir180) := ⟨_, false, false, Try.func180, mk180⟩
theorem from181 : From (181, ir181) := ⟨_, false, true, Try.func181, mk181⟩
theorem from182 : From (182, ir182) := ⟨_, false, false, Try.func182, mk182⟩
theorem from183 : From (183, ir183) := ⟨_, true, false, Try.func183, mk183⟩
theorem from184 : From (184, ir184) := ⟨_, false, false, Try.func184, mk184⟩
theorem from191 : From (191, ir191) := ⟨_, false, false, Try.func191, mk191⟩
theorem from197 : From (197, ir197) := ⟨_, false, false, Try.func197, mk197⟩
theorem from198 : From (198, ir198) := ⟨_, false, true, Try.func198, mk198⟩
theorem from199 : From (199, ir199) := ⟨_, true, true, Try.func199, mk199⟩
theorem tbl_from : ∀ p ∈ tbl, From p := by
  intro p hp
  unfold tbl at hp
  simp only [List.mem_cons, List.not_mem_nil, or_false] at hp
  rcases hp with rfl | rfl | rfl | rfl | rfl | rfl | rfl | rfl | rfl | rfl | rfl | rfl | rfl | rfl | rfl | rfl | rfl | rfl | rfl | rfl | rfl | rfl | rfl | rfl | rfl | rfl | rfl | rfl | rfl | rfl | rfl | rfl | rfl | rfl | rfl | rfl | rfl | rfl | rfl | rfl | rfl | rfl | rfl | rfl | rfl | rfl | rfl | rfl | rfl | rfl | rfl | rfl | rfl | rfl | rfl | rfl | rfl | rfl | rfl | rfl | rfl | rfl | rfl | rfl | rfl | rfl | rfl | rfl | rfl | rfl | rfl | rfl | rfl | rfl | rfl | rfl | rfl | rfl | rfl | rfl | rfl | rfl | rfl
  · exact from7
  · exact from8
  · exact from9
  · exact from10
  · exact from11
  · exact from12
  · exact from39
  · exact from40
  · exact from41
  · exact from42
  · exact from43
  · exact from44
  · exact from45
  · exact from46
  · exact from47
  · exact from48
  · exact from49
  · exact from50
  · exact from51
  · exact from52
  · exact from53
  · exact from54
  · exact from55
  · exact from56
  · exact from57
  · exact from58
  · exact from59
  · exact from60
  · exact from61
  · exact from62
  · exact from63
  · exact from64
  · exact from88
  · exact from89
  · exact from90
  · exact from91
  · exact from92
  · exact from93
  · exact from94
  · exact from95
  · exact from96
  · exact from97
  · exact from98
  · exact from99
  · exact from100
  · exact from101
  · exact from102
  · exact from103
  · exact from104
  · exact from105
  · exact from106
  · exact from107
  · exact from108
  · exact from109
  · exact from135
  · exact from136
  · exact from137
  · exact from138
  · exact from139
  · exact from140
  · exact from141
  · exact from142
  · exact from143
  · exact from144
  · exact from145
  · exact from147
  · exact from164
  · exact from165
  · exact from166
  · exact from167
  · exact from168
  · exact from169
  · exact from178
  · exact from179
  · exact from180
  · exact from181
  · exact from182
  · exact from183
  · exact from184
  · exact from191
  · exact from197
  · exact from198
  · exact from199
theorem made : ∀ f g, pg f = some g → ∃ fn fresh raw, Try.prog.funcs[f]? = some fn ∧ cFun Try.prog fresh raw fn = some g := fun f g h => tbl_from (f, g) (find_mem h)
@[simp] theorem pg7 : pg 7 = some ir7 := rfl
@[simp] theorem irraw7 : ir7.raw = false := rfl
@[simp] theorem pg8 : pg 8 = some ir8 := rfl
@[simp] theorem irraw8 : ir8.raw = false := rfl
@[simp] theorem pg9 : pg 9 = some ir9 := rfl
@[simp] theorem irraw9 : ir9.raw = false := rfl
@[simp] theorem pg10 : pg 10 = some ir10 := rfl
@[simp] theorem irraw10 : ir10.raw = false := rfl
@[simp] theorem pg11 : pg 11 = some ir11 := rfl
@[simp] theorem irraw11 : ir11.raw = false := rfl
@[simp] theorem pg12 : pg 12 = some ir12 := rfl
@[simp] theorem irraw12 : ir12.raw = false := rfl
@[simp] theorem pg39 : pg 39 = some ir39 := rfl
@[simp] theorem irraw39 : ir39.raw = false := rfl
@[simp] theorem pg40 : pg 40 = some ir40 := rfl
@[simp] theorem irraw40 : ir40.raw = false := rfl
@[simp] theorem pg41 : pg 41 = some ir41 := rfl
@[simp] theorem irraw41 : ir41.raw = false := rfl
@[simp] theorem pg42 : pg 42 = some ir42 := rfl
@[simp] theorem irraw42 : ir42.raw = false := rfl
@[simp] theorem pg43 : pg 43 = some ir43 := rfl
@[simp] theorem irraw43 : ir43.raw = false := rfl
@[simp] theorem pg44 : pg 44 = some ir44 := rfl
@[simp] theorem irraw44 : ir44.raw = false := rfl
@[simp] theorem pg45 : pg 45 = some ir45 := rfl
@[simp] theorem irraw45 : ir45.raw = false := rfl
@[simp] theorem pg46 : pg 46 = some ir46 := rfl
@[simp] theorem irraw46 : ir46.raw = false := rfl
@[simp] theorem pg47 : pg 47 = some ir47 := rfl
@[simp] theorem irraw47 : ir47.raw = false := rfl
@[simp] theorem pg48 : pg 48 = some ir48 := rfl
@[simp] theorem irraw48 : ir48.raw = false := rfl
@[simp] theorem pg49 : pg 49 = some ir49 := rfl
@[simp] theorem irraw49 : ir49.raw = false := rfl
@[simp] theorem pg50 : pg 50 = some ir50 := rfl
@[simp] theorem irraw50 : ir50.raw = false := rfl
@[simp] theorem pg51 : pg 51 = some ir51 := rfl
@[simp] theorem irraw51 : ir51.raw = false := rfl
@[simp] theorem pg52 : pg 52 = some ir52 := rfl
@[simp] theorem irraw52 : ir52.raw = false := rfl
@[simp] theorem pg53 : pg 53 = some ir53 := rfl
@[simp] theorem irraw53 : ir53.raw = false := rfl
@[simp] theorem pg54 : pg 54 = some ir54 := rfl
@[simp] theorem irraw54 : ir54.raw = false := rfl
@[simp] theorem pg55 : pg 55 = some ir55 := rfl
@[simp] theorem irraw55 : ir55.raw = false := rfl
@[simp] theorem pg56 : pg 56 = some ir56 := rfl
@[simp] theorem irraw56 : ir56.raw = false := rfl
@[simp] theorem pg57 : pg 57 = some ir57 := rfl
@[simp] theorem irraw57 : ir57.raw = false := rfl
@[simp] theorem pg58 : pg 58 = some ir58 := rfl
@[simp] theorem irraw58 : ir58.raw = false := rfl
@[simp] theorem pg59 : pg 59 = some ir59 := rfl
@[simp] theorem irraw59 : ir59.raw = false := rfl
@[simp] theorem pg60 : pg 60 = some ir60 := rfl
@[simp] theorem irraw60 : ir60.raw = false := rfl
@[simp] theorem pg61 : pg 61 = some ir61 := rfl
@[simp] theorem irraw61 : ir61.raw = false := rfl
@[simp] theorem pg62 : pg 62 = some ir62 := rfl
@[simp] theorem irraw62 : ir62.raw = false := rfl
@[simp] theorem pg63 : pg 63 = some ir63 := rfl
@[simp] theorem irraw63 : ir63.raw = false := rfl
@[simp] theorem pg64 : pg 64 = some ir64 := rfl
@[simp] theorem irraw64 : ir64.raw = false := rfl
@[simp] theorem pg88 : pg 88 = some ir88 := rfl
@[simp] theorem irraw88 : ir88.raw = false := rfl
@[simp] theorem pg89 : pg 89 = some ir89 := rfl
@[simp] theorem irraw89 : ir89.raw = false := rfl
@[simp] theorem pg90 : pg 90 = some ir90 := rfl
@[simp] theorem irraw90 : ir90.raw = false := rfl
@[simp] theorem pg91 : pg 91 = some ir91 := rfl
@[simp] theorem irraw91 : ir91.raw = false := rfl
@[simp] theorem pg92 : pg 92 = some ir92 := rfl
@[simp] theorem irraw92 : ir92.raw = false := rfl
@[simp] theorem pg93 : pg 93 = some ir93 := rfl
@[simp] theorem irraw93 : ir93.raw = false := rfl
@[simp] theorem pg94 : pg 94 = some ir94 := rfl
@[simp] theorem irraw94 : ir94.raw = false := rfl
@[simp] theorem pg95 : pg 95 = some ir95 := rfl
@[simp] theorem irraw95 : ir95.raw = false := rfl
@[simp] theorem pg96 : pg 96 = some ir96 := rfl
@[simp] theorem irraw96 : ir96.raw = false := rfl
@[simp] theorem pg97 : pg 97 = some ir97 := rfl
@[simp] theorem irraw97 : ir97.raw = true := rfl
@[simp] theorem pg98 : pg 98 = some ir98 := rfl
@[simp] theorem irraw98 : ir98.raw = false := rfl
@[simp] theorem pg99 : pg 99 = some ir99 := rfl
@[simp] theorem irraw99 : ir99.raw = false := rfl
@[simp] theorem pg100 : pg 100 = some ir100 := rfl
@[simp] theorem irraw100 : ir100.raw = false := rfl
@[simp] theorem pg101 : pg 101 = some ir101 := rfl
@[simp] theorem irraw101 : ir101.raw = false := rfl
@[simp] theorem pg102 : pg 102 = some ir102 := rfl
@[simp] theorem irraw102 : ir102.raw = false := rfl
@[simp] theorem pg103 : pg 103 = some ir103 := rfl
@[simp] theorem irraw103 : ir103.raw = false := rfl
@[simp] theorem pg104 : pg 104 = some ir104 := rfl
@[simp] theorem irraw104 : ir104.raw = false := rfl
@[simp] theorem pg105 : pg 105 = some ir105 := rfl
@[simp] theorem irraw105 : ir105.raw = false := rfl
@[simp] theorem pg106 : pg 106 = some ir106 := rfl
@[simp] theorem irraw106 : ir106.raw = false := rfl
@[simp] theorem pg107 : pg 107 = some ir107 := rfl
@[simp] theorem irraw107 : ir107.raw = false := rfl
@[simp] theorem pg108 : pg 108 = some ir108 := rfl
@[simp] theorem irraw108 : ir108.raw = false := rfl
@[simp] theorem pg109 : pg 109 = some ir109 := rfl
@[simp] theorem irraw109 : ir109.raw = false := rfl
@[simp] theorem pg135 : pg 135 = some ir135 := rfl
@[simp] theorem irraw135 : ir135.raw = false := rfl
@[simp] theorem pg136 : pg 136 = some ir136 := rfl
@[simp] theorem irraw136 : ir136.raw = false := rfl
@[simp] theorem pg137 : pg 137 = some ir137 := rfl
@[simp] theorem irraw137 : ir137.raw = false := rfl
@[simp] theorem pg138 : pg 138 = some ir138 := rfl
@[simp] theorem irraw138 : ir138.raw = true := rfl
@[simp] theorem pg139 : pg 139 = some ir139 := rfl
@[simp] theorem irraw139 : ir139.raw = false := rfl
@[simp] theorem pg140 : pg 140 = some ir140 := rfl
@[simp] theorem irraw140 : ir140.raw = false := rfl
@[simp] theorem pg141 : pg 141 = some ir141 := rfl
@[simp] theorem irraw141 : ir141.raw = true := rfl
@[simp] theorem pg142 : pg 142 = some ir142 := rfl
@[simp] theorem irraw142 : ir142.raw = true := rfl
@[simp] theorem pg143 : pg 143 = some ir143 := rfl
@[simp] theorem irraw143 : ir143.raw = false := rfl
@[simp] theorem pg144 : pg 144 = some ir144 := rfl
@[simp] theorem irraw144 : ir144.raw = true := rfl
@[simp] theorem pg145 : pg 145 = some ir145 := rfl
@[simp] theorem irraw145 : ir145.raw = false := rfl
@[simp] theorem pg147 : pg 147 = some ir147 := rfl
@[simp] theorem irraw147 : ir147.raw = false := rfl
@[simp] theorem pg164 : pg 164 = some ir164 := rfl
@[simp] theorem irraw164 : ir164.raw = false := rfl
@[simp] theorem pg165 : pg 165 = some ir165 := rfl
@[simp] theorem irraw165 : ir165.raw = false := rfl
@[simp] theorem pg166 : pg 166 = some ir166 := rfl
@[simp] theorem irraw166 : ir166.raw = false := rfl
@[simp] theorem pg167 : pg 167 = some ir167 := rfl
@[simp] theorem irraw167 : ir167.raw = false := rfl
@[simp] theorem pg168 : pg 168 = some ir168 := rfl
@[simp] theorem irraw168 : ir168.raw = false := rfl
@[simp] theorem pg169 : pg 169 = some ir169 := rfl
@[simp] theorem irraw169 : ir169.raw = true := rfl
@[simp] theorem pg178 : pg 178 = some ir178 := rfl
@[simp] theorem irraw178 : ir178.raw = false := rfl
@[simp] theorem pg179 : pg 179 = some ir179 := rfl
@[simp] theorem irraw179 : ir179.raw = false := rfl
@[simp] theorem pg180 : pg 180 = some ir180 := rfl
@[simp] theorem irraw180 : ir180.raw = false := rfl
@[simp] theorem pg181 : pg 181 = some ir181 := rfl
@[simp] theorem irraw181 : ir181.raw = true := rfl
@[simp] theorem pg182 : pg 182 = some ir182 := rfl
@[simp] theorem irraw182 : ir182.raw = false := rfl
@[simp] theorem pg183 : pg 183 = some ir183 := rfl
@[simp] theorem irraw183 : ir183.raw = false := rfl
@[simp] theorem pg184 : pg 184 = some ir184 := rfl
@[simp] theorem irraw184 : ir184.raw = false := rfl
@[simp] theorem pg191 : pg 191 = some ir191 := rfl
@[simp] theorem irraw191 : ir191.raw = false := rfl
@[simp] theorem pg197 : pg 197 = some ir197 := rfl
@[simp] theorem irraw197 : ir197.raw = false := rfl
@[simp] theorem pg198 : pg 198 = some ir198 := rfl
@[simp] theorem irraw198 : ir198.raw = true := rfl
@[simp] theorem pg199 : pg 199 = some ir199 := rfl
@[simp] theorem irraw199 : ir199.raw = true := rfl
end Go.Proofs.Ytopjiafdimoeiaa
