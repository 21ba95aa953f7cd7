/- The program that Am runs: the table of the functions. -/
import Derived.Test.YtlhciedghbmjjaaGreatIr5
set_option linter.all false
namespace Go.Proofs.YtlhciedghbmjjaaGreat
open Go Go.Am Go.Proofs
set_option maxRecDepth 100000
def find:List (Nat × Fun)→Nat→Option Fun
 | [],_=>none
 | (k,g) :: r,f=>if f=k then some g else find r f
theorem find_mem:∀ {l:List (Nat × Fun)} {f:Nat} {g:Fun},find l f=some g→(f,g) ∈ l
 | (k,g') :: r,f,g,h=>by
  simp only [find] at h
  split at h
  ·rename_i e; cases h; subst e; exact List.mem_cons_self
  ·exact List.mem_cons_of_mem _ (find_mem h)
def From (p:Nat × Fun):Prop:=∃ fn fresh raw,Tryz.prog.funcs[p.1]?=some fn∧cFun Tryz.prog fresh raw fn=some p.2
def tbl:List (Nat × Fun):=[(7,ir7),(12,ir12),(13,ir13),(15,ir15),(18,ir18),(19,ir19),(26,ir26),(27,ir27),(28,ir28),(29,ir29),(37,ir37),(38,ir38),(39,ir39),(40,ir40),(41,ir41),(42,ir42),(44,ir44),(47,ir47),(48,ir48),(49,ir49),(53,ir53),(54,ir54),(55,ir55),(56,ir56),(57,ir57),(58,ir58),(59,ir59),(63,ir63),(64,ir64),(65,ir65),(66,ir66),(67,ir67),(68,ir68),(69,ir69),(70,ir70),(71,ir71),(72,ir72),(73,ir73),(74,ir74),(81,ir81),(87,ir87),(88,ir88),(89,ir89),(90,ir90),(91,ir91),(92,ir92),(93,ir93),(94,ir94),(95,ir95),(96,ir96),(98,ir98),(99,ir99),(100,ir100),(107,ir107),(108,ir108),(109,ir109),(110,ir110),(111,ir111),(112,ir112),(113,ir113),(114,ir114),(115,ir115),(123,ir123),(124,ir124),(125,ir125),(126,ir126),(127,ir127),(128,ir128),(129,ir129),(130,ir130),(133,ir133),(134,ir134),(135,ir135),(136,ir136),(137,ir137),(138,ir138),(139,ir139),(140,ir140),(141,ir141),(143,ir143),(147,ir147),(148,ir148),(149,ir149),(150,ir150),(151,ir151),(152,ir152),(153,ir153),(154,ir154),(157,ir157),(158,ir158),(159,ir159),(160,ir160),(161,ir161),(162,ir162),(163,ir163),(164,ir164),(165,ir165),(166,ir166),(167,ir167),(173,ir173),(174,ir174),(175,ir175),(176,ir176),(177,ir177),(179,ir179),(180,ir180),(181,ir181),(182,ir182),(183,ir183),(185,ir185),(186,ir186),(187,ir187),(188,ir188),(189,ir189),(190,ir190),(191,ir191),(192,ir192),(193,ir193),(195,ir195),(196,ir196),(197,ir197),(198,ir198),(199,ir199),(200,ir200),(201,ir201),(202,ir202),(206,ir206),(207,ir207),(223,ir223),(224,ir224),(225,ir225)]
def pg:Prg:=find tbl
theorem from7:From (7,ir7):=⟨_,false,false,Tryz.func7,by kernel_rfl⟩
theorem from12:From (12,ir12):=⟨_,false,false,Tryz.func12,by kernel_rfl⟩
theorem from13:From (13,ir13):=⟨_,false,false,Tryz.func13,by kernel_rfl⟩
theorem from15:From (15,ir15):=⟨_,false,false,Tryz.func15,by kernel_rfl⟩
theorem from18:From (18,ir18):=⟨_,false,false,Tryz.func18,by kernel_rfl⟩
theorem from19:From (19,ir19):=⟨_,false,false,Tryz.func19,by kernel_rfl⟩
theorem from26:From (26,ir26):=⟨_,false,false,Tryz.func26,by kernel_rfl⟩
theorem from27:From (27,ir27):=⟨_,false,false,Tryz.func27,by kernel_rfl⟩
theorem from28:From (28,ir28):=⟨_,false,false,Tryz.func28,by kernel_rfl⟩
theorem from29:From (29,ir29):=⟨_,false,false,Tryz.func29,by kernel_rfl⟩
theorem from37:From (37,ir37):=⟨_,false,false,Tryz.func37,by kernel_rfl⟩
theorem from38:From (38,ir38):=⟨_,false,false,Tryz.func38,by kernel_rfl⟩
theorem from39:From (39,ir39):=⟨_,false,false,Tryz.func39,by kernel_rfl⟩
theorem from40:From (40,ir40):=⟨_,false,true,Tryz.func40,by kernel_rfl⟩
theorem from41:From (41,ir41):=⟨_,false,true,Tryz.func41,by kernel_rfl⟩
theorem from42:From (42,ir42):=⟨_,false,false,Tryz.func42,by kernel_rfl⟩
theorem from44:From (44,ir44):=⟨_,false,false,Tryz.func44,by kernel_rfl⟩
theorem from47:From (47,ir47):=⟨_,false,true,Tryz.func47,by kernel_rfl⟩
theorem from48:From (48,ir48):=⟨_,false,false,Tryz.func48,by kernel_rfl⟩
theorem from49:From (49,ir49):=⟨_,false,false,Tryz.func49,by kernel_rfl⟩
theorem from53:From (53,ir53):=⟨_,false,false,Tryz.func53,by kernel_rfl⟩
theorem from54:From (54,ir54):=⟨_,false,false,Tryz.func54,by kernel_rfl⟩
theorem from55:From (55,ir55):=⟨_,false,false,Tryz.func55,by kernel_rfl⟩
theorem from56:From (56,ir56):=⟨_,true,false,Tryz.func56,by kernel_rfl⟩
theorem from57:From (57,ir57):=⟨_,false,false,Tryz.func57,by kernel_rfl⟩
theorem from58:From (58,ir58):=⟨_,false,false,Tryz.func58,by kernel_rfl⟩
theorem from59:From (59,ir59):=⟨_,false,false,Tryz.func59,by kernel_rfl⟩
theorem from63:From (63,ir63):=⟨_,false,false,Tryz.func63,by kernel_rfl⟩
theorem from64:From (64,ir64):=⟨_,false,false,Tryz.func64,by kernel_rfl⟩
theorem from65:From (65,ir65):=⟨_,false,false,Tryz.func65,by kernel_rfl⟩
theorem from66:From (66,ir66):=⟨_,false,false,Tryz.func66,by kernel_rfl⟩
theorem from67:From (67,ir67):=⟨_,false,false,Tryz.func67,by kernel_rfl⟩
theorem from68:From (68,ir68):=⟨_,false,true,Tryz.func68,by kernel_rfl⟩
theorem from69:From (69,ir69):=⟨_,false,true,Tryz.func69,by kernel_rfl⟩
theorem from70:From (70,ir70):=⟨_,false,true,Tryz.func70,by kernel_rfl⟩
theorem from71:From (71,ir71):=⟨_,false,true,Tryz.func71,by kernel_rfl⟩
theorem from72:From (72,ir72):=⟨_,true,false,Tryz.func72,by kernel_rfl⟩
theorem from73:From (73,ir73):=⟨_,false,true,Tryz.func73,by kernel_rfl⟩
theorem from74:From (74,ir74):=⟨_,true,true,Tryz.func74,by kernel_rfl⟩
theorem from81:From (81,ir81):=⟨_,false,true,Tryz.func81,by kernel_rfl⟩
theorem from87:From (87,ir87):=⟨_,false,false,Tryz.func87,by kernel_rfl⟩
theorem from88:From (88,ir88):=⟨_,false,false,Tryz.func88,by kernel_rfl⟩
theorem from89:From (89,ir89):=⟨_,false,false,Tryz.func89,by kernel_rfl⟩
theorem from90:From (90,ir90):=⟨_,false,false,Tryz.func90,by kernel_rfl⟩
theorem from91:From (91,ir91):=⟨_,false,false,Tryz.func91,by kernel_rfl⟩
theorem from92:From (92,ir92):=⟨_,true,false,Tryz.func92,by kernel_rfl⟩
theorem from93:From (93,ir93):=⟨_,true,false,Tryz.func93,by kernel_rfl⟩
theorem from94:From (94,ir94):=⟨_,false,true,Tryz.func94,by kernel_rfl⟩
theorem from95:From (95,ir95):=⟨_,false,true,Tryz.func95,by kernel_rfl⟩
theorem from96:From (96,ir96):=⟨_,false,true,Tryz.func96,by kernel_rfl⟩
theorem from98:From (98,ir98):=⟨_,true,true,Tryz.func98,by kernel_rfl⟩
theorem from99:From (99,ir99):=⟨_,false,true,Tryz.func99,by kernel_rfl⟩
theorem from100:From (100,ir100):=⟨_,false,false,Tryz.func100,by kernel_rfl⟩
theorem from107:From (107,ir107):=⟨_,false,false,Tryz.func107,by kernel_rfl⟩
theorem from108:From (108,ir108):=⟨_,false,false,Tryz.func108,by kernel_rfl⟩
theorem from109:From (109,ir109):=⟨_,false,false,Tryz.func109,by kernel_rfl⟩
theorem from110:From (110,ir110):=⟨_,false,false,Tryz.func110,by kernel_rfl⟩
theorem from111:From (111,ir111):=⟨_,false,false,Tryz.func111,by kernel_rfl⟩
theorem from112:From (112,ir112):=⟨_,false,false,Tryz.func112,by kernel_rfl⟩
theorem from113:From (113,ir113):=⟨_,false,false,Tryz.func113,by kernel_rfl⟩
theorem from114:From (114,ir114):=⟨_,false,false,Tryz.func114,by kernel_rfl⟩
theorem from115:From (115,ir115):=⟨_,false,false,Tryz.func115,by kernel_rfl⟩
theorem from123:From (123,ir123):=⟨_,true,false,Tryz.func123,by kernel_rfl⟩
theorem from124:From (124,ir124):=⟨_,false,false,Tryz.func124,by kernel_rfl⟩
theorem from125:From (125,ir125):=⟨_,false,false,Tryz.func125,by kernel_rfl⟩
theorem from126:From (126,ir126):=⟨_,false,false,Tryz.func126,by kernel_rfl⟩
theorem from127:From (127,ir127):=⟨_,true,false,Tryz.func127,by kernel_rfl⟩
theorem from128:From (128,ir128):=⟨_,false,false,Tryz.func128,by kernel_rfl⟩
theorem from129:From (129,ir129):=⟨_,false,false,Tryz.func129,by kernel_rfl⟩
theorem from130:From (130,ir130):=⟨_,false,false,Tryz.func130,by kernel_rfl⟩
theorem from133:From (133,ir133):=⟨_,false,true,Tryz.func133,by kernel_rfl⟩
theorem from134:From (134,ir134):=⟨_,false,true,Tryz.func134,by kernel_rfl⟩
theorem from135:From (135,ir135):=⟨_,false,true,Tryz.func135,by kernel_rfl⟩
theorem from136:From (136,ir136):=⟨_,false,true,Tryz.func136,by kernel_rfl⟩
theorem from137:From (137,ir137):=⟨_,false,true,Tryz.func137,by kernel_rfl⟩
theorem from138:From (138,ir138):=⟨_,false,true,Tryz.func138,by kernel_rfl⟩
theorem from139:From (139,ir139):=⟨_,false,false,Tryz.func139,by kernel_rfl⟩
theorem from140:From (140,ir140):=⟨_,false,true,Tryz.func140,by kernel_rfl⟩
theorem from141:From (141,ir141):=⟨_,false,true,Tryz.func141,by kernel_rfl⟩
theorem from143:From (143,ir143):=⟨_,false,false,Tryz.func143,by kernel_rfl⟩
theorem from147:From (147,ir147):=⟨_,false,false,Tryz.func147,by kernel_rfl⟩
theorem from148:From (148,ir148):=⟨_,false,false,Tryz.func148,by kernel_rfl⟩
theorem from149:From (149,ir149):=⟨_,false,false,Tryz.func149,by kernel_rfl⟩
theorem from150:From (150,ir150):=⟨_,false,false,Tryz.func150,by kernel_rfl⟩
theorem from151:From (151,ir151):=⟨_,false,false,Tryz.func151,by kernel_rfl⟩
theorem from152:From (152,ir152):=⟨_,false,false,Tryz.func152,by kernel_rfl⟩
theorem from153:From (153,ir153):=⟨_,false,false,Tryz.func153,by kernel_rfl⟩
theorem from154:From (154,ir154):=⟨_,false,true,Tryz.func154,by kernel_rfl⟩
theorem from157:From (157,ir157):=⟨_,false,false,Tryz.func157,by kernel_rfl⟩
theorem from158:From (158,ir158):=⟨_,false,true,Tryz.func158,by kernel_rfl⟩
theorem from159:From (159,ir159):=⟨_,false,false,Tryz.func159,by kernel_rfl⟩
theorem from160:From (160,ir160):=⟨_,false,true,Tryz.func160,by kernel_rfl⟩
theorem from161:From (161,ir161):=⟨_,true,true,Tryz.func161,by kernel_rfl⟩
theorem from162:From (162,ir162):=⟨_,false,true,Tryz.func162,by kernel_rfl⟩
theorem from163:From (163,ir163):=⟨_,false,false,Tryz.func163,by kernel_rfl⟩
theorem from164:From (164,ir164):=⟨_,false,true,Tryz.func164,by kernel_rfl⟩
theorem from165:From (165,ir165):=⟨_,false,true,Tryz.func165,by kernel_rfl⟩
theorem from166:From (166,ir166):=⟨_,false,true,Tryz.func166,by kernel_rfl⟩
theorem from167:From (167,ir167):=⟨_,false,false,Tryz.func167,by kernel_rfl⟩
theorem from173:From (173,ir173):=⟨_,false,false,Tryz.func173,by kernel_rfl⟩
theorem from174:From (174,ir174):=⟨_,false,false,Tryz.func174,by kernel_rfl⟩
theorem from175:From (175,ir175):=⟨_,false,true,Tryz.func175,by kernel_rfl⟩
theorem from176:From (176,ir176):=⟨_,false,false,Tryz.func176,by kernel_rfl⟩
theorem from177:From (177,ir177):=⟨_,false,false,Tryz.func177,by kernel_rfl⟩
theorem from179:From (179,ir179):=⟨_,false,true,Tryz.func179,by kernel_rfl⟩
theorem from180:From (180,ir180):=⟨_,false,false,Tryz.func180,by kernel_rfl⟩
theorem from181:From (181,ir181):=⟨_,true,false,Tryz.func181,by kernel_rfl⟩
theorem from182:From (182,ir182):=⟨_,false,true,Tryz.func182,by kernel_rfl⟩
theorem from183:From (183,ir183):=⟨_,false,true,Tryz.func183,by kernel_rfl⟩
theorem from185:From (185,ir185):=⟨_,false,false,Tryz.func185,by kernel_rfl⟩
theorem from186:From (186,ir186):=⟨_,false,false,Tryz.func186,by kernel_rfl⟩
theorem from187:From (187,ir187):=⟨_,false,false,Tryz.func187,by kernel_rfl⟩
theorem from188:From (188,ir188):=⟨_,false,true,Tryz.func188,by kernel_rfl⟩
theorem from189:From (189,ir189):=⟨_,false,false,Tryz.func189,by kernel_rfl⟩
theorem from190:From (190,ir190):=⟨_,false,true,Tryz.func190,by kernel_rfl⟩
theorem from191:From (191,ir191):=⟨_,true,true,Tryz.func191,by kernel_rfl⟩
theorem from192:From (192,ir192):=⟨_,false,false,Tryz.func192,by kernel_rfl⟩
theorem from193:From (193,ir193):=⟨_,false,false,Tryz.func193,by kernel_rfl⟩
theorem from195:From (195,ir195):=⟨_,false,false,Tryz.func195,by kernel_rfl⟩
theorem from196:From (196,ir196):=⟨_,true,false,Tryz.func196,by kernel_rfl⟩
theorem from197:From (197,ir197):=⟨_,false,false,Tryz.func197,by kernel_rfl⟩
theorem from198:From (198,ir198):=⟨_,false,false,Tryz.func198,by kernel_rfl⟩
theorem from199:From (199,ir199):=⟨_,false,false,Tryz.func199,by kernel_rfl⟩
theorem from200:From (200,ir200):=⟨_,false,false,Tryz.func200,by kernel_rfl⟩
theorem from201:From (201,ir201):=⟨_,false,false,Tryz.func201,by kernel_rfl⟩
theorem from202:From (202,ir202):=⟨_,false,false,Tryz.func202,by kernel_rfl⟩
theorem from206:From (206,ir206):=⟨_,true,true,Tryz.func206,by kernel_rfl⟩
theorem from207:From (207,ir207):=⟨_,false,false,Tryz.func207,by kernel_rfl⟩
theorem from223:From (223,ir223):=⟨_,false,true,Tryz.func223,by kernel_rfl⟩
theorem from224:From (224,ir224):=⟨_,false,true,Tryz.func224,by kernel_rfl⟩
theorem from225:From (225,ir225):=⟨_,false,true,Tryz.func225,by kernel_rfl⟩
theorem tbl_from:∀ p ∈ tbl,From p:=by
 intro p hp
 unfold tbl at hp
 simp only [List.mem_cons,List.not_mem_nil,or_false] at hp
 rcases hp with rfl | rfl | rfl | rfl | rfl | rfl | rfl | rfl | rfl | rfl | rfl | rfl | rfl | rfl | rfl | rfl | rfl | rfl | rfl | rfl | rfl | rfl | rfl | rfl | rfl | rfl | rfl | rfl | rfl | rfl | rfl | rfl | rfl | rfl | rfl | rfl | rfl | rfl | rfl | rfl | rfl | rfl | rfl | rfl | rfl | rfl | rfl | rfl | rfl | rfl | rfl | rfl | rfl | rfl | rfl | rfl | rfl | rfl | rfl | rfl | rfl | rfl | rfl | rfl | rfl | rfl | rfl | rfl | rfl | rfl | rfl | rfl | rfl | rfl | rfl | rfl | rfl | rfl | rfl | rfl | rfl | rfl | rfl | rfl | rfl | rfl | rfl | rfl | rfl | rfl | rfl | rfl | rfl | rfl | rfl | rfl | rfl | rfl | rfl | rfl | rfl | rfl | rfl | rfl | rfl | rfl | rfl | rfl | rfl | rfl | rfl | rfl | rfl | rfl | rfl | rfl | rfl | rfl | rfl | rfl | rfl | rfl | rfl | rfl | rfl | rfl | rfl | rfl | rfl | rfl | rfl
 ·exact from7
 ·exact from12
 ·exact from13
 ·exact from15
 ·exact from18
 ·exact from19
 ·exact from26
 ·exact from27
 ·exact from28
 ·exact from29
 ·exact from37
 ·exact from38
 ·exact from39
 ·exact from40
 ·exact from41
 ·exact from42
 ·exact from44
 ·exact from47
 ·exact from48
 ·exact from49
 ·exact from53
 ·exact from54
 ·exact from55
 ·exact from56
 ·exact from57
 ·exact from58
 ·exact from59
 ·exact from63
 ·exact from64
 ·exact from65
 ·exact from66
 ·exact from67
 ·exact from68
 ·exact from69
 ·exact from70
 ·exact from71
 ·exact from72
 ·exact from73
 ·exact from74
 ·exact from81
 ·exact from87
 ·exact from88
 ·exact from89
 ·exact from90
 ·exact from91
 ·exact from92
 ·exact from93
 ·exact from94
 ·exact from95
 ·exact from96
 ·exact from98
 ·exact from99
 ·exact from100
 ·exact from107
 ·exact from108
 ·exact from109
 ·exact from110
 ·exact from111
 ·exact from112
 ·exact from113
 ·exact from114
 ·exact from115
 ·exact from123
 ·exact from124
 ·exact from125
 ·exact from126
 ·exact from127
 ·exact from128
 ·exact from129
 ·exact from130
 ·exact from133
 ·exact from134
 ·exact from135
 ·exact from136
 ·exact from137
 ·exact from138
 ·exact from139
 ·exact from140
 ·exact from141
 ·exact from143
 ·exact from147
 ·exact from148
 ·exact from149
 ·exact from150
 ·exact from151
 ·exact from152
 ·exact from153
 ·exact from154
 ·exact from157
 ·exact from158
 ·exact from159
 ·exact from160
 ·exact from161
 ·exact from162
 ·exact from163
 ·exact from164
 ·exact from165
 ·exact from166
 ·exact from167
 ·exact from173
 ·exact from174
 ·exact from175
 ·exact from176
 ·exact from177
 ·exact from179
 ·exact from180
 ·exact from181
 ·exact from182
 ·exact from183
 ·exact from185
 ·exact from186
 ·exact from187
 ·exact from188
 ·exact from189
 ·exact from190
 ·exact from191
 ·exact from192
 ·exact from193
 ·exact from195
 ·exact from196
 ·exact from197
 ·exact from198
 ·exact from199
 ·exact from200
 ·exact from201
 ·exact from202
 ·exact from206
 ·exact from207
 ·exact from223
 ·exact from224
 ·exact from225
theorem made:∀ f g,pg f=some g→∃ fn fresh raw,Tryz.prog.funcs[f]?=some fn∧cFun Tryz.prog fresh raw fn=some g:=fun f g h=>tbl_from (f,g) (find_mem h)
@[simp] theorem pg7:pg 7=some ir7:=rfl
@[simp] theorem irraw7:ir7.raw=false:=rfl
@[simp] theorem pg12:pg 12=some ir12:=rfl
@[simp] theorem irraw12:ir12.raw=false:=rfl
@[simp] theorem pg13:pg 13=some ir13:=rfl
@[simp] theorem irraw13:ir13.raw=false:=rfl
@[simp] theorem pg15:pg 15=some ir15:=rfl
@[simp] theorem irraw15:ir15.raw=false:=rfl
@[simp] theorem pg18:pg 18=some ir18:=rfl
@[simp] theorem irraw18:ir18.raw=false:=rfl
@[simp] theorem pg19:pg 19=some ir19:=rfl
@[simp] theorem irraw19:ir19.raw=false:=rfl
@[simp] theorem pg26:pg 26=some ir26:=rfl
@[simp] theorem irraw26:ir26.raw=false:=rfl
@[simp] theorem pg27:pg 27=some ir27:=rfl
@[simp] theorem irraw27:ir27.raw=false:=rfl
@[simp] theorem pg28:pg 28=some ir28:=rfl
@[simp] theorem irraw28:ir28.raw=false:=rfl
@[simp] theorem pg29:pg 29=some ir29:=rfl
@[simp] theorem irraw29:ir29.raw=false:=rfl
@[simp] theorem pg37:pg 37=some ir37:=rfl
@[simp] theorem irraw37:ir37.raw=false:=rfl
@[simp] theorem pg38:pg 38=some ir38:=rfl
@[simp] theorem irraw38:ir38.raw=false:=rfl
@[simp] theorem pg39:pg 39=some ir39:=rfl
@[simp] theorem irraw39:ir39.raw=false:=rfl
@[simp] theorem pg40:pg 40=some ir40:=rfl
@[simp] theorem irraw40:ir40.raw=true:=rfl
@[simp] theorem pg41:pg 41=some ir41:=rfl
@[simp] theorem irraw41:ir41.raw=true:=rfl
@[simp] theorem pg42:pg 42=some ir42:=rfl
@[simp] theorem irraw42:ir42.raw=false:=rfl
@[simp] theorem pg44:pg 44=some ir44:=rfl
@[simp] theorem irraw44:ir44.raw=false:=rfl
@[simp] theorem pg47:pg 47=some ir47:=rfl
@[simp] theorem irraw47:ir47.raw=true:=rfl
@[simp] theorem pg48:pg 48=some ir48:=rfl
@[simp] theorem irraw48:ir48.raw=false:=rfl
@[simp] theorem pg49:pg 49=some ir49:=rfl
@[simp] theorem irraw49:ir49.raw=false:=rfl
@[simp] theorem pg53:pg 53=some ir53:=rfl
@[simp] theorem irraw53:ir53.raw=false:=rfl
@[simp] theorem pg54:pg 54=some ir54:=rfl
@[simp] theorem irraw54:ir54.raw=false:=rfl
@[simp] theorem pg55:pg 55=some ir55:=rfl
@[simp] theorem irraw55:ir55.raw=false:=rfl
@[simp] theorem pg56:pg 56=some ir56:=rfl
@[simp] theorem irraw56:ir56.raw=false:=rfl
@[simp] theorem pg57:pg 57=some ir57:=rfl
@[simp] theorem irraw57:ir57.raw=false:=rfl
@[simp] theorem pg58:pg 58=some ir58:=rfl
@[simp] theorem irraw58:ir58.raw=false:=rfl
@[simp] theorem pg59:pg 59=some ir59:=rfl
@[simp] theorem irraw59:ir59.raw=false:=rfl
@[simp] theorem pg63:pg 63=some ir63:=rfl
@[simp] theorem irraw63:ir63.raw=false:=rfl
@[simp] theorem pg64:pg 64=some ir64:=rfl
@[simp] theorem irraw64:ir64.raw=false:=rfl
@[simp] theorem pg65:pg 65=some ir65:=rfl
@[simp] theorem irraw65:ir65.raw=false:=rfl
@[simp] theorem pg66:pg 66=some ir66:=rfl
@[simp] theorem irraw66:ir66.raw=false:=rfl
@[simp] theorem pg67:pg 67=some ir67:=rfl
@[simp] theorem irraw67:ir67.raw=false:=rfl
@[simp] theorem pg68:pg 68=some ir68:=rfl
@[simp] theorem irraw68:ir68.raw=true:=rfl
@[simp] theorem pg69:pg 69=some ir69:=rfl
@[simp] theorem irraw69:ir69.raw=true:=rfl
@[simp] theorem pg70:pg 70=some ir70:=rfl
@[simp] theorem irraw70:ir70.raw=true:=rfl
@[simp] theorem pg71:pg 71=some ir71:=rfl
@[simp] theorem irraw71:ir71.raw=true:=rfl
@[simp] theorem pg72:pg 72=some ir72:=rfl
@[simp] theorem irraw72:ir72.raw=false:=rfl
@[simp] theorem pg73:pg 73=some ir73:=rfl
@[simp] theorem irraw73:ir73.raw=true:=rfl
@[simp] theorem pg74:pg 74=some ir74:=rfl
@[simp] theorem irraw74:ir74.raw=true:=rfl
@[simp] theorem pg81:pg 81=some ir81:=rfl
@[simp] theorem irraw81:ir81.raw=true:=rfl
@[simp] theorem pg87:pg 87=some ir87:=rfl
@[simp] theorem irraw87:ir87.raw=false:=rfl
@[simp] theorem pg88:pg 88=some ir88:=rfl
@[simp] theorem irraw88:ir88.raw=false:=rfl
@[simp] theorem pg89:pg 89=some ir89:=rfl
@[simp] theorem irraw89:ir89.raw=false:=rfl
@[simp] theorem pg90:pg 90=some ir90:=rfl
@[simp] theorem irraw90:ir90.raw=false:=rfl
@[simp] theorem pg91:pg 91=some ir91:=rfl
@[simp] theorem irraw91:ir91.raw=false:=rfl
@[simp] theorem pg92:pg 92=some ir92:=rfl
@[simp] theorem irraw92:ir92.raw=false:=rfl
@[simp] theorem pg93:pg 93=some ir93:=rfl
@[simp] theorem irraw93:ir93.raw=false:=rfl
@[simp] theorem pg94:pg 94=some ir94:=rfl
@[simp] theorem irraw94:ir94.raw=true:=rfl
@[simp] theorem pg95:pg 95=some ir95:=rfl
@[simp] theorem irraw95:ir95.raw=true:=rfl
@[simp] theorem pg96:pg 96=some ir96:=rfl
@[simp] theorem irraw96:ir96.raw=true:=rfl
@[simp] theorem pg98:pg 98=some ir98:=rfl
@[simp] theorem irraw98:ir98.raw=true:=rfl
@[simp] theorem pg99:pg 99=some ir99:=rfl
@[simp] theorem irraw99:ir99.raw=true:=rfl
@[simp] theorem pg100:pg 100=some ir100:=rfl
@[simp] theorem irraw100:ir100.raw=false:=rfl
@[simp] theorem pg107:pg 107=some ir107:=rfl
@[simp] theorem irraw107:ir107.raw=false:=rfl
@[simp] theorem pg108:pg 108=some ir108:=rfl
@[simp] theorem irraw108:ir108.raw=false:=rfl
@[simp] theorem pg109:pg 109=some ir109:=rfl
@[simp] theorem irraw109:ir109.raw=false:=rfl
@[simp] theorem pg110:pg 110=some ir110:=rfl
@[simp] theorem irraw110:ir110.raw=false:=rfl
@[simp] theorem pg111:pg 111=some ir111:=rfl
@[simp] theorem irraw111:ir111.raw=false:=rfl
@[simp] theorem pg112:pg 112=some ir112:=rfl
@[simp] theorem irraw112:ir112.raw=false:=rfl
@[simp] theorem pg113:pg 113=some ir113:=rfl
@[simp] theorem irraw113:ir113.raw=false:=rfl
@[simp] theorem pg114:pg 114=some ir114:=rfl
@[simp] theorem irraw114:ir114.raw=false:=rfl
@[simp] theorem pg115:pg 115=some ir115:=rfl
@[simp] theorem irraw115:ir115.raw=false:=rfl
@[simp] theorem pg123:pg 123=some ir123:=rfl
@[simp] theorem irraw123:ir123.raw=false:=rfl
@[simp] theorem pg124:pg 124=some ir124:=rfl
@[simp] theorem irraw124:ir124.raw=false:=rfl
@[simp] theorem pg125:pg 125=some ir125:=rfl
@[simp] theorem irraw125:ir125.raw=false:=rfl
@[simp] theorem pg126:pg 126=some ir126:=rfl
@[simp] theorem irraw126:ir126.raw=false:=rfl
@[simp] theorem pg127:pg 127=some ir127:=rfl
@[simp] theorem irraw127:ir127.raw=false:=rfl
@[simp] theorem pg128:pg 128=some ir128:=rfl
@[simp] theorem irraw128:ir128.raw=false:=rfl
@[simp] theorem pg129:pg 129=some ir129:=rfl
@[simp] theorem irraw129:ir129.raw=false:=rfl
@[simp] theorem pg130:pg 130=some ir130:=rfl
@[simp] theorem irraw130:ir130.raw=false:=rfl
@[simp] theorem pg133:pg 133=some ir133:=rfl
@[simp] theorem irraw133:ir133.raw=true:=rfl
@[simp] theorem pg134:pg 134=some ir134:=rfl
@[simp] theorem irraw134:ir134.raw=true:=rfl
@[simp] theorem pg135:pg 135=some ir135:=rfl
@[simp] theorem irraw135:ir135.raw=true:=rfl
@[simp] theorem pg136:pg 136=some ir136:=rfl
@[simp] theorem irraw136:ir136.raw=true:=rfl
@[simp] theorem pg137:pg 137=some ir137:=rfl
@[simp] theorem irraw137:ir137.raw=true:=rfl
@[simp] theorem pg138:pg 138=some ir138:=rfl
@[simp] theorem irraw138:ir138.raw=true:=rfl
@[simp] theorem pg139:pg 139=some ir139:=rfl
@[simp] theorem irraw139:ir139.raw=false:=rfl
@[simp] theorem pg140:pg 140=some ir140:=rfl
@[simp] theorem irraw140:ir140.raw=true:=rfl
@[simp] theorem pg141:pg 141=some ir141:=rfl
@[simp] theorem irraw141:ir141.raw=true:=rfl
@[simp] theorem pg143:pg 143=some ir143:=rfl
@[simp] theorem irraw143:ir143.raw=false:=rfl
@[simp] theorem pg147:pg 147=some ir147:=rfl
@[simp] theorem irraw147:ir147.raw=false:=rfl
@[simp] theorem pg148:pg 148=some ir148:=rfl
@[simp] theorem irraw148:ir148.raw=false:=rfl
@[simp] theorem pg149:pg 149=some ir149:=rfl
@[simp] theorem irraw149:ir149.raw=false:=rfl
@[simp] theorem pg150:pg 150=some ir150:=rfl
@[simp] theorem irraw150:ir150.raw=false:=rfl
@[simp] theorem pg151:pg 151=some ir151:=rfl
@[simp] theorem irraw151:ir151.raw=false:=rfl
@[simp] theorem pg152:pg 152=some ir152:=rfl
@[simp] theorem irraw152:ir152.raw=false:=rfl
@[simp] theorem pg153:pg 153=some ir153:=rfl
@[simp] theorem irraw153:ir153.raw=false:=rfl
@[simp] theorem pg154:pg 154=some ir154:=rfl
@[simp] theorem irraw154:ir154.raw=true:=rfl
@[simp] theorem pg157:pg 157=some ir157:=rfl
@[simp] theorem irraw157:ir157.raw=false:=rfl
@[simp] theorem pg158:pg 158=some ir158:=rfl
@[simp] theorem irraw158:ir158.raw=true:=rfl
@[simp] theorem pg159:pg 159=some ir159:=rfl
@[simp] theorem irraw159:ir159.raw=false:=rfl
@[simp] theorem pg160:pg 160=some ir160:=rfl
@[simp] theorem irraw160:ir160.raw=true:=rfl
@[simp] theorem pg161:pg 161=some ir161:=rfl
@[simp] theorem irraw161:ir161.raw=true:=rfl
@[simp] theorem pg162:pg 162=some ir162:=rfl
@[simp] theorem irraw162:ir162.raw=true:=rfl
@[simp] theorem pg163:pg 163=some ir163:=rfl
@[simp] theorem irraw163:ir163.raw=false:=rfl
@[simp] theorem pg164:pg 164=some ir164:=rfl
@[simp] theorem irraw164:ir164.raw=true:=rfl
@[simp] theorem pg165:pg 165=some ir165:=rfl
@[simp] theorem irraw165:ir165.raw=true:=rfl
@[simp] theorem pg166:pg 166=some ir166:=rfl
@[simp] theorem irraw166:ir166.raw=true:=rfl
@[simp] theorem pg167:pg 167=some ir167:=rfl
@[simp] theorem irraw167:ir167.raw=false:=rfl
@[simp] theorem pg173:pg 173=some ir173:=rfl
@[simp] theorem irraw173:ir173.raw=false:=rfl
@[simp] theorem pg174:pg 174=some ir174:=rfl
@[simp] theorem irraw174:ir174.raw=false:=rfl
@[simp] theorem pg175:pg 175=some ir175:=rfl
@[simp] theorem irraw175:ir175.raw=true:=rfl
@[simp] theorem pg176:pg 176=some ir176:=rfl
@[simp] theorem irraw176:ir176.raw=false:=rfl
@[simp] theorem pg177:pg 177=some ir177:=rfl
@[simp] theorem irraw177:ir177.raw=false:=rfl
@[simp] theorem pg179:pg 179=some ir179:=rfl
@[simp] theorem irraw179:ir179.raw=true:=rfl
@[simp] theorem pg180:pg 180=some ir180:=rfl
@[simp] theorem irraw180:ir180.raw=false:=rfl
@[simp] theorem pg181:pg 181=some ir181:=rfl
@[simp] theorem irraw181:ir181.raw=false:=rfl
@[simp] theorem pg182:pg 182=some ir182:=rfl
@[simp] theorem irraw182:ir182.raw=true:=rfl
@[simp] theorem pg183:pg 183=some ir183:=rfl
@[simp] theorem irraw183:ir183.raw=true:=rfl
@[simp] theorem pg185:pg 185=some ir185:=rfl
@[simp] theorem irraw185:ir185.raw=false:=rfl
@[simp] theorem pg186:pg 186=some ir186:=rfl
@[simp] theorem irraw186:ir186.raw=false:=rfl
@[simp] theorem pg187:pg 187=some ir187:=rfl
@[simp] theorem irraw187:ir187.raw=false:=rfl
@[simp] theorem pg188:pg 188=some ir188:=rfl
@[simp] theorem irraw188:ir188.raw=true:=rfl
@[simp] theorem pg189:pg 189=some ir189:=rfl
@[simp] theorem irraw189:ir189.raw=false:=rfl
@[simp] theorem pg190:pg 190=some ir190:=rfl
@[simp] theorem irraw190:ir190.raw=true:=rfl
@[simp] theorem pg191:pg 191=some ir191:=rfl
@[simp] theorem irraw191:ir191.raw=true:=rfl
@[simp] theorem pg192:pg 192=some ir192:=rfl
@[simp] theorem irraw192:ir192.raw=false:=rfl
@[simp] theorem pg193:pg 193=some ir193:=rfl
@[simp] theorem irraw193:ir193.raw=false:=rfl
@[simp] theorem pg195:pg 195=some ir195:=rfl
@[simp] theorem irraw195:ir195.raw=false:=rfl
@[simp] theorem pg196:pg 196=some ir196:=rfl
@[simp] theorem irraw196:ir196.raw=false:=rfl
@[simp] theorem pg197:pg 197=some ir197:=rfl
@[simp] theorem irraw197:ir197.raw=false:=rfl
@[simp] theorem pg198:pg 198=some ir198:=rfl
@[simp] theorem irraw198:ir198.raw=false:=rfl
@[simp] theorem pg199:pg 199=some ir199:=rfl
@[simp] theorem irraw199:ir199.raw=false:=rfl
@[simp] theorem pg200:pg 200=some ir200:=rfl
@[simp] theorem irraw200:ir200.raw=false:=rfl
@[simp] theorem pg201:pg 201=some ir201:=rfl
@[simp] theorem irraw201:ir201.raw=false:=rfl
@[simp] theorem pg202:pg 202=some ir202:=rfl
@[simp] theorem irraw202:ir202.raw=false:=rfl
@[simp] theorem pg206:pg 206=some ir206:=rfl
@[simp] theorem irraw206:ir206.raw=true:=rfl
@[simp] theorem pg207:pg 207=some ir207:=rfl
@[simp] theorem irraw207:ir207.raw=false:=rfl
@[simp] theorem pg223:pg 223=some ir223:=rfl
@[simp] theorem irraw223:ir223.raw=true:=rfl
@[simp] theorem pg224:pg 224=some ir224:=rfl
@[simp] theorem irraw224:ir224.raw=true:=rfl
@[simp] theorem pg225:pg 225=some ir225:=rfl
@[simp] theorem irraw225:ir225.raw=true:=rfl
end Go.Proofs.YtlhciedghbmjjaaGreat
