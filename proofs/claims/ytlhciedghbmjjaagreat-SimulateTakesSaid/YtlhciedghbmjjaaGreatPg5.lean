/- The program that Am runs: the table of the functions. -/
import Derived.Test.YtlhciedghbmjjaaGreatIr5
set_option linter.all false
namespace Go.Proofs.YtlhciedghbmjjaaGreat
open Go Go.Am Go.Proofs
set_option maxRecDepth 100000
def find:List (Nat × Fun)→Nat→Option Fun
 | [],_=>none
 | (k,g) :: r,f=>if f=k then some g else find r f
theorem q5n:∀ {l:List (Nat × Fun)} {f:Nat} {g:Fun},find l f=some g→(f,g) ∈ l
 | (k,g') :: r,f,g,h=>by
  simp only [find] at h
  split at h
  ·rename_i e; cases h; subst e; exact List.mem_cons_self
  ·exact List.mem_cons_of_mem _ (q5n h)
def qbf (p:Nat × Fun):Prop:=∃ fn fresh raw,Tryz.prog.funcs[p.1]?=some fn∧zfw Tryz.prog fresh raw fn=some p.2
def tbl:List (Nat × Fun):=[(5,ir5),(9,ir9),(10,ir10),(11,ir11),(12,ir12),(13,ir13),(15,ir15),(16,ir16),(19,ir19),(23,ir23),(24,ir24),(29,ir29),(35,ir35),(36,ir36),(37,ir37),(38,ir38),(39,ir39),(40,ir40),(41,ir41),(42,ir42),(44,ir44),(45,ir45),(46,ir46),(47,ir47),(48,ir48),(49,ir49),(51,ir51),(53,ir53),(54,ir54),(55,ir55),(56,ir56),(57,ir57),(58,ir58),(59,ir59),(62,ir62),(63,ir63),(64,ir64),(65,ir65),(66,ir66),(67,ir67),(68,ir68),(69,ir69),(70,ir70),(71,ir71),(72,ir72),(73,ir73),(74,ir74),(81,ir81),(82,ir82),(83,ir83),(84,ir84),(85,ir85),(87,ir87),(88,ir88),(89,ir89),(90,ir90),(91,ir91),(92,ir92),(93,ir93),(94,ir94),(95,ir95),(96,ir96),(97,ir97),(98,ir98),(99,ir99),(100,ir100),(107,ir107),(108,ir108),(109,ir109),(110,ir110),(111,ir111),(112,ir112),(113,ir113),(114,ir114),(115,ir115),(116,ir116),(117,ir117),(118,ir118),(119,ir119),(120,ir120),(121,ir121),(122,ir122),(123,ir123),(124,ir124),(125,ir125),(126,ir126),(127,ir127),(128,ir128),(129,ir129),(130,ir130),(131,ir131),(132,ir132),(133,ir133),(134,ir134),(135,ir135),(136,ir136),(137,ir137),(138,ir138),(139,ir139),(140,ir140),(141,ir141),(143,ir143),(147,ir147),(148,ir148),(149,ir149),(150,ir150),(151,ir151),(152,ir152),(153,ir153),(154,ir154),(155,ir155),(156,ir156),(157,ir157),(158,ir158),(159,ir159),(160,ir160),(161,ir161),(162,ir162),(163,ir163),(164,ir164),(165,ir165),(166,ir166),(167,ir167),(173,ir173),(174,ir174),(175,ir175),(176,ir176),(177,ir177),(178,ir178),(179,ir179),(180,ir180),(181,ir181),(182,ir182),(183,ir183),(185,ir185),(186,ir186),(187,ir187),(188,ir188),(189,ir189),(190,ir190),(191,ir191),(192,ir192),(193,ir193),(195,ir195),(196,ir196),(197,ir197),(198,ir198),(199,ir199),(200,ir200),(201,ir201),(202,ir202),(206,ir206),(207,ir207),(223,ir223),(224,ir224),(225,ir225)]
def pg:Prg:=find tbl
theorem z6c:qbf (5,ir5):=⟨_,false,false,Tryz.func5,by kernel_rfl⟩
theorem z3d:qbf (9,ir9):=⟨_,false,false,Tryz.func9,by kernel_rfl⟩
theorem ztm:qbf (10,ir10):=⟨_,false,false,Tryz.func10,by kernel_rfl⟩
theorem zul:qbf (11,ir11):=⟨_,false,false,Tryz.func11,by kernel_rfl⟩
theorem zsn:qbf (12,ir12):=⟨_,false,false,Tryz.func12,by kernel_rfl⟩
theorem zvz:qbf (13,ir13):=⟨_,false,false,Tryz.func13,by kernel_rfl⟩
theorem zxa:qbf (15,ir15):=⟨_,false,false,Tryz.func15,by kernel_rfl⟩
theorem zwq:qbf (16,ir16):=⟨_,false,false,Tryz.func16,by kernel_rfl⟩
theorem zvp:qbf (19,ir19):=⟨_,false,false,Tryz.func19,by kernel_rfl⟩
theorem zvd:qbf (23,ir23):=⟨_,false,false,Tryz.func23,by kernel_rfl⟩
theorem zsb:qbf (24,ir24):=⟨_,false,false,Tryz.func24,by kernel_rfl⟩
theorem zwg:qbf (29,ir29):=⟨_,false,false,Tryz.func29,by kernel_rfl⟩
theorem zvw:qbf (35,ir35):=⟨_,false,false,Tryz.func35,by kernel_rfl⟩
theorem zti:qbf (36,ir36):=⟨_,false,false,Tryz.func36,by kernel_rfl⟩
theorem zui:qbf (37,ir37):=⟨_,false,false,Tryz.func37,by kernel_rfl⟩
theorem ztv:qbf (38,ir38):=⟨_,false,false,Tryz.func38,by kernel_rfl⟩
theorem zth:qbf (39,ir39):=⟨_,false,false,Tryz.func39,by kernel_rfl⟩
theorem zvk:qbf (40,ir40):=⟨_,false,true,Tryz.func40,by kernel_rfl⟩
theorem zut:qbf (41,ir41):=⟨_,false,true,Tryz.func41,by kernel_rfl⟩
theorem zuy:qbf (42,ir42):=⟨_,false,false,Tryz.func42,by kernel_rfl⟩
theorem zwx:qbf (44,ir44):=⟨_,false,false,Tryz.func44,by kernel_rfl⟩
theorem zst:qbf (45,ir45):=⟨_,false,false,Tryz.func45,by kernel_rfl⟩
theorem zwj:qbf (46,ir46):=⟨_,false,false,Tryz.func46,by kernel_rfl⟩
theorem zxe:qbf (47,ir47):=⟨_,false,true,Tryz.func47,by kernel_rfl⟩
theorem zwc:qbf (48,ir48):=⟨_,false,false,Tryz.func48,by kernel_rfl⟩
theorem zsg:qbf (49,ir49):=⟨_,false,false,Tryz.func49,by kernel_rfl⟩
theorem zud:qbf (51,ir51):=⟨_,false,false,Tryz.func51,by kernel_rfl⟩
theorem ztp:qbf (53,ir53):=⟨_,false,false,Tryz.func53,by kernel_rfl⟩
theorem ztb:qbf (54,ir54):=⟨_,false,false,Tryz.func54,by kernel_rfl⟩
theorem zxd:qbf (55,ir55):=⟨_,false,false,Tryz.func55,by kernel_rfl⟩
theorem zxc:qbf (56,ir56):=⟨_,true,false,Tryz.func56,by kernel_rfl⟩
theorem zsx:qbf (57,ir57):=⟨_,false,false,Tryz.func57,by kernel_rfl⟩
theorem ztz:qbf (58,ir58):=⟨_,false,false,Tryz.func58,by kernel_rfl⟩
theorem ztg:qbf (59,ir59):=⟨_,false,false,Tryz.func59,by kernel_rfl⟩
theorem zrw:qbf (62,ir62):=⟨_,false,false,Tryz.func62,by kernel_rfl⟩
theorem zsy:qbf (63,ir63):=⟨_,false,false,Tryz.func63,by kernel_rfl⟩
theorem zsc:qbf (64,ir64):=⟨_,false,false,Tryz.func64,by kernel_rfl⟩
theorem zwb:qbf (65,ir65):=⟨_,false,false,Tryz.func65,by kernel_rfl⟩
theorem zsa:qbf (66,ir66):=⟨_,false,false,Tryz.func66,by kernel_rfl⟩
theorem zts:qbf (67,ir67):=⟨_,false,false,Tryz.func67,by kernel_rfl⟩
theorem zwo:qbf (68,ir68):=⟨_,false,true,Tryz.func68,by kernel_rfl⟩
theorem ztd:qbf (69,ir69):=⟨_,false,true,Tryz.func69,by kernel_rfl⟩
theorem zvm:qbf (70,ir70):=⟨_,false,true,Tryz.func70,by kernel_rfl⟩
theorem ztr:qbf (71,ir71):=⟨_,false,true,Tryz.func71,by kernel_rfl⟩
theorem zrx:qbf (72,ir72):=⟨_,true,false,Tryz.func72,by kernel_rfl⟩
theorem zur:qbf (73,ir73):=⟨_,false,true,Tryz.func73,by kernel_rfl⟩
theorem zto:qbf (74,ir74):=⟨_,true,true,Tryz.func74,by kernel_rfl⟩
theorem zws:qbf (81,ir81):=⟨_,false,true,Tryz.func81,by kernel_rfl⟩
theorem zsu:qbf (82,ir82):=⟨_,false,false,Tryz.func82,by kernel_rfl⟩
theorem zvu:qbf (83,ir83):=⟨_,false,false,Tryz.func83,by kernel_rfl⟩
theorem zry:qbf (84,ir84):=⟨_,false,false,Tryz.func84,by kernel_rfl⟩
theorem zsr:qbf (85,ir85):=⟨_,false,false,Tryz.func85,by kernel_rfl⟩
theorem zum:qbf (87,ir87):=⟨_,false,false,Tryz.func87,by kernel_rfl⟩
theorem zvt:qbf (88,ir88):=⟨_,false,false,Tryz.func88,by kernel_rfl⟩
theorem zxb:qbf (89,ir89):=⟨_,false,false,Tryz.func89,by kernel_rfl⟩
theorem zwf:qbf (90,ir90):=⟨_,false,false,Tryz.func90,by kernel_rfl⟩
theorem zuj:qbf (91,ir91):=⟨_,false,false,Tryz.func91,by kernel_rfl⟩
theorem zvv:qbf (92,ir92):=⟨_,true,false,Tryz.func92,by kernel_rfl⟩
theorem zwd:qbf (93,ir93):=⟨_,true,false,Tryz.func93,by kernel_rfl⟩
theorem zvh:qbf (94,ir94):=⟨_,false,true,Tryz.func94,by kernel_rfl⟩
theorem zvf:qbf (95,ir95):=⟨_,false,true,Tryz.func95,by kernel_rfl⟩
theorem zxf:qbf (96,ir96):=⟨_,false,true,Tryz.func96,by kernel_rfl⟩
theorem ztl:qbf (97,ir97):=⟨_,false,false,Tryz.func97,by kernel_rfl⟩
theorem zwz:qbf (98,ir98):=⟨_,true,true,Tryz.func98,by kernel_rfl⟩
theorem zvs:qbf (99,ir99):=⟨_,false,true,Tryz.func99,by kernel_rfl⟩
theorem zqk:qbf (100,ir100):=⟨_,false,false,Tryz.func100,by kernel_rfl⟩
theorem zoc:qbf (107,ir107):=⟨_,false,false,Tryz.func107,by kernel_rfl⟩
theorem zol:qbf (108,ir108):=⟨_,false,false,Tryz.func108,by kernel_rfl⟩
theorem zqw:qbf (109,ir109):=⟨_,false,false,Tryz.func109,by kernel_rfl⟩
theorem zra:qbf (110,ir110):=⟨_,false,false,Tryz.func110,by kernel_rfl⟩
theorem znf:qbf (111,ir111):=⟨_,false,false,Tryz.func111,by kernel_rfl⟩
theorem zlo:qbf (112,ir112):=⟨_,false,false,Tryz.func112,by kernel_rfl⟩
theorem zpl:qbf (113,ir113):=⟨_,false,false,Tryz.func113,by kernel_rfl⟩
theorem zoj:qbf (114,ir114):=⟨_,false,false,Tryz.func114,by kernel_rfl⟩
theorem zow:qbf (115,ir115):=⟨_,false,false,Tryz.func115,by kernel_rfl⟩
theorem zqv:qbf (116,ir116):=⟨_,false,false,Tryz.func116,by kernel_rfl⟩
theorem zkm:qbf (117,ir117):=⟨_,false,false,Tryz.func117,by kernel_rfl⟩
theorem zlw:qbf (118,ir118):=⟨_,false,false,Tryz.func118,by kernel_rfl⟩
theorem zmp:qbf (119,ir119):=⟨_,false,false,Tryz.func119,by kernel_rfl⟩
theorem zrf:qbf (120,ir120):=⟨_,false,false,Tryz.func120,by kernel_rfl⟩
theorem zmg:qbf (121,ir121):=⟨_,false,false,Tryz.func121,by kernel_rfl⟩
theorem zma:qbf (122,ir122):=⟨_,false,false,Tryz.func122,by kernel_rfl⟩
theorem znv:qbf (123,ir123):=⟨_,true,false,Tryz.func123,by kernel_rfl⟩
theorem zpc:qbf (124,ir124):=⟨_,false,false,Tryz.func124,by kernel_rfl⟩
theorem zkk:qbf (125,ir125):=⟨_,false,false,Tryz.func125,by kernel_rfl⟩
theorem zpd:qbf (126,ir126):=⟨_,false,false,Tryz.func126,by kernel_rfl⟩
theorem zkt:qbf (127,ir127):=⟨_,true,false,Tryz.func127,by kernel_rfl⟩
theorem zlb:qbf (128,ir128):=⟨_,false,false,Tryz.func128,by kernel_rfl⟩
theorem zny:qbf (129,ir129):=⟨_,false,false,Tryz.func129,by kernel_rfl⟩
theorem zki:qbf (130,ir130):=⟨_,false,false,Tryz.func130,by kernel_rfl⟩
theorem zrg:qbf (131,ir131):=⟨_,false,false,Tryz.func131,by kernel_rfl⟩
theorem zkv:qbf (132,ir132):=⟨_,false,false,Tryz.func132,by kernel_rfl⟩
theorem zli:qbf (133,ir133):=⟨_,false,true,Tryz.func133,by kernel_rfl⟩
theorem zpe:qbf (134,ir134):=⟨_,false,true,Tryz.func134,by kernel_rfl⟩
theorem zkf:qbf (135,ir135):=⟨_,false,true,Tryz.func135,by kernel_rfl⟩
theorem zkh:qbf (136,ir136):=⟨_,false,true,Tryz.func136,by kernel_rfl⟩
theorem znl:qbf (137,ir137):=⟨_,false,true,Tryz.func137,by kernel_rfl⟩
theorem zou:qbf (138,ir138):=⟨_,false,true,Tryz.func138,by kernel_rfl⟩
theorem zre:qbf (139,ir139):=⟨_,false,false,Tryz.func139,by kernel_rfl⟩
theorem zky:qbf (140,ir140):=⟨_,false,true,Tryz.func140,by kernel_rfl⟩
theorem znw:qbf (141,ir141):=⟨_,false,true,Tryz.func141,by kernel_rfl⟩
theorem zqj:qbf (143,ir143):=⟨_,false,false,Tryz.func143,by kernel_rfl⟩
theorem zph:qbf (147,ir147):=⟨_,false,false,Tryz.func147,by kernel_rfl⟩
theorem zpk:qbf (148,ir148):=⟨_,false,false,Tryz.func148,by kernel_rfl⟩
theorem zog:qbf (149,ir149):=⟨_,false,false,Tryz.func149,by kernel_rfl⟩
theorem zmt:qbf (150,ir150):=⟨_,false,false,Tryz.func150,by kernel_rfl⟩
theorem zlp:qbf (151,ir151):=⟨_,false,false,Tryz.func151,by kernel_rfl⟩
theorem zqq:qbf (152,ir152):=⟨_,false,false,Tryz.func152,by kernel_rfl⟩
theorem zni:qbf (153,ir153):=⟨_,false,false,Tryz.func153,by kernel_rfl⟩
theorem zpr:qbf (154,ir154):=⟨_,false,true,Tryz.func154,by kernel_rfl⟩
theorem zlk:qbf (155,ir155):=⟨_,false,false,Tryz.func155,by kernel_rfl⟩
theorem zpf:qbf (156,ir156):=⟨_,false,false,Tryz.func156,by kernel_rfl⟩
theorem zon:qbf (157,ir157):=⟨_,false,false,Tryz.func157,by kernel_rfl⟩
theorem zqy:qbf (158,ir158):=⟨_,false,true,Tryz.func158,by kernel_rfl⟩
theorem znq:qbf (159,ir159):=⟨_,false,false,Tryz.func159,by kernel_rfl⟩
theorem zko:qbf (160,ir160):=⟨_,false,true,Tryz.func160,by kernel_rfl⟩
theorem zlx:qbf (161,ir161):=⟨_,true,true,Tryz.func161,by kernel_rfl⟩
theorem zkq:qbf (162,ir162):=⟨_,false,true,Tryz.func162,by kernel_rfl⟩
theorem zoy:qbf (163,ir163):=⟨_,false,false,Tryz.func163,by kernel_rfl⟩
theorem zmk:qbf (164,ir164):=⟨_,false,true,Tryz.func164,by kernel_rfl⟩
theorem zlg:qbf (165,ir165):=⟨_,false,true,Tryz.func165,by kernel_rfl⟩
theorem zpn:qbf (166,ir166):=⟨_,false,true,Tryz.func166,by kernel_rfl⟩
theorem zpp:qbf (167,ir167):=⟨_,false,false,Tryz.func167,by kernel_rfl⟩
theorem zls:qbf (173,ir173):=⟨_,false,false,Tryz.func173,by kernel_rfl⟩
theorem zlf:qbf (174,ir174):=⟨_,false,false,Tryz.func174,by kernel_rfl⟩
theorem zpj:qbf (175,ir175):=⟨_,false,true,Tryz.func175,by kernel_rfl⟩
theorem zpb:qbf (176,ir176):=⟨_,false,false,Tryz.func176,by kernel_rfl⟩
theorem zps:qbf (177,ir177):=⟨_,false,false,Tryz.func177,by kernel_rfl⟩
theorem zpv:qbf (178,ir178):=⟨_,false,false,Tryz.func178,by kernel_rfl⟩
theorem zmz:qbf (179,ir179):=⟨_,false,true,Tryz.func179,by kernel_rfl⟩
theorem zqm:qbf (180,ir180):=⟨_,false,false,Tryz.func180,by kernel_rfl⟩
theorem zlm:qbf (181,ir181):=⟨_,true,false,Tryz.func181,by kernel_rfl⟩
theorem zmf:qbf (182,ir182):=⟨_,false,true,Tryz.func182,by kernel_rfl⟩
theorem zms:qbf (183,ir183):=⟨_,false,true,Tryz.func183,by kernel_rfl⟩
theorem zqh:qbf (185,ir185):=⟨_,false,false,Tryz.func185,by kernel_rfl⟩
theorem zpi:qbf (186,ir186):=⟨_,false,false,Tryz.func186,by kernel_rfl⟩
theorem zpw:qbf (187,ir187):=⟨_,false,false,Tryz.func187,by kernel_rfl⟩
theorem zkj:qbf (188,ir188):=⟨_,false,true,Tryz.func188,by kernel_rfl⟩
theorem zlu:qbf (189,ir189):=⟨_,false,false,Tryz.func189,by kernel_rfl⟩
theorem zmo:qbf (190,ir190):=⟨_,false,true,Tryz.func190,by kernel_rfl⟩
theorem zmx:qbf (191,ir191):=⟨_,true,true,Tryz.func191,by kernel_rfl⟩
theorem zmm:qbf (192,ir192):=⟨_,false,false,Tryz.func192,by kernel_rfl⟩
theorem zmi:qbf (193,ir193):=⟨_,false,false,Tryz.func193,by kernel_rfl⟩
theorem zoq:qbf (195,ir195):=⟨_,false,false,Tryz.func195,by kernel_rfl⟩
theorem zna:qbf (196,ir196):=⟨_,true,false,Tryz.func196,by kernel_rfl⟩
theorem zly:qbf (197,ir197):=⟨_,false,false,Tryz.func197,by kernel_rfl⟩
theorem zpz:qbf (198,ir198):=⟨_,false,false,Tryz.func198,by kernel_rfl⟩
theorem zri:qbf (199,ir199):=⟨_,false,false,Tryz.func199,by kernel_rfl⟩
theorem zqs:qbf (200,ir200):=⟨_,false,false,Tryz.func200,by kernel_rfl⟩
theorem zql:qbf (201,ir201):=⟨_,false,false,Tryz.func201,by kernel_rfl⟩
theorem zrj:qbf (202,ir202):=⟨_,false,false,Tryz.func202,by kernel_rfl⟩
theorem znn:qbf (206,ir206):=⟨_,true,true,Tryz.func206,by kernel_rfl⟩
theorem zqd:qbf (207,ir207):=⟨_,false,false,Tryz.func207,by kernel_rfl⟩
theorem zme:qbf (223,ir223):=⟨_,false,true,Tryz.func223,by kernel_rfl⟩
theorem zle:qbf (224,ir224):=⟨_,false,true,Tryz.func224,by kernel_rfl⟩
theorem zlt:qbf (225,ir225):=⟨_,false,true,Tryz.func225,by kernel_rfl⟩
theorem zig:∀ p ∈ tbl,qbf p:=by
 intro p hp
 unfold tbl at hp
 simp only [List.mem_cons,List.not_mem_nil,or_false] at hp
 rcases hp with rfl | rfl | rfl | rfl | rfl | rfl | rfl | rfl | rfl | rfl | rfl | rfl | rfl | rfl | rfl | rfl | rfl | rfl | rfl | rfl | rfl | rfl | rfl | rfl | rfl | rfl | rfl | rfl | rfl | rfl | rfl | rfl | rfl | rfl | rfl | rfl | rfl | rfl | rfl | rfl | rfl | rfl | rfl | rfl | rfl | rfl | rfl | rfl | rfl | rfl | rfl | rfl | rfl | rfl | rfl | rfl | rfl | rfl | rfl | rfl | rfl | rfl | rfl | rfl | rfl | rfl | rfl | rfl | rfl | rfl | rfl | rfl | rfl | rfl | rfl | rfl | rfl | rfl | rfl | rfl | rfl | rfl | rfl | rfl | rfl | rfl | rfl | rfl | rfl | rfl | rfl | rfl | rfl | rfl | rfl | rfl | rfl | rfl | rfl | rfl | rfl | rfl | rfl | rfl | rfl | rfl | rfl | rfl | rfl | rfl | rfl | rfl | rfl | rfl | rfl | rfl | rfl | rfl | rfl | rfl | rfl | rfl | rfl | rfl | rfl | rfl | rfl | rfl | rfl | rfl | rfl | rfl | rfl | rfl | rfl | rfl | rfl | rfl | rfl | rfl | rfl | rfl | rfl | rfl | rfl | rfl | rfl | rfl | rfl | rfl | rfl | rfl | rfl | rfl | rfl | rfl
 ·exact z6c
 ·exact z3d
 ·exact ztm
 ·exact zul
 ·exact zsn
 ·exact zvz
 ·exact zxa
 ·exact zwq
 ·exact zvp
 ·exact zvd
 ·exact zsb
 ·exact zwg
 ·exact zvw
 ·exact zti
 ·exact zui
 ·exact ztv
 ·exact zth
 ·exact zvk
 ·exact zut
 ·exact zuy
 ·exact zwx
 ·exact zst
 ·exact zwj
 ·exact zxe
 ·exact zwc
 ·exact zsg
 ·exact zud
 ·exact ztp
 ·exact ztb
 ·exact zxd
 ·exact zxc
 ·exact zsx
 ·exact ztz
 ·exact ztg
 ·exact zrw
 ·exact zsy
 ·exact zsc
 ·exact zwb
 ·exact zsa
 ·exact zts
 ·exact zwo
 ·exact ztd
 ·exact zvm
 ·exact ztr
 ·exact zrx
 ·exact zur
 ·exact zto
 ·exact zws
 ·exact zsu
 ·exact zvu
 ·exact zry
 ·exact zsr
 ·exact zum
 ·exact zvt
 ·exact zxb
 ·exact zwf
 ·exact zuj
 ·exact zvv
 ·exact zwd
 ·exact zvh
 ·exact zvf
 ·exact zxf
 ·exact ztl
 ·exact zwz
 ·exact zvs
 ·exact zqk
 ·exact zoc
 ·exact zol
 ·exact zqw
 ·exact zra
 ·exact znf
 ·exact zlo
 ·exact zpl
 ·exact zoj
 ·exact zow
 ·exact zqv
 ·exact zkm
 ·exact zlw
 ·exact zmp
 ·exact zrf
 ·exact zmg
 ·exact zma
 ·exact znv
 ·exact zpc
 ·exact zkk
 ·exact zpd
 ·exact zkt
 ·exact zlb
 ·exact zny
 ·exact zki
 ·exact zrg
 ·exact zkv
 ·exact zli
 ·exact zpe
 ·exact zkf
 ·exact zkh
 ·exact znl
 ·exact zou
 ·exact zre
 ·exact zky
 ·exact znw
 ·exact zqj
 ·exact zph
 ·exact zpk
 ·exact zog
 ·exact zmt
 ·exact zlp
 ·exact zqq
 ·exact zni
 ·exact zpr
 ·exact zlk
 ·exact zpf
 ·exact zon
 ·exact zqy
 ·exact znq
 ·exact zko
 ·exact zlx
 ·exact zkq
 ·exact zoy
 ·exact zmk
 ·exact zlg
 ·exact zpn
 ·exact zpp
 ·exact zls
 ·exact zlf
 ·exact zpj
 ·exact zpb
 ·exact zps
 ·exact zpv
 ·exact zmz
 ·exact zqm
 ·exact zlm
 ·exact zmf
 ·exact zms
 ·exact zqh
 ·exact zpi
 ·exact zpw
 ·exact zkj
 ·exact zlu
 ·exact zmo
 ·exact zmx
 ·exact zmm
 ·exact zmi
 ·exact zoq
 ·exact zna
 ·exact zly
 ·exact zpz
 ·exact zri
 ·exact zqs
 ·exact zql
 ·exact zrj
 ·exact znn
 ·exact zqd
 ·exact zme
 ·exact zle
 ·exact zlt
theorem made:∀ f g,pg f=some g→∃ fn fresh raw,Tryz.prog.funcs[f]?=some fn∧zfw Tryz.prog fresh raw fn=some g:=fun f g h=>zig (f,g) (q5n h)
@[simp] theorem pg5:pg 5=some ir5:=rfl
@[simp] theorem z7a:ir5.raw=false:=rfl
@[simp] theorem pg9:pg 9=some ir9:=rfl
@[simp] theorem z7e:ir9.raw=false:=rfl
@[simp] theorem pg10:pg 10=some ir10:=rfl
@[simp] theorem z2z:ir10.raw=false:=rfl
@[simp] theorem pg11:pg 11=some ir11:=rfl
@[simp] theorem z3a:ir11.raw=false:=rfl
@[simp] theorem pg12:pg 12=some ir12:=rfl
@[simp] theorem z4v:ir12.raw=false:=rfl
@[simp] theorem pg13:pg 13=some ir13:=rfl
@[simp] theorem z4z:ir13.raw=false:=rfl
@[simp] theorem pg15:pg 15=some ir15:=rfl
@[simp] theorem z4i:ir15.raw=false:=rfl
@[simp] theorem pg16:pg 16=some ir16:=rfl
@[simp] theorem z4d:ir16.raw=false:=rfl
@[simp] theorem pg19:pg 19=some ir19:=rfl
@[simp] theorem z5k:ir19.raw=false:=rfl
@[simp] theorem pg23:pg 23=some ir23:=rfl
@[simp] theorem z2s:ir23.raw=false:=rfl
@[simp] theorem pg24:pg 24=some ir24:=rfl
@[simp] theorem z5e:ir24.raw=false:=rfl
@[simp] theorem pg29:pg 29=some ir29:=rfl
@[simp] theorem z4y:ir29.raw=false:=rfl
@[simp] theorem pg35:pg 35=some ir35:=rfl
@[simp] theorem z4o:ir35.raw=false:=rfl
@[simp] theorem pg36:pg 36=some ir36:=rfl
@[simp] theorem z5q:ir36.raw=false:=rfl
@[simp] theorem pg37:pg 37=some ir37:=rfl
@[simp] theorem z6t:ir37.raw=false:=rfl
@[simp] theorem pg38:pg 38=some ir38:=rfl
@[simp] theorem z2g:ir38.raw=false:=rfl
@[simp] theorem pg39:pg 39=some ir39:=rfl
@[simp] theorem z5u:ir39.raw=false:=rfl
@[simp] theorem pg40:pg 40=some ir40:=rfl
@[simp] theorem z3z:ir40.raw=true:=rfl
@[simp] theorem pg41:pg 41=some ir41:=rfl
@[simp] theorem z5w:ir41.raw=true:=rfl
@[simp] theorem pg42:pg 42=some ir42:=rfl
@[simp] theorem z4u:ir42.raw=false:=rfl
@[simp] theorem pg44:pg 44=some ir44:=rfl
@[simp] theorem z6r:ir44.raw=false:=rfl
@[simp] theorem pg45:pg 45=some ir45:=rfl
@[simp] theorem z5l:ir45.raw=false:=rfl
@[simp] theorem pg46:pg 46=some ir46:=rfl
@[simp] theorem z4j:ir46.raw=false:=rfl
@[simp] theorem pg47:pg 47=some ir47:=rfl
@[simp] theorem z6h:ir47.raw=true:=rfl
@[simp] theorem pg48:pg 48=some ir48:=rfl
@[simp] theorem z2q:ir48.raw=false:=rfl
@[simp] theorem pg49:pg 49=some ir49:=rfl
@[simp] theorem z1z:ir49.raw=false:=rfl
@[simp] theorem pg51:pg 51=some ir51:=rfl
@[simp] theorem z3m:ir51.raw=false:=rfl
@[simp] theorem pg53:pg 53=some ir53:=rfl
@[simp] theorem z5n:ir53.raw=false:=rfl
@[simp] theorem pg54:pg 54=some ir54:=rfl
@[simp] theorem z6e:ir54.raw=false:=rfl
@[simp] theorem pg55:pg 55=some ir55:=rfl
@[simp] theorem z6d:ir55.raw=false:=rfl
@[simp] theorem pg56:pg 56=some ir56:=rfl
@[simp] theorem z3e:ir56.raw=false:=rfl
@[simp] theorem pg57:pg 57=some ir57:=rfl
@[simp] theorem z6b:ir57.raw=false:=rfl
@[simp] theorem pg58:pg 58=some ir58:=rfl
@[simp] theorem z5p:ir58.raw=false:=rfl
@[simp] theorem pg59:pg 59=some ir59:=rfl
@[simp] theorem z6n:ir59.raw=false:=rfl
@[simp] theorem pg62:pg 62=some ir62:=rfl
@[simp] theorem z5h:ir62.raw=false:=rfl
@[simp] theorem pg63:pg 63=some ir63:=rfl
@[simp] theorem z6l:ir63.raw=false:=rfl
@[simp] theorem pg64:pg 64=some ir64:=rfl
@[simp] theorem z2e:ir64.raw=false:=rfl
@[simp] theorem pg65:pg 65=some ir65:=rfl
@[simp] theorem z5x:ir65.raw=false:=rfl
@[simp] theorem pg66:pg 66=some ir66:=rfl
@[simp] theorem z3i:ir66.raw=false:=rfl
@[simp] theorem pg67:pg 67=some ir67:=rfl
@[simp] theorem z3n:ir67.raw=false:=rfl
@[simp] theorem pg68:pg 68=some ir68:=rfl
@[simp] theorem z5v:ir68.raw=true:=rfl
@[simp] theorem pg69:pg 69=some ir69:=rfl
@[simp] theorem z4w:ir69.raw=true:=rfl
@[simp] theorem pg70:pg 70=some ir70:=rfl
@[simp] theorem z5f:ir70.raw=true:=rfl
@[simp] theorem pg71:pg 71=some ir71:=rfl
@[simp] theorem z4g:ir71.raw=true:=rfl
@[simp] theorem pg72:pg 72=some ir72:=rfl
@[simp] theorem z5c:ir72.raw=false:=rfl
@[simp] theorem pg73:pg 73=some ir73:=rfl
@[simp] theorem z2l:ir73.raw=true:=rfl
@[simp] theorem pg74:pg 74=some ir74:=rfl
@[simp] theorem z2i:ir74.raw=true:=rfl
@[simp] theorem pg81:pg 81=some ir81:=rfl
@[simp] theorem z6a:ir81.raw=true:=rfl
@[simp] theorem pg82:pg 82=some ir82:=rfl
@[simp] theorem z5i:ir82.raw=false:=rfl
@[simp] theorem pg83:pg 83=some ir83:=rfl
@[simp] theorem z4t:ir83.raw=false:=rfl
@[simp] theorem pg84:pg 84=some ir84:=rfl
@[simp] theorem z3k:ir84.raw=false:=rfl
@[simp] theorem pg85:pg 85=some ir85:=rfl
@[simp] theorem z6p:ir85.raw=false:=rfl
@[simp] theorem pg87:pg 87=some ir87:=rfl
@[simp] theorem z2v:ir87.raw=false:=rfl
@[simp] theorem pg88:pg 88=some ir88:=rfl
@[simp] theorem z4e:ir88.raw=false:=rfl
@[simp] theorem pg89:pg 89=some ir89:=rfl
@[simp] theorem z4f:ir89.raw=false:=rfl
@[simp] theorem pg90:pg 90=some ir90:=rfl
@[simp] theorem z6j:ir90.raw=false:=rfl
@[simp] theorem pg91:pg 91=some ir91:=rfl
@[simp] theorem z6i:ir91.raw=false:=rfl
@[simp] theorem pg92:pg 92=some ir92:=rfl
@[simp] theorem z4m:ir92.raw=false:=rfl
@[simp] theorem pg93:pg 93=some ir93:=rfl
@[simp] theorem z3s:ir93.raw=false:=rfl
@[simp] theorem pg94:pg 94=some ir94:=rfl
@[simp] theorem z5b:ir94.raw=true:=rfl
@[simp] theorem pg95:pg 95=some ir95:=rfl
@[simp] theorem z1x:ir95.raw=true:=rfl
@[simp] theorem pg96:pg 96=some ir96:=rfl
@[simp] theorem z4q:ir96.raw=true:=rfl
@[simp] theorem pg97:pg 97=some ir97:=rfl
@[simp] theorem z5z:ir97.raw=false:=rfl
@[simp] theorem pg98:pg 98=some ir98:=rfl
@[simp] theorem z4h:ir98.raw=true:=rfl
@[simp] theorem pg99:pg 99=some ir99:=rfl
@[simp] theorem z2b:ir99.raw=true:=rfl
@[simp] theorem pg100:pg 100=some ir100:=rfl
@[simp] theorem z1g:ir100.raw=false:=rfl
@[simp] theorem pg107:pg 107=some ir107:=rfl
@[simp] theorem zyj:ir107.raw=false:=rfl
@[simp] theorem pg108:pg 108=some ir108:=rfl
@[simp] theorem zyk:ir108.raw=false:=rfl
@[simp] theorem pg109:pg 109=some ir109:=rfl
@[simp] theorem z0w:ir109.raw=false:=rfl
@[simp] theorem pg110:pg 110=some ir110:=rfl
@[simp] theorem zzb:ir110.raw=false:=rfl
@[simp] theorem pg111:pg 111=some ir111:=rfl
@[simp] theorem zyf:ir111.raw=false:=rfl
@[simp] theorem pg112:pg 112=some ir112:=rfl
@[simp] theorem z0s:ir112.raw=false:=rfl
@[simp] theorem pg113:pg 113=some ir113:=rfl
@[simp] theorem z0k:ir113.raw=false:=rfl
@[simp] theorem pg114:pg 114=some ir114:=rfl
@[simp] theorem zyv:ir114.raw=false:=rfl
@[simp] theorem pg115:pg 115=some ir115:=rfl
@[simp] theorem zya:ir115.raw=false:=rfl
@[simp] theorem pg116:pg 116=some ir116:=rfl
@[simp] theorem zyp:ir116.raw=false:=rfl
@[simp] theorem pg117:pg 117=some ir117:=rfl
@[simp] theorem z0j:ir117.raw=false:=rfl
@[simp] theorem pg118:pg 118=some ir118:=rfl
@[simp] theorem z1q:ir118.raw=false:=rfl
@[simp] theorem pg119:pg 119=some ir119:=rfl
@[simp] theorem zyq:ir119.raw=false:=rfl
@[simp] theorem pg120:pg 120=some ir120:=rfl
@[simp] theorem z0n:ir120.raw=false:=rfl
@[simp] theorem pg121:pg 121=some ir121:=rfl
@[simp] theorem zym:ir121.raw=false:=rfl
@[simp] theorem pg122:pg 122=some ir122:=rfl
@[simp] theorem z1r:ir122.raw=false:=rfl
@[simp] theorem pg123:pg 123=some ir123:=rfl
@[simp] theorem z0x:ir123.raw=false:=rfl
@[simp] theorem pg124:pg 124=some ir124:=rfl
@[simp] theorem zyn:ir124.raw=false:=rfl
@[simp] theorem pg125:pg 125=some ir125:=rfl
@[simp] theorem zyr:ir125.raw=false:=rfl
@[simp] theorem pg126:pg 126=some ir126:=rfl
@[simp] theorem zyz:ir126.raw=false:=rfl
@[simp] theorem pg127:pg 127=some ir127:=rfl
@[simp] theorem z0z:ir127.raw=false:=rfl
@[simp] theorem pg128:pg 128=some ir128:=rfl
@[simp] theorem z1a:ir128.raw=false:=rfl
@[simp] theorem pg129:pg 129=some ir129:=rfl
@[simp] theorem zxs:ir129.raw=false:=rfl
@[simp] theorem pg130:pg 130=some ir130:=rfl
@[simp] theorem z1s:ir130.raw=false:=rfl
@[simp] theorem pg131:pg 131=some ir131:=rfl
@[simp] theorem zzd:ir131.raw=false:=rfl
@[simp] theorem pg132:pg 132=some ir132:=rfl
@[simp] theorem z1k:ir132.raw=false:=rfl
@[simp] theorem pg133:pg 133=some ir133:=rfl
@[simp] theorem z0o:ir133.raw=true:=rfl
@[simp] theorem pg134:pg 134=some ir134:=rfl
@[simp] theorem zzs:ir134.raw=true:=rfl
@[simp] theorem pg135:pg 135=some ir135:=rfl
@[simp] theorem z0v:ir135.raw=true:=rfl
@[simp] theorem pg136:pg 136=some ir136:=rfl
@[simp] theorem z1h:ir136.raw=true:=rfl
@[simp] theorem pg137:pg 137=some ir137:=rfl
@[simp] theorem zyl:ir137.raw=true:=rfl
@[simp] theorem pg138:pg 138=some ir138:=rfl
@[simp] theorem zyc:ir138.raw=true:=rfl
@[simp] theorem pg139:pg 139=some ir139:=rfl
@[simp] theorem z1p:ir139.raw=false:=rfl
@[simp] theorem pg140:pg 140=some ir140:=rfl
@[simp] theorem z1t:ir140.raw=true:=rfl
@[simp] theorem pg141:pg 141=some ir141:=rfl
@[simp] theorem zxt:ir141.raw=true:=rfl
@[simp] theorem pg143:pg 143=some ir143:=rfl
@[simp] theorem zzz:ir143.raw=false:=rfl
@[simp] theorem pg147:pg 147=some ir147:=rfl
@[simp] theorem zzj:ir147.raw=false:=rfl
@[simp] theorem pg148:pg 148=some ir148:=rfl
@[simp] theorem zzi:ir148.raw=false:=rfl
@[simp] theorem pg149:pg 149=some ir149:=rfl
@[simp] theorem zzh:ir149.raw=false:=rfl
@[simp] theorem pg150:pg 150=some ir150:=rfl
@[simp] theorem z1d:ir150.raw=false:=rfl
@[simp] theorem pg151:pg 151=some ir151:=rfl
@[simp] theorem z0l:ir151.raw=false:=rfl
@[simp] theorem pg152:pg 152=some ir152:=rfl
@[simp] theorem zzq:ir152.raw=false:=rfl
@[simp] theorem pg153:pg 153=some ir153:=rfl
@[simp] theorem zzk:ir153.raw=false:=rfl
@[simp] theorem pg154:pg 154=some ir154:=rfl
@[simp] theorem zzo:ir154.raw=true:=rfl
@[simp] theorem pg155:pg 155=some ir155:=rfl
@[simp] theorem z0y:ir155.raw=false:=rfl
@[simp] theorem pg156:pg 156=some ir156:=rfl
@[simp] theorem z0d:ir156.raw=false:=rfl
@[simp] theorem pg157:pg 157=some ir157:=rfl
@[simp] theorem zye:ir157.raw=false:=rfl
@[simp] theorem pg158:pg 158=some ir158:=rfl
@[simp] theorem zyg:ir158.raw=true:=rfl
@[simp] theorem pg159:pg 159=some ir159:=rfl
@[simp] theorem zzt:ir159.raw=false:=rfl
@[simp] theorem pg160:pg 160=some ir160:=rfl
@[simp] theorem zxm:ir160.raw=true:=rfl
@[simp] theorem pg161:pg 161=some ir161:=rfl
@[simp] theorem z0h:ir161.raw=true:=rfl
@[simp] theorem pg162:pg 162=some ir162:=rfl
@[simp] theorem zza:ir162.raw=true:=rfl
@[simp] theorem pg163:pg 163=some ir163:=rfl
@[simp] theorem zyw:ir163.raw=false:=rfl
@[simp] theorem pg164:pg 164=some ir164:=rfl
@[simp] theorem z1i:ir164.raw=true:=rfl
@[simp] theorem pg165:pg 165=some ir165:=rfl
@[simp] theorem zxo:ir165.raw=true:=rfl
@[simp] theorem pg166:pg 166=some ir166:=rfl
@[simp] theorem zyt:ir166.raw=true:=rfl
@[simp] theorem pg167:pg 167=some ir167:=rfl
@[simp] theorem z1j:ir167.raw=false:=rfl
@[simp] theorem pg173:pg 173=some ir173:=rfl
@[simp] theorem z1m:ir173.raw=false:=rfl
@[simp] theorem pg174:pg 174=some ir174:=rfl
@[simp] theorem zze:ir174.raw=false:=rfl
@[simp] theorem pg175:pg 175=some ir175:=rfl
@[simp] theorem zyb:ir175.raw=true:=rfl
@[simp] theorem pg176:pg 176=some ir176:=rfl
@[simp] theorem zzu:ir176.raw=false:=rfl
@[simp] theorem pg177:pg 177=some ir177:=rfl
@[simp] theorem zys:ir177.raw=false:=rfl
@[simp] theorem pg178:pg 178=some ir178:=rfl
@[simp] theorem z0q:ir178.raw=false:=rfl
@[simp] theorem pg179:pg 179=some ir179:=rfl
@[simp] theorem z1c:ir179.raw=true:=rfl
@[simp] theorem pg180:pg 180=some ir180:=rfl
@[simp] theorem zxu:ir180.raw=false:=rfl
@[simp] theorem pg181:pg 181=some ir181:=rfl
@[simp] theorem z0f:ir181.raw=false:=rfl
@[simp] theorem pg182:pg 182=some ir182:=rfl
@[simp] theorem zzr:ir182.raw=true:=rfl
@[simp] theorem pg183:pg 183=some ir183:=rfl
@[simp] theorem zxr:ir183.raw=true:=rfl
@[simp] theorem pg185:pg 185=some ir185:=rfl
@[simp] theorem zzn:ir185.raw=false:=rfl
@[simp] theorem pg186:pg 186=some ir186:=rfl
@[simp] theorem z1o:ir186.raw=false:=rfl
@[simp] theorem pg187:pg 187=some ir187:=rfl
@[simp] theorem z1w:ir187.raw=false:=rfl
@[simp] theorem pg188:pg 188=some ir188:=rfl
@[simp] theorem z1n:ir188.raw=true:=rfl
@[simp] theorem pg189:pg 189=some ir189:=rfl
@[simp] theorem zzy:ir189.raw=false:=rfl
@[simp] theorem pg190:pg 190=some ir190:=rfl
@[simp] theorem zyd:ir190.raw=true:=rfl
@[simp] theorem pg191:pg 191=some ir191:=rfl
@[simp] theorem zzp:ir191.raw=true:=rfl
@[simp] theorem pg192:pg 192=some ir192:=rfl
@[simp] theorem zxv:ir192.raw=false:=rfl
@[simp] theorem pg193:pg 193=some ir193:=rfl
@[simp] theorem zyh:ir193.raw=false:=rfl
@[simp] theorem pg195:pg 195=some ir195:=rfl
@[simp] theorem zxz:ir195.raw=false:=rfl
@[simp] theorem pg196:pg 196=some ir196:=rfl
@[simp] theorem z0a:ir196.raw=false:=rfl
@[simp] theorem pg197:pg 197=some ir197:=rfl
@[simp] theorem z0r:ir197.raw=false:=rfl
@[simp] theorem pg198:pg 198=some ir198:=rfl
@[simp] theorem z0t:ir198.raw=false:=rfl
@[simp] theorem pg199:pg 199=some ir199:=rfl
@[simp] theorem zzv:ir199.raw=false:=rfl
@[simp] theorem pg200:pg 200=some ir200:=rfl
@[simp] theorem zzc:ir200.raw=false:=rfl
@[simp] theorem pg201:pg 201=some ir201:=rfl
@[simp] theorem zzw:ir201.raw=false:=rfl
@[simp] theorem pg202:pg 202=some ir202:=rfl
@[simp] theorem zzf:ir202.raw=false:=rfl
@[simp] theorem pg206:pg 206=some ir206:=rfl
@[simp] theorem zzm:ir206.raw=true:=rfl
@[simp] theorem pg207:pg 207=some ir207:=rfl
@[simp] theorem zxl:ir207.raw=false:=rfl
@[simp] theorem pg223:pg 223=some ir223:=rfl
@[simp] theorem z1b:ir223.raw=true:=rfl
@[simp] theorem pg224:pg 224=some ir224:=rfl
@[simp] theorem z1u:ir224.raw=true:=rfl
@[simp] theorem pg225:pg 225=some ir225:=rfl
@[simp] theorem z0b:ir225.raw=true:=rfl
end Go.Proofs.YtlhciedghbmjjaaGreat
