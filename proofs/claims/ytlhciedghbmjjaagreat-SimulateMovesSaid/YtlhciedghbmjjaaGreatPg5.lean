/- The program that Am runs: the table of the functions. -/
import Derived.Test.YtlhciedghbmjjaaGreatIr5
set_option linter.all false
namespace Go.Proofs.YtlhciedghbmjjaaGreat
open Go Go.Am Go.Proofs
set_option maxRecDepth 100000
def find:List (Nat×Fun)->Nat->Option Fun
 | [],_=>none
 | (k,g) :: r,f=>if f=k then some g else find r f
theorem q8k:∀{l:List (Nat×Fun)} {f:Nat} {g:Fun},find l f=some g->(f,g)∈l
 | (k,g') :: r,f,g,h=>by
  simp only[find]at h
  split at h
  .rename_i e;cases h;subst e;exact List.mem_cons_self
  .exact List.mem_cons_of_mem _ (q8k h)
def qbb(p:Nat×Fun):Prop:=∃fn fresh raw,Tryz.prog.funcs[p.1]?=some fn/\zgn Tryz.prog fresh raw fn=some p.2
def tbl:List (Nat×Fun):=[(3,ir3),(4,ir4),(9,ir9),(10,ir10),(11,ir11),(12,ir12),(13,ir13),(14,ir14),(15,ir15),(16,ir16),(17,ir17),(18,ir18),(19,ir19),(20,ir20),(21,ir21),(22,ir22),(25,ir25),(29,ir29),(31,ir31),(33,ir33),(34,ir34),(35,ir35),(36,ir36),(37,ir37),(38,ir38),(39,ir39),(40,ir40),(41,ir41),(42,ir42),(43,ir43),(44,ir44),(45,ir45),(46,ir46),(47,ir47),(48,ir48),(49,ir49),(50,ir50),(52,ir52),(53,ir53),(54,ir54),(55,ir55),(56,ir56),(57,ir57),(58,ir58),(59,ir59),(60,ir60),(61,ir61),(62,ir62),(63,ir63),(64,ir64),(65,ir65),(66,ir66),(67,ir67),(68,ir68),(69,ir69),(70,ir70),(71,ir71),(72,ir72),(73,ir73),(74,ir74),(75,ir75),(76,ir76),(77,ir77),(78,ir78),(79,ir79),(80,ir80),(81,ir81),(82,ir82),(83,ir83),(84,ir84),(85,ir85),(86,ir86),(87,ir87),(88,ir88),(89,ir89),(90,ir90),(91,ir91),(92,ir92),(93,ir93),(94,ir94),(95,ir95),(96,ir96),(97,ir97),(98,ir98),(99,ir99),(100,ir100),(101,ir101),(102,ir102),(103,ir103),(104,ir104),(105,ir105),(106,ir106),(107,ir107),(108,ir108),(109,ir109),(110,ir110),(111,ir111),(112,ir112),(113,ir113),(114,ir114),(115,ir115),(116,ir116),(117,ir117),(118,ir118),(119,ir119),(120,ir120),(121,ir121),(122,ir122),(123,ir123),(124,ir124),(125,ir125),(126,ir126),(127,ir127),(128,ir128),(129,ir129),(130,ir130),(131,ir131),(132,ir132),(133,ir133),(134,ir134),(135,ir135),(136,ir136),(137,ir137),(138,ir138),(139,ir139),(140,ir140),(141,ir141),(143,ir143),(144,ir144),(145,ir145),(146,ir146),(147,ir147),(148,ir148),(149,ir149),(150,ir150),(151,ir151),(152,ir152),(153,ir153),(154,ir154),(155,ir155),(156,ir156),(157,ir157),(158,ir158),(159,ir159),(160,ir160),(161,ir161),(162,ir162),(163,ir163),(164,ir164),(165,ir165),(166,ir166),(167,ir167),(168,ir168),(169,ir169),(170,ir170),(171,ir171),(172,ir172),(173,ir173),(174,ir174),(175,ir175),(176,ir176),(177,ir177),(178,ir178),(179,ir179),(180,ir180),(181,ir181),(182,ir182),(183,ir183),(184,ir184),(185,ir185),(186,ir186),(187,ir187),(188,ir188),(189,ir189),(190,ir190),(191,ir191),(192,ir192),(193,ir193),(194,ir194),(195,ir195),(196,ir196),(197,ir197),(198,ir198),(199,ir199),(200,ir200),(201,ir201),(202,ir202),(203,ir203),(204,ir204),(205,ir205),(206,ir206),(207,ir207),(223,ir223),(224,ir224),(225,ir225)]
def pg:Prg:=find tbl
theorem jan:qbb (3,ir3):=⟨_,false,false,Tryz.func3,by kernel_rfl⟩
theorem z8d:qbb (4,ir4):=⟨_,false,false,Tryz.func4,by kernel_rfl⟩
theorem z8q:qbb (9,ir9):=⟨_,false,false,Tryz.func9,by kernel_rfl⟩
theorem z1p:qbb (10,ir10):=⟨_,false,false,Tryz.func10,by kernel_rfl⟩
theorem zyl:qbb (11,ir11):=⟨_,false,false,Tryz.func11,by kernel_rfl⟩
theorem zwz:qbb (12,ir12):=⟨_,false,false,Tryz.func12,by kernel_rfl⟩
theorem z1z:qbb (13,ir13):=⟨_,false,false,Tryz.func13,by kernel_rfl⟩
theorem z1o:qbb (14,ir14):=⟨_,false,false,Tryz.func14,by kernel_rfl⟩
theorem zxj:qbb (15,ir15):=⟨_,false,false,Tryz.func15,by kernel_rfl⟩
theorem zyq:qbb (16,ir16):=⟨_,false,false,Tryz.func16,by kernel_rfl⟩
theorem zwp:qbb (17,ir17):=⟨_,false,false,Tryz.func17,by kernel_rfl⟩
theorem z1i:qbb (18,ir18):=⟨_,false,false,Tryz.func18,by kernel_rfl⟩
theorem zwi:qbb (19,ir19):=⟨_,false,false,Tryz.func19,by kernel_rfl⟩
theorem zxl:qbb (20,ir20):=⟨_,false,false,Tryz.func20,by kernel_rfl⟩
theorem zwn:qbb (21,ir21):=⟨_,false,false,Tryz.func21,by kernel_rfl⟩
theorem zzs:qbb (22,ir22):=⟨_,false,false,Tryz.func22,by kernel_rfl⟩
theorem zwl:qbb (25,ir25):=⟨_,false,false,Tryz.func25,by kernel_rfl⟩
theorem z0y:qbb (29,ir29):=⟨_,false,false,Tryz.func29,by kernel_rfl⟩
theorem zzt:qbb (31,ir31):=⟨_,false,false,Tryz.func31,by kernel_rfl⟩
theorem zyh:qbb (33,ir33):=⟨_,false,false,Tryz.func33,by kernel_rfl⟩
theorem z0q:qbb (34,ir34):=⟨_,false,false,Tryz.func34,by kernel_rfl⟩
theorem z0l:qbb (35,ir35):=⟨_,false,false,Tryz.func35,by kernel_rfl⟩
theorem zzv:qbb (36,ir36):=⟨_,false,false,Tryz.func36,by kernel_rfl⟩
theorem z0b:qbb (37,ir37):=⟨_,false,false,Tryz.func37,by kernel_rfl⟩
theorem zym:qbb (38,ir38):=⟨_,false,false,Tryz.func38,by kernel_rfl⟩
theorem zyu:qbb (39,ir39):=⟨_,false,false,Tryz.func39,by kernel_rfl⟩
theorem z0d:qbb (40,ir40):=⟨_,false,true,Tryz.func40,by kernel_rfl⟩
theorem zxw:qbb (41,ir41):=⟨_,false,true,Tryz.func41,by kernel_rfl⟩
theorem z0j:qbb (42,ir42):=⟨_,false,false,Tryz.func42,by kernel_rfl⟩
theorem zyy:qbb (43,ir43):=⟨_,false,false,Tryz.func43,by kernel_rfl⟩
theorem zzy:qbb (44,ir44):=⟨_,false,false,Tryz.func44,by kernel_rfl⟩
theorem zzf:qbb (45,ir45):=⟨_,false,false,Tryz.func45,by kernel_rfl⟩
theorem zzh:qbb (46,ir46):=⟨_,false,false,Tryz.func46,by kernel_rfl⟩
theorem zzi:qbb (47,ir47):=⟨_,false,true,Tryz.func47,by kernel_rfl⟩
theorem z2i:qbb (48,ir48):=⟨_,false,false,Tryz.func48,by kernel_rfl⟩
theorem z1f:qbb (49,ir49):=⟨_,false,false,Tryz.func49,by kernel_rfl⟩
theorem zyz:qbb (50,ir50):=⟨_,false,false,Tryz.func50,by kernel_rfl⟩
theorem z1v:qbb (52,ir52):=⟨_,false,false,Tryz.func52,by kernel_rfl⟩
theorem zyi:qbb (53,ir53):=⟨_,false,false,Tryz.func53,by kernel_rfl⟩
theorem zwx:qbb (54,ir54):=⟨_,false,false,Tryz.func54,by kernel_rfl⟩
theorem z0v:qbb (55,ir55):=⟨_,false,false,Tryz.func55,by kernel_rfl⟩
theorem zxh:qbb (56,ir56):=⟨_,true,false,Tryz.func56,by kernel_rfl⟩
theorem z0g:qbb (57,ir57):=⟨_,false,false,Tryz.func57,by kernel_rfl⟩
theorem zxr:qbb (58,ir58):=⟨_,false,false,Tryz.func58,by kernel_rfl⟩
theorem zyn:qbb (59,ir59):=⟨_,false,false,Tryz.func59,by kernel_rfl⟩
theorem zwq:qbb (60,ir60):=⟨_,false,false,Tryz.func60,by kernel_rfl⟩
theorem zxm:qbb (61,ir61):=⟨_,false,false,Tryz.func61,by kernel_rfl⟩
theorem zzw:qbb (62,ir62):=⟨_,false,false,Tryz.func62,by kernel_rfl⟩
theorem z0u:qbb (63,ir63):=⟨_,false,false,Tryz.func63,by kernel_rfl⟩
theorem zxv:qbb (64,ir64):=⟨_,false,false,Tryz.func64,by kernel_rfl⟩
theorem zya:qbb (65,ir65):=⟨_,false,false,Tryz.func65,by kernel_rfl⟩
theorem zww:qbb (66,ir66):=⟨_,false,false,Tryz.func66,by kernel_rfl⟩
theorem z1a:qbb (67,ir67):=⟨_,false,false,Tryz.func67,by kernel_rfl⟩
theorem zxe:qbb (68,ir68):=⟨_,false,true,Tryz.func68,by kernel_rfl⟩
theorem zyd:qbb (69,ir69):=⟨_,false,true,Tryz.func69,by kernel_rfl⟩
theorem zxk:qbb (70,ir70):=⟨_,false,true,Tryz.func70,by kernel_rfl⟩
theorem z2h:qbb (71,ir71):=⟨_,false,true,Tryz.func71,by kernel_rfl⟩
theorem zvx:qbb (72,ir72):=⟨_,true,false,Tryz.func72,by kernel_rfl⟩
theorem zyo:qbb (73,ir73):=⟨_,false,true,Tryz.func73,by kernel_rfl⟩
theorem zxs:qbb (74,ir74):=⟨_,true,true,Tryz.func74,by kernel_rfl⟩
theorem zzd:qbb (75,ir75):=⟨_,false,true,Tryz.func75,by kernel_rfl⟩
theorem z0o:qbb (76,ir76):=⟨_,false,true,Tryz.func76,by kernel_rfl⟩
theorem z2l:qbb (77,ir77):=⟨_,false,false,Tryz.func77,by kernel_rfl⟩
theorem z0i:qbb (78,ir78):=⟨_,false,false,Tryz.func78,by kernel_rfl⟩
theorem z1s:qbb (79,ir79):=⟨_,false,true,Tryz.func79,by kernel_rfl⟩
theorem zyj:qbb (80,ir80):=⟨_,false,false,Tryz.func80,by kernel_rfl⟩
theorem z2g:qbb (81,ir81):=⟨_,false,true,Tryz.func81,by kernel_rfl⟩
theorem zvw:qbb (82,ir82):=⟨_,false,false,Tryz.func82,by kernel_rfl⟩
theorem zyp:qbb (83,ir83):=⟨_,false,false,Tryz.func83,by kernel_rfl⟩
theorem z1k:qbb (84,ir84):=⟨_,false,false,Tryz.func84,by kernel_rfl⟩
theorem zwo:qbb (85,ir85):=⟨_,false,false,Tryz.func85,by kernel_rfl⟩
theorem zyw:qbb (86,ir86):=⟨_,false,false,Tryz.func86,by kernel_rfl⟩
theorem z0k:qbb (87,ir87):=⟨_,false,false,Tryz.func87,by kernel_rfl⟩
theorem z2d:qbb (88,ir88):=⟨_,false,false,Tryz.func88,by kernel_rfl⟩
theorem zzk:qbb (89,ir89):=⟨_,false,false,Tryz.func89,by kernel_rfl⟩
theorem z1q:qbb (90,ir90):=⟨_,false,false,Tryz.func90,by kernel_rfl⟩
theorem zwd:qbb (91,ir91):=⟨_,false,false,Tryz.func91,by kernel_rfl⟩
theorem zwe:qbb (92,ir92):=⟨_,true,false,Tryz.func92,by kernel_rfl⟩
theorem zxx:qbb (93,ir93):=⟨_,true,false,Tryz.func93,by kernel_rfl⟩
theorem zwk:qbb (94,ir94):=⟨_,false,true,Tryz.func94,by kernel_rfl⟩
theorem z1e:qbb (95,ir95):=⟨_,false,true,Tryz.func95,by kernel_rfl⟩
theorem z0n:qbb (96,ir96):=⟨_,false,true,Tryz.func96,by kernel_rfl⟩
theorem zzm:qbb (97,ir97):=⟨_,false,false,Tryz.func97,by kernel_rfl⟩
theorem z1l:qbb (98,ir98):=⟨_,true,true,Tryz.func98,by kernel_rfl⟩
theorem zxt:qbb (99,ir99):=⟨_,false,true,Tryz.func99,by kernel_rfl⟩
theorem zst:qbb (100,ir100):=⟨_,false,false,Tryz.func100,by kernel_rfl⟩
theorem zmt:qbb (101,ir101):=⟨_,false,false,Tryz.func101,by kernel_rfl⟩
theorem zuk:qbb (102,ir102):=⟨_,false,false,Tryz.func102,by kernel_rfl⟩
theorem zuu:qbb (103,ir103):=⟨_,false,false,Tryz.func103,by kernel_rfl⟩
theorem zpe:qbb (104,ir104):=⟨_,false,false,Tryz.func104,by kernel_rfl⟩
theorem zpy:qbb (105,ir105):=⟨_,false,false,Tryz.func105,by kernel_rfl⟩
theorem zqt:qbb (106,ir106):=⟨_,true,false,Tryz.func106,by kernel_rfl⟩
theorem zon:qbb (107,ir107):=⟨_,false,false,Tryz.func107,by kernel_rfl⟩
theorem zra:qbb (108,ir108):=⟨_,false,false,Tryz.func108,by kernel_rfl⟩
theorem ztn:qbb (109,ir109):=⟨_,false,false,Tryz.func109,by kernel_rfl⟩
theorem zox:qbb (110,ir110):=⟨_,false,false,Tryz.func110,by kernel_rfl⟩
theorem zux:qbb (111,ir111):=⟨_,false,false,Tryz.func111,by kernel_rfl⟩
theorem zoz:qbb (112,ir112):=⟨_,false,false,Tryz.func112,by kernel_rfl⟩
theorem zqu:qbb (113,ir113):=⟨_,false,false,Tryz.func113,by kernel_rfl⟩
theorem zuz:qbb (114,ir114):=⟨_,false,false,Tryz.func114,by kernel_rfl⟩
theorem znh:qbb (115,ir115):=⟨_,false,false,Tryz.func115,by kernel_rfl⟩
theorem zug:qbb (116,ir116):=⟨_,false,false,Tryz.func116,by kernel_rfl⟩
theorem zuy:qbb (117,ir117):=⟨_,false,false,Tryz.func117,by kernel_rfl⟩
theorem zui:qbb (118,ir118):=⟨_,false,false,Tryz.func118,by kernel_rfl⟩
theorem ztg:qbb (119,ir119):=⟨_,false,false,Tryz.func119,by kernel_rfl⟩
theorem zsi:qbb (120,ir120):=⟨_,false,false,Tryz.func120,by kernel_rfl⟩
theorem ztl:qbb (121,ir121):=⟨_,false,false,Tryz.func121,by kernel_rfl⟩
theorem zpv:qbb (122,ir122):=⟨_,false,false,Tryz.func122,by kernel_rfl⟩
theorem zqf:qbb (123,ir123):=⟨_,true,false,Tryz.func123,by kernel_rfl⟩
theorem znb:qbb (124,ir124):=⟨_,false,false,Tryz.func124,by kernel_rfl⟩
theorem zse:qbb (125,ir125):=⟨_,false,false,Tryz.func125,by kernel_rfl⟩
theorem zpn:qbb (126,ir126):=⟨_,false,false,Tryz.func126,by kernel_rfl⟩
theorem zty:qbb (127,ir127):=⟨_,true,false,Tryz.func127,by kernel_rfl⟩
theorem znd:qbb (128,ir128):=⟨_,false,false,Tryz.func128,by kernel_rfl⟩
theorem zoc:qbb (129,ir129):=⟨_,false,false,Tryz.func129,by kernel_rfl⟩
theorem zmx:qbb (130,ir130):=⟨_,false,false,Tryz.func130,by kernel_rfl⟩
theorem ztc:qbb (131,ir131):=⟨_,false,false,Tryz.func131,by kernel_rfl⟩
theorem zot:qbb (132,ir132):=⟨_,false,false,Tryz.func132,by kernel_rfl⟩
theorem znk:qbb (133,ir133):=⟨_,false,true,Tryz.func133,by kernel_rfl⟩
theorem zsw:qbb (134,ir134):=⟨_,false,true,Tryz.func134,by kernel_rfl⟩
theorem ztj:qbb (135,ir135):=⟨_,false,true,Tryz.func135,by kernel_rfl⟩
theorem zom:qbb (136,ir136):=⟨_,false,true,Tryz.func136,by kernel_rfl⟩
theorem zrz:qbb (137,ir137):=⟨_,false,true,Tryz.func137,by kernel_rfl⟩
theorem znz:qbb (138,ir138):=⟨_,false,true,Tryz.func138,by kernel_rfl⟩
theorem zsh:qbb (139,ir139):=⟨_,false,false,Tryz.func139,by kernel_rfl⟩
theorem zuv:qbb (140,ir140):=⟨_,false,true,Tryz.func140,by kernel_rfl⟩
theorem zpu:qbb (141,ir141):=⟨_,false,true,Tryz.func141,by kernel_rfl⟩
theorem znv:qbb (143,ir143):=⟨_,false,false,Tryz.func143,by kernel_rfl⟩
theorem zrb:qbb (144,ir144):=⟨_,false,false,Tryz.func144,by kernel_rfl⟩
theorem ztf:qbb (145,ir145):=⟨_,false,false,Tryz.func145,by kernel_rfl⟩
theorem zpd:qbb (146,ir146):=⟨_,false,false,Tryz.func146,by kernel_rfl⟩
theorem zur:qbb (147,ir147):=⟨_,false,false,Tryz.func147,by kernel_rfl⟩
theorem zuq:qbb (148,ir148):=⟨_,false,false,Tryz.func148,by kernel_rfl⟩
theorem zpq:qbb (149,ir149):=⟨_,false,false,Tryz.func149,by kernel_rfl⟩
theorem znp:qbb (150,ir150):=⟨_,false,false,Tryz.func150,by kernel_rfl⟩
theorem znx:qbb (151,ir151):=⟨_,false,false,Tryz.func151,by kernel_rfl⟩
theorem zsb:qbb (152,ir152):=⟨_,false,false,Tryz.func152,by kernel_rfl⟩
theorem zul:qbb (153,ir153):=⟨_,false,false,Tryz.func153,by kernel_rfl⟩
theorem znu:qbb (154,ir154):=⟨_,false,true,Tryz.func154,by kernel_rfl⟩
theorem zph:qbb (155,ir155):=⟨_,false,false,Tryz.func155,by kernel_rfl⟩
theorem zrx:qbb (156,ir156):=⟨_,false,false,Tryz.func156,by kernel_rfl⟩
theorem zmv:qbb (157,ir157):=⟨_,false,false,Tryz.func157,by kernel_rfl⟩
theorem znn:qbb (158,ir158):=⟨_,false,true,Tryz.func158,by kernel_rfl⟩
theorem zsg:qbb (159,ir159):=⟨_,false,false,Tryz.func159,by kernel_rfl⟩
theorem zmu:qbb (160,ir160):=⟨_,false,true,Tryz.func160,by kernel_rfl⟩
theorem zpa:qbb (161,ir161):=⟨_,true,true,Tryz.func161,by kernel_rfl⟩
theorem zry:qbb (162,ir162):=⟨_,false,true,Tryz.func162,by kernel_rfl⟩
theorem zpp:qbb (163,ir163):=⟨_,false,false,Tryz.func163,by kernel_rfl⟩
theorem zti:qbb (164,ir164):=⟨_,false,true,Tryz.func164,by kernel_rfl⟩
theorem ztz:qbb (165,ir165):=⟨_,false,true,Tryz.func165,by kernel_rfl⟩
theorem zqw:qbb (166,ir166):=⟨_,false,true,Tryz.func166,by kernel_rfl⟩
theorem zuh:qbb (167,ir167):=⟨_,false,false,Tryz.func167,by kernel_rfl⟩
theorem zpb:qbb (168,ir168):=⟨_,false,false,Tryz.func168,by kernel_rfl⟩
theorem zus:qbb (169,ir169):=⟨_,true,false,Tryz.func169,by kernel_rfl⟩
theorem zmw:qbb (170,ir170):=⟨_,false,false,Tryz.func170,by kernel_rfl⟩
theorem zvc:qbb (171,ir171):=⟨_,false,false,Tryz.func171,by kernel_rfl⟩
theorem znc:qbb (172,ir172):=⟨_,false,false,Tryz.func172,by kernel_rfl⟩
theorem zqp:qbb (173,ir173):=⟨_,false,false,Tryz.func173,by kernel_rfl⟩
theorem zmz:qbb (174,ir174):=⟨_,false,false,Tryz.func174,by kernel_rfl⟩
theorem zta:qbb (175,ir175):=⟨_,false,true,Tryz.func175,by kernel_rfl⟩
theorem zoa:qbb (176,ir176):=⟨_,false,false,Tryz.func176,by kernel_rfl⟩
theorem zre:qbb (177,ir177):=⟨_,false,false,Tryz.func177,by kernel_rfl⟩
theorem zoh:qbb (178,ir178):=⟨_,false,false,Tryz.func178,by kernel_rfl⟩
theorem zov:qbb (179,ir179):=⟨_,false,true,Tryz.func179,by kernel_rfl⟩
theorem zof:qbb (180,ir180):=⟨_,false,false,Tryz.func180,by kernel_rfl⟩
theorem zpr:qbb (181,ir181):=⟨_,true,false,Tryz.func181,by kernel_rfl⟩
theorem zva:qbb (182,ir182):=⟨_,false,true,Tryz.func182,by kernel_rfl⟩
theorem zua:qbb (183,ir183):=⟨_,false,true,Tryz.func183,by kernel_rfl⟩
theorem zog:qbb (184,ir184):=⟨_,false,false,Tryz.func184,by kernel_rfl⟩
theorem zpo:qbb (185,ir185):=⟨_,false,false,Tryz.func185,by kernel_rfl⟩
theorem zto:qbb (186,ir186):=⟨_,false,false,Tryz.func186,by kernel_rfl⟩
theorem zum:qbb (187,ir187):=⟨_,false,false,Tryz.func187,by kernel_rfl⟩
theorem zoi:qbb (188,ir188):=⟨_,false,true,Tryz.func188,by kernel_rfl⟩
theorem zrh:qbb (189,ir189):=⟨_,false,false,Tryz.func189,by kernel_rfl⟩
theorem zno:qbb (190,ir190):=⟨_,false,true,Tryz.func190,by kernel_rfl⟩
theorem zqx:qbb (191,ir191):=⟨_,true,true,Tryz.func191,by kernel_rfl⟩
theorem zqi:qbb (192,ir192):=⟨_,false,false,Tryz.func192,by kernel_rfl⟩
theorem zop:qbb (193,ir193):=⟨_,false,false,Tryz.func193,by kernel_rfl⟩
theorem zoe:qbb (194,ir194):=⟨_,false,false,Tryz.func194,by kernel_rfl⟩
theorem zqm:qbb (195,ir195):=⟨_,false,false,Tryz.func195,by kernel_rfl⟩
theorem zqh:qbb (196,ir196):=⟨_,true,false,Tryz.func196,by kernel_rfl⟩
theorem zsv:qbb (197,ir197):=⟨_,false,false,Tryz.func197,by kernel_rfl⟩
theorem zod:qbb (198,ir198):=⟨_,false,false,Tryz.func198,by kernel_rfl⟩
theorem zuf:qbb (199,ir199):=⟨_,false,false,Tryz.func199,by kernel_rfl⟩
theorem ztd:qbb (200,ir200):=⟨_,false,false,Tryz.func200,by kernel_rfl⟩
theorem zqa:qbb (201,ir201):=⟨_,false,false,Tryz.func201,by kernel_rfl⟩
theorem zuj:qbb (202,ir202):=⟨_,false,false,Tryz.func202,by kernel_rfl⟩
theorem zni:qbb (203,ir203):=⟨_,false,false,Tryz.func203,by kernel_rfl⟩
theorem zqr:qbb (204,ir204):=⟨_,false,false,Tryz.func204,by kernel_rfl⟩
theorem zth:qbb (205,ir205):=⟨_,false,false,Tryz.func205,by kernel_rfl⟩
theorem zpl:qbb (206,ir206):=⟨_,true,true,Tryz.func206,by kernel_rfl⟩
theorem zng:qbb (207,ir207):=⟨_,false,false,Tryz.func207,by kernel_rfl⟩
theorem zny:qbb (223,ir223):=⟨_,false,true,Tryz.func223,by kernel_rfl⟩
theorem zpm:qbb (224,ir224):=⟨_,false,true,Tryz.func224,by kernel_rfl⟩
theorem zql:qbb (225,ir225):=⟨_,false,true,Tryz.func225,by kernel_rfl⟩
theorem zgo:∀p∈tbl,qbb p:=by
 intro p hp
 unfold tbl at hp
 simp only[List.mem_cons,List.not_mem_nil,or_false]at hp
 rcases hp with rfl | rfl | rfl | rfl | rfl | rfl | rfl | rfl | rfl | rfl | rfl | rfl | rfl | rfl | rfl | rfl | rfl | rfl | rfl | rfl | rfl | rfl | rfl | rfl | rfl | rfl | rfl | rfl | rfl | rfl | rfl | rfl | rfl | rfl | rfl | rfl | rfl | rfl | rfl | rfl | rfl | rfl | rfl | rfl | rfl | rfl | rfl | rfl | rfl | rfl | rfl | rfl | rfl | rfl | rfl | rfl | rfl | rfl | rfl | rfl | rfl | rfl | rfl | rfl | rfl | rfl | rfl | rfl | rfl | rfl | rfl | rfl | rfl | rfl | rfl | rfl | rfl | rfl | rfl | rfl | rfl | rfl | rfl | rfl | rfl | rfl | rfl | rfl | rfl | rfl | rfl | rfl | rfl | rfl | rfl | rfl | rfl | rfl | rfl | rfl | rfl | rfl | rfl | rfl | rfl | rfl | rfl | rfl | rfl | rfl | rfl | rfl | rfl | rfl | rfl | rfl | rfl | rfl | rfl | rfl | rfl | rfl | rfl | rfl | rfl | rfl | rfl | rfl | rfl | rfl | rfl | rfl | rfl | rfl | rfl | rfl | rfl | rfl | rfl | rfl | rfl | rfl | rfl | rfl | rfl | rfl | rfl | rfl | rfl | rfl | rfl | rfl | rfl | rfl | rfl | rfl | rfl | rfl | rfl | rfl | rfl | rfl | rfl | rfl | rfl | rfl | rfl | rfl | rfl | rfl | rfl | rfl | rfl | rfl | rfl | rfl | rfl | rfl | rfl | rfl | rfl | rfl | rfl | rfl | rfl | rfl | rfl | rfl | rfl | rfl | rfl | rfl | rfl | rfl | rfl
 .exact jan
 .exact z8d
 .exact z8q
 .exact z1p
 .exact zyl
 .exact zwz
 .exact z1z
 .exact z1o
 .exact zxj
 .exact zyq
 .exact zwp
 .exact z1i
 .exact zwi
 .exact zxl
 .exact zwn
 .exact zzs
 .exact zwl
 .exact z0y
 .exact zzt
 .exact zyh
 .exact z0q
 .exact z0l
 .exact zzv
 .exact z0b
 .exact zym
 .exact zyu
 .exact z0d
 .exact zxw
 .exact z0j
 .exact zyy
 .exact zzy
 .exact zzf
 .exact zzh
 .exact zzi
 .exact z2i
 .exact z1f
 .exact zyz
 .exact z1v
 .exact zyi
 .exact zwx
 .exact z0v
 .exact zxh
 .exact z0g
 .exact zxr
 .exact zyn
 .exact zwq
 .exact zxm
 .exact zzw
 .exact z0u
 .exact zxv
 .exact zya
 .exact zww
 .exact z1a
 .exact zxe
 .exact zyd
 .exact zxk
 .exact z2h
 .exact zvx
 .exact zyo
 .exact zxs
 .exact zzd
 .exact z0o
 .exact z2l
 .exact z0i
 .exact z1s
 .exact zyj
 .exact z2g
 .exact zvw
 .exact zyp
 .exact z1k
 .exact zwo
 .exact zyw
 .exact z0k
 .exact z2d
 .exact zzk
 .exact z1q
 .exact zwd
 .exact zwe
 .exact zxx
 .exact zwk
 .exact z1e
 .exact z0n
 .exact zzm
 .exact z1l
 .exact zxt
 .exact zst
 .exact zmt
 .exact zuk
 .exact zuu
 .exact zpe
 .exact zpy
 .exact zqt
 .exact zon
 .exact zra
 .exact ztn
 .exact zox
 .exact zux
 .exact zoz
 .exact zqu
 .exact zuz
 .exact znh
 .exact zug
 .exact zuy
 .exact zui
 .exact ztg
 .exact zsi
 .exact ztl
 .exact zpv
 .exact zqf
 .exact znb
 .exact zse
 .exact zpn
 .exact zty
 .exact znd
 .exact zoc
 .exact zmx
 .exact ztc
 .exact zot
 .exact znk
 .exact zsw
 .exact ztj
 .exact zom
 .exact zrz
 .exact znz
 .exact zsh
 .exact zuv
 .exact zpu
 .exact znv
 .exact zrb
 .exact ztf
 .exact zpd
 .exact zur
 .exact zuq
 .exact zpq
 .exact znp
 .exact znx
 .exact zsb
 .exact zul
 .exact znu
 .exact zph
 .exact zrx
 .exact zmv
 .exact znn
 .exact zsg
 .exact zmu
 .exact zpa
 .exact zry
 .exact zpp
 .exact zti
 .exact ztz
 .exact zqw
 .exact zuh
 .exact zpb
 .exact zus
 .exact zmw
 .exact zvc
 .exact znc
 .exact zqp
 .exact zmz
 .exact zta
 .exact zoa
 .exact zre
 .exact zoh
 .exact zov
 .exact zof
 .exact zpr
 .exact zva
 .exact zua
 .exact zog
 .exact zpo
 .exact zto
 .exact zum
 .exact zoi
 .exact zrh
 .exact zno
 .exact zqx
 .exact zqi
 .exact zop
 .exact zoe
 .exact zqm
 .exact zqh
 .exact zsv
 .exact zod
 .exact zuf
 .exact ztd
 .exact zqa
 .exact zuj
 .exact zni
 .exact zqr
 .exact zth
 .exact zpl
 .exact zng
 .exact zny
 .exact zpm
 .exact zql
theorem made:∀f g,pg f=some g->∃fn fresh raw,Tryz.prog.funcs[f]?=some fn/\zgn Tryz.prog fresh raw fn=some g:=fun f g h=>zgo (f,g) (q8k h)
@[simp] theorem pg3:pg 3=some ir3:=rfl
@[simp] theorem jed:ir3.raw=false:=rfl
@[simp] theorem pg4:pg 4=some ir4:=rfl
@[simp] theorem jei:ir4.raw=false:=rfl
@[simp] theorem pg9:pg 9=some ir9:=rfl
@[simp] theorem jeq:ir9.raw=false:=rfl
@[simp] theorem pg10:pg 10=some ir10:=rfl
@[simp] theorem jbv:ir10.raw=false:=rfl
@[simp] theorem pg11:pg 11=some ir11:=rfl
@[simp] theorem jbi:ir11.raw=false:=rfl
@[simp] theorem pg12:pg 12=some ir12:=rfl
@[simp] theorem jba:ir12.raw=false:=rfl
@[simp] theorem pg13:pg 13=some ir13:=rfl
@[simp] theorem jeb:ir13.raw=false:=rfl
@[simp] theorem pg14:pg 14=some ir14:=rfl
@[simp] theorem jar:ir14.raw=false:=rfl
@[simp] theorem pg15:pg 15=some ir15:=rfl
@[simp] theorem jaj:ir15.raw=false:=rfl
@[simp] theorem pg16:pg 16=some ir16:=rfl
@[simp] theorem jdd:ir16.raw=false:=rfl
@[simp] theorem pg17:pg 17=some ir17:=rfl
@[simp] theorem jco:ir17.raw=false:=rfl
@[simp] theorem pg18:pg 18=some ir18:=rfl
@[simp] theorem z8g:ir18.raw=false:=rfl
@[simp] theorem pg19:pg 19=some ir19:=rfl
@[simp] theorem jds:ir19.raw=false:=rfl
@[simp] theorem pg20:pg 20=some ir20:=rfl
@[simp] theorem jde:ir20.raw=false:=rfl
@[simp] theorem pg21:pg 21=some ir21:=rfl
@[simp] theorem jck:ir21.raw=false:=rfl
@[simp] theorem pg22:pg 22=some ir22:=rfl
@[simp] theorem jaw:ir22.raw=false:=rfl
@[simp] theorem pg25:pg 25=some ir25:=rfl
@[simp] theorem jao:ir25.raw=false:=rfl
@[simp] theorem pg29:pg 29=some ir29:=rfl
@[simp] theorem jcb:ir29.raw=false:=rfl
@[simp] theorem pg31:pg 31=some ir31:=rfl
@[simp] theorem jdg:ir31.raw=false:=rfl
@[simp] theorem pg33:pg 33=some ir33:=rfl
@[simp] theorem jbc:ir33.raw=false:=rfl
@[simp] theorem pg34:pg 34=some ir34:=rfl
@[simp] theorem jai:ir34.raw=false:=rfl
@[simp] theorem pg35:pg 35=some ir35:=rfl
@[simp] theorem z9j:ir35.raw=false:=rfl
@[simp] theorem pg36:pg 36=some ir36:=rfl
@[simp] theorem z9y:ir36.raw=false:=rfl
@[simp] theorem pg37:pg 37=some ir37:=rfl
@[simp] theorem jbr:ir37.raw=false:=rfl
@[simp] theorem pg38:pg 38=some ir38:=rfl
@[simp] theorem jcl:ir38.raw=false:=rfl
@[simp] theorem pg39:pg 39=some ir39:=rfl
@[simp] theorem jdp:ir39.raw=false:=rfl
@[simp] theorem pg40:pg 40=some ir40:=rfl
@[simp] theorem jak:ir40.raw=true:=rfl
@[simp] theorem pg41:pg 41=some ir41:=rfl
@[simp] theorem jdn:ir41.raw=true:=rfl
@[simp] theorem pg42:pg 42=some ir42:=rfl
@[simp] theorem jbo:ir42.raw=false:=rfl
@[simp] theorem pg43:pg 43=some ir43:=rfl
@[simp] theorem z8n:ir43.raw=false:=rfl
@[simp] theorem pg44:pg 44=some ir44:=rfl
@[simp] theorem jac:ir44.raw=false:=rfl
@[simp] theorem pg45:pg 45=some ir45:=rfl
@[simp] theorem jab:ir45.raw=false:=rfl
@[simp] theorem pg46:pg 46=some ir46:=rfl
@[simp] theorem jdu:ir46.raw=false:=rfl
@[simp] theorem pg47:pg 47=some ir47:=rfl
@[simp] theorem z9c:ir47.raw=true:=rfl
@[simp] theorem pg48:pg 48=some ir48:=rfl
@[simp] theorem jca:ir48.raw=false:=rfl
@[simp] theorem pg49:pg 49=some ir49:=rfl
@[simp] theorem z8p:ir49.raw=false:=rfl
@[simp] theorem pg50:pg 50=some ir50:=rfl
@[simp] theorem z8a:ir50.raw=false:=rfl
@[simp] theorem pg52:pg 52=some ir52:=rfl
@[simp] theorem jda:ir52.raw=false:=rfl
@[simp] theorem pg53:pg 53=some ir53:=rfl
@[simp] theorem jct:ir53.raw=false:=rfl
@[simp] theorem pg54:pg 54=some ir54:=rfl
@[simp] theorem jbt:ir54.raw=false:=rfl
@[simp] theorem pg55:pg 55=some ir55:=rfl
@[simp] theorem jax:ir55.raw=false:=rfl
@[simp] theorem pg56:pg 56=some ir56:=rfl
@[simp] theorem z9o:ir56.raw=false:=rfl
@[simp] theorem pg57:pg 57=some ir57:=rfl
@[simp] theorem jbu:ir57.raw=false:=rfl
@[simp] theorem pg58:pg 58=some ir58:=rfl
@[simp] theorem z9m:ir58.raw=false:=rfl
@[simp] theorem pg59:pg 59=some ir59:=rfl
@[simp] theorem z9v:ir59.raw=false:=rfl
@[simp] theorem pg60:pg 60=some ir60:=rfl
@[simp] theorem jas:ir60.raw=false:=rfl
@[simp] theorem pg61:pg 61=some ir61:=rfl
@[simp] theorem z8l:ir61.raw=false:=rfl
@[simp] theorem pg62:pg 62=some ir62:=rfl
@[simp] theorem jbf:ir62.raw=false:=rfl
@[simp] theorem pg63:pg 63=some ir63:=rfl
@[simp] theorem jbp:ir63.raw=false:=rfl
@[simp] theorem pg64:pg 64=some ir64:=rfl
@[simp] theorem jbm:ir64.raw=false:=rfl
@[simp] theorem pg65:pg 65=some ir65:=rfl
@[simp] theorem z7z:ir65.raw=false:=rfl
@[simp] theorem pg66:pg 66=some ir66:=rfl
@[simp] theorem z8m:ir66.raw=false:=rfl
@[simp] theorem pg67:pg 67=some ir67:=rfl
@[simp] theorem z8c:ir67.raw=false:=rfl
@[simp] theorem pg68:pg 68=some ir68:=rfl
@[simp] theorem jdy:ir68.raw=true:=rfl
@[simp] theorem pg69:pg 69=some ir69:=rfl
@[simp] theorem jch:ir69.raw=true:=rfl
@[simp] theorem pg70:pg 70=some ir70:=rfl
@[simp] theorem jdb:ir70.raw=true:=rfl
@[simp] theorem pg71:pg 71=some ir71:=rfl
@[simp] theorem jdv:ir71.raw=true:=rfl
@[simp] theorem pg72:pg 72=some ir72:=rfl
@[simp] theorem jby:ir72.raw=false:=rfl
@[simp] theorem pg73:pg 73=some ir73:=rfl
@[simp] theorem jcp:ir73.raw=true:=rfl
@[simp] theorem pg74:pg 74=some ir74:=rfl
@[simp] theorem jcy:ir74.raw=true:=rfl
@[simp] theorem pg75:pg 75=some ir75:=rfl
@[simp] theorem jdw:ir75.raw=true:=rfl
@[simp] theorem pg76:pg 76=some ir76:=rfl
@[simp] theorem jal:ir76.raw=true:=rfl
@[simp] theorem pg77:pg 77=some ir77:=rfl
@[simp] theorem z9a:ir77.raw=false:=rfl
@[simp] theorem pg78:pg 78=some ir78:=rfl
@[simp] theorem z7y:ir78.raw=false:=rfl
@[simp] theorem pg79:pg 79=some ir79:=rfl
@[simp] theorem jcw:ir79.raw=true:=rfl
@[simp] theorem pg80:pg 80=some ir80:=rfl
@[simp] theorem jcm:ir80.raw=false:=rfl
@[simp] theorem pg81:pg 81=some ir81:=rfl
@[simp] theorem z8v:ir81.raw=true:=rfl
@[simp] theorem pg82:pg 82=some ir82:=rfl
@[simp] theorem jcn:ir82.raw=false:=rfl
@[simp] theorem pg83:pg 83=some ir83:=rfl
@[simp] theorem z9p:ir83.raw=false:=rfl
@[simp] theorem pg84:pg 84=some ir84:=rfl
@[simp] theorem z8y:ir84.raw=false:=rfl
@[simp] theorem pg85:pg 85=some ir85:=rfl
@[simp] theorem jaf:ir85.raw=false:=rfl
@[simp] theorem pg86:pg 86=some ir86:=rfl
@[simp] theorem jbw:ir86.raw=false:=rfl
@[simp] theorem pg87:pg 87=some ir87:=rfl
@[simp] theorem jcg:ir87.raw=false:=rfl
@[simp] theorem pg88:pg 88=some ir88:=rfl
@[simp] theorem jaz:ir88.raw=false:=rfl
@[simp] theorem pg89:pg 89=some ir89:=rfl
@[simp] theorem jdh:ir89.raw=false:=rfl
@[simp] theorem pg90:pg 90=some ir90:=rfl
@[simp] theorem z8f:ir90.raw=false:=rfl
@[simp] theorem pg91:pg 91=some ir91:=rfl
@[simp] theorem z9k:ir91.raw=false:=rfl
@[simp] theorem pg92:pg 92=some ir92:=rfl
@[simp] theorem jbj:ir92.raw=false:=rfl
@[simp] theorem pg93:pg 93=some ir93:=rfl
@[simp] theorem z8i:ir93.raw=false:=rfl
@[simp] theorem pg94:pg 94=some ir94:=rfl
@[simp] theorem jae:ir94.raw=true:=rfl
@[simp] theorem pg95:pg 95=some ir95:=rfl
@[simp] theorem jcq:ir95.raw=true:=rfl
@[simp] theorem pg96:pg 96=some ir96:=rfl
@[simp] theorem z8x:ir96.raw=true:=rfl
@[simp] theorem pg97:pg 97=some ir97:=rfl
@[simp] theorem jad:ir97.raw=false:=rfl
@[simp] theorem pg98:pg 98=some ir98:=rfl
@[simp] theorem z9t:ir98.raw=true:=rfl
@[simp] theorem pg99:pg 99=some ir99:=rfl
@[simp] theorem jbl:ir99.raw=true:=rfl
@[simp] theorem pg100:pg 100=some ir100:=rfl
@[simp] theorem z2z:ir100.raw=false:=rfl
@[simp] theorem pg101:pg 101=some ir101:=rfl
@[simp] theorem z6v:ir101.raw=false:=rfl
@[simp] theorem pg102:pg 102=some ir102:=rfl
@[simp] theorem z4v:ir102.raw=false:=rfl
@[simp] theorem pg103:pg 103=some ir103:=rfl
@[simp] theorem z2s:ir103.raw=false:=rfl
@[simp] theorem pg104:pg 104=some ir104:=rfl
@[simp] theorem z7k:ir104.raw=false:=rfl
@[simp] theorem pg105:pg 105=some ir105:=rfl
@[simp] theorem z3s:ir105.raw=false:=rfl
@[simp] theorem pg106:pg 106=some ir106:=rfl
@[simp] theorem z3e:ir106.raw=false:=rfl
@[simp] theorem pg107:pg 107=some ir107:=rfl
@[simp] theorem z6c:ir107.raw=false:=rfl
@[simp] theorem pg108:pg 108=some ir108:=rfl
@[simp] theorem z2r:ir108.raw=false:=rfl
@[simp] theorem pg109:pg 109=some ir109:=rfl
@[simp] theorem z4b:ir109.raw=false:=rfl
@[simp] theorem pg110:pg 110=some ir110:=rfl
@[simp] theorem z4o:ir110.raw=false:=rfl
@[simp] theorem pg111:pg 111=some ir111:=rfl
@[simp] theorem z3f:ir111.raw=false:=rfl
@[simp] theorem pg112:pg 112=some ir112:=rfl
@[simp] theorem z4j:ir112.raw=false:=rfl
@[simp] theorem pg113:pg 113=some ir113:=rfl
@[simp] theorem z6j:ir113.raw=false:=rfl
@[simp] theorem pg114:pg 114=some ir114:=rfl
@[simp] theorem z5v:ir114.raw=false:=rfl
@[simp] theorem pg115:pg 115=some ir115:=rfl
@[simp] theorem z4t:ir115.raw=false:=rfl
@[simp] theorem pg116:pg 116=some ir116:=rfl
@[simp] theorem z3k:ir116.raw=false:=rfl
@[simp] theorem pg117:pg 117=some ir117:=rfl
@[simp] theorem z2x:ir117.raw=false:=rfl
@[simp] theorem pg118:pg 118=some ir118:=rfl
@[simp] theorem z5b:ir118.raw=false:=rfl
@[simp] theorem pg119:pg 119=some ir119:=rfl
@[simp] theorem z4w:ir119.raw=false:=rfl
@[simp] theorem pg120:pg 120=some ir120:=rfl
@[simp] theorem z6f:ir120.raw=false:=rfl
@[simp] theorem pg121:pg 121=some ir121:=rfl
@[simp] theorem z5f:ir121.raw=false:=rfl
@[simp] theorem pg122:pg 122=some ir122:=rfl
@[simp] theorem z3o:ir122.raw=false:=rfl
@[simp] theorem pg123:pg 123=some ir123:=rfl
@[simp] theorem z4s:ir123.raw=false:=rfl
@[simp] theorem pg124:pg 124=some ir124:=rfl
@[simp] theorem z2p:ir124.raw=false:=rfl
@[simp] theorem pg125:pg 125=some ir125:=rfl
@[simp] theorem z7u:ir125.raw=false:=rfl
@[simp] theorem pg126:pg 126=some ir126:=rfl
@[simp] theorem z4l:ir126.raw=false:=rfl
@[simp] theorem pg127:pg 127=some ir127:=rfl
@[simp] theorem z4c:ir127.raw=false:=rfl
@[simp] theorem pg128:pg 128=some ir128:=rfl
@[simp] theorem z7t:ir128.raw=false:=rfl
@[simp] theorem pg129:pg 129=some ir129:=rfl
@[simp] theorem z6a:ir129.raw=false:=rfl
@[simp] theorem pg130:pg 130=some ir130:=rfl
@[simp] theorem z5k:ir130.raw=false:=rfl
@[simp] theorem pg131:pg 131=some ir131:=rfl
@[simp] theorem z2q:ir131.raw=false:=rfl
@[simp] theorem pg132:pg 132=some ir132:=rfl
@[simp] theorem z4f:ir132.raw=false:=rfl
@[simp] theorem pg133:pg 133=some ir133:=rfl
@[simp] theorem z2t:ir133.raw=true:=rfl
@[simp] theorem pg134:pg 134=some ir134:=rfl
@[simp] theorem z5l:ir134.raw=true:=rfl
@[simp] theorem pg135:pg 135=some ir135:=rfl
@[simp] theorem z5m:ir135.raw=true:=rfl
@[simp] theorem pg136:pg 136=some ir136:=rfl
@[simp] theorem z5h:ir136.raw=true:=rfl
@[simp] theorem pg137:pg 137=some ir137:=rfl
@[simp] theorem z7l:ir137.raw=true:=rfl
@[simp] theorem pg138:pg 138=some ir138:=rfl
@[simp] theorem z6w:ir138.raw=true:=rfl
@[simp] theorem pg139:pg 139=some ir139:=rfl
@[simp] theorem z3j:ir139.raw=false:=rfl
@[simp] theorem pg140:pg 140=some ir140:=rfl
@[simp] theorem z6k:ir140.raw=true:=rfl
@[simp] theorem pg141:pg 141=some ir141:=rfl
@[simp] theorem z3v:ir141.raw=true:=rfl
@[simp] theorem pg143:pg 143=some ir143:=rfl
@[simp] theorem z2v:ir143.raw=false:=rfl
@[simp] theorem pg144:pg 144=some ir144:=rfl
@[simp] theorem z6h:ir144.raw=false:=rfl
@[simp] theorem pg145:pg 145=some ir145:=rfl
@[simp] theorem z7g:ir145.raw=false:=rfl
@[simp] theorem pg146:pg 146=some ir146:=rfl
@[simp] theorem z6i:ir146.raw=false:=rfl
@[simp] theorem pg147:pg 147=some ir147:=rfl
@[simp] theorem z5e:ir147.raw=false:=rfl
@[simp] theorem pg148:pg 148=some ir148:=rfl
@[simp] theorem z4p:ir148.raw=false:=rfl
@[simp] theorem pg149:pg 149=some ir149:=rfl
@[simp] theorem z3c:ir149.raw=false:=rfl
@[simp] theorem pg150:pg 150=some ir150:=rfl
@[simp] theorem z3t:ir150.raw=false:=rfl
@[simp] theorem pg151:pg 151=some ir151:=rfl
@[simp] theorem z5x:ir151.raw=false:=rfl
@[simp] theorem pg152:pg 152=some ir152:=rfl
@[simp] theorem z4z:ir152.raw=false:=rfl
@[simp] theorem pg153:pg 153=some ir153:=rfl
@[simp] theorem z3g:ir153.raw=false:=rfl
@[simp] theorem pg154:pg 154=some ir154:=rfl
@[simp] theorem z5j:ir154.raw=true:=rfl
@[simp] theorem pg155:pg 155=some ir155:=rfl
@[simp] theorem z4g:ir155.raw=false:=rfl
@[simp] theorem pg156:pg 156=some ir156:=rfl
@[simp] theorem z7f:ir156.raw=false:=rfl
@[simp] theorem pg157:pg 157=some ir157:=rfl
@[simp] theorem z2w:ir157.raw=false:=rfl
@[simp] theorem pg158:pg 158=some ir158:=rfl
@[simp] theorem z6e:ir158.raw=true:=rfl
@[simp] theorem pg159:pg 159=some ir159:=rfl
@[simp] theorem z6x:ir159.raw=false:=rfl
@[simp] theorem pg160:pg 160=some ir160:=rfl
@[simp] theorem z5s:ir160.raw=true:=rfl
@[simp] theorem pg161:pg 161=some ir161:=rfl
@[simp] theorem z7e:ir161.raw=true:=rfl
@[simp] theorem pg162:pg 162=some ir162:=rfl
@[simp] theorem z6s:ir162.raw=true:=rfl
@[simp] theorem pg163:pg 163=some ir163:=rfl
@[simp] theorem z6y:ir163.raw=false:=rfl
@[simp] theorem pg164:pg 164=some ir164:=rfl
@[simp] theorem z5i:ir164.raw=true:=rfl
@[simp] theorem pg165:pg 165=some ir165:=rfl
@[simp] theorem z4h:ir165.raw=true:=rfl
@[simp] theorem pg166:pg 166=some ir166:=rfl
@[simp] theorem z6z:ir166.raw=true:=rfl
@[simp] theorem pg167:pg 167=some ir167:=rfl
@[simp] theorem z5y:ir167.raw=false:=rfl
@[simp] theorem pg168:pg 168=some ir168:=rfl
@[simp] theorem z5d:ir168.raw=false:=rfl
@[simp] theorem pg169:pg 169=some ir169:=rfl
@[simp] theorem z3l:ir169.raw=false:=rfl
@[simp] theorem pg170:pg 170=some ir170:=rfl
@[simp] theorem z5z:ir170.raw=false:=rfl
@[simp] theorem pg171:pg 171=some ir171:=rfl
@[simp] theorem z3x:ir171.raw=false:=rfl
@[simp] theorem pg172:pg 172=some ir172:=rfl
@[simp] theorem z6t:ir172.raw=false:=rfl
@[simp] theorem pg173:pg 173=some ir173:=rfl
@[simp] theorem z7w:ir173.raw=false:=rfl
@[simp] theorem pg174:pg 174=some ir174:=rfl
@[simp] theorem z6n:ir174.raw=false:=rfl
@[simp] theorem pg175:pg 175=some ir175:=rfl
@[simp] theorem z6d:ir175.raw=true:=rfl
@[simp] theorem pg176:pg 176=some ir176:=rfl
@[simp] theorem z5q:ir176.raw=false:=rfl
@[simp] theorem pg177:pg 177=some ir177:=rfl
@[simp] theorem z3p:ir177.raw=false:=rfl
@[simp] theorem pg178:pg 178=some ir178:=rfl
@[simp] theorem z5o:ir178.raw=false:=rfl
@[simp] theorem pg179:pg 179=some ir179:=rfl
@[simp] theorem z5t:ir179.raw=true:=rfl
@[simp] theorem pg180:pg 180=some ir180:=rfl
@[simp] theorem z6r:ir180.raw=false:=rfl
@[simp] theorem pg181:pg 181=some ir181:=rfl
@[simp] theorem z3d:ir181.raw=false:=rfl
@[simp] theorem pg182:pg 182=some ir182:=rfl
@[simp] theorem z3h:ir182.raw=true:=rfl
@[simp] theorem pg183:pg 183=some ir183:=rfl
@[simp] theorem z7o:ir183.raw=true:=rfl
@[simp] theorem pg184:pg 184=some ir184:=rfl
@[simp] theorem z7b:ir184.raw=false:=rfl
@[simp] theorem pg185:pg 185=some ir185:=rfl
@[simp] theorem z7p:ir185.raw=false:=rfl
@[simp] theorem pg186:pg 186=some ir186:=rfl
@[simp] theorem z2n:ir186.raw=false:=rfl
@[simp] theorem pg187:pg 187=some ir187:=rfl
@[simp] theorem z6m:ir187.raw=false:=rfl
@[simp] theorem pg188:pg 188=some ir188:=rfl
@[simp] theorem z3u:ir188.raw=true:=rfl
@[simp] theorem pg189:pg 189=some ir189:=rfl
@[simp] theorem z4m:ir189.raw=false:=rfl
@[simp] theorem pg190:pg 190=some ir190:=rfl
@[simp] theorem z5n:ir190.raw=true:=rfl
@[simp] theorem pg191:pg 191=some ir191:=rfl
@[simp] theorem z5p:ir191.raw=true:=rfl
@[simp] theorem pg192:pg 192=some ir192:=rfl
@[simp] theorem z7n:ir192.raw=false:=rfl
@[simp] theorem pg193:pg 193=some ir193:=rfl
@[simp] theorem z4n:ir193.raw=false:=rfl
@[simp] theorem pg194:pg 194=some ir194:=rfl
@[simp] theorem z4u:ir194.raw=false:=rfl
@[simp] theorem pg195:pg 195=some ir195:=rfl
@[simp] theorem z4r:ir195.raw=false:=rfl
@[simp] theorem pg196:pg 196=some ir196:=rfl
@[simp] theorem z4k:ir196.raw=false:=rfl
@[simp] theorem pg197:pg 197=some ir197:=rfl
@[simp] theorem z4d:ir197.raw=false:=rfl
@[simp] theorem pg198:pg 198=some ir198:=rfl
@[simp] theorem z3b:ir198.raw=false:=rfl
@[simp] theorem pg199:pg 199=some ir199:=rfl
@[simp] theorem z5w:ir199.raw=false:=rfl
@[simp] theorem pg200:pg 200=some ir200:=rfl
@[simp] theorem z7j:ir200.raw=false:=rfl
@[simp] theorem pg201:pg 201=some ir201:=rfl
@[simp] theorem z6p:ir201.raw=false:=rfl
@[simp] theorem pg202:pg 202=some ir202:=rfl
@[simp] theorem z7h:ir202.raw=false:=rfl
@[simp] theorem pg203:pg 203=some ir203:=rfl
@[simp] theorem z5c:ir203.raw=false:=rfl
@[simp] theorem pg204:pg 204=some ir204:=rfl
@[simp] theorem z7v:ir204.raw=false:=rfl
@[simp] theorem pg205:pg 205=some ir205:=rfl
@[simp] theorem z7r:ir205.raw=false:=rfl
@[simp] theorem pg206:pg 206=some ir206:=rfl
@[simp] theorem z3m:ir206.raw=true:=rfl
@[simp] theorem pg207:pg 207=some ir207:=rfl
@[simp] theorem z3z:ir207.raw=false:=rfl
@[simp] theorem pg223:pg 223=some ir223:=rfl
@[simp] theorem z3q:ir223.raw=true:=rfl
@[simp] theorem pg224:pg 224=some ir224:=rfl
@[simp] theorem z7d:ir224.raw=true:=rfl
@[simp] theorem pg225:pg 225=some ir225:=rfl
@[simp] theorem z3n:ir225.raw=true:=rfl
end Go.Proofs.YtlhciedghbmjjaaGreat
