/- The program that Am runs: the table of the functions. -/
import Derived.Test.YtddeacahiilikaaGreatMIr6
set_option linter.all false
namespace Go.Proofs.YtddeacahiilikaaGreat
open Go Go.Am Go.Proofs
set_option maxRecDepth 100000
def find:List (Nat×Fun)->Nat->Option Fun
 | [],_=>none
 | (k,g) :: r,f=>if f=k then some g else find r f
theorem q4m:∀{l:List (Nat×Fun)} {f:Nat} {g:Fun},find l f=some g->(f,g)∈l
 | (k,g') :: r,f,g,h=>by
  simp only[find]at h
  split at h
  .rename_i e;cases h;subst e;exact List.mem_cons_self
  .exact List.mem_cons_of_mem _ (q4m h)
def qbc(p:Nat×Fun):Prop:=∃fn fresh raw,Tryz.prog.funcs[p.1]?=some fn/\zfg Tryz.prog fresh raw fn=some p.2
def tbl:List (Nat×Fun):=[(4,ir4),(11,ir11),(12,ir12),(14,ir14),(15,ir15),(16,ir16),(17,ir17),(18,ir18),(19,ir19),(20,ir20),(21,ir21),(25,ir25),(28,ir28),(30,ir30),(40,ir40),(43,ir43),(44,ir44),(45,ir45),(46,ir46),(47,ir47),(48,ir48),(49,ir49),(50,ir50),(51,ir51),(52,ir52),(53,ir53),(54,ir54),(55,ir55),(56,ir56),(57,ir57),(58,ir58),(59,ir59),(60,ir60),(61,ir61),(74,ir74),(76,ir76),(77,ir77),(78,ir78),(79,ir79),(82,ir82),(91,ir91),(105,ir105),(106,ir106),(109,ir109),(110,ir110),(111,ir111),(112,ir112),(113,ir113),(114,ir114),(115,ir115),(116,ir116),(117,ir117),(118,ir118),(119,ir119),(120,ir120),(121,ir121),(122,ir122),(123,ir123),(124,ir124),(125,ir125),(126,ir126),(127,ir127),(128,ir128),(129,ir129),(130,ir130),(131,ir131),(132,ir132),(148,ir148),(149,ir149),(150,ir150),(151,ir151),(152,ir152),(153,ir153),(154,ir154),(155,ir155),(156,ir156),(157,ir157),(162,ir162),(163,ir163),(178,ir178),(180,ir180),(181,ir181),(183,ir183),(184,ir184),(185,ir185),(186,ir186),(187,ir187),(188,ir188),(189,ir189),(190,ir190),(191,ir191),(192,ir192),(193,ir193),(194,ir194),(195,ir195),(196,ir196),(197,ir197),(198,ir198),(199,ir199),(200,ir200),(201,ir201),(202,ir202),(203,ir203),(204,ir204),(205,ir205),(206,ir206),(209,ir209),(210,ir210),(228,ir228),(229,ir229),(230,ir230),(231,ir231),(232,ir232),(233,ir233),(234,ir234),(235,ir235),(236,ir236),(237,ir237),(238,ir238),(239,ir239),(240,ir240),(241,ir241),(242,ir242),(243,ir243),(244,ir244),(245,ir245),(246,ir246),(247,ir247),(248,ir248),(249,ir249),(250,ir250),(251,ir251),(253,ir253),(270,ir270),(271,ir271),(272,ir272),(273,ir273),(274,ir274),(275,ir275),(276,ir276),(277,ir277),(278,ir278),(279,ir279),(280,ir280),(281,ir281),(282,ir282),(283,ir283),(284,ir284),(285,ir285),(294,ir294),(295,ir295),(296,ir296),(297,ir297),(298,ir298),(299,ir299),(300,ir300),(301,ir301),(302,ir302),(303,ir303),(306,ir306),(307,ir307),(308,ir308),(309,ir309),(310,ir310),(311,ir311),(312,ir312),(313,ir313),(315,ir315),(316,ir316),(335,ir335),(336,ir336),(337,ir337)]
def pg:Prg:=find tbl
theorem z5e:qbc (4,ir4):=⟨_,false,false,Tryz.func4,by kernel_rfl⟩
theorem zut:qbc (11,ir11):=⟨_,false,false,Tryz.func11,by kernel_rfl⟩
theorem zuu:qbc (12,ir12):=⟨_,false,false,Tryz.func12,by kernel_rfl⟩
theorem zuv:qbc (14,ir14):=⟨_,false,false,Tryz.func14,by kernel_rfl⟩
theorem zuw:qbc (15,ir15):=⟨_,false,false,Tryz.func15,by kernel_rfl⟩
theorem zux:qbc (16,ir16):=⟨_,false,false,Tryz.func16,by kernel_rfl⟩
theorem zuy:qbc (17,ir17):=⟨_,false,false,Tryz.func17,by kernel_rfl⟩
theorem zuz:qbc (18,ir18):=⟨_,false,false,Tryz.func18,by kernel_rfl⟩
theorem zva:qbc (19,ir19):=⟨_,false,false,Tryz.func19,by kernel_rfl⟩
theorem zvb:qbc (20,ir20):=⟨_,false,false,Tryz.func20,by kernel_rfl⟩
theorem zvc:qbc (21,ir21):=⟨_,false,false,Tryz.func21,by kernel_rfl⟩
theorem zvd:qbc (25,ir25):=⟨_,false,false,Tryz.func25,by kernel_rfl⟩
theorem zve:qbc (28,ir28):=⟨_,false,false,Tryz.func28,by kernel_rfl⟩
theorem zvf:qbc (30,ir30):=⟨_,false,false,Tryz.func30,by kernel_rfl⟩
theorem zvg:qbc (40,ir40):=⟨_,false,false,Tryz.func40,by kernel_rfl⟩
theorem zvh:qbc (43,ir43):=⟨_,false,false,Tryz.func43,by kernel_rfl⟩
theorem zvi:qbc (44,ir44):=⟨_,false,false,Tryz.func44,by kernel_rfl⟩
theorem zvj:qbc (45,ir45):=⟨_,false,false,Tryz.func45,by kernel_rfl⟩
theorem zvk:qbc (46,ir46):=⟨_,false,false,Tryz.func46,by kernel_rfl⟩
theorem zvl:qbc (47,ir47):=⟨_,false,false,Tryz.func47,by kernel_rfl⟩
theorem zvm:qbc (48,ir48):=⟨_,false,false,Tryz.func48,by kernel_rfl⟩
theorem zvn:qbc (49,ir49):=⟨_,false,false,Tryz.func49,by kernel_rfl⟩
theorem zvo:qbc (50,ir50):=⟨_,false,false,Tryz.func50,by kernel_rfl⟩
theorem zvp:qbc (51,ir51):=⟨_,false,false,Tryz.func51,by kernel_rfl⟩
theorem zvq:qbc (52,ir52):=⟨_,false,false,Tryz.func52,by kernel_rfl⟩
theorem zvr:qbc (53,ir53):=⟨_,false,false,Tryz.func53,by kernel_rfl⟩
theorem zvs:qbc (54,ir54):=⟨_,false,false,Tryz.func54,by kernel_rfl⟩
theorem zvt:qbc (55,ir55):=⟨_,false,false,Tryz.func55,by kernel_rfl⟩
theorem zvu:qbc (56,ir56):=⟨_,false,false,Tryz.func56,by kernel_rfl⟩
theorem zvv:qbc (57,ir57):=⟨_,false,false,Tryz.func57,by kernel_rfl⟩
theorem zvw:qbc (58,ir58):=⟨_,false,false,Tryz.func58,by kernel_rfl⟩
theorem zvx:qbc (59,ir59):=⟨_,false,false,Tryz.func59,by kernel_rfl⟩
theorem zvy:qbc (60,ir60):=⟨_,false,false,Tryz.func60,by kernel_rfl⟩
theorem zvz:qbc (61,ir61):=⟨_,false,false,Tryz.func61,by kernel_rfl⟩
theorem zwa:qbc (74,ir74):=⟨_,false,false,Tryz.func74,by kernel_rfl⟩
theorem zwb:qbc (76,ir76):=⟨_,false,false,Tryz.func76,by kernel_rfl⟩
theorem zwc:qbc (77,ir77):=⟨_,false,true,Tryz.func77,by kernel_rfl⟩
theorem zwd:qbc (78,ir78):=⟨_,false,true,Tryz.func78,by kernel_rfl⟩
theorem zwe:qbc (79,ir79):=⟨_,false,false,Tryz.func79,by kernel_rfl⟩
theorem zwf:qbc (82,ir82):=⟨_,false,false,Tryz.func82,by kernel_rfl⟩
theorem zwg:qbc (91,ir91):=⟨_,false,false,Tryz.func91,by kernel_rfl⟩
theorem zlk:qbc (105,ir105):=⟨_,true,false,Tryz.func105,by kernel_rfl⟩
theorem zll:qbc (106,ir106):=⟨_,true,false,Tryz.func106,by kernel_rfl⟩
theorem zlm:qbc (109,ir109):=⟨_,false,true,Tryz.func109,by kernel_rfl⟩
theorem zln:qbc (110,ir110):=⟨_,false,false,Tryz.func110,by kernel_rfl⟩
theorem zlo:qbc (111,ir111):=⟨_,false,false,Tryz.func111,by kernel_rfl⟩
theorem zlp:qbc (112,ir112):=⟨_,false,false,Tryz.func112,by kernel_rfl⟩
theorem zlq:qbc (113,ir113):=⟨_,false,false,Tryz.func113,by kernel_rfl⟩
theorem zlr:qbc (114,ir114):=⟨_,false,false,Tryz.func114,by kernel_rfl⟩
theorem zls:qbc (115,ir115):=⟨_,false,false,Tryz.func115,by kernel_rfl⟩
theorem zlt:qbc (116,ir116):=⟨_,true,false,Tryz.func116,by kernel_rfl⟩
theorem zlu:qbc (117,ir117):=⟨_,false,true,Tryz.func117,by kernel_rfl⟩
theorem zlv:qbc (118,ir118):=⟨_,false,true,Tryz.func118,by kernel_rfl⟩
theorem zlw:qbc (119,ir119):=⟨_,false,true,Tryz.func119,by kernel_rfl⟩
theorem zlx:qbc (120,ir120):=⟨_,true,false,Tryz.func120,by kernel_rfl⟩
theorem zly:qbc (121,ir121):=⟨_,false,false,Tryz.func121,by kernel_rfl⟩
theorem zlz:qbc (122,ir122):=⟨_,false,false,Tryz.func122,by kernel_rfl⟩
theorem zma:qbc (123,ir123):=⟨_,false,true,Tryz.func123,by kernel_rfl⟩
theorem zmb:qbc (124,ir124):=⟨_,false,false,Tryz.func124,by kernel_rfl⟩
theorem zmc:qbc (125,ir125):=⟨_,false,false,Tryz.func125,by kernel_rfl⟩
theorem zmd:qbc (126,ir126):=⟨_,false,false,Tryz.func126,by kernel_rfl⟩
theorem zme:qbc (127,ir127):=⟨_,false,false,Tryz.func127,by kernel_rfl⟩
theorem zmf:qbc (128,ir128):=⟨_,false,false,Tryz.func128,by kernel_rfl⟩
theorem zmg:qbc (129,ir129):=⟨_,false,false,Tryz.func129,by kernel_rfl⟩
theorem zmh:qbc (130,ir130):=⟨_,false,false,Tryz.func130,by kernel_rfl⟩
theorem zmi:qbc (131,ir131):=⟨_,false,false,Tryz.func131,by kernel_rfl⟩
theorem zmj:qbc (132,ir132):=⟨_,false,false,Tryz.func132,by kernel_rfl⟩
theorem zmk:qbc (148,ir148):=⟨_,false,false,Tryz.func148,by kernel_rfl⟩
theorem zml:qbc (149,ir149):=⟨_,false,false,Tryz.func149,by kernel_rfl⟩
theorem zmm:qbc (150,ir150):=⟨_,false,false,Tryz.func150,by kernel_rfl⟩
theorem zmn:qbc (151,ir151):=⟨_,false,false,Tryz.func151,by kernel_rfl⟩
theorem zmo:qbc (152,ir152):=⟨_,false,true,Tryz.func152,by kernel_rfl⟩
theorem zmp:qbc (153,ir153):=⟨_,false,true,Tryz.func153,by kernel_rfl⟩
theorem zmq:qbc (154,ir154):=⟨_,false,true,Tryz.func154,by kernel_rfl⟩
theorem zmr:qbc (155,ir155):=⟨_,false,true,Tryz.func155,by kernel_rfl⟩
theorem zms:qbc (156,ir156):=⟨_,false,true,Tryz.func156,by kernel_rfl⟩
theorem zmt:qbc (157,ir157):=⟨_,true,true,Tryz.func157,by kernel_rfl⟩
theorem zmu:qbc (162,ir162):=⟨_,false,false,Tryz.func162,by kernel_rfl⟩
theorem zmv:qbc (163,ir163):=⟨_,false,false,Tryz.func163,by kernel_rfl⟩
theorem zmw:qbc (178,ir178):=⟨_,false,false,Tryz.func178,by kernel_rfl⟩
theorem zmx:qbc (180,ir180):=⟨_,false,false,Tryz.func180,by kernel_rfl⟩
theorem zmy:qbc (181,ir181):=⟨_,false,false,Tryz.func181,by kernel_rfl⟩
theorem zmz:qbc (183,ir183):=⟨_,false,false,Tryz.func183,by kernel_rfl⟩
theorem zna:qbc (184,ir184):=⟨_,false,false,Tryz.func184,by kernel_rfl⟩
theorem znb:qbc (185,ir185):=⟨_,false,false,Tryz.func185,by kernel_rfl⟩
theorem znc:qbc (186,ir186):=⟨_,false,false,Tryz.func186,by kernel_rfl⟩
theorem znd:qbc (187,ir187):=⟨_,false,false,Tryz.func187,by kernel_rfl⟩
theorem zne:qbc (188,ir188):=⟨_,false,false,Tryz.func188,by kernel_rfl⟩
theorem znf:qbc (189,ir189):=⟨_,false,false,Tryz.func189,by kernel_rfl⟩
theorem zng:qbc (190,ir190):=⟨_,true,false,Tryz.func190,by kernel_rfl⟩
theorem znh:qbc (191,ir191):=⟨_,true,false,Tryz.func191,by kernel_rfl⟩
theorem zni:qbc (192,ir192):=⟨_,false,false,Tryz.func192,by kernel_rfl⟩
theorem znj:qbc (193,ir193):=⟨_,false,false,Tryz.func193,by kernel_rfl⟩
theorem znk:qbc (194,ir194):=⟨_,false,false,Tryz.func194,by kernel_rfl⟩
theorem znl:qbc (195,ir195):=⟨_,true,false,Tryz.func195,by kernel_rfl⟩
theorem znm:qbc (196,ir196):=⟨_,false,false,Tryz.func196,by kernel_rfl⟩
theorem znn:qbc (197,ir197):=⟨_,true,true,Tryz.func197,by kernel_rfl⟩
theorem zno:qbc (198,ir198):=⟨_,false,false,Tryz.func198,by kernel_rfl⟩
theorem znp:qbc (199,ir199):=⟨_,false,false,Tryz.func199,by kernel_rfl⟩
theorem znq:qbc (200,ir200):=⟨_,false,false,Tryz.func200,by kernel_rfl⟩
theorem znr:qbc (201,ir201):=⟨_,false,false,Tryz.func201,by kernel_rfl⟩
theorem zns:qbc (202,ir202):=⟨_,false,false,Tryz.func202,by kernel_rfl⟩
theorem znt:qbc (203,ir203):=⟨_,false,false,Tryz.func203,by kernel_rfl⟩
theorem znu:qbc (204,ir204):=⟨_,false,false,Tryz.func204,by kernel_rfl⟩
theorem znv:qbc (205,ir205):=⟨_,false,false,Tryz.func205,by kernel_rfl⟩
theorem znw:qbc (206,ir206):=⟨_,false,false,Tryz.func206,by kernel_rfl⟩
theorem znx:qbc (209,ir209):=⟨_,false,true,Tryz.func209,by kernel_rfl⟩
theorem zny:qbc (210,ir210):=⟨_,false,false,Tryz.func210,by kernel_rfl⟩
theorem znz:qbc (228,ir228):=⟨_,false,false,Tryz.func228,by kernel_rfl⟩
theorem zoa:qbc (229,ir229):=⟨_,false,false,Tryz.func229,by kernel_rfl⟩
theorem zob:qbc (230,ir230):=⟨_,false,false,Tryz.func230,by kernel_rfl⟩
theorem zoc:qbc (231,ir231):=⟨_,false,false,Tryz.func231,by kernel_rfl⟩
theorem zod:qbc (232,ir232):=⟨_,false,false,Tryz.func232,by kernel_rfl⟩
theorem zoe:qbc (233,ir233):=⟨_,false,false,Tryz.func233,by kernel_rfl⟩
theorem zof:qbc (234,ir234):=⟨_,false,false,Tryz.func234,by kernel_rfl⟩
theorem zog:qbc (235,ir235):=⟨_,false,true,Tryz.func235,by kernel_rfl⟩
theorem zoh:qbc (236,ir236):=⟨_,false,false,Tryz.func236,by kernel_rfl⟩
theorem zoi:qbc (237,ir237):=⟨_,false,true,Tryz.func237,by kernel_rfl⟩
theorem zoj:qbc (238,ir238):=⟨_,false,false,Tryz.func238,by kernel_rfl⟩
theorem zok:qbc (239,ir239):=⟨_,false,true,Tryz.func239,by kernel_rfl⟩
theorem zol:qbc (240,ir240):=⟨_,true,true,Tryz.func240,by kernel_rfl⟩
theorem zom:qbc (241,ir241):=⟨_,false,false,Tryz.func241,by kernel_rfl⟩
theorem zon:qbc (242,ir242):=⟨_,false,false,Tryz.func242,by kernel_rfl⟩
theorem zoo:qbc (243,ir243):=⟨_,false,true,Tryz.func243,by kernel_rfl⟩
theorem zop:qbc (244,ir244):=⟨_,false,true,Tryz.func244,by kernel_rfl⟩
theorem zoq:qbc (245,ir245):=⟨_,false,true,Tryz.func245,by kernel_rfl⟩
theorem zor:qbc (246,ir246):=⟨_,false,true,Tryz.func246,by kernel_rfl⟩
theorem zos:qbc (247,ir247):=⟨_,false,true,Tryz.func247,by kernel_rfl⟩
theorem zot:qbc (248,ir248):=⟨_,false,true,Tryz.func248,by kernel_rfl⟩
theorem zou:qbc (249,ir249):=⟨_,false,false,Tryz.func249,by kernel_rfl⟩
theorem zov:qbc (250,ir250):=⟨_,false,true,Tryz.func250,by kernel_rfl⟩
theorem zow:qbc (251,ir251):=⟨_,false,true,Tryz.func251,by kernel_rfl⟩
theorem zox:qbc (253,ir253):=⟨_,false,false,Tryz.func253,by kernel_rfl⟩
theorem zoy:qbc (270,ir270):=⟨_,false,false,Tryz.func270,by kernel_rfl⟩
theorem zoz:qbc (271,ir271):=⟨_,false,false,Tryz.func271,by kernel_rfl⟩
theorem zpa:qbc (272,ir272):=⟨_,false,true,Tryz.func272,by kernel_rfl⟩
theorem zpb:qbc (273,ir273):=⟨_,false,false,Tryz.func273,by kernel_rfl⟩
theorem zpc:qbc (274,ir274):=⟨_,false,false,Tryz.func274,by kernel_rfl⟩
theorem zpd:qbc (275,ir275):=⟨_,false,true,Tryz.func275,by kernel_rfl⟩
theorem zpe:qbc (276,ir276):=⟨_,false,false,Tryz.func276,by kernel_rfl⟩
theorem zpf:qbc (277,ir277):=⟨_,true,false,Tryz.func277,by kernel_rfl⟩
theorem zpg:qbc (278,ir278):=⟨_,false,true,Tryz.func278,by kernel_rfl⟩
theorem zph:qbc (279,ir279):=⟨_,false,false,Tryz.func279,by kernel_rfl⟩
theorem zpi:qbc (280,ir280):=⟨_,false,true,Tryz.func280,by kernel_rfl⟩
theorem zpj:qbc (281,ir281):=⟨_,false,false,Tryz.func281,by kernel_rfl⟩
theorem zpk:qbc (282,ir282):=⟨_,false,true,Tryz.func282,by kernel_rfl⟩
theorem zpl:qbc (283,ir283):=⟨_,false,true,Tryz.func283,by kernel_rfl⟩
theorem zpm:qbc (284,ir284):=⟨_,false,true,Tryz.func284,by kernel_rfl⟩
theorem zpn:qbc (285,ir285):=⟨_,false,false,Tryz.func285,by kernel_rfl⟩
theorem zpo:qbc (294,ir294):=⟨_,false,false,Tryz.func294,by kernel_rfl⟩
theorem zpp:qbc (295,ir295):=⟨_,false,false,Tryz.func295,by kernel_rfl⟩
theorem zpq:qbc (296,ir296):=⟨_,false,false,Tryz.func296,by kernel_rfl⟩
theorem zpr:qbc (297,ir297):=⟨_,false,true,Tryz.func297,by kernel_rfl⟩
theorem zps:qbc (298,ir298):=⟨_,false,false,Tryz.func298,by kernel_rfl⟩
theorem zpt:qbc (299,ir299):=⟨_,false,true,Tryz.func299,by kernel_rfl⟩
theorem zpu:qbc (300,ir300):=⟨_,true,true,Tryz.func300,by kernel_rfl⟩
theorem zpv:qbc (301,ir301):=⟨_,false,false,Tryz.func301,by kernel_rfl⟩
theorem zpw:qbc (302,ir302):=⟨_,false,false,Tryz.func302,by kernel_rfl⟩
theorem zpx:qbc (303,ir303):=⟨_,false,true,Tryz.func303,by kernel_rfl⟩
theorem zpy:qbc (306,ir306):=⟨_,false,false,Tryz.func306,by kernel_rfl⟩
theorem zpz:qbc (307,ir307):=⟨_,true,false,Tryz.func307,by kernel_rfl⟩
theorem zqa:qbc (308,ir308):=⟨_,false,false,Tryz.func308,by kernel_rfl⟩
theorem zqb:qbc (309,ir309):=⟨_,false,false,Tryz.func309,by kernel_rfl⟩
theorem zqc:qbc (310,ir310):=⟨_,false,false,Tryz.func310,by kernel_rfl⟩
theorem zqd:qbc (311,ir311):=⟨_,false,false,Tryz.func311,by kernel_rfl⟩
theorem zqe:qbc (312,ir312):=⟨_,false,false,Tryz.func312,by kernel_rfl⟩
theorem zqf:qbc (313,ir313):=⟨_,false,false,Tryz.func313,by kernel_rfl⟩
theorem zqg:qbc (315,ir315):=⟨_,true,true,Tryz.func315,by kernel_rfl⟩
theorem zqh:qbc (316,ir316):=⟨_,false,false,Tryz.func316,by kernel_rfl⟩
theorem zqi:qbc (335,ir335):=⟨_,false,true,Tryz.func335,by kernel_rfl⟩
theorem zqj:qbc (336,ir336):=⟨_,false,true,Tryz.func336,by kernel_rfl⟩
theorem zqk:qbc (337,ir337):=⟨_,false,true,Tryz.func337,by kernel_rfl⟩
theorem zie:∀p∈tbl,qbc p:=by
 intro p hp
 unfold tbl at hp
 simp only[List.mem_cons,List.not_mem_nil,or_false]at hp
 rcases hp with rfl | rfl | rfl | rfl | rfl | rfl | rfl | rfl | rfl | rfl | rfl | rfl | rfl | rfl | rfl | rfl | rfl | rfl | rfl | rfl | rfl | rfl | rfl | rfl | rfl | rfl | rfl | rfl | rfl | rfl | rfl | rfl | rfl | rfl | rfl | rfl | rfl | rfl | rfl | rfl | rfl | rfl | rfl | rfl | rfl | rfl | rfl | rfl | rfl | rfl | rfl | rfl | rfl | rfl | rfl | rfl | rfl | rfl | rfl | rfl | rfl | rfl | rfl | rfl | rfl | rfl | rfl | rfl | rfl | rfl | rfl | rfl | rfl | rfl | rfl | rfl | rfl | rfl | rfl | rfl | rfl | rfl | rfl | rfl | rfl | rfl | rfl | rfl | rfl | rfl | rfl | rfl | rfl | rfl | rfl | rfl | rfl | rfl | rfl | rfl | rfl | rfl | rfl | rfl | rfl | rfl | rfl | rfl | rfl | rfl | rfl | rfl | rfl | rfl | rfl | rfl | rfl | rfl | rfl | rfl | rfl | rfl | rfl | rfl | rfl | rfl | rfl | rfl | rfl | rfl | rfl | rfl | rfl | rfl | rfl | rfl | rfl | rfl | rfl | rfl | rfl | rfl | rfl | rfl | rfl | rfl | rfl | rfl | rfl | rfl | rfl | rfl | rfl | rfl | rfl | rfl | rfl | rfl | rfl | rfl | rfl | rfl | rfl | rfl | rfl | rfl | rfl | rfl | rfl | rfl | rfl | rfl
 .exact z5e
 .exact zut
 .exact zuu
 .exact zuv
 .exact zuw
 .exact zux
 .exact zuy
 .exact zuz
 .exact zva
 .exact zvb
 .exact zvc
 .exact zvd
 .exact zve
 .exact zvf
 .exact zvg
 .exact zvh
 .exact zvi
 .exact zvj
 .exact zvk
 .exact zvl
 .exact zvm
 .exact zvn
 .exact zvo
 .exact zvp
 .exact zvq
 .exact zvr
 .exact zvs
 .exact zvt
 .exact zvu
 .exact zvv
 .exact zvw
 .exact zvx
 .exact zvy
 .exact zvz
 .exact zwa
 .exact zwb
 .exact zwc
 .exact zwd
 .exact zwe
 .exact zwf
 .exact zwg
 .exact zlk
 .exact zll
 .exact zlm
 .exact zln
 .exact zlo
 .exact zlp
 .exact zlq
 .exact zlr
 .exact zls
 .exact zlt
 .exact zlu
 .exact zlv
 .exact zlw
 .exact zlx
 .exact zly
 .exact zlz
 .exact zma
 .exact zmb
 .exact zmc
 .exact zmd
 .exact zme
 .exact zmf
 .exact zmg
 .exact zmh
 .exact zmi
 .exact zmj
 .exact zmk
 .exact zml
 .exact zmm
 .exact zmn
 .exact zmo
 .exact zmp
 .exact zmq
 .exact zmr
 .exact zms
 .exact zmt
 .exact zmu
 .exact zmv
 .exact zmw
 .exact zmx
 .exact zmy
 .exact zmz
 .exact zna
 .exact znb
 .exact znc
 .exact znd
 .exact zne
 .exact znf
 .exact zng
 .exact znh
 .exact zni
 .exact znj
 .exact znk
 .exact znl
 .exact znm
 .exact znn
 .exact zno
 .exact znp
 .exact znq
 .exact znr
 .exact zns
 .exact znt
 .exact znu
 .exact znv
 .exact znw
 .exact znx
 .exact zny
 .exact znz
 .exact zoa
 .exact zob
 .exact zoc
 .exact zod
 .exact zoe
 .exact zof
 .exact zog
 .exact zoh
 .exact zoi
 .exact zoj
 .exact zok
 .exact zol
 .exact zom
 .exact zon
 .exact zoo
 .exact zop
 .exact zoq
 .exact zor
 .exact zos
 .exact zot
 .exact zou
 .exact zov
 .exact zow
 .exact zox
 .exact zoy
 .exact zoz
 .exact zpa
 .exact zpb
 .exact zpc
 .exact zpd
 .exact zpe
 .exact zpf
 .exact zpg
 .exact zph
 .exact zpi
 .exact zpj
 .exact zpk
 .exact zpl
 .exact zpm
 .exact zpn
 .exact zpo
 .exact zpp
 .exact zpq
 .exact zpr
 .exact zps
 .exact zpt
 .exact zpu
 .exact zpv
 .exact zpw
 .exact zpx
 .exact zpy
 .exact zpz
 .exact zqa
 .exact zqb
 .exact zqc
 .exact zqd
 .exact zqe
 .exact zqf
 .exact zqg
 .exact zqh
 .exact zqi
 .exact zqj
 .exact zqk
theorem made:∀f g,pg f=some g->∃fn fresh raw,Tryz.prog.funcs[f]?=some fn/\zfg Tryz.prog fresh raw fn=some g:=fun f g h=>zie (f,g) (q4m h)
@[simp] theorem pg4:pg 4=some ir4:=rfl
@[simp] theorem z8p:ir4.raw=false:=rfl
@[simp] theorem pg11:pg 11=some ir11:=rfl
@[simp] theorem z5h:ir11.raw=false:=rfl
@[simp] theorem pg12:pg 12=some ir12:=rfl
@[simp] theorem z5i:ir12.raw=false:=rfl
@[simp] theorem pg14:pg 14=some ir14:=rfl
@[simp] theorem z5j:ir14.raw=false:=rfl
@[simp] theorem pg15:pg 15=some ir15:=rfl
@[simp] theorem z5k:ir15.raw=false:=rfl
@[simp] theorem pg16:pg 16=some ir16:=rfl
@[simp] theorem z5l:ir16.raw=false:=rfl
@[simp] theorem pg17:pg 17=some ir17:=rfl
@[simp] theorem z5m:ir17.raw=false:=rfl
@[simp] theorem pg18:pg 18=some ir18:=rfl
@[simp] theorem z5n:ir18.raw=false:=rfl
@[simp] theorem pg19:pg 19=some ir19:=rfl
@[simp] theorem z5o:ir19.raw=false:=rfl
@[simp] theorem pg20:pg 20=some ir20:=rfl
@[simp] theorem z5p:ir20.raw=false:=rfl
@[simp] theorem pg21:pg 21=some ir21:=rfl
@[simp] theorem z5q:ir21.raw=false:=rfl
@[simp] theorem pg25:pg 25=some ir25:=rfl
@[simp] theorem z5r:ir25.raw=false:=rfl
@[simp] theorem pg28:pg 28=some ir28:=rfl
@[simp] theorem z5s:ir28.raw=false:=rfl
@[simp] theorem pg30:pg 30=some ir30:=rfl
@[simp] theorem z5t:ir30.raw=false:=rfl
@[simp] theorem pg40:pg 40=some ir40:=rfl
@[simp] theorem z5u:ir40.raw=false:=rfl
@[simp] theorem pg43:pg 43=some ir43:=rfl
@[simp] theorem z5v:ir43.raw=false:=rfl
@[simp] theorem pg44:pg 44=some ir44:=rfl
@[simp] theorem z5w:ir44.raw=false:=rfl
@[simp] theorem pg45:pg 45=some ir45:=rfl
@[simp] theorem z5x:ir45.raw=false:=rfl
@[simp] theorem pg46:pg 46=some ir46:=rfl
@[simp] theorem z5y:ir46.raw=false:=rfl
@[simp] theorem pg47:pg 47=some ir47:=rfl
@[simp] theorem z5z:ir47.raw=false:=rfl
@[simp] theorem pg48:pg 48=some ir48:=rfl
@[simp] theorem z6a:ir48.raw=false:=rfl
@[simp] theorem pg49:pg 49=some ir49:=rfl
@[simp] theorem z6b:ir49.raw=false:=rfl
@[simp] theorem pg50:pg 50=some ir50:=rfl
@[simp] theorem z6c:ir50.raw=false:=rfl
@[simp] theorem pg51:pg 51=some ir51:=rfl
@[simp] theorem z6d:ir51.raw=false:=rfl
@[simp] theorem pg52:pg 52=some ir52:=rfl
@[simp] theorem z6e:ir52.raw=false:=rfl
@[simp] theorem pg53:pg 53=some ir53:=rfl
@[simp] theorem z6f:ir53.raw=false:=rfl
@[simp] theorem pg54:pg 54=some ir54:=rfl
@[simp] theorem z6g:ir54.raw=false:=rfl
@[simp] theorem pg55:pg 55=some ir55:=rfl
@[simp] theorem z6h:ir55.raw=false:=rfl
@[simp] theorem pg56:pg 56=some ir56:=rfl
@[simp] theorem z6i:ir56.raw=false:=rfl
@[simp] theorem pg57:pg 57=some ir57:=rfl
@[simp] theorem z6j:ir57.raw=false:=rfl
@[simp] theorem pg58:pg 58=some ir58:=rfl
@[simp] theorem z6k:ir58.raw=false:=rfl
@[simp] theorem pg59:pg 59=some ir59:=rfl
@[simp] theorem z6l:ir59.raw=false:=rfl
@[simp] theorem pg60:pg 60=some ir60:=rfl
@[simp] theorem z6m:ir60.raw=false:=rfl
@[simp] theorem pg61:pg 61=some ir61:=rfl
@[simp] theorem z6n:ir61.raw=false:=rfl
@[simp] theorem pg74:pg 74=some ir74:=rfl
@[simp] theorem z6o:ir74.raw=false:=rfl
@[simp] theorem pg76:pg 76=some ir76:=rfl
@[simp] theorem z6p:ir76.raw=false:=rfl
@[simp] theorem pg77:pg 77=some ir77:=rfl
@[simp] theorem z6q:ir77.raw=true:=rfl
@[simp] theorem pg78:pg 78=some ir78:=rfl
@[simp] theorem z6r:ir78.raw=true:=rfl
@[simp] theorem pg79:pg 79=some ir79:=rfl
@[simp] theorem z6s:ir79.raw=false:=rfl
@[simp] theorem pg82:pg 82=some ir82:=rfl
@[simp] theorem z6t:ir82.raw=false:=rfl
@[simp] theorem pg91:pg 91=some ir91:=rfl
@[simp] theorem z6u:ir91.raw=false:=rfl
@[simp] theorem pg105:pg 105=some ir105:=rfl
@[simp] theorem zyz:ir105.raw=false:=rfl
@[simp] theorem pg106:pg 106=some ir106:=rfl
@[simp] theorem zza:ir106.raw=false:=rfl
@[simp] theorem pg109:pg 109=some ir109:=rfl
@[simp] theorem zzb:ir109.raw=true:=rfl
@[simp] theorem pg110:pg 110=some ir110:=rfl
@[simp] theorem zzc:ir110.raw=false:=rfl
@[simp] theorem pg111:pg 111=some ir111:=rfl
@[simp] theorem zzd:ir111.raw=false:=rfl
@[simp] theorem pg112:pg 112=some ir112:=rfl
@[simp] theorem zze:ir112.raw=false:=rfl
@[simp] theorem pg113:pg 113=some ir113:=rfl
@[simp] theorem zzf:ir113.raw=false:=rfl
@[simp] theorem pg114:pg 114=some ir114:=rfl
@[simp] theorem zzg:ir114.raw=false:=rfl
@[simp] theorem pg115:pg 115=some ir115:=rfl
@[simp] theorem zzh:ir115.raw=false:=rfl
@[simp] theorem pg116:pg 116=some ir116:=rfl
@[simp] theorem zzi:ir116.raw=false:=rfl
@[simp] theorem pg117:pg 117=some ir117:=rfl
@[simp] theorem zzj:ir117.raw=true:=rfl
@[simp] theorem pg118:pg 118=some ir118:=rfl
@[simp] theorem zzk:ir118.raw=true:=rfl
@[simp] theorem pg119:pg 119=some ir119:=rfl
@[simp] theorem zzl:ir119.raw=true:=rfl
@[simp] theorem pg120:pg 120=some ir120:=rfl
@[simp] theorem zzm:ir120.raw=false:=rfl
@[simp] theorem pg121:pg 121=some ir121:=rfl
@[simp] theorem zzn:ir121.raw=false:=rfl
@[simp] theorem pg122:pg 122=some ir122:=rfl
@[simp] theorem zzo:ir122.raw=false:=rfl
@[simp] theorem pg123:pg 123=some ir123:=rfl
@[simp] theorem zzp:ir123.raw=true:=rfl
@[simp] theorem pg124:pg 124=some ir124:=rfl
@[simp] theorem zzq:ir124.raw=false:=rfl
@[simp] theorem pg125:pg 125=some ir125:=rfl
@[simp] theorem zzr:ir125.raw=false:=rfl
@[simp] theorem pg126:pg 126=some ir126:=rfl
@[simp] theorem zzs:ir126.raw=false:=rfl
@[simp] theorem pg127:pg 127=some ir127:=rfl
@[simp] theorem zzt:ir127.raw=false:=rfl
@[simp] theorem pg128:pg 128=some ir128:=rfl
@[simp] theorem zzu:ir128.raw=false:=rfl
@[simp] theorem pg129:pg 129=some ir129:=rfl
@[simp] theorem zzv:ir129.raw=false:=rfl
@[simp] theorem pg130:pg 130=some ir130:=rfl
@[simp] theorem zzw:ir130.raw=false:=rfl
@[simp] theorem pg131:pg 131=some ir131:=rfl
@[simp] theorem zzx:ir131.raw=false:=rfl
@[simp] theorem pg132:pg 132=some ir132:=rfl
@[simp] theorem zzy:ir132.raw=false:=rfl
@[simp] theorem pg148:pg 148=some ir148:=rfl
@[simp] theorem zzz:ir148.raw=false:=rfl
@[simp] theorem pg149:pg 149=some ir149:=rfl
@[simp] theorem z0a:ir149.raw=false:=rfl
@[simp] theorem pg150:pg 150=some ir150:=rfl
@[simp] theorem z0b:ir150.raw=false:=rfl
@[simp] theorem pg151:pg 151=some ir151:=rfl
@[simp] theorem z0c:ir151.raw=false:=rfl
@[simp] theorem pg152:pg 152=some ir152:=rfl
@[simp] theorem z0d:ir152.raw=true:=rfl
@[simp] theorem pg153:pg 153=some ir153:=rfl
@[simp] theorem z0e:ir153.raw=true:=rfl
@[simp] theorem pg154:pg 154=some ir154:=rfl
@[simp] theorem z0f:ir154.raw=true:=rfl
@[simp] theorem pg155:pg 155=some ir155:=rfl
@[simp] theorem z0g:ir155.raw=true:=rfl
@[simp] theorem pg156:pg 156=some ir156:=rfl
@[simp] theorem z0h:ir156.raw=true:=rfl
@[simp] theorem pg157:pg 157=some ir157:=rfl
@[simp] theorem z0i:ir157.raw=true:=rfl
@[simp] theorem pg162:pg 162=some ir162:=rfl
@[simp] theorem z0j:ir162.raw=false:=rfl
@[simp] theorem pg163:pg 163=some ir163:=rfl
@[simp] theorem z0k:ir163.raw=false:=rfl
@[simp] theorem pg178:pg 178=some ir178:=rfl
@[simp] theorem z0l:ir178.raw=false:=rfl
@[simp] theorem pg180:pg 180=some ir180:=rfl
@[simp] theorem z0m:ir180.raw=false:=rfl
@[simp] theorem pg181:pg 181=some ir181:=rfl
@[simp] theorem z0n:ir181.raw=false:=rfl
@[simp] theorem pg183:pg 183=some ir183:=rfl
@[simp] theorem z0o:ir183.raw=false:=rfl
@[simp] theorem pg184:pg 184=some ir184:=rfl
@[simp] theorem z0p:ir184.raw=false:=rfl
@[simp] theorem pg185:pg 185=some ir185:=rfl
@[simp] theorem z0q:ir185.raw=false:=rfl
@[simp] theorem pg186:pg 186=some ir186:=rfl
@[simp] theorem z0r:ir186.raw=false:=rfl
@[simp] theorem pg187:pg 187=some ir187:=rfl
@[simp] theorem z0s:ir187.raw=false:=rfl
@[simp] theorem pg188:pg 188=some ir188:=rfl
@[simp] theorem z0t:ir188.raw=false:=rfl
@[simp] theorem pg189:pg 189=some ir189:=rfl
@[simp] theorem z0u:ir189.raw=false:=rfl
@[simp] theorem pg190:pg 190=some ir190:=rfl
@[simp] theorem z0v:ir190.raw=false:=rfl
@[simp] theorem pg191:pg 191=some ir191:=rfl
@[simp] theorem z0w:ir191.raw=false:=rfl
@[simp] theorem pg192:pg 192=some ir192:=rfl
@[simp] theorem z0x:ir192.raw=false:=rfl
@[simp] theorem pg193:pg 193=some ir193:=rfl
@[simp] theorem z0y:ir193.raw=false:=rfl
@[simp] theorem pg194:pg 194=some ir194:=rfl
@[simp] theorem z0z:ir194.raw=false:=rfl
@[simp] theorem pg195:pg 195=some ir195:=rfl
@[simp] theorem z1a:ir195.raw=false:=rfl
@[simp] theorem pg196:pg 196=some ir196:=rfl
@[simp] theorem z1b:ir196.raw=false:=rfl
@[simp] theorem pg197:pg 197=some ir197:=rfl
@[simp] theorem z1c:ir197.raw=true:=rfl
@[simp] theorem pg198:pg 198=some ir198:=rfl
@[simp] theorem z1d:ir198.raw=false:=rfl
@[simp] theorem pg199:pg 199=some ir199:=rfl
@[simp] theorem z1e:ir199.raw=false:=rfl
@[simp] theorem pg200:pg 200=some ir200:=rfl
@[simp] theorem z1f:ir200.raw=false:=rfl
@[simp] theorem pg201:pg 201=some ir201:=rfl
@[simp] theorem z1g:ir201.raw=false:=rfl
@[simp] theorem pg202:pg 202=some ir202:=rfl
@[simp] theorem z1h:ir202.raw=false:=rfl
@[simp] theorem pg203:pg 203=some ir203:=rfl
@[simp] theorem z1i:ir203.raw=false:=rfl
@[simp] theorem pg204:pg 204=some ir204:=rfl
@[simp] theorem z1j:ir204.raw=false:=rfl
@[simp] theorem pg205:pg 205=some ir205:=rfl
@[simp] theorem z1k:ir205.raw=false:=rfl
@[simp] theorem pg206:pg 206=some ir206:=rfl
@[simp] theorem z1l:ir206.raw=false:=rfl
@[simp] theorem pg209:pg 209=some ir209:=rfl
@[simp] theorem z1m:ir209.raw=true:=rfl
@[simp] theorem pg210:pg 210=some ir210:=rfl
@[simp] theorem z1n:ir210.raw=false:=rfl
@[simp] theorem pg228:pg 228=some ir228:=rfl
@[simp] theorem z1o:ir228.raw=false:=rfl
@[simp] theorem pg229:pg 229=some ir229:=rfl
@[simp] theorem z1p:ir229.raw=false:=rfl
@[simp] theorem pg230:pg 230=some ir230:=rfl
@[simp] theorem z1q:ir230.raw=false:=rfl
@[simp] theorem pg231:pg 231=some ir231:=rfl
@[simp] theorem z1r:ir231.raw=false:=rfl
@[simp] theorem pg232:pg 232=some ir232:=rfl
@[simp] theorem z1s:ir232.raw=false:=rfl
@[simp] theorem pg233:pg 233=some ir233:=rfl
@[simp] theorem z1t:ir233.raw=false:=rfl
@[simp] theorem pg234:pg 234=some ir234:=rfl
@[simp] theorem z1u:ir234.raw=false:=rfl
@[simp] theorem pg235:pg 235=some ir235:=rfl
@[simp] theorem z1v:ir235.raw=true:=rfl
@[simp] theorem pg236:pg 236=some ir236:=rfl
@[simp] theorem z1w:ir236.raw=false:=rfl
@[simp] theorem pg237:pg 237=some ir237:=rfl
@[simp] theorem z1x:ir237.raw=true:=rfl
@[simp] theorem pg238:pg 238=some ir238:=rfl
@[simp] theorem z1y:ir238.raw=false:=rfl
@[simp] theorem pg239:pg 239=some ir239:=rfl
@[simp] theorem z1z:ir239.raw=true:=rfl
@[simp] theorem pg240:pg 240=some ir240:=rfl
@[simp] theorem z2a:ir240.raw=true:=rfl
@[simp] theorem pg241:pg 241=some ir241:=rfl
@[simp] theorem z2b:ir241.raw=false:=rfl
@[simp] theorem pg242:pg 242=some ir242:=rfl
@[simp] theorem z2c:ir242.raw=false:=rfl
@[simp] theorem pg243:pg 243=some ir243:=rfl
@[simp] theorem z2d:ir243.raw=true:=rfl
@[simp] theorem pg244:pg 244=some ir244:=rfl
@[simp] theorem z2e:ir244.raw=true:=rfl
@[simp] theorem pg245:pg 245=some ir245:=rfl
@[simp] theorem z2f:ir245.raw=true:=rfl
@[simp] theorem pg246:pg 246=some ir246:=rfl
@[simp] theorem z2g:ir246.raw=true:=rfl
@[simp] theorem pg247:pg 247=some ir247:=rfl
@[simp] theorem z2h:ir247.raw=true:=rfl
@[simp] theorem pg248:pg 248=some ir248:=rfl
@[simp] theorem z2i:ir248.raw=true:=rfl
@[simp] theorem pg249:pg 249=some ir249:=rfl
@[simp] theorem z2j:ir249.raw=false:=rfl
@[simp] theorem pg250:pg 250=some ir250:=rfl
@[simp] theorem z2k:ir250.raw=true:=rfl
@[simp] theorem pg251:pg 251=some ir251:=rfl
@[simp] theorem z2l:ir251.raw=true:=rfl
@[simp] theorem pg253:pg 253=some ir253:=rfl
@[simp] theorem z2m:ir253.raw=false:=rfl
@[simp] theorem pg270:pg 270=some ir270:=rfl
@[simp] theorem z2n:ir270.raw=false:=rfl
@[simp] theorem pg271:pg 271=some ir271:=rfl
@[simp] theorem z2o:ir271.raw=false:=rfl
@[simp] theorem pg272:pg 272=some ir272:=rfl
@[simp] theorem z2p:ir272.raw=true:=rfl
@[simp] theorem pg273:pg 273=some ir273:=rfl
@[simp] theorem z2q:ir273.raw=false:=rfl
@[simp] theorem pg274:pg 274=some ir274:=rfl
@[simp] theorem z2r:ir274.raw=false:=rfl
@[simp] theorem pg275:pg 275=some ir275:=rfl
@[simp] theorem z2s:ir275.raw=true:=rfl
@[simp] theorem pg276:pg 276=some ir276:=rfl
@[simp] theorem z2t:ir276.raw=false:=rfl
@[simp] theorem pg277:pg 277=some ir277:=rfl
@[simp] theorem z2u:ir277.raw=false:=rfl
@[simp] theorem pg278:pg 278=some ir278:=rfl
@[simp] theorem z2v:ir278.raw=true:=rfl
@[simp] theorem pg279:pg 279=some ir279:=rfl
@[simp] theorem z2w:ir279.raw=false:=rfl
@[simp] theorem pg280:pg 280=some ir280:=rfl
@[simp] theorem z2x:ir280.raw=true:=rfl
@[simp] theorem pg281:pg 281=some ir281:=rfl
@[simp] theorem z2y:ir281.raw=false:=rfl
@[simp] theorem pg282:pg 282=some ir282:=rfl
@[simp] theorem z2z:ir282.raw=true:=rfl
@[simp] theorem pg283:pg 283=some ir283:=rfl
@[simp] theorem z3a:ir283.raw=true:=rfl
@[simp] theorem pg284:pg 284=some ir284:=rfl
@[simp] theorem z3b:ir284.raw=true:=rfl
@[simp] theorem pg285:pg 285=some ir285:=rfl
@[simp] theorem z3c:ir285.raw=false:=rfl
@[simp] theorem pg294:pg 294=some ir294:=rfl
@[simp] theorem z3d:ir294.raw=false:=rfl
@[simp] theorem pg295:pg 295=some ir295:=rfl
@[simp] theorem z3e:ir295.raw=false:=rfl
@[simp] theorem pg296:pg 296=some ir296:=rfl
@[simp] theorem z3f:ir296.raw=false:=rfl
@[simp] theorem pg297:pg 297=some ir297:=rfl
@[simp] theorem z3g:ir297.raw=true:=rfl
@[simp] theorem pg298:pg 298=some ir298:=rfl
@[simp] theorem z3h:ir298.raw=false:=rfl
@[simp] theorem pg299:pg 299=some ir299:=rfl
@[simp] theorem z3i:ir299.raw=true:=rfl
@[simp] theorem pg300:pg 300=some ir300:=rfl
@[simp] theorem z3j:ir300.raw=true:=rfl
@[simp] theorem pg301:pg 301=some ir301:=rfl
@[simp] theorem z3k:ir301.raw=false:=rfl
@[simp] theorem pg302:pg 302=some ir302:=rfl
@[simp] theorem z3l:ir302.raw=false:=rfl
@[simp] theorem pg303:pg 303=some ir303:=rfl
@[simp] theorem z3m:ir303.raw=true:=rfl
@[simp] theorem pg306:pg 306=some ir306:=rfl
@[simp] theorem z3n:ir306.raw=false:=rfl
@[simp] theorem pg307:pg 307=some ir307:=rfl
@[simp] theorem z3o:ir307.raw=false:=rfl
@[simp] theorem pg308:pg 308=some ir308:=rfl
@[simp] theorem z3p:ir308.raw=false:=rfl
@[simp] theorem pg309:pg 309=some ir309:=rfl
@[simp] theorem z3q:ir309.raw=false:=rfl
@[simp] theorem pg310:pg 310=some ir310:=rfl
@[simp] theorem z3r:ir310.raw=false:=rfl
@[simp] theorem pg311:pg 311=some ir311:=rfl
@[simp] theorem z3s:ir311.raw=false:=rfl
@[simp] theorem pg312:pg 312=some ir312:=rfl
@[simp] theorem z3t:ir312.raw=false:=rfl
@[simp] theorem pg313:pg 313=some ir313:=rfl
@[simp] theorem z3u:ir313.raw=false:=rfl
@[simp] theorem pg315:pg 315=some ir315:=rfl
@[simp] theorem z3v:ir315.raw=true:=rfl
@[simp] theorem pg316:pg 316=some ir316:=rfl
@[simp] theorem z3w:ir316.raw=false:=rfl
@[simp] theorem pg335:pg 335=some ir335:=rfl
@[simp] theorem z3x:ir335.raw=true:=rfl
@[simp] theorem pg336:pg 336=some ir336:=rfl
@[simp] theorem z3y:ir336.raw=true:=rfl
@[simp] theorem pg337:pg 337=some ir337:=rfl
@[simp] theorem z3z:ir337.raw=true:=rfl
end Go.Proofs.YtddeacahiilikaaGreat
