/- The program that Am runs: the table of the functions. -/
import Derived.Test.YtddeacahiilikaaGreatIr6
set_option linter.all false
namespace Go.Proofs.YtddeacahiilikaaGreat
open Go Go.Am Go.Proofs
set_option maxRecDepth 100000
def find:List (Nat×Fun)->Nat->Option Fun
 | [],_=>none
 | (k,g) :: r,f=>if f=k then some g else find r f
theorem q8o:∀{l:List (Nat×Fun)} {f:Nat} {g:Fun},find l f=some g->(f,g)∈l
 | (k,g') :: r,f,g,h=>by
  simp only[find]at h
  split at h
  .rename_i e;cases h;subst e;exact List.mem_cons_self
  .exact List.mem_cons_of_mem _ (q8o h)
def qba(p:Nat×Fun):Prop:=∃fn fresh raw,Tryz.prog.funcs[p.1]?=some fn/\zke Tryz.prog fresh raw fn=some p.2
def tbl:List (Nat×Fun):=[(3,ir3),(4,ir4),(7,ir7),(8,ir8),(9,ir9),(10,ir10),(11,ir11),(12,ir12),(13,ir13),(14,ir14),(15,ir15),(16,ir16),(17,ir17),(18,ir18),(19,ir19),(20,ir20),(21,ir21),(25,ir25),(28,ir28),(30,ir30),(35,ir35),(36,ir36),(37,ir37),(38,ir38),(39,ir39),(40,ir40),(41,ir41),(42,ir42),(43,ir43),(44,ir44),(45,ir45),(46,ir46),(47,ir47),(48,ir48),(49,ir49),(50,ir50),(51,ir51),(52,ir52),(53,ir53),(54,ir54),(55,ir55),(56,ir56),(57,ir57),(58,ir58),(59,ir59),(60,ir60),(61,ir61),(74,ir74),(76,ir76),(77,ir77),(78,ir78),(79,ir79),(82,ir82),(91,ir91),(97,ir97),(98,ir98),(99,ir99),(100,ir100),(101,ir101),(102,ir102),(103,ir103),(104,ir104),(105,ir105),(106,ir106),(107,ir107),(108,ir108),(109,ir109),(110,ir110),(111,ir111),(112,ir112),(113,ir113),(114,ir114),(115,ir115),(116,ir116),(117,ir117),(118,ir118),(119,ir119),(120,ir120),(121,ir121),(123,ir123),(124,ir124),(125,ir125),(126,ir126),(127,ir127),(128,ir128),(129,ir129),(130,ir130),(131,ir131),(132,ir132),(148,ir148),(149,ir149),(150,ir150),(151,ir151),(152,ir152),(153,ir153),(154,ir154),(155,ir155),(156,ir156),(157,ir157),(162,ir162),(163,ir163),(176,ir176),(177,ir177),(178,ir178),(179,ir179),(180,ir180),(181,ir181),(182,ir182),(183,ir183),(184,ir184),(185,ir185),(186,ir186),(187,ir187),(188,ir188),(189,ir189),(190,ir190),(191,ir191),(192,ir192),(193,ir193),(194,ir194),(195,ir195),(196,ir196),(197,ir197),(198,ir198),(199,ir199),(200,ir200),(201,ir201),(202,ir202),(203,ir203),(204,ir204),(205,ir205),(206,ir206),(209,ir209),(210,ir210),(228,ir228),(229,ir229),(230,ir230),(231,ir231),(232,ir232),(233,ir233),(234,ir234),(235,ir235),(236,ir236),(237,ir237),(238,ir238),(239,ir239),(240,ir240),(241,ir241),(242,ir242),(243,ir243),(244,ir244),(245,ir245),(246,ir246),(247,ir247),(248,ir248),(249,ir249),(250,ir250),(251,ir251),(253,ir253),(270,ir270),(271,ir271),(272,ir272),(273,ir273),(274,ir274),(275,ir275),(276,ir276),(277,ir277),(278,ir278),(279,ir279),(280,ir280),(281,ir281),(282,ir282),(283,ir283),(284,ir284),(285,ir285),(294,ir294),(295,ir295),(296,ir296),(297,ir297),(298,ir298),(299,ir299),(300,ir300),(301,ir301),(302,ir302),(303,ir303),(306,ir306),(307,ir307),(308,ir308),(309,ir309),(310,ir310),(311,ir311),(312,ir312),(313,ir313),(315,ir315),(316,ir316),(335,ir335),(336,ir336),(337,ir337)]
def pg:Prg:=find tbl
theorem jeg:qba (3,ir3):=⟨_,false,false,Tryz.func3,by kernel_rfl⟩
theorem jdu:qba (4,ir4):=⟨_,false,false,Tryz.func4,by kernel_rfl⟩
theorem jgc:qba (7,ir7):=⟨_,false,false,Tryz.func7,by kernel_rfl⟩
theorem jes:qba (8,ir8):=⟨_,false,false,Tryz.func8,by kernel_rfl⟩
theorem jgp:qba (9,ir9):=⟨_,false,false,Tryz.func9,by kernel_rfl⟩
theorem z1h:qba (10,ir10):=⟨_,false,false,Tryz.func10,by kernel_rfl⟩
theorem z4y:qba (11,ir11):=⟨_,false,false,Tryz.func11,by kernel_rfl⟩
theorem z4g:qba (12,ir12):=⟨_,false,false,Tryz.func12,by kernel_rfl⟩
theorem z2t:qba (13,ir13):=⟨_,false,false,Tryz.func13,by kernel_rfl⟩
theorem z2u:qba (14,ir14):=⟨_,false,false,Tryz.func14,by kernel_rfl⟩
theorem z4u:qba (15,ir15):=⟨_,false,false,Tryz.func15,by kernel_rfl⟩
theorem z4c:qba (16,ir16):=⟨_,false,false,Tryz.func16,by kernel_rfl⟩
theorem z5j:qba (17,ir17):=⟨_,false,false,Tryz.func17,by kernel_rfl⟩
theorem z1b:qba (18,ir18):=⟨_,false,false,Tryz.func18,by kernel_rfl⟩
theorem z4b:qba (19,ir19):=⟨_,false,false,Tryz.func19,by kernel_rfl⟩
theorem z0r:qba (20,ir20):=⟨_,false,false,Tryz.func20,by kernel_rfl⟩
theorem z4q:qba (21,ir21):=⟨_,false,false,Tryz.func21,by kernel_rfl⟩
theorem z3d:qba (25,ir25):=⟨_,false,false,Tryz.func25,by kernel_rfl⟩
theorem z4e:qba (28,ir28):=⟨_,false,false,Tryz.func28,by kernel_rfl⟩
theorem z3k:qba (30,ir30):=⟨_,false,false,Tryz.func30,by kernel_rfl⟩
theorem z4d:qba (35,ir35):=⟨_,false,false,Tryz.func35,by kernel_rfl⟩
theorem z3z:qba (36,ir36):=⟨_,false,false,Tryz.func36,by kernel_rfl⟩
theorem z1w:qba (37,ir37):=⟨_,false,false,Tryz.func37,by kernel_rfl⟩
theorem z4x:qba (38,ir38):=⟨_,false,false,Tryz.func38,by kernel_rfl⟩
theorem z4s:qba (39,ir39):=⟨_,false,false,Tryz.func39,by kernel_rfl⟩
theorem z5g:qba (40,ir40):=⟨_,false,false,Tryz.func40,by kernel_rfl⟩
theorem z3h:qba (41,ir41):=⟨_,false,false,Tryz.func41,by kernel_rfl⟩
theorem z5i:qba (42,ir42):=⟨_,false,false,Tryz.func42,by kernel_rfl⟩
theorem z4v:qba (43,ir43):=⟨_,false,false,Tryz.func43,by kernel_rfl⟩
theorem z1u:qba (44,ir44):=⟨_,false,false,Tryz.func44,by kernel_rfl⟩
theorem z0l:qba (45,ir45):=⟨_,false,false,Tryz.func45,by kernel_rfl⟩
theorem z5q:qba (46,ir46):=⟨_,false,false,Tryz.func46,by kernel_rfl⟩
theorem z1k:qba (47,ir47):=⟨_,false,false,Tryz.func47,by kernel_rfl⟩
theorem z2j:qba (48,ir48):=⟨_,false,false,Tryz.func48,by kernel_rfl⟩
theorem z0n:qba (49,ir49):=⟨_,false,false,Tryz.func49,by kernel_rfl⟩
theorem z3f:qba (50,ir50):=⟨_,false,false,Tryz.func50,by kernel_rfl⟩
theorem z1t:qba (51,ir51):=⟨_,false,false,Tryz.func51,by kernel_rfl⟩
theorem z1m:qba (52,ir52):=⟨_,false,false,Tryz.func52,by kernel_rfl⟩
theorem z2r:qba (53,ir53):=⟨_,false,false,Tryz.func53,by kernel_rfl⟩
theorem z0k:qba (54,ir54):=⟨_,false,false,Tryz.func54,by kernel_rfl⟩
theorem z2d:qba (55,ir55):=⟨_,false,false,Tryz.func55,by kernel_rfl⟩
theorem z5l:qba (56,ir56):=⟨_,false,false,Tryz.func56,by kernel_rfl⟩
theorem z2w:qba (57,ir57):=⟨_,false,false,Tryz.func57,by kernel_rfl⟩
theorem z1g:qba (58,ir58):=⟨_,false,false,Tryz.func58,by kernel_rfl⟩
theorem z2g:qba (59,ir59):=⟨_,false,false,Tryz.func59,by kernel_rfl⟩
theorem z4o:qba (60,ir60):=⟨_,false,false,Tryz.func60,by kernel_rfl⟩
theorem z3o:qba (61,ir61):=⟨_,false,false,Tryz.func61,by kernel_rfl⟩
theorem z2p:qba (74,ir74):=⟨_,false,false,Tryz.func74,by kernel_rfl⟩
theorem z4k:qba (76,ir76):=⟨_,false,false,Tryz.func76,by kernel_rfl⟩
theorem z4h:qba (77,ir77):=⟨_,false,true,Tryz.func77,by kernel_rfl⟩
theorem z5o:qba (78,ir78):=⟨_,false,true,Tryz.func78,by kernel_rfl⟩
theorem z0x:qba (79,ir79):=⟨_,false,false,Tryz.func79,by kernel_rfl⟩
theorem z2z:qba (82,ir82):=⟨_,false,false,Tryz.func82,by kernel_rfl⟩
theorem z1a:qba (91,ir91):=⟨_,false,false,Tryz.func91,by kernel_rfl⟩
theorem z2x:qba (97,ir97):=⟨_,false,false,Tryz.func97,by kernel_rfl⟩
theorem z4m:qba (98,ir98):=⟨_,false,true,Tryz.func98,by kernel_rfl⟩
theorem z1f:qba (99,ir99):=⟨_,false,false,Tryz.func99,by kernel_rfl⟩
theorem zwz:qba (100,ir100):=⟨_,false,false,Tryz.func100,by kernel_rfl⟩
theorem zrs:qba (101,ir101):=⟨_,false,false,Tryz.func101,by kernel_rfl⟩
theorem zrl:qba (102,ir102):=⟨_,false,false,Tryz.func102,by kernel_rfl⟩
theorem zzk:qba (103,ir103):=⟨_,false,false,Tryz.func103,by kernel_rfl⟩
theorem zzj:qba (104,ir104):=⟨_,false,false,Tryz.func104,by kernel_rfl⟩
theorem zur:qba (105,ir105):=⟨_,true,false,Tryz.func105,by kernel_rfl⟩
theorem zwh:qba (106,ir106):=⟨_,true,false,Tryz.func106,by kernel_rfl⟩
theorem zqh:qba (107,ir107):=⟨_,false,false,Tryz.func107,by kernel_rfl⟩
theorem ztt:qba (108,ir108):=⟨_,false,false,Tryz.func108,by kernel_rfl⟩
theorem zsf:qba (109,ir109):=⟨_,false,true,Tryz.func109,by kernel_rfl⟩
theorem zpu:qba (110,ir110):=⟨_,false,false,Tryz.func110,by kernel_rfl⟩
theorem zpy:qba (111,ir111):=⟨_,false,false,Tryz.func111,by kernel_rfl⟩
theorem zya:qba (112,ir112):=⟨_,false,false,Tryz.func112,by kernel_rfl⟩
theorem zsd:qba (113,ir113):=⟨_,false,false,Tryz.func113,by kernel_rfl⟩
theorem zxo:qba (114,ir114):=⟨_,false,false,Tryz.func114,by kernel_rfl⟩
theorem zrg:qba (115,ir115):=⟨_,false,false,Tryz.func115,by kernel_rfl⟩
theorem zqw:qba (116,ir116):=⟨_,true,false,Tryz.func116,by kernel_rfl⟩
theorem zxe:qba (117,ir117):=⟨_,false,true,Tryz.func117,by kernel_rfl⟩
theorem zuh:qba (118,ir118):=⟨_,false,true,Tryz.func118,by kernel_rfl⟩
theorem zpm:qba (119,ir119):=⟨_,false,true,Tryz.func119,by kernel_rfl⟩
theorem zwn:qba (120,ir120):=⟨_,true,false,Tryz.func120,by kernel_rfl⟩
theorem zsb:qba (121,ir121):=⟨_,false,false,Tryz.func121,by kernel_rfl⟩
theorem zsu:qba (123,ir123):=⟨_,false,true,Tryz.func123,by kernel_rfl⟩
theorem zsv:qba (124,ir124):=⟨_,false,false,Tryz.func124,by kernel_rfl⟩
theorem zqc:qba (125,ir125):=⟨_,false,false,Tryz.func125,by kernel_rfl⟩
theorem zvl:qba (126,ir126):=⟨_,false,false,Tryz.func126,by kernel_rfl⟩
theorem zrq:qba (127,ir127):=⟨_,false,false,Tryz.func127,by kernel_rfl⟩
theorem zzb:qba (128,ir128):=⟨_,false,false,Tryz.func128,by kernel_rfl⟩
theorem zvy:qba (129,ir129):=⟨_,false,false,Tryz.func129,by kernel_rfl⟩
theorem zvr:qba (130,ir130):=⟨_,false,false,Tryz.func130,by kernel_rfl⟩
theorem zyg:qba (131,ir131):=⟨_,false,false,Tryz.func131,by kernel_rfl⟩
theorem zys:qba (132,ir132):=⟨_,false,false,Tryz.func132,by kernel_rfl⟩
theorem zug:qba (148,ir148):=⟨_,false,false,Tryz.func148,by kernel_rfl⟩
theorem zwo:qba (149,ir149):=⟨_,false,false,Tryz.func149,by kernel_rfl⟩
theorem ztv:qba (150,ir150):=⟨_,false,false,Tryz.func150,by kernel_rfl⟩
theorem zvb:qba (151,ir151):=⟨_,false,false,Tryz.func151,by kernel_rfl⟩
theorem zvs:qba (152,ir152):=⟨_,false,true,Tryz.func152,by kernel_rfl⟩
theorem zwe:qba (153,ir153):=⟨_,false,true,Tryz.func153,by kernel_rfl⟩
theorem zxs:qba (154,ir154):=⟨_,false,true,Tryz.func154,by kernel_rfl⟩
theorem zyb:qba (155,ir155):=⟨_,false,true,Tryz.func155,by kernel_rfl⟩
theorem zrx:qba (156,ir156):=⟨_,false,true,Tryz.func156,by kernel_rfl⟩
theorem zvg:qba (157,ir157):=⟨_,true,true,Tryz.func157,by kernel_rfl⟩
theorem zwf:qba (162,ir162):=⟨_,false,false,Tryz.func162,by kernel_rfl⟩
theorem zqp:qba (163,ir163):=⟨_,false,false,Tryz.func163,by kernel_rfl⟩
theorem zwd:qba (176,ir176):=⟨_,false,false,Tryz.func176,by kernel_rfl⟩
theorem zzc:qba (177,ir177):=⟨_,false,true,Tryz.func177,by kernel_rfl⟩
theorem zrf:qba (178,ir178):=⟨_,false,false,Tryz.func178,by kernel_rfl⟩
theorem zye:qba (179,ir179):=⟨_,false,false,Tryz.func179,by kernel_rfl⟩
theorem zzf:qba (180,ir180):=⟨_,false,false,Tryz.func180,by kernel_rfl⟩
theorem zqy:qba (181,ir181):=⟨_,false,false,Tryz.func181,by kernel_rfl⟩
theorem zxi:qba (182,ir182):=⟨_,false,false,Tryz.func182,by kernel_rfl⟩
theorem zxj:qba (183,ir183):=⟨_,false,false,Tryz.func183,by kernel_rfl⟩
theorem ztr:qba (184,ir184):=⟨_,false,false,Tryz.func184,by kernel_rfl⟩
theorem zqv:qba (185,ir185):=⟨_,false,false,Tryz.func185,by kernel_rfl⟩
theorem zxm:qba (186,ir186):=⟨_,false,false,Tryz.func186,by kernel_rfl⟩
theorem zzh:qba (187,ir187):=⟨_,false,false,Tryz.func187,by kernel_rfl⟩
theorem ztu:qba (188,ir188):=⟨_,false,false,Tryz.func188,by kernel_rfl⟩
theorem zpx:qba (189,ir189):=⟨_,false,false,Tryz.func189,by kernel_rfl⟩
theorem zsg:qba (190,ir190):=⟨_,true,false,Tryz.func190,by kernel_rfl⟩
theorem zyp:qba (191,ir191):=⟨_,true,false,Tryz.func191,by kernel_rfl⟩
theorem zut:qba (192,ir192):=⟨_,false,false,Tryz.func192,by kernel_rfl⟩
theorem zwi:qba (193,ir193):=⟨_,false,false,Tryz.func193,by kernel_rfl⟩
theorem zyf:qba (194,ir194):=⟨_,false,false,Tryz.func194,by kernel_rfl⟩
theorem zrv:qba (195,ir195):=⟨_,true,false,Tryz.func195,by kernel_rfl⟩
theorem zrr:qba (196,ir196):=⟨_,false,false,Tryz.func196,by kernel_rfl⟩
theorem zth:qba (197,ir197):=⟨_,true,true,Tryz.func197,by kernel_rfl⟩
theorem zyx:qba (198,ir198):=⟨_,false,false,Tryz.func198,by kernel_rfl⟩
theorem zzn:qba (199,ir199):=⟨_,false,false,Tryz.func199,by kernel_rfl⟩
theorem zqo:qba (200,ir200):=⟨_,false,false,Tryz.func200,by kernel_rfl⟩
theorem zpp:qba (201,ir201):=⟨_,false,false,Tryz.func201,by kernel_rfl⟩
theorem ztm:qba (202,ir202):=⟨_,false,false,Tryz.func202,by kernel_rfl⟩
theorem zvp:qba (203,ir203):=⟨_,false,false,Tryz.func203,by kernel_rfl⟩
theorem zri:qba (204,ir204):=⟨_,false,false,Tryz.func204,by kernel_rfl⟩
theorem zqm:qba (205,ir205):=⟨_,false,false,Tryz.func205,by kernel_rfl⟩
theorem zwp:qba (206,ir206):=⟨_,false,false,Tryz.func206,by kernel_rfl⟩
theorem zst:qba (209,ir209):=⟨_,false,true,Tryz.func209,by kernel_rfl⟩
theorem zun:qba (210,ir210):=⟨_,false,false,Tryz.func210,by kernel_rfl⟩
theorem zqz:qba (228,ir228):=⟨_,false,false,Tryz.func228,by kernel_rfl⟩
theorem zrb:qba (229,ir229):=⟨_,false,false,Tryz.func229,by kernel_rfl⟩
theorem zvd:qba (230,ir230):=⟨_,false,false,Tryz.func230,by kernel_rfl⟩
theorem zxy:qba (231,ir231):=⟨_,false,false,Tryz.func231,by kernel_rfl⟩
theorem zzl:qba (232,ir232):=⟨_,false,false,Tryz.func232,by kernel_rfl⟩
theorem zvf:qba (233,ir233):=⟨_,false,false,Tryz.func233,by kernel_rfl⟩
theorem zql:qba (234,ir234):=⟨_,false,false,Tryz.func234,by kernel_rfl⟩
theorem zxw:qba (235,ir235):=⟨_,false,true,Tryz.func235,by kernel_rfl⟩
theorem zps:qba (236,ir236):=⟨_,false,false,Tryz.func236,by kernel_rfl⟩
theorem zvz:qba (237,ir237):=⟨_,false,true,Tryz.func237,by kernel_rfl⟩
theorem zra:qba (238,ir238):=⟨_,false,false,Tryz.func238,by kernel_rfl⟩
theorem zqn:qba (239,ir239):=⟨_,false,true,Tryz.func239,by kernel_rfl⟩
theorem zwr:qba (240,ir240):=⟨_,true,true,Tryz.func240,by kernel_rfl⟩
theorem zue:qba (241,ir241):=⟨_,false,false,Tryz.func241,by kernel_rfl⟩
theorem zsr:qba (242,ir242):=⟨_,false,false,Tryz.func242,by kernel_rfl⟩
theorem zrd:qba (243,ir243):=⟨_,false,true,Tryz.func243,by kernel_rfl⟩
theorem zsz:qba (244,ir244):=⟨_,false,true,Tryz.func244,by kernel_rfl⟩
theorem zxk:qba (245,ir245):=⟨_,false,true,Tryz.func245,by kernel_rfl⟩
theorem zss:qba (246,ir246):=⟨_,false,true,Tryz.func246,by kernel_rfl⟩
theorem zwl:qba (247,ir247):=⟨_,false,true,Tryz.func247,by kernel_rfl⟩
theorem zwa:qba (248,ir248):=⟨_,false,true,Tryz.func248,by kernel_rfl⟩
theorem zyo:qba (249,ir249):=⟨_,false,false,Tryz.func249,by kernel_rfl⟩
theorem zul:qba (250,ir250):=⟨_,false,true,Tryz.func250,by kernel_rfl⟩
theorem zup:qba (251,ir251):=⟨_,false,true,Tryz.func251,by kernel_rfl⟩
theorem zrp:qba (253,ir253):=⟨_,false,false,Tryz.func253,by kernel_rfl⟩
theorem zqd:qba (270,ir270):=⟨_,false,false,Tryz.func270,by kernel_rfl⟩
theorem zyr:qba (271,ir271):=⟨_,false,false,Tryz.func271,by kernel_rfl⟩
theorem zxf:qba (272,ir272):=⟨_,false,true,Tryz.func272,by kernel_rfl⟩
theorem zqe:qba (273,ir273):=⟨_,false,false,Tryz.func273,by kernel_rfl⟩
theorem ztq:qba (274,ir274):=⟨_,false,false,Tryz.func274,by kernel_rfl⟩
theorem ztn:qba (275,ir275):=⟨_,false,true,Tryz.func275,by kernel_rfl⟩
theorem zzg:qba (276,ir276):=⟨_,false,false,Tryz.func276,by kernel_rfl⟩
theorem zqb:qba (277,ir277):=⟨_,true,false,Tryz.func277,by kernel_rfl⟩
theorem zry:qba (278,ir278):=⟨_,false,true,Tryz.func278,by kernel_rfl⟩
theorem zty:qba (279,ir279):=⟨_,false,false,Tryz.func279,by kernel_rfl⟩
theorem zyl:qba (280,ir280):=⟨_,false,true,Tryz.func280,by kernel_rfl⟩
theorem zyq:qba (281,ir281):=⟨_,false,false,Tryz.func281,by kernel_rfl⟩
theorem zrz:qba (282,ir282):=⟨_,false,true,Tryz.func282,by kernel_rfl⟩
theorem zxt:qba (283,ir283):=⟨_,false,true,Tryz.func283,by kernel_rfl⟩
theorem zxu:qba (284,ir284):=⟨_,false,true,Tryz.func284,by kernel_rfl⟩
theorem ztg:qba (285,ir285):=⟨_,false,false,Tryz.func285,by kernel_rfl⟩
theorem ztj:qba (294,ir294):=⟨_,false,false,Tryz.func294,by kernel_rfl⟩
theorem zsj:qba (295,ir295):=⟨_,false,false,Tryz.func295,by kernel_rfl⟩
theorem zzo:qba (296,ir296):=⟨_,false,false,Tryz.func296,by kernel_rfl⟩
theorem zsq:qba (297,ir297):=⟨_,false,true,Tryz.func297,by kernel_rfl⟩
theorem zsc:qba (298,ir298):=⟨_,false,false,Tryz.func298,by kernel_rfl⟩
theorem zpz:qba (299,ir299):=⟨_,false,true,Tryz.func299,by kernel_rfl⟩
theorem zqf:qba (300,ir300):=⟨_,true,true,Tryz.func300,by kernel_rfl⟩
theorem zvw:qba (301,ir301):=⟨_,false,false,Tryz.func301,by kernel_rfl⟩
theorem zpl:qba (302,ir302):=⟨_,false,false,Tryz.func302,by kernel_rfl⟩
theorem zrw:qba (303,ir303):=⟨_,false,true,Tryz.func303,by kernel_rfl⟩
theorem zuc:qba (306,ir306):=⟨_,false,false,Tryz.func306,by kernel_rfl⟩
theorem zxq:qba (307,ir307):=⟨_,true,false,Tryz.func307,by kernel_rfl⟩
theorem zsi:qba (308,ir308):=⟨_,false,false,Tryz.func308,by kernel_rfl⟩
theorem ztc:qba (309,ir309):=⟨_,false,false,Tryz.func309,by kernel_rfl⟩
theorem zto:qba (310,ir310):=⟨_,false,false,Tryz.func310,by kernel_rfl⟩
theorem zyj:qba (311,ir311):=⟨_,false,false,Tryz.func311,by kernel_rfl⟩
theorem zsn:qba (312,ir312):=⟨_,false,false,Tryz.func312,by kernel_rfl⟩
theorem zuw:qba (313,ir313):=⟨_,false,false,Tryz.func313,by kernel_rfl⟩
theorem zwv:qba (315,ir315):=⟨_,true,true,Tryz.func315,by kernel_rfl⟩
theorem zrm:qba (316,ir316):=⟨_,false,false,Tryz.func316,by kernel_rfl⟩
theorem zvm:qba (335,ir335):=⟨_,false,true,Tryz.func335,by kernel_rfl⟩
theorem zru:qba (336,ir336):=⟨_,false,true,Tryz.func336,by kernel_rfl⟩
theorem zzs:qba (337,ir337):=⟨_,false,true,Tryz.func337,by kernel_rfl⟩
theorem znq:∀p∈tbl,qba p:=by
 intro p hp
 unfold tbl at hp
 simp only[List.mem_cons,List.not_mem_nil,or_false]at hp
 rcases hp with rfl | rfl | rfl | rfl | rfl | rfl | rfl | rfl | rfl | rfl | rfl | rfl | rfl | rfl | rfl | rfl | rfl | rfl | rfl | rfl | rfl | rfl | rfl | rfl | rfl | rfl | rfl | rfl | rfl | rfl | rfl | rfl | rfl | rfl | rfl | rfl | rfl | rfl | rfl | rfl | rfl | rfl | rfl | rfl | rfl | rfl | rfl | rfl | rfl | rfl | rfl | rfl | rfl | rfl | rfl | rfl | rfl | rfl | rfl | rfl | rfl | rfl | rfl | rfl | rfl | rfl | rfl | rfl | rfl | rfl | rfl | rfl | rfl | rfl | rfl | rfl | rfl | rfl | rfl | rfl | rfl | rfl | rfl | rfl | rfl | rfl | rfl | rfl | rfl | rfl | rfl | rfl | rfl | rfl | rfl | rfl | rfl | rfl | rfl | rfl | rfl | rfl | rfl | rfl | rfl | rfl | rfl | rfl | rfl | rfl | rfl | rfl | rfl | rfl | rfl | rfl | rfl | rfl | rfl | rfl | rfl | rfl | rfl | rfl | rfl | rfl | rfl | rfl | rfl | rfl | rfl | rfl | rfl | rfl | rfl | rfl | rfl | rfl | rfl | rfl | rfl | rfl | rfl | rfl | rfl | rfl | rfl | rfl | rfl | rfl | rfl | rfl | rfl | rfl | rfl | rfl | rfl | rfl | rfl | rfl | rfl | rfl | rfl | rfl | rfl | rfl | rfl | rfl | rfl | rfl | rfl | rfl | rfl | rfl | rfl | rfl | rfl | rfl | rfl | rfl | rfl | rfl | rfl | rfl | rfl | rfl | rfl | rfl | rfl | rfl | rfl | rfl | rfl | rfl | rfl | rfl | rfl | rfl
 .exact jeg
 .exact jdu
 .exact jgc
 .exact jes
 .exact jgp
 .exact z1h
 .exact z4y
 .exact z4g
 .exact z2t
 .exact z2u
 .exact z4u
 .exact z4c
 .exact z5j
 .exact z1b
 .exact z4b
 .exact z0r
 .exact z4q
 .exact z3d
 .exact z4e
 .exact z3k
 .exact z4d
 .exact z3z
 .exact z1w
 .exact z4x
 .exact z4s
 .exact z5g
 .exact z3h
 .exact z5i
 .exact z4v
 .exact z1u
 .exact z0l
 .exact z5q
 .exact z1k
 .exact z2j
 .exact z0n
 .exact z3f
 .exact z1t
 .exact z1m
 .exact z2r
 .exact z0k
 .exact z2d
 .exact z5l
 .exact z2w
 .exact z1g
 .exact z2g
 .exact z4o
 .exact z3o
 .exact z2p
 .exact z4k
 .exact z4h
 .exact z5o
 .exact z0x
 .exact z2z
 .exact z1a
 .exact z2x
 .exact z4m
 .exact z1f
 .exact zwz
 .exact zrs
 .exact zrl
 .exact zzk
 .exact zzj
 .exact zur
 .exact zwh
 .exact zqh
 .exact ztt
 .exact zsf
 .exact zpu
 .exact zpy
 .exact zya
 .exact zsd
 .exact zxo
 .exact zrg
 .exact zqw
 .exact zxe
 .exact zuh
 .exact zpm
 .exact zwn
 .exact zsb
 .exact zsu
 .exact zsv
 .exact zqc
 .exact zvl
 .exact zrq
 .exact zzb
 .exact zvy
 .exact zvr
 .exact zyg
 .exact zys
 .exact zug
 .exact zwo
 .exact ztv
 .exact zvb
 .exact zvs
 .exact zwe
 .exact zxs
 .exact zyb
 .exact zrx
 .exact zvg
 .exact zwf
 .exact zqp
 .exact zwd
 .exact zzc
 .exact zrf
 .exact zye
 .exact zzf
 .exact zqy
 .exact zxi
 .exact zxj
 .exact ztr
 .exact zqv
 .exact zxm
 .exact zzh
 .exact ztu
 .exact zpx
 .exact zsg
 .exact zyp
 .exact zut
 .exact zwi
 .exact zyf
 .exact zrv
 .exact zrr
 .exact zth
 .exact zyx
 .exact zzn
 .exact zqo
 .exact zpp
 .exact ztm
 .exact zvp
 .exact zri
 .exact zqm
 .exact zwp
 .exact zst
 .exact zun
 .exact zqz
 .exact zrb
 .exact zvd
 .exact zxy
 .exact zzl
 .exact zvf
 .exact zql
 .exact zxw
 .exact zps
 .exact zvz
 .exact zra
 .exact zqn
 .exact zwr
 .exact zue
 .exact zsr
 .exact zrd
 .exact zsz
 .exact zxk
 .exact zss
 .exact zwl
 .exact zwa
 .exact zyo
 .exact zul
 .exact zup
 .exact zrp
 .exact zqd
 .exact zyr
 .exact zxf
 .exact zqe
 .exact ztq
 .exact ztn
 .exact zzg
 .exact zqb
 .exact zry
 .exact zty
 .exact zyl
 .exact zyq
 .exact zrz
 .exact zxt
 .exact zxu
 .exact ztg
 .exact ztj
 .exact zsj
 .exact zzo
 .exact zsq
 .exact zsc
 .exact zpz
 .exact zqf
 .exact zvw
 .exact zpl
 .exact zrw
 .exact zuc
 .exact zxq
 .exact zsi
 .exact ztc
 .exact zto
 .exact zyj
 .exact zsn
 .exact zuw
 .exact zwv
 .exact zrm
 .exact zvm
 .exact zru
 .exact zzs
theorem made:∀f g,pg f=some g->∃fn fresh raw,Tryz.prog.funcs[f]?=some fn/\zke Tryz.prog fresh raw fn=some g:=fun f g h=>znq (f,g) (q8o h)
@[simp] theorem pg3:pg 3=some ir3:=rfl
@[simp] theorem jja:ir3.raw=false:=rfl
@[simp] theorem pg4:pg 4=some ir4:=rfl
@[simp] theorem jin:ir4.raw=false:=rfl
@[simp] theorem pg7:pg 7=some ir7:=rfl
@[simp] theorem jio:ir7.raw=false:=rfl
@[simp] theorem pg8:pg 8=some ir8:=rfl
@[simp] theorem jiw:ir8.raw=false:=rfl
@[simp] theorem pg9:pg 9=some ir9:=rfl
@[simp] theorem jjb:ir9.raw=false:=rfl
@[simp] theorem pg10:pg 10=some ir10:=rfl
@[simp] theorem jdh:ir10.raw=false:=rfl
@[simp] theorem pg11:pg 11=some ir11:=rfl
@[simp] theorem jea:ir11.raw=false:=rfl
@[simp] theorem pg12:pg 12=some ir12:=rfl
@[simp] theorem jem:ir12.raw=false:=rfl
@[simp] theorem pg13:pg 13=some ir13:=rfl
@[simp] theorem jfx:ir13.raw=false:=rfl
@[simp] theorem pg14:pg 14=some ir14:=rfl
@[simp] theorem jif:ir14.raw=false:=rfl
@[simp] theorem pg15:pg 15=some ir15:=rfl
@[simp] theorem jij:ir15.raw=false:=rfl
@[simp] theorem pg16:pg 16=some ir16:=rfl
@[simp] theorem jdo:ir16.raw=false:=rfl
@[simp] theorem pg17:pg 17=some ir17:=rfl
@[simp] theorem jhh:ir17.raw=false:=rfl
@[simp] theorem pg18:pg 18=some ir18:=rfl
@[simp] theorem jfc:ir18.raw=false:=rfl
@[simp] theorem pg19:pg 19=some ir19:=rfl
@[simp] theorem jgk:ir19.raw=false:=rfl
@[simp] theorem pg20:pg 20=some ir20:=rfl
@[simp] theorem jev:ir20.raw=false:=rfl
@[simp] theorem pg21:pg 21=some ir21:=rfl
@[simp] theorem jhn:ir21.raw=false:=rfl
@[simp] theorem pg25:pg 25=some ir25:=rfl
@[simp] theorem jfo:ir25.raw=false:=rfl
@[simp] theorem pg28:pg 28=some ir28:=rfl
@[simp] theorem jen:ir28.raw=false:=rfl
@[simp] theorem pg30:pg 30=some ir30:=rfl
@[simp] theorem jht:ir30.raw=false:=rfl
@[simp] theorem pg35:pg 35=some ir35:=rfl
@[simp] theorem jdr:ir35.raw=false:=rfl
@[simp] theorem pg36:pg 36=some ir36:=rfl
@[simp] theorem jhp:ir36.raw=false:=rfl
@[simp] theorem pg37:pg 37=some ir37:=rfl
@[simp] theorem jet:ir37.raw=false:=rfl
@[simp] theorem pg38:pg 38=some ir38:=rfl
@[simp] theorem jib:ir38.raw=false:=rfl
@[simp] theorem pg39:pg 39=some ir39:=rfl
@[simp] theorem jfv:ir39.raw=false:=rfl
@[simp] theorem pg40:pg 40=some ir40:=rfl
@[simp] theorem jgo:ir40.raw=false:=rfl
@[simp] theorem pg41:pg 41=some ir41:=rfl
@[simp] theorem jhw:ir41.raw=false:=rfl
@[simp] theorem pg42:pg 42=some ir42:=rfl
@[simp] theorem jfy:ir42.raw=false:=rfl
@[simp] theorem pg43:pg 43=some ir43:=rfl
@[simp] theorem jeu:ir43.raw=false:=rfl
@[simp] theorem pg44:pg 44=some ir44:=rfl
@[simp] theorem jew:ir44.raw=false:=rfl
@[simp] theorem pg45:pg 45=some ir45:=rfl
@[simp] theorem jfp:ir45.raw=false:=rfl
@[simp] theorem pg46:pg 46=some ir46:=rfl
@[simp] theorem jdx:ir46.raw=false:=rfl
@[simp] theorem pg47:pg 47=some ir47:=rfl
@[simp] theorem jdw:ir47.raw=false:=rfl
@[simp] theorem pg48:pg 48=some ir48:=rfl
@[simp] theorem jex:ir48.raw=false:=rfl
@[simp] theorem pg49:pg 49=some ir49:=rfl
@[simp] theorem jee:ir49.raw=false:=rfl
@[simp] theorem pg50:pg 50=some ir50:=rfl
@[simp] theorem jfb:ir50.raw=false:=rfl
@[simp] theorem pg51:pg 51=some ir51:=rfl
@[simp] theorem jeh:ir51.raw=false:=rfl
@[simp] theorem pg52:pg 52=some ir52:=rfl
@[simp] theorem jfk:ir52.raw=false:=rfl
@[simp] theorem pg53:pg 53=some ir53:=rfl
@[simp] theorem jgg:ir53.raw=false:=rfl
@[simp] theorem pg54:pg 54=some ir54:=rfl
@[simp] theorem jeb:ir54.raw=false:=rfl
@[simp] theorem pg55:pg 55=some ir55:=rfl
@[simp] theorem jhx:ir55.raw=false:=rfl
@[simp] theorem pg56:pg 56=some ir56:=rfl
@[simp] theorem jik:ir56.raw=false:=rfl
@[simp] theorem pg57:pg 57=some ir57:=rfl
@[simp] theorem jei:ir57.raw=false:=rfl
@[simp] theorem pg58:pg 58=some ir58:=rfl
@[simp] theorem jfa:ir58.raw=false:=rfl
@[simp] theorem pg59:pg 59=some ir59:=rfl
@[simp] theorem jii:ir59.raw=false:=rfl
@[simp] theorem pg60:pg 60=some ir60:=rfl
@[simp] theorem jhg:ir60.raw=false:=rfl
@[simp] theorem pg61:pg 61=some ir61:=rfl
@[simp] theorem jfn:ir61.raw=false:=rfl
@[simp] theorem pg74:pg 74=some ir74:=rfl
@[simp] theorem jgq:ir74.raw=false:=rfl
@[simp] theorem pg76:pg 76=some ir76:=rfl
@[simp] theorem jga:ir76.raw=false:=rfl
@[simp] theorem pg77:pg 77=some ir77:=rfl
@[simp] theorem jhi:ir77.raw=true:=rfl
@[simp] theorem pg78:pg 78=some ir78:=rfl
@[simp] theorem jdc:ir78.raw=true:=rfl
@[simp] theorem pg79:pg 79=some ir79:=rfl
@[simp] theorem jhl:ir79.raw=false:=rfl
@[simp] theorem pg82:pg 82=some ir82:=rfl
@[simp] theorem jie:ir82.raw=false:=rfl
@[simp] theorem pg91:pg 91=some ir91:=rfl
@[simp] theorem jgf:ir91.raw=false:=rfl
@[simp] theorem pg97:pg 97=some ir97:=rfl
@[simp] theorem jdy:ir97.raw=false:=rfl
@[simp] theorem pg98:pg 98=some ir98:=rfl
@[simp] theorem jdq:ir98.raw=true:=rfl
@[simp] theorem pg99:pg 99=some ir99:=rfl
@[simp] theorem jey:ir99.raw=false:=rfl
@[simp] theorem pg100:pg 100=some ir100:=rfl
@[simp] theorem z7e:ir100.raw=false:=rfl
@[simp] theorem pg101:pg 101=some ir101:=rfl
@[simp] theorem jac:ir101.raw=false:=rfl
@[simp] theorem pg102:pg 102=some ir102:=rfl
@[simp] theorem jag:ir102.raw=false:=rfl
@[simp] theorem pg103:pg 103=some ir103:=rfl
@[simp] theorem z7p:ir103.raw=false:=rfl
@[simp] theorem pg104:pg 104=some ir104:=rfl
@[simp] theorem z6k:ir104.raw=false:=rfl
@[simp] theorem pg105:pg 105=some ir105:=rfl
@[simp] theorem jbq:ir105.raw=false:=rfl
@[simp] theorem pg106:pg 106=some ir106:=rfl
@[simp] theorem z7l:ir106.raw=false:=rfl
@[simp] theorem pg107:pg 107=some ir107:=rfl
@[simp] theorem z9t:ir107.raw=false:=rfl
@[simp] theorem pg108:pg 108=some ir108:=rfl
@[simp] theorem jcg:ir108.raw=false:=rfl
@[simp] theorem pg109:pg 109=some ir109:=rfl
@[simp] theorem z8r:ir109.raw=true:=rfl
@[simp] theorem pg110:pg 110=some ir110:=rfl
@[simp] theorem jco:ir110.raw=false:=rfl
@[simp] theorem pg111:pg 111=some ir111:=rfl
@[simp] theorem jax:ir111.raw=false:=rfl
@[simp] theorem pg112:pg 112=some ir112:=rfl
@[simp] theorem z9r:ir112.raw=false:=rfl
@[simp] theorem pg113:pg 113=some ir113:=rfl
@[simp] theorem z7j:ir113.raw=false:=rfl
@[simp] theorem pg114:pg 114=some ir114:=rfl
@[simp] theorem z8j:ir114.raw=false:=rfl
@[simp] theorem pg115:pg 115=some ir115:=rfl
@[simp] theorem jai:ir115.raw=false:=rfl
@[simp] theorem pg116:pg 116=some ir116:=rfl
@[simp] theorem z7w:ir116.raw=false:=rfl
@[simp] theorem pg117:pg 117=some ir117:=rfl
@[simp] theorem jbp:ir117.raw=true:=rfl
@[simp] theorem pg118:pg 118=some ir118:=rfl
@[simp] theorem z6y:ir118.raw=true:=rfl
@[simp] theorem pg119:pg 119=some ir119:=rfl
@[simp] theorem jbs:ir119.raw=true:=rfl
@[simp] theorem pg120:pg 120=some ir120:=rfl
@[simp] theorem jbd:ir120.raw=false:=rfl
@[simp] theorem pg121:pg 121=some ir121:=rfl
@[simp] theorem jbe:ir121.raw=false:=rfl
@[simp] theorem pg123:pg 123=some ir123:=rfl
@[simp] theorem z7d:ir123.raw=true:=rfl
@[simp] theorem pg124:pg 124=some ir124:=rfl
@[simp] theorem z6b:ir124.raw=false:=rfl
@[simp] theorem pg125:pg 125=some ir125:=rfl
@[simp] theorem z7i:ir125.raw=false:=rfl
@[simp] theorem pg126:pg 126=some ir126:=rfl
@[simp] theorem z8b:ir126.raw=false:=rfl
@[simp] theorem pg127:pg 127=some ir127:=rfl
@[simp] theorem jbc:ir127.raw=false:=rfl
@[simp] theorem pg128:pg 128=some ir128:=rfl
@[simp] theorem z7n:ir128.raw=false:=rfl
@[simp] theorem pg129:pg 129=some ir129:=rfl
@[simp] theorem z7m:ir129.raw=false:=rfl
@[simp] theorem pg130:pg 130=some ir130:=rfl
@[simp] theorem z8o:ir130.raw=false:=rfl
@[simp] theorem pg131:pg 131=some ir131:=rfl
@[simp] theorem z6a:ir131.raw=false:=rfl
@[simp] theorem pg132:pg 132=some ir132:=rfl
@[simp] theorem z9g:ir132.raw=false:=rfl
@[simp] theorem pg148:pg 148=some ir148:=rfl
@[simp] theorem z9j:ir148.raw=false:=rfl
@[simp] theorem pg149:pg 149=some ir149:=rfl
@[simp] theorem jbi:ir149.raw=false:=rfl
@[simp] theorem pg150:pg 150=some ir150:=rfl
@[simp] theorem z7f:ir150.raw=false:=rfl
@[simp] theorem pg151:pg 151=some ir151:=rfl
@[simp] theorem jau:ir151.raw=false:=rfl
@[simp] theorem pg152:pg 152=some ir152:=rfl
@[simp] theorem z9u:ir152.raw=true:=rfl
@[simp] theorem pg153:pg 153=some ir153:=rfl
@[simp] theorem jav:ir153.raw=true:=rfl
@[simp] theorem pg154:pg 154=some ir154:=rfl
@[simp] theorem z7y:ir154.raw=true:=rfl
@[simp] theorem pg155:pg 155=some ir155:=rfl
@[simp] theorem z8m:ir155.raw=true:=rfl
@[simp] theorem pg156:pg 156=some ir156:=rfl
@[simp] theorem z8y:ir156.raw=true:=rfl
@[simp] theorem pg157:pg 157=some ir157:=rfl
@[simp] theorem z6e:ir157.raw=true:=rfl
@[simp] theorem pg162:pg 162=some ir162:=rfl
@[simp] theorem jbb:ir162.raw=false:=rfl
@[simp] theorem pg163:pg 163=some ir163:=rfl
@[simp] theorem z7r:ir163.raw=false:=rfl
@[simp] theorem pg176:pg 176=some ir176:=rfl
@[simp] theorem z9b:ir176.raw=false:=rfl
@[simp] theorem pg177:pg 177=some ir177:=rfl
@[simp] theorem jcw:ir177.raw=true:=rfl
@[simp] theorem pg178:pg 178=some ir178:=rfl
@[simp] theorem jbw:ir178.raw=false:=rfl
@[simp] theorem pg179:pg 179=some ir179:=rfl
@[simp] theorem jaw:ir179.raw=false:=rfl
@[simp] theorem pg180:pg 180=some ir180:=rfl
@[simp] theorem jaf:ir180.raw=false:=rfl
@[simp] theorem pg181:pg 181=some ir181:=rfl
@[simp] theorem jcs:ir181.raw=false:=rfl
@[simp] theorem pg182:pg 182=some ir182:=rfl
@[simp] theorem z8t:ir182.raw=false:=rfl
@[simp] theorem pg183:pg 183=some ir183:=rfl
@[simp] theorem jbm:ir183.raw=false:=rfl
@[simp] theorem pg184:pg 184=some ir184:=rfl
@[simp] theorem z7o:ir184.raw=false:=rfl
@[simp] theorem pg185:pg 185=some ir185:=rfl
@[simp] theorem z9f:ir185.raw=false:=rfl
@[simp] theorem pg186:pg 186=some ir186:=rfl
@[simp] theorem jan:ir186.raw=false:=rfl
@[simp] theorem pg187:pg 187=some ir187:=rfl
@[simp] theorem jcf:ir187.raw=false:=rfl
@[simp] theorem pg188:pg 188=some ir188:=rfl
@[simp] theorem z7x:ir188.raw=false:=rfl
@[simp] theorem pg189:pg 189=some ir189:=rfl
@[simp] theorem jcr:ir189.raw=false:=rfl
@[simp] theorem pg190:pg 190=some ir190:=rfl
@[simp] theorem jbr:ir190.raw=false:=rfl
@[simp] theorem pg191:pg 191=some ir191:=rfl
@[simp] theorem z6r:ir191.raw=false:=rfl
@[simp] theorem pg192:pg 192=some ir192:=rfl
@[simp] theorem z9c:ir192.raw=false:=rfl
@[simp] theorem pg193:pg 193=some ir193:=rfl
@[simp] theorem z7b:ir193.raw=false:=rfl
@[simp] theorem pg194:pg 194=some ir194:=rfl
@[simp] theorem jbo:ir194.raw=false:=rfl
@[simp] theorem pg195:pg 195=some ir195:=rfl
@[simp] theorem z9i:ir195.raw=false:=rfl
@[simp] theorem pg196:pg 196=some ir196:=rfl
@[simp] theorem z9l:ir196.raw=false:=rfl
@[simp] theorem pg197:pg 197=some ir197:=rfl
@[simp] theorem jbl:ir197.raw=true:=rfl
@[simp] theorem pg198:pg 198=some ir198:=rfl
@[simp] theorem z6h:ir198.raw=false:=rfl
@[simp] theorem pg199:pg 199=some ir199:=rfl
@[simp] theorem z6p:ir199.raw=false:=rfl
@[simp] theorem pg200:pg 200=some ir200:=rfl
@[simp] theorem jbj:ir200.raw=false:=rfl
@[simp] theorem pg201:pg 201=some ir201:=rfl
@[simp] theorem z6f:ir201.raw=false:=rfl
@[simp] theorem pg202:pg 202=some ir202:=rfl
@[simp] theorem jbh:ir202.raw=false:=rfl
@[simp] theorem pg203:pg 203=some ir203:=rfl
@[simp] theorem jaq:ir203.raw=false:=rfl
@[simp] theorem pg204:pg 204=some ir204:=rfl
@[simp] theorem z8s:ir204.raw=false:=rfl
@[simp] theorem pg205:pg 205=some ir205:=rfl
@[simp] theorem jaj:ir205.raw=false:=rfl
@[simp] theorem pg206:pg 206=some ir206:=rfl
@[simp] theorem jcc:ir206.raw=false:=rfl
@[simp] theorem pg209:pg 209=some ir209:=rfl
@[simp] theorem z8n:ir209.raw=true:=rfl
@[simp] theorem pg210:pg 210=some ir210:=rfl
@[simp] theorem z8l:ir210.raw=false:=rfl
@[simp] theorem pg228:pg 228=some ir228:=rfl
@[simp] theorem z9e:ir228.raw=false:=rfl
@[simp] theorem pg229:pg 229=some ir229:=rfl
@[simp] theorem z6o:ir229.raw=false:=rfl
@[simp] theorem pg230:pg 230=some ir230:=rfl
@[simp] theorem jcx:ir230.raw=false:=rfl
@[simp] theorem pg231:pg 231=some ir231:=rfl
@[simp] theorem jcn:ir231.raw=false:=rfl
@[simp] theorem pg232:pg 232=some ir232:=rfl
@[simp] theorem z9m:ir232.raw=false:=rfl
@[simp] theorem pg233:pg 233=some ir233:=rfl
@[simp] theorem z6c:ir233.raw=false:=rfl
@[simp] theorem pg234:pg 234=some ir234:=rfl
@[simp] theorem z8a:ir234.raw=false:=rfl
@[simp] theorem pg235:pg 235=some ir235:=rfl
@[simp] theorem jaz:ir235.raw=true:=rfl
@[simp] theorem pg236:pg 236=some ir236:=rfl
@[simp] theorem jcv:ir236.raw=false:=rfl
@[simp] theorem pg237:pg 237=some ir237:=rfl
@[simp] theorem z6u:ir237.raw=true:=rfl
@[simp] theorem pg238:pg 238=some ir238:=rfl
@[simp] theorem z6x:ir238.raw=false:=rfl
@[simp] theorem pg239:pg 239=some ir239:=rfl
@[simp] theorem jap:ir239.raw=true:=rfl
@[simp] theorem pg240:pg 240=some ir240:=rfl
@[simp] theorem z9h:ir240.raw=true:=rfl
@[simp] theorem pg241:pg 241=some ir241:=rfl
@[simp] theorem z7a:ir241.raw=false:=rfl
@[simp] theorem pg242:pg 242=some ir242:=rfl
@[simp] theorem z8g:ir242.raw=false:=rfl
@[simp] theorem pg243:pg 243=some ir243:=rfl
@[simp] theorem jae:ir243.raw=true:=rfl
@[simp] theorem pg244:pg 244=some ir244:=rfl
@[simp] theorem jbf:ir244.raw=true:=rfl
@[simp] theorem pg245:pg 245=some ir245:=rfl
@[simp] theorem jal:ir245.raw=true:=rfl
@[simp] theorem pg246:pg 246=some ir246:=rfl
@[simp] theorem z6g:ir246.raw=true:=rfl
@[simp] theorem pg247:pg 247=some ir247:=rfl
@[simp] theorem z6w:ir247.raw=true:=rfl
@[simp] theorem pg248:pg 248=some ir248:=rfl
@[simp] theorem jay:ir248.raw=true:=rfl
@[simp] theorem pg249:pg 249=some ir249:=rfl
@[simp] theorem jca:ir249.raw=false:=rfl
@[simp] theorem pg250:pg 250=some ir250:=rfl
@[simp] theorem jar:ir250.raw=true:=rfl
@[simp] theorem pg251:pg 251=some ir251:=rfl
@[simp] theorem z9p:ir251.raw=true:=rfl
@[simp] theorem pg253:pg 253=some ir253:=rfl
@[simp] theorem jak:ir253.raw=false:=rfl
@[simp] theorem pg270:pg 270=some ir270:=rfl
@[simp] theorem z9z:ir270.raw=false:=rfl
@[simp] theorem pg271:pg 271=some ir271:=rfl
@[simp] theorem z7s:ir271.raw=false:=rfl
@[simp] theorem pg272:pg 272=some ir272:=rfl
@[simp] theorem z9q:ir272.raw=true:=rfl
@[simp] theorem pg273:pg 273=some ir273:=rfl
@[simp] theorem jch:ir273.raw=false:=rfl
@[simp] theorem pg274:pg 274=some ir274:=rfl
@[simp] theorem z8h:ir274.raw=false:=rfl
@[simp] theorem pg275:pg 275=some ir275:=rfl
@[simp] theorem jcb:ir275.raw=true:=rfl
@[simp] theorem pg276:pg 276=some ir276:=rfl
@[simp] theorem z6i:ir276.raw=false:=rfl
@[simp] theorem pg277:pg 277=some ir277:=rfl
@[simp] theorem jbz:ir277.raw=false:=rfl
@[simp] theorem pg278:pg 278=some ir278:=rfl
@[simp] theorem jbk:ir278.raw=true:=rfl
@[simp] theorem pg279:pg 279=some ir279:=rfl
@[simp] theorem z8z:ir279.raw=false:=rfl
@[simp] theorem pg280:pg 280=some ir280:=rfl
@[simp] theorem jbt:ir280.raw=true:=rfl
@[simp] theorem pg281:pg 281=some ir281:=rfl
@[simp] theorem jce:ir281.raw=false:=rfl
@[simp] theorem pg282:pg 282=some ir282:=rfl
@[simp] theorem z9s:ir282.raw=true:=rfl
@[simp] theorem pg283:pg 283=some ir283:=rfl
@[simp] theorem jao:ir283.raw=true:=rfl
@[simp] theorem pg284:pg 284=some ir284:=rfl
@[simp] theorem z6v:ir284.raw=true:=rfl
@[simp] theorem pg285:pg 285=some ir285:=rfl
@[simp] theorem z7t:ir285.raw=false:=rfl
@[simp] theorem pg294:pg 294=some ir294:=rfl
@[simp] theorem jaa:ir294.raw=false:=rfl
@[simp] theorem pg295:pg 295=some ir295:=rfl
@[simp] theorem jas:ir295.raw=false:=rfl
@[simp] theorem pg296:pg 296=some ir296:=rfl
@[simp] theorem jci:ir296.raw=false:=rfl
@[simp] theorem pg297:pg 297=some ir297:=rfl
@[simp] theorem z8k:ir297.raw=true:=rfl
@[simp] theorem pg298:pg 298=some ir298:=rfl
@[simp] theorem z8q:ir298.raw=false:=rfl
@[simp] theorem pg299:pg 299=some ir299:=rfl
@[simp] theorem z6q:ir299.raw=true:=rfl
@[simp] theorem pg300:pg 300=some ir300:=rfl
@[simp] theorem z6m:ir300.raw=true:=rfl
@[simp] theorem pg301:pg 301=some ir301:=rfl
@[simp] theorem jcj:ir301.raw=false:=rfl
@[simp] theorem pg302:pg 302=some ir302:=rfl
@[simp] theorem z8c:ir302.raw=false:=rfl
@[simp] theorem pg303:pg 303=some ir303:=rfl
@[simp] theorem z6n:ir303.raw=true:=rfl
@[simp] theorem pg306:pg 306=some ir306:=rfl
@[simp] theorem jct:ir306.raw=false:=rfl
@[simp] theorem pg307:pg 307=some ir307:=rfl
@[simp] theorem jck:ir307.raw=false:=rfl
@[simp] theorem pg308:pg 308=some ir308:=rfl
@[simp] theorem jab:ir308.raw=false:=rfl
@[simp] theorem pg309:pg 309=some ir309:=rfl
@[simp] theorem z7c:ir309.raw=false:=rfl
@[simp] theorem pg310:pg 310=some ir310:=rfl
@[simp] theorem z9x:ir310.raw=false:=rfl
@[simp] theorem pg311:pg 311=some ir311:=rfl
@[simp] theorem z8e:ir311.raw=false:=rfl
@[simp] theorem pg312:pg 312=some ir312:=rfl
@[simp] theorem z6d:ir312.raw=false:=rfl
@[simp] theorem pg313:pg 313=some ir313:=rfl
@[simp] theorem jcl:ir313.raw=false:=rfl
@[simp] theorem pg315:pg 315=some ir315:=rfl
@[simp] theorem z8w:ir315.raw=true:=rfl
@[simp] theorem pg316:pg 316=some ir316:=rfl
@[simp] theorem z7h:ir316.raw=false:=rfl
@[simp] theorem pg335:pg 335=some ir335:=rfl
@[simp] theorem jcm:ir335.raw=true:=rfl
@[simp] theorem pg336:pg 336=some ir336:=rfl
@[simp] theorem jbn:ir336.raw=true:=rfl
@[simp] theorem pg337:pg 337=some ir337:=rfl
@[simp] theorem jah:ir337.raw=true:=rfl
end Go.Proofs.YtddeacahiilikaaGreat
