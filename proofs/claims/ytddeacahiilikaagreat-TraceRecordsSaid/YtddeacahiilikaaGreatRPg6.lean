/- The program that Am runs: the table of the functions. -/
import Derived.Test.YtddeacahiilikaaGreatRIr6
set_option linter.all false
namespace Go.Proofs.YtddeacahiilikaaGreat
open Go Go.Am Go.Proofs
set_option maxRecDepth 100000
def find:List (Nat×Fun)->Nat->Option Fun
 | [],_=>none
 | (k,g) :: r,f=>if f=k then some g else find r f
theorem q2h:∀{l:List (Nat×Fun)} {f:Nat} {g:Fun},find l f=some g->(f,g)∈l
 | (k,g') :: r,f,g,h=>by
  simp only[find]at h
  split at h
  .rename_i e;cases h;subst e;exact List.mem_cons_self
  .exact List.mem_cons_of_mem _ (q2h h)
def qbd(p:Nat×Fun):Prop:=∃fn fresh raw,Tryz.prog.funcs[p.1]?=some fn/\zbt Tryz.prog fresh raw fn=some p.2
def tbl:List (Nat×Fun):=[(6,ir6),(11,ir11),(30,ir30),(31,ir31),(32,ir32),(33,ir33),(34,ir34),(40,ir40),(43,ir43),(44,ir44),(45,ir45),(46,ir46),(47,ir47),(48,ir48),(58,ir58),(61,ir61),(80,ir80),(82,ir82),(83,ir83),(84,ir84),(85,ir85),(86,ir86),(87,ir87),(88,ir88),(89,ir89),(90,ir90),(91,ir91),(92,ir92),(93,ir93),(94,ir94),(95,ir95),(96,ir96),(106,ir106),(109,ir109),(110,ir110),(111,ir111),(112,ir112),(113,ir113),(114,ir114),(115,ir115),(116,ir116),(117,ir117),(118,ir118),(119,ir119),(120,ir120),(121,ir121),(129,ir129),(130,ir130),(131,ir131),(148,ir148),(156,ir156),(157,ir157),(158,ir158),(159,ir159),(160,ir160),(161,ir161),(162,ir162),(163,ir163),(164,ir164),(165,ir165),(166,ir166),(167,ir167),(168,ir168),(169,ir169),(170,ir170),(171,ir171),(172,ir172),(173,ir173),(174,ir174),(175,ir175),(178,ir178),(180,ir180),(181,ir181),(183,ir183),(184,ir184),(185,ir185),(186,ir186),(187,ir187),(188,ir188),(189,ir189),(190,ir190),(191,ir191),(192,ir192),(193,ir193),(194,ir194),(195,ir195),(196,ir196),(197,ir197),(200,ir200),(201,ir201),(202,ir202),(203,ir203),(204,ir204),(205,ir205),(209,ir209),(210,ir210),(211,ir211),(212,ir212),(213,ir213),(214,ir214),(215,ir215),(216,ir216),(217,ir217),(218,ir218),(219,ir219),(220,ir220),(221,ir221),(222,ir222),(223,ir223),(224,ir224),(225,ir225),(226,ir226),(227,ir227),(228,ir228),(229,ir229),(230,ir230),(231,ir231),(232,ir232),(233,ir233),(234,ir234),(235,ir235),(236,ir236),(237,ir237),(238,ir238),(239,ir239),(240,ir240),(241,ir241),(242,ir242),(243,ir243),(244,ir244),(245,ir245),(246,ir246),(247,ir247),(248,ir248),(249,ir249),(250,ir250),(251,ir251),(252,ir252),(253,ir253),(254,ir254),(255,ir255),(256,ir256),(257,ir257),(265,ir265),(266,ir266),(267,ir267),(268,ir268),(269,ir269),(270,ir270),(271,ir271),(272,ir272),(273,ir273),(274,ir274),(275,ir275),(276,ir276),(277,ir277),(278,ir278),(279,ir279),(280,ir280),(281,ir281),(282,ir282),(283,ir283),(284,ir284),(285,ir285),(286,ir286),(290,ir290),(291,ir291),(292,ir292),(293,ir293),(294,ir294),(295,ir295),(296,ir296),(297,ir297),(298,ir298),(299,ir299),(300,ir300),(301,ir301),(302,ir302),(303,ir303),(304,ir304),(305,ir305),(306,ir306),(307,ir307),(308,ir308),(309,ir309),(310,ir310),(311,ir311),(312,ir312),(313,ir313),(314,ir314),(315,ir315),(316,ir316),(317,ir317),(318,ir318),(319,ir319)]
def pg:Prg:=find tbl
theorem z0e:qbd (6,ir6):=⟨_,false,false,Tryz.func6,by kernel_rfl⟩
theorem zqs:qbd (11,ir11):=⟨_,false,false,Tryz.func11,by kernel_rfl⟩
theorem zqt:qbd (30,ir30):=⟨_,false,false,Tryz.func30,by kernel_rfl⟩
theorem zqu:qbd (31,ir31):=⟨_,false,false,Tryz.func31,by kernel_rfl⟩
theorem zqv:qbd (32,ir32):=⟨_,false,false,Tryz.func32,by kernel_rfl⟩
theorem zqw:qbd (33,ir33):=⟨_,false,false,Tryz.func33,by kernel_rfl⟩
theorem zqx:qbd (34,ir34):=⟨_,false,false,Tryz.func34,by kernel_rfl⟩
theorem zqy:qbd (40,ir40):=⟨_,false,false,Tryz.func40,by kernel_rfl⟩
theorem zqz:qbd (43,ir43):=⟨_,false,false,Tryz.func43,by kernel_rfl⟩
theorem zra:qbd (44,ir44):=⟨_,false,false,Tryz.func44,by kernel_rfl⟩
theorem zrb:qbd (45,ir45):=⟨_,false,false,Tryz.func45,by kernel_rfl⟩
theorem zrc:qbd (46,ir46):=⟨_,false,false,Tryz.func46,by kernel_rfl⟩
theorem zrd:qbd (47,ir47):=⟨_,false,false,Tryz.func47,by kernel_rfl⟩
theorem zre:qbd (48,ir48):=⟨_,true,false,Tryz.func48,by kernel_rfl⟩
theorem zrf:qbd (58,ir58):=⟨_,false,false,Tryz.func58,by kernel_rfl⟩
theorem zrg:qbd (61,ir61):=⟨_,false,false,Tryz.func61,by kernel_rfl⟩
theorem z5d:qbd (80,ir80):=⟨_,false,false,Tryz.func80,by kernel_rfl⟩
theorem zrh:qbd (82,ir82):=⟨_,false,false,Tryz.func82,by kernel_rfl⟩
theorem z5e:qbd (83,ir83):=⟨_,false,false,Tryz.func83,by kernel_rfl⟩
theorem z5f:qbd (84,ir84):=⟨_,false,false,Tryz.func84,by kernel_rfl⟩
theorem z5g:qbd (85,ir85):=⟨_,false,false,Tryz.func85,by kernel_rfl⟩
theorem z5h:qbd (86,ir86):=⟨_,false,false,Tryz.func86,by kernel_rfl⟩
theorem z5i:qbd (87,ir87):=⟨_,false,false,Tryz.func87,by kernel_rfl⟩
theorem z5j:qbd (88,ir88):=⟨_,false,false,Tryz.func88,by kernel_rfl⟩
theorem z5k:qbd (89,ir89):=⟨_,false,false,Tryz.func89,by kernel_rfl⟩
theorem z5l:qbd (90,ir90):=⟨_,false,false,Tryz.func90,by kernel_rfl⟩
theorem zri:qbd (91,ir91):=⟨_,false,false,Tryz.func91,by kernel_rfl⟩
theorem zrj:qbd (92,ir92):=⟨_,false,false,Tryz.func92,by kernel_rfl⟩
theorem zrk:qbd (93,ir93):=⟨_,false,false,Tryz.func93,by kernel_rfl⟩
theorem zrl:qbd (94,ir94):=⟨_,true,false,Tryz.func94,by kernel_rfl⟩
theorem zrm:qbd (95,ir95):=⟨_,false,false,Tryz.func95,by kernel_rfl⟩
theorem zrn:qbd (96,ir96):=⟨_,false,false,Tryz.func96,by kernel_rfl⟩
theorem zhh:qbd (106,ir106):=⟨_,true,false,Tryz.func106,by kernel_rfl⟩
theorem zhi:qbd (109,ir109):=⟨_,false,true,Tryz.func109,by kernel_rfl⟩
theorem zhj:qbd (110,ir110):=⟨_,false,false,Tryz.func110,by kernel_rfl⟩
theorem zhk:qbd (111,ir111):=⟨_,false,false,Tryz.func111,by kernel_rfl⟩
theorem zhl:qbd (112,ir112):=⟨_,false,false,Tryz.func112,by kernel_rfl⟩
theorem zhm:qbd (113,ir113):=⟨_,false,false,Tryz.func113,by kernel_rfl⟩
theorem zhn:qbd (114,ir114):=⟨_,false,false,Tryz.func114,by kernel_rfl⟩
theorem zho:qbd (115,ir115):=⟨_,false,false,Tryz.func115,by kernel_rfl⟩
theorem zhp:qbd (116,ir116):=⟨_,true,false,Tryz.func116,by kernel_rfl⟩
theorem zhq:qbd (117,ir117):=⟨_,false,true,Tryz.func117,by kernel_rfl⟩
theorem zhr:qbd (118,ir118):=⟨_,false,true,Tryz.func118,by kernel_rfl⟩
theorem zhs:qbd (119,ir119):=⟨_,false,true,Tryz.func119,by kernel_rfl⟩
theorem zht:qbd (120,ir120):=⟨_,true,false,Tryz.func120,by kernel_rfl⟩
theorem zhu:qbd (121,ir121):=⟨_,true,false,Tryz.func121,by kernel_rfl⟩
theorem zhv:qbd (129,ir129):=⟨_,false,false,Tryz.func129,by kernel_rfl⟩
theorem zhw:qbd (130,ir130):=⟨_,false,false,Tryz.func130,by kernel_rfl⟩
theorem zhx:qbd (131,ir131):=⟨_,false,false,Tryz.func131,by kernel_rfl⟩
theorem zhy:qbd (148,ir148):=⟨_,false,false,Tryz.func148,by kernel_rfl⟩
theorem zhz:qbd (156,ir156):=⟨_,false,true,Tryz.func156,by kernel_rfl⟩
theorem zia:qbd (157,ir157):=⟨_,true,true,Tryz.func157,by kernel_rfl⟩
theorem z4b:qbd (158,ir158):=⟨_,false,false,Tryz.func158,by kernel_rfl⟩
theorem z4c:qbd (159,ir159):=⟨_,false,false,Tryz.func159,by kernel_rfl⟩
theorem z4d:qbd (160,ir160):=⟨_,false,false,Tryz.func160,by kernel_rfl⟩
theorem z4e:qbd (161,ir161):=⟨_,false,false,Tryz.func161,by kernel_rfl⟩
theorem zib:qbd (162,ir162):=⟨_,false,false,Tryz.func162,by kernel_rfl⟩
theorem zic:qbd (163,ir163):=⟨_,false,false,Tryz.func163,by kernel_rfl⟩
theorem z4f:qbd (164,ir164):=⟨_,true,false,Tryz.func164,by kernel_rfl⟩
theorem z4g:qbd (165,ir165):=⟨_,false,false,Tryz.func165,by kernel_rfl⟩
theorem z4h:qbd (166,ir166):=⟨_,false,true,Tryz.func166,by kernel_rfl⟩
theorem z4i:qbd (167,ir167):=⟨_,false,false,Tryz.func167,by kernel_rfl⟩
theorem z4j:qbd (168,ir168):=⟨_,false,false,Tryz.func168,by kernel_rfl⟩
theorem z4k:qbd (169,ir169):=⟨_,true,false,Tryz.func169,by kernel_rfl⟩
theorem z4l:qbd (170,ir170):=⟨_,false,false,Tryz.func170,by kernel_rfl⟩
theorem zid:qbd (171,ir171):=⟨_,false,false,Tryz.func171,by kernel_rfl⟩
theorem zie:qbd (172,ir172):=⟨_,false,false,Tryz.func172,by kernel_rfl⟩
theorem zif:qbd (173,ir173):=⟨_,false,false,Tryz.func173,by kernel_rfl⟩
theorem zig:qbd (174,ir174):=⟨_,false,false,Tryz.func174,by kernel_rfl⟩
theorem zih:qbd (175,ir175):=⟨_,false,false,Tryz.func175,by kernel_rfl⟩
theorem zii:qbd (178,ir178):=⟨_,false,false,Tryz.func178,by kernel_rfl⟩
theorem zij:qbd (180,ir180):=⟨_,false,false,Tryz.func180,by kernel_rfl⟩
theorem zik:qbd (181,ir181):=⟨_,false,false,Tryz.func181,by kernel_rfl⟩
theorem zil:qbd (183,ir183):=⟨_,false,false,Tryz.func183,by kernel_rfl⟩
theorem zim:qbd (184,ir184):=⟨_,false,false,Tryz.func184,by kernel_rfl⟩
theorem zin:qbd (185,ir185):=⟨_,false,false,Tryz.func185,by kernel_rfl⟩
theorem zio:qbd (186,ir186):=⟨_,false,false,Tryz.func186,by kernel_rfl⟩
theorem ziq:qbd (187,ir187):=⟨_,false,false,Tryz.func187,by kernel_rfl⟩
theorem zir:qbd (188,ir188):=⟨_,false,false,Tryz.func188,by kernel_rfl⟩
theorem zis:qbd (189,ir189):=⟨_,false,false,Tryz.func189,by kernel_rfl⟩
theorem zit:qbd (190,ir190):=⟨_,true,false,Tryz.func190,by kernel_rfl⟩
theorem ziu:qbd (191,ir191):=⟨_,true,false,Tryz.func191,by kernel_rfl⟩
theorem ziv:qbd (192,ir192):=⟨_,false,false,Tryz.func192,by kernel_rfl⟩
theorem ziw:qbd (193,ir193):=⟨_,false,false,Tryz.func193,by kernel_rfl⟩
theorem zix:qbd (194,ir194):=⟨_,false,false,Tryz.func194,by kernel_rfl⟩
theorem ziy:qbd (195,ir195):=⟨_,true,false,Tryz.func195,by kernel_rfl⟩
theorem ziz:qbd (196,ir196):=⟨_,false,false,Tryz.func196,by kernel_rfl⟩
theorem zja:qbd (197,ir197):=⟨_,true,true,Tryz.func197,by kernel_rfl⟩
theorem zjb:qbd (200,ir200):=⟨_,false,false,Tryz.func200,by kernel_rfl⟩
theorem zjc:qbd (201,ir201):=⟨_,false,false,Tryz.func201,by kernel_rfl⟩
theorem zjd:qbd (202,ir202):=⟨_,false,false,Tryz.func202,by kernel_rfl⟩
theorem zje:qbd (203,ir203):=⟨_,false,false,Tryz.func203,by kernel_rfl⟩
theorem zjf:qbd (204,ir204):=⟨_,false,false,Tryz.func204,by kernel_rfl⟩
theorem zjg:qbd (205,ir205):=⟨_,false,false,Tryz.func205,by kernel_rfl⟩
theorem zjh:qbd (209,ir209):=⟨_,false,true,Tryz.func209,by kernel_rfl⟩
theorem zji:qbd (210,ir210):=⟨_,false,false,Tryz.func210,by kernel_rfl⟩
theorem z4m:qbd (211,ir211):=⟨_,false,false,Tryz.func211,by kernel_rfl⟩
theorem z4n:qbd (212,ir212):=⟨_,false,false,Tryz.func212,by kernel_rfl⟩
theorem z4o:qbd (213,ir213):=⟨_,true,false,Tryz.func213,by kernel_rfl⟩
theorem z4p:qbd (214,ir214):=⟨_,false,true,Tryz.func214,by kernel_rfl⟩
theorem z4q:qbd (215,ir215):=⟨_,false,true,Tryz.func215,by kernel_rfl⟩
theorem z4r:qbd (216,ir216):=⟨_,false,true,Tryz.func216,by kernel_rfl⟩
theorem z4s:qbd (217,ir217):=⟨_,true,false,Tryz.func217,by kernel_rfl⟩
theorem z4t:qbd (218,ir218):=⟨_,true,true,Tryz.func218,by kernel_rfl⟩
theorem z4u:qbd (219,ir219):=⟨_,false,false,Tryz.func219,by kernel_rfl⟩
theorem zjj:qbd (220,ir220):=⟨_,false,false,Tryz.func220,by kernel_rfl⟩
theorem zjk:qbd (221,ir221):=⟨_,true,false,Tryz.func221,by kernel_rfl⟩
theorem zjl:qbd (222,ir222):=⟨_,false,false,Tryz.func222,by kernel_rfl⟩
theorem zjm:qbd (223,ir223):=⟨_,true,false,Tryz.func223,by kernel_rfl⟩
theorem zjn:qbd (224,ir224):=⟨_,false,false,Tryz.func224,by kernel_rfl⟩
theorem zjo:qbd (225,ir225):=⟨_,false,false,Tryz.func225,by kernel_rfl⟩
theorem zjp:qbd (226,ir226):=⟨_,false,false,Tryz.func226,by kernel_rfl⟩
theorem zjq:qbd (227,ir227):=⟨_,false,false,Tryz.func227,by kernel_rfl⟩
theorem zjr:qbd (228,ir228):=⟨_,false,false,Tryz.func228,by kernel_rfl⟩
theorem zjs:qbd (229,ir229):=⟨_,false,false,Tryz.func229,by kernel_rfl⟩
theorem zjt:qbd (230,ir230):=⟨_,false,false,Tryz.func230,by kernel_rfl⟩
theorem zju:qbd (231,ir231):=⟨_,false,false,Tryz.func231,by kernel_rfl⟩
theorem zjv:qbd (232,ir232):=⟨_,false,false,Tryz.func232,by kernel_rfl⟩
theorem zjw:qbd (233,ir233):=⟨_,false,false,Tryz.func233,by kernel_rfl⟩
theorem zjx:qbd (234,ir234):=⟨_,false,false,Tryz.func234,by kernel_rfl⟩
theorem zjy:qbd (235,ir235):=⟨_,false,true,Tryz.func235,by kernel_rfl⟩
theorem zjz:qbd (236,ir236):=⟨_,false,false,Tryz.func236,by kernel_rfl⟩
theorem zka:qbd (237,ir237):=⟨_,false,true,Tryz.func237,by kernel_rfl⟩
theorem zkb:qbd (238,ir238):=⟨_,false,false,Tryz.func238,by kernel_rfl⟩
theorem zkc:qbd (239,ir239):=⟨_,false,true,Tryz.func239,by kernel_rfl⟩
theorem zkd:qbd (240,ir240):=⟨_,true,true,Tryz.func240,by kernel_rfl⟩
theorem zke:qbd (241,ir241):=⟨_,false,false,Tryz.func241,by kernel_rfl⟩
theorem zkf:qbd (242,ir242):=⟨_,false,false,Tryz.func242,by kernel_rfl⟩
theorem zkg:qbd (243,ir243):=⟨_,false,true,Tryz.func243,by kernel_rfl⟩
theorem zkh:qbd (244,ir244):=⟨_,false,true,Tryz.func244,by kernel_rfl⟩
theorem zki:qbd (245,ir245):=⟨_,false,true,Tryz.func245,by kernel_rfl⟩
theorem zkj:qbd (246,ir246):=⟨_,false,true,Tryz.func246,by kernel_rfl⟩
theorem zkk:qbd (247,ir247):=⟨_,false,true,Tryz.func247,by kernel_rfl⟩
theorem zkl:qbd (248,ir248):=⟨_,false,true,Tryz.func248,by kernel_rfl⟩
theorem zkm:qbd (249,ir249):=⟨_,false,false,Tryz.func249,by kernel_rfl⟩
theorem zkn:qbd (250,ir250):=⟨_,false,true,Tryz.func250,by kernel_rfl⟩
theorem zko:qbd (251,ir251):=⟨_,false,true,Tryz.func251,by kernel_rfl⟩
theorem z4v:qbd (252,ir252):=⟨_,false,false,Tryz.func252,by kernel_rfl⟩
theorem zkp:qbd (253,ir253):=⟨_,false,false,Tryz.func253,by kernel_rfl⟩
theorem z4w:qbd (254,ir254):=⟨_,false,false,Tryz.func254,by kernel_rfl⟩
theorem z4x:qbd (255,ir255):=⟨_,true,false,Tryz.func255,by kernel_rfl⟩
theorem z4y:qbd (256,ir256):=⟨_,false,false,Tryz.func256,by kernel_rfl⟩
theorem z4z:qbd (257,ir257):=⟨_,false,true,Tryz.func257,by kernel_rfl⟩
theorem z5a:qbd (265,ir265):=⟨_,false,true,Tryz.func265,by kernel_rfl⟩
theorem zkq:qbd (266,ir266):=⟨_,false,false,Tryz.func266,by kernel_rfl⟩
theorem zkr:qbd (267,ir267):=⟨_,false,false,Tryz.func267,by kernel_rfl⟩
theorem zks:qbd (268,ir268):=⟨_,false,false,Tryz.func268,by kernel_rfl⟩
theorem zkt:qbd (269,ir269):=⟨_,false,false,Tryz.func269,by kernel_rfl⟩
theorem zku:qbd (270,ir270):=⟨_,false,false,Tryz.func270,by kernel_rfl⟩
theorem zkv:qbd (271,ir271):=⟨_,false,false,Tryz.func271,by kernel_rfl⟩
theorem zkw:qbd (272,ir272):=⟨_,false,true,Tryz.func272,by kernel_rfl⟩
theorem zkx:qbd (273,ir273):=⟨_,false,false,Tryz.func273,by kernel_rfl⟩
theorem zky:qbd (274,ir274):=⟨_,false,false,Tryz.func274,by kernel_rfl⟩
theorem zkz:qbd (275,ir275):=⟨_,false,true,Tryz.func275,by kernel_rfl⟩
theorem zla:qbd (276,ir276):=⟨_,false,false,Tryz.func276,by kernel_rfl⟩
theorem zlb:qbd (277,ir277):=⟨_,true,false,Tryz.func277,by kernel_rfl⟩
theorem zlc:qbd (278,ir278):=⟨_,false,true,Tryz.func278,by kernel_rfl⟩
theorem zld:qbd (279,ir279):=⟨_,false,false,Tryz.func279,by kernel_rfl⟩
theorem zle:qbd (280,ir280):=⟨_,false,true,Tryz.func280,by kernel_rfl⟩
theorem zlf:qbd (281,ir281):=⟨_,false,false,Tryz.func281,by kernel_rfl⟩
theorem zlg:qbd (282,ir282):=⟨_,false,true,Tryz.func282,by kernel_rfl⟩
theorem zlh:qbd (283,ir283):=⟨_,false,true,Tryz.func283,by kernel_rfl⟩
theorem zli:qbd (284,ir284):=⟨_,false,true,Tryz.func284,by kernel_rfl⟩
theorem zlj:qbd (285,ir285):=⟨_,false,false,Tryz.func285,by kernel_rfl⟩
theorem z5b:qbd (286,ir286):=⟨_,true,true,Tryz.func286,by kernel_rfl⟩
theorem zlk:qbd (290,ir290):=⟨_,false,false,Tryz.func290,by kernel_rfl⟩
theorem zll:qbd (291,ir291):=⟨_,false,false,Tryz.func291,by kernel_rfl⟩
theorem zlm:qbd (292,ir292):=⟨_,false,false,Tryz.func292,by kernel_rfl⟩
theorem zln:qbd (293,ir293):=⟨_,false,false,Tryz.func293,by kernel_rfl⟩
theorem zlo:qbd (294,ir294):=⟨_,false,false,Tryz.func294,by kernel_rfl⟩
theorem zlp:qbd (295,ir295):=⟨_,false,false,Tryz.func295,by kernel_rfl⟩
theorem zlq:qbd (296,ir296):=⟨_,false,false,Tryz.func296,by kernel_rfl⟩
theorem zlr:qbd (297,ir297):=⟨_,false,true,Tryz.func297,by kernel_rfl⟩
theorem zls:qbd (298,ir298):=⟨_,false,false,Tryz.func298,by kernel_rfl⟩
theorem zlt:qbd (299,ir299):=⟨_,false,true,Tryz.func299,by kernel_rfl⟩
theorem zlu:qbd (300,ir300):=⟨_,true,true,Tryz.func300,by kernel_rfl⟩
theorem zlv:qbd (301,ir301):=⟨_,false,false,Tryz.func301,by kernel_rfl⟩
theorem zlw:qbd (302,ir302):=⟨_,false,false,Tryz.func302,by kernel_rfl⟩
theorem zlx:qbd (303,ir303):=⟨_,false,true,Tryz.func303,by kernel_rfl⟩
theorem z5c:qbd (304,ir304):=⟨_,false,false,Tryz.func304,by kernel_rfl⟩
theorem zly:qbd (305,ir305):=⟨_,false,false,Tryz.func305,by kernel_rfl⟩
theorem zlz:qbd (306,ir306):=⟨_,false,false,Tryz.func306,by kernel_rfl⟩
theorem zma:qbd (307,ir307):=⟨_,true,false,Tryz.func307,by kernel_rfl⟩
theorem zmb:qbd (308,ir308):=⟨_,false,false,Tryz.func308,by kernel_rfl⟩
theorem zmc:qbd (309,ir309):=⟨_,false,false,Tryz.func309,by kernel_rfl⟩
theorem zmd:qbd (310,ir310):=⟨_,false,false,Tryz.func310,by kernel_rfl⟩
theorem zme:qbd (311,ir311):=⟨_,false,false,Tryz.func311,by kernel_rfl⟩
theorem zmf:qbd (312,ir312):=⟨_,false,false,Tryz.func312,by kernel_rfl⟩
theorem zmg:qbd (313,ir313):=⟨_,false,false,Tryz.func313,by kernel_rfl⟩
theorem zmh:qbd (314,ir314):=⟨_,false,false,Tryz.func314,by kernel_rfl⟩
theorem zmi:qbd (315,ir315):=⟨_,true,true,Tryz.func315,by kernel_rfl⟩
theorem zmj:qbd (316,ir316):=⟨_,false,false,Tryz.func316,by kernel_rfl⟩
theorem zmk:qbd (317,ir317):=⟨_,false,false,Tryz.func317,by kernel_rfl⟩
theorem zml:qbd (318,ir318):=⟨_,false,false,Tryz.func318,by kernel_rfl⟩
theorem zmm:qbd (319,ir319):=⟨_,false,false,Tryz.func319,by kernel_rfl⟩
theorem zej:∀p∈tbl,qbd p:=by
 intro p hp
 unfold tbl at hp
 simp only[List.mem_cons,List.not_mem_nil,or_false]at hp
 rcases hp with rfl | rfl | rfl | rfl | rfl | rfl | rfl | rfl | rfl | rfl | rfl | rfl | rfl | rfl | rfl | rfl | rfl | rfl | rfl | rfl | rfl | rfl | rfl | rfl | rfl | rfl | rfl | rfl | rfl | rfl | rfl | rfl | rfl | rfl | rfl | rfl | rfl | rfl | rfl | rfl | rfl | rfl | rfl | rfl | rfl | rfl | rfl | rfl | rfl | rfl | rfl | rfl | rfl | rfl | rfl | rfl | rfl | rfl | rfl | rfl | rfl | rfl | rfl | rfl | rfl | rfl | rfl | rfl | rfl | rfl | rfl | rfl | rfl | rfl | rfl | rfl | rfl | rfl | rfl | rfl | rfl | rfl | rfl | rfl | rfl | rfl | rfl | rfl | rfl | rfl | rfl | rfl | rfl | rfl | rfl | rfl | rfl | rfl | rfl | rfl | rfl | rfl | rfl | rfl | rfl | rfl | rfl | rfl | rfl | rfl | rfl | rfl | rfl | rfl | rfl | rfl | rfl | rfl | rfl | rfl | rfl | rfl | rfl | rfl | rfl | rfl | rfl | rfl | rfl | rfl | rfl | rfl | rfl | rfl | rfl | rfl | rfl | rfl | rfl | rfl | rfl | rfl | rfl | rfl | rfl | rfl | rfl | rfl | rfl | rfl | rfl | rfl | rfl | rfl | rfl | rfl | rfl | rfl | rfl | rfl | rfl | rfl | rfl | rfl | rfl | rfl | rfl | rfl | rfl | rfl | rfl | rfl | rfl | rfl | rfl | rfl | rfl | rfl | rfl | rfl | rfl | rfl | rfl | rfl | rfl | rfl | rfl | rfl | rfl | rfl | rfl | rfl | rfl | rfl | rfl
 .exact z0e
 .exact zqs
 .exact zqt
 .exact zqu
 .exact zqv
 .exact zqw
 .exact zqx
 .exact zqy
 .exact zqz
 .exact zra
 .exact zrb
 .exact zrc
 .exact zrd
 .exact zre
 .exact zrf
 .exact zrg
 .exact z5d
 .exact zrh
 .exact z5e
 .exact z5f
 .exact z5g
 .exact z5h
 .exact z5i
 .exact z5j
 .exact z5k
 .exact z5l
 .exact zri
 .exact zrj
 .exact zrk
 .exact zrl
 .exact zrm
 .exact zrn
 .exact zhh
 .exact zhi
 .exact zhj
 .exact zhk
 .exact zhl
 .exact zhm
 .exact zhn
 .exact zho
 .exact zhp
 .exact zhq
 .exact zhr
 .exact zhs
 .exact zht
 .exact zhu
 .exact zhv
 .exact zhw
 .exact zhx
 .exact zhy
 .exact zhz
 .exact zia
 .exact z4b
 .exact z4c
 .exact z4d
 .exact z4e
 .exact zib
 .exact zic
 .exact z4f
 .exact z4g
 .exact z4h
 .exact z4i
 .exact z4j
 .exact z4k
 .exact z4l
 .exact zid
 .exact zie
 .exact zif
 .exact zig
 .exact zih
 .exact zii
 .exact zij
 .exact zik
 .exact zil
 .exact zim
 .exact zin
 .exact zio
 .exact ziq
 .exact zir
 .exact zis
 .exact zit
 .exact ziu
 .exact ziv
 .exact ziw
 .exact zix
 .exact ziy
 .exact ziz
 .exact zja
 .exact zjb
 .exact zjc
 .exact zjd
 .exact zje
 .exact zjf
 .exact zjg
 .exact zjh
 .exact zji
 .exact z4m
 .exact z4n
 .exact z4o
 .exact z4p
 .exact z4q
 .exact z4r
 .exact z4s
 .exact z4t
 .exact z4u
 .exact zjj
 .exact zjk
 .exact zjl
 .exact zjm
 .exact zjn
 .exact zjo
 .exact zjp
 .exact zjq
 .exact zjr
 .exact zjs
 .exact zjt
 .exact zju
 .exact zjv
 .exact zjw
 .exact zjx
 .exact zjy
 .exact zjz
 .exact zka
 .exact zkb
 .exact zkc
 .exact zkd
 .exact zke
 .exact zkf
 .exact zkg
 .exact zkh
 .exact zki
 .exact zkj
 .exact zkk
 .exact zkl
 .exact zkm
 .exact zkn
 .exact zko
 .exact z4v
 .exact zkp
 .exact z4w
 .exact z4x
 .exact z4y
 .exact z4z
 .exact z5a
 .exact zkq
 .exact zkr
 .exact zks
 .exact zkt
 .exact zku
 .exact zkv
 .exact zkw
 .exact zkx
 .exact zky
 .exact zkz
 .exact zla
 .exact zlb
 .exact zlc
 .exact zld
 .exact zle
 .exact zlf
 .exact zlg
 .exact zlh
 .exact zli
 .exact zlj
 .exact z5b
 .exact zlk
 .exact zll
 .exact zlm
 .exact zln
 .exact zlo
 .exact zlp
 .exact zlq
 .exact zlr
 .exact zls
 .exact zlt
 .exact zlu
 .exact zlv
 .exact zlw
 .exact zlx
 .exact z5c
 .exact zly
 .exact zlz
 .exact zma
 .exact zmb
 .exact zmc
 .exact zmd
 .exact zme
 .exact zmf
 .exact zmg
 .exact zmh
 .exact zmi
 .exact zmj
 .exact zmk
 .exact zml
 .exact zmm
theorem made:∀f g,pg f=some g->∃fn fresh raw,Tryz.prog.funcs[f]?=some fn/\zbt Tryz.prog fresh raw fn=some g:=fun f g h=>zej (f,g) (q2h h)
@[simp] theorem pg6:pg 6=some ir6:=rfl
@[simp] theorem z2o:ir6.raw=false:=rfl
@[simp] theorem pg11:pg 11=some ir11:=rfl
@[simp] theorem z0h:ir11.raw=false:=rfl
@[simp] theorem pg30:pg 30=some ir30:=rfl
@[simp] theorem z0i:ir30.raw=false:=rfl
@[simp] theorem pg31:pg 31=some ir31:=rfl
@[simp] theorem z0j:ir31.raw=false:=rfl
@[simp] theorem pg32:pg 32=some ir32:=rfl
@[simp] theorem z0k:ir32.raw=false:=rfl
@[simp] theorem pg33:pg 33=some ir33:=rfl
@[simp] theorem z0l:ir33.raw=false:=rfl
@[simp] theorem pg34:pg 34=some ir34:=rfl
@[simp] theorem z0m:ir34.raw=false:=rfl
@[simp] theorem pg40:pg 40=some ir40:=rfl
@[simp] theorem z0n:ir40.raw=false:=rfl
@[simp] theorem pg43:pg 43=some ir43:=rfl
@[simp] theorem z0o:ir43.raw=false:=rfl
@[simp] theorem pg44:pg 44=some ir44:=rfl
@[simp] theorem z0p:ir44.raw=false:=rfl
@[simp] theorem pg45:pg 45=some ir45:=rfl
@[simp] theorem z0q:ir45.raw=false:=rfl
@[simp] theorem pg46:pg 46=some ir46:=rfl
@[simp] theorem z0r:ir46.raw=false:=rfl
@[simp] theorem pg47:pg 47=some ir47:=rfl
@[simp] theorem z0s:ir47.raw=false:=rfl
@[simp] theorem pg48:pg 48=some ir48:=rfl
@[simp] theorem z0t:ir48.raw=false:=rfl
@[simp] theorem pg58:pg 58=some ir58:=rfl
@[simp] theorem z0u:ir58.raw=false:=rfl
@[simp] theorem pg61:pg 61=some ir61:=rfl
@[simp] theorem z0v:ir61.raw=false:=rfl
@[simp] theorem pg80:pg 80=some ir80:=rfl
@[simp] theorem z6o:ir80.raw=false:=rfl
@[simp] theorem pg82:pg 82=some ir82:=rfl
@[simp] theorem z0w:ir82.raw=false:=rfl
@[simp] theorem pg83:pg 83=some ir83:=rfl
@[simp] theorem z6p:ir83.raw=false:=rfl
@[simp] theorem pg84:pg 84=some ir84:=rfl
@[simp] theorem z6q:ir84.raw=false:=rfl
@[simp] theorem pg85:pg 85=some ir85:=rfl
@[simp] theorem z6r:ir85.raw=false:=rfl
@[simp] theorem pg86:pg 86=some ir86:=rfl
@[simp] theorem z6s:ir86.raw=false:=rfl
@[simp] theorem pg87:pg 87=some ir87:=rfl
@[simp] theorem z6t:ir87.raw=false:=rfl
@[simp] theorem pg88:pg 88=some ir88:=rfl
@[simp] theorem z6u:ir88.raw=false:=rfl
@[simp] theorem pg89:pg 89=some ir89:=rfl
@[simp] theorem z6v:ir89.raw=false:=rfl
@[simp] theorem pg90:pg 90=some ir90:=rfl
@[simp] theorem z6w:ir90.raw=false:=rfl
@[simp] theorem pg91:pg 91=some ir91:=rfl
@[simp] theorem z0x:ir91.raw=false:=rfl
@[simp] theorem pg92:pg 92=some ir92:=rfl
@[simp] theorem z0y:ir92.raw=false:=rfl
@[simp] theorem pg93:pg 93=some ir93:=rfl
@[simp] theorem z0z:ir93.raw=false:=rfl
@[simp] theorem pg94:pg 94=some ir94:=rfl
@[simp] theorem z1a:ir94.raw=false:=rfl
@[simp] theorem pg95:pg 95=some ir95:=rfl
@[simp] theorem z1b:ir95.raw=false:=rfl
@[simp] theorem pg96:pg 96=some ir96:=rfl
@[simp] theorem z1c:ir96.raw=false:=rfl
@[simp] theorem pg106:pg 106=some ir106:=rfl
@[simp] theorem zty:ir106.raw=false:=rfl
@[simp] theorem pg109:pg 109=some ir109:=rfl
@[simp] theorem ztz:ir109.raw=true:=rfl
@[simp] theorem pg110:pg 110=some ir110:=rfl
@[simp] theorem zua:ir110.raw=false:=rfl
@[simp] theorem pg111:pg 111=some ir111:=rfl
@[simp] theorem zub:ir111.raw=false:=rfl
@[simp] theorem pg112:pg 112=some ir112:=rfl
@[simp] theorem zuc:ir112.raw=false:=rfl
@[simp] theorem pg113:pg 113=some ir113:=rfl
@[simp] theorem zud:ir113.raw=false:=rfl
@[simp] theorem pg114:pg 114=some ir114:=rfl
@[simp] theorem zue:ir114.raw=false:=rfl
@[simp] theorem pg115:pg 115=some ir115:=rfl
@[simp] theorem zuf:ir115.raw=false:=rfl
@[simp] theorem pg116:pg 116=some ir116:=rfl
@[simp] theorem zug:ir116.raw=false:=rfl
@[simp] theorem pg117:pg 117=some ir117:=rfl
@[simp] theorem zuh:ir117.raw=true:=rfl
@[simp] theorem pg118:pg 118=some ir118:=rfl
@[simp] theorem zui:ir118.raw=true:=rfl
@[simp] theorem pg119:pg 119=some ir119:=rfl
@[simp] theorem zuj:ir119.raw=true:=rfl
@[simp] theorem pg120:pg 120=some ir120:=rfl
@[simp] theorem zuk:ir120.raw=false:=rfl
@[simp] theorem pg121:pg 121=some ir121:=rfl
@[simp] theorem zul:ir121.raw=false:=rfl
@[simp] theorem pg129:pg 129=some ir129:=rfl
@[simp] theorem zum:ir129.raw=false:=rfl
@[simp] theorem pg130:pg 130=some ir130:=rfl
@[simp] theorem zun:ir130.raw=false:=rfl
@[simp] theorem pg131:pg 131=some ir131:=rfl
@[simp] theorem zuo:ir131.raw=false:=rfl
@[simp] theorem pg148:pg 148=some ir148:=rfl
@[simp] theorem zup:ir148.raw=false:=rfl
@[simp] theorem pg156:pg 156=some ir156:=rfl
@[simp] theorem zuq:ir156.raw=true:=rfl
@[simp] theorem pg157:pg 157=some ir157:=rfl
@[simp] theorem zur:ir157.raw=true:=rfl
@[simp] theorem pg158:pg 158=some ir158:=rfl
@[simp] theorem z5m:ir158.raw=false:=rfl
@[simp] theorem pg159:pg 159=some ir159:=rfl
@[simp] theorem z5n:ir159.raw=false:=rfl
@[simp] theorem pg160:pg 160=some ir160:=rfl
@[simp] theorem z5o:ir160.raw=false:=rfl
@[simp] theorem pg161:pg 161=some ir161:=rfl
@[simp] theorem z5p:ir161.raw=false:=rfl
@[simp] theorem pg162:pg 162=some ir162:=rfl
@[simp] theorem zus:ir162.raw=false:=rfl
@[simp] theorem pg163:pg 163=some ir163:=rfl
@[simp] theorem zut:ir163.raw=false:=rfl
@[simp] theorem pg164:pg 164=some ir164:=rfl
@[simp] theorem z5q:ir164.raw=false:=rfl
@[simp] theorem pg165:pg 165=some ir165:=rfl
@[simp] theorem z5r:ir165.raw=false:=rfl
@[simp] theorem pg166:pg 166=some ir166:=rfl
@[simp] theorem z5s:ir166.raw=true:=rfl
@[simp] theorem pg167:pg 167=some ir167:=rfl
@[simp] theorem z5t:ir167.raw=false:=rfl
@[simp] theorem pg168:pg 168=some ir168:=rfl
@[simp] theorem z5u:ir168.raw=false:=rfl
@[simp] theorem pg169:pg 169=some ir169:=rfl
@[simp] theorem z5v:ir169.raw=false:=rfl
@[simp] theorem pg170:pg 170=some ir170:=rfl
@[simp] theorem z5w:ir170.raw=false:=rfl
@[simp] theorem pg171:pg 171=some ir171:=rfl
@[simp] theorem zuu:ir171.raw=false:=rfl
@[simp] theorem pg172:pg 172=some ir172:=rfl
@[simp] theorem zuv:ir172.raw=false:=rfl
@[simp] theorem pg173:pg 173=some ir173:=rfl
@[simp] theorem zuw:ir173.raw=false:=rfl
@[simp] theorem pg174:pg 174=some ir174:=rfl
@[simp] theorem zux:ir174.raw=false:=rfl
@[simp] theorem pg175:pg 175=some ir175:=rfl
@[simp] theorem zuy:ir175.raw=false:=rfl
@[simp] theorem pg178:pg 178=some ir178:=rfl
@[simp] theorem zuz:ir178.raw=false:=rfl
@[simp] theorem pg180:pg 180=some ir180:=rfl
@[simp] theorem zva:ir180.raw=false:=rfl
@[simp] theorem pg181:pg 181=some ir181:=rfl
@[simp] theorem zvb:ir181.raw=false:=rfl
@[simp] theorem pg183:pg 183=some ir183:=rfl
@[simp] theorem zvc:ir183.raw=false:=rfl
@[simp] theorem pg184:pg 184=some ir184:=rfl
@[simp] theorem zvd:ir184.raw=false:=rfl
@[simp] theorem pg185:pg 185=some ir185:=rfl
@[simp] theorem zve:ir185.raw=false:=rfl
@[simp] theorem pg186:pg 186=some ir186:=rfl
@[simp] theorem zvf:ir186.raw=false:=rfl
@[simp] theorem pg187:pg 187=some ir187:=rfl
@[simp] theorem zvg:ir187.raw=false:=rfl
@[simp] theorem pg188:pg 188=some ir188:=rfl
@[simp] theorem zvh:ir188.raw=false:=rfl
@[simp] theorem pg189:pg 189=some ir189:=rfl
@[simp] theorem zvi:ir189.raw=false:=rfl
@[simp] theorem pg190:pg 190=some ir190:=rfl
@[simp] theorem zvj:ir190.raw=false:=rfl
@[simp] theorem pg191:pg 191=some ir191:=rfl
@[simp] theorem zvk:ir191.raw=false:=rfl
@[simp] theorem pg192:pg 192=some ir192:=rfl
@[simp] theorem zvl:ir192.raw=false:=rfl
@[simp] theorem pg193:pg 193=some ir193:=rfl
@[simp] theorem zvm:ir193.raw=false:=rfl
@[simp] theorem pg194:pg 194=some ir194:=rfl
@[simp] theorem zvn:ir194.raw=false:=rfl
@[simp] theorem pg195:pg 195=some ir195:=rfl
@[simp] theorem zvo:ir195.raw=false:=rfl
@[simp] theorem pg196:pg 196=some ir196:=rfl
@[simp] theorem zvp:ir196.raw=false:=rfl
@[simp] theorem pg197:pg 197=some ir197:=rfl
@[simp] theorem zvq:ir197.raw=true:=rfl
@[simp] theorem pg200:pg 200=some ir200:=rfl
@[simp] theorem zvr:ir200.raw=false:=rfl
@[simp] theorem pg201:pg 201=some ir201:=rfl
@[simp] theorem zvs:ir201.raw=false:=rfl
@[simp] theorem pg202:pg 202=some ir202:=rfl
@[simp] theorem zvt:ir202.raw=false:=rfl
@[simp] theorem pg203:pg 203=some ir203:=rfl
@[simp] theorem zvu:ir203.raw=false:=rfl
@[simp] theorem pg204:pg 204=some ir204:=rfl
@[simp] theorem zvv:ir204.raw=false:=rfl
@[simp] theorem pg205:pg 205=some ir205:=rfl
@[simp] theorem zvw:ir205.raw=false:=rfl
@[simp] theorem pg209:pg 209=some ir209:=rfl
@[simp] theorem zvx:ir209.raw=true:=rfl
@[simp] theorem pg210:pg 210=some ir210:=rfl
@[simp] theorem zvy:ir210.raw=false:=rfl
@[simp] theorem pg211:pg 211=some ir211:=rfl
@[simp] theorem z5x:ir211.raw=false:=rfl
@[simp] theorem pg212:pg 212=some ir212:=rfl
@[simp] theorem z5y:ir212.raw=false:=rfl
@[simp] theorem pg213:pg 213=some ir213:=rfl
@[simp] theorem z5z:ir213.raw=false:=rfl
@[simp] theorem pg214:pg 214=some ir214:=rfl
@[simp] theorem z6a:ir214.raw=true:=rfl
@[simp] theorem pg215:pg 215=some ir215:=rfl
@[simp] theorem z6b:ir215.raw=true:=rfl
@[simp] theorem pg216:pg 216=some ir216:=rfl
@[simp] theorem z6c:ir216.raw=true:=rfl
@[simp] theorem pg217:pg 217=some ir217:=rfl
@[simp] theorem z6d:ir217.raw=false:=rfl
@[simp] theorem pg218:pg 218=some ir218:=rfl
@[simp] theorem z6e:ir218.raw=true:=rfl
@[simp] theorem pg219:pg 219=some ir219:=rfl
@[simp] theorem z6f:ir219.raw=false:=rfl
@[simp] theorem pg220:pg 220=some ir220:=rfl
@[simp] theorem zvz:ir220.raw=false:=rfl
@[simp] theorem pg221:pg 221=some ir221:=rfl
@[simp] theorem zwa:ir221.raw=false:=rfl
@[simp] theorem pg222:pg 222=some ir222:=rfl
@[simp] theorem zwb:ir222.raw=false:=rfl
@[simp] theorem pg223:pg 223=some ir223:=rfl
@[simp] theorem zwc:ir223.raw=false:=rfl
@[simp] theorem pg224:pg 224=some ir224:=rfl
@[simp] theorem zwd:ir224.raw=false:=rfl
@[simp] theorem pg225:pg 225=some ir225:=rfl
@[simp] theorem zwe:ir225.raw=false:=rfl
@[simp] theorem pg226:pg 226=some ir226:=rfl
@[simp] theorem zwf:ir226.raw=false:=rfl
@[simp] theorem pg227:pg 227=some ir227:=rfl
@[simp] theorem zwg:ir227.raw=false:=rfl
@[simp] theorem pg228:pg 228=some ir228:=rfl
@[simp] theorem zwh:ir228.raw=false:=rfl
@[simp] theorem pg229:pg 229=some ir229:=rfl
@[simp] theorem zwi:ir229.raw=false:=rfl
@[simp] theorem pg230:pg 230=some ir230:=rfl
@[simp] theorem zwj:ir230.raw=false:=rfl
@[simp] theorem pg231:pg 231=some ir231:=rfl
@[simp] theorem zwk:ir231.raw=false:=rfl
@[simp] theorem pg232:pg 232=some ir232:=rfl
@[simp] theorem zwl:ir232.raw=false:=rfl
@[simp] theorem pg233:pg 233=some ir233:=rfl
@[simp] theorem zwm:ir233.raw=false:=rfl
@[simp] theorem pg234:pg 234=some ir234:=rfl
@[simp] theorem zwn:ir234.raw=false:=rfl
@[simp] theorem pg235:pg 235=some ir235:=rfl
@[simp] theorem zwo:ir235.raw=true:=rfl
@[simp] theorem pg236:pg 236=some ir236:=rfl
@[simp] theorem zwp:ir236.raw=false:=rfl
@[simp] theorem pg237:pg 237=some ir237:=rfl
@[simp] theorem zwq:ir237.raw=true:=rfl
@[simp] theorem pg238:pg 238=some ir238:=rfl
@[simp] theorem zwr:ir238.raw=false:=rfl
@[simp] theorem pg239:pg 239=some ir239:=rfl
@[simp] theorem zws:ir239.raw=true:=rfl
@[simp] theorem pg240:pg 240=some ir240:=rfl
@[simp] theorem zwt:ir240.raw=true:=rfl
@[simp] theorem pg241:pg 241=some ir241:=rfl
@[simp] theorem zwu:ir241.raw=false:=rfl
@[simp] theorem pg242:pg 242=some ir242:=rfl
@[simp] theorem zwv:ir242.raw=false:=rfl
@[simp] theorem pg243:pg 243=some ir243:=rfl
@[simp] theorem zww:ir243.raw=true:=rfl
@[simp] theorem pg244:pg 244=some ir244:=rfl
@[simp] theorem zwx:ir244.raw=true:=rfl
@[simp] theorem pg245:pg 245=some ir245:=rfl
@[simp] theorem zwy:ir245.raw=true:=rfl
@[simp] theorem pg246:pg 246=some ir246:=rfl
@[simp] theorem zwz:ir246.raw=true:=rfl
@[simp] theorem pg247:pg 247=some ir247:=rfl
@[simp] theorem zxa:ir247.raw=true:=rfl
@[simp] theorem pg248:pg 248=some ir248:=rfl
@[simp] theorem zxb:ir248.raw=true:=rfl
@[simp] theorem pg249:pg 249=some ir249:=rfl
@[simp] theorem zxc:ir249.raw=false:=rfl
@[simp] theorem pg250:pg 250=some ir250:=rfl
@[simp] theorem zxd:ir250.raw=true:=rfl
@[simp] theorem pg251:pg 251=some ir251:=rfl
@[simp] theorem zxe:ir251.raw=true:=rfl
@[simp] theorem pg252:pg 252=some ir252:=rfl
@[simp] theorem z6g:ir252.raw=false:=rfl
@[simp] theorem pg253:pg 253=some ir253:=rfl
@[simp] theorem zxf:ir253.raw=false:=rfl
@[simp] theorem pg254:pg 254=some ir254:=rfl
@[simp] theorem z6h:ir254.raw=false:=rfl
@[simp] theorem pg255:pg 255=some ir255:=rfl
@[simp] theorem z6i:ir255.raw=false:=rfl
@[simp] theorem pg256:pg 256=some ir256:=rfl
@[simp] theorem z6j:ir256.raw=false:=rfl
@[simp] theorem pg257:pg 257=some ir257:=rfl
@[simp] theorem z6k:ir257.raw=true:=rfl
@[simp] theorem pg265:pg 265=some ir265:=rfl
@[simp] theorem z6l:ir265.raw=true:=rfl
@[simp] theorem pg266:pg 266=some ir266:=rfl
@[simp] theorem zxg:ir266.raw=false:=rfl
@[simp] theorem pg267:pg 267=some ir267:=rfl
@[simp] theorem zxh:ir267.raw=false:=rfl
@[simp] theorem pg268:pg 268=some ir268:=rfl
@[simp] theorem zxi:ir268.raw=false:=rfl
@[simp] theorem pg269:pg 269=some ir269:=rfl
@[simp] theorem zxj:ir269.raw=false:=rfl
@[simp] theorem pg270:pg 270=some ir270:=rfl
@[simp] theorem zxk:ir270.raw=false:=rfl
@[simp] theorem pg271:pg 271=some ir271:=rfl
@[simp] theorem zxl:ir271.raw=false:=rfl
@[simp] theorem pg272:pg 272=some ir272:=rfl
@[simp] theorem zxm:ir272.raw=true:=rfl
@[simp] theorem pg273:pg 273=some ir273:=rfl
@[simp] theorem zxn:ir273.raw=false:=rfl
@[simp] theorem pg274:pg 274=some ir274:=rfl
@[simp] theorem zxo:ir274.raw=false:=rfl
@[simp] theorem pg275:pg 275=some ir275:=rfl
@[simp] theorem zxp:ir275.raw=true:=rfl
@[simp] theorem pg276:pg 276=some ir276:=rfl
@[simp] theorem zxq:ir276.raw=false:=rfl
@[simp] theorem pg277:pg 277=some ir277:=rfl
@[simp] theorem zxr:ir277.raw=false:=rfl
@[simp] theorem pg278:pg 278=some ir278:=rfl
@[simp] theorem zxs:ir278.raw=true:=rfl
@[simp] theorem pg279:pg 279=some ir279:=rfl
@[simp] theorem zxt:ir279.raw=false:=rfl
@[simp] theorem pg280:pg 280=some ir280:=rfl
@[simp] theorem zxu:ir280.raw=true:=rfl
@[simp] theorem pg281:pg 281=some ir281:=rfl
@[simp] theorem zxv:ir281.raw=false:=rfl
@[simp] theorem pg282:pg 282=some ir282:=rfl
@[simp] theorem zxw:ir282.raw=true:=rfl
@[simp] theorem pg283:pg 283=some ir283:=rfl
@[simp] theorem zxx:ir283.raw=true:=rfl
@[simp] theorem pg284:pg 284=some ir284:=rfl
@[simp] theorem zxy:ir284.raw=true:=rfl
@[simp] theorem pg285:pg 285=some ir285:=rfl
@[simp] theorem zxz:ir285.raw=false:=rfl
@[simp] theorem pg286:pg 286=some ir286:=rfl
@[simp] theorem z6m:ir286.raw=true:=rfl
@[simp] theorem pg290:pg 290=some ir290:=rfl
@[simp] theorem zya:ir290.raw=false:=rfl
@[simp] theorem pg291:pg 291=some ir291:=rfl
@[simp] theorem zyb:ir291.raw=false:=rfl
@[simp] theorem pg292:pg 292=some ir292:=rfl
@[simp] theorem zyc:ir292.raw=false:=rfl
@[simp] theorem pg293:pg 293=some ir293:=rfl
@[simp] theorem zyd:ir293.raw=false:=rfl
@[simp] theorem pg294:pg 294=some ir294:=rfl
@[simp] theorem zye:ir294.raw=false:=rfl
@[simp] theorem pg295:pg 295=some ir295:=rfl
@[simp] theorem zyf:ir295.raw=false:=rfl
@[simp] theorem pg296:pg 296=some ir296:=rfl
@[simp] theorem zyg:ir296.raw=false:=rfl
@[simp] theorem pg297:pg 297=some ir297:=rfl
@[simp] theorem zyh:ir297.raw=true:=rfl
@[simp] theorem pg298:pg 298=some ir298:=rfl
@[simp] theorem zyi:ir298.raw=false:=rfl
@[simp] theorem pg299:pg 299=some ir299:=rfl
@[simp] theorem zyj:ir299.raw=true:=rfl
@[simp] theorem pg300:pg 300=some ir300:=rfl
@[simp] theorem zyk:ir300.raw=true:=rfl
@[simp] theorem pg301:pg 301=some ir301:=rfl
@[simp] theorem zyl:ir301.raw=false:=rfl
@[simp] theorem pg302:pg 302=some ir302:=rfl
@[simp] theorem zym:ir302.raw=false:=rfl
@[simp] theorem pg303:pg 303=some ir303:=rfl
@[simp] theorem zyn:ir303.raw=true:=rfl
@[simp] theorem pg304:pg 304=some ir304:=rfl
@[simp] theorem z6n:ir304.raw=false:=rfl
@[simp] theorem pg305:pg 305=some ir305:=rfl
@[simp] theorem zyo:ir305.raw=false:=rfl
@[simp] theorem pg306:pg 306=some ir306:=rfl
@[simp] theorem zyp:ir306.raw=false:=rfl
@[simp] theorem pg307:pg 307=some ir307:=rfl
@[simp] theorem zyq:ir307.raw=false:=rfl
@[simp] theorem pg308:pg 308=some ir308:=rfl
@[simp] theorem zyr:ir308.raw=false:=rfl
@[simp] theorem pg309:pg 309=some ir309:=rfl
@[simp] theorem zys:ir309.raw=false:=rfl
@[simp] theorem pg310:pg 310=some ir310:=rfl
@[simp] theorem zyt:ir310.raw=false:=rfl
@[simp] theorem pg311:pg 311=some ir311:=rfl
@[simp] theorem zyu:ir311.raw=false:=rfl
@[simp] theorem pg312:pg 312=some ir312:=rfl
@[simp] theorem zyv:ir312.raw=false:=rfl
@[simp] theorem pg313:pg 313=some ir313:=rfl
@[simp] theorem zyw:ir313.raw=false:=rfl
@[simp] theorem pg314:pg 314=some ir314:=rfl
@[simp] theorem zyx:ir314.raw=false:=rfl
@[simp] theorem pg315:pg 315=some ir315:=rfl
@[simp] theorem zyy:ir315.raw=true:=rfl
@[simp] theorem pg316:pg 316=some ir316:=rfl
@[simp] theorem zyz:ir316.raw=false:=rfl
@[simp] theorem pg317:pg 317=some ir317:=rfl
@[simp] theorem zza:ir317.raw=false:=rfl
@[simp] theorem pg318:pg 318=some ir318:=rfl
@[simp] theorem zzb:ir318.raw=false:=rfl
@[simp] theorem pg319:pg 319=some ir319:=rfl
@[simp] theorem zzc:ir319.raw=false:=rfl
end Go.Proofs.YtddeacahiilikaaGreat
