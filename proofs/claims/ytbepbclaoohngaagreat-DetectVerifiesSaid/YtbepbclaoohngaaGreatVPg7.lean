/- The program that Am runs: the table of the functions; others are compu. -/
import Derived.Test.YtbepbclaoohngaaGreatVIr7
set_option linter.all false
namespace Go.Proofs.YtbepbclaoohngaaGreat
open Go Go.Am Go.Proofs
set_option maxRecDepth 100000
def frL:List Nat:=[36,91,95,105,141,142,151,155,157,170,171,174,179,192,215,219,221,240,258,282,297,303,313,500120]
def rwL:List Nat:=[35,56,58,76,83,100,101,102,104,136,139,145,152,153,154,156,157,161,162,163,164,169,170,175,176,202,203,221,222,225,226,227,228,230,231,232,244,253,255,257,258,259,260,261,262,263,264,266,267,277,280,283,284,286,287,288,294,296,297,300,313]
def mdL:List (Nat×Nat):=[(8,4),(174,9),(162,2),(48,5),(96,5),(79,1936)]
noncomputable def cF(n:Nat):Option Fun:=(Tryz.prog.funcs[if n<500000 then n else n-500000]?).bind fun f=>zwj Tryz.prog (frL.contains n) (rwL.contains n) f (((mdL.find? (·.1==n)).map (·.2)).getD 0)
def find:List (Nat×Fun)->Nat->Option Fun
 | [],_=>none
 | (k,g) :: r,f=>if f=k then some g else find r f
def OkT:List (Nat×Fun)->Prop
 | []=>True
 | e :: r=>cF e.1=some e.2/\OkT r
theorem OkT.app:∀{a b:List (Nat×Fun)},OkT a->OkT b->OkT (a++b)
 | [],_,_,h=>h
 | _ :: _,_,h,h2=>⟨h.1,OkT.app h.2 h2⟩
theorem zgg:∀{l:List (Nat×Fun)} {f:Nat} {g:Fun},OkT l->find l f=some g->cF f=some g
 | [],_,_,_,h=>by simp[find]at h
 | (k,g') :: r,f,g,ho,h=>by
  simp only[find]at h
  split at h
  .rename_i e;cases h;subst e;exact ho.1
  .exact zgg ho.2 h
def tb0:List (Nat×Fun):=[(7,ir7),(12,ir12),(19,ir19),(26,ir26),(31,ir31),(32,ir32),(33,ir33),(34,ir34),(38,ir38),(39,ir39),(46,ir46),(47,ir47),(50,ir50),(57,ir57),(59,ir59),(60,ir60),(61,ir61),(62,ir62),(63,ir63),(64,ir64)]
theorem jgo:OkT tb0:=⟨by kernel_rfl,by kernel_rfl,by kernel_rfl,by kernel_rfl,by kernel_rfl,by kernel_rfl,by kernel_rfl,by kernel_rfl,by kernel_rfl,by kernel_rfl,by kernel_rfl,by kernel_rfl,by kernel_rfl,by kernel_rfl,by kernel_rfl,by kernel_rfl,by kernel_rfl,by kernel_rfl,by kernel_rfl,by kernel_rfl,trivial⟩
def tb1:List (Nat×Fun):=[(65,ir65),(66,ir66),(67,ir67),(68,ir68),(70,ir70),(71,ir71),(73,ir73),(74,ir74),(75,ir75),(76,ir76),(77,ir77),(78,ir78),(79,ir79),(80,ir80),(81,ir81),(82,ir82),(83,ir83),(84,ir84),(85,ir85),(86,ir86)]
theorem jgp:OkT tb1:=⟨by kernel_rfl,by kernel_rfl,by kernel_rfl,by kernel_rfl,by kernel_rfl,by kernel_rfl,by kernel_rfl,by kernel_rfl,by kernel_rfl,by kernel_rfl,by kernel_rfl,by kernel_rfl,by kernel_rfl,by kernel_rfl,by kernel_rfl,by kernel_rfl,by kernel_rfl,by kernel_rfl,by kernel_rfl,by kernel_rfl,trivial⟩
def tb2:List (Nat×Fun):=[(87,ir87),(88,ir88),(89,ir89),(90,ir90),(91,ir91),(92,ir92),(94,ir94),(97,ir97),(116,ir116),(117,ir117),(118,ir118),(119,ir119),(120,ir120),(121,ir121),(122,ir122),(123,ir123),(124,ir124),(125,ir125),(126,ir126),(127,ir127)]
theorem jgq:OkT tb2:=⟨by kernel_rfl,by kernel_rfl,by kernel_rfl,by kernel_rfl,by kernel_rfl,by kernel_rfl,by kernel_rfl,by kernel_rfl,by kernel_rfl,by kernel_rfl,by kernel_rfl,by kernel_rfl,by kernel_rfl,by kernel_rfl,by kernel_rfl,by kernel_rfl,by kernel_rfl,by kernel_rfl,by kernel_rfl,by kernel_rfl,trivial⟩
def tb3:List (Nat×Fun):=[(128,ir128),(129,ir129),(130,ir130),(132,ir132),(133,ir133),(134,ir134),(135,ir135),(136,ir136),(137,ir137),(138,ir138),(139,ir139),(140,ir140),(141,ir141),(142,ir142),(143,ir143),(144,ir144),(145,ir145),(146,ir146),(147,ir147),(148,ir148)]
theorem jgr:OkT tb3:=⟨by kernel_rfl,by kernel_rfl,by kernel_rfl,by kernel_rfl,by kernel_rfl,by kernel_rfl,by kernel_rfl,by kernel_rfl,by kernel_rfl,by kernel_rfl,by kernel_rfl,by kernel_rfl,by kernel_rfl,by kernel_rfl,by kernel_rfl,by kernel_rfl,by kernel_rfl,by kernel_rfl,by kernel_rfl,by kernel_rfl,trivial⟩
def tb4:List (Nat×Fun):=[(149,ir149),(150,ir150),(151,ir151),(152,ir152),(153,ir153),(154,ir154),(155,ir155),(157,ir157),(158,ir158),(159,ir159),(183,ir183),(184,ir184),(185,ir185),(186,ir186),(187,ir187),(188,ir188),(189,ir189),(190,ir190),(191,ir191),(192,ir192)]
theorem jgs:OkT tb4:=⟨by kernel_rfl,by kernel_rfl,by kernel_rfl,by kernel_rfl,by kernel_rfl,by kernel_rfl,by kernel_rfl,by kernel_rfl,by kernel_rfl,by kernel_rfl,by kernel_rfl,by kernel_rfl,by kernel_rfl,by kernel_rfl,by kernel_rfl,by kernel_rfl,by kernel_rfl,by kernel_rfl,by kernel_rfl,by kernel_rfl,trivial⟩
def tb5:List (Nat×Fun):=[(193,ir193),(194,ir194),(195,ir195),(196,ir196),(197,ir197),(198,ir198),(199,ir199),(200,ir200),(202,ir202),(203,ir203),(204,ir204),(205,ir205),(206,ir206),(207,ir207),(208,ir208),(209,ir209),(210,ir210),(211,ir211),(212,ir212),(213,ir213)]
theorem jgt:OkT tb5:=⟨by kernel_rfl,by kernel_rfl,by kernel_rfl,by kernel_rfl,by kernel_rfl,by kernel_rfl,by kernel_rfl,by kernel_rfl,by kernel_rfl,by kernel_rfl,by kernel_rfl,by kernel_rfl,by kernel_rfl,by kernel_rfl,by kernel_rfl,by kernel_rfl,by kernel_rfl,by kernel_rfl,by kernel_rfl,by kernel_rfl,trivial⟩
def tb6:List (Nat×Fun):=[(214,ir214),(215,ir215),(216,ir216),(217,ir217),(218,ir218),(219,ir219),(220,ir220),(221,ir221),(234,ir234),(235,ir235),(236,ir236),(237,ir237),(238,ir238),(239,ir239),(240,ir240),(241,ir241),(242,ir242),(243,ir243),(244,ir244),(245,ir245)]
theorem jgu:OkT tb6:=⟨by kernel_rfl,by kernel_rfl,by kernel_rfl,by kernel_rfl,by kernel_rfl,by kernel_rfl,by kernel_rfl,by kernel_rfl,by kernel_rfl,by kernel_rfl,by kernel_rfl,by kernel_rfl,by kernel_rfl,by kernel_rfl,by kernel_rfl,by kernel_rfl,by kernel_rfl,by kernel_rfl,by kernel_rfl,by kernel_rfl,trivial⟩
def tb7:List (Nat×Fun):=[(246,ir246),(247,ir247),(248,ir248),(249,ir249),(250,ir250),(251,ir251),(252,ir252),(253,ir253),(254,ir254),(255,ir255),(256,ir256),(257,ir257),(258,ir258),(271,ir271),(272,ir272),(273,ir273),(274,ir274),(275,ir275),(276,ir276),(277,ir277)]
theorem jgv:OkT tb7:=⟨by kernel_rfl,by kernel_rfl,by kernel_rfl,by kernel_rfl,by kernel_rfl,by kernel_rfl,by kernel_rfl,by kernel_rfl,by kernel_rfl,by kernel_rfl,by kernel_rfl,by kernel_rfl,by kernel_rfl,by kernel_rfl,by kernel_rfl,by kernel_rfl,by kernel_rfl,by kernel_rfl,by kernel_rfl,by kernel_rfl,trivial⟩
def tb8:List (Nat×Fun):=[(278,ir278),(279,ir279),(280,ir280),(281,ir281),(282,ir282),(283,ir283),(290,ir290),(291,ir291),(292,ir292),(293,ir293),(294,ir294),(295,ir295),(296,ir296),(297,ir297),(298,ir298),(299,ir299),(301,ir301),(302,ir302),(303,ir303),(304,ir304)]
theorem jgw:OkT tb8:=⟨by kernel_rfl,by kernel_rfl,by kernel_rfl,by kernel_rfl,by kernel_rfl,by kernel_rfl,by kernel_rfl,by kernel_rfl,by kernel_rfl,by kernel_rfl,by kernel_rfl,by kernel_rfl,by kernel_rfl,by kernel_rfl,by kernel_rfl,by kernel_rfl,by kernel_rfl,by kernel_rfl,by kernel_rfl,by kernel_rfl,trivial⟩
def tb9:List (Nat×Fun):=[(305,ir305),(306,ir306),(307,ir307),(308,ir308),(309,ir309),(310,ir310),(311,ir311),(312,ir312),(313,ir313),(314,ir314),(500120,ir500120)]
theorem jgx:OkT tb9:=⟨by kernel_rfl,by kernel_rfl,by kernel_rfl,by kernel_rfl,by kernel_rfl,by kernel_rfl,by kernel_rfl,by kernel_rfl,by kernel_rfl,by kernel_rfl,by kernel_rfl,trivial⟩
def tbl:List (Nat×Fun):=tb0++(tb1++(tb2++(tb3++(tb4++(tb5++(tb6++(tb7++(tb8++(tb9)))))))))
theorem z2l:OkT tbl:=jgo.app (jgp.app (jgq.app (jgr.app (jgs.app (jgt.app (jgu.app (jgv.app (jgw.app (jgx)))))))))
noncomputable def pg0:Prg:=fun n=>match find tbl n with
 | some g=>some g
 | none=>cF n
noncomputable def pg:Prg:=fun n=>match Nat.beq n 156 with
 | true=>some ir156
 | false=>pg0 n
@[simp] theorem pg156:pg 156=some ir156:=rfl
@[simp] theorem z5o:ir156.raw=true:=rfl
@[simp] theorem pg7:pg 7=some ir7:=rfl
@[simp] theorem jev:ir7.raw=false:=rfl
@[simp] theorem pg12:pg 12=some ir12:=rfl
@[simp] theorem jbc:ir12.raw=false:=rfl
@[simp] theorem pg26:pg 26=some ir26:=rfl
@[simp] theorem jbd:ir26.raw=false:=rfl
@[simp] theorem pg31:pg 31=some ir31:=rfl
@[simp] theorem jbe:ir31.raw=false:=rfl
@[simp] theorem pg32:pg 32=some ir32:=rfl
@[simp] theorem jbf:ir32.raw=false:=rfl
@[simp] theorem pg33:pg 33=some ir33:=rfl
@[simp] theorem jbg:ir33.raw=false:=rfl
@[simp] theorem pg34:pg 34=some ir34:=rfl
@[simp] theorem jbh:ir34.raw=false:=rfl
@[simp] theorem pg38:pg 38=some ir38:=rfl
@[simp] theorem jbi:ir38.raw=false:=rfl
@[simp] theorem pg39:pg 39=some ir39:=rfl
@[simp] theorem jbj:ir39.raw=false:=rfl
@[simp] theorem pg46:pg 46=some ir46:=rfl
@[simp] theorem jbk:ir46.raw=false:=rfl
@[simp] theorem pg47:pg 47=some ir47:=rfl
@[simp] theorem jbl:ir47.raw=false:=rfl
@[simp] theorem pg50:pg 50=some ir50:=rfl
@[simp] theorem jbm:ir50.raw=false:=rfl
@[simp] theorem pg57:pg 57=some ir57:=rfl
@[simp] theorem jbn:ir57.raw=false:=rfl
@[simp] theorem pg59:pg 59=some ir59:=rfl
@[simp] theorem jbo:ir59.raw=false:=rfl
@[simp] theorem pg60:pg 60=some ir60:=rfl
@[simp] theorem jbp:ir60.raw=false:=rfl
@[simp] theorem pg61:pg 61=some ir61:=rfl
@[simp] theorem jbq:ir61.raw=false:=rfl
@[simp] theorem pg62:pg 62=some ir62:=rfl
@[simp] theorem jbr:ir62.raw=false:=rfl
@[simp] theorem pg63:pg 63=some ir63:=rfl
@[simp] theorem jbs:ir63.raw=false:=rfl
@[simp] theorem pg64:pg 64=some ir64:=rfl
@[simp] theorem jbt:ir64.raw=false:=rfl
@[simp] theorem pg65:pg 65=some ir65:=rfl
@[simp] theorem jbu:ir65.raw=false:=rfl
@[simp] theorem pg66:pg 66=some ir66:=rfl
@[simp] theorem jbv:ir66.raw=false:=rfl
@[simp] theorem pg67:pg 67=some ir67:=rfl
@[simp] theorem jbw:ir67.raw=false:=rfl
@[simp] theorem pg68:pg 68=some ir68:=rfl
@[simp] theorem jbx:ir68.raw=false:=rfl
@[simp] theorem pg70:pg 70=some ir70:=rfl
@[simp] theorem jby:ir70.raw=false:=rfl
@[simp] theorem pg71:pg 71=some ir71:=rfl
@[simp] theorem jbz:ir71.raw=false:=rfl
@[simp] theorem pg73:pg 73=some ir73:=rfl
@[simp] theorem jca:ir73.raw=false:=rfl
@[simp] theorem pg74:pg 74=some ir74:=rfl
@[simp] theorem jcb:ir74.raw=false:=rfl
@[simp] theorem pg75:pg 75=some ir75:=rfl
@[simp] theorem jcc:ir75.raw=false:=rfl
@[simp] theorem pg76:pg 76=some ir76:=rfl
@[simp] theorem jcd:ir76.raw=true:=rfl
@[simp] theorem pg77:pg 77=some ir77:=rfl
@[simp] theorem jce:ir77.raw=false:=rfl
@[simp] theorem pg78:pg 78=some ir78:=rfl
@[simp] theorem jcf:ir78.raw=false:=rfl
@[simp] theorem pg79:pg 79=some ir79:=rfl
@[simp] theorem jcg:ir79.raw=false:=rfl
@[simp] theorem pg80:pg 80=some ir80:=rfl
@[simp] theorem jch:ir80.raw=false:=rfl
@[simp] theorem pg81:pg 81=some ir81:=rfl
@[simp] theorem jci:ir81.raw=false:=rfl
@[simp] theorem pg82:pg 82=some ir82:=rfl
@[simp] theorem jcj:ir82.raw=false:=rfl
@[simp] theorem pg83:pg 83=some ir83:=rfl
@[simp] theorem jck:ir83.raw=true:=rfl
@[simp] theorem pg84:pg 84=some ir84:=rfl
@[simp] theorem jcl:ir84.raw=false:=rfl
@[simp] theorem pg85:pg 85=some ir85:=rfl
@[simp] theorem jcm:ir85.raw=false:=rfl
@[simp] theorem pg86:pg 86=some ir86:=rfl
@[simp] theorem jcn:ir86.raw=false:=rfl
@[simp] theorem pg87:pg 87=some ir87:=rfl
@[simp] theorem jco:ir87.raw=false:=rfl
@[simp] theorem pg88:pg 88=some ir88:=rfl
@[simp] theorem jcp:ir88.raw=false:=rfl
@[simp] theorem pg89:pg 89=some ir89:=rfl
@[simp] theorem jcq:ir89.raw=false:=rfl
@[simp] theorem pg90:pg 90=some ir90:=rfl
@[simp] theorem jcr:ir90.raw=false:=rfl
@[simp] theorem pg91:pg 91=some ir91:=rfl
@[simp] theorem jcs:ir91.raw=false:=rfl
@[simp] theorem pg92:pg 92=some ir92:=rfl
@[simp] theorem jct:ir92.raw=false:=rfl
@[simp] theorem pg94:pg 94=some ir94:=rfl
@[simp] theorem jcu:ir94.raw=false:=rfl
@[simp] theorem pg97:pg 97=some ir97:=rfl
@[simp] theorem jcv:ir97.raw=false:=rfl
@[simp] theorem pg116:pg 116=some ir116:=rfl
@[simp] theorem z4b:ir116.raw=false:=rfl
@[simp] theorem pg117:pg 117=some ir117:=rfl
@[simp] theorem z4c:ir117.raw=false:=rfl
@[simp] theorem pg118:pg 118=some ir118:=rfl
@[simp] theorem z4d:ir118.raw=false:=rfl
@[simp] theorem pg119:pg 119=some ir119:=rfl
@[simp] theorem z4e:ir119.raw=false:=rfl
@[simp] theorem pg120:pg 120=some ir120:=rfl
@[simp] theorem z4f:ir120.raw=false:=rfl
@[simp] theorem pg121:pg 121=some ir121:=rfl
@[simp] theorem z4g:ir121.raw=false:=rfl
@[simp] theorem pg122:pg 122=some ir122:=rfl
@[simp] theorem z4h:ir122.raw=false:=rfl
@[simp] theorem pg123:pg 123=some ir123:=rfl
@[simp] theorem z4i:ir123.raw=false:=rfl
@[simp] theorem pg124:pg 124=some ir124:=rfl
@[simp] theorem z4j:ir124.raw=false:=rfl
@[simp] theorem pg125:pg 125=some ir125:=rfl
@[simp] theorem z4k:ir125.raw=false:=rfl
@[simp] theorem pg126:pg 126=some ir126:=rfl
@[simp] theorem z4l:ir126.raw=false:=rfl
@[simp] theorem pg127:pg 127=some ir127:=rfl
@[simp] theorem z4m:ir127.raw=false:=rfl
@[simp] theorem pg128:pg 128=some ir128:=rfl
@[simp] theorem z4n:ir128.raw=false:=rfl
@[simp] theorem pg129:pg 129=some ir129:=rfl
@[simp] theorem z4o:ir129.raw=false:=rfl
@[simp] theorem pg130:pg 130=some ir130:=rfl
@[simp] theorem z4p:ir130.raw=false:=rfl
@[simp] theorem pg132:pg 132=some ir132:=rfl
@[simp] theorem z4q:ir132.raw=false:=rfl
@[simp] theorem pg133:pg 133=some ir133:=rfl
@[simp] theorem z4r:ir133.raw=false:=rfl
@[simp] theorem pg134:pg 134=some ir134:=rfl
@[simp] theorem z4s:ir134.raw=false:=rfl
@[simp] theorem pg135:pg 135=some ir135:=rfl
@[simp] theorem z4t:ir135.raw=false:=rfl
@[simp] theorem pg136:pg 136=some ir136:=rfl
@[simp] theorem z4u:ir136.raw=true:=rfl
@[simp] theorem pg137:pg 137=some ir137:=rfl
@[simp] theorem z4v:ir137.raw=false:=rfl
@[simp] theorem pg138:pg 138=some ir138:=rfl
@[simp] theorem z4w:ir138.raw=false:=rfl
@[simp] theorem pg139:pg 139=some ir139:=rfl
@[simp] theorem z4x:ir139.raw=true:=rfl
@[simp] theorem pg140:pg 140=some ir140:=rfl
@[simp] theorem z4y:ir140.raw=false:=rfl
@[simp] theorem pg141:pg 141=some ir141:=rfl
@[simp] theorem z4z:ir141.raw=false:=rfl
@[simp] theorem pg142:pg 142=some ir142:=rfl
@[simp] theorem z5a:ir142.raw=false:=rfl
@[simp] theorem pg143:pg 143=some ir143:=rfl
@[simp] theorem z5b:ir143.raw=false:=rfl
@[simp] theorem pg144:pg 144=some ir144:=rfl
@[simp] theorem z5c:ir144.raw=false:=rfl
@[simp] theorem pg145:pg 145=some ir145:=rfl
@[simp] theorem z5d:ir145.raw=true:=rfl
@[simp] theorem pg146:pg 146=some ir146:=rfl
@[simp] theorem z5e:ir146.raw=false:=rfl
@[simp] theorem pg147:pg 147=some ir147:=rfl
@[simp] theorem z5f:ir147.raw=false:=rfl
@[simp] theorem pg148:pg 148=some ir148:=rfl
@[simp] theorem z5g:ir148.raw=false:=rfl
@[simp] theorem pg149:pg 149=some ir149:=rfl
@[simp] theorem z5h:ir149.raw=false:=rfl
@[simp] theorem pg150:pg 150=some ir150:=rfl
@[simp] theorem z5i:ir150.raw=false:=rfl
@[simp] theorem pg151:pg 151=some ir151:=rfl
@[simp] theorem z5j:ir151.raw=false:=rfl
@[simp] theorem pg152:pg 152=some ir152:=rfl
@[simp] theorem z5k:ir152.raw=true:=rfl
@[simp] theorem pg153:pg 153=some ir153:=rfl
@[simp] theorem z5l:ir153.raw=true:=rfl
@[simp] theorem pg154:pg 154=some ir154:=rfl
@[simp] theorem z5m:ir154.raw=true:=rfl
@[simp] theorem pg155:pg 155=some ir155:=rfl
@[simp] theorem z5n:ir155.raw=false:=rfl
@[simp] theorem pg157:pg 157=some ir157:=rfl
@[simp] theorem z5p:ir157.raw=true:=rfl
@[simp] theorem pg158:pg 158=some ir158:=rfl
@[simp] theorem z5q:ir158.raw=false:=rfl
@[simp] theorem pg159:pg 159=some ir159:=rfl
@[simp] theorem z5r:ir159.raw=false:=rfl
@[simp] theorem pg183:pg 183=some ir183:=rfl
@[simp] theorem z5s:ir183.raw=false:=rfl
@[simp] theorem pg184:pg 184=some ir184:=rfl
@[simp] theorem z5t:ir184.raw=false:=rfl
@[simp] theorem pg185:pg 185=some ir185:=rfl
@[simp] theorem z5u:ir185.raw=false:=rfl
@[simp] theorem pg186:pg 186=some ir186:=rfl
@[simp] theorem z5v:ir186.raw=false:=rfl
@[simp] theorem pg187:pg 187=some ir187:=rfl
@[simp] theorem z5w:ir187.raw=false:=rfl
@[simp] theorem pg188:pg 188=some ir188:=rfl
@[simp] theorem z5x:ir188.raw=false:=rfl
@[simp] theorem pg189:pg 189=some ir189:=rfl
@[simp] theorem z5y:ir189.raw=false:=rfl
@[simp] theorem pg190:pg 190=some ir190:=rfl
@[simp] theorem z5z:ir190.raw=false:=rfl
@[simp] theorem pg191:pg 191=some ir191:=rfl
@[simp] theorem z6a:ir191.raw=false:=rfl
@[simp] theorem pg192:pg 192=some ir192:=rfl
@[simp] theorem z6b:ir192.raw=false:=rfl
@[simp] theorem pg193:pg 193=some ir193:=rfl
@[simp] theorem z6c:ir193.raw=false:=rfl
@[simp] theorem pg194:pg 194=some ir194:=rfl
@[simp] theorem z6d:ir194.raw=false:=rfl
@[simp] theorem pg195:pg 195=some ir195:=rfl
@[simp] theorem z6e:ir195.raw=false:=rfl
@[simp] theorem pg196:pg 196=some ir196:=rfl
@[simp] theorem z6f:ir196.raw=false:=rfl
@[simp] theorem pg197:pg 197=some ir197:=rfl
@[simp] theorem z6g:ir197.raw=false:=rfl
@[simp] theorem pg198:pg 198=some ir198:=rfl
@[simp] theorem z6h:ir198.raw=false:=rfl
@[simp] theorem pg199:pg 199=some ir199:=rfl
@[simp] theorem z6i:ir199.raw=false:=rfl
@[simp] theorem pg200:pg 200=some ir200:=rfl
@[simp] theorem z6j:ir200.raw=false:=rfl
@[simp] theorem pg202:pg 202=some ir202:=rfl
@[simp] theorem z6k:ir202.raw=true:=rfl
@[simp] theorem pg203:pg 203=some ir203:=rfl
@[simp] theorem z6l:ir203.raw=true:=rfl
@[simp] theorem pg204:pg 204=some ir204:=rfl
@[simp] theorem z6m:ir204.raw=false:=rfl
@[simp] theorem pg205:pg 205=some ir205:=rfl
@[simp] theorem z6n:ir205.raw=false:=rfl
@[simp] theorem pg206:pg 206=some ir206:=rfl
@[simp] theorem z6o:ir206.raw=false:=rfl
@[simp] theorem pg207:pg 207=some ir207:=rfl
@[simp] theorem z6p:ir207.raw=false:=rfl
@[simp] theorem pg208:pg 208=some ir208:=rfl
@[simp] theorem z6q:ir208.raw=false:=rfl
@[simp] theorem pg209:pg 209=some ir209:=rfl
@[simp] theorem z6r:ir209.raw=false:=rfl
@[simp] theorem pg210:pg 210=some ir210:=rfl
@[simp] theorem z6s:ir210.raw=false:=rfl
@[simp] theorem pg211:pg 211=some ir211:=rfl
@[simp] theorem z6t:ir211.raw=false:=rfl
@[simp] theorem pg212:pg 212=some ir212:=rfl
@[simp] theorem z6u:ir212.raw=false:=rfl
@[simp] theorem pg213:pg 213=some ir213:=rfl
@[simp] theorem z6v:ir213.raw=false:=rfl
@[simp] theorem pg214:pg 214=some ir214:=rfl
@[simp] theorem z6w:ir214.raw=false:=rfl
@[simp] theorem pg215:pg 215=some ir215:=rfl
@[simp] theorem z6x:ir215.raw=false:=rfl
@[simp] theorem pg216:pg 216=some ir216:=rfl
@[simp] theorem z6y:ir216.raw=false:=rfl
@[simp] theorem pg217:pg 217=some ir217:=rfl
@[simp] theorem z6z:ir217.raw=false:=rfl
@[simp] theorem pg218:pg 218=some ir218:=rfl
@[simp] theorem z7a:ir218.raw=false:=rfl
@[simp] theorem pg219:pg 219=some ir219:=rfl
@[simp] theorem z7b:ir219.raw=false:=rfl
@[simp] theorem pg220:pg 220=some ir220:=rfl
@[simp] theorem z7c:ir220.raw=false:=rfl
@[simp] theorem pg221:pg 221=some ir221:=rfl
@[simp] theorem z7d:ir221.raw=true:=rfl
@[simp] theorem pg234:pg 234=some ir234:=rfl
@[simp] theorem z7e:ir234.raw=false:=rfl
@[simp] theorem pg235:pg 235=some ir235:=rfl
@[simp] theorem z7f:ir235.raw=false:=rfl
@[simp] theorem pg236:pg 236=some ir236:=rfl
@[simp] theorem z7g:ir236.raw=false:=rfl
@[simp] theorem pg237:pg 237=some ir237:=rfl
@[simp] theorem z7h:ir237.raw=false:=rfl
@[simp] theorem pg238:pg 238=some ir238:=rfl
@[simp] theorem z7i:ir238.raw=false:=rfl
@[simp] theorem pg239:pg 239=some ir239:=rfl
@[simp] theorem z7j:ir239.raw=false:=rfl
@[simp] theorem pg240:pg 240=some ir240:=rfl
@[simp] theorem z7k:ir240.raw=false:=rfl
@[simp] theorem pg241:pg 241=some ir241:=rfl
@[simp] theorem z7l:ir241.raw=false:=rfl
@[simp] theorem pg242:pg 242=some ir242:=rfl
@[simp] theorem z7m:ir242.raw=false:=rfl
@[simp] theorem pg243:pg 243=some ir243:=rfl
@[simp] theorem z7n:ir243.raw=false:=rfl
@[simp] theorem pg244:pg 244=some ir244:=rfl
@[simp] theorem z7o:ir244.raw=true:=rfl
@[simp] theorem pg245:pg 245=some ir245:=rfl
@[simp] theorem z7p:ir245.raw=false:=rfl
@[simp] theorem pg246:pg 246=some ir246:=rfl
@[simp] theorem z7q:ir246.raw=false:=rfl
@[simp] theorem pg247:pg 247=some ir247:=rfl
@[simp] theorem z7r:ir247.raw=false:=rfl
@[simp] theorem pg248:pg 248=some ir248:=rfl
@[simp] theorem z7s:ir248.raw=false:=rfl
@[simp] theorem pg249:pg 249=some ir249:=rfl
@[simp] theorem z7t:ir249.raw=false:=rfl
@[simp] theorem pg250:pg 250=some ir250:=rfl
@[simp] theorem z7u:ir250.raw=false:=rfl
@[simp] theorem pg251:pg 251=some ir251:=rfl
@[simp] theorem z7v:ir251.raw=false:=rfl
@[simp] theorem pg252:pg 252=some ir252:=rfl
@[simp] theorem z7w:ir252.raw=false:=rfl
@[simp] theorem pg253:pg 253=some ir253:=rfl
@[simp] theorem z7x:ir253.raw=true:=rfl
@[simp] theorem pg254:pg 254=some ir254:=rfl
@[simp] theorem z7y:ir254.raw=false:=rfl
@[simp] theorem pg255:pg 255=some ir255:=rfl
@[simp] theorem z7z:ir255.raw=true:=rfl
@[simp] theorem pg256:pg 256=some ir256:=rfl
@[simp] theorem z8a:ir256.raw=false:=rfl
@[simp] theorem pg257:pg 257=some ir257:=rfl
@[simp] theorem z8b:ir257.raw=true:=rfl
@[simp] theorem pg258:pg 258=some ir258:=rfl
@[simp] theorem z8c:ir258.raw=true:=rfl
@[simp] theorem pg271:pg 271=some ir271:=rfl
@[simp] theorem z8d:ir271.raw=false:=rfl
@[simp] theorem pg272:pg 272=some ir272:=rfl
@[simp] theorem z8e:ir272.raw=false:=rfl
@[simp] theorem pg273:pg 273=some ir273:=rfl
@[simp] theorem z8f:ir273.raw=false:=rfl
@[simp] theorem pg274:pg 274=some ir274:=rfl
@[simp] theorem z8g:ir274.raw=false:=rfl
@[simp] theorem pg275:pg 275=some ir275:=rfl
@[simp] theorem z8h:ir275.raw=false:=rfl
@[simp] theorem pg276:pg 276=some ir276:=rfl
@[simp] theorem z8i:ir276.raw=false:=rfl
@[simp] theorem pg277:pg 277=some ir277:=rfl
@[simp] theorem z8j:ir277.raw=true:=rfl
@[simp] theorem pg278:pg 278=some ir278:=rfl
@[simp] theorem z8k:ir278.raw=false:=rfl
@[simp] theorem pg279:pg 279=some ir279:=rfl
@[simp] theorem z8l:ir279.raw=false:=rfl
@[simp] theorem pg280:pg 280=some ir280:=rfl
@[simp] theorem z8m:ir280.raw=true:=rfl
@[simp] theorem pg281:pg 281=some ir281:=rfl
@[simp] theorem z8n:ir281.raw=false:=rfl
@[simp] theorem pg282:pg 282=some ir282:=rfl
@[simp] theorem z8o:ir282.raw=false:=rfl
@[simp] theorem pg283:pg 283=some ir283:=rfl
@[simp] theorem z8p:ir283.raw=true:=rfl
@[simp] theorem pg290:pg 290=some ir290:=rfl
@[simp] theorem z8q:ir290.raw=false:=rfl
@[simp] theorem pg291:pg 291=some ir291:=rfl
@[simp] theorem z8r:ir291.raw=false:=rfl
@[simp] theorem pg292:pg 292=some ir292:=rfl
@[simp] theorem z8s:ir292.raw=false:=rfl
@[simp] theorem pg293:pg 293=some ir293:=rfl
@[simp] theorem z8t:ir293.raw=false:=rfl
@[simp] theorem pg294:pg 294=some ir294:=rfl
@[simp] theorem z8u:ir294.raw=true:=rfl
@[simp] theorem pg295:pg 295=some ir295:=rfl
@[simp] theorem z8v:ir295.raw=false:=rfl
@[simp] theorem pg296:pg 296=some ir296:=rfl
@[simp] theorem z8w:ir296.raw=true:=rfl
@[simp] theorem pg297:pg 297=some ir297:=rfl
@[simp] theorem z8x:ir297.raw=true:=rfl
@[simp] theorem pg298:pg 298=some ir298:=rfl
@[simp] theorem z8y:ir298.raw=false:=rfl
@[simp] theorem pg299:pg 299=some ir299:=rfl
@[simp] theorem z8z:ir299.raw=false:=rfl
@[simp] theorem pg301:pg 301=some ir301:=rfl
@[simp] theorem z9a:ir301.raw=false:=rfl
@[simp] theorem pg302:pg 302=some ir302:=rfl
@[simp] theorem z9b:ir302.raw=false:=rfl
@[simp] theorem pg303:pg 303=some ir303:=rfl
@[simp] theorem z9c:ir303.raw=false:=rfl
@[simp] theorem pg304:pg 304=some ir304:=rfl
@[simp] theorem z9d:ir304.raw=false:=rfl
@[simp] theorem pg305:pg 305=some ir305:=rfl
@[simp] theorem z9e:ir305.raw=false:=rfl
@[simp] theorem pg306:pg 306=some ir306:=rfl
@[simp] theorem z9f:ir306.raw=false:=rfl
@[simp] theorem pg307:pg 307=some ir307:=rfl
@[simp] theorem z9g:ir307.raw=false:=rfl
@[simp] theorem pg308:pg 308=some ir308:=rfl
@[simp] theorem z9h:ir308.raw=false:=rfl
@[simp] theorem pg309:pg 309=some ir309:=rfl
@[simp] theorem z9i:ir309.raw=false:=rfl
@[simp] theorem pg310:pg 310=some ir310:=rfl
@[simp] theorem z9j:ir310.raw=false:=rfl
@[simp] theorem pg311:pg 311=some ir311:=rfl
@[simp] theorem z9k:ir311.raw=false:=rfl
@[simp] theorem pg312:pg 312=some ir312:=rfl
@[simp] theorem z9l:ir312.raw=false:=rfl
@[simp] theorem pg313:pg 313=some ir313:=rfl
@[simp] theorem z9m:ir313.raw=true:=rfl
@[simp] theorem pg314:pg 314=some ir314:=rfl
@[simp] theorem z9n:ir314.raw=false:=rfl
@[simp] theorem pg500120:pg 500120=some ir500120:=rfl
@[simp] theorem zta:ir500120.raw=false:=rfl
end Go.Proofs.YtbepbclaoohngaaGreat
