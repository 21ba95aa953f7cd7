/- The table is made from the program. -/
import Derived.Test.YtbepbclaoohngaaGreatCTd3
import Derived.Test.YtbepbclaoohngaaGreatCQu3
import Derived.KernelRfl
import Derived.Test.YtbepbclaoohngaaGreatCDt3
import Derived.SizedLaws
import Derived.Deep.Slices
import Derived.WideShapes
import Derived.ChangeSame
import Derived.Test.YtbepbclaoohngaaGreatCEn4
import Derived.Test.YtbepbclaoohngaaGreatProg
import Derived.Shelf.Sort.Plain
import Derived.Shelf.Slices.In.SortNone
import Derived.Test.YtbepbclaoohngaaGreatCPg7
set_option linter.all false
namespace Go.Proofs.YtbepbclaoohngaaGreat
open Go Go.Am Go.Proofs
set_option maxRecDepth 100000
theorem zlt:Tryz.prog.cellsOf 105=3:=by kernel_rfl
theorem zki{n:Nat}{vs:List V}(h:qdc Tryz.prog n 105 vs):∃x:Evn,vs=x.row:=by
 cases n with
 | zero=>unfold qdc at h;exact absurd h (by simp)
 | succ n =>
  unfold qdc at h
  rw[Tryz.underlying105]at h
  obtain⟨hl,hf⟩:=h
  rw[zlt]at hl
  match vs,hl with
  | [a,b,d],_ =>
   have h1:=hf _ (by simp;exact .inl rfl)
   have h2:=hf _ (by simp;exact .inr (.inl rfl))
   have h3:=hf _ (by simp;exact .inr (.inr rfl))
   simp[q4m,zpr]at h1 h2 h3
   obtain⟨k,h1⟩:=qew h1
   obtain⟨i,h2⟩:=qew h2
   obtain⟨v,h3⟩:=q1b h3
   simp at h1 h2 h3
   exact⟨⟨k,i,v⟩,by simp[h1,h2,h3]⟩
theorem zkj{n:Nat}{vs:List V}(h:qdc Tryz.prog n 31 vs):∃l:List Evn,vs=[evs l]:=qjg (row:=Evn.row) Tryz.underlying31 (fun n vs h=>zki h) h
set_option maxHeartbeats 4000000
def plB(p q:Ste×Ste):Bool:=qhh p.1 q.1&&qhh p.2 q.2
theorem zwj{p q:Ste×Ste}:plB p q=true<->p=q:=by
 obtain⟨a,b⟩:=p
 obtain⟨c,d⟩:=q
 simp[plB,qgr]
theorem zba(p q:Ste×Ste):plB p q=plB q p:=by
 unfold plB;rw[qku p.1,qku p.2]
def zhn(L:List (Ste×Ste))(p:Ste×Ste):Bool:=L.any (plB p)
abbrev prs(L:List (Ste×Ste)):V:=.imm (L.map qbw)
theorem ev135(p q:Ste×Ste)(hp:PS p):ev pg (.call (.fn 135 [] []) [.agg (qbw p),.agg (qbw q)] [])=some { v:=.bool (plB p q),st:=⟨[],[]⟩ }:=by
 have e1:=ev149 p.1 q.1 hp.g
 have e2:=ev149 p.2 q.2 hp.b
 rw[qaa,pg135]
 unfold plB
 cases h1:qhh p.1 q.1<;>rw[h1]at e1
 .simp[ir135,e1]
 .simp[ir135,e1,e2]
theorem ev134(p q:Ste×Ste)(hp:PS p):ev pg (.call (.fn 134 [] [.bptr 0 0]) [.agg (qbw q)] [⟨0,.box (qbw p)⟩])=some { v:=.bool (plB p q),st:=⟨[],[⟨0,.box (qbw p)⟩]⟩ }:=by
 have e1:=ev135 p q hp
 rw[qaa,pg134]
 generalize plB p q=b at *
 simp[ir134,e1]
def qxf(L:List (Ste×Ste))(p:Ste×Ste):Int:=if zhn L p=true then(L.findIdx (plB p):Nat)else -1
def zpi(L:List (Ste×Ste))(k:Nat):Tm:=[some (prs L),some (.fn 134 [] [.bptr 0 0]),none,none,nN 0,none,some (prs L),nN L.length,nN k]++zN 10
def zse(k:Nat):Tm:=[none,none,none,none,nN k]++zN 14
theorem jeg(L:List (Ste×Ste))(hL:L.length<=100000)(p:Ste×Ste)(hp:PS p){st:St}(h0:At (zpi L 0) [⟨0,.box (qbw p)⟩] st) :
  ∃r,ev pg (.code (.going 1 L133_0) st)=some r/\qma L.length (fun k=>(L[k]?.map (plB p)).getD false) (fun k=>qas .ret (zse k) [⟨0,.box (qbw p)⟩]) (qas (.exit 0) (zpi L L.length) [⟨0,.box (qbw p)⟩]) r:=by
 refine qce _ _ (zpi L) _ _ _ ?_ ?_ ?_ h0
 .intro k f hf hk hb
  have hk':(k:Int)<L.length:=by omega
  have wk:=qbb (k:=k) (by omega)
  have e1:=ev134 p L[k] hp
  have hb':plB p L[k]=false:=by simpa[hk]using hb
  rw[hb']at e1
  simp[zpi,L133_0,hk,hk',e1,wk,hf.ne]
 .intro k f hf hk hb
  have hk':(k:Int)<L.length:=by omega
  have e1:=ev134 p L[k] hp
  have hb':plB p L[k]=true:=by simpa[hk]using hb
  rw[hb']at e1
  simp[zpi,zse,L133_0,hk,hk',e1,hf.ne]
 .intro f hf
  simp[zpi,L133_0,hf.ne]
theorem ev75(L:List (Ste×Ste))(hL:L.length<=100000)(p:Ste×Ste)(hp:PS p):ev pg (.call (.fn 75 [] []) [prs L,.agg (qbw p)] [])=some { v:=num (qxf L p),st:=⟨[],[]⟩ }:=by
 have e1:ev pg (.call (.fn 133 [] []) [prs L,.fn 134 [] [.bptr 0 0]] [⟨0,.box (qbw p)⟩])=some { v:=num (qxf L p),st:=⟨[],[⟨0,.box (qbw p)⟩]⟩ }:=by
  have hlp:=fun st=>jeg L hL p hp (st:=st)
  rw[qaa,pg133]
  simp[ir133,qah]
  generalize hr:ev pg (.code (.going _ L133_0) _)=o
  obtain⟨r,rfl,hQ⟩:∃r,o=some r/\_:=by rw[<-hr];exact hlp _ (by simp[zpi])
  clear hr hlp
  unfold qxf
  rcases hQ with⟨k,hk,hb,hbf,f,hf,rfl⟩ | ⟨hb,f,hf,rfl⟩
  .have hbk:plB p L[k]=true:=by simpa[hk]using hb
   have hin:zhn L p=true:=List.any_eq_true.2 ⟨L[k],jH hk,hbk⟩
   have hfi:L.findIdx (plB p)=k:=by
    rw[List.findIdx_eq hk]
    refine⟨hbk,fun j hj=>?_⟩
    have:=hbf j hj
    simpa[show j<L.length by omega]using this
   rw[if_pos hin,hfi]
   simp[zse]
  .have hno:zhn L p=false:=by
    rw[Bool.eq_false_iff]
    intro h
    obtain⟨q,hq,e⟩:=List.any_eq_true.1 h
    obtain⟨j,hj,rfl⟩:=List.mem_iff_getElem.1 hq
    have:=hb j hj
    simp only[jA hj]at this
    simp[e]at this
   simp[zpi,hno]
 rw[qaa,pg75]
 generalize qxf L p=n at *
 simp[ir75,e1]
theorem zdw(L:List (Ste×Ste))(p:Ste×Ste):(decide (0<=qxf L p))=zhn L p:=by
 unfold qxf
 cases h:zhn L p with
 | true=>simp
 | false=>simp
theorem ev50(p q:Ste×Ste)(hp:PS p):ev pg (.call (.fn 50 [] []) [.agg (qbw p),.agg (qbw q)] [])=some { v:=.bool (plB p q),st:=⟨[],[]⟩ }:=by
 have e1:=ev97 p.1 q.1 hp.g
 have e2:=ev97 p.2 q.2 hp.b
 rw[qaa,pg50]
 unfold plB
 cases h1:qhh p.1 q.1<;>rw[h1]at e1
 .simp[ir50,e1]
 .simp[ir50,e1,e2]
def T78(L:List (Ste×Ste))(k:Nat):Tm:=[some (prs L),none,none,bN 0,some (.bool false),nN k]++zN 12
def jbg:Tm:=[none,none,none,none,some (.bool true)]++zN 13
theorem jhl(L:List (Ste×Ste))(hL:L.length<=100000)(hS:∀q∈L,PS q)(p:Ste×Ste){st:St}(h0:At (T78 L 0) [⟨0,.box (qbw p)⟩] st) :
  ∃r,ev pg (.code (.going 1 L78_0) st)=some r/\qma L.length (fun k=>(L[k]?.map (plB p)).getD false) (fun _=>qas .ret jbg [⟨0,.box (qbw p)⟩]) (qas (.exit 0) (T78 L L.length) [⟨0,.box (qbw p)⟩]) r:=by
 refine qce _ _ (T78 L) _ _ _ ?_ ?_ ?_ h0
 .intro k f hf hk hb
  have hk':(k:Int)<L.length:=by omega
  have wk:=qbb (k:=k) (by omega)
  have e1:=ev50 L[k] p (hS _ (jH hk))
  have hb':plB p L[k]=false:=by simpa[hk]using hb
  rw[zba,hb']at e1
  simp[T78,L78_0,hk,hk',e1,wk,hf.ne]
 .intro k f hf hk hb
  have hk':(k:Int)<L.length:=by omega
  have e1:=ev50 L[k] p (hS _ (jH hk))
  have hb':plB p L[k]=true:=by simpa[hk]using hb
  rw[zba,hb']at e1
  simp[T78,jbg,L78_0,hk,hk',e1,hf.ne]
 .intro f hf
  simp[T78,L78_0,hf.ne]
theorem ev78(L:List (Ste×Ste))(hL:L.length<=100000)(hS:∀q∈L,PS q)(p:Ste×Ste):ev pg (.call (.fn 78 [] []) [prs L,.agg (qbw p)] [])=some { v:=.bool (zhn L p),st:=⟨[],[]⟩ }:=by
 have hlp:=fun st=>jhl L hL hS p (st:=st)
 rw[qaa,pg78]
 simp[ir78,qah]
 generalize hr:ev pg (.code (.going _ L78_0) _)=o
 obtain⟨r,rfl,hQ⟩:∃r,o=some r/\_:=by rw[<-hr];exact hlp _ (by simp[T78])
 clear hr hlp
 rcases hQ with⟨k,hk,hb,hbf,f,hf,rfl⟩ | ⟨hb,f,hf,rfl⟩
 .have hbk:plB p L[k]=true:=by simpa[hk]using hb
  have hin:zhn L p=true:=List.any_eq_true.2 ⟨L[k],jH hk,hbk⟩
  simp[jbg,hin]
 .have hno:zhn L p=false:=by
   rw[Bool.eq_false_iff]
   intro h
   obtain⟨q,hq,e⟩:=List.any_eq_true.1 h
   obtain⟨j,hj,rfl⟩:=List.mem_iff_getElem.1 hq
   have:=hb j hj
   simp only[jA hj]at this
   simp[e]at this
  simp[T78,hno]
theorem q0e:zjn Tryz.prog [26,28,9,3,4,22,23,24,141,143,145,31,105,77,79,121,40,5]=true:=by kernel_rfl
section
variable{H:Type}{enc:TypeId×Value->H}{P:Program}{W:World}{base b0:Nat}{spare:Nat->Bool}{held:Bool}
end
end Go.Proofs.YtbepbclaoohngaaGreat
namespace Go.Proofs.YtbepbclaoohngaaGreat
open Go Go.Am Go.Proofs Go.Shelf
set_option maxRecDepth 100000
def jhp:Go.Shelf.Ren:=⟨fun | 189=>156 | 125=>223 | 257=>222 | 128=>268 | 129=>269 | 294=>259 | 295=>260 | 296=>261 | 297=>262 | 298=>263 | 299=>264 | 216=>265 | 300=>266 | 301=>267 | 328=>284 | 329=>285 | 330=>286 | 331=>287 | 332=>288 | 215=>289 | 343=>300 | n=>n,fun | 28=>24 | 3=>3 | 46=>313 | 0=>0 | 51=>349 | 53=>351 | 4=>4 | 183=>343 | 182=>342 | 131=>331 | 5=>5 | 9=>9 | 218=>370 | 222=>309 | 228=>388 | 229=>389 | n=>n,fun | n=>n⟩
theorem lyS:Go.Proofs.Lays.n189 Tryz.prog jhp:={ mixed:=by kernel_rfl,f125:=Tryz.func223.trans (congrArg some (by kernel_rfl)),f128:=Tryz.func268.trans (congrArg some (by kernel_rfl)),f129:=Tryz.func269.trans (congrArg some (by kernel_rfl)),f189:=Tryz.func156.trans (congrArg some (by kernel_rfl)),f215:=Tryz.func289.trans (congrArg some (by kernel_rfl)),f216:=Tryz.func265.trans (congrArg some (by kernel_rfl)),f257:=Tryz.func222.trans (congrArg some (by kernel_rfl)),f294:=Tryz.func259.trans (congrArg some (by kernel_rfl)),f295:=Tryz.func260.trans (congrArg some (by kernel_rfl)),f296:=Tryz.func261.trans (congrArg some (by kernel_rfl)),f297:=Tryz.func262.trans (congrArg some (by kernel_rfl)),f298:=Tryz.func263.trans (congrArg some (by kernel_rfl)),f299:=Tryz.func264.trans (congrArg some (by kernel_rfl)),f300:=Tryz.func266.trans (congrArg some (by kernel_rfl)),f301:=Tryz.func267.trans (congrArg some (by kernel_rfl)),f328:=Tryz.func284.trans (congrArg some (by kernel_rfl)),f329:=Tryz.func285.trans (congrArg some (by kernel_rfl)),f330:=Tryz.func286.trans (congrArg some (by kernel_rfl)),f331:=Tryz.func287.trans (congrArg some (by kernel_rfl)),f332:=Tryz.func288.trans (congrArg some (by kernel_rfl)),f343:=Tryz.func300.trans (congrArg some (by kernel_rfl)),t0:=Tryz.underlying0,a0:=Tryz.isAgg0,z0:=Tryz.sizeOf0,v0:=Tryz.zeroValue0,t3:=Tryz.underlying3,a3:=Tryz.isAgg3,z3:=Tryz.sizeOf3,v3:=Tryz.zeroValue3,t4:=Tryz.underlying4,a4:=Tryz.isAgg4,z4:=Tryz.sizeOf4,v4:=Tryz.zeroValue4,t5:=Tryz.underlying5,a5:=Tryz.isAgg5,z5:=Tryz.sizeOf5,v5:=Tryz.zeroValue5,t9:=Tryz.underlying9,a9:=Tryz.isAgg9,z9:=Tryz.sizeOf9,v9:=Tryz.zeroValue9,t28:=Tryz.underlying24,a28:=Tryz.isAgg24,z28:=Tryz.sizeOf24,v28:=Tryz.zeroValue24,t46:=Tryz.underlying313,a46:=Tryz.isAgg313,z46:=Tryz.sizeOf313,v46:=Tryz.zeroValue313,t51:=Tryz.underlying349,a51:=Tryz.isAgg349,z51:=Tryz.sizeOf349,v51:=Tryz.zeroValue349,t53:=Tryz.underlying351,a53:=Tryz.isAgg351,z53:=Tryz.sizeOf351,v53:=Tryz.zeroValue351,t131:=Tryz.underlying331,a131:=Tryz.isAgg331,z131:=Tryz.sizeOf331,v131:=Tryz.zeroValue331,t182:=Tryz.underlying342,a182:=Tryz.isAgg342,z182:=Tryz.sizeOf342,v182:=Tryz.zeroValue342,t183:=Tryz.underlying343,a183:=Tryz.isAgg343,z183:=Tryz.sizeOf343,v183:=Tryz.zeroValue343,t218:=Tryz.underlying370,a218:=Tryz.isAgg370,z218:=Tryz.sizeOf370,v218:=Tryz.zeroValue370,t222:=Tryz.underlying309,a222:=Tryz.isAgg309,z222:=Tryz.sizeOf309,v222:=Tryz.zeroValue309,t228:=Tryz.underlying388,a228:=Tryz.isAgg388,z228:=Tryz.sizeOf388,v228:=Tryz.zeroValue388,t229:=Tryz.underlying389,a229:=Tryz.isAgg389,z229:=Tryz.sizeOf389,v229:=Tryz.zeroValue389 }
theorem jfn:qus Tryz.prog 156 :=
 ⟨⟨_,Tryz.func156,by decide,by kernel_rfl⟩,fun blk off cap zs w h1 h2 h3=>Any.slices_Sort_int lyS blk off cap zs w h1 h2 h3,fun p cap w=>calls_of_every_depth fun D=>AnyS.slices_Sort_int_none_alone lyS D p cap w⟩
theorem jfd:∀f g,pg0 f=some g->∃fn fresh raw md,Tryz.prog.funcs[qme f]?=some fn/\zxl Tryz.prog fresh raw fn md=some g:=by
 intro f g h
 have h2:cF f=some g:=by
  unfold pg0 at h
  split at h
  .rename_i e;rw[<-h];exact zgy z3j e
  .exact h
 unfold cF at h2
 change (Tryz.prog.funcs[qme f]?).bind _=_ at h2
 cases e:Tryz.prog.funcs[qme f]? with
 | none=>rw[e]at h2;cases h2
 | some fn=>rw[e]at h2;exact⟨fn,_,_,_,rfl,h2⟩
theorem made:Made Tryz.prog pg:=by
 intro f g h
 unfold pg at h
 split at h
 .rename_i e
  cases Nat.eq_of_beq_eq_true e
  cases h
  exact .inr ⟨rfl,by decide,jfn⟩
 .exact .inl (jfd f g h)
end Go.Proofs.YtbepbclaoohngaaGreat
