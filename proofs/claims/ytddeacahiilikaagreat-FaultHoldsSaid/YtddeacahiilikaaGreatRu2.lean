/- The value of an expression, by the reference. Gates are computed, by the reference. What a signal wants, by the reference. A round of the signals, by the reference. Actuators begin to go, by the reference. The valves take their pilots, by the reference. Are lists equal, and states, by the program. The value of an expression, by settle. The values of all lines, of a machine of settle. Gates are computed, by settle; the rules. A round of the plant, by the reference: all that is needed of a right state of a small control. -/
import Derived.Test.YtddeacahiilikaaGreatEv1
import Derived.Test.YtddeacahiilikaaGreatCt6
import Derived.Test.YtddeacahiilikaaGreatGa1
import Derived.Test.YtddeacahiilikaaGreatSt4
set_option linter.all false
namespace Go.Proofs.YtddeacahiilikaaGreat
open Go Go.Am Go.Proofs
set_option maxRecDepth 100000
theorem znv{o i n:Int}{k:Nat}(h:qbq o i k n=0)(ho:o=2):k=1:=by
 subst ho
 unfold qbq at h
 by_cases hk:k=1
 .exact hk
 .rw[if_neg (by omega),if_pos (by omega)]at h
  omega
theorem q0l(c:Ct)(F i:Nat)(L:List Bool):(qgd c F i L).take F=L.take F:=by
 unfold qgd
 split
 .split
  .rw[List.take_set]
   rw[List.set_eq_of_length_le (by rw[List.length_take];omega)]
  .rfl
 .rfl
theorem qsl(c:Ct)(F:Nat)(L:List Bool):∀k,(qbd c F k L).take F=L.take F
 | 0=>rfl
 | k+1=>by rw[qbd,q0l,qsl c F L k]
def stK(c:Ct)(s:Ste)(k:Nat):Ste:=⟨s.ends,s.valves,s.inputs,(qbd c (qan s) k (qah s)).drop (qan s),s.timers⟩
theorem znt(c:Ct)(s:Ste):stK c s 0=s:=by
 unfold stK qbd
 rw[qkr]
theorem zfc(c:Ct)(s:Ste):stK c s c.signals.length=qfb c s:=rfl
theorem zdq(c:Ct)(s:Ste)(k:Nat):(stK c s k).values.length=s.values.length:=by
 unfold stK
 simp only[List.length_drop]
 rw[qfq,qfw]
 unfold qan
 omega
theorem qlm(c:Ct)(s:Ste)(k:Nat):qah (stK c s k)=qbd c (qan s) k (qah s):=by
 have h1:=qsl c (qan s) (qah s) k
 have h2:(qah s).take (qan s)=qff s.ends++s.inputs:=by
  unfold qah
  rw[List.take_left' (by rw[jF,qfi])]
 rw[h2]at h1
 have e:=List.take_append_drop (qan s) (qbd c (qan s) k (qah s))
 rw[h1]at e
 exact e
theorem zmb(c:Ct)(s:Ste)(k:Nat)(hk:k<c.signals.length):(stK c s (k+1)).values=if c.signals[k].kind=0 then(stK c s k).values.set k (c.signals[k].on.holds (qah (stK c s k)))else(stK c s k).values:=by
 have e:c.signals[k]?=some c.signals[k]:=jA hk
 rw[qlm]
 unfold stK
 simp only[qbd]
 rw[qgd,e]
 simp only
 split
 .rw[List.drop_set,if_neg (by omega),Nat.add_sub_cancel_left]
 .rfl
structure SigOk(n:Nat)(x:Sg):Prop where
 on:x.on.nodes<=256/\x.on.err n=0
 off:x.kind=1->x.off.nodes<=256/\x.off.err n=0
abbrev tv(c:Ct)(g:Ste)(k:Nat):List Bool:=mix ((qgj c g).map Prod.fst) g.values k
abbrev tt(c:Ct)(g:Ste)(k:Nat):List Int:=mix ((qgj c g).map Prod.snd) g.timers k
abbrev bdL(c:Ct)(g:Ste)(F:Nat)(k:Nat):List Int:=qib (zjv c (qah g)) F k
theorem zfj{c:Ct}{s:Ste}{A:Nat}(hM:Mid c A)(hS:Shp c s):qan s=qal c A:=by
 have h1:=hS.e
 have h2:=hM.act
 have h3:=hS.i
 unfold qan qal
 omega
abbrev ge(s:Ste)(k:Nat):List Int:=mix (List.zipWith qsq s.valves s.ends) s.ends k
structure Pil(c:Ct)(A:Nat)(N:Nat):Prop where
 p:c.plus.length=A
 m:c.minus.length=A
 pb:∀x∈c.plus,0<=x/\x<(N:Int)
 mb:∀x∈c.minus,0<=x/\x<(N:Int)
abbrev cfL(c:Ct)(L:List Bool)(A k:Nat):List Int:=qib (fun i=>qdq L c.plus i&&qdq L c.minus i) (qae c A:Nat) k
def T29(a b:List Bool)(k:Nat):Tm:=[some (qfd a),some (qfd b),none,none,none,none,none,none,none,none,none,none,some (num a.length),some (num k)]++List.replicate 12 none
def jgw:Tm:=[none,none,none,none,some (.bool false)]++List.replicate 21 none
theorem jjx(a b:List Bool)(hab:b.length=a.length)(ha:a.length<=4096){st:St}(h0:At (T29 a b 0) [] st):∃r,ev pg (.code (.going 0 L91_0) st)=some r/\qlx a.length (fun k=>a[k]? != b[k]?) (fun _=>qam .ret jgw []) (qam (.exit 0) (T29 a b a.length) []) r:=by
 refine qdn _ _ (T29 a b) [] _ _ ?_ ?_ ?_ h0
 .intro k f hf hk hp
  have hk':(k:Int)<a.length:=by omega
  have hkb:k<b.length:=by omega
  have wk:=qab (n:=(k:Int)+1) (by omega) (by omega)
  have hb:a[k]=b[k]:=by simpa[hk,hkb]using hp
  simp[qaa,exT,qaf,T29,L91_0,hk,hk',hkb,hb,wk,hf.ne]
 .intro k f hf hk hp
  have hk':(k:Int)<a.length:=by omega
  have hkb:k<b.length:=by omega
  have hb:a[k]≠b[k]:=by simpa[hk,hkb]using hp
  have hb':(a[k]==b[k])=false:=by simpa using hb
  simp[qaa,exT,qaf,T29,jgw,L91_0,hk,hk',hkb,hb',hf.ne]
 .intro f hf
  simp[T29,L91_0,hf.ne]
theorem ev91(a b:List Bool)(ha:a.length<=4096):ev pg (.call (.fn 91 [] []) [qfd a,qfd b] [])=some { v:=.bool (decide (a=b)),st:=⟨[],[]⟩ }:=by
 rw[qac,pg91]
 by_cases hab:b.length=a.length
 .have hloop:=@jjx a b hab ha
  have hab':(b.length:Int)=a.length:=by omega
  simp[ir91,qag,hab']
  generalize hr:ev pg (.code (.going _ L91_0) _)=o
  obtain⟨r,rfl,hQ⟩:∃r,o=some r/\_:=by rw[<-hr];exact hloop (by simp[T29])
  rcases hQ with⟨k,hk,hp,-,f,hf,rfl⟩ | ⟨hp,f,hf,rfl⟩
  .have:a≠b:=by rintro rfl;simp at hp
   simp[jgw,this]
  .have:a=b:=by
    refine List.ext_getElem hab.symm fun k h1 h2=>?_
    have:=hp k h1
    simpa[h1,h2]using this
   simp[T29,this]
 .have hne:((a.length:Int) != (b.length:Int))=true:=by rw[bne_iff_ne];omega
  have:a≠b:=fun e=>hab (by rw[e])
  simp[ir91,hne,this]
theorem ev114(a b:Ste)(ha:a.small):ev pg (.call (.fn 114 [] []) [a.v,b.v] [])=some { v:=.bool (qln a b),st:=⟨[],[]⟩ }:=by
 have h1:=ev40 a.ends b.ends ha.e
 have h2:=ev91 a.valves b.valves ha.w
 have h3:=ev91 a.inputs b.inputs ha.i
 have h4:=ev91 a.values b.values ha.v
 have h5:=ev40 a.timers b.timers ha.t
 rw[qac,pg114]
 unfold qln
 generalize decide (a.ends=b.ends)=b1 at *
 generalize decide (a.valves=b.valves)=b2 at *
 generalize decide (a.inputs=b.inputs)=b3 at *
 generalize decide (a.values=b.values)=b4 at *
 cases b1 with
 | false=>simp[ir114,h1]
 | true=>cases b2 with
  | false=>simp[ir114,h1,h2]
  | true=>cases b3 with
   | false=>simp[ir114,h1,h2,h3]
   | true=>cases b4 with
    | false=>simp[ir114,h1,h2,h3,h4]
    | true=>simp[ir114,h1,h2,h3,h4,h5]
abbrev Mv(x:Ex)(vs:List Bool):H:=[⟨0,.box x.cells⟩,⟨0,.box [qfd vs]⟩]
def zoj(x:Ex)(F k:Nat):Tm:=[some (.imm (x.args.map Ex.row)),some (.fn F [] [.bptr 1 0]),none,none,none,none,none,some (num x.args.length),some (num k)]++List.replicate 10 none
def zxv(x:Ex)(F k:Nat):Tm:=[some (.imm (x.args.map Ex.row)),some (.fn F [] [.bptr 1 0]),none,none,some (num k),none,none,some (num x.args.length),some (num k)]++List.replicate 10 none
theorem jih(x:Ex)(vs:List Bool)(F:Nat)(p:Ex->Bool)(hx:x.nodes<=256)(hF:∀y∈x.args,ev pg (.call (.fn F [] [.bptr 1 0]) [y.v] (Mv x vs))=some { v:=.bool (p y),st:=⟨[],Mv x vs⟩ }){st:St}(h0:At (zoj x F 0) (Mv x vs) st):∃r,ev pg (.code (.going 2 L316_0) st)=some r/\qlx x.args.length (fun k=>((x.args[k]?).map p).getD false) (fun k=>qam .ret (zxv x F k) (Mv x vs)) (qam (.exit 0) (zoj x F x.args.length) (Mv x vs)) r:=by
 have hfew:=qew hx
 refine qdn _ _ (zoj x F) (Mv x vs) _ _ ?_ ?_ ?_ h0
 .intro k f hf hk hp
  have hk':(k:Int)<x.args.length:=by omega
  have wk:=qab (n:=(k:Int)+1) (by omega) (by omega)
  have hi:=hF _ (jH hk)
  have hh:p x.args[k]=false:=by simpa[hk]using hp
  rw[hh]at hi
  simp[zoj,L316_0,hk,hk',wk,hi,hf.ne]
 .intro k f hf hk hp
  have hk':(k:Int)<x.args.length:=by omega
  have hi:=hF _ (jH hk)
  have hh:p x.args[k]=true:=by simpa[hk]using hp
  rw[hh]at hi
  simp[zoj,zxv,L316_0,hk,hk',hi,hf.ne]
 .intro f hf
  simp[zoj,L316_0,hf.ne]
theorem ev311(x:Ex)(vs:List Bool)(F:Nat)(p:Ex->Bool)(hx:x.nodes<=256)(hF:∀y∈x.args,ev pg (.call (.fn F [] [.bptr 1 0]) [y.v] (Mv x vs))=some { v:=.bool (p y),st:=⟨[],Mv x vs⟩ }):ev pg (.call (.fn 311 [] []) [.imm (x.args.map Ex.row),.fn F [] [.bptr 1 0]] (Mv x vs))=some { v:=.bool (x.args.any p),st:=⟨[],Mv x vs⟩ }:=by
 have hl:=@jih x vs F p hx hF
 have h190:∃n:Int,ev pg (.call (.fn 316 [] []) [.imm (x.args.map Ex.row),.fn F [] [.bptr 1 0]] (Mv x vs))=some { v:=num n,st:=⟨[],Mv x vs⟩ }/\decide (n≥0)=x.args.any p:=by
  rw[qac,pg316]
  simp[ir316,qag]
  generalize hr:ev pg (.code (.going _ L316_0) _)=o
  obtain⟨r,rfl,hQ⟩:∃r,o=some r/\_:=by rw[<-hr];exact hl (by simp[zoj])
  rcases hQ with⟨k,hk,hp,-,f,hf,rfl⟩ | ⟨hp,f,hf,rfl⟩
  .refine⟨k,by simp[zxv],?_⟩
   have h1:p x.args[k]=true:=by simpa[hk]using hp
   have h2:x.args.any p=true:=List.any_eq_true.2 ⟨_,jH hk,h1⟩
   rw[h2]
   simp
  .refine⟨-1,by simp[zoj],?_⟩
   have h2:x.args.any p=false:=by
    rw[List.any_eq_false]
    intro y hy
    obtain⟨k,hk,rfl⟩:=List.getElem_of_mem hy
    have:=hp k hk
    simpa[hk]using this
   rw[h2]
   rfl
 obtain⟨n,h1,h2⟩:=h190
 rw[qac,pg311]
 simp[ir311,h1,<-h2]
theorem ev302(vs:List Bool):∀x:Ex,x.nodes<=256->x.err vs.length=0->ev pg (.call (.fn 302 [] []) [x.v,qfd vs] [])=some { v:=.bool (x.holds vs),st:=⟨[],[]⟩ }:=by
 refine Ex.ind fun x ih hx he=>?_
 obtain⟨hn,hargs⟩:=qmz he
 have ih':∀y∈x.args,ev pg (.call (.fn 302 [] []) [y.v,qfd vs] [])=some { v:=.bool (y.holds vs),st:=⟨[],[]⟩ }:=fun y hy=>ih y hy (by have:=qei hx hy;omega) (hargs y hy)
 have hop:x.op=0\/x.op=1\/x.op=2\/x.op=3\/x.op=4:=by
  unfold qbq at hn
  by_cases h:x.op<0\/5<=x.op
  .rw[if_pos h]at hn;omega
  .omega
 have h179:∀y∈x.args,ev pg (.call (.fn 312 [] [.bptr 1 0]) [y.v] (Mv x vs))=some { v:=.bool (!y.holds vs),st:=⟨[],Mv x vs⟩ }:=fun y hy=>by
  have h:=ih' y hy
  rw[qac,pg312]
  simp[ir312,h]
 have h180:∀y∈x.args,ev pg (.call (.fn 313 [] [.bptr 1 0]) [y.v] (Mv x vs))=some { v:=.bool (y.holds vs),st:=⟨[],Mv x vs⟩ }:=fun y hy=>by
  have h:=ih' y hy
  rw[qac,pg313]
  simp[ir313,h]
 have a:=ev311 x vs _ _ hx h179
 have b:=ev311 x vs _ _ hx h180
 have e1:(x.args.map (Ex.holds vs)).all id=!(x.args.any fun y=>!y.holds vs):=by
  rw[List.all_map,List.not_any_eq_all_not];congr 1;funext y;simp
 have e2:(x.args.map (Ex.holds vs)).any id=x.args.any fun y=>y.holds vs:=by
  rw[List.any_map];rfl
 rw[qol,e1,e2,qac,pg302]
 generalize (x.args.any fun y=>!y.holds vs)=A at *
 generalize (x.args.any fun y=>y.holds vs)=B at *
 rcases hop with h | h | h | h | h
 .simp[ir302,h]
 .obtain⟨hi0,hi1⟩:=qsz hn h
  have hin:x.idx.toNat<vs.length:=by omega
  simp[ir302,h,hi0,hin]
 .have h1:=znv hn h
  obtain⟨y,hy⟩:∃y,x.args=[y]:=by
   match hq:x.args,h1 with
   | [y],_=>exact⟨y,rfl⟩
  have hiy:=ih' y (by rw[hy];exact List.mem_cons_self)
  simp[ir302,h,hy,hiy]
 .simp[Mv,Ex.cells,h]at a
  simp[ir302,h,a]
 .simp[Mv,Ex.cells,h]at b
  simp[ir302,h,b]
abbrev sl5(i:Nat)(u:Ste):List V:=[.sl i 0 1 0 u.ends.length,.sl (i+1) 0 1 0 u.valves.length,.sl (i+2) 0 1 0 u.inputs.length,.sl (i+3) 0 1 0 u.values.length,.sl (i+4) 0 1 0 u.timers.length]
abbrev ar5(u:Ste):H:=[⟨0,.arr 1 (u.ends.map qcc)⟩,⟨0,.arr 1 (u.valves.map qht)⟩,⟨0,.arr 1 (u.inputs.map qht)⟩,⟨0,.arr 1 (u.values.map qht)⟩,⟨0,.arr 1 (u.timers.map qcc)⟩]
abbrev hM(c:Ct)(s u:Ste)(F:Nat):H:=[⟨0,.box c.cells⟩,⟨0,.box s.cells⟩,o0,o0,o0,o0,o0,⟨0,.box (znb 2)⟩,⟨0,.box c.cells⟩,⟨0,.box s.cells⟩]++ar5 u++[⟨0,.box (c.cells++sl5 10 u++[num F])⟩]
abbrev hQ(g w:Nat)(L:List Int):H:=[o0,⟨g,.arr w (L.map qcc)⟩]
abbrev hB(b:Ste):H:=ar5 b++[o0,o0,o0,o0,o0,⟨0,.box (sl5 18 b)⟩]
abbrev zoc(c:Ct)(s u b:Ste)(F gq wq:Nat)(L:List Int):H:=hM c s u F++hQ gq wq L++hB b
abbrev zas(c:Ct)(s u b:Ste)(F gq wq:Nat)(L:List Int)(k:Nat)(a:Nat×Nat):H:=zoc c s u b F gq wq L++[o0,⟨a.1,.arr a.2 ((qff (u.ends.take k)).map qht)⟩]
def zxd(u:Ste)(k:Nat)(a:Nat×Nat):Tm:=[some (.bptr 15 0),none,some (.sl 29 0 0 0 0),some (.sl 30 a.1 a.2 0 (2*k)),none,none,none,none,none,none,some (.sl 10 0 1 0 u.ends.length),some (num u.ends.length),some (num k)]++List.replicate 24 none
set_option maxHeartbeats 1000000 in
theorem jge(c:Ct)(s u b:Ste)(F gq wq:Nat)(L:List Int)(hs:u.small){st:St}(a0:Nat×Nat)(g0:a0.2=1\/a0.2=0)(h0:At (zxd u 0 a0) (zas c s u b F gq wq L 0 a0) st):∃r,ev pg (.code (.going 31 L300_0) st)=some r/\∃a:Nat×Nat,(a.2=1\/a.2=0)/\qam (.exit 0) (zxd u u.ends.length a) (zas c s u b F gq wq L u.ends.length a) r:=by
 have hse:=hs.e
 refine qcz u.ends.length (zxd u) (zas c s u b F gq wq L) (fun _ a=>a.2=1\/a.2=0) _ ?_ ?_ a0 g0 h0
 .rintro k ⟨g,m⟩ f hf hk hG
  have hk':(k:Int)<u.ends.length:=by omega
  have wk:=qab (n:=(k:Int)+1) (by omega) (by omega)
  have hlen:(qff (u.ends.take k)).length=2*k:=by rw[qfi,List.length_take];omega
  have hb:2*k+2<=140737488355328:=by omega
  have h2:2*(k+1)=2*k+2:=by omega
  unfold zxd zas
  rw[qxp hk,h2]
  generalize qff (u.ends.take k)=W at *
  have hmm:m=1\/m=0:=hG
  rcases hmm with rfl | rfl<;>simp[L300_0,hk,hk',wk,hb,hlen,hf.ne]
 .rintro⟨g,m⟩ f hf hG
  unfold zxd zas
  generalize qff (u.ends.take u.ends.length)=W at *
  generalize 2*u.ends.length=N at *
  have hmm:m=1\/m=0:=hG
  rcases hmm with rfl | rfl<;>simp[L300_0,hf.ne]
theorem ev315h{h:H}(hc:qce h)(n:Nat)(h1:1<=n)(hn:n<=100000):ev pg (.call (.fn 315 [] []) [.nils,num n] h)=some { v:=.sl h.length 0 1 0 0,st:=⟨[],h++[⟨0,.arr 1 []⟩]⟩ }:=by
 have w1:=qab (n:=(n:Int)) (by omega) (by omega)
 have p1:¬((n:Int)<0):=by omega
 have w0:=qab (n:=0) (by omega) (by omega)
 have p3:n*1<=140737488355328:=by omega
 have p4:n<=140737488355328:=by omega
 have hn0:0<n:=by omega
 have hne:¬n=0:=by omega
 have hne2:¬0=n:=by omega
 have hcm:h.map (qbk h.length)=h:=hc
 rw[qac,pg315]
 simp[ir315,w0,w1,p1,hn0,hne,hne2,p3,p4,qct,qel,qek,hcm]
def nK(a b c k:Nat):Nat:=if k=0 then 0 else if k=1 then a else if k=2 then a+b else a+b+c
def wK(a b c:List Bool)(k:Nat):List Bool:=if k=0 then []else if k=1 then a else if k=2 then a++b else a++b++c
abbrev vw3(u:Ste)(g m:Nat):V:=.view false [.sl 30 g m 0 (2*u.ends.length),.sl 12 0 1 0 u.inputs.length,.sl 13 0 1 0 u.values.length]
abbrev zao(c:Ct)(s u b:Ste)(F gq wq:Nat)(L:List Int)(g m:Nat)(E:List Bool):H:=zoc c s u b F gq wq L++[o0,⟨g,.arr m (E.map qht)⟩]
def q2d(u:Ste)(g m k:Nat):Tm:=[some (vw3 u g m),none,some (.sl 31 0 0 0 0),some (num (nK (2*u.ends.length) u.inputs.length u.values.length k)),none,none,none,none,none,some (vw3 u g m),some (num 3),some (num k)]++List.replicate 24 none
def zbn(u:Ste)(g m k:Nat)(a:Nat×Nat):Tm:=[some (vw3 u g m),none,some (.sl 31 0 0 0 0),none,none,none,some (.sl 32 a.1 a.2 0 (nK (2*u.ends.length) u.inputs.length u.values.length k))]++List.replicate 18 none++[some (vw3 u g m),some (num 3),some (num k)]++List.replicate 8 none
set_option maxHeartbeats 2000000 in
theorem ev307m(c:Ct)(s u b:Ste)(F gq wq:Nat)(L:List Int)(hs:u.small)(h1:1<=u.ends.length)(g m:Nat)(hm:m=1\/m=0)(E:List Bool)(hE:E.length=2*u.ends.length):ev pg (.call (.fn 307 [] []) [vw3 u g m] (zao c s u b F gq wq L g m E))=some { v:=.sl 31 0 1 0 (2*u.ends.length+u.inputs.length+u.values.length),st:=⟨[],zao c s u b F gq wq L g m E++[⟨0,.arr 1 ((E++u.inputs++u.values).map qht)⟩]⟩ }:=by
 have s1:=hs.e
 have s2:=hs.i
 have s3:=hs.v
 have la:∀st,At (q2d u g m 0) (zao c s u b F gq wq L g m E++[o0]) st->∃r,ev pg (.code (.going 32 L307_0) st)=some r/\qam (.exit 0) (q2d u g m 3) (zao c s u b F gq wq L g m E++[o0]) r:=by
  intro st h0
  refine qex 3 (q2d u g m) (fun _=>zao c s u b F gq wq L g m E++[o0]) _ ?_ ?_ h0
  .intro k f hf hk
   have hk3:k=0\/k=1\/k=2:=by omega
   have x1:¬(2*(u.ends.length:Int))<0:=by omega
   have x2:¬(2*(u.ends.length:Int)+(u.inputs.length:Int))<0:=by omega
   have x3:¬(2*(u.ends.length:Int)+(u.inputs.length:Int)+(u.values.length:Int))<0:=by omega
   have y1:=qab (n:=2*(u.ends.length:Int)) (by omega) (by omega)
   have y2:=qab (n:=2*(u.ends.length:Int)+(u.inputs.length:Int)) (by omega) (by omega)
   have y3:=qab (n:=2*(u.ends.length:Int)+(u.inputs.length:Int)+(u.values.length:Int)) (by omega) (by omega)
   have z1:IntKind.i64.wrap 1=1:=by decide
   have z2:IntKind.i64.wrap 2=2:=by decide
   have z3:IntKind.i64.wrap 3=3:=by decide
   rcases hk3 with rfl | rfl | rfl<;>rcases hm with rfl | rfl<;>simp[L307_0,q2d,nK,x1,x2,x3,y1,y2,y3,z1,z2,z3,hf.ne]
  .intro f hf
   simp[L307_0,q2d,hf.ne]
 have lb:∀st,At (zbn u g m 0 (0,1)) (zao c s u b F gq wq L g m E++[o0,⟨0,.arr 1 []⟩]) st->∃r,ev pg (.code (.going 33 L307_1) st)=some r/\∃a:Nat×Nat,a.2=1/\qam (.exit 2) (zbn u g m 3 a) (zao c s u b F gq wq L g m E++[o0,⟨a.1,.arr a.2 ((wK E u.inputs u.values 3).map qht)⟩]) r:=by
  intro st h0
  refine qcz 3 (zbn u g m) (fun k a=>zao c s u b F gq wq L g m E++[o0,⟨a.1,.arr a.2 ((wK E u.inputs u.values k).map qht)⟩]) (fun _ a=>a.2=1) _ ?_ ?_ (0,1) rfl (by simpa[wK]using h0)
  .rintro k ⟨g2,m2⟩ f hf hk hG
   obtain rfl:m2=1:=hG
   have hk3:k=0\/k=1\/k=2:=by omega
   have z1:IntKind.i64.wrap 1=1:=by decide
   have z2:IntKind.i64.wrap 2=2:=by decide
   have z3:IntKind.i64.wrap 3=3:=by decide
   have y1:2*u.ends.length<=140737488355328:=by omega
   have y2:2*u.ends.length+u.inputs.length<=140737488355328:=by omega
   have y3:2*u.ends.length+u.inputs.length+u.values.length<=140737488355328:=by omega
   rcases hk3 with rfl | rfl | rfl<;>rcases hm with rfl | rfl<;>simp[L307_1,zbn,nK,wK,hE,y1,y2,y3,z1,z2,z3,hf.ne]
  .rintro⟨g2,m2⟩ f hf hG
   obtain rfl:m2=1:=hG
   simp[L307_1,zbn,hf.ne]
 have hcal:qce (zao c s u b F gq wq L g m E++[o0]):=by
  unfold qce
  simp
 have e189:=ev315h hcal (2*u.ends.length+u.inputs.length+u.values.length) (by omega) (by omega)
 have hW:wK E u.inputs u.values 3=E++u.inputs++u.values:=by simp[wK]
 have hN:nK (2*u.ends.length) u.inputs.length u.values.length 3=2*u.ends.length+u.inputs.length+u.values.length:=by simp[nK]
 have hla:∀f,fill f 0 (q2d u g m 3)=fill f 0 ([some (vw3 u g m),none,some (.sl 31 0 0 0 0),some (num (2*u.ends.length+u.inputs.length+u.values.length:Nat)),none,none,none,none,none,some (vw3 u g m),some (num 3),some (num 3)]++List.replicate 24 none):=fun f=>by
  unfold q2d
  rw[hN]
  rfl
 rw[hW]at lb
 have hlen:((E++u.inputs++u.values).map qht).length=2*u.ends.length+u.inputs.length+u.values.length:=by
  simp[hE]
  omega
 generalize (E++u.inputs++u.values).map qht=W at *
 have lb':∀st,At ([some (vw3 u g m),none,some (.sl 31 0 0 0 0),none,none,none,some (.sl 32 0 1 0 0)]++List.replicate 18 none++[some (vw3 u g m),some (num 3),some (num 0)]++List.replicate 8 none) (zao c s u b F gq wq L g m E++[o0,⟨0,.arr 1 []⟩]) st->∃r,ev pg (.code (.going 33 L307_1) st)=some r/\∃a:Nat×Nat,a.2=1/\qam (.exit 2) ([none,none,none,none,none,none,some (.sl 32 a.1 a.2 0 (2*u.ends.length+u.inputs.length+u.values.length))]++List.replicate 29 none) (zao c s u b F gq wq L g m E++[o0,⟨a.1,.arr a.2 W⟩]) r:=by
  intro st h0
  obtain⟨r,e,a,ha,f,hf,rfl⟩:=lb st h0
  refine⟨_,e,a,ha,?_⟩
  unfold zbn
  rw[hN]
  generalize 2*u.ends.length+u.inputs.length+u.values.length=N at *
  simp[hf.ne]
 generalize 2*u.ends.length+u.inputs.length+u.values.length=N at *
 simp at e189
 rw[qac,pg307]
 simp[ir307,qag]
 generalize hr:ev pg (.code (.going _ L307_0) _)=o
 obtain⟨r,rfl,f,hf,rfl⟩:∃r,o=some r/\_:=by rw[<-hr];exact la _ (by simp[q2d,nK])
 clear hr
 rw[hla]
 simp[e189,hf.ne,qag]
 generalize hr:ev pg (.code (.going _ L307_1) _)=o
 obtain⟨r,rfl,⟨g2,m2⟩,hm2,f2,hf2,rfl⟩:∃r,o=some r/\_:=by rw[<-hr];exact lb' _ (by simp[hf.ne])
 obtain rfl:m2=1:=hm2
 clear hr
 simp[qct,qel,qek,hlen]
set_option maxHeartbeats 1000000 in
theorem ev300(c:Ct)(s u b:Ste)(F gq wq:Nat)(L:List Int)(hs:u.small)(h1:1<=u.ends.length):ev pg (.call (.fn 300 [] []) [.bptr 15 0] (zoc c s u b F gq wq L))=some { v:=.sl 29 0 1 0 (qah u).length,st:=⟨[],zoc c s u b F gq wq L++[⟨0,.arr 1 ((qah u).map qht)⟩]⟩ }:=by
 have hl:=@jge c s u b F gq wq L hs
 have he:=qfi u.ends
 have hlen:=qfw u
 have zao:=fun g m hm=>ev307m c s u b F gq wq L hs h1 g m hm (qff u.ends) he
 unfold zas at hl
 rw[List.take_length,List.take_zero,qff]at hl
 unfold qah at hlen ⊢
 rw[hlen]
 have hWl:((qff u.ends++u.inputs++u.values).map qht).length=2*u.ends.length+u.inputs.length+u.values.length:=by rw[List.length_map,hlen]
 generalize (qff u.ends++u.inputs++u.values).map qht=W at *
 generalize qff u.ends=E at *
 generalize hN:2*u.ends.length+u.inputs.length+u.values.length=N at *
 rw[qac,pg300]
 simp[ir300,qag]
 generalize hr:ev pg (.code (.going _ L300_0) _)=o
 obtain⟨r,rfl,⟨g,m⟩,hm,f,hf,rfl⟩:∃r,o=some r/\_:=by rw[<-hr];exact hl (0,0) (.inr rfl) (by simp[zxd])
 clear hr
 have hmm:m=1\/m=0:=hm
 have h174':=zao g m hmm
 simp at h174'
 rcases hmm with rfl | rfl<;>simp[qaa,exT,qaf,zxd,he,h174',qct,qel,qek,hWl]
abbrev znp(c:Ct)(s u b:Ste)(gq wq:Nat)(L:List Int)(k:Nat):H:=zoc c s (stK c u k) b (qan u) gq wq L++[⟨0,.arr 1 ((qbd c (qan u) k (qah u)).map qht)⟩]
def zxb(c:Ct)(N k:Nat):Tm:=[some (.bptr 15 0),none,some (.sl 29 0 1 0 N),none,none,none,none,none,none,none,none,none,some (.imm (c.signals.map Sg.row)),some (num c.signals.length),some (num k)]++List.replicate 29 none
set_option maxHeartbeats 2000000 in
theorem jgy(c:Ct)(s u b:Ste)(gq wq:Nat)(L:List Int)(hs:u.small)(hS:Shp c u)(hn:c.signals.length<=128)(hF:qan u<=10000)(hok:∀x∈c.signals,x.on.nodes<=256/\x.on.err (qah u).length=0){st:St}(h0:At (zxb c (qah u).length 0) (znp c s u b gq wq L 0) st):∃r,ev pg (.code (.going 30 L299_0) st)=some r/\qam (.exit 0) (zxb c (qah u).length c.signals.length) (znp c s u b gq wq L c.signals.length) r:=by
 refine qex c.signals.length (zxb c (qah u).length) (znp c s u b gq wq L) _ ?_ ?_ h0
 .intro k f hf hk
  have hk':(k:Int)<c.signals.length:=by omega
  have wk:=qab (n:=(k:Int)+1) (by omega) (by omega)
  have hsc:=zmb c u k hk
  obtain⟨g1,g2⟩:=hok _ (jH hk)
  have hLl:(qah (stK c u k)).length=(qah u).length:=by rw[qlm,qfq]
  have h165:=ev302 (qah (stK c u k)) c.signals[k].on g1 (by rw[hLl];exact g2)
  have hvl:=zdq c u k
  have hkv:k<u.values.length:=by rw[hS.v];exact hk
  have hgt:qbd c (qan u) (k+1) (qah u)=if c.signals[k].kind=0 then(qbd c (qan u) k (qah u)).set (qan u+k) (c.signals[k].on.holds (qah (stK c u k)))else qbd c (qan u) k (qah u):=by
   rw[qbd,qgd,jA hk,qlm]
  have hst:∀j,stK c u j=⟨u.ends,u.valves,u.inputs,(stK c u j).values,u.timers⟩:=fun j=>rfl
  have hlt:(qbd c (qan u) k (qah u)).length=(qah u).length:=qfq _ _ _ _
  have hFk:qan u+k<(qah u).length:=by
   rw[qfw];unfold qan;omega
  rw[qlm]at h165 hgt
  unfold znp
  rw[hst (k+1),hst k,hsc,hgt,qlm]
  unfold zxb
  generalize qbd c (qan u) k (qah u)=G at *
  generalize hv:c.signals[k].on.holds G=v at *
  generalize (stK c u k).values=W at *
  generalize qan u=F at *
  have hkW:k<W.length:=by omega
  have wF:=qab (n:=(F:Int)+k) (by omega) (by omega)
  have pF:(0:Int)<=(F:Int)+k:=by omega
  have tF:((F:Int)+k).toNat=F+k:=by omega
  generalize (qah u).length=N at *
  by_cases h0:c.signals[k].kind=0
  .have hFk':F+k<G.length:=by omega
   simp[qaa,exT,qaf,L299_0,hk,hk',wk,h0,hlt.symm,h165,hkW,hkv,hFk',hvl,wF,pF,tF,hf.ne]
  .have h0b:(c.signals[k].kind==0)=false:=by simpa using h0
   simp[L299_0,hk,hk',wk,h0,h0b,hf.ne]
 .intro f hf
  unfold zxb znp
  simp[L299_0,hf.ne]
set_option maxHeartbeats 1000000 in
theorem ev299(c:Ct)(s u b:Ste)(gq wq:Nat)(L:List Int)(hs:u.small)(hS:Shp c u)(hn:c.signals.length<=128)(hF:qan u<=10000)(h1:1<=u.ends.length)(hok:∀x∈c.signals,x.on.nodes<=256/\x.on.err (qah u).length=0):ev pg (.call (.fn 299 [] []) [.bptr 15 0] (zoc c s u b (qan u) gq wq L))=some { v:=.tup [],st:=⟨[],zoc c s (qfb c u) b (qan u) gq wq L⟩ }:=by
 have hl:=@jgy c s u b gq wq L hs hS hn hF hok
 have e163:=ev300 c s u b (qan u) gq wq L hs h1
 have hst:∀j,stK c u j=⟨u.ends,u.valves,u.inputs,(stK c u j).values,u.timers⟩:=fun j=>rfl
 have hvl:=zdq c u c.signals.length
 unfold znp at hl
 rw[znt,zfc,show qbd c (qan u) 0 (qah u)=qah u from rfl]at hl
 rw[zfc]at hvl
 have hg:qfb c u=⟨u.ends,u.valves,u.inputs,(qfb c u).values,u.timers⟩:=rfl
 rw[hg]at hl ⊢
 generalize (qfb c u).values=W at *
 generalize qbd c (qan u) c.signals.length (qah u)=G at *
 generalize qan u=F at *
 generalize qah u=LL at *
 simp at e163
 rw[qac,pg299]
 simp[ir299,e163,qag]
 generalize hr:ev pg (.code (.going _ L299_0) _)=o
 obtain⟨r,rfl,f,hf,rfl⟩:∃r,o=some r/\_:=by rw[<-hr];exact hl (by simp[zxb])
 clear hr
 simp[zxb]
abbrev chg(v:Bool)(t:Int)(b:Bool):V:=.agg [.bool v,num t,.bool b]
theorem ev308(v:Bool)(t:Int)(b on off:Bool):ev pg (.call (.fn 308 [] []) [chg v t b,.bool on,.bool off] [])=some { v:=chg v t b,st:=⟨[],[]⟩ }:=by
 rw[qac,pg308]
 simp[ir308]
theorem ev309(v:Bool)(t:Int)(b on off:Bool):ev pg (.call (.fn 309 [] []) [chg v t b,.bool on,.bool off] [])=some { v:=chg (if on != off then on else v) t (on&&off),st:=⟨[],[]⟩ }:=by
 rw[qac,pg309]
 cases on<;>cases off<;>simp[ir309]
theorem ev310(v:Bool)(t:Int)(b on off:Bool):ev pg (.call (.fn 310 [] []) [chg v t b,.bool on,.bool off] [])=some { v:=if on=true then chg v (if t=0 then 1 else t) b else chg false 0 false,st:=⟨[],[]⟩ }:=by
 rw[qac,pg310]
 cases on with
 | false=>simp[ir310]
 | true =>
  by_cases h:t=0
  .simp[ir310,h]
  .have hb:(t==0)=false:=by simpa using h
   simp[ir310,h,hb]
abbrev z5v:V:=.agg [.fn 308 [] [],.fn 309 [] [],.fn 310 [] []]
theorem ev301:ev pg (.call (.fn 301 [] []) [] [])=some { v:=z5v,st:=⟨[],[]⟩ }:=by
 rw[qac,pg301]
 simp[ir301]
structure Rdy(c:Ct)(s:Ste):Prop where
 few:c.small=true
 st:stE c s=0
theorem Rdy.chk{c:Ct}{s:Ste}(h:Rdy c s):c.check=0:=(qhm h.st).1
theorem Rdy.mid{c:Ct}{s:Ste}(h:Rdy c s):Mid c c.act.toNat:=qdo h.chk h.few
theorem Rdy.shp{c:Ct}{s:Ste}(h:Rdy c s):Shp c s:=(qhm h.st).2
theorem Rdy.small{c:Ct}{s:Ste}(h:Rdy c s):s.small:=by
 obtain⟨h1,h2,h3,h4,h5⟩:=h.shp
 have a1:=h.mid.hi
 have a2:=h.mid.inp
 have a3:=h.mid.sig
 have a4:=h.mid.act
 exact⟨by omega,by omega,by omega,by omega,by omega⟩
theorem Rdy.sig{c:Ct}{s:Ste}(h:Rdy c s):∀x∈c.signals,SigOk (qah s).length x:=by
 intro x hx
 rw[qtj h.shp]
 have:=jfw h.chk h.few hx
 exact⟨⟨this.non,this.on⟩,fun _=>⟨this.noff,this.off⟩⟩
theorem Rdy.pil{c:Ct}{s:Ste}(h:Rdy c s):Pil c c.act.toNat (qah s).length:=by
 rw[qtj h.shp]
 have:=qfe h.chk h.few
 exact⟨this.plus,this.minus,qge.1 this.pp,qge.1 this.mm⟩
theorem Rdy.settle{c:Ct}{s t:Ste}{m:List Int}(h:Rdy c s)(hz:qdd c s=some (t,m)):Rdy c t:=⟨h.few,qkw h.st hz⟩
theorem Rdy.round{c:Ct}{s t:Ste}{m:List Int}(h:Rdy c s)(hz:qcy c s=some (t,m)):Rdy c t:=⟨h.few,qlo h.st hz⟩
structure Lin(N:Nat)(l:List Int):Prop where
 asc:Asc l
 b:∀x∈l,0<=x/\x<(N:Int)
theorem Lin.norm(N:Nat)(l:List Int):Lin N (norm N l):=⟨qos N l,fun _ hx=>(qmo.1 hx).2⟩
theorem Lin.self{N:Nat}{l:List Int}(h:Lin N l):Proofs.YtddeacahiilikaaGreat.norm N l=l:=zer h.asc h.b
theorem zyw(N:Nat)(l:List Int):(norm N l).length<=N:=qke _ _ _
theorem Lin.len{N:Nat}{l:List Int}(h:Lin N l):l.length<=N:=by
 have:=zyw N l
 rwa [h.self]at this
theorem Lin.mono{M N:Nat}{l:List Int}(h:Lin M l)(hMN:M<=N):Lin N l:=⟨h.asc,fun x hx=>by have:=h.b x hx;omega⟩
theorem Lin.nil(N:Nat):Lin N []:=⟨List.Pairwise.nil,by simp⟩
theorem qsn{c:Ct}{N:Nat}:∀{d:Nat} {s:Ste} {l:List Int} {t:Ste} {m:List Int},qev c N d s l=some (t,m)->Lin N m
 | 0,_,_,_,_,h=>by cases h
 | d+1,s,l,t,m,h=>by
  rw[qev]at h
  split at h
  .cases h;exact Lin.norm _ _
  .exact qsn h
theorem qtr{c:Ct}{s t:Ste}{m:List Int}(h:qdd c s=some (t,m)):Lin (qae c c.act.toNat) m:=qsn h
theorem q2b(c:Ct)(s:Ste):Lin (qlq c) (qny c s):=by
 refine⟨?_,fun x hx=>?_⟩
 .unfold qny qib Asc
  rw[List.pairwise_map]
  refine List.Pairwise.imp ?_ ((List.pairwise_lt_range (n:=c.act.toNat)).filter _)
  intro a b h
  omega
 .unfold qny at hx
  obtain⟨j,h1,_,rfl⟩:=(zaa _ _ _ _).1 hx
  unfold qlq
  omega
theorem qqr{c:Ct}(h:Mid c c.act.toNat):qlq c<=200:=by
 have:=h.hi
 have:=h.inp
 have:=h.sig
 unfold qlq qae
 omega
end Go.Proofs.YtddeacahiilikaaGreat
