/- Sorting in place: the whole. -/
import Derived.Test.YtddeacahiilikaaGreatRSo11
set_option linter.all false
namespace Go.Proofs.YtddeacahiilikaaGreat
open Go Go.Am Go.Proofs
open Go.Sort (SWO PermIn SortedIn Below)
set_option maxRecDepth 100000
theorem zsw:SWO ltI where
 irrefl x:=by simp[ltI,Go.Sort.ltInt]
 trans x y z:=by simp only[ltI,Go.Sort.ltInt,jW];omega
 ntrans x y z:=by simp only[ltI,Go.Sort.ltInt,decide_eq_false_iff_not];omega
def q3w:C:=.seq (.reg [⟨some 95,none,.mv (.t 0)⟩,
   ⟨some 96,none,.mv (.t 1)⟩,
   ⟨some 97,none,.mv (.t 2)⟩,
   ⟨some 98,none,.mv (.t 11)⟩,
   ⟨some 99,none,.call (.c (.fn 251 [] [])) [.t 95,.t 96,.t 97,.t 98]⟩,
   ⟨some 94,none,.mv (.t 99)⟩,
   ⟨some 100,none,.ext 0 (.t 94)⟩,
   ⟨some 101,none,.ext 1 (.t 94)⟩,
   ⟨some 14,none,.mv (.t 100)⟩,
   ⟨some 15,none,.mv (.t 101)⟩])
  (.seq (.reg [⟨some 102,none,.mv (.t 15)⟩,
   ⟨some 9,none,.mv (.t 102)⟩])
  (.seq (.reg [⟨some 103,none,.mv (.t 14)⟩,
   ⟨some 104,none,.mv (.t 1)⟩,
   ⟨some 105,none,.bin false .sub (.t 103) (.t 104)⟩,
   ⟨some 106,none,.mv (.t 2)⟩,
   ⟨some 107,none,.mv (.t 14)⟩,
   ⟨some 108,none,.bin false .sub (.t 106) (.t 107)⟩,
   ⟨some 16,none,.mv (.t 105)⟩,
   ⟨some 17,none,.mv (.t 108)⟩])
  (.seq (.reg [⟨some 109,none,.mv (.t 10)⟩,
   ⟨some 110,none,.bin false .quo (.t 109) (.c (.int .i64 8))⟩,
   ⟨some 18,none,.mv (.t 110)⟩])
  (.seq (.reg [⟨some 111,none,.mv (.t 16)⟩,
   ⟨some 112,none,.mv (.t 17)⟩,
   ⟨some 113,none,.bin false .lss (.t 111) (.t 112)⟩])
  (.cond (.t 113) (.seq (.reg [⟨some 114,none,.mv (.t 16)⟩,
    ⟨some 115,none,.mv (.t 18)⟩,
    ⟨some 116,none,.bin false .geq (.t 114) (.t 115)⟩,
    ⟨some 8,none,.mv (.t 116)⟩])
   (.seq (.reg [⟨some 117,none,.mv (.t 0)⟩,
    ⟨some 118,none,.mv (.t 1)⟩,
    ⟨some 119,none,.mv (.t 14)⟩,
    ⟨some 120,none,.mv (.t 3)⟩,
    ⟨some 121,none,.call (.c (.fn 209 [] [])) [.t 117,.t 118,.t 119,.t 120]⟩])
   (.reg [⟨some 122,none,.mv (.t 14)⟩,
    ⟨some 123,none,.bin false .add (.t 122) (.c (.int .i64 1))⟩,
    ⟨some 1,none,.mv (.t 123)⟩])))
   (.seq (.reg [⟨some 124,none,.mv (.t 17)⟩,
    ⟨some 125,none,.mv (.t 18)⟩,
    ⟨some 126,none,.bin false .geq (.t 124) (.t 125)⟩,
    ⟨some 8,none,.mv (.t 126)⟩])
   (.seq (.reg [⟨some 127,none,.mv (.t 0)⟩,
    ⟨some 128,none,.mv (.t 14)⟩,
    ⟨some 129,none,.bin false .add (.t 128) (.c (.int .i64 1))⟩,
    ⟨some 130,none,.mv (.t 2)⟩,
    ⟨some 131,none,.mv (.t 3)⟩,
    ⟨some 132,none,.call (.c (.fn 209 [] [])) [.t 127,.t 129,.t 130,.t 131]⟩])
   (.reg [⟨some 133,none,.mv (.t 14)⟩,
    ⟨some 2,none,.mv (.t 133)⟩]))))))))
def qzr:C:=.seq (.seq (.draw [⟨some 73,none,.mv (.t 1)⟩,
   ⟨some 74,none,.bin false .gtr (.t 73) (.c (.int .i64 0))⟩,
   ⟨some 75,none,.mv (.t 74)⟩,
   ⟨some 76,some (75,true),.mv (.t 0)⟩,
   ⟨some 77,some (75,true),.mv (.t 1)⟩,
   ⟨some 78,some (75,true),.bin false .sub (.t 77) (.c (.int .i64 1))⟩,
   ⟨some 79,some (75,true),.iaddrL 1 (.t 76) (.t 78)⟩,
   ⟨some 80,some (75,true),.load false 1 (.t 79)⟩,
   ⟨some 81,some (75,true),.mv (.t 0)⟩,
   ⟨some 82,some (75,true),.mv (.t 11)⟩,
   ⟨some 83,some (75,true),.iaddrL 1 (.t 81) (.t 82)⟩,
   ⟨some 84,some (75,true),.load false 1 (.t 83)⟩,
   ⟨some 85,some (75,true),.call (.c (.fn 249 [] [])) [.t 80,.t 84]⟩,
   ⟨some 86,some (75,true),.un .not (.t 85)⟩,
   ⟨some 87,none,.pick (.t 75) (.t 86) (.c (.bool false))⟩] [])
  (.cond (.t 87) (.seq (.reg [⟨some 88,none,.mv (.t 0)⟩,
    ⟨some 89,none,.mv (.t 1)⟩,
    ⟨some 90,none,.mv (.t 2)⟩,
    ⟨some 91,none,.mv (.t 11)⟩,
    ⟨some 92,none,.call (.c (.fn 250 [] [])) [.t 88,.t 89,.t 90,.t 91]⟩,
    ⟨some 13,none,.mv (.t 92)⟩])
   (.seq (.reg [⟨some 93,none,.mv (.t 13)⟩,
    ⟨some 1,none,.mv (.t 93)⟩])
   (.exit 1)))
   (.skip))) q3w
def qvb:C:=.seq (.seq (.reg [⟨some 61,none,.mv (.t 8)⟩,
   ⟨some 62,none,.mv (.t 61)⟩,
   ⟨some 63,some (62,true),.mv (.t 9)⟩,
   ⟨some 64,none,.pick (.t 62) (.t 63) (.c (.bool false))⟩,
   ⟨some 65,none,.mv (.t 64)⟩,
   ⟨some 66,some (65,true),.mv (.t 12)⟩,
   ⟨some 67,some (65,true),.bin false .eql (.t 66) (.c (.int .i64 1))⟩,
   ⟨some 68,none,.pick (.t 65) (.t 67) (.c (.bool false))⟩])
  (.cond (.t 68) (.seq (.reg [⟨some 69,none,.mv (.t 0)⟩,
    ⟨some 70,none,.mv (.t 1)⟩,
    ⟨some 71,none,.mv (.t 2)⟩,
    ⟨some 72,none,.call (.c (.fn 248 [] [])) [.t 69,.t 70,.t 71]⟩])
   (.cond (.t 72) (.ret)
    (.skip)))
   (.skip))) qzr
def q5w:C:=.seq (.seq (.reg [⟨some 49,none,.mv (.t 12)⟩,
   ⟨some 50,none,.bin false .eql (.t 49) (.c (.int .i64 2))⟩])
  (.cond (.t 50) (.seq (.reg [⟨some 51,none,.mv (.t 0)⟩,
    ⟨some 52,none,.mv (.t 1)⟩,
    ⟨some 53,none,.mv (.t 2)⟩,
    ⟨some 54,none,.call (.c (.fn 247 [] [])) [.t 51,.t 52,.t 53]⟩])
   (.seq (.reg [⟨some 55,none,.mv (.t 2)⟩,
    ⟨some 56,none,.bin false .sub (.t 55) (.c (.int .i64 1))⟩,
    ⟨some 57,none,.mv (.t 11)⟩,
    ⟨some 58,none,.mv (.t 1)⟩,
    ⟨some 59,none,.bin false .sub (.t 57) (.t 58)⟩,
    ⟨some 60,none,.bin false .sub (.t 56) (.t 59)⟩,
    ⟨some 11,none,.mv (.t 60)⟩])
   (.reg [⟨some 12,none,.mv (.c (.int .i64 1))⟩])))
   (.skip))) qvb
def q5v:C:=.seq (.reg [⟨some 43,none,.mv (.t 0)⟩,
   ⟨some 44,none,.mv (.t 1)⟩,
   ⟨some 45,none,.mv (.t 2)⟩,
   ⟨some 46,none,.call (.c (.fn 246 [] [])) [.t 43,.t 44,.t 45]⟩,
   ⟨some 42,none,.mv (.t 46)⟩,
   ⟨some 47,none,.ext 0 (.t 42)⟩,
   ⟨some 48,none,.ext 1 (.t 42)⟩,
   ⟨some 11,none,.mv (.t 47)⟩,
   ⟨some 12,none,.mv (.t 48)⟩]) q5w
def q3v:C:=.seq (.seq (.reg [⟨some 34,none,.mv (.t 8)⟩,
   ⟨some 35,none,.un .not (.t 34)⟩])
  (.cond (.t 35) (.seq (.reg [⟨some 36,none,.mv (.t 0)⟩,
    ⟨some 37,none,.mv (.t 1)⟩,
    ⟨some 38,none,.mv (.t 2)⟩,
    ⟨some 39,none,.call (.c (.fn 245 [] [])) [.t 36,.t 37,.t 38]⟩])
   (.reg [⟨some 40,none,.mv (.t 3)⟩,
    ⟨some 41,none,.bin false .sub (.t 40) (.c (.int .i64 1))⟩,
    ⟨some 3,none,.mv (.t 41)⟩]))
   (.skip))) q5v
theorem L73_split:L209_0=.block 1 (.seq (.reg [⟨some 19,none,.mv (.t 2)⟩,
   ⟨some 20,none,.mv (.t 1)⟩,
   ⟨some 21,none,.bin false .sub (.t 19) (.t 20)⟩,
   ⟨some 10,none,.mv (.t 21)⟩]) (.seq (.seq (.reg [⟨some 22,none,.mv (.t 10)⟩,
   ⟨some 23,none,.bin false .leq (.t 22) (.c (.int .i64 12))⟩])
  (.cond (.t 23) (.seq (.reg [⟨some 24,none,.mv (.t 0)⟩,
    ⟨some 25,none,.mv (.t 1)⟩,
    ⟨some 26,none,.mv (.t 2)⟩,
    ⟨some 27,none,.call (.c (.fn 243 [] [])) [.t 24,.t 25,.t 26]⟩])
   (.ret))
   (.skip))) (.seq (.seq (.reg [⟨some 28,none,.mv (.t 3)⟩,
   ⟨some 29,none,.bin false .eql (.t 28) (.c (.int .i64 0))⟩])
  (.cond (.t 29) (.seq (.reg [⟨some 30,none,.mv (.t 0)⟩,
    ⟨some 31,none,.mv (.t 1)⟩,
    ⟨some 32,none,.mv (.t 2)⟩,
    ⟨some 33,none,.call (.c (.fn 244 [] [])) [.t 30,.t 31,.t 32]⟩])
   (.ret))
   (.skip))) q3v))):=rfl
def T73(i g n a b lim:Nat)(wb wp:Bool):Tm:=[some (.sl i g 1 0 n),some (num a),some (num b),some (num lim),none,none,none,none,some (.bool wb),some (.bool wp)]++List.replicate 124 none
def zbg(i g n a b lim:Nat)(wb wp:Bool):Tm:=[some (.sl i g 1 0 n),some (num a),some (num b),some (num lim),none,none,none,none,some (.bool wb),some (.bool wp),some (num (b-a:Nat))]++List.replicate 123 none
def qsz(i g n a b lim:Nat)(wb wp:Bool)(pv:Nat)(ht:Int):Tm:=[some (.sl i g 1 0 n),some (num a),some (num b),some (num lim),none,none,none,none,some (.bool wb),some (.bool wp),some (num (b-a:Nat)),some (num pv),some (num ht)]++List.replicate 121 none
inductive Res73 (h:H) (i g n a b:Nat) (d0:Array Int) (r:R):Prop where
 | done (d':Array Int) (hp:PermIn a b d0 d') (hs:SortedIn ltI a b d') (he:qaj .ret (List.replicate 134 none) (put h i g d') r)
 | more (a' b' lim:Nat) (wb wp:Bool) (d':Array Int) (hx:r.x=.normal\/r.x=.exit 1) (hd:d'.size=n) (hab:a'<=b') (hb:b'<=n) (hlt:b'-a'<b-a) (hl:lim<=64) (hB:Below ltI a' b' d')
   (hA:At (T73 i g n a' b' lim wb wp) (put h i g d') r.st) (hf:∀D,PermIn a' b' d' D->SortedIn ltI a' b' D->PermIn a b d0 D/\SortedIn ltI a b D)
def qvc(h:H)(i g n m:Nat):Prop:=∀(a b lim:Nat) (d:Array Int),b-a<m->d.size=n->a<=b->b<=n->lim<=64->Below ltI a b d->∃d',PermIn a b d d'/\SortedIn ltI a b d'/\ev pg (.call (.fn 209 [] []) [.sl i g 1 0 n,num a,num b,num lim] (put h i g d))=some { v:=.tup [],st:=⟨[],put h i g d'⟩ }
structure Ctx73(h:H)(i g n a b:Nat)(d0:Array Int):Prop where
 hi:i<h.length
 hc:qdb h
 hn:n<65536
 hb:b<=n
 h12:12<b-a
 ih:qvc h i g n (b-a)
theorem q5i{a b:Nat}{d d' d'':Array Int}(h1:PermIn a b d d')(h2:PermIn a b d' d''):PermIn a b d d'':=Go.Sort.permIn_trans _ _ _ a b h1 h2
theorem zzw{h:H}{i g n a b:Nat}{d0:Array Int}(C:Ctx73 h i g n a b d0)(d:Array Int)(hd:d.size=n)(lim:Nat)(hl:lim<=64)(wb wp:Bool)(pv:Nat)(ht:Int)(hp1:a<=pv)(hp2:pv<b)(hP:PermIn a b d0 d)(hB:Below ltI a b d) :
  ∀st,At (qsz i g n a b lim wb wp pv ht) (put h i g d) st->∃r,ev pg (.code q3w st)=some r/\Res73 h i g n a b d0 r:=by
 intro st h0
 obtain⟨f,hf,rfl⟩:=h0.eq
 have hn:=C.hn
 have hb:=C.hb
 have h12:=C.h12
 have m1:=C.hi
 have e:=ev251 C.hi C.hc g d a b pv (by omega) (by omega) (by omega) (by omega)
 rw[hd]at e
 cases hx:Go.Sort.partition ltI d a b pv with
 | mk mid t =>
 obtain⟨ap,d4⟩:=t
 rw[hx]at e
 obtain⟨k1,k2,k3,k4,k5,k6,k7⟩:=Go.Sort.round_part zsw (Go.Sort.partition_holds ltI) hp1 hp2 (by omega) hB hx
 simp only at e
 have w1:=qab (n:=(mid:Int)-a) (by omega) (by omega)
 have w2:=qab (n:=(b:Int)-mid) (by omega) (by omega)
 have w3:=qab (n:=(mid:Int)+1) (by omega) (by omega)
 have hq:Int.tdiv ((b-a:Nat):Int) 8=(((b-a) / 8:Nat):Int):=by
  rw[show(8:Int)=((8:Nat):Int)by rfl,<-Int.ofNat_tdiv]
 have w4:=qab (n:=(((b-a) / 8:Nat):Int)) (by omega) (by omega)
 unfold qsz
 generalize hL:b-a=L at *
 generalize hLq:L / 8=q at *
 by_cases c:mid-a<b-mid
 .have c':(mid:Int)-a<(b:Int)-mid:=by omega
  obtain⟨d5,p5,s5,e5⟩:=C.ih a mid lim d4 (by omega) (by omega) k1 (by omega) hl k4
  obtain⟨j1,j2⟩:=k6 d5 p5 s5
  have z3:((mid+1:Nat):Int)=(mid:Int)+1:=by omega
  simp[-qaq,-qbc,q3w,e,w1,w2,w3,w4,hq,c',e5,m1,hf.ne]
  refine .more (mid+1) b lim (decide ((q:Int)<=(mid:Int)-a)) ap d5 (.inl rfl) (by rw[p5.1,k3];exact hd) (by omega) hb (by omega) hl j1 ?_ (fun D h1 h2=>?_)
  .simp[T73,hf.ne]
  .obtain⟨q1,q2⟩:=j2 D h1 h2
   exact⟨q5i hP q1,q2⟩
 .have c':¬(mid:Int)-a<(b:Int)-mid:=by omega
  obtain⟨d5,p5,s5,e5⟩:=C.ih (mid+1) b lim d4 (by omega) (by omega) (by omega) (by omega) hl k5
  obtain⟨j1,j2⟩:=k7 d5 p5 s5
  rw[show((mid+1:Nat):Int)=(mid:Int)+1 by omega]at e5
  simp[-qaq,-qbc,q3w,e,w1,w2,w3,w4,hq,c',e5,m1,hf.ne]
  refine .more a mid lim (decide ((q:Int)<=(b:Int)-mid)) ap d5 (.inl rfl) (by rw[p5.1,k3];exact hd) k1 (by omega) (by omega) hl j1 ?_ (fun D h1 h2=>?_)
  .simp[T73,hf.ne]
  .obtain⟨q1,q2⟩:=j2 D h1 h2
   exact⟨q5i hP q1,q2⟩
end Go.Proofs.YtddeacahiilikaaGreat
