/- Names: which bytes they have, by the reference and by the program. -/
import Derived.Test.YtbepbclaoohngaaGreatVCt2
import Derived.Laws.RangeAny
import Derived.Laws.RangeString
set_option linter.all false
namespace Go.Proofs.YtbepbclaoohngaaGreat
open Go Go.Am Go.Proofs
set_option maxRecDepth 100000
def qbx(n:Nat):Bool:=decide (97<=n)&&decide (n<=122)
def qdo(n:Nat):Bool:=qbx n||(decide (65<=n)&&decide (n<=90))||(decide (48<=n)&&decide (n<=57))||n==95
theorem zfb(n:Nat):(n<48)\/(48<=n/\n<=57)\/(58<=n/\n<=64)\/(65<=n/\n<=90)\/(n=95)\/((91<=n/\n<=94)\/n=96)\/(97<=n/\n<=122)\/(123<=n):=by omega
theorem ev252(n:Nat):ev pg (.call (.fn 252 [] []) [.int .u8 n] [])=some { v:=.bool (qdo n),st:=⟨[],[]⟩ }:=by
 rw[qaa,pg252]
 rcases zfb n with hc | hc | hc | hc | hc | hc | hc | hc
 .have hw:qdo n=false:=by simp[qdo,qbx];omega
  have f0:¬97<=n:=by omega
  have g0:¬(97<=(n:Int)):=by omega
  have f1:¬65<=n:=by omega
  have g1:¬(65<=(n:Int)):=by omega
  have f2:¬48<=n:=by omega
  have g2:¬(48<=(n:Int)):=by omega
  have f3:n≠95:=by omega
  have g3:(n:Int)≠95:=by omega
  have f4:n<48:=by omega
  have g4:(n:Int)<48:=by omega
  have f95:((n:Int)==95)=false:=by simp;omega
  simp[ir252,hw,g0,g1,g2,f95]
 .have hw:qdo n=true:=by simp[qdo,qbx];omega
  have f0:¬97<=n:=by omega
  have g0:¬(97<=(n:Int)):=by omega
  have f1:¬65<=n:=by omega
  have g1:¬(65<=(n:Int)):=by omega
  have f2:48<=n:=by omega
  have g2:48<=(n:Int):=by omega
  have f3:n<=57:=by omega
  have g3:(n:Int)<=57:=by omega
  have f4:n≠95:=by omega
  have g4:(n:Int)≠95:=by omega
  have f5:¬n<48:=by omega
  have g5:¬((n:Int)<48):=by omega
  have f6:¬57<n:=by omega
  have g6:¬(57<(n:Int)):=by omega
  have f95:((n:Int)==95)=false:=by simp;omega
  simp[ir252,hw,g0,g1,g2,g3]
 .have hw:qdo n=false:=by simp[qdo,qbx];omega
  have f0:¬97<=n:=by omega
  have g0:¬(97<=(n:Int)):=by omega
  have f1:¬65<=n:=by omega
  have g1:¬(65<=(n:Int)):=by omega
  have f2:48<=n:=by omega
  have g2:48<=(n:Int):=by omega
  have f3:¬n<=57:=by omega
  have g3:¬((n:Int)<=57):=by omega
  have f4:n≠95:=by omega
  have g4:(n:Int)≠95:=by omega
  have f5:¬n<48:=by omega
  have g5:¬((n:Int)<48):=by omega
  have f6:57<n:=by omega
  have g6:57<(n:Int):=by omega
  have f95:((n:Int)==95)=false:=by simp;omega
  simp[ir252,hw,g0,g1,g2,g3,f95]
 .have hw:qdo n=true:=by simp[qdo,qbx];omega
  have f0:¬97<=n:=by omega
  have g0:¬(97<=(n:Int)):=by omega
  have f1:65<=n:=by omega
  have g1:65<=(n:Int):=by omega
  have f2:n<=90:=by omega
  have g2:(n:Int)<=90:=by omega
  simp[ir252,hw,g0,g1,g2]
 .have hw:qdo n=true:=by simp[qdo,qbx];omega
  have f0:¬97<=n:=by omega
  have g0:¬(97<=(n:Int)):=by omega
  have f1:65<=n:=by omega
  have g1:65<=(n:Int):=by omega
  have f2:¬n<=90:=by omega
  have g2:¬((n:Int)<=90):=by omega
  have f3:48<=n:=by omega
  have g3:48<=(n:Int):=by omega
  have f4:¬n<=57:=by omega
  have g4:¬((n:Int)<=57):=by omega
  subst hc
  simp[ir252,hw]
 .have hw:qdo n=false:=by simp[qdo,qbx];omega
  have f0:¬97<=n:=by omega
  have g0:¬(97<=(n:Int)):=by omega
  have f1:65<=n:=by omega
  have g1:65<=(n:Int):=by omega
  have f2:¬n<=90:=by omega
  have g2:¬((n:Int)<=90):=by omega
  have f3:48<=n:=by omega
  have g3:48<=(n:Int):=by omega
  have f4:¬n<=57:=by omega
  have g4:¬((n:Int)<=57):=by omega
  have f5:n≠95:=by omega
  have g5:(n:Int)≠95:=by omega
  have f6:¬n<48:=by omega
  have g6:¬((n:Int)<48):=by omega
  have f7:57<n:=by omega
  have g7:57<(n:Int):=by omega
  have f95:((n:Int)==95)=false:=by simp;omega
  simp[ir252,hw,g0,g1,g2,g3,g4,f95]
 .have hw:qdo n=true:=by simp[qdo,qbx];omega
  have f0:97<=n:=by omega
  have g0:97<=(n:Int):=by omega
  have f1:n<=122:=by omega
  have g1:(n:Int)<=122:=by omega
  have f2:65<=n:=by omega
  have g2:65<=(n:Int):=by omega
  have f3:¬n<=90:=by omega
  have g3:¬((n:Int)<=90):=by omega
  simp[ir252,hw,g0,g1]
 .have hw:qdo n=false:=by simp[qdo,qbx];omega
  have f0:97<=n:=by omega
  have g0:97<=(n:Int):=by omega
  have f1:¬n<=122:=by omega
  have g1:¬((n:Int)<=122):=by omega
  have f2:65<=n:=by omega
  have g2:65<=(n:Int):=by omega
  have f3:¬n<=90:=by omega
  have g3:¬((n:Int)<=90):=by omega
  have f4:48<=n:=by omega
  have g4:48<=(n:Int):=by omega
  have f5:¬n<=57:=by omega
  have g5:¬((n:Int)<=57):=by omega
  have f6:n≠95:=by omega
  have g6:(n:Int)≠95:=by omega
  have f7:¬n<48:=by omega
  have g7:¬((n:Int)<48):=by omega
  have f8:57<n:=by omega
  have g8:57<(n:Int):=by omega
  have f95:((n:Int)==95)=false:=by simp;omega
  simp[ir252,hw,g0,g1,g2,g3,g4,g5,f95]
def qdv(a:Bool):Txt->Bool
 | []=>true
 | b :: r=>if(a && !qbx b.toNat) || !qdo b.toNat then false else qdv false r
theorem zjr{a:Bool}{l:Txt}{k:Nat}(hk:k<l.length):qdv a (l.drop k)=if(a && !qbx l[k].toNat) || !qdo l[k].toNat then false else qdv false (l.drop (k+1)):=by
 rw[jL hk];rfl
def qxu(s:Txt):Bool:=qdv true s&&s != []
def zra(s:Txt)(k:Nat)(st:St):Prop:=st.h=[]/\st.s.length=66/\qai st.s 0=.str s/\qai st.s 3=num k/\qdv true s=qdv (decide (k=0)) (s.drop k)
def q6g(s:Txt)(r:R):Prop:=r.st.s.length=66/\((r.x=.exit 0/\qai r.st.s 0=.str s/\qdv true s=true)\/(r.x=.ret/\qai r.st.s 2=.bool false/\qdv true s=false))
theorem ztm(t:Txt)(ht:t.length<2 ^ 62)(st:St)(h0:zra t 0 st):∃r,ev pg (.code (.going 0 L196_0) st)=some r/\q6g t r:=by
 refine qau (zra t) t.length (q6g t) h0 ?_ ?_
 .rintro k ⟨s,h⟩ hk ⟨rfl,hl,e0,e3,he⟩
  simp only at hl e0 e3
  have hk':(k:Int)<t.length:=by omega
  have wk:=qbb (k:=k) (by omega)
  have hg:t[k]?=some t[k]:=jA hk
  rw[zjr hk]at he
  have hk1:decide (k+1=0)=false:=by simp
  rw[qad hl]
  generalize hb:t[k]=b at *
  obtain⟨n,hn⟩:∃n,n=b.toNat:=⟨_,rfl⟩
  rw[<-hn]at he
  rcases zfb n with hc | hc | hc | hc | hc | hc | hc | hc
  .have hw:qdo n=false:=by simp[qdo,qbx];omega
   have hsm:qbx n=false:=by simp[qbx];omega
   have g0:¬(97<=(b.toNat:Int)):=by omega
   have f0:¬97<=b.toNat:=by omega
   have g1:¬(65<=(b.toNat:Int)):=by omega
   have f1:¬65<=b.toNat:=by omega
   have g2:¬(48<=(b.toNat:Int)):=by omega
   have f2:¬48<=b.toNat:=by omega
   have g3:(b.toNat:Int)≠95:=by omega
   have f3:b.toNat≠95:=by omega
   have g4:(b.toNat:Int)<48:=by omega
   have f4:b.toNat<48:=by omega
   have f95:((b.toNat:Int) != 95)=true:=by simp;omega
   rw[hw,hsm]at he
   by_cases k0:k=0
   .have k0':((k:Int)==0)=true:=by simp;exact k0
    rw[decide_eq_true k0]at he
    have he':qdv true t=false:=by simpa using he
    simp[L196_0,q6g,List.range,List.range.loop,e0,e3,hk,hk',hb,k0',he',g0,g1]
   .have k0':((k:Int)==0)=false:=by simp;exact k0
    rw[decide_eq_false k0]at he
    have he':qdv true t=false:=by simpa using he
    simp[L196_0,q6g,List.range,List.range.loop,e0,e3,hk,hk',hb,k0',he',g0,g1,g4,f95]
  .have hw:qdo n=true:=by simp[qdo,qbx];omega
   have hsm:qbx n=false:=by simp[qbx];omega
   have g0:¬(97<=(b.toNat:Int)):=by omega
   have f0:¬97<=b.toNat:=by omega
   have g1:¬(65<=(b.toNat:Int)):=by omega
   have f1:¬65<=b.toNat:=by omega
   have g2:48<=(b.toNat:Int):=by omega
   have f2:48<=b.toNat:=by omega
   have g3:(b.toNat:Int)<=57:=by omega
   have f3:b.toNat<=57:=by omega
   have g4:(b.toNat:Int)≠95:=by omega
   have f4:b.toNat≠95:=by omega
   have g5:¬((b.toNat:Int)<48):=by omega
   have f5:¬b.toNat<48:=by omega
   have g6:¬(57<(b.toNat:Int)):=by omega
   have f6:¬57<b.toNat:=by omega
   have f95:((b.toNat:Int) != 95)=true:=by simp;omega
   rw[hw,hsm]at he
   by_cases k0:k=0
   .have k0':((k:Int)==0)=true:=by simp;exact k0
    rw[decide_eq_true k0]at he
    have he':qdv true t=false:=by simpa using he
    simp[L196_0,q6g,List.range,List.range.loop,e0,e3,hk,hk',hb,k0',he',g0,g1]
   .have k0':((k:Int)==0)=false:=by simp;exact k0
    rw[decide_eq_false k0]at he
    have he':qdv true t=qdv false (t.drop (k+1)):=by simpa using he
    simp[L196_0,zra,List.range,List.range.loop,e0,e3,hk,hk',hb,k0',wk,he',g0,g1,g5,g6,f95]
  .have hw:qdo n=false:=by simp[qdo,qbx];omega
   have hsm:qbx n=false:=by simp[qbx];omega
   have g0:¬(97<=(b.toNat:Int)):=by omega
   have f0:¬97<=b.toNat:=by omega
   have g1:¬(65<=(b.toNat:Int)):=by omega
   have f1:¬65<=b.toNat:=by omega
   have g2:48<=(b.toNat:Int):=by omega
   have f2:48<=b.toNat:=by omega
   have g3:¬((b.toNat:Int)<=57):=by omega
   have f3:¬b.toNat<=57:=by omega
   have g4:(b.toNat:Int)≠95:=by omega
   have f4:b.toNat≠95:=by omega
   have g5:¬((b.toNat:Int)<48):=by omega
   have f5:¬b.toNat<48:=by omega
   have g6:57<(b.toNat:Int):=by omega
   have f6:57<b.toNat:=by omega
   have f95:((b.toNat:Int) != 95)=true:=by simp;omega
   rw[hw,hsm]at he
   by_cases k0:k=0
   .have k0':((k:Int)==0)=true:=by simp;exact k0
    rw[decide_eq_true k0]at he
    have he':qdv true t=false:=by simpa using he
    simp[L196_0,q6g,List.range,List.range.loop,e0,e3,hk,hk',hb,k0',he',g0,g1]
   .have k0':((k:Int)==0)=false:=by simp;exact k0
    rw[decide_eq_false k0]at he
    have he':qdv true t=false:=by simpa using he
    simp[L196_0,q6g,List.range,List.range.loop,e0,e3,hk,hk',hb,k0',he',g0,g1,g5,g6,f95]
  .have hw:qdo n=true:=by simp[qdo,qbx];omega
   have hsm:qbx n=false:=by simp[qbx];omega
   have g0:¬(97<=(b.toNat:Int)):=by omega
   have f0:¬97<=b.toNat:=by omega
   have g1:65<=(b.toNat:Int):=by omega
   have f1:65<=b.toNat:=by omega
   have g2:(b.toNat:Int)<=90:=by omega
   have f2:b.toNat<=90:=by omega
   rw[hw,hsm]at he
   by_cases k0:k=0
   .have k0':((k:Int)==0)=true:=by simp;exact k0
    rw[decide_eq_true k0]at he
    have he':qdv true t=false:=by simpa using he
    simp[L196_0,q6g,List.range,List.range.loop,e0,e3,hk,hk',hb,k0',he',g0,g1,g2]
   .have k0':((k:Int)==0)=false:=by simp;exact k0
    rw[decide_eq_false k0]at he
    have he':qdv true t=qdv false (t.drop (k+1)):=by simpa using he
    simp[L196_0,zra,List.range,List.range.loop,e0,e3,hk,hk',hb,k0',wk,he',g0,g1,g2]
  .have hw:qdo n=true:=by simp[qdo,qbx];omega
   have hsm:qbx n=false:=by simp[qbx];omega
   have g0:¬(97<=(b.toNat:Int)):=by omega
   have f0:¬97<=b.toNat:=by omega
   have g1:65<=(b.toNat:Int):=by omega
   have f1:65<=b.toNat:=by omega
   have g2:¬((b.toNat:Int)<=90):=by omega
   have f2:¬b.toNat<=90:=by omega
   have g3:48<=(b.toNat:Int):=by omega
   have f3:48<=b.toNat:=by omega
   have g4:¬((b.toNat:Int)<=57):=by omega
   have f4:¬b.toNat<=57:=by omega
   have f95:((b.toNat:Int) != 95)=false:=by simp;omega
   rw[hw,hsm]at he
   by_cases k0:k=0
   .have k0':((k:Int)==0)=true:=by simp;exact k0
    rw[decide_eq_true k0]at he
    have he':qdv true t=false:=by simpa using he
    simp[L196_0,q6g,List.range,List.range.loop,e0,e3,hk,hk',hb,k0',he',g0,g1,g2]
   .have k0':((k:Int)==0)=false:=by simp;exact k0
    rw[decide_eq_false k0]at he
    have he':qdv true t=qdv false (t.drop (k+1)):=by simpa using he
    simp[L196_0,zra,List.range,List.range.loop,e0,e3,hk,hk',hb,k0',wk,he',g0,g1,g2,f95]
  .have hw:qdo n=false:=by simp[qdo,qbx];omega
   have hsm:qbx n=false:=by simp[qbx];omega
   have g0:¬(97<=(b.toNat:Int)):=by omega
   have f0:¬97<=b.toNat:=by omega
   have g1:65<=(b.toNat:Int):=by omega
   have f1:65<=b.toNat:=by omega
   have g2:¬((b.toNat:Int)<=90):=by omega
   have f2:¬b.toNat<=90:=by omega
   have g3:48<=(b.toNat:Int):=by omega
   have f3:48<=b.toNat:=by omega
   have g4:¬((b.toNat:Int)<=57):=by omega
   have f4:¬b.toNat<=57:=by omega
   have g5:(b.toNat:Int)≠95:=by omega
   have f5:b.toNat≠95:=by omega
   have g6:¬((b.toNat:Int)<48):=by omega
   have f6:¬b.toNat<48:=by omega
   have g7:57<(b.toNat:Int):=by omega
   have f7:57<b.toNat:=by omega
   have f95:((b.toNat:Int) != 95)=true:=by simp;omega
   rw[hw,hsm]at he
   by_cases k0:k=0
   .have k0':((k:Int)==0)=true:=by simp;exact k0
    rw[decide_eq_true k0]at he
    have he':qdv true t=false:=by simpa using he
    simp[L196_0,q6g,List.range,List.range.loop,e0,e3,hk,hk',hb,k0',he',g0,g1,g2]
   .have k0':((k:Int)==0)=false:=by simp;exact k0
    rw[decide_eq_false k0]at he
    have he':qdv true t=false:=by simpa using he
    simp[L196_0,q6g,List.range,List.range.loop,e0,e3,hk,hk',hb,k0',he',g0,g1,g2,g6,g7,f95]
  .have hw:qdo n=true:=by simp[qdo,qbx];omega
   have hsm:qbx n=true:=by simp[qbx];omega
   have g0:97<=(b.toNat:Int):=by omega
   have f0:97<=b.toNat:=by omega
   have g1:(b.toNat:Int)<=122:=by omega
   have f1:b.toNat<=122:=by omega
   have g2:65<=(b.toNat:Int):=by omega
   have f2:65<=b.toNat:=by omega
   have g3:¬((b.toNat:Int)<=90):=by omega
   have f3:¬b.toNat<=90:=by omega
   rw[hw,hsm]at he
   by_cases k0:k=0
   .have k0':((k:Int)==0)=true:=by simp;exact k0
    simp[L196_0,zra,List.range,List.range.loop,e0,e3,hk,hk',hb,k0',wk,g0,g1,g2,g3]
    simpa using he
   .have k0':((k:Int)==0)=false:=by simp;exact k0
    rw[decide_eq_false k0]at he
    have he':qdv true t=qdv false (t.drop (k+1)):=by simpa using he
    simp[L196_0,zra,List.range,List.range.loop,e0,e3,hk,hk',hb,k0',wk,he',g0,g1,g2,g3]
  .have hw:qdo n=false:=by simp[qdo,qbx];omega
   have hsm:qbx n=false:=by simp[qbx];omega
   have g0:97<=(b.toNat:Int):=by omega
   have f0:97<=b.toNat:=by omega
   have g1:¬((b.toNat:Int)<=122):=by omega
   have f1:¬b.toNat<=122:=by omega
   have g2:65<=(b.toNat:Int):=by omega
   have f2:65<=b.toNat:=by omega
   have g3:¬((b.toNat:Int)<=90):=by omega
   have f3:¬b.toNat<=90:=by omega
   have g4:48<=(b.toNat:Int):=by omega
   have f4:48<=b.toNat:=by omega
   have g5:¬((b.toNat:Int)<=57):=by omega
   have f5:¬b.toNat<=57:=by omega
   have g6:(b.toNat:Int)≠95:=by omega
   have f6:b.toNat≠95:=by omega
   have g7:¬((b.toNat:Int)<48):=by omega
   have f7:¬b.toNat<48:=by omega
   have g8:57<(b.toNat:Int):=by omega
   have f8:57<b.toNat:=by omega
   have f95:((b.toNat:Int) != 95)=true:=by simp;omega
   rw[hw,hsm]at he
   by_cases k0:k=0
   .have k0':((k:Int)==0)=true:=by simp;exact k0
    rw[decide_eq_true k0]at he
    have he':qdv true t=false:=by simpa using he
    simp[L196_0,q6g,List.range,List.range.loop,e0,e3,hk,hk',hb,k0',he',g0,g1,g2,g3]
   .have k0':((k:Int)==0)=false:=by simp;exact k0
    rw[decide_eq_false k0]at he
    have he':qdv true t=false:=by simpa using he
    simp[L196_0,q6g,List.range,List.range.loop,e0,e3,hk,hk',hb,k0',he',g0,g1,g2,g3,g7,g8,f95]
 .rintro⟨s,h⟩ ⟨rfl,hl,e0,e3,he⟩
  simp only[List.drop_length]at hl e0 e3 he
  have he':qdv true t=true:=he
  rw[qad hl]
  simp[L196_0,q6g,List.range,List.range.loop,e0,e3,he']
theorem ev196(t:Txt)(ht:t.length<2 ^ 62):ev pg (.call (.fn 196 [] []) [.str t] [])=some { v:=.bool (qxu t),st:=⟨[],[]⟩ }:=by
 rw[qaa,pg196]
 simp[ir196,qah]
 generalize hr:ev pg (.code (.going 0 L196_0) _)=o
 obtain⟨r,rfl,hl,hQ⟩:∃r,o=some r/\q6g t r:=by rw[<-hr];exact ztm t ht _ ⟨by simp,by simp,by simp,by simp,by simp⟩
 rcases hQ with⟨hx,h0,hE⟩ | ⟨hx,h2,hE⟩
 .by_cases hne:t=[]
  .subst hne
   simp[hx,hl,h0,qxu]
  .simp[hx,hl,h0,qxu,hE]
   cases t with
   | nil=>exact absurd rfl hne
   | cons a l=>rfl
 .simp[hx,h2,qxu,hE]
end Go.Proofs.YtbepbclaoohngaaGreat
