/- Names: which. -/
import Derived.Test.YtggbaapfbgjaeaaGreatDoorFCt2
import Derived.Laws.RangeAny
import Derived.Laws.RangeString
set_option linter.all false
namespace Go.Proofs.YtggbaapfbgjaeaaGreatDoor
open Go Go.Am Go.Proofs
set_option maxRecDepth 100000
def qbv(n:Nat):Bool:=decide (97<=n)&&decide (n<=122)
def qdn(n:Nat):Bool:=qbv n||(decide (65<=n)&&decide (n<=90))||(decide (48<=n)&&decide (n<=57))||n==95
theorem zgc(n:Nat):(n<48)\/(48<=n/\n<=57)\/(58<=n/\n<=64)\/(65<=n/\n<=90)\/(n=95)\/((91<=n/\n<=94)\/n=96)\/(97<=n/\n<=122)\/(123<=n):=by omega
theorem ev166(n:Nat):ev pg (.call (fnq 166) [.int .u8 n] [])=some (rvq (.bool (qdn n))):=by
 rw[qaa,pg166.1];rcases zgc n with hc | hc | hc | hc | hc | hc | hc | hc
 .have hw:qdn n=false:=by simp[qdn,qbv];omega
  have f0:¬97<=n:=by omega
  have g0:¬(97<=(n:Int)):=by omega
  have f1:¬65<=n:=by omega
  have g1:¬(65<=(n:Int)):=by omega
  have f2:¬48<=n:=by omega
  have g2:¬(48<=(n:Int)):=by omega
  have f3:n≠95:=by omega
  have g3:(n:Int)≠95:=by omega
  have f4:n<48:=by omega
  have g4:(n:Int)<48:=by omega
  have f95:((n:Int)==95)=false:=by simp;omega
  simp[ir166,hw,g0,g1,g2,f95]
 .have hw:qdn n=true:=by simp[qdn,qbv];omega
  have f0:¬97<=n:=by omega
  have g0:¬(97<=(n:Int)):=by omega
  have f1:¬65<=n:=by omega
  have g1:¬(65<=(n:Int)):=by omega
  have f2:48<=n:=by omega
  have g2:48<=(n:Int):=by omega
  have f3:n<=57:=by omega
  have g3:(n:Int)<=57:=by omega
  have f4:n≠95:=by omega
  have g4:(n:Int)≠95:=by omega
  have f5:¬n<48:=by omega
  have g5:¬((n:Int)<48):=by omega
  have f6:¬57<n:=by omega
  have g6:¬(57<(n:Int)):=by omega
  have f95:((n:Int)==95)=false:=by simp;omega
  simp[ir166,hw,g0,g1,g2,g3]
 .have hw:qdn n=false:=by simp[qdn,qbv];omega
  have f0:¬97<=n:=by omega
  have g0:¬(97<=(n:Int)):=by omega
  have f1:¬65<=n:=by omega
  have g1:¬(65<=(n:Int)):=by omega
  have f2:48<=n:=by omega
  have g2:48<=(n:Int):=by omega
  have f3:¬n<=57:=by omega
  have g3:¬((n:Int)<=57):=by omega
  have f4:n≠95:=by omega
  have g4:(n:Int)≠95:=by omega
  have f5:¬n<48:=by omega
  have g5:¬((n:Int)<48):=by omega
  have f6:57<n:=by omega
  have g6:57<(n:Int):=by omega
  have f95:((n:Int)==95)=false:=by simp;omega
  simp[ir166,hw,g0,g1,g2,g3,f95]
 .have hw:qdn n=true:=by simp[qdn,qbv];omega
  have f0:¬97<=n:=by omega
  have g0:¬(97<=(n:Int)):=by omega
  have f1:65<=n:=by omega
  have g1:65<=(n:Int):=by omega
  have f2:n<=90:=by omega
  have g2:(n:Int)<=90:=by omega
  simp[ir166,hw,g0,g1,g2]
 .have hw:qdn n=true:=by simp[qdn,qbv];omega
  have f0:¬97<=n:=by omega
  have g0:¬(97<=(n:Int)):=by omega
  have f1:65<=n:=by omega
  have g1:65<=(n:Int):=by omega
  have f2:¬n<=90:=by omega
  have g2:¬((n:Int)<=90):=by omega
  have f3:48<=n:=by omega
  have g3:48<=(n:Int):=by omega
  have f4:¬n<=57:=by omega
  have g4:¬((n:Int)<=57):=by omega
  subst hc;simp[ir166,hw]
 .have hw:qdn n=false:=by simp[qdn,qbv];omega
  have f0:¬97<=n:=by omega
  have g0:¬(97<=(n:Int)):=by omega
  have f1:65<=n:=by omega
  have g1:65<=(n:Int):=by omega
  have f2:¬n<=90:=by omega
  have g2:¬((n:Int)<=90):=by omega
  have f3:48<=n:=by omega
  have g3:48<=(n:Int):=by omega
  have f4:¬n<=57:=by omega
  have g4:¬((n:Int)<=57):=by omega
  have f5:n≠95:=by omega
  have g5:(n:Int)≠95:=by omega
  have f6:¬n<48:=by omega
  have g6:¬((n:Int)<48):=by omega
  have f7:57<n:=by omega
  have g7:57<(n:Int):=by omega
  have f95:((n:Int)==95)=false:=by simp;omega
  simp[ir166,hw,g0,g1,g2,g3,g4,f95]
 .have hw:qdn n=true:=by simp[qdn,qbv];omega
  have f0:97<=n:=by omega
  have g0:97<=(n:Int):=by omega
  have f1:n<=122:=by omega
  have g1:(n:Int)<=122:=by omega
  have f2:65<=n:=by omega
  have g2:65<=(n:Int):=by omega
  have f3:¬n<=90:=by omega
  have g3:¬((n:Int)<=90):=by omega
  simp[ir166,hw,g0,g1]
 .have hw:qdn n=false:=by simp[qdn,qbv];omega
  have f0:97<=n:=by omega
  have g0:97<=(n:Int):=by omega
  have f1:¬n<=122:=by omega
  have g1:¬((n:Int)<=122):=by omega
  have f2:65<=n:=by omega
  have g2:65<=(n:Int):=by omega
  have f3:¬n<=90:=by omega
  have g3:¬((n:Int)<=90):=by omega
  have f4:48<=n:=by omega
  have g4:48<=(n:Int):=by omega
  have f5:¬n<=57:=by omega
  have g5:¬((n:Int)<=57):=by omega
  have f6:n≠95:=by omega
  have g6:(n:Int)≠95:=by omega
  have f7:¬n<48:=by omega
  have g7:¬((n:Int)<48):=by omega
  have f8:57<n:=by omega
  have g8:57<(n:Int):=by omega
  have f95:((n:Int)==95)=false:=by simp;omega
  simp[ir166,hw,g0,g1,g2,g3,g4,g5,f95]
def qdu(a:Bool):Txt->Bool
 | []=>true
 | b :: r=>if(a && !qbv b.toNat) || !qdn b.toNat then false else qdu false r
theorem zkv{a:Bool}{l:Txt}{k:Nat}(hk:k<l.length):qdu a (l.drop k)=if(a && !qbv l[k].toNat) || !qdn l[k].toNat then false else qdu false (l.drop (k+1)):=by rw[jL hk];rfl
def qea(s:Txt):Bool:=qdu true s&&s != []
def zqw(s:Txt)(k:Nat)(st:St):Prop:=st.h=[]/\st.s.length=66/\qah st.s 0=.str s/\qah st.s 3=num k/\qdu true s=qdu (decide (k=0)) (s.drop k)
def q7f(s:Txt)(r:R):Prop:=r.st.s.length=66/\((r.x=.exit 0/\qah r.st.s 0=.str s/\qdu true s=true)\/(r.x=.ret/\qah r.st.s 2=.bool false/\qdu true s=false))
theorem zto(t:Txt)(ht:t.length<2 ^ 62)(st:St)(h0:zqw t 0 st):∃r,ev pg (.code (.going 0 L141_0) st)=some r/\q7f t r:=by
 refine qat (zqw t) t.length (q7f t) h0 ?_ ?_
 .rintro k ⟨s,h⟩ hk ⟨rfl,hl,e0,e3,he⟩;simp only at hl e0 e3;have hk':(k:Int)<t.length:=by omega
  have wk:=qbc k;have hg:t[k]?=some t[k]:=jA hk;rw[zkv hk]at he;have hk1:decide (k+1=0)=false:=by simp
  rw[qac hl];generalize hb:t[k]=b at *;obtain⟨n,hn⟩:∃n,n=b.toNat:=⟨_,rfl⟩
  rw[<-hn]at he;rcases zgc n with hc | hc | hc | hc | hc | hc | hc | hc
  .have hw:qdn n=false:=by simp[qdn,qbv];omega
   have hsm:qbv n=false:=by simp[qbv];omega
   have g0:¬(97<=(b.toNat:Int)):=by omega
   have f0:¬97<=b.toNat:=by omega
   have g1:¬(65<=(b.toNat:Int)):=by omega
   have f1:¬65<=b.toNat:=by omega
   have g2:¬(48<=(b.toNat:Int)):=by omega
   have f2:¬48<=b.toNat:=by omega
   have g3:(b.toNat:Int)≠95:=by omega
   have f3:b.toNat≠95:=by omega
   have g4:(b.toNat:Int)<48:=by omega
   have f4:b.toNat<48:=by omega
   have f95:((b.toNat:Int) != 95)=true:=by simp;omega
   rw[hw,hsm]at he;by_cases k0:k=0
   .have k0':((k:Int)==0)=true:=by simp;exact k0
    rw[decide_eq_true k0]at he;have he':qdu true t=false:=by simpa using he
    simp[L141_0,q7f,List.range,List.range.loop,e0,e3,hk,hk',hb,k0',he',g0,g1]
   .have k0':((k:Int)==0)=false:=by simp;exact k0
    rw[decide_eq_false k0]at he;have he':qdu true t=false:=by simpa using he
    simp[L141_0,q7f,List.range,List.range.loop,e0,e3,hk,hk',hb,k0',he',g0,g1,g4,f95]
  .have hw:qdn n=true:=by simp[qdn,qbv];omega
   have hsm:qbv n=false:=by simp[qbv];omega
   have g0:¬(97<=(b.toNat:Int)):=by omega
   have f0:¬97<=b.toNat:=by omega
   have g1:¬(65<=(b.toNat:Int)):=by omega
   have f1:¬65<=b.toNat:=by omega
   have g2:48<=(b.toNat:Int):=by omega
   have f2:48<=b.toNat:=by omega
   have g3:(b.toNat:Int)<=57:=by omega
   have f3:b.toNat<=57:=by omega
   have g4:(b.toNat:Int)≠95:=by omega
   have f4:b.toNat≠95:=by omega
   have g5:¬((b.toNat:Int)<48):=by omega
   have f5:¬b.toNat<48:=by omega
   have g6:¬(57<(b.toNat:Int)):=by omega
   have f6:¬57<b.toNat:=by omega
   have f95:((b.toNat:Int) != 95)=true:=by simp;omega
   rw[hw,hsm]at he;by_cases k0:k=0
   .have k0':((k:Int)==0)=true:=by simp;exact k0
    rw[decide_eq_true k0]at he;have he':qdu true t=false:=by simpa using he
    simp[L141_0,q7f,List.range,List.range.loop,e0,e3,hk,hk',hb,k0',he',g0,g1]
   .have k0':((k:Int)==0)=false:=by simp;exact k0
    rw[decide_eq_false k0]at he;have he':qdu true t=qdu false (t.drop (k+1)):=by simpa using he
    simp[L141_0,zqw,List.range,List.range.loop,e0,e3,hk,hk',hb,k0',wk,he',g0,g1,g5,g6,f95]
  .have hw:qdn n=false:=by simp[qdn,qbv];omega
   have hsm:qbv n=false:=by simp[qbv];omega
   have g0:¬(97<=(b.toNat:Int)):=by omega
   have f0:¬97<=b.toNat:=by omega
   have g1:¬(65<=(b.toNat:Int)):=by omega
   have f1:¬65<=b.toNat:=by omega
   have g2:48<=(b.toNat:Int):=by omega
   have f2:48<=b.toNat:=by omega
   have g3:¬((b.toNat:Int)<=57):=by omega
   have f3:¬b.toNat<=57:=by omega
   have g4:(b.toNat:Int)≠95:=by omega
   have f4:b.toNat≠95:=by omega
   have g5:¬((b.toNat:Int)<48):=by omega
   have f5:¬b.toNat<48:=by omega
   have g6:57<(b.toNat:Int):=by omega
   have f6:57<b.toNat:=by omega
   have f95:((b.toNat:Int) != 95)=true:=by simp;omega
   rw[hw,hsm]at he;by_cases k0:k=0
   .have k0':((k:Int)==0)=true:=by simp;exact k0
    rw[decide_eq_true k0]at he;have he':qdu true t=false:=by simpa using he
    simp[L141_0,q7f,List.range,List.range.loop,e0,e3,hk,hk',hb,k0',he',g0,g1]
   .have k0':((k:Int)==0)=false:=by simp;exact k0
    rw[decide_eq_false k0]at he;have he':qdu true t=false:=by simpa using he
    simp[L141_0,q7f,List.range,List.range.loop,e0,e3,hk,hk',hb,k0',he',g0,g1,g5,g6,f95]
  .have hw:qdn n=true:=by simp[qdn,qbv];omega
   have hsm:qbv n=false:=by simp[qbv];omega
   have g0:¬(97<=(b.toNat:Int)):=by omega
   have f0:¬97<=b.toNat:=by omega
   have g1:65<=(b.toNat:Int):=by omega
   have f1:65<=b.toNat:=by omega
   have g2:(b.toNat:Int)<=90:=by omega
   have f2:b.toNat<=90:=by omega
   rw[hw,hsm]at he;by_cases k0:k=0
   .have k0':((k:Int)==0)=true:=by simp;exact k0
    rw[decide_eq_true k0]at he;have he':qdu true t=false:=by simpa using he
    simp[L141_0,q7f,List.range,List.range.loop,e0,e3,hk,hk',hb,k0',he',g0,g1,g2]
   .have k0':((k:Int)==0)=false:=by simp;exact k0
    rw[decide_eq_false k0]at he;have he':qdu true t=qdu false (t.drop (k+1)):=by simpa using he
    simp[L141_0,zqw,List.range,List.range.loop,e0,e3,hk,hk',hb,k0',wk,he',g0,g1,g2]
  .have hw:qdn n=true:=by simp[qdn,qbv];omega
   have hsm:qbv n=false:=by simp[qbv];omega
   have g0:¬(97<=(b.toNat:Int)):=by omega
   have f0:¬97<=b.toNat:=by omega
   have g1:65<=(b.toNat:Int):=by omega
   have f1:65<=b.toNat:=by omega
   have g2:¬((b.toNat:Int)<=90):=by omega
   have f2:¬b.toNat<=90:=by omega
   have g3:48<=(b.toNat:Int):=by omega
   have f3:48<=b.toNat:=by omega
   have g4:¬((b.toNat:Int)<=57):=by omega
   have f4:¬b.toNat<=57:=by omega
   have f95:((b.toNat:Int) != 95)=false:=by simp;omega
   rw[hw,hsm]at he;by_cases k0:k=0
   .have k0':((k:Int)==0)=true:=by simp;exact k0
    rw[decide_eq_true k0]at he;have he':qdu true t=false:=by simpa using he
    simp[L141_0,q7f,List.range,List.range.loop,e0,e3,hk,hk',hb,k0',he',g0,g1,g2]
   .have k0':((k:Int)==0)=false:=by simp;exact k0
    rw[decide_eq_false k0]at he;have he':qdu true t=qdu false (t.drop (k+1)):=by simpa using he
    simp[L141_0,zqw,List.range,List.range.loop,e0,e3,hk,hk',hb,k0',wk,he',g0,g1,g2,f95]
  .have hw:qdn n=false:=by simp[qdn,qbv];omega
   have hsm:qbv n=false:=by simp[qbv];omega
   have g0:¬(97<=(b.toNat:Int)):=by omega
   have f0:¬97<=b.toNat:=by omega
   have g1:65<=(b.toNat:Int):=by omega
   have f1:65<=b.toNat:=by omega
   have g2:¬((b.toNat:Int)<=90):=by omega
   have f2:¬b.toNat<=90:=by omega
   have g3:48<=(b.toNat:Int):=by omega
   have f3:48<=b.toNat:=by omega
   have g4:¬((b.toNat:Int)<=57):=by omega
   have f4:¬b.toNat<=57:=by omega
   have g5:(b.toNat:Int)≠95:=by omega
   have f5:b.toNat≠95:=by omega
   have g6:¬((b.toNat:Int)<48):=by omega
   have f6:¬b.toNat<48:=by omega
   have g7:57<(b.toNat:Int):=by omega
   have f7:57<b.toNat:=by omega
   have f95:((b.toNat:Int) != 95)=true:=by simp;omega
   rw[hw,hsm]at he;by_cases k0:k=0
   .have k0':((k:Int)==0)=true:=by simp;exact k0
    rw[decide_eq_true k0]at he;have he':qdu true t=false:=by simpa using he
    simp[L141_0,q7f,List.range,List.range.loop,e0,e3,hk,hk',hb,k0',he',g0,g1,g2]
   .have k0':((k:Int)==0)=false:=by simp;exact k0
    rw[decide_eq_false k0]at he;have he':qdu true t=false:=by simpa using he
    simp[L141_0,q7f,List.range,List.range.loop,e0,e3,hk,hk',hb,k0',he',g0,g1,g2,g6,g7,f95]
  .have hw:qdn n=true:=by simp[qdn,qbv];omega
   have hsm:qbv n=true:=by simp[qbv];omega
   have g0:97<=(b.toNat:Int):=by omega
   have f0:97<=b.toNat:=by omega
   have g1:(b.toNat:Int)<=122:=by omega
   have f1:b.toNat<=122:=by omega
   have g2:65<=(b.toNat:Int):=by omega
   have f2:65<=b.toNat:=by omega
   have g3:¬((b.toNat:Int)<=90):=by omega
   have f3:¬b.toNat<=90:=by omega
   rw[hw,hsm]at he;by_cases k0:k=0
   .have k0':((k:Int)==0)=true:=by simp;exact k0
    simp[L141_0,zqw,List.range,List.range.loop,e0,e3,hk,hk',hb,k0',wk,g0,g1,g2,g3];simpa using he
   .have k0':((k:Int)==0)=false:=by simp;exact k0
    rw[decide_eq_false k0]at he;have he':qdu true t=qdu false (t.drop (k+1)):=by simpa using he
    simp[L141_0,zqw,List.range,List.range.loop,e0,e3,hk,hk',hb,k0',wk,he',g0,g1,g2,g3]
  .have hw:qdn n=false:=by simp[qdn,qbv];omega
   have hsm:qbv n=false:=by simp[qbv];omega
   have g0:97<=(b.toNat:Int):=by omega
   have f0:97<=b.toNat:=by omega
   have g1:¬((b.toNat:Int)<=122):=by omega
   have f1:¬b.toNat<=122:=by omega
   have g2:65<=(b.toNat:Int):=by omega
   have f2:65<=b.toNat:=by omega
   have g3:¬((b.toNat:Int)<=90):=by omega
   have f3:¬b.toNat<=90:=by omega
   have g4:48<=(b.toNat:Int):=by omega
   have f4:48<=b.toNat:=by omega
   have g5:¬((b.toNat:Int)<=57):=by omega
   have f5:¬b.toNat<=57:=by omega
   have g6:(b.toNat:Int)≠95:=by omega
   have f6:b.toNat≠95:=by omega
   have g7:¬((b.toNat:Int)<48):=by omega
   have f7:¬b.toNat<48:=by omega
   have g8:57<(b.toNat:Int):=by omega
   have f8:57<b.toNat:=by omega
   have f95:((b.toNat:Int) != 95)=true:=by simp;omega
   rw[hw,hsm]at he;by_cases k0:k=0
   .have k0':((k:Int)==0)=true:=by simp;exact k0
    rw[decide_eq_true k0]at he;have he':qdu true t=false:=by simpa using he
    simp[L141_0,q7f,List.range,List.range.loop,e0,e3,hk,hk',hb,k0',he',g0,g1,g2,g3]
   .have k0':((k:Int)==0)=false:=by simp;exact k0
    rw[decide_eq_false k0]at he;have he':qdu true t=false:=by simpa using he
    simp[L141_0,q7f,List.range,List.range.loop,e0,e3,hk,hk',hb,k0',he',g0,g1,g2,g3,g7,g8,f95]
 .rintro⟨s,h⟩ ⟨rfl,hl,e0,e3,he⟩;simp only[List.drop_length]at hl e0 e3 he;have he':qdu true t=true:=he;rw[qac hl];simp[L141_0,q7f,List.range,List.range.loop,e0,e3,he']
theorem ev141(t:Txt)(ht:t.length<2 ^ 62):ev pg (.call (fnq 141) [.str t] [])=some (rvq (.bool (qea t))):=by
 rw[qaa,pg141.1];simp[ir141,qai];generalize hr:ev pg (.code (.going 0 L141_0) _)=o;obtain⟨r,rfl,hl,hQ⟩:∃r,o=some r/\q7f t r:=by rw[<-hr];exact zto t ht _ ⟨by simp,by simp,by simp,by simp,by simp⟩
 rcases hQ with⟨hx,h0,hE⟩ | ⟨hx,h2,hE⟩
 .by_cases hne:t=[]
  .subst hne;simp[hx,hl,h0,qea]
  .simp[hx,hl,h0,qea,hE];cases t with
   | nil=>exact absurd rfl hne
   | cons a l=>rfl
 .simp[hx,h2,qea,hE]
end Go.Proofs.YtggbaapfbgjaeaaGreatDoor
