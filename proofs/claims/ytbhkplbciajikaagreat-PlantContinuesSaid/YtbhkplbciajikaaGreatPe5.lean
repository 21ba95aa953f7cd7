/- The law PlantContinues, in Am: it returns true. The law PlantContinues returns true for every input, and leaves what came in as it was. It holds with no further condition. -/
import Derived.Test.YtbhkplbciajikaaGreatLw6
import Derived.Test.YtbhkplbciajikaaGreatLw5
import Derived.Test.YtbhkplbciajikaaGreatLw1
import Derived.Test.YtbhkplbciajikaaGreatMy2
import Derived.KernelRfl
import Derived.Test.YtbhkplbciajikaaGreatRows
import Derived.Test.YtbhkplbciajikaaGreatTy5
import Derived.ProofKit
import Derived.WalkKit
import Derived.OpenShut
import Derived.ShutString
import Derived.ChangeOld
import Derived.Below
set_option linter.all false
namespace Go.Proofs.YtbhkplbciajikaaGreat
open Go Go.Am Go.Proofs
set_option maxRecDepth 100000
abbrev cl7 (t:Ste) (S:List Stl) (C:List Int):List V:=t.cells++[.imm (S.map lrow),ints C]
abbrev h7 (c:Ct) (s:Ste) (x y z:List V) (l:List (List V)):H:=[⟨0,.box c.cells⟩,o0,o0,o0,o0,o0,⟨0,.box s.cells⟩,o0,o0,o0,o0,o0,o0,o0,⟨0,.box x⟩,o0,o0,o0,o0,o0,o0,o0,⟨0,.box y⟩,o0,o0,o0,o0,o0,o0,o0,⟨0,.box z⟩,⟨0,.arr 1 l⟩]
theorem calm_h7 (c:Ct) (s:Ste) (t u v:Ste) (S1 S2 S3:List Stl) (C1 C2 C3 l:List Int):calm (h7 c s (cl7 t S1 C1) (cl7 u S2 C2) (cl7 v S3 C3) (l.map nrow)):=by
 unfold calm
 simp
theorem calm_h7s (c:Ct) (s:Ste) (t u v:Ste) (S1 S2 S3:List Stl) (C1 C2 C3 l:List Int) (S:List Stl):calm (h7 c s (cl7 t S1 C1) (cl7 u S2 C2) (cl7 v S3 C3) (l.map nrow)++[⟨0,.arr 1 (S.map lrow)⟩]):=by
 unfold calm
 simp
set_option maxHeartbeats 2000000 in
theorem ev7 (c:Ct) (l:List Evn) (n:Nat) (hn:n < 256):ev pg (.call (.fn 7 [] []) [c.v,evs l,.int .u8 n] [])=some { v:=.bool true,st:=⟨[],[]⟩ }:=by
 have e10:=ev10
 have e30:=ev30 c
 rw [ev_call,pg7]
 cases hf:c.few with
 | false =>
  rw [hf] at e30
  simp [ir7,e30,e10]
 | true =>
  rw [hf] at e30
  have hc:=few_small hf
  have e31:=ev31 c hc
  by_cases hck:c.check=0
  ·rw [hck] at e31
   by_cases hlen:20 < l.length
   ·have h20:(20:Int) < l.length:=by omega
    simp [ir7,e30,e31,h20,e10]
   ·have h20:¬ (20:Int) < l.length:=by omega
    have e18:=ev18 c hc
    by_cases he:(startR c).2.2=0
    ·have hL:=startR_lie hc hck he
     generalize startR c=x at *
     obtain ⟨s,m,e⟩:=x
     simp only at hL he
     subst he
     have wl:=wrap_id (n:=(l.length:Int) + 1) (by omega) (by omega)
     obtain ⟨k,hk,hkn⟩:∃ k:Nat,k≤l.length∧(n:Int).tmod ((l.length:Int) + 1)=(k:Int):=by
      refine ⟨n % (l.length + 1),?_,?_⟩
      ·have:=Nat.mod_lt n (show 0 < l.length + 1 by omega)
       omega
      ·rw [Int.tmod_eq_emod_of_nonneg (by omega),Int.natCast_emod,Int.natCast_add,Int.natCast_one]
     have hz:¬ (l.length:Int) + 1=0:=by omega
     have hdr:(List.drop k (l.map Evn.row)).take (l.length - k)=List.drop k (l.map Evn.row):=List.take_of_length_le (by simp)
     have wn:=wrap_id (n:=(n:Int)) (by omega) (by omega)
     have e22:=ev22 c s hc hL.rdy.small l (by omega)
     have e22b:=ev22 c s hc hL.rdy.small (l.take k) (by rw [List.length_take]; omega)
     rw [hL.run (by omega)] at e22
     rw [hL.run (by rw [List.length_take]; omega)] at e22b
     have hcut:=runGo_cut c s l k hk
     generalize runGo c l 0 ⟨s,[],[]⟩=X at *
     by_cases hye:(runGo c (l.take k) 0 ⟨s,[],[]⟩).2.2=0
     ·rw [if_pos hye] at hcut
      have hLy:=hL.next hye
      have hlY:Lin (allN c) (runGo c (l.take k) 0 ⟨s,[],[]⟩).1.conf:=runGo_lin (Lin.nil _)
      have hsY:(runGo c (l.take k) 0 ⟨s,[],[]⟩).1.strokes.length≤_:=runGo_strokes
      have hmY:=runGo_small (l:=l.take k) (i:=0) hL.rdy (r:=⟨s,[],[]⟩) (by simp) (by simp; omega) (by simp)
      generalize runGo c (l.take k) 0 ⟨s,[],[]⟩=y at *
      obtain ⟨⟨t,S,C⟩,i,e⟩:=y
      simp only at hye hLy hlY hsY hmY hcut
      subst hye
      have e22z:=ev22 c t hc hLy.rdy.small (l.drop k) (by rw [List.length_drop]; omega)
      rw [hLy.run (by rw [List.length_drop]; omega)] at e22z
      have hidx:=runGo_idx c (l.drop k) 0 ⟨t,[],[]⟩
      have hlZ:Lin (allN c) (runGo c (l.drop k) 0 ⟨t,[],[]⟩).1.conf:=runGo_lin (Lin.nil _)
      have hsZ:(runGo c (l.drop k) 0 ⟨t,[],[]⟩).1.strokes.length≤_:=runGo_strokes
      have hmZ:=runGo_small (l:=l.drop k) (i:=0) hLy.rdy (r:=⟨t,[],[]⟩) (by simp) (by simp; omega) (by simp)
      have hN:=allN_le hL.rdy.mid
      generalize runGo c (l.drop k) 0 ⟨t,[],[]⟩=z at *
      obtain ⟨⟨u,S2,C2⟩,j,f⟩:=z
      simp only [List.length_drop,List.length_take,List.length_nil] at hcut hidx hlZ hsZ hmZ hsY
      by_cases hze:f=0
      ·subst hze
       rw [if_pos rfl] at hcut
       subst hcut
       have e20:=ev20 u u hmZ.st
       rw [sameT_self] at e20
       have hSl:(S++S2).length≤4096:=by rw [List.length_append]; omega
       have e34:=ev34s (S++S2) (by omega) (fun x hx=>(List.mem_append.1 hx).elim (hmY.each x) (hmZ.each x))
       have e35:=ev35c [S,S2] (by simp) (by simp) (by simpa using (by omega:S.length + S2.length≤100000))
       have hlC:=hlY.len
       have hlC2:=hlZ.len
       have e32:=ev32c [C,C2] (by simp) (by simp) (by simp; omega)
       simp only [llsI,llsL,List.map_cons,List.map_nil,List.flatten_cons,List.flatten_nil,List.append_nil] at e32 e35
       obtain ⟨l',hp,hsr,e33⟩:=ev33 (h:=h7 c s (cl7 u (S++S2) (norm (allN c) (C++C2))) (cl7 t S C) (cl7 u S2 C2) ((C++C2).map nrow)) (i:=31) (g:=0) (l:=C++C2) rfl (calm_h7 ..) (by simp; omega)
       have hpl:=hp.length_eq
       obtain ⟨rows,hr1,hr2,e36⟩:=ev36 (h:=h7 c s (cl7 u (S++S2) (norm (allN c) (C++C2))) (cl7 t S C) (cl7 u S2 C2) (l'.map nrow)++[⟨0,.arr 1 ((S++S2).map lrow)⟩]) (i:=31) (g:=0) (l:=l') rfl (calm_h7s ..) (by rw [hpl]; simp; omega)
       have hcn:compactL l'=norm (allN c) (C++C2):=compact_norm hsr (fun x=>hp.mem_iff) (fun x hx=>(List.mem_append.1 hx).elim (hlY.b x) (hlZ.b x))
       rw [hcn] at hr2 e36
       rw [hpl] at e36
       have hle:(norm (allN c) (C++C2)).length≤rows.length:=by
        have:=congrArg List.length hr2
        simp at this
        omega
       have hif:=take_if hr2
       have hif2:(if (norm (allN c) (C++C2)).length=rows.length then some rows else some (rows.take (norm (allN c) (C++C2)).length))=some ((norm (allN c) (C++C2)).map nrow):=by
        split
        ·rename_i e
         rw [if_pos e] at hif
         rw [hif]
        ·rename_i e
         rw [if_neg e] at hif
         rw [hif]
       have hbq:beqR (S.map lrow++S2.map lrow) (S.map lrow++S2.map lrow)=true:=by rw [← List.map_append]; exact beqR_lrow _
       have hnl:=norm_le (allN c) (C++C2)
       have e21:=ev21 (norm (allN c) (C++C2)) (norm (allN c) (C++C2)) (by omega)
       simp only [decide_true] at e21
       generalize norm (allN c) (C++C2)=M at *
       simp [Crs.v,evs,lls] at e22 e22b e22z e34 e35 e32 e33 e36
       simp [ev_draw1,exT,chkOk,ir7,e30,e31,h20,e18,e22,e22b,e22z,e32,wl,wn,hz,hdr,hkn,hk,moveVs,moveV,moveL,move1]
       simp [e33,e36,e20,e34,e35,e21,e10,hle,hif2,hbq,moveVs,moveV,moveL,move1]
      ·rw [if_neg hze] at hcut
       have hcm:j + (k:Int)=k + j:=Int.add_comm _ _
       rw [hcm] at hcut
       subst hcut
       have wj:=wrap_id (n:=(k:Int) + j) (by omega) (by omega)
       have hzb:(f == 0)=false:=by simpa using hze
       simp [Crs.v,evs,zeroCrs] at e22 e22b e22z
       simp [ev_draw1,exT,chkOk,ir7,e30,e31,h20,e18,e22,e22b,e22z,wl,wn,wj,hz,hdr,hkn,hk,hze,hzb,e10]
     ·rw [if_neg hye] at hcut
      subst hcut
      generalize runGo c (l.take k) 0 ⟨s,[],[]⟩=y at *
      obtain ⟨y,i,e⟩:=y
      simp only at hye
      have hyb:(e == 0)=false:=by simpa using hye
      simp [Crs.v,evs] at e22 e22b
      simp [ev_draw1,exT,chkOk,ir7,e30,e31,h20,e18,e22,e22b,wl,wn,hz,hdr,hkn,hk,hye,hyb,e10]
    ·have hx:=startR_bad hck he
     generalize startR c=x at *
     obtain ⟨t,m,e⟩:=x
     simp only at hx
     subst hx
     simp [ir7,e30,e31,h20,e18,e10]
  ·have hb:(c.check != 0)=true:=by simpa using hck
   simp [ir7,e30,e31,hck,hb,e10]
end Go.Proofs.YtbhkplbciajikaaGreat
namespace Go.Proofs.YtbhkplbciajikaaGreat.plantContinuesDone
open Go Go.Am Go.Proofs Go.Proofs.YtbhkplbciajikaaGreat
open Go.ChangeShapes Go.WideShapes Go.ChangeAt Go.RowKit
set_option linter.unusedVariables false
theorem own:ownKnob Tryz.prog.godebug=none:=by kernel_rfl
theorem laidOut:laidOutB Tryz.prog=true:=by kernel_rfl
set_option maxRecDepth 100000 in
theorem lifted (os:Os) (started:os.Started) (H:Type) (enc:TypeId × Value→H) :
  ReturnsInHanded {} Tryz.checked os 7 .any (Rows.plantContinuesSpec.pre6 enc Tryz.prog Tryz.f7 Rows.plantContinuesRow.domain false) (Rows.plantContinuesSpec.post enc Tryz.prog Tryz.f7 false true false false):=by
 refine returnsInHanded_of_change (C:=Tryz.checked) own started (by kernel_rfl) Tryz.func7
  (ChangeSpec.witness6 (enc:=enc) (C:=Tryz.checked) false ⟨#[],#[.agg #[.int .i64 0,.slice none 0 0,.slice none 0 0,.slice none 0 0,.slice none 0 0],.slice none 0 0,.int .u8 0],[]⟩ 8 (by kernel_rfl) (by kernel_rfl) (by kernel_rfl) (by kernel_rfl)) ?_
 intro W base args ds gs before hval0 hW hcnd _
 have hval:∀ (j:Nat) t v,Tryz.f7.params[j]?=some t→args[j]?=some v→Value.okWide Tryz.prog W .any base t v:=hval0
 have hW':=hW
 obtain ⟨p,q,hA0,hV,rfl,hfz,hnd⟩:=hW
 have hA:DataW.TrodAll enc Tryz.prog W 0 (fun _=>true) true Tryz.f7.params.toList args.toList ds p:=hA0
 rw [Tryz.params7] at hA hval
 obtain ⟨v0,vs0,d0,ds0,p0,q0,hargs,rfl,rfl,h0,r0⟩:=trodAll_cons hA
 obtain ⟨v1,vs1,d1,ds1,p1,q1,rfl,rfl,rfl,h1,r1⟩:=trodAll_cons r0
 obtain ⟨v2,vs2,d2,ds2,p2,q2,rfl,rfl,rfl,h2,r2⟩:=trodAll_cons r1
 obtain ⟨rfl,rfl,rfl⟩:=trodAll_nil r2
 obtain rfl:args=#[v0,v1,v2]:=by cases args; simp_all
 obtain ⟨rfl,rfl⟩:=trodVars_none hV
 have k0:=h0
 have k1:=h1
 have k2:=h2
 have lt0:∀ x ∈ p0,x.block < W.heap.size:=by obtain ⟨m,hm⟩:=k0; exact DataW.trod_lt m _ _ _ hm
 have lt1:∀ x ∈ p1,x.block < W.heap.size:=by obtain ⟨m,hm⟩:=k1; exact DataW.trod_lt m _ _ _ hm
 have lt2:∀ x ∈ p2,x.block < W.heap.size:=by obtain ⟨m,hm⟩:=k2; exact DataW.trod_lt m _ _ _ hm
 obtain ⟨n0,x0,a0,b0⟩:=arg_okS plainP (by decide:26 ∈ _) (hval 0 26 v0 rfl rfl) h0
 obtain ⟨n1,x1,a1,b1⟩:=arg_okS plainP (by decide:37 ∈ _) (hval 1 37 v1 rfl rfl) h1
 obtain ⟨n2,x2,a2,b2⟩:=arg_okS plainP (by decide:5 ∈ _) (hval 2 5 v2 rfl rfl) h2
 obtain ⟨y0,rfl⟩:∃ c:Ct,x0=c.v:=by
  rcases b0 with ⟨vs,rfl,ht⟩ | ⟨ha,_⟩
  ·obtain ⟨c,rfl⟩:=typed_ct ht
   exact ⟨c,rfl⟩
  ·rw [agg26] at ha
   cases ha
 obtain ⟨y1,rfl⟩:∃ l:List Evn,x1=evs l:=by
  rcases b1 with ⟨vs,rfl,ht⟩ | ⟨_,ht⟩
  ·unfold rel at a1
   obtain ⟨us,rfl,_⟩:=a1
   obtain ⟨a,l,c,hh⟩:=okWide_slice Tryz.underlying37 (hval 1 37 _ rfl rfl)
   cases hh
  ·obtain ⟨l,hl⟩:=typed_evs ht
   cases hl
   exact ⟨l,rfl⟩
 obtain ⟨y2,hy2,rfl⟩:∃ n:Nat,n < 256∧x2=.int .u8 (n:Int):=by
  rcases b2 with ⟨vs,rfl,ht⟩ | ⟨_,ht⟩
  ·unfold rel at a2
   obtain ⟨us,rfl,_⟩:=a2
   obtain ⟨a,hh⟩:=okWide_int Tryz.underlying5 (hval 2 5 _ rfl rfl)
   cases hh
  ·obtain ⟨m,hm,h1,h2⟩:=typed_u8 ht
   cases hm
   exact ⟨m.toNat,by omega,by rw [Int.toNat_of_nonneg h1]⟩
 clear hA0 hval0
 have hr:=ev7 y0 y1 y2 hy2
 refine (law_ok (us:=#[v0,v1,v2]) made (by unfold relL; exact ⟨_,_,rfl,a0,by unfold relL; exact ⟨_,_,rfl,a1,by unfold relL; exact ⟨_,_,rfl,a2,by unfold relL; rfl⟩⟩⟩) hr rfl).mono fun e W' ⟨he,old⟩=>?_
 subst he
 exact ⟨_,rfl,_,_,_,[],_,[],hW',trodAll_mk1 (shut_bool Tryz.underlying4 _),(trodAll_cons_mk (Old.trod laidOut (by kernel_rfl) (of_decide_eq_true (by kernel_rfl)) k0 old lt0) (trodAll_cons_mk (Old.trod laidOut (by kernel_rfl) (of_decide_eq_true (by kernel_rfl)) k1 old lt1) (trodAll_cons_mk (Old.trod laidOut (by kernel_rfl) (of_decide_eq_true (by kernel_rfl)) k2 old lt2) trodAll_mk0))),rfl,old.frame _,fun h=>by cases h⟩
theorem over:Rows.plantContinuesRow.holds Tryz.pinned (OpenSpec.ofChange Rows.plantContinuesSpec) :=
 OpenClaim.holds_of_wide 7 Tryz.f7 rfl rfl rfl rfl rfl rfl rfl ⟨rfl,rfl,rfl,rfl,rfl⟩ rfl rfl rfl rfl rfl (by kernel_rfl) Tryz.func7 (by kernel_rfl)
  (of_decide_eq_true (by kernel_rfl)) (by unfold Func.isWrapper; first | (rw [if_pos (by decide +kernel)]; kernel_rfl) | (rw [if_neg (by decide +kernel)]; exact ⟨rfl,rfl⟩))
  (fun os started H enc _=>lifted os started H enc)
theorem proved:Rows.PlantContinuesSaid:=over
#print axioms proved
end Go.Proofs.YtbhkplbciajikaaGreat.plantContinuesDone
