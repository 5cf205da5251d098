/- Several texts of one claim in one file, made short: LP04 LP05 LP06 LP07 SD S7 LP08. -/
import Derived.Test.YtghmdfegfehhkaaGreatDoorZ8
import Derived.Recover
set_option maxRecDepth 100000
set_option maxHeartbeats 64000000
set_option linter.unusedVariables false
set_option linter.unusedSimpArgs false
namespace Go.Proofs.YtghmdfegfehhkaaGreatDoor
open Go.RowKit
theorem CS.weak {X Y:Type}{w0:World}{f:FuncId}{args:List Value}{Lc:List Res}{val:X->Value}{Lx:X->List Res}{R:X->Prop}{val':Y->Value}{Ly:Y->List Res}{R':Y->Prop}
  (h:CS w0 f args Lc val Lx R) (g:X->Y) (h1:∀ x,val x=val' (g x)) (h2:∀ x,Sub (Ly (g x)) (Lx x)) (h3:∀ x,R x->R' (g x)):CS w0 f args Lc val' Ly R':=.mk fun w hw=>
 (h.go w hw).mono fun _ _ ⟨x,e1,e2,e3⟩=>⟨g x,e1.trans (congrArg _ (h1 x)),e2.sub (h2 x),h3 x e3⟩
theorem CS.perm2 {X:Type}{w0:World}{f:FuncId}{args:List Value}{r0 r1 r2:Res}{L:List Res}{val:X->Value}{a0 a1 a2:X->Res}{R:X->Prop}
  (h:CS w0 f args (r0::r1::r2::L) val (fun x=>a0 x::a1 x::a2 x::L) R):CS w0 f args (r0::r2::r1::L) val (fun x=>a0 x::a2 x::a1 x::L) R:=.mk fun w hw=>
 (h.go w (hw.perm ((List.Perm.swap ..).cons _))).mono fun _ _ ⟨x,e1,e2,e3⟩=>⟨x,e1,e2.perm ((List.Perm.swap ..).cons _),e3⟩
theorem mS {X:Type}{F:Fm}{L:List Res}{S:X->List (Nat×Value)}{Lx:X->List Res}{R:X->Prop}(x:X)(h:R x)
  (hS:holds F (S x):=by repeat' (first|exact trivial|refine ⟨rfl,?_⟩))
  (hL:Sub (Lx x) L:=by repeat' (first|exact Sub.refl|exact Sub.nil|(apply Sub.cons;· repeat' (first|exact Rem.here|apply Rem.there))|apply Sub.skip)):∃ x',holds F (S x')/\Sub (Lx x') L/\R x':=⟨x,hS,hL,h⟩
def TM:Option Nat->Nat->MD->Res
 |none,_,_=>⟨fun _=>False,fun _=>True,fun _ _ _ _=>trivial,fun _ _ _ h=>h.elim⟩
 |some b,n,D=>NM b n D
def Hg (l:List ByteArray)(s:ByteArray):Nat:=l.findIdx fun x=>decide (x=s)
def Cm (l:List ByteArray)(s:ByteArray):List ByteArray:=if Hg l s<l.length then l else l++[s]
theorem idxS_mem {l:List ByteArray}{s:ByteArray}:Hg l s<l.length↔s∈l:=by
 unfold Hg
 rw [List.findIdx_lt_length]
 simp
theorem Ack {l:List ByteArray}{s:ByteArray}(h:s∉l):Hg (l++[s]) s=l.length:=by
 unfold Hg
 rw [List.findIdx_append,if_neg (by rw [List.findIdx_lt_length];simpa using h)]
 simp
section
variable {w0:World}{L:List Res}{gP gX gp:Nat}{p:List UInt8}{t t':Tok}{ts:List Tok}{c:PC}
theorem Bc4 (b n:Nat)(D:MD)(l:List ByteArray)(s:ByteArray)(hc:c.sm=some b)(hD:SD D l)(hx:s∈l)(hs:s.size<=maxLen) :
  CS w0 198 [.pointer (some ⟨gP,10,none⟩),.string s] (PB gP gX t c::NM b n D::L) (fun _:Unit=>.int .i64 (Hg l s:Int)) (fun _=>PB gP gX t c::NM b n D::L) (fun _=>True):=by
 obtain ⟨pv,ms,mg,mf,me,sl,sm,us,fs,gs,ls,hs'⟩:=c
 simp only at hc
 subst hc
 have hi:=idxS_mem.2 hx
 have h1:=hD.at_ (Hg l s) hi (.lit (.int .i64 0))
 rw [show l[Hg l s]! = s by rw [getElem!_pos l _ hi];exact of_decide_eq_true (List.findIdx_getElem (p:=fun x=>decide (x=s)) (w:=hi))] at h1
 have h2:=hD.hasT hx
 refine Ai (args:=[.pointer (some ⟨gP,10,none⟩),.string s]) Tryz.func198 rfl Tryz.ntmps198 rfl ?_;conv=>whnf
 (repeat' ((first|(refine Nv h1 ?_;rw [h2])|refine rB ?_|fail)<;>conv=>whnf))
 exact f1 () trivial
structure TblOk (c:PC)(l:List ByteArray)(D:MD):Prop where
 n:c.sl.n=l.length
 sd:SD D l
 no:c.sm=none->c.sl=⟨none,0,0⟩/\l=[]
theorem Af7 (l:List ByteArray)(D:MD)(s:ByteArray)(hT:TblOk c l D)(hl:l.length<1000000)(hs:s.size<=maxLen) :
  CS w0 198 [.pointer (some ⟨gP,10,none⟩),.string s] (PB gP gX t c::RS c.sl l::TM c.sm l.length D::L) (fun _:Sl×Option Nat×MD=>.int .i64 (Hg (Cm l s) s:Int))
   (fun z=>PB gP gX t { c with sl:=z.1,sm:=z.2.1 }::RS z.1 (Cm l s)::TM z.2.1 (Cm l s).length z.2.2::L) (fun z=>TblOk { c with sl:=z.1,sm:=z.2.1 } (Cm l s) z.2.2):=by
 obtain ⟨pv,ms,mg,mf,me,sl,sm,us,fs,gs,ls,hs'⟩:=c
 obtain ⟨hn,hsd,hno⟩:=hT
 dsimp only at hn hno ⊢
 cases sm with
 |none=>
  obtain ⟨h1,h2⟩:=hno rfl
  subst h2 h1
  refine CS.weak (Bh1 (L:=TM none 0 D::L) s rfl rfl hs) (fun z=>(z.1,some z.2,(DataW.map []:MD).put (D9 s) (.lit (.int .i64 0)))) ?_ ?_ ?_
  ·intro z;simp [Cm,Hg]
  ·intro z;exact Sub.cons Rem.here (Sub.cons Rem.here (Sub.cons Rem.here (Sub.skip Sub.refl)))
  ·intro z hz;exact ⟨hz,SD.nil.put (by simp),by simp⟩
 |some b=>
  by_cases hx:s∈l
  ·have e:Cm l s=l:=by simp [Cm,idxS_mem,hx]
   rw [e]
   refine CS.weak (Y:=Sl×Option Nat×MD) (CS.perm2 (Bc4 (w0:=w0) (gP:=gP) (gX:=gX) (t:=t) (L:=RS sl l::L) (c:=⟨pv,ms,mg,mf,me,sl,some b,us,fs,gs,ls,hs'⟩) b l.length D l s rfl hsd hx hs)) (fun _=>(sl,some b,D)) ?_ ?_ ?_
   ·intro z;rfl
   ·intro z;exact Sub.refl
   ·intro z hz;exact ⟨hn,hsd,by simp⟩
  ·have e:Cm l s=l++[s]:=by simp [Cm,idxS_mem,hx]
   rw [e]
   refine CS.weak (Bg2 (c:=⟨pv,ms,mg,mf,me,sl,some b,us,fs,gs,ls,hs'⟩) b l.length D l s rfl hsd hn hl hl hx hs) (fun z=>(z,some b,D.put (D9 s) (.lit (.int .i64 (l.length:Int))))) ?_ ?_ ?_
   ·intro z;rw [Ack hx]
   ·intro z;exact Sub.cons Rem.here (Sub.cons Rem.here (by rw [List.length_append];exact Sub.refl))
   ·intro z hz;exact ⟨by simpa using hz,hsd.put hx,by simp⟩
end
section
variable {w0:World}{L:List Res}{gP gX gp:Nat}{p:List UInt8}{t t1 t2 t3:Tok}{ts:List Tok}{c:PC}
abbrev ptr (g:Nat):Value:=.pointer (some ⟨g,0,none⟩)
theorem Aj4 {g1 g3 gE n cp k i:Nat}{es es':List Value}(he:c.me=⟨some ⟨gE,0,none⟩,n,cp⟩)(hk:k<n)(hes:Ab2 es k [.int .i64 (i:Int)]=some es') :
  CS w0 201 [.int .i64 (i:Int),ptr g1,ptr g3] (PB gP gX t c::Bk g1 [ptr gP] 263::Bk g3 [.int .i64 (k:Int)] 3::Ow 3 1 c.me es::L) (fun _:Unit=>.tuple #[])
   (fun _=>PB gP gX t c::Bk g1 [ptr gP] 263::Bk g3 [.int .i64 (k:Int)] 3::Ow 3 1 c.me es'::L) (fun _=>True):=by
 obtain ⟨pv,ms,mg,mf,me,sl,sm,us,fs,gs,ls,hs'⟩:=c
 simp only at he
 subst he
 refine Ai (args:=[.int .i64 (i:Int),ptr g1,ptr g3]) Tryz.func201 rfl Tryz.ntmps201 rfl ?_;conv=>whnf
 refine Eg [0,1,2,3,4,5,6] 0 7 ([PB gP gX t ⟨pv,ms,mg,mf,⟨some ⟨gE,0,none⟩,n,cp⟩,sl,sm,us,fs,gs,ls,hs'⟩,Bk g1 [ptr gP] 263,Bk g3 [.int .i64 (k:Int)] 3]) (by kernel_rfl) ?_;conv=>whnf
 (repeat' ((first|refine Ds ?_|refine Yv (off:=0+k*1) (vs:=[.int .i64 (i:Int)]) (flat:=es) (flat':=es') (hv:=by simpa using hes) ?_|refine rB ?_|fail)<;>conv=>whnf))
 exact f0 () trivial
theorem Ar9 {l:List ByteArray}{D:MD}{gl:List Value}(hk:t.k=1)(hs:Cf t.s=⟨#[103,108,111,98,97,108]⟩)(h1:t1.k=2)(h1m:t1.m=36)(h2:t2.k=3)(h2s:Cf t2.s=⟨#[59]⟩)(hT:TblOk c l D)(hl:l.length<1000000)(hz:(Cf t1.s).size<=maxLen)(hm:c.mg.n<1000000) :
  CS w0 170 [ptr gP] (PB gP gX t c::LT gX gp p (t1::t2::t3::ts)::RS c.sl l::TM c.sm l.length D::Ow 3 1 c.mg gl::L) (fun _:(Sl×Option Nat×MD)×Sl=>.tuple #[])
   (fun z=>PB gP gX t3 { c with sl:=z.1.1,sm:=z.1.2.1,mg:=z.2 }::LT gX gp p ts::RS z.1.1 (Cm l (Cf t1.s))::TM z.1.2.1 (Cm l (Cf t1.s)).length z.1.2.2::Ow 3 1 z.2 (gl++[.int .i64 (Hg (Cm l (Cf t1.s)) (Cf t1.s))])::L)
   (fun z=>TblOk { c with sl:=z.1.1,sm:=z.1.2.1,mg:=z.2 } (Cm l (Cf t1.s)) z.1.2.2/\z.2.n=c.mg.n+1):=by
 obtain ⟨pv,ms,mg,mf,me,sl,sm,us,fs,gs,ls,hs'⟩:=c
 dsimp only at hm
 refine Ai (args:=[ptr gP]) Tryz.func170 rfl Tryz.ntmps170 rfl ?_;conv=>whnf
 intro g1
 conv=>whnf
 (repeat' ((first|refine rB ?_|refine rA ?_|fail)<;>conv=>whnf))
 intro g2
 conv=>whnf
 (repeat' ((first|refine rB ?_|refine Ag (by first|assumption|omega) ?_|refine Ah (by first|assumption|omega) ?_|refine Cy ?_|fail)<;>conv=>whnf))
 refine cC Kw (Lk (t:=t) (t':=t1)) ?_
 rintro ⟨⟩ -
 conv=>whnf
 refine Eg [0,1,2,3,4,6,7,8,9] 5 14 ([Bk g1 [ptr gP] 263]) (by kernel_rfl) ?_;conv=>whnf
 (repeat' (first|exact True.intro|(refine And.intro ?_ ?_<;>conv=>whnf)|(first|(apply SbK.mk;(· repeat' (first|exact Sub.refl|exact Sub.nil|(apply Sub.cons;· repeat' (first|exact Rem.here|apply Rem.there))|apply Sub.skip)))|(refine cC Qz (Qy 36 h1 h1m (t:=t1) (t':=t2)) ?_;rintro ⟨⟩ -)|(refine cC Zq (Af7 l D _ hT hl hz) ?_;rintro z hz2)|(refine Kv ?_;intro g4)|(refine sAp ?_;intro sl' hsl)|refine rB ?_|refine Cy ?_|fail)<;>conv=>whnf))
 all_goals
  refine cC Oa (O8 ⟨#[59]⟩ h2 h2s (t:=t2) (t':=t3) (c:=⟨pv,ms,sl',mf,me,z.1,z.2.1,us,fs,gs,ls,hs'⟩)) ?_
  rintro ⟨⟩ -
  conv=>whnf
  exact f0 (z,sl') ⟨⟨hz2.n,hz2.sd,hz2.no⟩,hsl⟩
theorem Aqy {es uv:List Value}(hk:t.k=1)(hs:Cf t.s=⟨#[101,110,116,114,121]⟩)(h1:t1.k=2)(h1m:t1.m=64)(h2:t2.k=3)(h2s:Cf t2.s=⟨#[59]⟩)(hm:c.me.n<1000000)(hu:c.us.n<1000000) :
  CS w0 170 [ptr gP] (PB gP gX t c::LT gX gp p (t1::t2::t3::ts)::Ow 3 1 c.me es::Ow 274 2 c.us uv::L) (fun _:(Nat×Nat)×(Nat×Nat)×(Nat×Nat)=>.tuple #[])
   (fun z=>PB gP gX t3 { c with me:=⟨some ⟨z.1.1,0,none⟩,c.me.n+1,z.1.2⟩,us:=⟨some ⟨z.2.2.1,0,none⟩,c.us.n+1,z.2.2.2⟩ }::LT gX gp p ts::Ow 3 1 ⟨some ⟨z.1.1,0,none⟩,c.me.n+1,z.1.2⟩ (es++[.int .i64 0]) ::
    Ow 274 2 ⟨some ⟨z.2.2.1,0,none⟩,c.us.n+1,z.2.2.2⟩ (uv++[.string (Cf t1.s),.func (.func 201) #[] #[ptr z.2.1.1,ptr z.2.1.2]])::Bk z.2.1.1 [ptr gP] 263::Bk z.2.1.2 [.int .i64 (c.me.n:Int)] 3::L)
   (fun _=>True):=by
 obtain ⟨pv,ms,mg,mf,me,sl,sm,us,fs,gs,ls,hs'⟩:=c
 dsimp only at hm hu
 have hs1:¬ Cf t.s=⟨#[103,108,111,98,97,108]⟩:=by rw [hs];decide
 refine Ai (args:=[ptr gP]) Tryz.func170 rfl Tryz.ntmps170 rfl ?_;conv=>whnf
 intro g1
 conv=>whnf
 (repeat' ((first|refine rB ?_|refine rA ?_|fail)<;>conv=>whnf))
 intro g2
 conv=>whnf
 (repeat' ((first|refine rB ?_|refine Ag (by first|assumption|omega) ?_|refine Ah (by first|assumption|omega) ?_|refine Cy ?_|fail)<;>conv=>whnf))
 refine cC Kw (Lk (t:=t) (t':=t1)) ?_
 rintro ⟨⟩ -
 conv=>whnf
 (repeat' ((first|refine rB ?_|fail)<;>conv=>whnf))
 intro g3
 conv=>whnf
 (repeat' ((first|refine Cy ?_|fail)<;>conv=>whnf))
 refine Eg [0,1,2,3,4,5] 2 8 ([PB gP gX t1 ⟨pv,ms,mg,mf,me,sl,sm,us,fs,gs,ls,hs'⟩,Bk g1 [ptr gP] 263]) (by kernel_rfl) ?_;conv=>whnf
 (repeat' (first|exact True.intro|(refine And.intro ?_ ?_<;>conv=>whnf)|(first|(apply SbK.mk;(· repeat' (first|exact Sub.refl|exact Sub.nil|(apply Sub.cons;· repeat' (first|exact Rem.here|apply Rem.there))|apply Sub.skip)))|(refine Kv ?_;intro g4)|(refine Kc ?_;intro gE cp)|refine rB ?_|refine Cy ?_|fail)<;>conv=>whnf))
 refine Eg [0,1,2,3,5,7] 5 11 ([Bk g1 [ptr gP] 263]) (by kernel_rfl) ?_;conv=>whnf
 (repeat' (first|exact True.intro|(refine And.intro ?_ ?_<;>conv=>whnf)|(first|(apply SbK.mk;(· repeat' (first|exact Sub.refl|exact Sub.nil|(apply Sub.cons;· repeat' (first|exact Rem.here|apply Rem.there))|apply Sub.skip)))|(refine cC Qz (Qy 64 h1 h1m (t:=t1) (t':=t2) (gP:=gP) (c:=⟨pv,ms,mg,mf,⟨some ⟨gE,0,none⟩,me.n+1,cp⟩,sl,sm,us,fs,gs,ls,hs'⟩)) ?_;rintro ⟨⟩ -)|(refine Kv ?_;intro g5)|(refine Kc ?_;intro gU cU)|refine rB ?_|refine Cy ?_|fail)<;>conv=>whnf))
 all_goals
  refine cC Oa (O8 ⟨#[59]⟩ h2 h2s (t:=t2) (t':=t3) (c:=⟨pv,ms,mg,mf,⟨some ⟨gE,0,none⟩,me.n+1,cp⟩,sl,sm,⟨some ⟨gU,0,none⟩,us.n+1,cU⟩,fs,gs,ls,hs'⟩)) ?_
  rintro ⟨⟩ -
  conv=>whnf
  exact f0 ((gE,cp),(g1,g3),(gU,cU)) trivial
end
section
variable {w0:World}{L:List Res}{gP gX gp:Nat}{p:List UInt8}{t t1 t2 t3 t4 t5:Tok}{ts:List Tok}{c:PC}
theorem Am6 {l l2:List ByteArray}{D D2:MD}{s:ByteArray}{ns:Sl}{b:Nat}{vals:List Value}(hT:TblOk c l D)(hl:l.length<1000000)(hz:s.size<=maxLen)(hS:SD D2 l2)(hx:s∉l2)(hn:ns.n=l2.length)(hl2:l2.length<1000000) :
  CS w0 221 [ptr gP,ns.v,.map (some b),.string s] (PB gP gX t c::RS c.sl l::TM c.sm l.length D::NM b l2.length D2::Ow 3 1 ns vals::L) (fun z:(Sl×Option Nat×MD)×Sl=>z.2.v)
   (fun z=>PB gP gX t { c with sl:=z.1.1,sm:=z.1.2.1 }::RS z.1.1 (Cm l s)::TM z.1.2.1 (Cm l s).length z.1.2.2::NM b (l2.length+1) (D2.put (D9 s) (.lit (.int .i64 (ns.n:Int))))::Ow 3 1 z.2 (vals++[.int .i64 (Hg (Cm l s) s)])::L)
   (fun z=>TblOk { c with sl:=z.1.1,sm:=z.1.2.1 } (Cm l s) z.1.2.2/\z.2.n=ns.n+1):=by
 obtain ⟨pv,ms,mg,mf,me,sl,sm,us,fs,gs,ls,hs'⟩:=c
 have h1:=hS.atF hx (.lit (.int .i64 0))
 have h2:=hS.hasF hx
 refine Ai (args:=[ptr gP,ns.v,.map (some b),.string s]) Tryz.func221 rfl Tryz.ntmps221 rfl ?_;conv=>whnf
 (repeat' ((first|(refine Nv h1 ?_;rw [h2])|refine Ug ?_|(refine cC Zq (Af7 l D _ hT hl hz) ?_;rintro z hz2)|(refine Kv ?_;intro g4)|(refine sAp ?_;intro sl' hsl)|fail)<;>conv=>whnf))
 exact f1 (z,sl') ⟨⟨hz2.n,hz2.sd,hz2.no⟩,hsl⟩
theorem Ah6 {b n i gA gR nn cp:Nat}{D:MD}{l:List ByteArray}{a0 a1 a2 a3 a4 a5 a6:Value}(hh:c.hs=some b)(hD:SD D l)(hk:t.k=3)(hs:Cf t.s=⟨#[38]⟩)(h1:t1.k=2)(h1m:t1.m=35)(hi:i<l.length)(e:l[i]! = Cf t1.s)(hz:(Cf t1.s).size<=maxLen)(hnn:0<nn) :
  CS w0 261 [ptr gP,ptr gA,.int .i64 0] (PB gP gX t c::LT gX gp p (t1::t2::ts)::NM b n D::Bk gA [.slice (some ⟨gR,0,none⟩) nn cp] 81::Ow 88 7 ⟨some ⟨gR,0,none⟩,nn,cp⟩ (a0::a1::a2::a3::a4::a5::a6::[])::L) (fun _:Unit=>.tuple #[])
   (fun _=>PB gP gX t2 c::LT gX gp p ts::NM b n D::Bk gA [.slice (some ⟨gR,0,none⟩) nn cp] 81::Ow 88 7 ⟨some ⟨gR,0,none⟩,nn,cp⟩ (.int .u8 1::a1::a2::.int .u8 4::.int .i64 (i:Int)::a5::a6::[])::L) (fun _=>True):=by
 obtain ⟨pv,ms,mg,mf,me,sl,sm,us,fs,gs,ls,hs'⟩:=c
 simp only at hh
 subst hh
 refine Ai (args:=[ptr gP,ptr gA,.int .i64 0]) Tryz.func261 rfl Tryz.ntmps261 rfl ?_;conv=>whnf
 (repeat' ((first|refine Ds (i:=0) ?_|(refine cC Pf (Q6 ⟨#[38]⟩ hk hs (t:=t) (t':=t1)) ?_;rintro ⟨⟩ -)|refine Yv ?_|refine rB ?_|refine Ag (by first|assumption|omega) ?_|refine Ah (by first|assumption|omega) ?_|fail)<;>conv=>whnf))
 refine Eg [0,1,2,3,5] 4 9 ([]) (by kernel_rfl) ?_;conv=>whnf
 (repeat' (first|exact True.intro|(refine And.intro ?_ ?_<;>conv=>whnf)|(first|(apply SbK.mk;(· repeat' (first|exact Sub.refl|exact Sub.nil|(apply Sub.cons;· repeat' (first|exact Rem.here|apply Rem.there))|apply Sub.skip)))|(refine cC Qz (Qy 35 h1 h1m (t:=t1) (t':=t2)) ?_;rintro ⟨⟩ -)|(refine cC An5 (Vq b n D l _ i hD hi e hz) ?_;rintro ⟨⟩ -)|refine Yv ?_|refine rB ?_|fail)<;>conv=>whnf))
 all_goals exact f0 () trivial
theorem Arq {bg bh n i m j gA gR nn cp:Nat}{D D2:MD}{l l2:List ByteArray}(hg:c.gs=some bg)(hh:c.hs=some bh)(hD:SD D l)(hD2:SD D2 l2)
  (hk:t.k=2) (hm:t.m=36) (hi:i<l.length) (e:l[i]! = Cf t.s) (hz:(Cf t.s).size<=maxLen) (hk1:t1.k=3) (hs1:Cf t1.s=⟨#[61]⟩) (hk2:t2.k=3) (hs2:Cf t2.s=⟨#[38]⟩)
  (hk3:t3.k=2) (hm3:t3.m=35) (hj:j<l2.length) (e3:l2[j]! = Cf t3.s) (hz3:(Cf t3.s).size<=maxLen) (hk4:t4.k=3) (hs4:Cf t4.s=⟨#[59]⟩) (hnn:0<nn) :
  CS w0 241 [ptr gP,ptr gA,.int .i64 0] (PB gP gX t c::LT gX gp p (t1::t2::t3::t4::t5::ts)::NM bg n D::NM bh m D2::Bk gA [.slice (some ⟨gR,0,none⟩) nn cp] 81::Ow 88 7 ⟨some ⟨gR,0,none⟩,nn,cp⟩ [.int .u8 0,.int .u8 0,.int .i64 0,.int .u8 0,.int .i64 0,.slice none 0 0,.slice none 0 0]::L) (fun _:Unit=>.tuple #[])
   (fun _=>PB gP gX t5 c::LT gX gp p ts::NM bg n D::NM bh m D2::Bk gA [.slice (some ⟨gR,0,none⟩) nn cp] 81::Ow 88 7 ⟨some ⟨gR,0,none⟩,nn,cp⟩ [.int .u8 1,.int .u8 2,.int .i64 (i:Int),.int .u8 4,.int .i64 (j:Int),.slice none 0 0,.slice none 0 0]::L) (fun _=>True):=by
 obtain ⟨pv,ms,mg,mf,me,sl,sm,us,fs,gs,ls,hs'⟩:=c
 simp only at hh hg
 subst hh hg
 refine Ai (args:=[ptr gP,ptr gA,.int .i64 0]) Tryz.func241 rfl Tryz.ntmps241 rfl ?_;conv=>whnf
 (repeat' ((first|refine Ds (i:=0) ?_|(refine cC Pf (T5 ⟨#[42]⟩ (by omega) (t:=t)) ?_;rintro ⟨⟩ -)|(refine cC Bfk (Ayx bg n D l i hD rfl hk hm hi e hz (t:=t) (t':=t1)) ?_;rintro ⟨⟩ -)|refine rB ?_|refine Ag (by first|assumption|omega) ?_|refine Ah (by first|assumption|omega) ?_|fail)<;>conv=>whnf))
 intro g7
 conv=>whnf
 have hs5:¬ Cf t1.s=⟨#[40]⟩:=by rw [hs1];decide
 (repeat' ((first|(refine cC Oa (O8 ⟨#[61]⟩ hk1 hs1 (t:=t1) (t':=t2)) ?_;rintro ⟨⟩ -)|refine Yv ?_|(refine cC Au7 (Ah6 (gX:=gX) (gp:=gp) (p:=p) (ts:=t5::ts) (t:=t2) (t1:=t3) (t2:=t4) (b:=bh) (n:=m) (D:=D2) (l:=l2) (i:=j) rfl hD2 hk2 hs2 hk3 hm3 hj e3 hz3 hnn (gA:=gA) (gR:=gR) (nn:=nn) (cp:=cp)) ?_;rintro ⟨⟩ -)|(refine cC Oa (O8 ⟨#[59]⟩ hk4 hs4 (t:=t4) (t':=t5)) ?_;rintro ⟨⟩ -)|refine rB ?_|refine rA ?_|refine Ag (by first|assumption|omega) ?_|refine Ah (by first|assumption|omega) ?_|refine Cy ?_|fail)<;>conv=>whnf))
 exact f0 () trivial
theorem As9 {t6:Tok}{bg bh n i m j:Nat}{D D2:MD}{l l2:List ByteArray}(hg:c.gs=some bg)(hh:c.hs=some bh)(hD:SD D l)(hD2:SD D2 l2)
  (hk:t.k=2) (hm:t.m=36) (hi:i<l.length) (e:l[i]! = Cf t.s) (hz:(Cf t.s).size<=maxLen) (hk1:t1.k=3) (hs1:Cf t1.s=⟨#[61]⟩) (hk2:t2.k=3) (hs2:Cf t2.s=⟨#[38]⟩)
  (hk3:t3.k=2) (hm3:t3.m=35) (hj:j<l2.length) (e3:l2[j]! = Cf t3.s) (hz3:(Cf t3.s).size<=maxLen) (hk4:t4.k=3) (hs4:Cf t4.s=⟨#[59]⟩) (hk5:t5.k=3) (hs5:Cf t5.s=⟨#[125]⟩) :
  CS w0 222 [ptr gP,.int .i64 0] (PB gP gX t c::LT gX gp p (t1::t2::t3::t4::t5::t6::ts)::NM bg n D::NM bh m D2::L) (fun z:Nat×Nat=>.slice (some ⟨z.1,0,none⟩) 1 z.2)
   (fun z=>PB gP gX t6 c::LT gX gp p ts::NM bg n D::NM bh m D2::Ow 88 7 ⟨some ⟨z.1,0,none⟩,1,z.2⟩ [.int .u8 1,.int .u8 2,.int .i64 (i:Int),.int .u8 4,.int .i64 (j:Int),.slice none 0 0,.slice none 0 0]::L) (fun _=>True):=by
 refine Ai (args:=[ptr gP,.int .i64 0]) Tryz.func222 rfl Tryz.ntmps222 rfl ?_;conv=>whnf
 skip
 intro gA
 conv=>whnf
 refine cS.own 88 7 ?_
 refine Bo 2 (Cl ?_)
 conv=>whnf
 (repeat' ((first|(refine cC Pf (T5 ⟨#[125]⟩ (by omega) (t:=t)) ?_;rintro ⟨⟩ -)|(refine cC Pf (T5 ⟨#[123]⟩ (by omega) (t:=t)) ?_;rintro ⟨⟩ -)|refine rB ?_|fail)<;>conv=>whnf))
 refine Ys (X:=Nat×Nat) (fun _=>[(0,ptr gP),(1,.int .i64 0),(5,ptr gA)]) (fun z=>PB gP gX t c::LT gX gp p (t1::t2::t3::t4::t5::t6::ts)::NM bg n D::NM bh m D2::Bk gA [.slice (some ⟨z.1,0,none⟩) 1 z.2] 81::Ow 88 7 ⟨some ⟨z.1,0,none⟩,1,z.2⟩ [.int .u8 0,.int .u8 0,.int .i64 0,.int .u8 0,.int .i64 0,.slice none 0 0,.slice none 0 0]::L) (fun _=>True) ?_ ?_
 ·conv=>whnf
  refine Ac8 [1] 7 ([]) (by kernel_rfl) ?_;conv=>whnf
  (repeat' (first|exact True.intro|(refine And.intro ?_ ?_<;>conv=>whnf)|(first|(apply SbK.mk;(· repeat' (first|exact Sub.refl|exact Sub.nil|(apply Sub.cons;· repeat' (first|exact Rem.here|apply Rem.there))|apply Sub.skip)))|(refine Kv ?_;intro g4)|(refine Kc (sl:=⟨none,0,0⟩) (flat:=[]) ?_;intro gR cp)|refine Ds (i:=0) ?_|refine Yv ?_|refine rB ?_|refine Cy ?_|fail)<;>conv=>whnf))
  all_goals exact mS (gR,cp) trivial
 ·rintro ⟨gR,cp⟩ G' -
  conv=>whnf
  (repeat' ((first|(refine cC Bgz (Arq (gX:=gX) (gp:=gp) (p:=p) (ts:=t6::ts) hg hh hD hD2 hk hm hi e hz hk1 hs1 hk2 hs2 hk3 hm3 hj e3 hz3 hk4 hs4 (by omega) (gA:=gA) (gR:=gR) (nn:=1) (cp:=cp) (n:=n) (m:=m)) ?_;rintro ⟨⟩ -)|refine rB ?_|refine wI (by simp only [Cj];omega) ?_|fail)<;>conv=>whnf))
  refine Cl ?_
  conv=>whnf
  (repeat' ((first|(refine cC Pf (Q6 ⟨#[125]⟩ hk5 hs5 (t:=t5) (t':=t6)) ?_;rintro ⟨⟩ -)|refine rB ?_|fail)<;>conv=>whnf))
  exact f1 (gR,cp) trivial
end
section
variable {w0:World}{L:List Res}{gP gX gp:Nat}{p:List UInt8}{t t0 t1 t2 t3 t4 t5 t6 t7 t8 t9 t10 t11 t12 t13:Tok}{ts:List Tok}{c:PC}
theorem Al6 {l:List ByteArray}{s:ByteArray}(h:l.length<100000):(Cm l s).length<1000000:=by
 unfold Cm
 split
 ·omega
 ·simp;omega
structure FZ where
 tab:Sl×Option Nat×MD
 mf:Sl
 ls:Nat
 hs:Nat
 si:Sl
 gR:Nat
 cp:Nat
theorem Bg9 {bg bf n i:Nat}{Dg D:MD}{lg l:List ByteArray}{f h:ByteArray}(hg:c.gs=some bg)(hf:c.fs=some bf)(hm:c.mf=⟨none,0,0⟩)(hDg:SD Dg lg)(hT:TblOk c l D)(hl:l.length<100000)
  (k0:t0.k=2) (m0:t0.m=64) (s0:Cf t0.s=f) (z0:f.size<=maxLen) (k1:t1.k=3) (s1:Cf t1.s=⟨#[40]⟩) (k2:t2.k=3) (s2:Cf t2.s=⟨#[41]⟩) (k3:t3.k=3) (s3:Cf t3.s=⟨#[123]⟩)
  (k4:t4.k=1) (s4:Cf t4.s=⟨#[115,105,116,101]⟩) (k5:t5.k=2) (m5:t5.m=35) (s5:Cf t5.s=h) (z5:h.size<=maxLen) (k6:t6.k=3) (s6:Cf t6.s=⟨#[59]⟩)
  (k7:t7.k=2) (m7:t7.m=36) (hi:i<lg.length) (e7:lg[i]! = Cf t7.s) (z7:(Cf t7.s).size<=maxLen) (k8:t8.k=3) (s8:Cf t8.s=⟨#[61]⟩) (k9:t9.k=3) (s9:Cf t9.s=⟨#[38]⟩)
  (k10:t10.k=2) (m10:t10.m=35) (s10:Cf t10.s=h) (k11:t11.k=3) (s11:Cf t11.s=⟨#[59]⟩) (k12:t12.k=3) (s12:Cf t12.s=⟨#[125]⟩) :
  CS w0 202 [ptr gP] (PB gP gX t0 c::LT gX gp p (t1::t2::t3::t4::t5::t6::t7::t8::t9::t10::t11::t12::t13::ts)::NM bg n Dg::NM bf 0 (.map [])::RS c.sl l::TM c.sm l.length D::Ow 83 5 c.mf []::L) (fun _:FZ=>.tuple #[])
   (fun z=>PB gP gX t13 { c with sl:=z.tab.1,sm:=z.tab.2.1,mf:=z.mf,ls:=some z.ls,hs:=some z.hs }::LT gX gp p ts::NM bg n Dg::NM bf 1 ((DataW.map []:MD).put (D9 f) (.lit (.int .i64 0)))::RS z.tab.1 (Cm (Cm l f) h)::TM z.tab.2.1 (Cm (Cm l f) h).length z.tab.2.2 ::
    Ow 83 5 z.mf [.int .i64 (Hg (Cm l f) f),.int .i64 0,.slice none 0 0,z.si.v,.slice (some ⟨z.gR,0,none⟩) 1 z.cp]::Ow 3 1 z.si [.int .i64 (Hg (Cm (Cm l f) h) h)] ::
    Ow 88 7 ⟨some ⟨z.gR,0,none⟩,1,z.cp⟩ [.int .u8 1,.int .u8 2,.int .i64 (i:Int),.int .u8 4,.int .i64 0,.slice none 0 0,.slice none 0 0]::L)
   (fun z=>TblOk { c with sl:=z.tab.1,sm:=z.tab.2.1,mf:=z.mf,ls:=some z.ls,hs:=some z.hs } (Cm (Cm l f) h) z.tab.2.2/\z.mf.n=1/\z.si.n=1):=by
 obtain ⟨pv,ms,mg,mf,me,sl,sm,us,fs,gs,ls,hs'⟩:=c
 simp only at hg hf hm
 subst hg hf hm s0 s5
 have hF:SD (.map []) []:=SD.nil
 refine Ai (args:=[ptr gP]) Tryz.func202 rfl Tryz.ntmps202 rfl ?_;conv=>whnf
 skip
 refine sMk ?_
 intro bl
 conv=>whnf
 (repeat' ((first|(refine sMk ?_;intro bh)|refine Cy ?_|fail)<;>conv=>whnf))
 intro g2
 conv=>whnf
 have hF1:=hF.atF (x:=Cf t0.s) (by simp) (.lit (.int .i64 0))
 have hF2:=hF.hasF (x:=Cf t0.s) (by simp)
 (repeat' ((first|(refine cC Qz (Qy 64 k0 m0 (t:=t0) (t':=t1) (gP:=gP) (c:=⟨pv,ms,mg,⟨none,0,0⟩,me,sl,sm,us,some bf,some bg,some bl,some bh⟩)) ?_;rintro ⟨⟩ -)|(refine Nv hF1 ?_;rw [hF2])|refine rB ?_|fail)<;>conv=>whnf))
 refine Eg [0,1,2,3,4,5,6,7,8,9,10] 0 11 ([PB gP gX t1 ⟨pv,ms,mg,⟨none,0,0⟩,me,sl,sm,us,some bf,some bg,some bl,some bh⟩]) (by kernel_rfl) ?_;conv=>whnf
 (repeat' ((first|refine Ug (z:=0) ?_|(refine cC Zq (Af7 (t:=t1) (c:=⟨pv,ms,mg,⟨none,0,0⟩,me,sl,sm,us,some bf,some bg,some bl,some bh⟩) l D _ ⟨hT.n,hT.sd,hT.no⟩ (by omega) z0) ?_;rintro z hz2)|(refine cC Oa (O8 ⟨#[40]⟩ k1 s1 (t:=t1) (t':=t2)) ?_;rintro ⟨⟩ -)|refine rB ?_|refine Cy ?_|fail)<;>conv=>whnf))
 refine Bo 1 (Cl ?_)
 conv=>whnf
 (repeat' ((first|(refine cC Pf (Q6 ⟨#[41]⟩ k2 s2 (t:=t2) (t':=t3) (gP:=gP) (c:=⟨pv,ms,mg,⟨none,0,0⟩,me,z.1,z.2.1,us,some bf,some bg,some bl,some bh⟩)) ?_;rintro ⟨⟩ -)|(refine cC Oa (O8 ⟨#[123]⟩ k3 s3 (t:=t3) (t':=t4) (gP:=gP) (c:=⟨pv,ms,mg,⟨none,0,0⟩,me,z.1,z.2.1,us,some bf,some bg,some bl,some bh⟩)) ?_;rintro ⟨⟩ -)|fail)<;>conv=>whnf))
 refine cS.own 3 1 ?_
 refine Bo 2 (Cl ?_)
 conv=>whnf
 have hv1:¬ Cf t4.s=⟨#[118,97,114]⟩:=by rw [s4];decide
 (repeat' ((first|(refine cC Kw (Lk (t:=t4) (t':=t5) (gP:=gP) (c:=⟨pv,ms,mg,⟨none,0,0⟩,me,z.1,z.2.1,us,some bf,some bg,some bl,some bh⟩)) ?_;rintro ⟨⟩ -)|refine rB ?_|refine Ag (by first|assumption|omega) ?_|refine Ah (by first|assumption|omega) ?_|fail)<;>conv=>whnf))
 refine Ys (X:=(Sl×Option Nat×MD)×Sl) (fun _=>[(0,ptr gP),(2,ptr g2)]) (fun y=>PB gP gX t6 ⟨pv,ms,mg,⟨none,0,0⟩,me,y.1.1,y.1.2.1,us,some bf,some bg,some bl,some bh⟩::LT gX gp p (t7::t8::t9::t10::t11::t12::t13::ts)::Ow 3 1 y.2 [.int .i64 (Hg (Cm (Cm l (Cf t0.s)) (Cf t5.s)) (Cf t5.s))] ::
   Bk g2 [.int .i64 (Hg (Cm l (Cf t0.s)) (Cf t0.s)),.int .i64 0,.slice none 0 0,y.2.v,.slice none 0 0] 83::RS y.1.1 (Cm (Cm l (Cf t0.s)) (Cf t5.s))::TM y.1.2.1 (Cm (Cm l (Cf t0.s)) (Cf t5.s)).length y.1.2.2 ::
   NM bf 1 ((DataW.map []:MD).put (D9 (Cf t0.s)) (.lit (.int .i64 0)))::NM bh 1 ((DataW.map []:MD).put (D9 (Cf t5.s)) (.lit (.int .i64 0)))::NM bg n Dg::Ow 83 5 ⟨none,0,0⟩ []::L) (fun y=>TblOk ⟨pv,ms,mg,⟨none,0,0⟩,me,y.1.1,y.1.2.1,us,some bf,some bg,some bl,some bh⟩ (Cm (Cm l (Cf t0.s)) (Cf t5.s)) y.1.2.2/\y.2.n=1) ?_ ?_
 ·conv=>whnf
  refine Eg [0,1,2,3,4,5,7] 2 9 ([Bk g2 [.int .i64 (Hg (Cm l (Cf t0.s)) (Cf t0.s)),.int .i64 0,.slice none 0 0,.slice none 0 0,.slice none 0 0] 83]) (by kernel_rfl) ?_;conv=>whnf
  (repeat' (first|exact True.intro|(refine And.intro ?_ ?_<;>conv=>whnf)|(first|(apply SbK.mk;(· repeat' (first|exact Sub.refl|exact Sub.nil|(apply Sub.cons;· repeat' (first|exact Rem.here|apply Rem.there))|apply Sub.skip)))|(refine cC Qz (Qy 35 k5 m5 (t:=t5) (t':=t6) (gP:=gP) (c:=⟨pv,ms,mg,⟨none,0,0⟩,me,z.1,z.2.1,us,some bf,some bg,some bl,some bh⟩)) ?_;rintro ⟨⟩ -)|(refine cC Bc9 (Am6 (gP:=gP) (gX:=gX) (t:=t6) (c:=⟨pv,ms,mg,⟨none,0,0⟩,me,z.1,z.2.1,us,some bf,some bg,some bl,some bh⟩) (l:=Cm l (Cf t0.s)) (D:=z.2.2) (D2:=.map []) (l2:=[]) (ns:=⟨none,0,0⟩) (vals:=[]) (s:=Cf t5.s) (b:=bh) ⟨hz2.n,hz2.sd,hz2.no⟩ (Al6 hl) z5 SD.nil (by simp) rfl (by simp)) ?_;rintro y hy)|refine rB ?_|refine Cy ?_|fail)<;>conv=>whnf))
  all_goals exact mS y ⟨⟨hy.1.n,hy.1.sd,hy.1.no⟩,by simpa using hy.2⟩
 ·rintro y G' hy
  have hH:SD ((DataW.map []:MD).put (D9 (Cf t5.s)) (.lit (.int .i64 ((([]:List ByteArray).length:Nat):Int)))) [Cf t5.s]:=SD.nil.put (by simp)
  conv=>whnf
  (repeat' ((first|(refine cC Oa (O8 ⟨#[59]⟩ k6 s6 (t:=t6) (t':=t7) (gP:=gP) (c:=⟨pv,ms,mg,⟨none,0,0⟩,me,y.1.1,y.1.2.1,us,some bf,some bg,some bl,some bh⟩)) ?_;rintro ⟨⟩ -)|fail)<;>conv=>whnf))
  refine Cl ?_
  conv=>whnf
  (repeat' ((first|(refine cC Bg0 (As9 (t:=t7) (t1:=t8) (t2:=t9) (t3:=t10) (t4:=t11) (t5:=t12) (t6:=t13) (gP:=gP) (gX:=gX) (gp:=gp) (p:=p) (ts:=ts) (c:=⟨pv,ms,mg,⟨none,0,0⟩,me,y.1.1,y.1.2.1,us,some bf,some bg,some bl,some bh⟩) (bg:=bg) (bh:=bh) (n:=n) (m:=1) (D:=Dg) (l:=lg) (l2:=[Cf t5.s]) (i:=i) (j:=0) rfl rfl hDg hH k7 m7 hi e7 z7 k8 s8 k9 s9 k10 m10 (by simp) (by rw [s10];rfl) (by rw [s10];exact z5) k11 s11 k12 s12) ?_;rintro ⟨gR,cp⟩ -)|refine rB ?_|refine Ah (by first|assumption|omega) ?_|refine Cy ?_|fail)<;>conv=>whnf))
  refine Eg [0,1,2,3,4,5,6] 2 9 ([PB gP gX t13 ⟨pv,ms,mg,⟨none,0,0⟩,me,y.1.1,y.1.2.1,us,some bf,some bg,some bl,some bh⟩,Bk g2 [.int .i64 (Hg (Cm l (Cf t0.s)) (Cf t0.s)),.int .i64 0,.slice none 0 0,y.2.v,.slice (some ⟨gR,0,none⟩) 1 cp] 83]) (by kernel_rfl) ?_;conv=>whnf
  (repeat' (first|exact True.intro|(refine And.intro ?_ ?_<;>conv=>whnf)|(first|(apply SbK.mk;(· repeat' (first|exact Sub.refl|exact Sub.nil|(apply Sub.cons;· repeat' (first|exact Rem.here|apply Rem.there))|apply Sub.skip)))|(refine Kv ?_;intro g4)|(refine sAp (sl:=⟨none,0,0⟩) ?_;intro mf' hmf)|refine rB ?_|refine rA ?_|refine Cy ?_|fail)<;>conv=>whnf))
  exact f0 (FZ.mk y.1 mf' bl bh y.2 gR cp) ⟨⟨hy.1.n,hy.1.sd,hy.1.no⟩,by simpa using hmf,hy.2⟩
theorem Au0 {X:Type}{Lx:X->List Res}{R:X->Prop}{c:PC}(hk:t.k=1)(hs:Cf t.s=⟨#[102,117,110,99]⟩)
  (h:∀ g1 g2,CS w0 202 [ptr gP] (PB gP gX t0 c::LT gX gp p ts::Bk g2 (Bfx t) 267::Bk g1 [ptr gP] 263::L) (fun _:X=>.tuple #[]) Lx R) :
  CS w0 170 [ptr gP] (PB gP gX t c::LT gX gp p (t0::ts)::L) (fun _:X=>.tuple #[]) Lx R:=by
 have hs1:¬ Cf t.s=⟨#[103,108,111,98,97,108]⟩:=by rw [hs];decide
 have hs2:¬ Cf t.s=⟨#[101,110,116,114,121]⟩:=by rw [hs];decide
 refine Ai (args:=[ptr gP]) Tryz.func170 rfl Tryz.ntmps170 rfl ?_;conv=>whnf
 intro g1
 conv=>whnf
 (repeat' ((first|refine rB ?_|refine rA ?_|fail)<;>conv=>whnf))
 intro g2
 conv=>whnf
 (repeat' ((first|(refine cC Kw (Lk (t:=t) (t':=t0)) ?_;rintro ⟨⟩ -)|(refine cC Bey (h g1 g2) ?_;rintro x hx)|refine rB ?_|refine Ag (by first|assumption|omega) ?_|refine Ah (by first|assumption|omega) ?_|refine Cy ?_|fail)<;>conv=>whnf))
 exact f0 x hx
end
def Ay9 (D:Deferred):Prop:=∃ fv cap f args,D.target=.fn fv cap/\(∀ w,(invoke D.target D.args).run Tryz.prog w=.ok (.enter f args) w) /\
 ∀ w,CallsD Tryz.prog f args .returning w fun e u' w'=>u'=.returning/\e=.returned (.tuple #[])/\Below w.heap.size w w'
section
variable {w0:World}{n:Nat}{F:Fm}{L:List Res}
theorem Aq1 {X:Type}{val:X->Value}{Lx:X->List Res}{R:X->Prop}{f:FuncId}{fn:Func}{c:Code}{args:List Value}{m i0 i1:Nat}{ops0:Array Oper}{o1 o2:Oper}(hf:Tryz.prog.funcs[f]?=some fn)(hb:fn.body=some (.seq (.region i0 ops0 false) (.seq (.region i1 [o1,o2].toArray false) c)))(hm:fn.ntmps=m)(hn:Nat.ble args.length m=true)
  (h:Hj w0 m (.region i0 ops0 false) ⟨fun F L=>∃ d v D,o1.guard=none/\o1.dst=some d/\Nat.blt d m=true/\(∀ w,(execOp (ev F) o1).run Tryz.prog w=.ok (.value v) w) /\
    o2.guard=none/\o2.dst=none/\(∀ w,(execOp (ev (Bd F d v)) o2).run Tryz.prog w=.ok (.defer D) w)/\Ay9 D /\
    Hj w0 m c ⟨FinS w0 fn val Lx R,FinS w0 fn val Lx R,fun _ _ _=>False⟩ (Bd F d v) L,fun _ _=>False,fun _ _ _=>False⟩ (J6 0 args) L):CS w0 f args L val Lx R:=.mk fun w hw=>by
 subst hm
 have h0:=(Kn h).go w hw
 unfold wc at h0
 refine calls_of_wp_defers hf hb (wp_seq (wp_mono (h0 [] _ ⟨?_,rfl,fun t=>?_⟩) ?_))
 rotate_left 2
 ·intro e a w1 h1
  cases e<;>simp only [Iz,PoS.to] at h1
  ·obtain ⟨F1,ha,L1,hw1,d,v,D,hg1,hd1,hdn,hr1,hg2,hd2,hr2,hS,hk⟩:=h1
   simp only [Exit.then]
   refine wp_seq (wp_region_lit ?_)
   refine wpList_plain hg1 fun K hK=>?_
   unfold Oper.wp
   rw [ha.eval,hr1]
   refine hK _ _ ?_
   have ha2:=ha.put (B9 hd1 hdn) v
   rw [hd1] at ha2 ⊢
   refine wpList_plain hg2 fun K2 hK2=>?_
   unfold Oper.wp
   rw [ha2.eval]
   show Oper.upon _ _ _ _ _ (Sem.run Tryz.prog (execOp (ev (Bd F1 d v)) o2) w1)
   rw [hr2]
   refine hK2 _ _ (wpList_nil ?_)
   simp only [Exit.then]
   rw [hd2]
   have h2:=(Kn hk).go w1 hw1
   unfold wc at h2
   refine wp_mono (h2 [D] _ ⟨ha2.size,by simp [Act.put,ha.defers],ha2.get⟩) ?_
   intro e a' w' h3
   have fin:(∃ F,Fr [D] a' fn.ntmps F/\∃ L,SL w0 w' L/\FinS w0 fn val Lx R F L)->Leaves Tryz.prog fn a'.tmps (fun e w'=>∃ x,e=.returned (val x)/\SL w0 w' (Lx x)/\R x) a'.defers .returning w':=by
    rintro ⟨F,h4,L,h5,h6⟩
    rw [h4.defers]
    obtain ⟨fv,cap,g,dargs,ht,hi,hc⟩:=hS
    refine ⟨by simp,fv,cap,g,dargs,ht,hi w',(hc w').mono ?_⟩
    rintro e u' w'' ⟨rfl,rfl,hB⟩
    have h7:=(by have:=h6;unfold FinS at this;exact this:∀ w,SL w0 w L->Om Tryz.prog fn (fun e w'=>∃ x,e=.returned (val x)/\SL w0 w' (Lx x)/\R x) F w) w'' (h5.up hB)
    unfold Om Mz at h7
    obtain ⟨r,h8,h9⟩:=h7 a'.tmps h4.get
    exact ⟨r,h8,h9⟩
   cases e<;>simp only [Iz,PoS.to] at h3<;>simp only [bodyPostD]
   ·exact fin h3
   ·obtain ⟨_,_,_,_,h⟩:=h3;exact h
   ·exact fin h3
  ·obtain ⟨_,_,_,_,h⟩:=h1;exact h.elim
  ·obtain ⟨_,_,_,_,h⟩:=h1;exact h.elim
 ·have:args.length<=fn.ntmps:=by simpa using hn
  simp;omega
 ·rw [Jo]
  simp only [Nat.not_lt_zero,if_false,Nat.sub_zero]
  rw [Array.getD_eq_getD_getElem?,Array.getElem?_append]
  by_cases ht:t<args.length
  ·simp [ht,List.getD_eq_getElem?_getD]
  ·simp [ht,List.getD_eq_getElem?_getD,Array.getElem?_replicate,List.getElem?_eq_none (Nat.le_of_not_lt ht)]
   split<;>rfl
theorem Apz {f:FuncId}{fn:Func}{c:Code}{args:List Value}{m i0 d:Nat}{o:Oper}(hf:Tryz.prog.funcs[f]?=some fn)(hb:fn.body=some (.seq (.region i0 [o].toArray false) c))(hm:fn.ntmps=m)(hn:Nat.ble args.length m=true)
  (hr:fn.results=#[]) (hg:o.guard=none) (hd:o.dst=some d) (hdn:Nat.blt d m=true) (hrec:∀ (ev:Operand->Value) w,(execOp ev o).run Tryz.prog w=.ok .recover w)
  (h:∀ w0,Hj w0 m c ⟨fun _ _=>True,fun _ _=>True,fun _ _ _=>False⟩ (Bd (J6 0 args) d .nilIface) []) (w:World) :
  CallsD Tryz.prog f args.toArray .returning w fun e u' w'=>u'=.returning/\e=.returned (.tuple #[])/\Below w.heap.size w w':=by
 subst hm
 refine callsD_of_wpS hf hb fun c₀ cs hu=>wpS_seq (wpS_region ?_)
 have hrd:recoverD (c₀::cs)=none:=by simp [recoverD,hu]
 have hrn:List.range ([o].toArray).size=[0]:=rfl
 rw [hrn]
 simp only [wpOpsS]
 have ho:([o].toArray)[0]?=some o:=rfl
 simp only [ho]
 rw [if_pos (by simp [Region.wanted,hg])]
 simp only [hrec,hrd,Exit.thenS]
 refine wpS_of_wp ?_
 have h1:=(Kn (h w)).go w (SL.start w)
 unfold wc at h1
 have h0:Fr [] { tmps:=args.toArray++Array.replicate (fn.ntmps - args.toArray.size) undef,defers:=[] } fn.ntmps (J6 0 args):=by
  refine ⟨?_,rfl,fun t=>?_⟩
  ·have:args.length<=fn.ntmps:=by simpa using hn
   simp;omega
  ·rw [Jo]
   simp only [Nat.not_lt_zero,if_false,Nat.sub_zero]
   rw [Array.getD_eq_getD_getElem?,Array.getElem?_append]
   by_cases ht:t<args.length
   ·simp [ht,List.getD_eq_getElem?_getD]
   ·simp [ht,List.getD_eq_getElem?_getD,Array.getElem?_replicate,List.getElem?_eq_none (Nat.le_of_not_lt ht)]
    split<;>rfl
 have h2:=h0.put (B9 hd hdn) .nilIface
 rw [hd] at h2 ⊢
 have hc:c₀::cs={ c₀ with mode:=.returning }::cs:=by rw [<- hu]
 refine wp_mono (h1 [] _ h2) ?_
 intro e a w' h3
 have fin:(∃ F,Fr [] a fn.ntmps F/\∃ L,SL w w' L/\True)->a.defers=[]/\∃ u',c₀::cs={ c₀ with mode:=u' }::cs/\∃ v,(results fn a.tmps).run Tryz.prog w'=.ok v w'/\(u'=.returning/\Ending.returned v=.returned (.tuple #[])/\Below w.heap.size w w'):=by
  rintro ⟨F,h4,L,h5,-⟩
  exact ⟨h4.defers,.returning,hc,_,results_none hr _ _ _,rfl,rfl,h5.bel⟩
 cases e<;>simp only [Iz,PoS.to] at h3<;>simp only [bodyPostS]
 ·exact fin h3
 ·obtain ⟨_,_,_,_,h⟩:=h3;exact h.elim
 ·exact fin h3
end
section
variable {w0 w w1:World}{n:Nat}{F:Fm}{L L' L1:List Res}{dst:Option Nat}{ty:TypeId}{pos:String}{after:Array Edge}{guard:Option (Nat×Bool)}{K:Value->List Res->Prop}{o:Oper}
theorem SL.bkOw {g e sz:Nat}(h:SL w0 w (Bk g [] e::L)):SL w0 w (Ow e sz ⟨some ⟨g,0,none⟩,0,0⟩ []::L):=by
 have hb:=Bk_P.1 (h.res (Bk g [] e) (by simp))
 refine ⟨h.bel,fun r hr=>?_,fun r hr b hb=>?_,List.pairwise_cons.2 ⟨fun r hr b hb=>?_,(List.pairwise_cons.1 h.dis).2⟩⟩
 ·rcases List.mem_cons.1 hr with rfl|hr
  ·exact Ow_P.2 ⟨by simp,.inr ⟨g,0,#[],rfl,Nat.zero_le _,hb,Nat.le_refl _,Nat.zero_le _,by simp,by simp⟩⟩
  ·exact h.res r (by simp [hr])
 ·rcases List.mem_cons.1 hr with rfl|hr
  ·have e1:=Ow_fp.1 hb
   injection e1 with e1
   exact h.ge (Bk g [] e) (by simp) b (Bk_fp.2 e1.symm)
  ·exact h.ge r (by simp [hr]) b hb
 ·have e1:=Ow_fp.1 hb
  injection e1 with e1
  exact (List.pairwise_cons.1 h.dis).1 r hr b (Bk_fp.2 e1.symm)
theorem EvS.bkOw {g e:Nat}(sz:Nat)(hm:Rem L (Bk g [] e) L1)(h:EvS w0 (Ow e sz ⟨some ⟨g,0,none⟩,0,0⟩ []::L1) F o K):EvS w0 L F o K:=⟨fun w hw=>h.go w (hw.pull hm).bkOw⟩
theorem Aq7 {e e2 s b:Nat}{sl sy:Sl}{flat news:List Value}{c:Call}{x y:Operand}{t:TypeId}(kk:∀ sl':Sl,sl'.n=sl.n+sy.n->K sl'.v (Ow e s sl' (flat++news)::L1))(hpos:0<sy.n)(ho:∀ u∈news,u.oneCell'=true)(hcal:c.callee=.builtin .append:=by exact rfl)(hargs:c.args.toList=[x,y]:=by exact rfl)(htys:c.argTypes.toList=[t,t]:=by exact rfl)
  (hy:ev F y=sy.v:=by exact rfl) (h1:S1 t=some (e,s,b):=by exact rfl) (hb:Has L (Ow e2 s sy news):=by repeat' (first|exact Has.here|refine Has.there ?_)) (hx:ev F x=sl.v:=by exact rfl) (hr:Rem L (Ow e s sl flat) L1:=by repeat' (first|exact Rem.here|apply Rem.there))
  (hs0:Nat.blt 0 s=true:=by exact rfl) (hbig:(sl.n+sy.n)*b<=140737488355328:=by first|omega|(dsimp only;omega)) (h63:sl.n+sy.n<=9223372036854775807:=by first|omega|(dsimp only;omega)):EvS w0 L F ⟨dst,.call c,ty,pos,after,guard⟩ K:=⟨fun w hw=>.inl (by
 have hq:(Ow e s sl flat).P w:=(hw.pull hr).res _ (by simp)
 have hq2:=hw.own hb
 have hblk:∃ g cap,sy.v=.slice (some ⟨g,0,none⟩) sy.n cap:=by
  rcases hq2.2 with ⟨_,h0⟩|⟨g,cap,cur,h,_⟩
  ·omega
  ·exact ⟨g,cap,h⟩
 obtain ⟨g,cap,hv⟩:=hblk
 rw [hv] at hq2
 obtain ⟨rest,hcells,hlen,_⟩:=Tl hq2
 obtain ⟨hu,j,z,hj,hz,hs,hby,hzs⟩:=Eh Aa (J1 h1)
 obtain ⟨v',w1,hr1,h2,h3,_,h5⟩:=run_append_own_at (P:=Tryz.prog) w 0 t ty e j z s b hu hj hz hs hby hzs (Nd hs0) sl.v sl.n flat (Ow_P.1 hq) ⟨g,0,none⟩ sy.n cap news hlen
  (fun i u hu=>by rw [add_zero];exact Au hcells (by have hlt:=(List.getElem?_eq_some_iff.1 hu).1;simp only [List.getElem?_toArray];rw [List.getElem?_append_left hlt];exact hu)) ho h63 hbig (Nat.zero_le _)
 have hform:∃ A cap,v'=.slice A (sl.n+sy.n) cap:=by
  rcases h2.2 with ⟨rfl,h0⟩|⟨g',cap,cur,rfl,_⟩
  ·exact ⟨none,0,by rw [h0]⟩
  ·exact ⟨_,cap,rfl⟩
 obtain ⟨A,cap2,rfl⟩:=hform
 obtain ⟨callee,⟨args⟩,⟨tys⟩⟩:=c
 simp only at hcal hargs htys
 subst hcal hargs htys
 refine ⟨_,w1,_,by simp [execOp,resolve,invoke,builtin,hx,hy,hv,hr1],(hw.pull hr).chg h3.os h3.tape h3.output h3.size (fun i hi hn=>h3.block i hi fun e=>hn (Ow_fp.2 e.symm)) (Ow_P.2 (show w1.ownsRow 0 e s (Sl.mk A (sl.n+sy.n) cap2).v (Sl.mk A (sl.n+sy.n) cap2).n (flat++news) from h2)) (fun b hb=>?_),kk ⟨A,sl.n+sy.n,cap2⟩ rfl⟩
 have hb':(Value.slice A (sl.n+sy.n) cap2).ownBlock=some b:=Ow_fp.1 hb
 rcases h5 with h5|h5
 ·exact .inl (Ow_fp.2 (h5.symm.trans hb'))
 ·rw [h5] at hb'
  injection hb' with hb'
  exact .inr (Nat.le_of_eq hb'))⟩
theorem Wr {e e2 s b:Nat}{sl sy:Sl}{flat news:List Value}{c:Call}{x y:Operand}{t:TypeId}(kk:∀ g cap,K (.slice (some ⟨g,0,none⟩) (sl.n+sy.n) cap) (Ow e s ⟨some ⟨g,0,none⟩,sl.n+sy.n,cap⟩ (flat++news)::L1))(hpos:0<sy.n)(ho:∀ u∈news,u.oneCell'=true)(hcal:c.callee=.builtin .append:=by exact rfl)(hargs:c.args.toList=[x,y]:=by exact rfl)(htys:c.argTypes.toList=[t,t]:=by exact rfl)
  (hy:ev F y=sy.v:=by exact rfl) (h1:S1 t=some (e,s,b):=by exact rfl) (hb:Has L (Ow e2 s sy news):=by repeat' (first|exact Has.here|refine Has.there ?_)) (hx:ev F x=sl.v:=by exact rfl) (hr:Rem L (Ow e s sl flat) L1:=by repeat' (first|exact Rem.here|apply Rem.there))
  (hs0:Nat.blt 0 s=true:=by exact rfl) (hbig:(sl.n+sy.n)*b<=140737488355328:=by first|omega|(dsimp only;omega)) (h63:sl.n+sy.n<=9223372036854775807:=by first|omega|(dsimp only;omega)):EvS w0 L F ⟨dst,.call c,ty,pos,after,guard⟩ K:=⟨fun w hw=>.inl (by
 have hq:(Ow e s sl flat).P w:=(hw.pull hr).res _ (by simp)
 have hq2:=hw.own hb
 have hblk:∃ g cap,sy.v=.slice (some ⟨g,0,none⟩) sy.n cap:=by
  rcases hq2.2 with ⟨_,h0⟩|⟨g,cap,cur,h,_⟩
  ·omega
  ·exact ⟨g,cap,h⟩
 obtain ⟨g,cap,hv⟩:=hblk
 rw [hv] at hq2
 obtain ⟨rest,hcells,hlen,_⟩:=Tl hq2
 obtain ⟨hu,j,z,hj,hz,hs,hby,hzs⟩:=Eh Aa (J1 h1)
 obtain ⟨v',w1,hr1,h2,h3,_,h5⟩:=run_append_own_at (P:=Tryz.prog) w 0 t ty e j z s b hu hj hz hs hby hzs (Nd hs0) sl.v sl.n flat (Ow_P.1 hq) ⟨g,0,none⟩ sy.n cap news hlen
  (fun i u hu=>by rw [add_zero];exact Au hcells (by have hlt:=(List.getElem?_eq_some_iff.1 hu).1;simp only [List.getElem?_toArray];rw [List.getElem?_append_left hlt];exact hu)) ho h63 hbig (Nat.zero_le _)
 have hform:∃ A cap,v'=.slice (some ⟨A,0,none⟩) (sl.n+sy.n) cap:=by
  rcases h2.2 with ⟨_,h0⟩|⟨g',cap,cur,rfl,_⟩
  ·omega
  ·exact ⟨_,cap,rfl⟩
 obtain ⟨A,cap2,rfl⟩:=hform
 obtain ⟨callee,⟨args⟩,⟨tys⟩⟩:=c
 simp only at hcal hargs htys
 subst hcal hargs htys
 refine ⟨_,w1,_,by simp [execOp,resolve,invoke,builtin,hx,hy,hv,hr1],(hw.pull hr).chg h3.os h3.tape h3.output h3.size (fun i hi hn=>h3.block i hi fun e=>hn (Ow_fp.2 e.symm)) (Ow_P.2 (show w1.ownsRow 0 e s (Sl.mk (some ⟨A,0,none⟩) (sl.n+sy.n) cap2).v (Sl.mk (some ⟨A,0,none⟩) (sl.n+sy.n) cap2).n (flat++news) from h2)) (fun b hb=>?_),kk A cap2⟩
 have hb':(Value.slice (some ⟨A,0,none⟩) (sl.n+sy.n) cap2).ownBlock=some b:=Ow_fp.1 hb
 rcases h5 with h5|h5
 ·exact .inl (Ow_fp.2 (h5.symm.trans hb'))
 ·rw [h5] at hb'
  injection hb' with hb'
  exact .inr (Nat.le_of_eq hb'))⟩
theorem EvS.own (e sz:Nat)(k:EvS w0 (Ow e sz ⟨none,0,0⟩ []::L) F o K):EvS w0 L F o K:=⟨fun w hw=>k.go w (hw.ownNil e sz)⟩
theorem Bi4 {e s b cc:Nat}{sl:Sl}{flat:List Value}{c:Call}{x y:Operand}{t:TypeId}(kk:K sl.v L)(hcal:c.callee=.builtin .append:=by exact rfl)(hargs:c.args.toList=[x,y]:=by exact rfl)(htys:c.argTypes.toList=[t,t]:=by exact rfl)
  (hy:ev F y=.slice none 0 cc:=by exact rfl) (h1:S1 t=some (e,s,b):=by exact rfl) (hx:ev F x=sl.v:=by exact rfl) (hr:Has L (Ow e s sl flat):=by repeat' (first|exact Has.here|refine Has.there ?_)):EvS w0 L F ⟨dst,.call c,ty,pos,after,guard⟩ K:=⟨fun w hw=>.inl (by
 obtain ⟨hu,j,z,hj,hz,hs,hby,hzs⟩:=Eh Aa (J1 h1)
 have h:=Iv (P:=Tryz.prog) (w:=w) 0 t ty e j s hu hj _ sl.n flat (hw.own hr) cc
 obtain ⟨callee,⟨args⟩,⟨tys⟩⟩:=c
 simp only at hcal hargs htys
 subst hcal hargs htys
 exact ⟨sl.v,w,L,by simp [execOp,resolve,invoke,builtin,hx,hy,h],hw,kk⟩)⟩
end
section
variable {w0:World}{n:Nat}{F:Fm}{L L':List Res}{Q:PoS}{cd:Code}{gP gX gp a:Nat}{p:List UInt8}{ts:List Tok}
theorem cS.sub (hs:Sub L' L)(h:cS w0 n cd Q F L'):cS w0 n cd Q F L:=.mk fun w hw=>h.go w (hw.sub hs)
theorem cS.ltOpen (h:∀ a,p.length<=4611686018427387904->cS w0 n cd Q F (LX gX gp p a::TX gp p::L)):cS w0 n cd Q F (LT gX gp p ts::L):=.mk fun w hw=>
 let ⟨a,_,h2,h3⟩:=hw.ltOpen
 (h a h2).go w h3
theorem cS.ltFold (hl:M8 p a ts)(hp:p.length<=4611686018427387904)(h:cS w0 n cd Q F (LT gX gp p ts::L)):cS w0 n cd Q F (LX gX gp p a::TX gp p::L):=.mk fun w hw=>h.go w (hw.ltFold hl hp)
variable {o:Oper}{K:Value->List Res->Prop}
theorem EvS.sub (hs:Sub L' L)(h:EvS w0 L' F o K):EvS w0 L F o K:=⟨fun w hw=>h.go w (hw.sub hs)⟩
theorem EvS.ltOpen (h:∀ a,p.length<=4611686018427387904->EvS w0 (LX gX gp p a::TX gp p::L) F o K):EvS w0 (LT gX gp p ts::L) F o K:=⟨fun w hw=>
 let ⟨a,_,h2,h3⟩:=hw.ltOpen
 (h a h2).go w h3⟩
theorem EvS.ltFold (hl:M8 p a ts)(hp:p.length<=4611686018427387904)(h:EvS w0 (LT gX gp p ts::L) F o K):EvS w0 (LX gX gp p a::TX gp p::L) F o K:=⟨fun w hw=>h.go w (hw.ltFold hl hp)⟩
theorem CS.pre {X:Type}{f:FuncId}{args:List Value}{val:X->Value}{Lx:X->List Res}{R:X->Prop}(hs:Sub L' L)(h:CS w0 f args L' val Lx R):CS w0 f args L val Lx R:=.mk fun w hw=>h.go w (hw.sub hs)
theorem cS.tm0 (m:Nat)(D:MD)(h:cS w0 n cd Q F (TM none m D::L)):cS w0 n cd Q F L:=.mk fun w hw=>h.go w
 ⟨hw.bel,fun r hr=>by
  rcases List.mem_cons.1 hr with rfl|hr
  ·trivial
  ·exact hw.res r hr,fun r hr b hb=>by
  rcases List.mem_cons.1 hr with rfl|hr
  ·exact hb.elim
  ·exact hw.ge r hr b hb,List.pairwise_cons.2 ⟨fun r _ b hb=>hb.elim,hw.dis⟩⟩
noncomputable def ifT (t:TypeId):Bool:=match Tryz.prog.underlying t with|some (.interface _)=>true|_=>false
theorem rNi {Kq:Value->Prop}{dst:Option Nat}{ty:TypeId}{pos:String}{after:Array Edge}{guard:Option (Nat×Bool)}{t yt:TypeId}{x:Operand}(kk:Kq (.bool true))(hx:ev F x=.nilIface:=by exact rfl)(ht:ifT t=true:=by kernel_rfl):QuS w0 L F ⟨dst,.binOp .eql t x (.const .nilIface) yt,ty,pos,after,guard⟩ Kq:=by
 refine .val (fun w hw=>?_) kk
 unfold ifT at ht
 split at ht
 ·rename_i hu
  have:(Op.equal t .nilIface .nilIface).run Tryz.prog w=.ok true w:=by
   unfold Op.equal Op.maxDepth
   rw [show (10000:Nat)=9999+1 from rfl]
   unfold Op.equalIn
   simp [B3 hu]
  have hy:ev F (.const .nilIface)=.nilIface:=rfl
  simp [execOp,hx,hy,eqGuard,binOp,this]
 ·cases ht
noncomputable def slT (t:TypeId):Bool:=match Tryz.prog.underlying t with|some (.slice _)=>true|_=>false
theorem rSn {Kq:Value->Prop}{dst:Option Nat}{ty:TypeId}{pos:String}{after:Array Edge}{guard:Option (Nat×Bool)}{t yt:TypeId}{x:Operand}{A:Addr}{m cp:Nat}(kk:Kq (.bool false))(hx:ev F x=.slice (some A) m cp:=by exact rfl)(ht:slT t=true:=by kernel_rfl):QuS w0 L F ⟨dst,.binOp .eql t x (.const (.slice none 0 0)) yt,ty,pos,after,guard⟩ Kq:=by
 refine .val (fun w hw=>?_) kk
 unfold slT at ht
 split at ht
 ·rename_i hu
  have:(Op.equal t (.slice (some A) m cp) (.slice none 0 0)).run Tryz.prog w=.ok false w:=by
   unfold Op.equal Op.maxDepth
   rw [show (10000:Nat)=9999+1 from rfl]
   unfold Op.equalIn
   simp [B3 hu]
  have hy:ev F (.const (.slice none 0 0))=.slice none 0 0:=rfl
  simp [execOp,hx,hy,eqGuard,binOp,this]
 ·cases ht
theorem CS.owB {X:Type}{e sz:Nat}{sl:Sl}{flat:List Value}{f:FuncId}{args:List Value}{val:X->Value}{Lx:X->List Res}{R:X->Prop}(hm:Has L (Ow e sz sl flat))(h0:0<sl.n)(h:∀ g cap,sl=⟨some ⟨g,0,none⟩,sl.n,cap⟩->CS w0 f args L val Lx R):CS w0 f args L val Lx R:=.mk fun w hw=>by
 have hq:=hw.own hm
 rcases hq.2 with ⟨_,e0⟩|⟨g,cap,cur,hv,_⟩
 ·omega
 ·refine (h g cap ?_).go w hw
  obtain ⟨a,m,c⟩:=sl
  injection hv with h1 h2 h3
  subst h1 h3
  rfl
theorem Aj3 {sl:Sl}{l:List ByteArray}(h0:0<sl.n)(hn:sl.n<1000000):CS w0 203 [sl.v] (RS sl l::L) (fun sl':Sl=>sl'.v) (fun sl'=>RS sl l::RS sl' l::L) (fun sl'=>sl'.n=sl.n):=by
 refine CS.owB Has.here h0 fun g cap e=>?_
 obtain ⟨a,m,cp⟩:=sl
 injection e with e1 _ e3
 subst e1 e3
 dsimp only at h0 hn
 refine Ai (args:=[(Sl.mk (some ⟨g,0,none⟩) m cp).v]) Tryz.func203 rfl Tryz.ntmps203 rfl ?_;conv=>whnf
 (repeat' ((first|refine rSn ?_|(refine Kv ?_;intro g5)|fail)<;>conv=>whnf))
 refine EvS.bkOw (g:=g5) (e:=9) 1 (by repeat' (first|exact Rem.here|apply Rem.there)) ?_
 refine Aq7 (sl:=⟨some ⟨g5,0,none⟩,0,0⟩) (sy:=⟨some ⟨g,0,none⟩,m,cp⟩) (flat:=[]) (news:=l.map Value.string) (e2:=9) ?_ h0 (by intro u hu;obtain ⟨x,_,rfl⟩:=List.mem_map.1 hu;rfl)
 intro sl' hsl
 conv=>whnf
 skip
 exact f1 sl' (by simpa using hsl)
theorem Auk {gP gX:Nat}{t:Tok}{c:PC}{l:List ByteArray}(h0:0<c.sl.n)(hn:c.sl.n<1000000):CS w0 171 [.pointer (some ⟨gP,10,none⟩)] (PB gP gX t c::RS c.sl l::L) (fun sl':Sl=>sl'.v) (fun sl'=>PB gP gX t c::RS c.sl l::RS sl' l::L) (fun sl'=>sl'.n=c.sl.n):=by
 obtain ⟨pv,ms,mg,mf,me,sl,sm,us,fs,gs,ls,hs'⟩:=c
 dsimp only at h0 hn
 refine Ai (args:=[.pointer (some ⟨gP,10,none⟩)]) Tryz.func171 rfl Tryz.ntmps171 rfl ?_;conv=>whnf
 (repeat' ((first|(refine cC Ap0 (Aj3 h0 hn) ?_;rintro sl' hsl)|refine rB ?_|refine rPn ?_|fail)<;>conv=>whnf))
 exact f1 sl' hsl
theorem Anz:CS w0 167 [.slice (some ⟨gp,0,none⟩) p.length p.length] L (fun g:Nat=>ptr g) (fun g=>LX g gp p 0::L) (fun _=>True):=by
 refine Ai (args:=[.slice (some ⟨gp,0,none⟩) p.length p.length]) Tryz.func167 rfl Tryz.ntmps167 rfl ?_;conv=>whnf
 skip
 intro g
 conv=>whnf
 skip
 exact f1 g trivial
end
section
variable {w0:World}{L:List Res}
theorem Al0 (g1 g2 g3:Nat):∀ w,CallsD Tryz.prog 165 [ptr g1,ptr g2,ptr g3].toArray .returning w fun e u' w'=>u'=.returning/\e=.returned (.tuple #[])/\Below w.heap.size w w':=by
 refine Apz (m:=16) (d:=6) Tryz.func165 rfl Tryz.ntmps165 rfl rfl rfl rfl rfl (fun ev w=>rfl) fun w0=>?_
 conv=>whnf
 (repeat' ((first|refine rNi ?_|fail)<;>conv=>whnf))
 all_goals exact True.intro
structure MZ where
 st:Sl
 gl:Sl
 fn:Sl
 si:Sl
 gR:Nat
 cR:Nat
 gE:Nat
 cE:Nat
structure MZ.Ok (z:MZ):Prop where
 st:z.st.n=3
 gl:z.gl.n=1
 fn:z.fn.n=1
 si:z.si.n=1
def MZ.v (z:MZ):Value:=.agg #[z.st.v,z.gl.v,z.fn.v,.slice (some ⟨z.gE,0,none⟩) 1 z.cE]
def Yw:Value:=.agg #[.int .i64 0,.int .i64 0,.int .i64 0,.int .i64 0,.int .i64 0,.int .i64 (-1),.int .i64 (-1)]
def MZ.facts (z:MZ)(L':List Res):List Res:=RS z.st [⟨#[103]⟩,⟨#[102]⟩,⟨#[104]⟩]::Ow 3 1 z.gl [.int .i64 0]::Ow 83 5 z.fn [.int .i64 1,.int .i64 0,.slice none 0 0,z.si.v,.slice (some ⟨z.gR,0,none⟩) 1 z.cR]::Ow 3 1 z.si [.int .i64 2] ::
 Ow 88 7 ⟨some ⟨z.gR,0,none⟩,1,z.cR⟩ [.int .u8 1,.int .u8 2,.int .i64 0,.int .u8 4,.int .i64 0,.slice none 0 0,.slice none 0 0]::Ow 3 1 ⟨some ⟨z.gE,0,none⟩,1,z.cE⟩ [.int .i64 0]::L'
def tk (t:Tok)(k m:Nat)(s:ByteArray):Prop:=t.k=k/\t.m=m/\Cf t.s=s
theorem Axk {gp:Nat}{p:List UInt8}{t1 t2 t3 t4 t5 t6 t7 t8 t9 t10 t11 t12 t13 t14 t15 t16 t17 t18 t19 t20 t21:Tok}(hp:p.length<=4611686018427387904)(hL:M8 p 0 [t1,t2,t3,t4,t5,t6,t7,t8,t9,t10,t11,t12,t13,t14,t15,t16,t17,t18,t19,t20,t21])
  (h1:tk t1 1 0 ⟨#[103,108,111,98,97,108]⟩) (h2:tk t2 2 36 ⟨#[103]⟩) (h3:tk t3 3 0 ⟨#[59]⟩) (h4:tk t4 1 0 ⟨#[101,110,116,114,121]⟩) (h5:tk t5 2 64 ⟨#[102]⟩) (h6:tk t6 3 0 ⟨#[59]⟩)
  (h7:tk t7 1 0 ⟨#[102,117,110,99]⟩) (h8:tk t8 2 64 ⟨#[102]⟩) (h9:tk t9 3 0 ⟨#[40]⟩) (h10:tk t10 3 0 ⟨#[41]⟩) (h11:tk t11 3 0 ⟨#[123]⟩) (h12:tk t12 1 0 ⟨#[115,105,116,101]⟩) (h13:tk t13 2 35 ⟨#[104]⟩) (h14:tk t14 3 0 ⟨#[59]⟩)
  (h15:tk t15 2 36 ⟨#[103]⟩) (h16:tk t16 3 0 ⟨#[61]⟩) (h17:tk t17 3 0 ⟨#[38]⟩) (h18:tk t18 2 35 ⟨#[104]⟩) (h19:tk t19 3 0 ⟨#[59]⟩) (h20:tk t20 3 0 ⟨#[125]⟩) (h21:tk t21 0 0 ⟨#[]⟩) :
  CS w0 138 [.slice (some ⟨gp,0,none⟩) p.length p.length] (TX gp p::L) (fun z:MZ=>.tuple #[z.v,Yw]) (fun z=>z.facts L) MZ.Ok:=by
 have h0:(Cf ([]:List UInt8))=⟨#[]⟩:=rfl
 have he:ByteArray.empty=Cf []:=rfl
 refine Aq1 (args:=[.slice (some ⟨gp,0,none⟩) p.length p.length]) Tryz.func138 rfl Tryz.ntmps138 rfl ?_
 conv=>whnf
 intro g1
 conv=>whnf
 intro g2
 conv=>whnf
 intro g3
 conv=>whnf
 refine ⟨9,.func (.func 165) #[] #[ptr g1,ptr g2,ptr g3],⟨.fn (.func 165) #[ptr g1,ptr g2,ptr g3],#[]⟩,rfl,rfl,rfl,fun w=>by simp [execOp,Instr.makeFunc,ev,Bd];exact ⟨rfl,rfl⟩,rfl,rfl,fun w=>by simp [execOp,resolve,Deferred.ofValue,ev,Bd],⟨_,_,_,_,rfl,fun w=>rfl,Al0 g1 g2 g3⟩,?_⟩
 conv=>whnf
 refine Ys (X:=Nat×Nat×Nat×Nat) (fun z=>[(1,ptr g1),(2,ptr g2),(3,ptr g3),(4,ptr z.1)]) (fun z=>PB z.1 z.2.1 ⟨0,0,[],0⟩ (PC.mk ⟨some ⟨gp,0,none⟩,p.length,p.length⟩ ⟨none,0,0⟩ ⟨none,0,0⟩ ⟨none,0,0⟩ ⟨none,0,0⟩ ⟨none,0,0⟩ none ⟨none,0,0⟩ (some z.2.2.1) (some z.2.2.2) none none)::LX z.2.1 gp p 0::TX gp p::NM z.2.2.1 0 (.map [])::NM z.2.2.2 0 (.map []) ::
   Bk g1 [.slice (some ⟨gp,0,none⟩) p.length p.length] 59::Bk g2 [.slice none 0 0,.slice none 0 0,.slice none 0 0,.slice none 0 0] 30::Bk g3 [.int .i64 0,.int .i64 0,.int .i64 0,.int .i64 0,.int .i64 0,.int .i64 0,.int .i64 0] 38::L) (fun _=>True) ?_ ?_
 ·conv=>whnf
  refine Eg [0,1] 3 5 ([Bk g1 [.slice (some ⟨gp,0,none⟩) p.length p.length] 59]) (by kernel_rfl) ?_;conv=>whnf
  (repeat' (first|exact True.intro|(refine And.intro ?_ ?_<;>conv=>whnf)|(first|(apply SbK.mk;(· repeat' (first|exact Sub.refl|exact Sub.nil|(apply Sub.cons;· repeat' (first|exact Rem.here|apply Rem.there))|apply Sub.skip)))|(refine cC Amk Anz ?_;rintro gX -)|(refine sMk ?_;intro b)|refine rB ?_|fail)<;>conv=>whnf))
  all_goals
   rename_i bo
   intro gP
   conv=>whnf
   skip
   first|(refine mS (gP,gX,b,bo) trivial (hL:=?_);rw [he];(repeat' (first|exact Sub.refl|(apply Sub.cons;· repeat' (first|exact Rem.here|apply Rem.there))|apply Sub.skip|fail));done)|(refine mS (gP,gX,bo,b) trivial (hL:=?_);rw [he];(repeat' (first|exact Sub.refl|(apply Sub.cons;· repeat' (first|exact Rem.here|apply Rem.there))|fail));done)
 ·rintro ⟨gP,gX,bf,bg⟩ G -
  obtain ⟨k1,m1,s1⟩:=h1
  obtain ⟨k2,m2,s2⟩:=h2
  obtain ⟨k3,m3,s3⟩:=h3
  obtain ⟨k4,m4,s4⟩:=h4
  obtain ⟨k5,m5,s5⟩:=h5
  obtain ⟨k6,m6,s6⟩:=h6
  obtain ⟨k7,m7,s7⟩:=h7
  obtain ⟨k8,m8,s8⟩:=h8
  obtain ⟨k9,m9,s9⟩:=h9
  obtain ⟨k10,m10,s10⟩:=h10
  obtain ⟨k11,m11,s11⟩:=h11
  obtain ⟨k12,m12,s12⟩:=h12
  obtain ⟨k13,m13,s13⟩:=h13
  obtain ⟨k14,m14,s14⟩:=h14
  obtain ⟨k15,m15,s15⟩:=h15
  obtain ⟨k16,m16,s16⟩:=h16
  obtain ⟨k17,m17,s17⟩:=h17
  obtain ⟨k18,m18,s18⟩:=h18
  obtain ⟨k19,m19,s19⟩:=h19
  obtain ⟨k20,m20,s20⟩:=h20
  obtain ⟨k21,m21,s21⟩:=h21
  have hts:Aa3 [t1,t2,t3,t4,t5,t6,t7,t8,t9,t10,t11,t12,t13,t14,t15,t16,t17,t18,t19,t20,t21]:=by
   simp [Aa3,k1,k2,k3,k4,k5,k6,k7,k8,k9,k10,k11,k12,k13,k14,k15,k16,k17,k18,k19,k20,k21]
  have hgl:Fp [t1,t2,t3,t4,t5,t6,t7,t8,t9,t10,t11,t12,t13,t14,t15,t16,t17,t18,t19,t20,t21]=[⟨#[103]⟩]:=by
   simp [Fp,N1,k1,k2,k3,k4,k5,k6,k7,k8,k9,k10,k11,k12,k13,k14,k15,k16,k17,k18,k19,k20,k21,m2,s1,s2,s4,s7,s12]
  conv=>whnf
  skip
  refine EvS.sub (L':=LX gX gp p 0::TX gp p::PB gP gX ⟨0,0,[],0⟩ (PC.mk ⟨some ⟨gp,0,none⟩,p.length,p.length⟩ ⟨none,0,0⟩ ⟨none,0,0⟩ ⟨none,0,0⟩ ⟨none,0,0⟩ ⟨none,0,0⟩ none ⟨none,0,0⟩ (some bf) (some bg) none none)::NM bf 0 (.map [])::NM bg 0 (.map [])::Bk g1 [.slice (some ⟨gp,0,none⟩) p.length p.length] 59::Bk g2 [.slice none 0 0,.slice none 0 0,.slice none 0 0,.slice none 0 0] 30::Bk g3 [.int .i64 0,.int .i64 0,.int .i64 0,.int .i64 0,.int .i64 0,.int .i64 0,.int .i64 0] 38::L) (Sub.cons (Rem.there Rem.here) (Sub.cons (Rem.there Rem.here) Sub.refl)) (EvS.ltFold hL hp ?_)
  refine cC Bc5 (Asx (t:=⟨0,0,[],0⟩) (c:=PC.mk ⟨some ⟨gp,0,none⟩,p.length,p.length⟩ ⟨none,0,0⟩ ⟨none,0,0⟩ ⟨none,0,0⟩ ⟨none,0,0⟩ ⟨none,0,0⟩ none ⟨none,0,0⟩ (some bf) (some bg) none none) bg rfl hts (by rw [hgl];simp) (by rw [hgl];intro x hx;simp at hx;subst hx;decide) (by rw [hgl];decide)) ?_
  rintro Dg hDg
  conv=>whnf
  rw [hgl] at hDg
  (repeat' ((first|refine rB ?_|fail)<;>conv=>whnf))
  refine cC Amk Anz ?_
  rintro gX2 -
  conv=>whnf
  (repeat' ((first|refine Cy ?_|fail)<;>conv=>whnf))
  refine EvS.sub (L':=LT gX gp p []::LX gX2 gp p 0::PB gP gX2 t21 ⟨⟨some ⟨gp,0,none⟩,p.length,p.length⟩,⟨none,0,0⟩,⟨none,0,0⟩,⟨none,0,0⟩,⟨none,0,0⟩,⟨none,0,0⟩,none,⟨none,0,0⟩,some bf,some bg,none,none⟩::NM bg (Fp [t1,t2,t3,t4,t5,t6,t7,t8,t9,t10,t11,t12,t13,t14,t15,t16,t17,t18,t19,t20,t21]).length Dg::NM bf 0 (.map [])::Bk g1 [.slice (some ⟨gp,0,none⟩) p.length p.length] 59::Bk g2 [.slice none 0 0,.slice none 0 0,.slice none 0 0,.slice none 0 0] 30::Bk g3 [.int .i64 0,.int .i64 0,.int .i64 0,.int .i64 0,.int .i64 0,.int .i64 0,.int .i64 0] 38::L) (Sub.cons (by repeat' (first|exact Rem.here|apply Rem.there)) (Sub.cons (by repeat' (first|exact Rem.here|apply Rem.there)) (Sub.cons (by repeat' (first|exact Rem.here|apply Rem.there)) Sub.refl))) (EvS.ltOpen fun a _=>?_)
  refine EvS.sub (L':=LX gX2 gp p 0::TX gp p::PB gP gX2 t21 ⟨⟨some ⟨gp,0,none⟩,p.length,p.length⟩,⟨none,0,0⟩,⟨none,0,0⟩,⟨none,0,0⟩,⟨none,0,0⟩,⟨none,0,0⟩,none,⟨none,0,0⟩,some bf,some bg,none,none⟩::NM bg (Fp [t1,t2,t3,t4,t5,t6,t7,t8,t9,t10,t11,t12,t13,t14,t15,t16,t17,t18,t19,t20,t21]).length Dg::NM bf 0 (.map [])::Bk g1 [.slice (some ⟨gp,0,none⟩) p.length p.length] 59::Bk g2 [.slice none 0 0,.slice none 0 0,.slice none 0 0,.slice none 0 0] 30::Bk g3 [.int .i64 0,.int .i64 0,.int .i64 0,.int .i64 0,.int .i64 0,.int .i64 0,.int .i64 0] 38::L) (Sub.cons (by repeat' (first|exact Rem.here|apply Rem.there)) (Sub.cons (by repeat' (first|exact Rem.here|apply Rem.there)) (Sub.skip Sub.refl))) (EvS.ltFold hL hp ?_)
  refine cC Kw (Lk (t:=t21) (t':=t1) (gP:=gP) (c:=⟨⟨some ⟨gp,0,none⟩,p.length,p.length⟩,⟨none,0,0⟩,⟨none,0,0⟩,⟨none,0,0⟩,⟨none,0,0⟩,⟨none,0,0⟩,none,⟨none,0,0⟩,some bf,some bg,none,none⟩)) ?_
  rintro ⟨⟩ -
  conv=>whnf
  refine cS.own 9 1 (cS.own 3 1 (cS.own 3 1 (cS.own 274 2 (cS.own 83 5 (cS.tm0 0 (.map []) ?_)))))
  refine Bo 4 (Cl ?_)
  conv=>whnf
  (repeat' ((first|refine rB ?_|refine Ag (by first|assumption|omega) ?_|fail)<;>conv=>whnf))
  refine cC Zy (Ar9 (t:=t1) (t1:=t2) (t2:=t3) (t3:=t4) (gP:=gP) (c:=⟨⟨some ⟨gp,0,none⟩,p.length,p.length⟩,⟨none,0,0⟩,⟨none,0,0⟩,⟨none,0,0⟩,⟨none,0,0⟩,⟨none,0,0⟩,none,⟨none,0,0⟩,some bf,some bg,none,none⟩) (l:=[]) (D:=.map []) (gl:=[]) k1 s1 k2 m2 k3 s3 ⟨rfl,SD.nil,fun _=>⟨rfl,rfl⟩⟩ (by decide) (by rw [s2];decide) (by show (0:Nat)<1000000;decide)) ?_
  rintro y1 hy1
  conv=>whnf
  refine Cl ?_
  conv=>whnf
  (repeat' ((first|refine rB ?_|refine Ag (by first|assumption|omega) ?_|fail)<;>conv=>whnf))
  refine cC Zy (Aqy (t:=t4) (t1:=t5) (t2:=t6) (t3:=t7) (gP:=gP) (c:=⟨⟨some ⟨gp,0,none⟩,p.length,p.length⟩,⟨none,0,0⟩,y1.2,⟨none,0,0⟩,⟨none,0,0⟩,y1.1.1,y1.1.2.1,⟨none,0,0⟩,some bf,some bg,none,none⟩) (es:=[]) (uv:=[]) k4 s4 k5 m5 k6 s6 (by show (0:Nat)<1000000;decide) (by show (0:Nat)<1000000;decide)) ?_
  rintro y2 hy2
  conv=>whnf
  refine Cl ?_
  conv=>whnf
  (repeat' ((first|refine rB ?_|refine Ag (by first|assumption|omega) ?_|fail)<;>conv=>whnf))
  refine cC Zy (Au0 (t:=t7) (t0:=t8) (gP:=gP) (c:=⟨⟨some ⟨gp,0,none⟩,p.length,p.length⟩,⟨none,0,0⟩,y1.2,⟨none,0,0⟩,⟨some ⟨y2.1.1,0,none⟩,0+1,y2.1.2⟩,y1.1.1,y1.1.2.1,⟨some ⟨y2.2.2.1,0,none⟩,0+1,y2.2.2.2⟩,some bf,some bg,none,none⟩) k7 s7 (h:=fun g1' g2'=>CS.pre (Sub.cons Rem.here (Sub.cons Rem.here (Sub.skip (Sub.skip Sub.refl)))) (Bg9 (gP:=gP) (c:=⟨⟨some ⟨gp,0,none⟩,p.length,p.length⟩,⟨none,0,0⟩,y1.2,⟨none,0,0⟩,⟨some ⟨y2.1.1,0,none⟩,0+1,y2.1.2⟩,y1.1.1,y1.1.2.1,⟨some ⟨y2.2.2.1,0,none⟩,0+1,y2.2.2.2⟩,some bf,some bg,none,none⟩) (t0:=t8) (t1:=t9) (t2:=t10) (t3:=t11) (t4:=t12) (t5:=t13) (t6:=t14) (t7:=t15) (t8:=t16) (t9:=t17) (t10:=t18) (t11:=t19) (t12:=t20) (t13:=t21) (ts:=[]) (bg:=bg) (bf:=bf) (i:=0) (Dg:=Dg) (D:=y1.1.2.2) (lg:=[⟨#[103]⟩]) (l:=Cm [] (Cf t2.s)) (f:=⟨#[102]⟩) (h:=⟨#[104]⟩)
   rfl rfl rfl hDg ⟨hy1.1.n,hy1.1.sd,hy1.1.no⟩ (by simp [Cm,Hg]) k8 m8 s8 (by decide) k9 s9 k10 s10 k11 s11 k12 s12 k13 m13 s13 (by decide) k14 s14 k15 m15 (by decide) (by rw [s15];rfl) (by rw [s15];decide) k16 s16 k17 s17 k18 m18 s18 k19 s19 k20 s20))) ?_
  rintro y3 hy3
  conv=>whnf
  refine Cl ?_
  conv=>whnf
  (repeat' ((first|refine rB ?_|refine Ah (by first|assumption|omega) ?_|fail)<;>conv=>whnf))
  have hFS:SD ((DataW.map []:MD).put (D9 ⟨#[102]⟩) (.lit (.int .i64 ((([]:List ByteArray).length:Nat):Int)))) [⟨#[102]⟩]:=SD.nil.put (by simp)
  have hF1:((DataW.map []:MD).put (D9 ⟨#[102]⟩) (.lit (.int .i64 0))).atKey (D9 (Cf t5.s)) (.lit (.int .i64 0))=.lit (.int .i64 0):=by rw [s5];exact hFS.at_ 0 (by simp) _
  have hF2:Maps.has ((DataW.map []:MD).put (D9 ⟨#[102]⟩) (.lit (.int .i64 0))) (D9 (Cf t5.s))=true:=by rw [s5];exact hFS.hasT (by simp)
  have hz5:(Cf t5.s).size<=maxLen:=by rw [s5];decide
  refine Bo 2 (Cl ?_)
  conv=>whnf
  (repeat' ((first|refine Ds (i:=0) (len:=0+1) ?_|refine Oc (flat:=[.string (Cf t5.s),.func (.func 201) #[] #[ptr y2.2.1.1,ptr y2.2.1.2]]) ?_|fail)<;>conv=>whnf))
  intro g6
  conv=>whnf
  (repeat' ((first|(refine Nv hF1 ?_;rw [hF2])|refine rB ?_|refine Cy ?_|refine Iw rfl (by kernel_rfl) ?_|fail)<;>conv=>whnf))
  refine cCF Ay5 (first:=[]) (args:=[.int .i64 ((0:Nat):Int)]) (caps:=[ptr y2.2.1.1,ptr y2.2.1.2]) (Aj4 (gP:=gP) (gX:=gX2) (t:=t21) (c:=⟨⟨some ⟨gp,0,none⟩,p.length,p.length⟩,⟨none,0,0⟩,y1.2,y3.mf,⟨some ⟨y2.1.1,0,none⟩,0+1,y2.1.2⟩,y3.tab.1,y3.tab.2.1,⟨some ⟨y2.2.2.1,0,none⟩,0+1,y2.2.2.2⟩,some bf,some bg,some y3.ls,some y3.hs⟩) (g1:=y2.2.1.1) (g3:=y2.2.1.2) (gE:=y2.1.1) (n:=0+1) (cp:=y2.1.2) (k:=0) (i:=0) (es:=[.int .i64 0]) (es':=[.int .i64 0]) rfl (by decide) rfl) ?_
  rintro ⟨⟩ -
  conv=>whnf
  (repeat' ((first|(refine wI (by simp only [Cj];omega) ?_)|fail)<;>conv=>whnf))
  refine Cl ?_
  conv=>whnf
  skip
  have h3n:y3.tab.1.n=3:=by
   have:=hy3.1.n
   rw [s2] at this
   exact this
  refine cC Bak (Auk (gP:=gP) (gX:=gX2) (t:=t21) (c:=⟨⟨some ⟨gp,0,none⟩,p.length,p.length⟩,⟨none,0,0⟩,y1.2,y3.mf,⟨some ⟨y2.1.1,0,none⟩,0+1,y2.1.2⟩,y3.tab.1,y3.tab.2.1,⟨some ⟨y2.2.2.1,0,none⟩,0+1,y2.2.2.2⟩,some bf,some bg,some y3.ls,some y3.hs⟩) (by show 0<y3.tab.1.n;omega) (by show y3.tab.1.n<1000000;omega)) ?_
  rintro sl' hsl
  conv=>whnf
  (repeat' ((first|refine rA ?_|refine Cy ?_|fail)<;>conv=>whnf))
  have e4:Hg (Cm [] (Cf t2.s)) (Cf t2.s)=0:=by rw [s2];rfl
  have e5:Hg (Cm (Cm [] (Cf t2.s)) ⟨#[102]⟩) ⟨#[102]⟩=1:=by rw [s2];rfl
  have e6:Hg (Cm (Cm (Cm [] (Cf t2.s)) ⟨#[102]⟩) ⟨#[104]⟩) ⟨#[104]⟩=2:=by rw [s2];rfl
  have e3:Cm (Cm (Cm [] (Cf t2.s)) ⟨#[102]⟩) ⟨#[104]⟩=[⟨#[103]⟩,⟨#[102]⟩,⟨#[104]⟩]:=by rw [s2];rfl
  rw [e4,e5,e6,e3]
  refine f2 ⟨sl',y1.2,y3.mf,y3.si,y3.gR,y3.cp,y2.1.1,y2.1.2⟩ ⟨hsl.trans h3n,hy1.2,hy3.2.1,hy3.2.2⟩ (hL:=?_)
  unfold MZ.facts
  repeat' (first|exact Sub.refl|exact Sub.nil|(apply Sub.cons;· repeat' (first|exact Rem.here|apply Rem.there))|apply Sub.skip)
end
end Go.Proofs.YtghmdfegfehhkaaGreatDoor
