/- Several texts of one claim in one file, made short: LP19 LP20 LP21 LP22 LP23 LP24 LP25. -/
import Derived.Test.YtghmdfegfehhkaaGreatDoorZ10
set_option maxRecDepth 100000
set_option maxHeartbeats 64000000
set_option linter.unusedVariables false
set_option linter.unusedSimpArgs false
namespace Go.Proofs.YtghmdfegfehhkaaGreatDoor
open Go.RowKit
section
variable {w0 w:World}{n:Nat}{F:Fm}{L L' L1:List Res}
theorem nuG {gl fn en si:Sl}{gN cN g1 g5 gS cS gT cT gR cR:Nat}:CS w0 175 [.pointer (some ⟨gN,0,none⟩),ptr g5,ptr g1] (Bk g5 [.slice (some ⟨gS,0,none⟩) 3 cS] 26::Bk g1 [.slice (some ⟨gT,0,none⟩) 3 cT,gl.v,fn.v,en.v] 30::Ow 9 1 ⟨some ⟨gS,0,none⟩,3,cS⟩ [.string ⟨#[102]⟩,.string ⟨#[103]⟩,.string ⟨#[104]⟩]::Ow 9 1 ⟨some ⟨gT,0,none⟩,3,cT⟩ [.string ⟨#[103]⟩,.string ⟨#[102]⟩,.string ⟨#[104]⟩]::Ow 3 1 ⟨some ⟨gN,0,none⟩,1,cN⟩ [.int .i64 0]::L) (fun _:Unit=>.tuple #[]) (fun _=>Bk g5 [.slice (some ⟨gS,0,none⟩) 3 cS] 26::Bk g1 [.slice (some ⟨gT,0,none⟩) 3 cT,gl.v,fn.v,en.v] 30::Ow 9 1 ⟨some ⟨gS,0,none⟩,3,cS⟩ [.string ⟨#[102]⟩,.string ⟨#[103]⟩,.string ⟨#[104]⟩]::Ow 9 1 ⟨some ⟨gT,0,none⟩,3,cT⟩ [.string ⟨#[103]⟩,.string ⟨#[102]⟩,.string ⟨#[104]⟩]::Ow 3 1 ⟨some ⟨gN,0,none⟩,1,cN⟩ [.int .i64 1]::L) (fun _=>True):=by
 refine Ai (args:=[.pointer (some ⟨gN,0,none⟩),ptr g5,ptr g1]) Tryz.func175 rfl Tryz.ntmps175 rfl ?_;conv=>whnf
 refine Ac8 [0,1,2,3,4,5] 9 ([Bk g5 [.slice (some ⟨gS,0,none⟩) 3 cS] 26,Bk g1 [.slice (some ⟨gT,0,none⟩) 3 cT,gl.v,fn.v,en.v] 30]) (by kernel_rfl) ?_;conv=>whnf
 (repeat' (first|exact True.intro|(refine And.intro ?_ ?_<;>conv=>whnf)|(first|(apply SbK.mk;(· repeat' (first|exact Sub.refl|exact Sub.nil|(apply Sub.cons;· repeat' (first|exact Rem.here|apply Rem.there))|apply Sub.skip)))|refine Ds (i:=0) (len:=3) ?_|refine Hq ?_|refine Yv ?_|(refine cC Zl (Bjq (g:=gS) (c:=cS)) ?_;rintro ⟨⟩ -)|refine rB ?_|fail)<;>conv=>whnf))
 all_goals exact f0 () trivial
theorem nuN {gl fn en si:Sl}{gN cN g1 g5 gS cS gT cT gR cR:Nat}:CS w0 175 [.pointer (some ⟨gN,0,none⟩),ptr g5,ptr g1] (Bk g5 [.slice (some ⟨gS,0,none⟩) 3 cS] 26::Bk g1 [.slice (some ⟨gT,0,none⟩) 3 cT,gl.v,fn.v,en.v] 30::Ow 9 1 ⟨some ⟨gS,0,none⟩,3,cS⟩ [.string ⟨#[102]⟩,.string ⟨#[103]⟩,.string ⟨#[104]⟩]::Ow 9 1 ⟨some ⟨gT,0,none⟩,3,cT⟩ [.string ⟨#[103]⟩,.string ⟨#[102]⟩,.string ⟨#[104]⟩]::Ow 83 5 ⟨some ⟨gN,0,none⟩,1,cN⟩ [.int .i64 1,.int .i64 0,.slice none 0 0,si.v,.slice (some ⟨gR,0,none⟩) 1 cR]::L) (fun _:Unit=>.tuple #[]) (fun _=>Bk g5 [.slice (some ⟨gS,0,none⟩) 3 cS] 26::Bk g1 [.slice (some ⟨gT,0,none⟩) 3 cT,gl.v,fn.v,en.v] 30::Ow 9 1 ⟨some ⟨gS,0,none⟩,3,cS⟩ [.string ⟨#[102]⟩,.string ⟨#[103]⟩,.string ⟨#[104]⟩]::Ow 9 1 ⟨some ⟨gT,0,none⟩,3,cT⟩ [.string ⟨#[103]⟩,.string ⟨#[102]⟩,.string ⟨#[104]⟩]::Ow 83 5 ⟨some ⟨gN,0,none⟩,1,cN⟩ [.int .i64 0,.int .i64 0,.slice none 0 0,si.v,.slice (some ⟨gR,0,none⟩) 1 cR]::L) (fun _=>True):=by
 refine Ai (args:=[.pointer (some ⟨gN,0,none⟩),ptr g5,ptr g1]) Tryz.func175 rfl Tryz.ntmps175 rfl ?_;conv=>whnf
 refine Ac8 [0,1,2,3,4,5] 9 ([Bk g5 [.slice (some ⟨gS,0,none⟩) 3 cS] 26,Bk g1 [.slice (some ⟨gT,0,none⟩) 3 cT,gl.v,fn.v,en.v] 30]) (by kernel_rfl) ?_;conv=>whnf
 (repeat' (first|exact True.intro|(refine And.intro ?_ ?_<;>conv=>whnf)|(first|(apply SbK.mk;(· repeat' (first|exact Sub.refl|exact Sub.nil|(apply Sub.cons;· repeat' (first|exact Rem.here|apply Rem.there))|apply Sub.skip)))|refine Ds (i:=1) (len:=3) ?_|refine Hq ?_|refine Yv ?_|(refine cC Zl (Bl8 (g:=gS) (c:=cS)) ?_;rintro ⟨⟩ -)|refine rB ?_|fail)<;>conv=>whnf))
 all_goals exact f0 () trivial
theorem nuS {gl fn en si:Sl}{gN cN g1 g5 gS cS gT cT gR cR:Nat}:CS w0 175 [.pointer (some ⟨gN,0,none⟩),ptr g5,ptr g1] (Bk g5 [.slice (some ⟨gS,0,none⟩) 3 cS] 26::Bk g1 [.slice (some ⟨gT,0,none⟩) 3 cT,gl.v,fn.v,en.v] 30::Ow 9 1 ⟨some ⟨gS,0,none⟩,3,cS⟩ [.string ⟨#[102]⟩,.string ⟨#[103]⟩,.string ⟨#[104]⟩]::Ow 9 1 ⟨some ⟨gT,0,none⟩,3,cT⟩ [.string ⟨#[103]⟩,.string ⟨#[102]⟩,.string ⟨#[104]⟩]::Ow 3 1 ⟨some ⟨gN,0,none⟩,1,cN⟩ [.int .i64 2]::L) (fun _:Unit=>.tuple #[]) (fun _=>Bk g5 [.slice (some ⟨gS,0,none⟩) 3 cS] 26::Bk g1 [.slice (some ⟨gT,0,none⟩) 3 cT,gl.v,fn.v,en.v] 30::Ow 9 1 ⟨some ⟨gS,0,none⟩,3,cS⟩ [.string ⟨#[102]⟩,.string ⟨#[103]⟩,.string ⟨#[104]⟩]::Ow 9 1 ⟨some ⟨gT,0,none⟩,3,cT⟩ [.string ⟨#[103]⟩,.string ⟨#[102]⟩,.string ⟨#[104]⟩]::Ow 3 1 ⟨some ⟨gN,0,none⟩,1,cN⟩ [.int .i64 2]::L) (fun _=>True):=by
 refine Ai (args:=[.pointer (some ⟨gN,0,none⟩),ptr g5,ptr g1]) Tryz.func175 rfl Tryz.ntmps175 rfl ?_;conv=>whnf
 refine Ac8 [0,1,2,3,4,5] 9 ([Bk g5 [.slice (some ⟨gS,0,none⟩) 3 cS] 26,Bk g1 [.slice (some ⟨gT,0,none⟩) 3 cT,gl.v,fn.v,en.v] 30]) (by kernel_rfl) ?_;conv=>whnf
 (repeat' (first|exact True.intro|(refine And.intro ?_ ?_<;>conv=>whnf)|(first|(apply SbK.mk;(· repeat' (first|exact Sub.refl|exact Sub.nil|(apply Sub.cons;· repeat' (first|exact Rem.here|apply Rem.there))|apply Sub.skip)))|refine Ds (i:=2) (len:=3) ?_|refine Hq ?_|refine Yv ?_|(refine cC Zl (Bj6 (g:=gS) (c:=cS)) ?_;rintro ⟨⟩ -)|refine rB ?_|fail)<;>conv=>whnf))
 all_goals exact f0 () trivial
theorem Aq8 {en:Sl}{gG cG gF cF gI cI g1 g5 gS cS gT cT gR cR:Nat}:CS w0 177 [.agg #[.slice (some ⟨gT,0,none⟩) 3 cT,.slice (some ⟨gG,0,none⟩) 1 cG,.slice (some ⟨gF,0,none⟩) 1 cF,en.v],.func (.func 175) #[] #[ptr g5,ptr g1]] (Bk g5 [.slice (some ⟨gS,0,none⟩) 3 cS] 26::Bk g1 [.slice (some ⟨gT,0,none⟩) 3 cT,.slice (some ⟨gG,0,none⟩) 1 cG,.slice (some ⟨gF,0,none⟩) 1 cF,en.v] 30::Ow 9 1 ⟨some ⟨gS,0,none⟩,3,cS⟩ [.string ⟨#[102]⟩,.string ⟨#[103]⟩,.string ⟨#[104]⟩]::Ow 9 1 ⟨some ⟨gT,0,none⟩,3,cT⟩ [.string ⟨#[103]⟩,.string ⟨#[102]⟩,.string ⟨#[104]⟩]::Ow 3 1 ⟨some ⟨gG,0,none⟩,1,cG⟩ [.int .i64 0]::Ow 83 5 ⟨some ⟨gF,0,none⟩,1,cF⟩ [.int .i64 1,.int .i64 0,.slice none 0 0,.slice (some ⟨gI,0,none⟩) 1 cI,.slice (some ⟨gR,0,none⟩) 1 cR]::Ow 3 1 ⟨some ⟨gI,0,none⟩,1,cI⟩ [.int .i64 2]::L) (fun _:Unit=>.tuple #[]) (fun _=>Bk g5 [.slice (some ⟨gS,0,none⟩) 3 cS] 26::Bk g1 [.slice (some ⟨gT,0,none⟩) 3 cT,.slice (some ⟨gG,0,none⟩) 1 cG,.slice (some ⟨gF,0,none⟩) 1 cF,en.v] 30::Ow 9 1 ⟨some ⟨gS,0,none⟩,3,cS⟩ [.string ⟨#[102]⟩,.string ⟨#[103]⟩,.string ⟨#[104]⟩]::Ow 9 1 ⟨some ⟨gT,0,none⟩,3,cT⟩ [.string ⟨#[103]⟩,.string ⟨#[102]⟩,.string ⟨#[104]⟩]::Ow 3 1 ⟨some ⟨gG,0,none⟩,1,cG⟩ [.int .i64 1]::Ow 83 5 ⟨some ⟨gF,0,none⟩,1,cF⟩ [.int .i64 0,.int .i64 0,.slice none 0 0,.slice (some ⟨gI,0,none⟩) 1 cI,.slice (some ⟨gR,0,none⟩) 1 cR]::Ow 3 1 ⟨some ⟨gI,0,none⟩,1,cI⟩ [.int .i64 2]::L) (fun _=>True):=by
 refine Ai (args:=[.agg #[.slice (some ⟨gT,0,none⟩) 3 cT,.slice (some ⟨gG,0,none⟩) 1 cG,.slice (some ⟨gF,0,none⟩) 1 cF,en.v],.func (.func 175) #[] #[ptr g5,ptr g1]]) Tryz.func177 rfl Tryz.ntmps177 rfl ?_;conv=>whnf
 intro g2
 conv=>whnf
 (repeat' ((first|(refine Kv ?_;intro g3)|refine rB ?_|fail)<;>conv=>whnf))
 refine Bo 2 (Cl ?_)
 conv=>whnf
 (repeat' ((first|refine Ds (i:=0) (len:=1) ?_|refine rB ?_|fail)<;>conv=>whnf))
 refine Bo 2 (Cl ?_)
 conv=>whnf
 (repeat' ((first|refine Ds (i:=0) (len:=1) ?_|(refine cCF Ag1 (first:=[]) (args:=[.pointer (some ⟨gG,0,none⟩)]) (caps:=[ptr g5,ptr g1]) (nuG (gl:=⟨some ⟨gG,0,none⟩,1,cG⟩) (fn:=⟨some ⟨gF,0,none⟩,1,cF⟩) (en:=en) (si:=⟨some ⟨gI,0,none⟩,1,cI⟩) (gN:=gG) (cN:=cG) (g1:=g1) (g5:=g5) (gS:=gS) (cS:=cS) (gT:=gT) (cT:=cT) (gR:=gR) (cR:=cR)) ?_;rintro ⟨⟩ -)|(refine wI (by simp only [Cj];omega) ?_)|fail)<;>conv=>whnf))
 refine Cl ?_
 conv=>whnf
 (repeat' ((first|(refine wI (by simp only [Cj];omega) ?_)|fail)<;>conv=>whnf))
 refine Cl ?_
 conv=>whnf
 (repeat' ((first|refine rB ?_|fail)<;>conv=>whnf))
 refine Bo 2 (Cl ?_)
 conv=>whnf
 (repeat' ((first|refine Ds (i:=0) (len:=1) ?_|(refine cCF Ag1 (first:=[]) (args:=[.pointer (some ⟨gF,0,none⟩)]) (caps:=[ptr g5,ptr g1]) (nuN (gl:=⟨some ⟨gG,0,none⟩,1,cG⟩) (fn:=⟨some ⟨gF,0,none⟩,1,cF⟩) (en:=en) (si:=⟨some ⟨gI,0,none⟩,1,cI⟩) (gN:=gF) (cN:=cF) (g1:=g1) (g5:=g5) (gS:=gS) (cS:=cS) (gT:=gT) (cT:=cT) (gR:=gR) (cR:=cR)) ?_;rintro ⟨⟩ -)|refine rB ?_|fail)<;>conv=>whnf))
 refine Ac8 [0,1,2,3,4,5,6,7,10] 2 ([Ow 83 5 ⟨some ⟨gF,0,none⟩,1,cF⟩ [.int .i64 0,.int .i64 0,.slice none 0 0,.slice (some ⟨gI,0,none⟩) 1 cI,.slice (some ⟨gR,0,none⟩) 1 cR]]) (by kernel_rfl) ?_;conv=>whnf
 (repeat' (first|exact True.intro|(refine And.intro ?_ ?_<;>conv=>whnf)|(first|(apply SbK.mk;(· repeat' (first|exact Sub.refl|exact Sub.nil|(apply Sub.cons;· repeat' (first|exact Rem.here|apply Rem.there))|apply Sub.skip)))|refine Hq ?_|(refine Kv ?_;intro g4)|fail)<;>conv=>whnf))
 refine Bo 3 (Cl ?_)
 conv=>whnf
 (repeat' ((first|refine Ds (i:=0) (len:=2) ?_|refine rB ?_|fail)<;>conv=>whnf))
 refine Bo 1 (Cl ?_)
 conv=>whnf
 (repeat' ((first|(refine wI (by simp only [Cj];omega) ?_)|fail)<;>conv=>whnf))
 refine Cl ?_
 conv=>whnf
 (repeat' ((first|refine Ds (i:=1) (len:=2) ?_|refine rB ?_|fail)<;>conv=>whnf))
 refine Bo 2 (Cl ?_)
 conv=>whnf
 (repeat' ((first|refine Ds (i:=0) (len:=1) ?_|(refine cCF Ag1 (first:=[]) (args:=[.pointer (some ⟨gI,0,none⟩)]) (caps:=[ptr g5,ptr g1]) (nuS (gl:=⟨some ⟨gG,0,none⟩,1,cG⟩) (fn:=⟨some ⟨gF,0,none⟩,1,cF⟩) (en:=en) (si:=⟨some ⟨gI,0,none⟩,1,cI⟩) (gN:=gI) (cN:=cI) (g1:=g1) (g5:=g5) (gS:=gS) (cS:=cS) (gT:=gT) (cT:=cT) (gR:=gR) (cR:=cR)) ?_;rintro ⟨⟩ -)|(refine wI (by simp only [Cj];omega) ?_)|fail)<;>conv=>whnf))
 refine Cl ?_
 conv=>whnf
 (repeat' ((first|(refine wI (by simp only [Cj];omega) ?_)|fail)<;>conv=>whnf))
 refine Cl ?_
 conv=>whnf
 (repeat' ((first|(refine wI (by simp only [Cj];omega) ?_)|fail)<;>conv=>whnf))
 refine Cl ?_
 conv=>whnf
 skip
 exact f0 () trivial
end
section
variable {w0 w:World}{n:Nat}{F:Fm}{L L' L1:List Res}{K:Value->List Res->Prop}{o:Oper}
theorem EvS.owB {e sz:Nat}{sl:Sl}{flat:List Value}(hm:Has L (Ow e sz sl flat))(h0:0<sl.n)(h:∀ g cap,sl=⟨some ⟨g,0,none⟩,sl.n,cap⟩->EvS w0 L F o K):EvS w0 L F o K:=⟨fun w hw=>by
 have hq:=hw.own hm
 rcases hq.2 with ⟨_,e0⟩|⟨g,cap,cur,hv,_⟩
 ·omega
 ·refine (h g cap ?_).go w hw
  obtain ⟨a,m,c⟩:=sl
  injection hv with h1 h2 h3
  subst h1 h3
  rfl⟩
theorem cS.owB {cd:Code}{Q:PoS}{e sz:Nat}{sl:Sl}{flat:List Value}(hm:Has L (Ow e sz sl flat))(h0:0<sl.n)(h:∀ g cap,sl=⟨some ⟨g,0,none⟩,sl.n,cap⟩->cS w0 n cd Q F L):cS w0 n cd Q F L:=.mk fun w hw=>by
 have hq:=hw.own hm
 rcases hq.2 with ⟨_,e0⟩|⟨g,cap,cur,hv,_⟩
 ·omega
 ·refine (h g cap ?_).go w hw
  obtain ⟨a,m,c⟩:=sl
  injection hv with h1 h2 h3
  subst h1 h3
  rfl
theorem Bg8 {z:MZ}(hz:z.Ok):CS w0 139 [z.v] (z.fG 103 102 104 0 1 2 L) (fun y:MZ=>.tuple #[y.v,Yw]) (fun y=>y.fG 102 103 104 1 0 2 L) MZ.Ok:=by
 obtain ⟨st,gl,fn,si,gR,cR,gE,cE⟩:=z
 have hz':=hz
 obtain ⟨h1,h2,h3,h4⟩:=hz'
 dsimp only at h1 h2 h3 h4
 unfold MZ.fG MZ.v
 dsimp only
 refine Ai (args:=[.agg #[st.v,gl.v,fn.v,.slice (some ⟨gE,0,none⟩) 1 cE]]) Tryz.func139 rfl Tryz.ntmps139 rfl ?_;conv=>whnf
 skip
 intro g1
 conv=>whnf
 skip
 intro g2
 conv=>whnf
 skip
 intro g3
 conv=>whnf
 (repeat' ((first|refine rA ?_|fail)<;>conv=>whnf))
 refine cC Awk (Ac0 (m:=⟨st,gl,fn,si,gR,cR,gE,cE⟩) (x:=103) (y:=102) (z:=104) (gi:=0) (fi:=1) (hi:=2) hz (by omega) (by omega) (by omega)) ?_
 rintro ⟨⟩ -
 conv=>whnf
 skip
 intro g4
 conv=>whnf
 (repeat' ((first|refine rB ?_|refine rA ?_|refine Cy ?_|fail)<;>conv=>whnf))
 refine cC Bf2 (Atz (z:=⟨st,gl,fn,si,gR,cR,gE,cE⟩) hz) ?_
 rintro ⟨st',gl',fn',si',gR',cR',gE',cE'⟩ hy
 have hy':=hy
 obtain ⟨k1,k2,k3,k4⟩:=hy'
 dsimp only at k1 k2 k3 k4
 conv=>whnf
 unfold MZ.facts MZ.v
 dsimp only
 refine EvS.owB (e:=9) (sz:=1) (sl:=st') (by repeat' (first|exact Has.here|refine Has.there ?_)) (by omega) fun gT cT0 e=>?_
 obtain ⟨xa,xm,cT⟩:=st'
 injection e with e1 _ e3
 subst e1 e3
 dsimp only at k1
 subst k1
 refine EvS.owB (e:=3) (sz:=1) (sl:=gl') (by repeat' (first|exact Has.here|refine Has.there ?_)) (by omega) fun gG cG0 e=>?_
 obtain ⟨xa,xm,cG⟩:=gl'
 injection e with e1 _ e3
 subst e1 e3
 dsimp only at k2
 subst k2
 refine EvS.owB (e:=83) (sz:=5) (sl:=fn') (by repeat' (first|exact Has.here|refine Has.there ?_)) (by omega) fun gF cF0 e=>?_
 obtain ⟨xa,xm,cF⟩:=fn'
 injection e with e1 _ e3
 subst e1 e3
 dsimp only at k3
 subst k3
 refine EvS.owB (e:=3) (sz:=1) (sl:=si') (by repeat' (first|exact Has.here|refine Has.there ?_)) (by omega) fun gI cI0 e=>?_
 obtain ⟨xa,xm,cI⟩:=si'
 injection e with e1 _ e3
 subst e1 e3
 dsimp only at k4
 subst k4
 (repeat' ((first|refine Cy ?_|fail)<;>conv=>whnf))
 intro g5
 conv=>whnf
 (repeat' ((first|refine rA ?_|fail)<;>conv=>whnf))
 refine cC Amz (Adq (x:=103) (y:=102) (z:=104) (gi:=0) (fi:=1) (hi:=2) (m:=⟨⟨some ⟨gT,0,none⟩,3,cT⟩,⟨some ⟨gG,0,none⟩,1,cG⟩,⟨some ⟨gF,0,none⟩,1,cF⟩,⟨some ⟨gI,0,none⟩,1,cI⟩,gR',cR',gE',cE'⟩) hy) ?_
 rintro yu hyu
 conv=>whnf
 refine cS.owB (e:=3) (sz:=1) (sl:=yu) (by repeat' (first|exact Has.here|refine Has.there ?_)) (by omega) fun gU cU0 e=>?_
 obtain ⟨xa,xm,cU⟩:=yu
 injection e with e1 _ e3
 subst e1 e3
 dsimp only at hyu
 subst hyu
 refine cS.own 9 1 ?_
 refine Bo 4 (Cl ?_)
 conv=>whnf
 (repeat' ((first|refine Ds (i:=0) (len:=3) ?_|refine Hq (flat:=[.int .i64 0,.int .i64 1,.int .i64 2]) ?_|fail)<;>conv=>whnf))
 refine Eg [0,1,2,3,4,5] 1 7 ([Bk g5 [.slice none 0 0] 26,Bk g1 [.slice (some ⟨gT,0,none⟩) 3 cT,.slice (some ⟨gG,0,none⟩) 1 cG,.slice (some ⟨gF,0,none⟩) 1 cF,.slice (some ⟨gE',0,none⟩) 1 cE'] 30,Ow 9 1 ⟨some ⟨gT,0,none⟩,3,cT⟩ [.string ⟨#[103]⟩,.string ⟨#[102]⟩,.string ⟨#[104]⟩]]) (by kernel_rfl) ?_;conv=>whnf
 (repeat' (first|exact True.intro|(refine And.intro ?_ ?_<;>conv=>whnf)|(first|(apply SbK.mk;(· repeat' (first|exact Sub.refl|exact Sub.nil|(apply Sub.cons;· repeat' (first|exact Rem.here|apply Rem.there))|apply Sub.skip)))|refine Ds (i:=0) (len:=3) ?_|refine Hq (flat:=[.string ⟨#[103]⟩,.string ⟨#[102]⟩,.string ⟨#[104]⟩]) ?_|(refine Kv ?_;intro gb0)|(refine Kc (sl:=⟨none,0,0⟩) (flat:=[]) ?_;intro gs0 cs0)|refine rB ?_|refine wI (by simp only [Cj];omega) ?_|refine Cy ?_|fail)<;>conv=>whnf))
 refine Cl ?_
 conv=>whnf
 (repeat' ((first|refine Ds (i:=1) (len:=3) ?_|refine Hq (flat:=[.int .i64 0,.int .i64 1,.int .i64 2]) ?_|fail)<;>conv=>whnf))
 refine Eg [0,1,2,3,4,5] 1 7 ([Bk g5 [.slice (some ⟨gs0,0,none⟩) (0+1) cs0] 26,Bk g1 [.slice (some ⟨gT,0,none⟩) 3 cT,.slice (some ⟨gG,0,none⟩) 1 cG,.slice (some ⟨gF,0,none⟩) 1 cF,.slice (some ⟨gE',0,none⟩) 1 cE'] 30,Ow 9 1 ⟨some ⟨gT,0,none⟩,3,cT⟩ [.string ⟨#[103]⟩,.string ⟨#[102]⟩,.string ⟨#[104]⟩]]) (by kernel_rfl) ?_;conv=>whnf
 (repeat' (first|exact True.intro|(refine And.intro ?_ ?_<;>conv=>whnf)|(first|(apply SbK.mk;(· repeat' (first|exact Sub.refl|exact Sub.nil|(apply Sub.cons;· repeat' (first|exact Rem.here|apply Rem.there))|apply Sub.skip)))|refine Ds (i:=1) (len:=3) ?_|refine Hq (flat:=[.string ⟨#[103]⟩,.string ⟨#[102]⟩,.string ⟨#[104]⟩]) ?_|(refine Kv ?_;intro gb1)|(refine Kc (sl:=⟨some ⟨gs0,0,none⟩,0+1,cs0⟩) (flat:=[]++[.string ⟨#[103]⟩]) ?_;intro gs1 cs1)|refine rB ?_|refine wI (by simp only [Cj];omega) ?_|refine Cy ?_|fail)<;>conv=>whnf))
 refine Cl ?_
 conv=>whnf
 (repeat' ((first|refine Ds (i:=2) (len:=3) ?_|refine Hq (flat:=[.int .i64 0,.int .i64 1,.int .i64 2]) ?_|fail)<;>conv=>whnf))
 refine Eg [0,1,2,3,4,5] 1 7 ([Bk g5 [.slice (some ⟨gs1,0,none⟩) (0+1+1) cs1] 26,Bk g1 [.slice (some ⟨gT,0,none⟩) 3 cT,.slice (some ⟨gG,0,none⟩) 1 cG,.slice (some ⟨gF,0,none⟩) 1 cF,.slice (some ⟨gE',0,none⟩) 1 cE'] 30,Ow 9 1 ⟨some ⟨gT,0,none⟩,3,cT⟩ [.string ⟨#[103]⟩,.string ⟨#[102]⟩,.string ⟨#[104]⟩]]) (by kernel_rfl) ?_;conv=>whnf
 (repeat' (first|exact True.intro|(refine And.intro ?_ ?_<;>conv=>whnf)|(first|(apply SbK.mk;(· repeat' (first|exact Sub.refl|exact Sub.nil|(apply Sub.cons;· repeat' (first|exact Rem.here|apply Rem.there))|apply Sub.skip)))|refine Ds (i:=2) (len:=3) ?_|refine Hq (flat:=[.string ⟨#[103]⟩,.string ⟨#[102]⟩,.string ⟨#[104]⟩]) ?_|(refine Kv ?_;intro gb2)|(refine Kc (sl:=⟨some ⟨gs1,0,none⟩,0+1+1,cs1⟩) (flat:=[]++[.string ⟨#[103]⟩]++[.string ⟨#[102]⟩]) ?_;intro gs2 cs2)|refine rB ?_|refine wI (by simp only [Cj];omega) ?_|refine Cy ?_|fail)<;>conv=>whnf))
 refine Cl ?_
 conv=>whnf
 (repeat' ((first|(refine cC Avz (Ar8 (g:=gs2) (c:=cs2)) ?_;rintro ⟨⟩ -)|(refine cC Az7 (As6 (g:=gs2) (c:=cs2)) ?_;rintro ⟨⟩ -)|(refine cC Bc2 (Aq8 (en:=⟨some ⟨gE',0,none⟩,1,cE'⟩) (gG:=gG) (cG:=cG) (gF:=gF) (cF:=cF) (gI:=gI) (cI:=cI) (g1:=g1) (g5:=g5) (gS:=gs2) (cS:=cs2) (gT:=gT) (cT:=cT) (gR:=gR') (cR:=cR')) ?_;rintro ⟨⟩ -)|refine rB ?_|refine rA ?_|refine Cy ?_|fail)<;>conv=>whnf))
 refine f2 (MZ.mk ⟨some ⟨gs2,0,none⟩,3,cs2⟩ ⟨some ⟨gG,0,none⟩,1,cG⟩ ⟨some ⟨gF,0,none⟩,1,cF⟩ ⟨some ⟨gI,0,none⟩,1,cI⟩ gR' cR' gE' cE') ⟨rfl,rfl,rfl,rfl⟩
end
section
variable {w0 w:World}{n:Nat}{F:Fm}{L L' L1:List Res}{K:Value->List Res->Prop}{o:Oper}
theorem Bmx {gB:Nat}:CS w0 105 [.slice (some ⟨gB,0,none⟩) 53 53] (TX gB gp::L) (fun y:MZ=>.tuple #[y.v,Yw]) (fun y=>y.fG 102 103 104 1 0 2 L) MZ.Ok:=by
 refine Ai (args:=[.slice (some ⟨gB,0,none⟩) 53 53]) Tryz.func105 rfl Tryz.ntmps105 rfl ?_;conv=>whnf
 intro g1
 conv=>whnf
 intro g2
 conv=>whnf
 skip
 refine cC Bd1 (Av0 (gB:=gB)) ?_
 rintro ⟨st,gl,fn,si,gR,cR,gE,cE⟩ hz
 conv=>whnf
 skip
 intro g3
 conv=>whnf
 skip
 intro g4
 conv=>whnf
 (repeat' ((first|refine rB ?_|refine rA ?_|refine Cy ?_|fail)<;>conv=>whnf))
 refine cC Bdy (Bg8 (z:=⟨st,gl,fn,si,gR,cR,gE,cE⟩) hz) ?_
 rintro ⟨st',gl',fn',si',gR',cR',gE',cE'⟩ hy
 conv=>whnf
 (repeat' ((first|refine Cy ?_|fail)<;>conv=>whnf))
 exact f2 ⟨st',gl',fn',si',gR',cR',gE',cE'⟩ hy
theorem Aa1 {z:MZ}(hz:z.Ok):CS w0 63 [z.v] (z.fG 102 103 104 1 0 2 L) (fun y:Unit=>.bool true) (fun _=>z.fG 102 103 104 1 0 2 L) (fun _=>True):=by
 obtain ⟨st,gl,fn,si,gR,cR,gE,cE⟩:=z
 obtain ⟨h1,h2,h3,h4⟩:=hz
 dsimp only at h1 h2 h3 h4
 unfold MZ.fG MZ.v
 dsimp only
 refine CS.owB (e:=9) (sz:=1) (sl:=st) Has.here (by omega) fun gS kS' e=>?_
 obtain ⟨xa,xm,kS⟩:=st
 injection e with e1 _ e3
 subst e1 e3
 dsimp only at h1
 subst h1
 refine Ai (args:=[.agg #[.slice (some ⟨gS,0,none⟩) 3 kS,gl.v,fn.v,.slice (some ⟨gE,0,none⟩) 1 cE]]) Tryz.func63 rfl Tryz.ntmps63 rfl ?_;conv=>whnf
 intro g1
 conv=>whnf
 (repeat' ((first|refine rB ?_|fail)<;>conv=>whnf))
 refine sMs (m:=3) (b:=1) ?_
 intro g3
 conv=>whnf
 (repeat' ((first|refine rA ?_|fail)<;>conv=>whnf))
 refine cC Amz (Adq (x:=102) (y:=103) (z:=104) (gi:=1) (fi:=0) (hi:=2) (m:=⟨⟨some ⟨gS,0,none⟩,3,kS⟩,gl,fn,si,gR,cR,gE,cE⟩) ⟨rfl,h2,h3,h4⟩) ?_
 rintro yu hyu
 conv=>whnf
 refine cS.owB (e:=3) (sz:=1) (sl:=yu) (by repeat' (first|exact Has.here|refine Has.there ?_)) (by omega) fun gU cU0 e=>?_
 obtain ⟨xa,xm,cU⟩:=yu
 injection e with e1 _ e3
 subst e1 e3
 dsimp only at hyu
 subst hyu
 refine Bo 4 (Cl ?_)
 conv=>whnf
 (repeat' ((first|refine Ds (i:=0) (len:=3) ?_|refine Ds (i:=1) (len:=3) ?_|refine Hq ?_|refine wI (by simp only [Cj];omega) ?_|refine Cy ?_|fail)<;>conv=>whnf))
 refine Cl ?_
 conv=>whnf
 (repeat' ((first|refine Ds (i:=1) (len:=3) ?_|refine Ds (i:=0) (len:=3) ?_|refine Hq ?_|refine wI (by simp only [Cj];omega) ?_|refine Cy ?_|fail)<;>conv=>whnf))
 refine Cl ?_
 conv=>whnf
 (repeat' ((first|refine Ds (i:=2) (len:=3) ?_|refine Hq ?_|refine wI (by simp only [Cj];omega) ?_|refine Cy ?_|fail)<;>conv=>whnf))
 refine Cl ?_
 conv=>whnf
 (repeat' ((first|refine rB ?_|fail)<;>conv=>whnf))
 refine Bo 4 (Cl ?_)
 conv=>whnf
 (repeat' ((first|refine Ds (i:=0) (len:=3) ?_|refine Hq ?_|refine rB ?_|refine wI (by simp only [Cj];omega) ?_|fail)<;>conv=>whnf))
 refine Cl ?_
 conv=>whnf
 (repeat' ((first|refine Ds (i:=1) (len:=3) ?_|refine Ds (i:=0) (len:=3) ?_|refine Hq ?_|refine rGe (v:=true) ?_|refine rB ?_|refine wI (by simp only [Cj];omega) ?_|fail)<;>conv=>whnf))
 refine Cl ?_
 conv=>whnf
 (repeat' ((first|refine Ds (i:=2) (len:=3) ?_|refine Ds (i:=1) (len:=3) ?_|refine Hq ?_|refine rGe (v:=true) ?_|refine rB ?_|refine wI (by simp only [Cj];omega) ?_|fail)<;>conv=>whnf))
 refine Cl ?_
 conv=>whnf
 skip
 exact f1 () trivial
theorem Agx {z:MZ}(hz:z.Ok):CS w0 28 [z.v] (z.fG 102 103 104 1 0 2 L) (fun y:Unit=>Yw) (fun _=>z.fG 102 103 104 1 0 2 L) (fun _=>True):=by
 obtain ⟨st,gl,fn,si,gR,cR,gE,cE⟩:=z
 refine Ai (args:=[.agg #[st.v,gl.v,fn.v,.slice (some ⟨gE,0,none⟩) 1 cE]]) Tryz.func28 rfl Tryz.ntmps28 rfl ?_;conv=>whnf
 intro g1
 conv=>whnf
 intro g2
 conv=>whnf
 (repeat' ((first|refine rA ?_|fail)<;>conv=>whnf))
 refine cC Awk (Ac0 (m:=⟨st,gl,fn,si,gR,cR,gE,cE⟩) (x:=102) (y:=103) (z:=104) (gi:=1) (fi:=0) (hi:=2) hz (by omega) (by omega) (by omega)) ?_
 rintro ⟨⟩ -
 conv=>whnf
 skip
 intro g3
 conv=>whnf
 (repeat' ((first|refine rB ?_|refine rA ?_|refine Cy ?_|fail)<;>conv=>whnf))
 refine cC Bj0 (Aa1 (z:=⟨st,gl,fn,si,gR,cR,gE,cE⟩) hz) ?_
 rintro ⟨⟩ -
 conv=>whnf
 (repeat' ((first|(refine cC Ax2 Af8 ?_;rintro ⟨⟩ -)|refine Cy ?_|fail)<;>conv=>whnf))
 exact f1 () trivial
end
section
variable {w0 w:World}{n:Nat}{F:Fm}{L L' L1:List Res}{K:Value->List Res->Prop}{o:Oper}{st:Sl}{ga sa:Option Addr}{gc sc gF cF gE cE gV cV gW cW gR cR:Nat}
theorem Bez:CS w0 67 [.agg #[st.v,.slice ga 1 gc,.slice (some ⟨gF,0,none⟩) 1 cF,.slice (some ⟨gE,0,none⟩) 1 cE,.slice (some ⟨gV,0,none⟩) 1 cV,.slice (some ⟨gW,0,none⟩) 1 cW,.int .i64 3,.int .i64 3],.int .i64 0] (L) (fun _:Unit=>.bool true) (fun _=>L) (fun _=>True):=by
 refine Ai (args:=[.agg #[st.v,.slice ga 1 gc,.slice (some ⟨gF,0,none⟩) 1 cF,.slice (some ⟨gE,0,none⟩) 1 cE,.slice (some ⟨gV,0,none⟩) 1 cV,.slice (some ⟨gW,0,none⟩) 1 cW,.int .i64 3,.int .i64 3],.int .i64 0]) Tryz.func67 rfl Tryz.ntmps67 rfl ?_;conv=>whnf
 intro g1
 conv=>whnf
 (repeat' ((first|refine rB ?_|fail)<;>conv=>whnf))
 exact f1 () trivial
theorem Ank:CS w0 66 [.agg #[st.v,.slice ga 1 gc,.slice (some ⟨gF,0,none⟩) 1 cF,.slice (some ⟨gE,0,none⟩) 1 cE,.slice (some ⟨gV,0,none⟩) 1 cV,.slice (some ⟨gW,0,none⟩) 1 cW,.int .i64 3,.int .i64 3],.int .i64 0] (Ow 83 5 ⟨some ⟨gF,0,none⟩,1,cF⟩ [.int .i64 0,.int .i64 0,.slice none 0 0,.slice sa 1 sc,.slice (some ⟨gR,0,none⟩) 1 cR]::Ow 3 1 ⟨some ⟨gV,0,none⟩,1,cV⟩ [.int .i64 1]::L) (fun _:Unit=>.int .i64 1) (fun _=>Ow 83 5 ⟨some ⟨gF,0,none⟩,1,cF⟩ [.int .i64 0,.int .i64 0,.slice none 0 0,.slice sa 1 sc,.slice (some ⟨gR,0,none⟩) 1 cR]::Ow 3 1 ⟨some ⟨gV,0,none⟩,1,cV⟩ [.int .i64 1]::L) (fun _=>True):=by
 refine Ai (args:=[.agg #[st.v,.slice ga 1 gc,.slice (some ⟨gF,0,none⟩) 1 cF,.slice (some ⟨gE,0,none⟩) 1 cE,.slice (some ⟨gV,0,none⟩) 1 cV,.slice (some ⟨gW,0,none⟩) 1 cW,.int .i64 3,.int .i64 3],.int .i64 0]) Tryz.func66 rfl Tryz.ntmps66 rfl ?_;conv=>whnf
 intro g1
 conv=>whnf
 (repeat' ((first|refine Ds (i:=0) (len:=1) ?_|refine Hq (flat:=[.int .i64 0,.int .i64 0,.slice none 0 0,.slice sa 1 sc,.slice (some ⟨gR,0,none⟩) 1 cR]) ?_|refine Hq (flat:=[.int .i64 1]) ?_|(refine cC Bd8 (Bez) ?_;rintro ⟨⟩ -)|refine rB ?_|refine rA ?_|refine wI (by simp only [Cj];omega) ?_|refine Iw rfl (by kernel_rfl) ?_|fail)<;>conv=>whnf))
 exact f1 () trivial
theorem Ao2:CS w0 32 [.agg #[st.v,.slice ga 1 gc,.slice (some ⟨gF,0,none⟩) 1 cF,.slice (some ⟨gE,0,none⟩) 1 cE,.slice (some ⟨gV,0,none⟩) 1 cV,.slice (some ⟨gW,0,none⟩) 1 cW,.int .i64 3,.int .i64 3],.int .i64 0,.int .i64 0] (Ow 83 5 ⟨some ⟨gF,0,none⟩,1,cF⟩ [.int .i64 0,.int .i64 0,.slice none 0 0,.slice sa 1 sc,.slice (some ⟨gR,0,none⟩) 1 cR]::Ow 3 1 ⟨some ⟨gV,0,none⟩,1,cV⟩ [.int .i64 1]::L) (fun _:Unit=>.int .i64 2) (fun _=>Ow 83 5 ⟨some ⟨gF,0,none⟩,1,cF⟩ [.int .i64 0,.int .i64 0,.slice none 0 0,.slice sa 1 sc,.slice (some ⟨gR,0,none⟩) 1 cR]::Ow 3 1 ⟨some ⟨gV,0,none⟩,1,cV⟩ [.int .i64 1]::L) (fun _=>True):=by
 refine Ai (args:=[.agg #[st.v,.slice ga 1 gc,.slice (some ⟨gF,0,none⟩) 1 cF,.slice (some ⟨gE,0,none⟩) 1 cE,.slice (some ⟨gV,0,none⟩) 1 cV,.slice (some ⟨gW,0,none⟩) 1 cW,.int .i64 3,.int .i64 3],.int .i64 0,.int .i64 0]) Tryz.func32 rfl Tryz.ntmps32 rfl ?_;conv=>whnf
 intro g1
 conv=>whnf
 (repeat' ((first|refine Ds (i:=0) (len:=1) ?_|refine Hq (flat:=[.int .i64 0,.int .i64 0,.slice none 0 0,.slice sa 1 sc,.slice (some ⟨gR,0,none⟩) 1 cR]) ?_|(refine cC Bd8 (Bez) ?_;rintro ⟨⟩ -)|(refine cC Au9 (Ank (sa:=sa) (sc:=sc) (gR:=gR) (cR:=cR)) ?_;rintro ⟨⟩ -)|refine rB ?_|refine rA ?_|refine wI (by simp only [Cj];omega) ?_|fail)<;>conv=>whnf))
 exact f1 () trivial
theorem Au1:CS w0 69 [.agg #[st.v,.slice ga 1 gc,.slice (some ⟨gF,0,none⟩) 1 cF,.slice (some ⟨gE,0,none⟩) 1 cE,.slice (some ⟨gV,0,none⟩) 1 cV,.slice (some ⟨gW,0,none⟩) 1 cW,.int .i64 3,.int .i64 3],.int .i64 0,.agg #[.int .u8 2,.int .i64 0]] (L) (fun _:Unit=>.int .i64 0) (fun _=>L) (fun _=>True):=by
 refine Ai (args:=[.agg #[st.v,.slice ga 1 gc,.slice (some ⟨gF,0,none⟩) 1 cF,.slice (some ⟨gE,0,none⟩) 1 cE,.slice (some ⟨gV,0,none⟩) 1 cV,.slice (some ⟨gW,0,none⟩) 1 cW,.int .i64 3,.int .i64 3],.int .i64 0,.agg #[.int .u8 2,.int .i64 0]]) Tryz.func69 rfl Tryz.ntmps69 rfl ?_;conv=>whnf
 intro g1
 conv=>whnf
 skip
 intro g2
 conv=>whnf
 (repeat' ((first|refine rB ?_|fail)<;>conv=>whnf))
 exact f1 () trivial
theorem At7:CS w0 69 [.agg #[st.v,.slice ga 1 gc,.slice (some ⟨gF,0,none⟩) 1 cF,.slice (some ⟨gE,0,none⟩) 1 cE,.slice (some ⟨gV,0,none⟩) 1 cV,.slice (some ⟨gW,0,none⟩) 1 cW,.int .i64 3,.int .i64 3],.int .i64 0,.agg #[.int .u8 4,.int .i64 0]] (L) (fun _:Unit=>.int .i64 (-1)) (fun _=>L) (fun _=>True):=by
 refine Ai (args:=[.agg #[st.v,.slice ga 1 gc,.slice (some ⟨gF,0,none⟩) 1 cF,.slice (some ⟨gE,0,none⟩) 1 cE,.slice (some ⟨gV,0,none⟩) 1 cV,.slice (some ⟨gW,0,none⟩) 1 cW,.int .i64 3,.int .i64 3],.int .i64 0,.agg #[.int .u8 4,.int .i64 0]]) Tryz.func69 rfl Tryz.ntmps69 rfl ?_;conv=>whnf
 intro g1
 conv=>whnf
 skip
 intro g2
 conv=>whnf
 (repeat' ((first|refine rB ?_|refine Iw rfl (by kernel_rfl) ?_|fail)<;>conv=>whnf))
 exact f1 () trivial
theorem Bcy:CS w0 70 [.agg #[st.v,.slice ga 1 gc,.slice (some ⟨gF,0,none⟩) 1 cF,.slice (some ⟨gE,0,none⟩) 1 cE,.slice (some ⟨gV,0,none⟩) 1 cV,.slice (some ⟨gW,0,none⟩) 1 cW,.int .i64 3,.int .i64 3],.int .i64 0,.agg #[.int .u8 4,.int .i64 0]] (Ow 83 5 ⟨some ⟨gF,0,none⟩,1,cF⟩ [.int .i64 0,.int .i64 0,.slice none 0 0,.slice sa 1 sc,.slice (some ⟨gR,0,none⟩) 1 cR]::Ow 3 1 ⟨some ⟨gV,0,none⟩,1,cV⟩ [.int .i64 1]::Ow 3 1 ⟨some ⟨gW,0,none⟩,1,cW⟩ [.int .i64 1]::L) (fun _:Unit=>.int .i64 2) (fun _=>Ow 83 5 ⟨some ⟨gF,0,none⟩,1,cF⟩ [.int .i64 0,.int .i64 0,.slice none 0 0,.slice sa 1 sc,.slice (some ⟨gR,0,none⟩) 1 cR]::Ow 3 1 ⟨some ⟨gV,0,none⟩,1,cV⟩ [.int .i64 1]::Ow 3 1 ⟨some ⟨gW,0,none⟩,1,cW⟩ [.int .i64 1]::L) (fun _=>True):=by
 refine Ai (args:=[.agg #[st.v,.slice ga 1 gc,.slice (some ⟨gF,0,none⟩) 1 cF,.slice (some ⟨gE,0,none⟩) 1 cE,.slice (some ⟨gV,0,none⟩) 1 cV,.slice (some ⟨gW,0,none⟩) 1 cW,.int .i64 3,.int .i64 3],.int .i64 0,.agg #[.int .u8 4,.int .i64 0]]) Tryz.func70 rfl Tryz.ntmps70 rfl ?_;conv=>whnf
 intro g1
 conv=>whnf
 skip
 intro g2
 conv=>whnf
 (repeat' ((first|refine Ds (i:=0) (len:=1) ?_|refine Hq (flat:=[.int .i64 0,.int .i64 0,.slice none 0 0,.slice sa 1 sc,.slice (some ⟨gR,0,none⟩) 1 cR]) ?_|refine Hq (flat:=[.int .i64 1]) ?_|(refine cC Bgy (Ao2 (sa:=sa) (sc:=sc) (gR:=gR) (cR:=cR)) ?_;rintro ⟨⟩ -)|refine rB ?_|refine rA ?_|refine wI (by simp only [Cj];omega) ?_|refine Iw rfl (by kernel_rfl) ?_|fail)<;>conv=>whnf))
 exact f1 () trivial
theorem Bbz:CS w0 31 [.agg #[st.v,.slice ga 1 gc,.slice (some ⟨gF,0,none⟩) 1 cF,.slice (some ⟨gE,0,none⟩) 1 cE,.slice (some ⟨gV,0,none⟩) 1 cV,.slice (some ⟨gW,0,none⟩) 1 cW,.int .i64 3,.int .i64 3],.int .i64 0] (Ow 83 5 ⟨some ⟨gF,0,none⟩,1,cF⟩ [.int .i64 0,.int .i64 0,.slice none 0 0,.slice sa 1 sc,.slice (some ⟨gR,0,none⟩) 1 cR]::Ow 3 1 ⟨some ⟨gV,0,none⟩,1,cV⟩ [.int .i64 1]::Ow 3 1 ⟨some ⟨gW,0,none⟩,1,cW⟩ [.int .i64 1]::L) (fun _:Unit=>.agg #[.bool true,.int .i64 1,.slice none 0 0]) (fun _=>Ow 83 5 ⟨some ⟨gF,0,none⟩,1,cF⟩ [.int .i64 0,.int .i64 0,.slice none 0 0,.slice sa 1 sc,.slice (some ⟨gR,0,none⟩) 1 cR]::Ow 3 1 ⟨some ⟨gV,0,none⟩,1,cV⟩ [.int .i64 1]::Ow 3 1 ⟨some ⟨gW,0,none⟩,1,cW⟩ [.int .i64 1]::L) (fun _=>True):=by
 refine Ai (args:=[.agg #[st.v,.slice ga 1 gc,.slice (some ⟨gF,0,none⟩) 1 cF,.slice (some ⟨gE,0,none⟩) 1 cE,.slice (some ⟨gV,0,none⟩) 1 cV,.slice (some ⟨gW,0,none⟩) 1 cW,.int .i64 3,.int .i64 3],.int .i64 0]) Tryz.func31 rfl Tryz.ntmps31 rfl ?_;conv=>whnf
 intro g1
 conv=>whnf
 skip
 intro g2
 conv=>whnf
 (repeat' ((first|(refine cC Au9 (Ank (sa:=sa) (sc:=sc) (gR:=gR) (cR:=cR)) ?_;rintro ⟨⟩ -)|refine rA ?_|fail)<;>conv=>whnf))
 intro g3
 conv=>whnf
 (repeat' ((first|refine Ds (i:=0) (len:=1) ?_|refine Hq (flat:=[.int .i64 0,.int .i64 0,.slice none 0 0,.slice sa 1 sc,.slice (some ⟨gR,0,none⟩) 1 cR]) ?_|refine rB ?_|refine Cy ?_|fail)<;>conv=>whnf))
 refine Bo 1 (Cl ?_)
 conv=>whnf
 (repeat' ((first|refine rA ?_|refine Cy ?_|fail)<;>conv=>whnf))
 exact f1 () trivial
theorem As1:CS w0 34 [.agg #[st.v,.slice ga 1 gc,.slice (some ⟨gF,0,none⟩) 1 cF,.slice (some ⟨gE,0,none⟩) 1 cE,.slice (some ⟨gV,0,none⟩) 1 cV,.slice (some ⟨gW,0,none⟩) 1 cW,.int .i64 3,.int .i64 3],.int .i64 0,.agg #[.int .u8 1,.int .u8 2,.int .i64 0,.int .u8 4,.int .i64 0,.slice none 0 0,.slice none 0 0]] (Ow 83 5 ⟨some ⟨gF,0,none⟩,1,cF⟩ [.int .i64 0,.int .i64 0,.slice none 0 0,.slice sa 1 sc,.slice (some ⟨gR,0,none⟩) 1 cR]::Ow 3 1 ⟨some ⟨gV,0,none⟩,1,cV⟩ [.int .i64 1]::Ow 3 1 ⟨some ⟨gW,0,none⟩,1,cW⟩ [.int .i64 1]::L) (fun g:Nat=>.slice (some ⟨g,0,none⟩) 1 1) (fun g=>Bk g [.int .u8 1,.int .i64 0,.int .i64 2,.slice none 0 0] 77::Ow 83 5 ⟨some ⟨gF,0,none⟩,1,cF⟩ [.int .i64 0,.int .i64 0,.slice none 0 0,.slice sa 1 sc,.slice (some ⟨gR,0,none⟩) 1 cR]::Ow 3 1 ⟨some ⟨gV,0,none⟩,1,cV⟩ [.int .i64 1]::Ow 3 1 ⟨some ⟨gW,0,none⟩,1,cW⟩ [.int .i64 1]::L) (fun _=>True):=by
 refine Ai (args:=[.agg #[st.v,.slice ga 1 gc,.slice (some ⟨gF,0,none⟩) 1 cF,.slice (some ⟨gE,0,none⟩) 1 cE,.slice (some ⟨gV,0,none⟩) 1 cV,.slice (some ⟨gW,0,none⟩) 1 cW,.int .i64 3,.int .i64 3],.int .i64 0,.agg #[.int .u8 1,.int .u8 2,.int .i64 0,.int .u8 4,.int .i64 0,.slice none 0 0,.slice none 0 0]]) Tryz.func34 rfl Tryz.ntmps34 rfl ?_;conv=>whnf
 intro g1
 conv=>whnf
 skip
 intro g2
 conv=>whnf
 (repeat' ((first|refine cQ Bdz (fun w _=>Oo (fun w0=>Au1) w) ?_|refine cQ Bdz (fun w _=>Oo (fun w0=>At7) w) ?_|(refine cC Bi6 (Bcy (sa:=sa) (sc:=sc) (gR:=gR) (cR:=cR)) ?_;rintro ⟨⟩ -)|(refine Kv ?_;intro g3)|refine rB ?_|refine rA ?_|refine Iw rfl (by kernel_rfl) ?_|fail)<;>conv=>whnf))
 exact f1 g3 trivial
end
section
variable {w0 w:World}{n:Nat}{F:Fm}{L L' L1:List Res}{K:Value->List Res->Prop}{o:Oper}
theorem Ao1 {z:MZ}{gF cF:Nat}(hz:z.Ok)(hF:z.fn=⟨some ⟨gF,0,none⟩,1,cF⟩):CS w0 29 [z.v] (z.fG 102 103 104 1 0 2 L) (fun y:(Nat×Nat)×(Nat×Nat)=>.agg #[z.st.v,z.gl.v,z.fn.v,.slice (some ⟨z.gE,0,none⟩) 1 z.cE,.slice (some ⟨y.1.1,0,none⟩) 1 y.1.2,.slice (some ⟨y.2.1,0,none⟩) 1 y.2.2,.int .i64 3,.int .i64 3])
  (fun y=>Ow 3 1 ⟨some ⟨y.1.1,0,none⟩,1,y.1.2⟩ [.int .i64 1]::Ow 3 1 ⟨some ⟨y.2.1,0,none⟩,1,y.2.2⟩ [.int .i64 1]::z.fG 102 103 104 1 0 2 L) (fun _=>True):=by
 obtain ⟨st,gl,fn,⟨sa,sm,sc⟩,gR,cR,gE,cE⟩:=z
 obtain ⟨h1,h2,h3,h4⟩:=hz
 dsimp only at h1 h2 h3 h4 hF
 subst hF h4
 obtain ⟨ga,gm,gc⟩:=gl
 dsimp only at h2
 subst h2
 unfold MZ.fG MZ.v
 dsimp only
 refine Ai (args:=[.agg #[st.v,.slice ga 1 gc,.slice (some ⟨gF,0,none⟩) 1 cF,.slice (some ⟨gE,0,none⟩) 1 cE]]) Tryz.func29 rfl Tryz.ntmps29 rfl ?_;conv=>whnf
 intro g1
 conv=>whnf
 skip
 intro g2
 conv=>whnf
 (repeat' ((first|refine rB ?_|refine rA ?_|fail)<;>conv=>whnf))
 intro g3
 conv=>whnf
 (repeat' ((first|refine rB ?_|refine Cy ?_|fail)<;>conv=>whnf))
 refine cS.own 3 1 (cS.own 3 1 ?_)
 refine Bo 2 (Cl ?_)
 conv=>whnf
 (repeat' ((first|refine Ds (i:=0) (len:=1) ?_|refine Oc (flat:=[.int .i64 0,.int .i64 0,.slice none 0 0,.slice sa 1 sc,.slice (some ⟨gR,0,none⟩) 1 cR]) ?_|fail)<;>conv=>whnf))
 intro g5
 conv=>whnf
 (repeat' ((first|refine Cy ?_|fail)<;>conv=>whnf))
 refine Ys (X:=(Nat×Nat)×(Nat×Nat)) (fun y=>[(1,ptr g1),(2,ptr g2),(3,ptr g3),(5,ptr g5),(16,.int .i64 1),(17,.int .i64 0)]) (fun y=>Bk g3 [st.v,.slice ga 1 gc,.slice (some ⟨gF,0,none⟩) 1 cF,.slice (some ⟨gE,0,none⟩) 1 cE,.slice (some ⟨y.1.1,0,none⟩) 1 y.1.2,.slice (some ⟨y.2.1,0,none⟩) 1 y.2.2,.int .i64 1,.int .i64 1] 95 ::
  Bk g5 [.int .i64 0,.int .i64 0,.slice none 0 0,.slice sa 1 sc,.slice (some ⟨gR,0,none⟩) 1 cR] 83::Ow 3 1 ⟨some ⟨y.1.1,0,none⟩,1,y.1.2⟩ [.int .i64 1]::Ow 3 1 ⟨some ⟨y.2.1,0,none⟩,1,y.2.2⟩ [.int .i64 1] ::
  Bk g2 [.slice none 0 0,.slice none 0 0,.slice none 0 0,.slice none 0 0,.slice none 0 0,.slice none 0 0,.int .i64 0,.int .i64 0] 95::RS st [⟨#[102]⟩,⟨#[103]⟩,⟨#[104]⟩]::Ow 3 1 ⟨ga,1,gc⟩ [.int .i64 1]::Ow 83 5 ⟨some ⟨gF,0,none⟩,1,cF⟩ [.int .i64 0,.int .i64 0,.slice none 0 0,.slice sa 1 sc,.slice (some ⟨gR,0,none⟩) 1 cR]::Ow 3 1 ⟨sa,1,sc⟩ [.int .i64 2] ::
  Ow 88 7 ⟨some ⟨gR,0,none⟩,1,cR⟩ [.int .u8 1,.int .u8 2,.int .i64 0,.int .u8 4,.int .i64 0,.slice none 0 0,.slice none 0 0]::Ow 3 1 ⟨some ⟨gE,0,none⟩,1,cE⟩ [.int .i64 0]::L) (fun _=>True) ?_ ?_
 ·conv=>whnf
  refine Eg [0,1,2,3,6,7,8,9] 5 13 ([Bk g3 [st.v,.slice ga 1 gc,.slice (some ⟨gF,0,none⟩) 1 cF,.slice (some ⟨gE,0,none⟩) 1 cE,.slice none 0 0,.slice none 0 0,.int .i64 1,.int .i64 1] 95]) (by kernel_rfl) ?_;conv=>whnf
  (repeat' (first|exact True.intro|(refine And.intro ?_ ?_<;>conv=>whnf)|(first|(apply SbK.mk;(· repeat' (first|exact Sub.refl|exact Sub.nil|(apply Sub.cons;· repeat' (first|exact Rem.here|apply Rem.there))|apply Sub.skip)))|(refine Kv (dst:=some 25) ?_;intro gb1)|(refine Kv (dst:=some 31) ?_;intro gb2)|(refine Kc (dst:=some 26) (sl:=⟨none,0,0⟩) (flat:=[]) ?_;intro gA cA)|(refine Kc (dst:=some 32) (sl:=⟨none,0,0⟩) (flat:=[]) ?_;intro gC cC')|refine rB ?_|refine Cy ?_|fail)<;>conv=>whnf))
  all_goals exact mS ((gA,cA),(gC,cC')) trivial
 ·rintro ⟨⟨gA,cA⟩,⟨gC,cC'⟩⟩ G' -
  conv=>whnf
  (repeat' ((first|refine rB ?_|refine wI (by simp only [Cj];omega) ?_|refine Cy ?_|fail)<;>conv=>whnf))
  refine Cl ?_
  conv=>whnf
  (repeat' ((first|refine rA ?_|refine Cy ?_|fail)<;>conv=>whnf))
  exact f1 ((gA,cA),(gC,cC')) trivial
end
section
variable {w0 w:World}{n:Nat}{F:Fm}{L L' L1:List Res}{K:Value->List Res->Prop}{o:Oper}{st:Sl}{ga sa:Option Addr}{gc sc gF cF gE cE gV cV gW cW gR cR:Nat}
theorem Arx:CS w0 30 [.agg #[st.v,.slice ga 1 gc,.slice (some ⟨gF,0,none⟩) 1 cF,.slice (some ⟨gE,0,none⟩) 1 cE,.slice (some ⟨gV,0,none⟩) 1 cV,.slice (some ⟨gW,0,none⟩) 1 cW,.int .i64 3,.int .i64 3]] (L) (fun _:Unit=>.int .i64 3) (fun _=>L) (fun _=>True):=by
 refine Ai (args:=[.agg #[st.v,.slice ga 1 gc,.slice (some ⟨gF,0,none⟩) 1 cF,.slice (some ⟨gE,0,none⟩) 1 cE,.slice (some ⟨gV,0,none⟩) 1 cV,.slice (some ⟨gW,0,none⟩) 1 cW,.int .i64 3,.int .i64 3]]) Tryz.func30 rfl Tryz.ntmps30 rfl ?_;conv=>whnf
 intro g1
 conv=>whnf
 (repeat' ((first|refine rB ?_|fail)<;>conv=>whnf))
 exact f1 () trivial
end
section
variable {w0:World}{L:List Res}
theorem Aw8 {z:MZ}(hz:z.Ok):CS w0 9 [z.v] (z.fG 102 103 104 1 0 2 L) (fun y:(Nat×Nat)×(Nat×Nat)=>.tuple #[.agg #[.int .i64 3,.slice (some ⟨y.1.1,0,none⟩) 3 y.1.2,.slice (some ⟨y.2.1,0,none⟩) 1 y.2.2],Yw])
  (fun y=>Ow 99 3 ⟨some ⟨y.1.1,0,none⟩,3,y.1.2⟩ [.bool false,.int .i64 0,.slice none 0 0,.bool true,.int .i64 1,.slice none 0 0,.bool false,.int .i64 2,.slice none 0 0]::Ow 77 4 ⟨some ⟨y.2.1,0,none⟩,1,y.2.2⟩ [.int .u8 1,.int .i64 0,.int .i64 2,.slice none 0 0]::z.fG 102 103 104 1 0 2 L) (fun _=>True):=by
 refine CS.owB (e:=83) (sz:=5) (sl:=z.fn) (Has.there (Has.there Has.here)) (by rw [hz.fn];decide) fun gF cF0 e=>?_
 obtain ⟨st,gl,⟨xa,xm,cF⟩,⟨sa,sm,sc⟩,gR,cR,gE,cE⟩:=z
 have hz':=hz
 obtain ⟨h1,h2,h3,h4⟩:=hz'
 dsimp only at h1 h2 h3 h4 e
 injection e with e1 _ e3
 subst e1 e3 h3 h4
 obtain ⟨ga,gm,gc⟩:=gl
 dsimp only at h2
 subst h2
 refine Ai (args:=[.agg #[st.v,.slice ga 1 gc,.slice (some ⟨gF,0,none⟩) 1 cF,.slice (some ⟨gE,0,none⟩) 1 cE]]) Tryz.func9 rfl Tryz.ntmps9 rfl ?_;conv=>whnf
 intro g1
 conv=>whnf
 skip
 intro g2
 conv=>whnf
 skip
 intro g3
 conv=>whnf
 (repeat' ((first|refine rA ?_|fail)<;>conv=>whnf))
 refine cC Bi3 (Agx (z:=⟨st,⟨ga,1,gc⟩,⟨some ⟨gF,0,none⟩,1,cF⟩,⟨sa,1,sc⟩,gR,cR,gE,cE⟩) hz) ?_
 rintro ⟨⟩ -
 conv=>whnf
 skip
 intro g4
 conv=>whnf
 (repeat' ((first|refine rB ?_|refine rA ?_|refine Cy ?_|fail)<;>conv=>whnf))
 refine cC Bd5 (Ao1 (z:=⟨st,⟨ga,1,gc⟩,⟨some ⟨gF,0,none⟩,1,cF⟩,⟨sa,1,sc⟩,gR,cR,gE,cE⟩) (gF:=gF) (cF:=cF) hz rfl) ?_
 rintro ⟨⟨gV,cV⟩,⟨gW,cW⟩⟩ -
 unfold MZ.fG
 dsimp only
 conv=>whnf
 skip
 intro g5
 conv=>whnf
 (repeat' ((first|(refine cC Bnx (Arx) ?_;rintro ⟨⟩ -)|refine rA ?_|refine Cy ?_|fail)<;>conv=>whnf))
 intro g6
 conv=>whnf
 (repeat' ((first|refine rB ?_|refine Cy ?_|fail)<;>conv=>whnf))
 refine cS.own 99 3 (cS.own 77 4 ?_)
 refine Bo 2 (Cl ?_)
 conv=>whnf
 (repeat' ((first|(refine Kv ?_;intro gb1)|(refine Kc (sl:=⟨none,0,0⟩) (flat:=[]) ?_;intro ga1 ca1)|refine rB ?_|refine wI (by simp only [Cj];omega) ?_|refine Cy ?_|fail)<;>conv=>whnf))
 refine Cl ?_
 conv=>whnf
 (repeat' ((first|refine rB ?_|fail)<;>conv=>whnf))
 refine Bo 2 (Cl ?_)
 conv=>whnf
 (repeat' ((first|refine Ds (i:=0) (len:=1) ?_|refine Oc (flat:=[.int .i64 0,.int .i64 0,.slice none 0 0,.slice sa 1 sc,.slice (some ⟨gR,0,none⟩) 1 cR]) ?_|fail)<;>conv=>whnf))
 intro g9
 conv=>whnf
 (repeat' ((first|refine Cy ?_|fail)<;>conv=>whnf))
 refine Eg [0,1,2,3] 2 6 ([Bk g6 [.int .i64 3,.slice (some ⟨ga1,0,none⟩) (0+1) ca1,.slice none 0 0] 35,Bk g5 [st.v,.slice ga 1 gc,.slice (some ⟨gF,0,none⟩) 1 cF,.slice (some ⟨gE,0,none⟩) 1 cE,.slice (some ⟨gV,0,none⟩) 1 cV,.slice (some ⟨gW,0,none⟩) 1 cW,.int .i64 3,.int .i64 3] 95]) (by kernel_rfl) ?_;conv=>whnf
 (repeat' (first|exact True.intro|(refine And.intro ?_ ?_<;>conv=>whnf)|(first|(apply SbK.mk;(· repeat' (first|exact Sub.refl|exact Sub.nil|(apply Sub.cons;· repeat' (first|exact Rem.here|apply Rem.there))|apply Sub.skip)))|(refine cC Bnq (Bbz (sa:=sa) (sc:=sc) (gR:=gR) (cR:=cR)) ?_;rintro ⟨⟩ -)|(refine Kv ?_;intro gb2)|(refine Kc (sl:=⟨some ⟨ga1,0,none⟩,0+1,ca1⟩) (flat:=[]++[.bool false,.int .i64 0,.slice none 0 0]) ?_;intro ga2 ca2)|refine rB ?_|refine rA ?_|refine Cy ?_|fail)<;>conv=>whnf))
 refine Bo 1 (Cl ?_)
 conv=>whnf
 (repeat' ((first|refine rB ?_|fail)<;>conv=>whnf))
 refine Bo 2 (Cl ?_)
 conv=>whnf
 skip
 refine Eg [0,1,2,3,4] 3 8 ([Bk g6 [.int .i64 3,.slice (some ⟨ga2,0,none⟩) (0+1+1) ca2,.slice none 0 0] 35,Bk g5 [st.v,.slice ga 1 gc,.slice (some ⟨gF,0,none⟩) 1 cF,.slice (some ⟨gE,0,none⟩) 1 cE,.slice (some ⟨gV,0,none⟩) 1 cV,.slice (some ⟨gW,0,none⟩) 1 cW,.int .i64 3,.int .i64 3] 95]) (by kernel_rfl) ?_;conv=>whnf
 (repeat' (first|exact True.intro|(refine And.intro ?_ ?_<;>conv=>whnf)|(first|(apply SbK.mk;(· repeat' (first|exact Sub.refl|exact Sub.nil|(apply Sub.cons;· repeat' (first|exact Rem.here|apply Rem.there))|apply Sub.skip)))|(refine cC Bgy (Ao2 (sa:=sa) (sc:=sc) (gR:=gR) (cR:=cR)) ?_;rintro ⟨⟩ -)|(refine Kv ?_;intro gb3)|(refine Kc (sl:=⟨some ⟨ga2,0,none⟩,0+1+1,ca2⟩) (flat:=[]++[.bool false,.int .i64 0,.slice none 0 0]++[.bool true,.int .i64 1,.slice none 0 0]) ?_;intro ga3 ca3)|refine rB ?_|refine rA ?_|refine wI (by simp only [Cj];omega) ?_|refine Cy ?_|fail)<;>conv=>whnf))
 refine Cl ?_
 conv=>whnf
 (repeat' ((first|(refine cC Alx (Ri (gR:=gR) (cR:=cR)) ?_;rintro ⟨gQ,cQ'⟩ -)|refine rB ?_|fail)<;>conv=>whnf))
 refine Bo 2 (Cl ?_)
 conv=>whnf
 (repeat' ((first|refine Ds (i:=0) (len:=1) ?_|refine Oc (flat:=[.int .i64 0,.int .i64 0,.int .u8 1,.int .u8 2,.int .i64 0,.int .u8 4,.int .i64 0,.slice none 0 0,.slice none 0 0]) ?_|fail)<;>conv=>whnf))
 intro g13
 conv=>whnf
 (repeat' ((first|refine Cy ?_|fail)<;>conv=>whnf))
 refine Eg [0,1,2,3,4,5] 1 7 ([Bk g6 [.int .i64 3,.slice (some ⟨ga3,0,none⟩) (0+1+1+1) ca3,.slice none 0 0] 35,Bk g5 [st.v,.slice ga 1 gc,.slice (some ⟨gF,0,none⟩) 1 cF,.slice (some ⟨gE,0,none⟩) 1 cE,.slice (some ⟨gV,0,none⟩) 1 cV,.slice (some ⟨gW,0,none⟩) 1 cW,.int .i64 3,.int .i64 3] 95,Bk g13 [.int .i64 0,.int .i64 0,.int .u8 1,.int .u8 2,.int .i64 0,.int .u8 4,.int .i64 0,.slice none 0 0,.slice none 0 0] 104]) (by kernel_rfl) ?_;conv=>whnf
 (repeat' (first|exact True.intro|(refine And.intro ?_ ?_<;>conv=>whnf)|(first|(apply SbK.mk;(· repeat' (first|exact Sub.refl|exact Sub.nil|(apply Sub.cons;· repeat' (first|exact Rem.here|apply Rem.there))|apply Sub.skip)))|(refine cC Bn1 (As1 (sa:=sa) (sc:=sc) (gR:=gR) (cR:=cR)) ?_;rintro gk -)|(refine Kc (sl:=⟨none,0,0⟩) (flat:=[]) ?_;intro gy cy)|refine rB ?_|refine rA ?_|refine wI (by simp only [Cj];omega) ?_|refine Cy ?_|fail)<;>conv=>whnf))
 refine Cl ?_
 conv=>whnf
 (repeat' ((first|(refine wI (by simp only [Cj];omega) ?_)|fail)<;>conv=>whnf))
 refine Cl ?_
 conv=>whnf
 (repeat' ((first|refine rA ?_|refine Cy ?_|fail)<;>conv=>whnf))
 exact f2 ((ga3,ca3),(gy,cy)) trivial
end
section
variable {w0 w:World}{n:Nat}{F:Fm}{L L' L1:List Res}{K:Value->List Res->Prop}{o:Oper}{st:Sl}{ga sa:Option Addr}{gc sc gF cF gE cE gV cV gW cW gR cR:Nat}
theorem rMx {Kq:Value->Prop}{dst:Option Nat}{ty:TypeId}{pos:String}{after:Array Edge}{guard:Option (Nat×Bool)}{c:Call}{x y:Operand}{ki:IntKind}{a b m:Int}(k:Kq (.int ki m))(hcal:c.callee=.builtin .max:=by exact rfl)(hargs:c.args.toList=[x,y]:=by exact rfl)(hx:ev F x=.int ki a:=by exact rfl)(hy:ev F y=.int ki b:=by exact rfl)(hm:(if b>a then b else a)=m:=by decide):QuS w0 L F ⟨dst,.call c,ty,pos,after,guard⟩ Kq:=by
 refine .val (fun w hw=>?_) k
 rw [<- hm]
 exact Rj rfl hcal hargs hx hy
theorem Agy:CS w0 97 [.agg #[.int .i64 0,.int .i64 0,.slice none 0 0,.slice sa 1 sc,.slice (some ⟨gR,0,none⟩) 1 cR]] (Ow 88 7 ⟨some ⟨gR,0,none⟩,1,cR⟩ [.int .u8 1,.int .u8 2,.int .i64 0,.int .u8 4,.int .i64 0,.slice none 0 0,.slice none 0 0]::L) (fun _:Unit=>.slice none 0 0) (fun _=>Ow 88 7 ⟨some ⟨gR,0,none⟩,1,cR⟩ [.int .u8 1,.int .u8 2,.int .i64 0,.int .u8 4,.int .i64 0,.slice none 0 0,.slice none 0 0]::L) (fun _=>True):=by
 refine Ai (args:=[.agg #[.int .i64 0,.int .i64 0,.slice none 0 0,.slice sa 1 sc,.slice (some ⟨gR,0,none⟩) 1 cR]]) Tryz.func97 rfl Tryz.ntmps97 rfl ?_;conv=>whnf
 intro g1
 conv=>whnf
 (repeat' ((first|(refine cC Alx (Ri (gR:=gR) (cR:=cR)) ?_;rintro ⟨gQ,cQ'⟩ -)|refine rB ?_|fail)<;>conv=>whnf))
 refine Bo 2 (Cl ?_)
 conv=>whnf
 (repeat' ((first|refine Ds (i:=0) (len:=1) ?_|refine Oc (flat:=[.int .i64 0,.int .i64 0,.int .u8 1,.int .u8 2,.int .i64 0,.int .u8 4,.int .i64 0,.slice none 0 0,.slice none 0 0]) ?_|fail)<;>conv=>whnf))
 intro g2
 conv=>whnf
 (repeat' ((first|refine rB ?_|refine wI (by simp only [Cj];omega) ?_|refine Cy ?_|fail)<;>conv=>whnf))
 refine Cl ?_
 conv=>whnf
 skip
 exact f1 () trivial
theorem Afx:CS w0 164 [.int .u64 0] (L) (fun _:Unit=>.int .i64 0) (fun _=>L) (fun _=>True):=by
 refine Ai (args:=[.int .u64 0]) Tryz.func164 rfl Tryz.ntmps164 rfl ?_;conv=>whnf
 (repeat' ((first|refine rIs (i:=0) (v:=0) ?_|(refine wI (by simp only [Cj];omega) ?_)|fail)<;>conv=>whnf))
 exact f1 () trivial
theorem Aqz:CS w0 136 [.int .u64 0] (L) (fun _:Unit=>.int .i64 0) (fun _=>L) (fun _=>True):=by
 refine Ai (args:=[.int .u64 0]) Tryz.func136 rfl Tryz.ntmps136 rfl ?_;conv=>whnf
 (repeat' ((first|(refine cC Ao5 (Afx) ?_;rintro ⟨⟩ -)|fail)<;>conv=>whnf))
 exact f1 () trivial
theorem Bk6:CS w0 155 [.slice none 0 0,.int .i64 0,.int .i64 0,.func (.func 100) #[] #[]] (L) (fun _:Unit=>.tuple #[]) (fun _=>L) (fun _=>True):=by
 refine Ai (args:=[.slice none 0 0,.int .i64 0,.int .i64 0,.func (.func 100) #[] #[]]) Tryz.func155 rfl Tryz.ntmps155 rfl ?_;conv=>whnf
 (repeat' ((first|(refine wI (by simp only [Cj];omega) ?_)|fail)<;>conv=>whnf))
 refine Bo 1 (Cl ?_)
 conv=>whnf
 skip
 exact f0 () trivial
theorem Bi9:CS w0 135 [.slice none 0 0,.int .i64 0,.int .i64 0,.int .i64 0,.func (.func 100) #[] #[]] (L) (fun _:Unit=>.tuple #[]) (fun _=>L) (fun _=>True):=by
 refine Ai (args:=[.slice none 0 0,.int .i64 0,.int .i64 0,.int .i64 0,.func (.func 100) #[] #[]]) Tryz.func135 rfl Tryz.ntmps135 rfl ?_;conv=>whnf
 skip
 refine Bo 1 (Cl ?_)
 conv=>whnf
 (repeat' ((first|(refine cC Az5 (Bk6) ?_;rintro ⟨⟩ -)|(refine wI (by simp only [Cj];omega) ?_)|fail)<;>conv=>whnf))
 exact f0 () trivial
theorem Auq:CS w0 99 [.slice none 0 0,.func (.func 100) #[] #[]] (L) (fun _:Unit=>.tuple #[]) (fun _=>L) (fun _=>True):=by
 refine Ai (args:=[.slice none 0 0,.func (.func 100) #[] #[]]) Tryz.func99 rfl Tryz.ntmps99 rfl ?_;conv=>whnf
 (repeat' ((first|(refine cC Amx (Aqz) ?_;rintro ⟨⟩ -)|(refine cC Be6 (Bi9) ?_;rintro ⟨⟩ -)|(refine wI (by simp only [Cj];omega) ?_)|fail)<;>conv=>whnf))
 exact f0 () trivial
theorem Bc3:CS w0 103 [.slice none 0 0] (L) (fun _:Unit=>.slice none 0 0) (fun _=>L) (fun _=>True):=by
 refine Ai (args:=[.slice none 0 0]) Tryz.func103 rfl Tryz.ntmps103 rfl ?_;conv=>whnf
 skip
 exact f1 () trivial
end
section
variable {w0:World}{L:List Res}
theorem Al4 {z:MZ}{pv:Value}{A:Option Addr}{m c:Nat}(hz:z.Ok)(hp:pv=.slice A m c):CS w0 50 [z.v,pv] (z.fG 102 103 104 1 0 2 L) (fun _:Unit=>.slice none 0 0)
  (fun _=>z.fG 102 103 104 1 0 2 L) (fun _=>True):=by
 subst hp
 refine CS.owB (e:=83) (sz:=5) (sl:=z.fn) (Has.there (Has.there Has.here)) (by rw [hz.fn];decide) fun gF cF0 e=>?_
 obtain ⟨st,gl,⟨xa,xm,cF⟩,⟨sa,sm,sc⟩,gR,cR,gE,cE⟩:=z
 have hz':=hz
 obtain ⟨h1,h2,h3,h4⟩:=hz'
 dsimp only at h1 h2 h3 h4 e
 injection e with e1 _ e3
 subst e1 e3 h3 h4
 refine Ai (args:=[.agg #[st.v,gl.v,.slice (some ⟨gF,0,none⟩) 1 cF,.slice (some ⟨gE,0,none⟩) 1 cE],.slice A m c]) Tryz.func50 rfl Tryz.ntmps50 rfl ?_;conv=>whnf
 intro g2
 conv=>whnf
 (repeat' ((first|refine rA ?_|fail)<;>conv=>whnf))
 refine cC Bd5 (Ao1 (z:=⟨st,gl,⟨some ⟨gF,0,none⟩,1,cF⟩,⟨sa,1,sc⟩,gR,cR,gE,cE⟩) (gF:=gF) (cF:=cF) hz rfl) ?_
 rintro ⟨⟨gV,cV⟩,⟨gW,cW⟩⟩ -
 unfold MZ.fG
 dsimp only
 conv=>whnf
 skip
 intro g5
 conv=>whnf
 (repeat' ((first|refine rB ?_|refine Cy ?_|fail)<;>conv=>whnf))
 refine Bo 2 (Cl ?_)
 conv=>whnf
 (repeat' ((first|refine Ds (i:=0) (len:=1) ?_|refine Oc (flat:=[.int .i64 0,.int .i64 0,.slice none 0 0,.slice sa 1 sc,.slice (some ⟨gR,0,none⟩) 1 cR]) ?_|fail)<;>conv=>whnf))
 intro g8
 conv=>whnf
 (repeat' ((first|(refine cC Boq (Agy (sa:=sa) (sc:=sc) (gR:=gR) (cR:=cR)) ?_;rintro ⟨⟩ -)|refine rA ?_|refine Cy ?_|fail)<;>conv=>whnf))
 refine Bo 1 (Cl ?_)
 conv=>whnf
 (repeat' ((first|(refine wI (by simp only [Cj];omega) ?_)|fail)<;>conv=>whnf))
 refine Cl ?_
 conv=>whnf
 (repeat' ((first|(refine cC Bj5 (Auq) ?_;rintro ⟨⟩ -)|(refine cC Avy (Bc3) ?_;rintro ⟨⟩ -)|fail)<;>conv=>whnf))
 exact f1 () trivial
theorem Asq {g7 g8 gM:Nat}:CS w0 104 [.int .i64 0,ptr g7,ptr g8] (Bk g7 [.slice (some ⟨gM,0,none⟩) 1 1] 113::Bk gM [.bool false] 4::Bk g8 [.slice none 0 0] 27::L) (fun _:Nat×Nat=>.tuple #[])
  (fun y=>Bk g7 [.slice (some ⟨gM,0,none⟩) 1 1] 113::Bk gM [.bool true] 4::Bk g8 [.slice (some ⟨y.1,0,none⟩) 1 y.2] 27::Ow 3 1 ⟨some ⟨y.1,0,none⟩,1,y.2⟩ [.int .i64 0]::L) (fun _=>True):=by
 refine Ai (args:=[.int .i64 0,ptr g7,ptr g8]) Tryz.func104 rfl Tryz.ntmps104 rfl ?_;conv=>whnf
 (repeat' ((first|refine rB ?_|refine rX0 ?_|fail)<;>conv=>whnf))
 refine cS.own 3 1 ?_
 refine Eg [0,1,2,3] 2 6 ([Bk g7 [.slice (some ⟨gM,0,none⟩) 1 1] 113,Bk g8 [.slice none 0 0] 27]) (by kernel_rfl) ?_;conv=>whnf
 (repeat' (first|exact True.intro|(refine And.intro ?_ ?_<;>conv=>whnf)|(first|(apply SbK.mk;(· repeat' (first|exact Sub.refl|exact Sub.nil|(apply Sub.cons;· repeat' (first|exact Rem.here|apply Rem.there))|apply Sub.skip)))|refine Ds (i:=0) (len:=1) ?_|(refine Kv ?_;intro gb)|(refine Kc (sl:=⟨none,0,0⟩) (flat:=[]) ?_;intro gw cw)|refine rB ?_|refine Cy ?_|fail)<;>conv=>whnf))
 exact f0 (gw,cw) trivial
theorem Alq {gE cE:Nat}:CS w0 51 [.int .i64 1,.slice (some ⟨gE,0,none⟩) 1 cE,.slice none 0 0] (Ow 3 1 ⟨some ⟨gE,0,none⟩,1,cE⟩ [.int .i64 0]::L) (fun y:Nat×Nat=>.slice (some ⟨y.1,0,none⟩) 1 y.2)
  (fun y=>Ow 3 1 ⟨some ⟨y.1,0,none⟩,1,y.2⟩ [.int .i64 0]::Ow 3 1 ⟨some ⟨gE,0,none⟩,1,cE⟩ [.int .i64 0]::L) (fun _=>True):=by
 refine Ai (args:=[.int .i64 1,.slice (some ⟨gE,0,none⟩) 1 cE,.slice none 0 0]) Tryz.func51 rfl Tryz.ntmps51 rfl ?_;conv=>whnf
 (repeat' ((first|refine rMx (m:=1) ?_|fail)<;>conv=>whnf))
 refine sMs (m:=1) (b:=1) ?_
 intro gM
 conv=>whnf
 skip
 intro g7
 conv=>whnf
 (repeat' ((first|refine Cy ?_|fail)<;>conv=>whnf))
 intro g8
 conv=>whnf
 skip
 refine Bo 2 (Cl ?_)
 conv=>whnf
 (repeat' ((first|refine Ds (i:=0) (len:=1) ?_|refine Hq ?_|fail)<;>conv=>whnf))
 refine cCF Axx (first:=[]) (args:=[.int .i64 0]) (caps:=[ptr g7,ptr g8]) (Asq (g7:=g7) (g8:=g8) (gM:=gM)) ?_
 rintro ⟨gw,cw⟩ -
 conv=>whnf
 (repeat' ((first|(refine wI (by simp only [Cj];omega) ?_)|fail)<;>conv=>whnf))
 refine Cl ?_
 conv=>whnf
 skip
 refine Bo 2 (Cl ?_)
 conv=>whnf
 (repeat' ((first|refine Ds (i:=0) (len:=1) ?_|refine Hq ?_|refine rB ?_|refine wI (by simp only [Cj];omega) ?_|refine Cy ?_|refine rCH ?_|fail)<;>conv=>whnf))
 refine Bo 1 (Cl ?_)
 conv=>whnf
 skip
 refine Cl ?_
 conv=>whnf
 (repeat' ((first|refine rB ?_|fail)<;>conv=>whnf))
 refine cS.own 3 1 ?_
 refine Bo 2 (Cl ?_)
 conv=>whnf
 (repeat' ((first|refine Ds (i:=0) (len:=1) ?_|(refine Kv ?_;intro gb)|(refine Kc (sl:=⟨none,0,0⟩) (flat:=[]) ?_;intro gr cr)|refine rB ?_|refine wI (by simp only [Cj];omega) ?_|fail)<;>conv=>whnf))
 refine Cl ?_
 conv=>whnf
 skip
 exact f1 (gr,cr) trivial
end
end Go.Proofs.YtghmdfegfehhkaaGreatDoor
