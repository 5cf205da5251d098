/- Several texts of one claim in one file, made short: LX04 EW17 S5 S6 LP01 LP02 LP03. -/
import Derived.Test.YtghmdfegfehhkaaGreatDoorZ7
import Derived.Test.YtghmdfegfehhkaaGreatDoorZ3
import Derived.Maps.RangeWalk
import Derived.Maps.OwnSet
import Derived.StringKeys
import Derived.WideKeyEntry
set_option maxRecDepth 100000
set_option maxHeartbeats 64000000
set_option linter.unusedVariables false
set_option linter.unusedSimpArgs false
namespace Go.Proofs.YtghmdfegfehhkaaGreatDoor
open Go.RowKit
structure Tok where
 k:Nat
 m:Nat
 s:List UInt8
 a:Nat
def Bfx (t:Tok):List Value:=[.int .u8 (t.k:Int),.int .u8 (t.m:Int),.string (Cf t.s),.int .i64 (t.a:Int)]
def Iu:List UInt8:=[59,61,38,42,40,41,44,123,125]
def Lo:List UInt8:=[37,36,64,35]
def Yy (c:UInt8):Prop:=97<=c.toNat/\c.toNat<=122
inductive TokB (p:List UInt8)(b:Nat):Tok->Nat->Prop
 |fin (h:b=p.length):TokB p b ⟨0,0,[],b⟩ b
 |sign (h:b<p.length) (hs:p[b]! ∈ Iu):TokB p b ⟨3,0,[p[b]!],b⟩ (b+1)
 |name {c:Nat} (h:b<p.length) (hs:p[b]! ∈ Lo) (hc:b+1<c) (hn:c<=p.length) (h0:isL (p[b+1]!.toNat:Int)=true) (h1:∀ i,b+1<i->i<c->Yu p[i]!) (he:c<p.length->¬Yu p[c]!):TokB p b ⟨2,p[b]!.toNat,(p.drop (b+1)).take (c - (b+1)),b⟩ c
 |word {c:Nat} (hc:b<c) (hn:c<=p.length) (h1:∀ i,b<=i->i<c->Yy p[i]!) (he:c<p.length->¬Yy p[c]!):TokB p b ⟨1,0,(p.drop b).take (c - b),b⟩ c
structure TokAt (p:List UInt8)(a:Nat)(t:Tok)(c:Nat):Prop where
 ex:∃ b,a<=b/\b<=p.length/\(∀ i,a<=i->i<b->Ej p[i]!)/\TokB p b t c
theorem Ks:∀ c∈Iu,¬Ej c/\c≠47/\Utf8.encode (c.toNat:Int)=Cf [c]:=by
 intro c hc
 simp only [Iu,List.mem_cons,List.not_mem_nil,or_false] at hc
 rcases hc with rfl|rfl|rfl|rfl|rfl|rfl|rfl|rfl|rfl<;>exact ⟨by simp [Ej],by decide,by decide +kernel⟩
theorem Kh:∀ c∈Lo,¬Ej c/\c≠47/\c∉Iu:=by
 intro c hc
 simp only [Lo,List.mem_cons,List.not_mem_nil,or_false] at hc
 rcases hc with rfl|rfl|rfl|rfl<;>exact ⟨by simp [Ej],by decide,by decide⟩
theorem Ki {c:UInt8}(h:Yy c):¬ Ej c/\c≠47/\c∉Iu/\c∉Lo:=by
 have key:∀ d:UInt8,d.toNat<97\/122<d.toNat->c≠d:=fun d hd e=>by subst e;unfold Yy at h;omega
 refine ⟨?_,key _ (by decide),?_,?_⟩
 ·rintro (h|h|h|h)<;>exact key _ (by decide) h
 ·intro hm
  simp only [Iu,List.mem_cons,List.not_mem_nil,or_false] at hm
  rcases hm with h|h|h|h|h|h|h|h|h<;>exact key _ (by decide) h
 ·intro hm
  simp only [Lo,List.mem_cons,List.not_mem_nil,or_false] at hm
  rcases hm with h|h|h|h<;>exact key _ (by decide) h
theorem ixS {c:UInt8}(l:List UInt8):c∈l->0<=Lib.indexByte l (c.toNat:Int).toNat.toUInt8:=fun h=>ix_ge.2 (by rw [Nl];exact h)
theorem ixN {c:UInt8}(l:List UInt8):c∉l->¬0<=Lib.indexByte l (c.toNat:Int).toNat.toUInt8:=fun h h1=>h (by have:=ix_ge.1 h1;rwa [Nl] at this)
section
variable {w0:World}{L:List Res}{gX gp:Nat}{p:List UInt8}
theorem At5 (a c:Nat)(t:Tok)(hp:p.length<=4611686018427387904)(ht:TokAt p a t c) :
  CS w0 197 [.pointer (some ⟨gX,0,none⟩)] (LX gX gp p a::TX gp p::L) (fun _:Unit=>.tuple #[.agg (Bfx t).toArray,.int .i64 0,.int .i64 0]) (fun _=>LX gX gp p c::TX gp p::L) (fun _=>True):=by
 obtain ⟨b,hab,hbn,hbl,hB⟩:=ht.ex
 have he:b<p.length->¬Ej p[b]! /\ p[b]! ≠ 47:=fun hlt=>by
  cases hB with
  |fin h=>omega
  |sign h hs=>exact ⟨(Ks _ hs).1,(Ks _ hs).2.1⟩
  |name h hs _ _ _ _ _=>exact ⟨(Kh _ hs).1,(Kh _ hs).2.1⟩
  |word hc _ h1 _=>exact ⟨(Ki (h1 b (Nat.le_refl _) hc)).1,(Ki (h1 b (Nat.le_refl _) hc)).2.1⟩
 refine Ai (args:=[.pointer (some ⟨gX,0,none⟩)]) Tryz.func197 rfl Tryz.ntmps197 rfl ?_;conv=>whnf
 intro g2
 conv=>whnf
 (repeat' ((first|refine rPn ?_|fail)<;>conv=>whnf))
 refine cC Aw0 (Ajz a b hp hab hbn hbl he) ?_
 rintro ⟨⟩ -
 conv=>whnf
 (repeat' ((first|refine rB ?_|fail)<;>conv=>whnf))
 intro g6
 conv=>whnf
 (repeat' ((first|refine rB ?_|refine Cy ?_|refine Iw rfl (by kernel_rfl) ?_|fail)<;>conv=>whnf))
 cases hB with
 |fin h=>
  (repeat' ((first|refine rA ?_|refine Ag (by first|assumption|omega) ?_|refine Cy ?_|fail)<;>conv=>whnf))
  exact f3 () trivial
 |sign h hs=>
  have h1:=ixS Iu hs
  unfold Iu at h1
  (repeat' ((first|refine rT (p:=p) (v:=.int .u8 (p[b]!.toNat:Int)) ?_ (hv:=Es h)|(refine cC Wo (Gs _ _) ?_;rintro ⟨⟩ -)|(refine Ax1 ?_;rw [(Ks _ hs).2.2])|refine rB ?_|refine rA ?_|refine wI (by simp only [Cj];omega) ?_|refine Ag (by first|assumption|omega) ?_|refine Ah (by first|assumption|omega) ?_|refine Cy ?_|refine rXz ?_|refine Iw rfl (by kernel_rfl) ?_|fail)<;>conv=>whnf))
  exact f3 () trivial
 |@name c h hs hc hn h0 h1 he2=>
  have h2:=ixN Iu (Kh _ hs).2.2
  have h3:=ixS Lo hs
  unfold Iu at h2
  unfold Lo at h3
  (repeat' ((first|refine rT (p:=p) (v:=.int .u8 (p[b]!.toNat:Int)) ?_ (hv:=Es h)|(refine cC Wo (Gs _ _) ?_;rintro ⟨⟩ -)|refine rB ?_|refine wI (by simp only [Cj];omega) ?_|refine Ag (by first|assumption|omega) ?_|refine Ah (by first|assumption|omega) ?_|refine Cy ?_|refine rXz ?_|refine Iw rfl (by kernel_rfl) ?_|fail)<;>conv=>whnf))
  refine cC Azx (Ar6 (b+1) c hp hc hn h0 h1 he2) ?_
  rintro ⟨⟩ -
  conv=>whnf
  (repeat' ((first|refine rA ?_|refine Cy ?_|fail)<;>conv=>whnf))
  exact f3 () trivial
 |@word c hc hn h1 he2=>
  have h:b<p.length:=by omega
  have hw:=Ki (h1 b (Nat.le_refl _) hc)
  have h2:=ixN Iu hw.2.2.1
  have h3:=ixN Lo hw.2.2.2
  unfold Iu at h2
  unfold Lo at h3
  (repeat' ((first|refine rT (p:=p) (v:=.int .u8 (p[b]!.toNat:Int)) ?_ (hv:=Es h)|(refine cC Wo (Gs _ _) ?_;rintro ⟨⟩ -)|refine rB ?_|refine Ah (by first|assumption|omega) ?_|refine rXz ?_|refine Iw rfl (by kernel_rfl) ?_|fail)<;>conv=>whnf))
  refine Wv (X:=Nat) (fun _=>[(0,.pointer (some ⟨gX,0,none⟩)),(2,.pointer (some ⟨g2,0,none⟩)),(6,.pointer (some ⟨g6,0,none⟩)),(10,.int .i64 (b:Int))]) (fun i=>LX gX gp p i::TX gp p::Bk g2 [.int .u8 0,.int .u8 0,.string ByteArray.empty,.int .i64 0] 267::Bk g6 [.int .u8 0,.int .u8 0,.string ByteArray.empty,.int .i64 (b:Int)] 267::L) (fun i=>b<=i/\i<=c) (fun i=>p.length - i) b ⟨Nat.le_refl _,by omega⟩ ?_
  rintro i G ⟨hbi,hic⟩
  conv=>whnf
  (repeat' ((first|refine rB ?_|refine Iw rfl (by kernel_rfl) ?_|fail)<;>conv=>whnf))
  by_cases hlt:i<p.length
  ·by_cases hlt2:i<c
   ·have hwi:=h1 i hbi hlt2
    unfold Yy at hwi
    (repeat' ((first|refine rT (p:=p) (v:=.int .u8 (p[i]!.toNat:Int)) ?_ (hv:=Es hlt)|refine rB ?_|refine wI (by simp only [Cj];omega) ?_|refine Ag (by first|assumption|omega) ?_|refine Cy ?_|refine rXz ?_|fail)<;>conv=>whnf))
    exact rS (i+1) ⟨by omega,by omega⟩ (by omega)
   ·obtain rfl:i=c:=by omega
    have hwi:=he2 hlt
    unfold Yy at hwi
    by_cases h97:97<=(p[i]!.toNat:Int)
    ·(repeat' ((first|refine rT (p:=p) (v:=.int .u8 (p[i]!.toNat:Int)) ?_ (hv:=Es hlt)|refine rB ?_|refine Ag (by first|assumption|omega) ?_|refine Ah (by first|assumption|omega) ?_|refine rXz ?_|fail)<;>conv=>whnf))
     refine Eg [0,1,2,3,4,5,6,7,8,9,10,11] 1 13 ([LX gX gp p i,TX gp p]) (by kernel_rfl) ?_;conv=>whnf
     (repeat' (first|exact True.intro|(refine And.intro ?_ ?_<;>conv=>whnf)|(first|refine rCv ?_ (p:=p)|refine Ti ?_|(apply SbK.mk;(· repeat' (first|exact Sub.refl|exact Sub.nil|(apply Sub.cons;· repeat' (first|exact Rem.here|apply Rem.there))|apply Sub.skip)))|refine rB ?_|refine rA ?_|refine Cy ?_|fail)<;>conv=>whnf))
     exact f3 () trivial
    ·(repeat' ((first|refine rT (p:=p) (v:=.int .u8 (p[i]!.toNat:Int)) ?_ (hv:=Es hlt)|refine rB ?_|refine Ag (by first|assumption|omega) ?_|refine Ah (by first|assumption|omega) ?_|refine rXz ?_|fail)<;>conv=>whnf))
     refine Eg [0,1,2,3,4,5,6,7,8,9,10,11] 1 13 ([LX gX gp p i,TX gp p]) (by kernel_rfl) ?_;conv=>whnf
     (repeat' (first|exact True.intro|(refine And.intro ?_ ?_<;>conv=>whnf)|(first|refine rCv ?_ (p:=p)|refine Ti ?_|(apply SbK.mk;(· repeat' (first|exact Sub.refl|exact Sub.nil|(apply Sub.cons;· repeat' (first|exact Rem.here|apply Rem.there))|apply Sub.skip)))|refine rB ?_|refine rA ?_|refine Cy ?_|fail)<;>conv=>whnf))
     exact f3 () trivial
  ·obtain rfl:i=c:=by omega
   (repeat' ((first|refine rB ?_|refine Ah (by first|assumption|omega) ?_|fail)<;>conv=>whnf))
   refine Eg [0,1,2,3,4,5,6,7,8,9,10,11] 1 13 ([LX gX gp p i,TX gp p]) (by kernel_rfl) ?_;conv=>whnf
   (repeat' (first|exact True.intro|(refine And.intro ?_ ?_<;>conv=>whnf)|(first|refine rCv ?_ (p:=p)|refine Ti ?_|(apply SbK.mk;(· repeat' (first|exact Sub.refl|exact Sub.nil|(apply Sub.cons;· repeat' (first|exact Rem.here|apply Rem.there))|apply Sub.skip)))|refine rB ?_|refine rA ?_|refine Cy ?_|fail)<;>conv=>whnf))
   exact f3 () trivial
end
def Pu (x:Int):Prop:=-9223372036854775808<=x/\x<=9223372036854775807
theorem Gh {x:Int}(h:Pu x):(Lit.int .i64 x).wf=true:=by
 unfold Lit.wf
 simp only [Bool.and_eq_true,decide_eq_true_eq]
 exact h
theorem H0 (x:Int):WideAt.IsKeyLit (.int .i64 x):=by simp [WideAt.IsKeyLit]
structure SetT (P:Program)(t k e:TypeId):Prop where
 t:P.underlying t=some (.map k e)
 k:P.underlying k=some (.int .i64)
 e:P.underlying e=some .bool
structure NumT (P:Program)(t k e:TypeId):Prop where
 t:P.underlying t=some (.map k e)
 k:P.underlying k=some (.int .i64)
 e:P.underlying e=some (.int .i64)
section
variable {P:Program}{t k e:TypeId}{w w1:World}{b n:Nat}{L:List Int}
structure SetM (P:Program)(k e:TypeId)(w:World)(b:Nat)(L:List Int)(n:Nat):Prop where
 ex:∃ D:DataW Unit,w.ownsMap P k (plainElem P e) b n D/\(∀ l,Maps.has D l=true↔∃ x∈L,l=Lit.int .i64 x)/\Maps.size D=L.length
 nd:L.Nodup
theorem SetM.lt (h:SetM P k e w b L n):b<w.heap.size:=by
 obtain ⟨D,h1,_⟩:=h.ex
 exact h1.lt
theorem SetM.kept {row:Option Nat}(h:SetM P k e w b L n)(hg:w.grownBy w1 row)(hne:some b≠row):SetM P k e w1 b L n:=by
 obtain ⟨D,h1,h2⟩:=h.ex
 exact ⟨⟨D,h1.kept hg hne,h2⟩,h.nd⟩
theorem SetM.up (h:SetM P k e w b L n)(hb:Below w.heap.size w w1):SetM P k e w1 b L n:=h.kept (row:=none) (Ar hb) nofun
theorem SetM.made (hb:w1=w.alloc (.map #[] 0)):SetM P k e w1 w.heap.size [] 0:=by
 subst hb
 refine ⟨⟨.map [],World.ownsMap_made w P k _,fun l=>⟨fun h=>(by cases h),fun ⟨x,hx,_⟩=>(by cases hx)⟩,rfl⟩,.nil⟩
def addI (L:List Int)(x:Int):List Int:=if x∈L then L else L++[x]
theorem addI_mem {L:List Int}{x y:Int}:y∈addI L x↔y∈L\/y=x:=by
 unfold addI
 split
 ·rename_i h
  exact ⟨.inl,fun h2=>h2.elim id fun e=>e▸h⟩
 ·simp
theorem SetM.put (hT:SetT P t k e)(h:SetM P k e w b L n)(hn:n<maxLen){x:Int}(hx:Pu x) :
  ∃ w',(Instr.mapUpdate t (.map (some b)) (.int .i64 x) (.bool true)).run P w=.ok () w'/\SetM P k e w' b (addI L x) (n+1)/\w.grownBy w' (some b):=by
 obtain ⟨D,h1,h2,h3⟩:=h.ex
 have K:=Maps.int_keyed (P:=P) hT.k
 obtain ⟨w',hr,h4,h5⟩:=h1.update K hT.t hn (Maps.keyOf_int_mk hT.k (Gh hx)) (plainElem_bool hT.e true)
 refine ⟨w',hr,⟨⟨_,h4,fun l=>?_,?_⟩,?_⟩,h5⟩
 ·by_cases e1:l=.int .i64 x
  ·subst e1
   rw [Maps.has_put_same (h1.isMap) (H0 x)]
   exact ⟨fun _=>⟨x,addI_mem.2 (.inr rfl),rfl⟩,fun _=>rfl⟩
  ·rw [Maps.has_put_other e1,h2]
   constructor
   ·rintro ⟨y,hy,rfl⟩
    exact ⟨y,addI_mem.2 (.inl hy),rfl⟩
   ·rintro ⟨y,hy,rfl⟩
    rcases addI_mem.1 hy with hy|rfl
    ·exact ⟨y,hy,rfl⟩
    ·exact absurd rfl e1
 ·rw [Maps.size_put (h1.tidy K)]
  have hm:Maps.has D (.int .i64 x)=true↔x∈L:=by
   rw [h2]
   exact ⟨fun ⟨y,hy,e⟩=>by injection e with _ e;exact e▸hy,fun hx=>⟨x,hx,rfl⟩⟩
  unfold addI
  by_cases hxL:x∈L
  ·rw [if_pos (hm.2 hxL),if_pos hxL,h3]
  ·rw [if_neg (fun hh=>hxL (hm.1 hh)),if_neg hxL,h3]
   simp
 ·unfold addI
  split
  ·exact h.nd
  ·rename_i hxL
   rw [List.nodup_append]
   exact ⟨h.nd,by simp,fun a ha c hc e=>by simp at hc;subst hc;exact hxL (e▸ha)⟩
theorem SetM.len (hT:SetT P t k e)(h:SetM P k e w b L n)(ty:TypeId):(Builtin.len_ #[t] ty #[.map (some b)]).run P w=.ok (.int .i64 (L.length:Int)) w:=by
 obtain ⟨D,h1,h2,h3⟩:=h.ex
 rw [h1.len hT.t ty,h3]
theorem SetM.only {x:Int}(hT:SetT P t k e)(h:SetM P k e w b [x] n) :
  ∃ w1,(Instr.range t (.map (some b))).run P w=.ok (.pointer (some ⟨w.heap.size,0,none⟩)) w1/\Below w.heap.size w w1/\∀ ty,
   ∃ w2 v,(Instr.next (.pointer (some ⟨w.heap.size,0,none⟩)) false ty).run P w1=.ok (.tuple #[.bool true,.int .i64 x,v]) w2/\Below w.heap.size w w2/\(Instr.entry (.pointer (some ⟨w.heap.size,0,none⟩))).run P w2=.ok (.tuple #[.int .i64 x,v]) w2:=by
 obtain ⟨D,h1,h2,h3⟩:=h.ex
 have K:=Maps.int_keyed (P:=P) hT.k
 obtain ⟨w1,hr,h4,h5,h6⟩:=h1.range K hT.t
 have hB1:Below w.heap.size w w1:=⟨h5.os,h5.tape,h5.output,h5.size,fun j hj=>h5.block j hj (by simp)⟩
 refine ⟨w1,hr,hB1,fun ty=>?_⟩
 rcases h4.next K ty with ⟨h0,_⟩|⟨key,v,kl,y,w2,cnt',hkey,hl,hv,hat,hrun,hrg,hlt,hgr,hsz,hen⟩
 ·rw [h3] at h0
  cases h0
 ·obtain ⟨x',hx',rfl⟩:=(h2 kl).1 hl
  simp only [List.mem_singleton] at hx'
  subst hx'
  obtain ⟨x2,rfl,e2,_⟩:=Maps.keyOf_int_inv hT.k hkey
  injection e2 with _ e2
  subst e2
  exact ⟨w2,v,hrun,hB1.grown hgr hB1.size (fun j hj=>by injection hj with hj;omega),hen⟩
structure NumM (P:Program)(k e:TypeId)(w:World)(b:Nat)(f:Int->Option Nat)(n:Nat):Prop where
 ex:∃ D:DataW Unit,w.ownsMap P k (plainElem P e) b n D/\(∀ l,Maps.has D l=true↔∃ x,(f x).isSome=true/\l=Lit.int .i64 x)/\∀ x m,f x=some m->∀ z,D.atKey (.int .i64 x) z=.lit (.int .i64 (m:Int))
variable {f:Int->Option Nat}
theorem NumM.lt (h:NumM P k e w b f n):b<w.heap.size:=by
 obtain ⟨D,h1,_⟩:=h.ex
 exact h1.lt
theorem NumM.kept {row:Option Nat}(h:NumM P k e w b f n)(hg:w.grownBy w1 row)(hne:some b≠row):NumM P k e w1 b f n:=by
 obtain ⟨D,h1,h2⟩:=h.ex
 exact ⟨⟨D,h1.kept hg hne,h2⟩⟩
theorem NumM.up (h:NumM P k e w b f n)(hb:Below w.heap.size w w1):NumM P k e w1 b f n:=h.kept (row:=none) (Ar hb) nofun
theorem NumM.made (hb:w1=w.alloc (.map #[] 0)):NumM P k e w1 w.heap.size (fun _=>none) 0:=by
 subst hb
 exact ⟨⟨.map [],World.ownsMap_made w P k _,fun l=>⟨fun h=>(by cases h),fun ⟨x,hx,_⟩=>(by cases hx)⟩,fun x m h=>(by cases h)⟩⟩
def Po (f:Int->Option Nat)(x:Int)(m:Nat):Int->Option Nat:=fun y=>if y=x then some m else f y
theorem NumM.put (hT:NumT P t k e)(h:NumM P k e w b f n)(hn:n<maxLen){x:Int}{m:Nat}(hx:Pu x)(hm:Pu (m:Int)) :
  ∃ w',(Instr.mapUpdate t (.map (some b)) (.int .i64 x) (.int .i64 (m:Int))).run P w=.ok () w'/\NumM P k e w' b (Po f x m) (n+1)/\w.grownBy w' (some b):=by
 obtain ⟨D,h1,h2,h3⟩:=h.ex
 have K:=Maps.int_keyed (P:=P) hT.k
 obtain ⟨w',hr,h4,h5⟩:=h1.update K hT.t hn (Maps.keyOf_int_mk hT.k (Gh hx)) (plainElem_int hT.e (Gh hm))
 refine ⟨w',hr,⟨⟨_,h4,fun l=>?_,fun y m' hy z=>?_⟩⟩,h5⟩
 ·by_cases e1:l=.int .i64 x
  ·subst e1
   rw [Maps.has_put_same (h1.isMap) (H0 x)]
   exact ⟨fun _=>⟨x,by unfold Po;rw [if_pos rfl];rfl,rfl⟩,fun _=>rfl⟩
  ·rw [Maps.has_put_other e1,h2]
   constructor
   ·rintro ⟨y,hy,rfl⟩
    exact ⟨y,by unfold Po;rw [if_neg (fun e2=>e1 (by rw [e2]))];exact hy,rfl⟩
   ·rintro ⟨y,hy,rfl⟩
    refine ⟨y,?_,rfl⟩
    unfold Po at hy
    rwa [if_neg (fun e2=>e1 (by rw [e2]))] at hy
 ·unfold Po at hy
  by_cases e1:y=x
  ·subst e1
   rw [if_pos rfl] at hy
   injection hy with hy
   subst hy
   exact Maps.atKey_put_same h1.isMap (H0 y) _ z
  ·rw [if_neg e1] at hy
   rw [Maps.atKey_put_other (fun e2=>e1 (by injection e2)),h3 y m' hy]
theorem NumM.look (hT:NumT P t k e)(h:NumM P k e w b f n)(hz:(zeroValue e).run P w=.ok (.int .i64 0) w){x:Int}(hx:Pu x) :
  ∃ v:Int,(Instr.lookup t (.map (some b)) (.int .i64 x) true).run P w=.ok (.tuple #[.int .i64 v,.bool (f x).isSome]) w/\∀ m,f x=some m->v=(m:Int):=by
 obtain ⟨D,h1,h2,h3⟩:=h.ex
 have K:=Maps.int_keyed (P:=P) hT.k
 obtain ⟨v,ps,hr,hv⟩:=h1.look_ok K hT.t hz (plainElem_int hT.e (by decide)) (Maps.keyOf_int_mk hT.k (Gh hx))
 obtain ⟨c,rfl,hc,_⟩:=plainElem_int_inv hT.e hv
 have hhas:Maps.has D (.int .i64 x)=(f x).isSome:=by
  cases hf:(f x).isSome with
  |true=>exact (h2 _).2 ⟨x,hf,rfl⟩
  |false=>
   cases hh:Maps.has D (.int .i64 x) with
   |false=>rfl
   |true=>
    obtain ⟨y,hy,e1⟩:=(h2 _).1 hh
    injection e1 with _ e1
    subst e1
    rw [hf] at hy
    cases hy
 rw [hhas] at hr
 refine ⟨c,hr,fun m hm=>?_⟩
 have h4:=h3 x m hm (.lit (.int .i64 0))
 simp only [Prod.mk.injEq] at hc
 have h5:=hc.1.symm.trans h4
 injection h5 with h5
 injection h5
end
abbrev MD:=DataW Unit
theorem Qd {k e:TypeId}{b n:Nat}{D:MD}{w w':World}(h:w.ownsMap Tryz.prog k (plainElem Tryz.prog e) b n D)(hb:w'.heap[b]?=w.heap[b]?):w'.ownsMap Tryz.prog k (plainElem Tryz.prog e) b n D:=by
 obtain ⟨es,clock,h1,h2⟩:=h
 exact ⟨es,clock,hb.trans h1,h2⟩
def Mp (k e:TypeId)(b n:Nat)(D:MD):Res:=B1 b (fun w=>w.ownsMap Tryz.prog k (plainElem Tryz.prog e) b n D) (fun _ _ h hb=>Qd h hb) (fun _ h=>h.lt)
theorem Mp_P {k e:TypeId}{b n:Nat}{D:MD}{w:World}:(Mp k e b n D).P w↔w.ownsMap Tryz.prog k (plainElem Tryz.prog e) b n D:=Iff.rfl
theorem Mp_fp {k e:TypeId}{b n:Nat}{D:MD}{x:Nat}:(Mp k e b n D).fp x↔x=b:=Iff.rfl
def Me (t k e:TypeId)(b n:Nat)(D:MD)(st:Nat)(val:Value):Res:=B1 b (fun w=>∃ es clock,w.heap[b]?=some (.map es clock)/\∀ w2:World,w2.heap[b]?=some (.map es clock)->∃ w3,(Instr.entryStore t (.map (some b)) (goInt st) val).run Tryz.prog w2=.ok () w3/\w3.ownsMap Tryz.prog k (plainElem Tryz.prog e) b n D/\w2.grownBy w3 (some b))
 (fun w w' ⟨es,clock,h1,h2⟩ hb=>⟨es,clock,hb.trans h1,h2⟩) (fun w ⟨es,clock,h1,h2⟩=>Ae h1)
theorem Me_P {t k e:TypeId}{b n:Nat}{D:MD}{st:Nat}{val:Value}{w:World}:(Me t k e b n D st val).P w↔∃ es clock,w.heap[b]?=some (.map es clock)/\∀ w2:World,w2.heap[b]?=some (.map es clock)->∃ w3,(Instr.entryStore t (.map (some b)) (goInt st) val).run Tryz.prog w2=.ok () w3/\w3.ownsMap Tryz.prog k (plainElem Tryz.prog e) b n D/\w2.grownBy w3 (some b):=Iff.rfl
theorem Me_fp {t k e:TypeId}{b n:Nat}{D:MD}{st:Nat}{val:Value}{x:Nat}:(Me t k e b n D st val).fp x↔x=b:=Iff.rfl
attribute [irreducible] Mp Me
def Md (t:TypeId):Option (TypeId×TypeId):=match tab t with
 |some ⟨.map k e,_,_,_⟩=>some (k,e)
 |_=>none
theorem Fi {t k e:TypeId}(h:Md t=some (k,e)):Tryz.prog.underlying t=some (.map k e):=by
 unfold Md at h
 split at h
 ·rename_i h1
  cases h
  exact Lt Aa h1
 ·cases h
def Ig (t:TypeId):Bool:=match tab t with|some ⟨.string,_,_,_⟩=>true|_=>false
theorem E3 {t:TypeId}(h:Ig t=true):Tryz.prog.underlying t=some .string:=by
 unfold Ig at h
 split at h
 ·rename_i h1
  exact Lt Aa h1
 ·cases h
def I3 (t:TypeId):Bool:=match tab t with|some ⟨.int .i64,_,_,z⟩=>(match z with|.int .i64 0=>true|_=>false)|_=>false
theorem C9 {t:TypeId}(h:I3 t=true):Tryz.prog.underlying t=some (.int .i64)/\∀ w,(zeroValue t).run Tryz.prog w=.ok (.int .i64 0) w:=by
 unfold I3 at h
 split at h
 ·rename_i z h1
  split at h
  ·refine ⟨Lt Aa h1,fun w=>?_⟩
   obtain ⟨j,hj,hz,_,_⟩:=Tv Aa h1
   simp [zeroValue,typeInfo,hj,hz]
  ·cases h
 ·cases h
def Jx (t:TypeId):Bool:=match tab t with|some ⟨.bool,_,_,z⟩=>(match z with|.bool false=>true|_=>false)|_=>false
theorem Eb {t:TypeId}(h:Jx t=true):Tryz.prog.underlying t=some .bool/\∀ w,(zeroValue t).run Tryz.prog w=.ok (.bool false) w:=by
 unfold Jx at h
 split at h
 ·rename_i z h1
  split at h
  ·refine ⟨Lt Aa h1,fun w=>?_⟩
   obtain ⟨j,hj,hz,_,_⟩:=Tv Aa h1
   simp [zeroValue,typeInfo,hj,hz]
  ·cases h
 ·cases h
def D9 (s:ByteArray):Lit:=.string s.data.toList
theorem Si {a b:ByteArray}(h:D9 a=D9 b):a=b:=by
 unfold D9 at h
 injection h with h
 cases a
 cases b
 congr 1
 exact Array.toList_inj.1 h
theorem V8 (x:ByteArray):WideAt.IsKeyLit (D9 x):=by simp [WideAt.IsKeyLit,D9]
section
variable {w0 w:World}{n:Nat}{F:Fm}{L L' L1:List Res}{dst:Option Nat}{ty:TypeId}{pos:String}{after:Array Edge}{guard:Option (Nat×Bool)}{K:Value->List Res->Prop}{Kq:Value->Prop}
theorem sMk {t k e:TypeId}(kk:∀ b,K (.map (some b)) (Mp k e b 0 (.map [])::L))(ht:Md t=some (k,e):=by exact rfl):EvS w0 L F ⟨dst,.makeMap t none,ty,pos,after,guard⟩ K:=⟨fun w hw=>.inl ⟨.map (some w.heap.size),w.alloc (.map #[] 0),Mp k e w.heap.size 0 (.map [])::L,by
  simp [execOp,Instr.makeMap,run_underlying (Fi ht),newObj,Sem.run],hw.add ((Below.refl w.heap.size w).alloc (Nat.le_refl _) _) (Mp_P.2 (World.ownsMap_made w Tryz.prog k _)) (fun b hb=>by rw [Mp_fp.1 hb];exact Nat.le_refl _),kk _⟩⟩
theorem SL.mpGrow {k e:TypeId}{b n n':Nat}{D D':MD}{w1:World}(h:SL w0 w (Mp k e b n D::L))(hg:w.grownBy w1 (some b))(ho:w1.ownsMap Tryz.prog k (plainElem Tryz.prog e) b n' D'):SL w0 w1 (Mp k e b n' D'::L):=
 h.chg hg.os hg.tape hg.output hg.size (fun i hi hn=>hg.block i hi fun e=>hn (Mp_fp.2 (by injection e))) (Mp_P.2 ho) fun x hx=>.inl (Mp_fp.2 (Mp_fp.1 hx))
theorem Ar3 {t k e:TypeId}{m x y:Operand}{b n:Nat}{D d:MD}{key val:Value}{kl:Lit}(Kd:Maps.Keyed Tryz.prog k)(ht:Tryz.prog.underlying t=some (.map k e))(hkey:Go.keyOf Tryz.prog k key=some kl)(hv:plainElem (H:=Unit) Tryz.prog e val=some (d,[]))(hn:n<maxLen)
  (hm:ev F m=.map (some b)) (hx:ev F x=key) (hy:ev F y=val) (hr:Rem L (Mp k e b n D) L1) (kk:K undef (Mp k e b (n+1) (D.put kl d)::L1)):EvS w0 L F ⟨none,.mapUpdate t m x y,ty,pos,after,guard⟩ K:=⟨fun w hw=>.inr (.inr (by
 have hw2:=hw.pull hr
 have hq:(Mp k e b n D).P w:=hw2.res _ (by simp)
 have ho:=Mp_P.1 hq
 obtain ⟨w',h1,h2,h3⟩:=ho.update Kd ht hn hkey hv
 exact ⟨w',_,rfl,by simp [execOp,hm,hx,hy,h1],hw2.mpGrow h3 h2,kk⟩))⟩
theorem Um {k:TypeId}(hk:Ig k=true){s:ByteArray}(hs:s.size<=maxLen):Go.keyOf Tryz.prog k (.string s)=some (D9 s):=WideMaps.keyOf_string_mk (E3 hk) hs
theorem Ug {t k e:TypeId}{m x y:Operand}{b n:Nat}{D:MD}{s:ByteArray}{z:Int}(kk:K undef (Mp k e b (n+1) (D.put (D9 s) (.lit (.int .i64 z)))::L1))(ht:Md t=some (k,e):=by exact rfl)(hk:Ig k=true:=by exact rfl)(he:I3 e=true:=by exact rfl)
  (hm:ev F m=.map (some b):=by exact rfl) (hx:ev F x=.string s:=by exact rfl) (hy:ev F y=.int .i64 z:=by exact rfl) (hr:Rem L (Mp k e b n D) L1:=by repeat' (first|exact Rem.here|apply Rem.there)) (hs:s.size<=maxLen:=by assumption) (hn:n<maxLen:=by (simp only [maxLen];omega)) (hz:Pu z:=by (unfold Pu;omega)):EvS w0 L F ⟨none,.mapUpdate t m x y,ty,pos,after,guard⟩ K:=
 Ar3 (Maps.string_keyed (E3 hk)) (Fi ht) (Um hk hs) (plainElem_int (C9 he).1 (Gh hz)) hn hm hx hy hr kk
theorem Atx {t k e:TypeId}{m x y:Operand}{b n:Nat}{D:MD}{s:ByteArray}{z:Bool}(kk:K undef (Mp k e b (n+1) (D.put (D9 s) (.lit (.bool z)))::L1))(ht:Md t=some (k,e):=by exact rfl)(hk:Ig k=true:=by exact rfl)(he:Jx e=true:=by exact rfl)
  (hm:ev F m=.map (some b):=by exact rfl) (hx:ev F x=.string s:=by exact rfl) (hy:ev F y=.bool z:=by exact rfl) (hr:Rem L (Mp k e b n D) L1:=by repeat' (first|exact Rem.here|apply Rem.there)) (hs:s.size<=maxLen:=by assumption) (hn:n<maxLen:=by (simp only [maxLen];omega)):EvS w0 L F ⟨none,.mapUpdate t m x y,ty,pos,after,guard⟩ K:=
 Ar3 (Maps.string_keyed (E3 hk)) (Fi ht) (Um hk hs) (plainElem_bool (Eb he).1 z) hn hm hx hy hr kk
theorem Aqk {t k e:TypeId}{m x y:Operand}{b n:Nat}{D:MD}{i:Int}{z:Bool}(kk:K undef (Mp k e b (n+1) (D.put (.int .i64 i) (.lit (.bool z)))::L1))(ht:Md t=some (k,e):=by exact rfl)(hk:I3 k=true:=by exact rfl)(he:Jx e=true:=by exact rfl)
  (hm:ev F m=.map (some b):=by exact rfl) (hx:ev F x=.int .i64 i:=by exact rfl) (hy:ev F y=.bool z:=by exact rfl) (hr:Rem L (Mp k e b n D) L1:=by repeat' (first|exact Rem.here|apply Rem.there)) (hi:Pu i:=by (unfold Pu;omega)) (hn:n<maxLen:=by (simp only [maxLen];omega)):EvS w0 L F ⟨none,.mapUpdate t m x y,ty,pos,after,guard⟩ K:=
 Ar3 (Maps.int_keyed (C9 hk).1) (Fi ht) (Maps.keyOf_int_mk (C9 hk).1 (Gh hi)) (plainElem_bool (Eb he).1 z) hn hm hx hy hr kk
theorem Nv {t k e:TypeId}{m x:Operand}{b n:Nat}{D:MD}{s:ByteArray}{c:Int}(hat:D.atKey (D9 s) (.lit (.int .i64 0))=.lit (.int .i64 c))(kk:Kq (.tuple #[.int .i64 c,.bool (Maps.has D (D9 s))]))(ht:Md t=some (k,e):=by exact rfl)(hk:Ig k=true:=by exact rfl)(he:I3 e=true:=by exact rfl)
  (hm:ev F m=.map (some b):=by exact rfl) (hx:ev F x=.string s:=by exact rfl) (hr:Has L (Mp k e b n D):=by repeat' (first|exact Has.here|refine Has.there ?_)) (hs:s.size<=maxLen:=by assumption):QuS w0 L F ⟨dst,.lookup t m x true,ty,pos,after,guard⟩ Kq:=
 .val (fun w hw=>by
  have ho:=Mp_P.1 (hw.res _ hr.mem)
  obtain ⟨v,ps,h1,h2⟩:=ho.look_ok (Maps.string_keyed (E3 hk)) (Fi ht) ((C9 he).2 w) (plainElem_int (C9 he).1 (by decide)) (Um hk hs)
  obtain ⟨c',rfl,h3,_⟩:=plainElem_int_inv (C9 he).1 h2
  simp only [Prod.mk.injEq] at h3
  have h4:=h3.1.symm.trans hat
  injection h4 with h4
  injection h4 with _ h4
  subst h4
  simp [execOp,hm,hx,h1]) kk
theorem Ar0 {t k e:TypeId}{m x:Operand}{s:ByteArray}(kk:Kq (.tuple #[.int .i64 0,.bool false]))(ht:Md t=some (k,e):=by exact rfl)(hk:Ig k=true:=by exact rfl)(he:I3 e=true:=by exact rfl)
  (hm:ev F m=.map none:=by exact rfl) (hx:ev F x=.string s:=by exact rfl) (hs:s.size<=maxLen:=by assumption):QuS w0 L F ⟨dst,.lookup t m x true,ty,pos,after,guard⟩ Kq:=
 .val (fun w hw=>by
  have h1:=Maps.look_nil (P:=Tryz.prog) (w:=w) true (Maps.string_keyed (E3 hk)) (Fi ht) ((C9 he).2 w) (Um hk hs)
  simp [execOp,hm,hx,h1]) kk
theorem Auz {t k e:TypeId}{m x:Operand}{b n:Nat}{D:MD}{s:ByteArray}{c:Bool}(hat:D.atKey (D9 s) (.lit (.bool false))=.lit (.bool c))(kk:Kq (.bool c))(ht:Md t=some (k,e):=by exact rfl)(hk:Ig k=true:=by exact rfl)(he:Jx e=true:=by exact rfl)
  (hm:ev F m=.map (some b):=by exact rfl) (hx:ev F x=.string s:=by exact rfl) (hr:Has L (Mp k e b n D):=by repeat' (first|exact Has.here|refine Has.there ?_)) (hs:s.size<=maxLen:=by assumption):QuS w0 L F ⟨dst,.lookup t m x false,ty,pos,after,guard⟩ Kq:=
 .val (fun w hw=>by
  have ho:=Mp_P.1 (hw.res _ hr.mem)
  obtain ⟨v,ps,h1,h2⟩:=ho.lookup (Maps.string_keyed (E3 hk)) (Fi ht) ((Eb he).2 w) (plainElem_bool (Eb he).1 false) (Um hk hs)
  have h3:v=.bool c:=by
   rw [hat] at h2
   unfold plainElem at h2
   rw [(Eb he).1] at h2
   cases v
   case bool x=>
    simp only [Option.some.injEq,Prod.mk.injEq,DataW.lit.injEq,Lit.bool.injEq] at h2
    rw [h2.1]
   all_goals cases h2
  subst h3
  simp [execOp,hm,hx,h1]) kk
theorem Av1 {t k e:TypeId}{m x:Operand}{b n:Nat}{D:MD}{i:Int}{c:Bool}(hat:D.atKey (.int .i64 i) (.lit (.bool false))=.lit (.bool c))(kk:Kq (.bool c))(ht:Md t=some (k,e):=by exact rfl)(hk:I3 k=true:=by exact rfl)(he:Jx e=true:=by exact rfl)
  (hm:ev F m=.map (some b):=by exact rfl) (hx:ev F x=.int .i64 i:=by exact rfl) (hr:Has L (Mp k e b n D):=by repeat' (first|exact Has.here|refine Has.there ?_)) (hi:Pu i:=by (unfold Pu;omega)):QuS w0 L F ⟨dst,.lookup t m x false,ty,pos,after,guard⟩ Kq:=
 .val (fun w hw=>by
  have ho:=Mp_P.1 (hw.res _ hr.mem)
  obtain ⟨v,ps,h1,h2⟩:=ho.lookup (Maps.int_keyed (C9 hk).1) (Fi ht) ((Eb he).2 w) (plainElem_bool (Eb he).1 false) (Maps.keyOf_int_mk (C9 hk).1 (Gh hi))
  have h3:v=.bool c:=by
   rw [hat] at h2
   unfold plainElem at h2
   rw [(Eb he).1] at h2
   cases v
   case bool x=>
    simp only [Option.some.injEq,Prod.mk.injEq,DataW.lit.injEq,Lit.bool.injEq] at h2
    rw [h2.1]
   all_goals cases h2
  subst h3
  simp [execOp,hm,hx,h1]) kk
theorem Aoq {t:TypeId}{x:Operand}{yt:TypeId}{r:Option Nat}(kk:Kq (.bool r.isNone))(hx:ev F x=.map r:=by exact rfl)(ht:(Md t).isSome=true:=by exact rfl):QuS w0 L F ⟨dst,.binOp .eql t x (.const (.map none)) yt,ty,pos,after,guard⟩ Kq:=by
 refine .val (fun w hw=>?_) kk
 cases hm:Md t with
 |none=>rw [hm] at ht;cases ht
 |some p=>
  obtain ⟨k,e⟩:=p
  have hu:=Fi hm
  have:(Op.equal t (.map r) (.map none)).run Tryz.prog w=.ok r.isNone w:=by
   unfold Op.equal Op.maxDepth
   rw [show (10000:Nat)=9999+1 from rfl]
   unfold Op.equalIn
   cases r<;>simp [B3 hu]
  have hy:ev F (.const (.map none))=.map none:=rfl
  simp [execOp,hx,hy,eqGuard,binOp,this]
theorem Bf1 {t k e:TypeId}{m x:Operand}{b n:Nat}{D:MD}{s:ByteArray}(z:Int)(kk:∀ (v0:Value) (st:Nat),K (.tuple #[v0,goInt st]) (Me t k e b (n+1) (D.put (D9 s) (.lit (.int .i64 z))) st (.int .i64 z)::L1))(ht:Md t=some (k,e):=by exact rfl)(hk:Ig k=true:=by exact rfl)(he:I3 e=true:=by exact rfl)
  (hm:ev F m=.map (some b):=by exact rfl) (hx:ev F x=.string s:=by exact rfl) (hr:Rem L (Mp k e b n D) L1:=by repeat' (first|exact Rem.here|apply Rem.there)) (hs:s.size<=maxLen:=by assumption) (hn:n<maxLen:=by (simp only [maxLen];omega)) (hz:Pu z:=by (unfold Pu;omega)):EvS w0 L F ⟨dst,.mapEntry t m x,ty,pos,after,guard⟩ K:=⟨fun w hw=>.inl (by
 have hw2:=hw.pull hr
 have hq:(Mp k e b n D).P w:=hw2.res _ (by simp)
 have ho:=Mp_P.1 hq
 obtain ⟨w',h1,h2,h3⟩:=ho.update (Maps.string_keyed (E3 hk)) (Fi ht) hn (Um hk hs) (plainElem_int (H:=Unit) (C9 he).1 (Gh hz))
 obtain ⟨es,clock,hb,hF,_⟩:=ho
 obtain ⟨v0,st,es1,clock1,g1,_,g3⟩:=WideElems.entry_then_store (WideMaps.string_law (E3 hk)) (Fi ht) (C9 he).2 hb hF (Um hk hs)
 have hblk:(ChangeMaps.setBlock w b (.map es1 clock1)).heap[b]?=some (.map es1 clock1):=ChangeMaps.heap_setBlock_same hb _
 refine ⟨.tuple #[v0,goInt st],ChangeMaps.setBlock w b (.map es1 clock1),_,by simp [execOp,hm,hx,g1],hw2.chg rfl rfl rfl (by simp [ChangeMaps.setBlock]) (fun i hi hne=>ChangeMaps.heap_setBlock_other hb _ (fun e=>hne (Mp_fp.2 e))) (Me_P.2 ⟨es1,clock1,hblk,fun w2 hw2'=>?_⟩) (fun x hx=>.inl (Mp_fp.2 (Me_fp.1 hx))),kk v0 st⟩
 obtain ⟨es',clock',g4,g5⟩:=g3 w2 (.int .i64 z) hw2'
 rw [h1] at g5
 injection g5 with _ g5
 subst g5
 have hsame:(ChangeMaps.setBlock w b (.map es' clock')).heap[b]?=some (.map es' clock'):=ChangeMaps.heap_setBlock_same hb _
 have hsame2:(ChangeMaps.setBlock w2 b (.map es' clock')).heap[b]?=some (.map es' clock'):=ChangeMaps.heap_setBlock_same hw2' _
 exact ⟨_,g4,Qd h2 (hsame2.trans hsame.symm),⟨rfl,rfl,rfl,by simp [ChangeMaps.setBlock],fun i _ hi=>ChangeMaps.heap_setBlock_other hw2' _ (fun e=>hi (by rw [e]))⟩⟩)⟩
theorem Az4 {t k e:TypeId}{m x y:Operand}{b n st:Nat}{D:MD}{val:Value}(kk:K undef (Mp k e b n D::L1))(hm:ev F m=.map (some b):=by exact rfl)(hx:ev F x=goInt st:=by exact rfl)(hy:ev F y=val:=by exact rfl)
  (hr:Rem L (Me t k e b n D st val) L1:=by repeat' (first|exact Rem.here|apply Rem.there)):EvS w0 L F ⟨none,.entryStore t m x y,ty,pos,after,guard⟩ K:=⟨fun w hw=>.inr (.inr (by
 have hw2:=hw.pull hr
 have hq:(Me t k e b n D st val).P w:=hw2.res _ (by simp)
 obtain ⟨es,clock,h1,h2⟩:=Me_P.1 hq
 obtain ⟨w3,h3,h4,h5⟩:=h2 w h1
 exact ⟨w3,_,rfl,by simp [execOp,hm,hx,hy,h3],hw2.chg h5.os h5.tape h5.output h5.size (fun i hi hn=>h5.block i hi fun e=>hn (Me_fp.2 (by injection e))) (Mp_P.2 h4) (fun x hx=>.inl (Me_fp.2 (Mp_fp.1 hx))),kk⟩))⟩
end
structure SD (D:MD)(l:List ByteArray):Prop where
 im:Maps.IsMap D
 has:∀ x,Maps.has D (D9 x)=true↔x∈l
 at_:∀ i,i<l.length->∀ z,D.atKey (D9 l[i]!) z=.lit (.int .i64 (i:Int))
 nd:l.Nodup
theorem SD.nil:SD (.map []) []:=⟨⟨_,rfl⟩,fun x=>by simp [Maps.has],by simp,.nil⟩
theorem SD.hasF {D:MD}{l:List ByteArray}(h:SD D l){x:ByteArray}(hx:x∉l):Maps.has D (D9 x)=false:=by
 rw [<- Bool.not_eq_true]
 exact fun h1=>hx ((h.has x).1 h1)
theorem SD.hasT {D:MD}{l:List ByteArray}(h:SD D l){x:ByteArray}(hx:x∈l):Maps.has D (D9 x)=true:=(h.has x).2 hx
theorem SD.atF {D:MD}{l:List ByteArray}(h:SD D l){x:ByteArray}(hx:x∉l)(z:MD):D.atKey (D9 x) z=z:=Maps.atKey_of_not_has (h.hasF hx) z
theorem SD.put {D:MD}{l:List ByteArray}(h:SD D l){x:ByteArray}(hx:x∉l):SD (D.put (D9 x) (.lit (.int .i64 (l.length:Int)))) (l++[x]):=by
 refine ⟨?_,fun y=>?_,fun i hi z=>?_,?_⟩
 ·obtain ⟨es,rfl⟩:=h.im
  exact ⟨_,rfl⟩
 ·by_cases e:y=x
  ·subst e
   rw [Maps.has_put_same h.im (V8 y)]
   simp
  ·rw [Maps.has_put_other (fun e1=>e (Si e1)),h.has]
   simp [e]
 ·have hi:i<l.length+1:=by simpa using hi
  by_cases e1:i<l.length
  ·have e2:(l++[x])[i]! = l[i]! := by
    rw [getElem!_pos (l++[x]) i (by simp;omega),getElem!_pos l i e1,List.getElem_append_left e1]
   rw [e2,Maps.atKey_put_other (fun e3=>hx (by rw [<- Si e3,getElem!_pos l i e1];exact List.getElem_mem e1)),h.at_ i e1]
  ·have e2:i=l.length:=by omega
   subst e2
   have e2:(l++[x])[l.length]! = x:=by
    rw [getElem!_pos (l++[x]) l.length (by simp)]
    simp
   rw [e2]
   exact Maps.atKey_put_same h.im (V8 x) _ z
 ·rw [List.nodup_append]
  exact ⟨h.nd,by simp,fun a ha c hc e=>by simp at hc;subst hc;exact hx (e▸ha)⟩
structure Sl where
 a:Option Addr
 n:Nat
 c:Nat
abbrev Sl.v (s:Sl):Value:=.slice s.a s.n s.c
def Ow (e sz:Nat)(s:Sl)(flat:List Value):Res where
 fp b:=s.v.ownBlock=some b
 P w:=w.ownsRow 0 e sz s.v s.n flat
 st w w' h k:=by
  refine ⟨h.1,h.2.imp id ?_⟩
  rintro ⟨g,cap,cur,h1,h2,h3,h4⟩
  exact ⟨g,cap,cur,h1,h2,(k g (by rw [h1];rfl)).trans h3,h4⟩
 lt w h b hb:=(h.lt b hb).2
theorem Ow_P {e sz:Nat}{s:Sl}{flat:List Value}{w:World}:(Ow e sz s flat).P w↔w.ownsRow 0 e sz s.v s.n flat:=Iff.rfl
theorem Ow_fp {e sz:Nat}{s:Sl}{flat:List Value}{b:Nat}:(Ow e sz s flat).fp b↔s.v.ownBlock=some b:=Iff.rfl
attribute [irreducible] Ow
section
variable {w0 w w1:World}{n:Nat}{F:Fm}{L L' L1:List Res}{dst:Option Nat}{ty:TypeId}{pos:String}{after:Array Edge}{guard:Option (Nat×Bool)}{K:Value->List Res->Prop}{Kq:Value->Prop}
theorem SL.ownNil (h:SL w0 w L)(e sz:Nat):SL w0 w (Ow e sz ⟨none,0,0⟩ []::L):=
 h.add (Below.refl _ _) (Ow_P.2 (World.ownsRow_nil ..)) fun b hb=>by have:=Ow_fp.1 hb;cases this
theorem cS.own {c:Code}{Q:PoS}{nn:Nat}(e sz:Nat)(k:cS w0 nn c Q F (Ow e sz ⟨none,0,0⟩ []::L)):cS w0 nn c Q F L:=.mk fun w hw=>k.go w (hw.ownNil e sz)
def Aq6:Nat->Option Nat
 |0=>some 0
 |k+1=>some (k+1)
theorem Aik (n:Nat):Aq6 n=some n:=by cases n<;>rfl
def S1 (t:TypeId):Option (Nat×Nat×Nat):=match tab t with
 |some ⟨.slice e,_,_,_⟩=>(match tab e with|some i=>(bif Nat.beq i.zero.cells.size i.size then (match Aq6 i.size,Aq6 i.bytes with|some s,some b=>some (e,s,b)|_,_=>none) else none)|none=>none)
 |_=>none
theorem J1 {t e s b:Nat}(h:S1 t=some (e,s,b)):I7 tab t e s b=true:=by
 unfold S1 at h
 split at h
 ·rename_i e' _ _ _ h1
  split at h
  ·rename_i i h2
   cases hb:Nat.beq i.zero.cells.size i.size with
   |false=>rw [hb] at h;cases h
   |true=>
    rw [hb] at h
    simp only [cond_true,Aik,Option.some.injEq,Prod.mk.injEq] at h
    obtain ⟨rfl,rfl,rfl⟩:=h
    have:=Nat.eq_of_beq_eq_true hb
    simp [I7,h1,h2,Ei,this]
  ·cases h
 ·cases h
theorem sAp {e s b m cc:Nat}{sl:Sl}{flat news:List Value}{c:Call}{x y:Operand}{t tn:TypeId}{g:Nat}(kk:∀ sl':Sl,sl'.n=sl.n+m->K sl'.v (Ow e s sl' (flat++news)::L1))(hcal:c.callee=.builtin .append:=by exact rfl)(hargs:c.args.toList=[x,y]:=by exact rfl)(htys:c.argTypes.toList=[t,t]:=by exact rfl)
  (hy:ev F y=.slice (some ⟨g,0,none⟩) m cc:=by exact rfl) (h1:S1 t=some (e,s,b):=by exact rfl) (hb:Has L (Bk g news tn):=by repeat' (first|exact Has.here|refine Has.there ?_)) (hx:ev F x=sl.v:=by exact rfl) (hr:Rem L (Ow e s sl flat) L1:=by repeat' (first|exact Rem.here|apply Rem.there))
  (hs0:Nat.blt 0 s=true:=by exact rfl) (hl:Nat.beq news.length (m*s)=true:=by exact rfl) (ho:Ud news=true:=by exact rfl) (hbig:(sl.n+m)*b<=140737488355328:=by first|omega|(dsimp only;omega)) (h63:sl.n+m<=9223372036854775807:=by first|omega|(dsimp only;omega)):EvS w0 L F ⟨dst,.call c,ty,pos,after,guard⟩ K:=⟨fun w hw=>.inl (by
 have hq:(Ow e s sl flat).P w:=(hw.pull hr).res _ (by simp)
 obtain ⟨A,cap,w1,hr1,h2,h3,h5⟩:=Q2 (o:=⟨dst,.call c,ty,pos,after,guard⟩) Aa e s b (Ow_P.1 hq) (hw.blk hb) rfl hcal hargs htys hx hy (J1 h1) hs0 (Nat.eq_of_beq_eq_true hl) (L3 ho) hbig h63 (Nat.zero_le _)
 refine ⟨_,w1,_,hr1,(hw.pull hr).chg h3.os h3.tape h3.output h3.size (fun i hi hn=>h3.block i hi fun e=>hn (Ow_fp.2 e.symm)) (Ow_P.2 (show w1.ownsRow 0 e s (Sl.mk A (sl.n+m) cap).v (Sl.mk A (sl.n+m) cap).n (flat++news) from h2)) (fun b hb=>?_),kk ⟨A,sl.n+m,cap⟩ rfl⟩
 have hb':(Value.slice A (sl.n+m) cap).ownBlock=some b:=Ow_fp.1 hb
 rcases h5 with h5|h5
 ·exact .inl (Ow_fp.2 (h5.symm.trans hb'))
 ·rw [h5] at hb'
  injection hb' with hb'
  exact .inr (Nat.le_of_eq hb'))⟩
def Xh (e:TypeId):Option (Nat×List Value):=match tab e with
 |some i=>(match Pm i.zero.cells.toList with|some z=>some (i.size,z)|none=>none)
 |none=>none
theorem Kv {t:TypeId}{e s len:Nat}{parts:Array (Nat×Operand)}{z cs:List Value}(kk:∀ g,K (.slice (some ⟨g,0,none⟩) len len) (Bk g cs e::L))(h1:(match tab t with|some ⟨.slice e,_,_,_⟩=>some e|_=>none)=some e:=by exact rfl)(hz:Xh e=some (s,z):=by exact rfl)(hzl:Nat.beq z.length s=true:=by exact rfl)(hlen:Nat.ble (len*s) 16777216=true:=by exact rfl)
  (hc:Yn F (fun i=>some (i*s,s)) parts.toList (List.replicate len z).flatten=some cs:=by exact rfl):EvS w0 L F ⟨dst,.buildSlice t len parts,ty,pos,after,guard⟩ K:=⟨fun w hw=>.inl (by
 unfold Xh at hz
 split at hz
 ·rename_i i hi
  rw [Gc] at hz
  simp only [Option.some.injEq,Prod.mk.injEq] at hz
  obtain ⟨rfl,rfl⟩:=hz
  split at h1
  ·rename_i e' _ _ _ ht
   cases h1
   have hT:Cq tab t e i.size=true:=by simp [Cq,ht,hi,Ei]
   exact ⟨_,_,_,T7 Aa e i.size (o:=⟨dst,.buildSlice t len parts,ty,pos,after,guard⟩) rfl hT hi (by simp) hzl hlen hc,hw.new (Ce w cs e),kk _⟩
  ·cases h1
 ·cases hz)⟩
theorem sMs {t:TypeId}{e s b m:Nat}{x y:Operand}{z:List Value}(kk:∀ g,K (.slice (some ⟨g,0,none⟩) m m) (Bk g (List.replicate m z).flatten e::L))(hx:ev F x=.int .i64 m:=by exact rfl)(hy:ev F y=.int .i64 m:=by exact rfl)(h1:S1 t=some (e,s,b):=by exact rfl)(hz:Xh e=some (s,z):=by exact rfl)(hbig:b*m<=281474976710656:=by omega)(h63:m<=9223372036854775807:=by omega):EvS w0 L F ⟨dst,.makeSlice t x y,ty,pos,after,guard⟩ K:=⟨fun w hw=>.inl (by
 unfold Xh at hz
 split at hz
 ·rename_i i hi
  rw [Gc] at hz
  simp only [Option.some.injEq,Prod.mk.injEq] at hz
  obtain ⟨rfl,rfl⟩:=hz
  obtain ⟨hu,j,z',hj,hz',hs,hby,hzs⟩:=Eh Aa (J1 h1)
  obtain ⟨j2,hj2,hz2,hs2,_⟩:=Tv Aa hi
  rw [hj] at hj2
  cases hj2
  rw [hz'] at hz2
  cases hz2
  refine ⟨.slice (some ⟨w.heap.size,0,none⟩) m m,_,_,?_,hw.new (Ce w _ e),kk _⟩
  have hbi:((j.bytes:Int)*(m:Int))<=281474976710656:=by rw [hby,<- Int.natCast_mul];omega
  have hr:=run_make (P:=Tryz.prog) w t e j i.zero hu hj hz' .i64 .i64 m m (by omega) (by omega) hbi (by omega)
  simp only [Int.toNat_natCast] at hr
  have hc:madeCells i.zero.cells (m*j.size)=((List.replicate m i.zero.cells.toList).flatten).toArray:=by
   have key:∀ z:List Value,i.zero.cells=z.toArray->madeCells i.zero.cells (m*j.size)=((List.replicate m z).flatten).toArray:=by
    intro z hz
    rw [<- Ge z m]
    have hzl:z.length=i.size:=by rw [hz] at hzs;simpa using hzs
    unfold madeCells
    rw [hz,hs2,hzl]
    apply Array.ext'
    simp [hzl]
   exact key _ (by simp)
  rw [hc] at hr
  simp [execOp,hx,hy,hr]
 ·cases hz)⟩
theorem SL.own {e sz:Nat}{sl:Sl}{flat:List Value}(h:SL w0 w L)(hr:Has L (Ow e sz sl flat)):w.ownsRow 0 e sz sl.v sl.n flat:=Ow_P.1 (h.res _ hr.mem)
theorem Kc {e s b m cc:Nat}{sl:Sl}{flat news:List Value}{c:Call}{x y:Operand}{t tn:TypeId}{g:Nat}(kk:∀ g cap,K (.slice (some ⟨g,0,none⟩) (sl.n+m) cap) (Ow e s ⟨some ⟨g,0,none⟩,sl.n+m,cap⟩ (flat++news)::L1))(hcal:c.callee=.builtin .append:=by exact rfl)(hargs:c.args.toList=[x,y]:=by exact rfl)(htys:c.argTypes.toList=[t,t]:=by exact rfl)
  (hy:ev F y=.slice (some ⟨g,0,none⟩) m cc:=by exact rfl) (h1:S1 t=some (e,s,b):=by exact rfl) (hb:Has L (Bk g news tn):=by repeat' (first|exact Has.here|refine Has.there ?_)) (hx:ev F x=sl.v:=by exact rfl) (hr:Rem L (Ow e s sl flat) L1:=by repeat' (first|exact Rem.here|apply Rem.there))
  (hs0:Nat.blt 0 s=true:=by exact rfl) (hl:Nat.beq news.length (m*s)=true:=by exact rfl) (ho:Ud news=true:=by exact rfl) (hbig:(sl.n+m)*b<=140737488355328:=by first|omega|(dsimp only;omega)) (h63:sl.n+m<=9223372036854775807:=by first|omega|(dsimp only;omega)) (hm0:0<m:=by omega):EvS w0 L F ⟨dst,.call c,ty,pos,after,guard⟩ K:=⟨fun w hw=>.inl (by
 have hq:(Ow e s sl flat).P w:=(hw.pull hr).res _ (by simp)
 obtain ⟨A,cap,w1,hr1,h2,h3,h5⟩:=Q2 (o:=⟨dst,.call c,ty,pos,after,guard⟩) Aa e s b (Ow_P.1 hq) (hw.blk hb) rfl hcal hargs htys hx hy (J1 h1) hs0 (Nat.eq_of_beq_eq_true hl) (L3 ho) hbig h63 (Nat.zero_le _)
 obtain ⟨g',cap',hf,_,_⟩:=h2.form (by omega)
 injection hf with hf _ hc
 subst hf hc
 refine ⟨_,w1,_,hr1,(hw.pull hr).chg h3.os h3.tape h3.output h3.size (fun i hi hn=>h3.block i hi fun e=>hn (Ow_fp.2 e.symm)) (Ow_P.2 (show w1.ownsRow 0 e s (Sl.mk (some ⟨g',0,none⟩) (sl.n+m) cap).v (Sl.mk (some ⟨g',0,none⟩) (sl.n+m) cap).n (flat++news) from h2)) (fun b hb=>?_),kk g' cap⟩
 have hb':(Value.slice (some ⟨g',0,none⟩) (sl.n+m) cap).ownBlock=some b:=Ow_fp.1 hb
 rcases h5 with h5|h5
 ·exact .inl (Ow_fp.2 (h5.symm.trans hb'))
 ·rw [h5] at hb'
  injection hb' with hb'
  exact .inr (Nat.le_of_eq hb'))⟩
theorem Tl {e sz n cap g:Nat}{flat:List Value}{w:World}(h:w.ownsRow 0 e sz (.slice (some ⟨g,0,none⟩) n cap) n flat):∃ rest:List Value,w.heap[g]?=some (.cells (flat++rest).toArray e (0,0))/\flat.length=n*sz/\n<=cap/\cap<=maxLen/\(flat++rest).length=cap*sz:=by
 rcases h.2 with ⟨h1,_⟩|⟨g',cap',cur,h1,_,h3,h4,h5,h6,h7⟩
 ·cases h1
 ·injection h1 with h1 _ h8
  injection h1 with h1
  injection h1 with h1
  subst h1 h8
  refine ⟨cur.toList.drop (n*sz),?_,h.1,h4,h5,?_⟩
  ·rw [h3,<- h7,List.take_append_drop]
  ·rw [<- h7,List.take_append_drop]
   simpa using h6
theorem Hq {e sz n' cap:Nat}{flat:List Value}{t:TypeId}{x:Operand}{g off:Nat}{v:Value}(k:Kq v)(hx:ev F x=.pointer (some ⟨g,off,none⟩):=by exact rfl)(h1:Lg tab t=true:=by exact rfl)
  (hm:Has L (Ow e sz ⟨some ⟨g,0,none⟩,n',cap⟩ flat):=by repeat' (first|exact Has.here|refine Has.there ?_)) (hv:flat[off]?=some v:=by exact rfl):QuS w0 L F ⟨dst,.load t x,ty,pos,after,guard⟩ Kq:=
 .val (fun w hw=>by
  obtain ⟨rest,h2,_⟩:=Tl (hw.own hm)
  have hlt:=(List.getElem?_eq_some_iff.1 hv).1
  have h3:w.cell? ⟨g,off,none⟩=some v:=Au h2 (by simp only [List.getElem?_toArray];rw [List.getElem?_append_left hlt];exact hv)
  simp [execOp,hx,Instr.loadAt,Instr.sureAddr,C2 Aa h1 h3]) k
theorem Oc {e sz n' cap m:Nat}{flat vs:List Value}{t:TypeId}{x:Operand}{g off:Nat}(k:Kq (.agg vs.toArray))(hx:ev F x=.pointer (some ⟨g,off,none⟩):=by exact rfl)(h1:szT t=some m:=by exact rfl)
  (hm:Has L (Ow e sz ⟨some ⟨g,0,none⟩,n',cap⟩ flat):=by repeat' (first|exact Has.here|refine Has.there ?_)) (hv:Aj7 flat off m=some vs:=by exact rfl):QuS w0 L F ⟨dst,.load t x,ty,pos,after,guard⟩ Kq:=by
 obtain ⟨rfl,hv2⟩:=Wg hv
 refine .val (fun w hw=>?_) k
 obtain ⟨rest,hb,_⟩:=Tl (hw.own hm)
 have h2:=Fg (P:=Tryz.prog) (w:=w) Aa (Zu h1)
 have h3:=B8 (P:=Tryz.prog) vs 0 #[] (Je hb off vs 0 (fun j v hj=>by
  have h4:=hv2 j v hj
  have hlt:=(List.getElem?_eq_some_iff.1 h4).1
  rw [Nat.add_zero,List.getElem?_append_left hlt]
  exact h4))
 simp [execOp,hx,Instr.loadAt,Instr.sureAddr,loadVar,h2,loadCells,h3]
theorem Yv {e sz n' cap:Nat}{flat flat' vs:List Value}{t:TypeId}{x y:Operand}{g off:Nat}(k:K undef (Ow e sz ⟨some ⟨g,0,none⟩,n',cap⟩ flat'::L1))(hx:ev F x=.pointer (some ⟨g,off,none⟩):=by exact rfl)(hy:Rb (ev F y)=some vs:=by exact rfl)(h1:P4 tab t vs.length=true:=by exact rfl)(ho:Ud vs=true:=by exact rfl)
  (hm:Rem L (Ow e sz ⟨some ⟨g,0,none⟩,n',cap⟩ flat) L1:=by repeat' (first|exact Rem.here|apply Rem.there)) (hv:Ab2 flat off vs=some flat':=by exact rfl):EvS w0 L F ⟨none,.store t x y,ty,pos,after,guard⟩ K:=⟨fun w hw=>.inr (.inr (by
 unfold Ab2 at hv
 cases hb:Nat.ble (off+vs.length) flat.length with
 |false=>rw [hb] at hv;cases hv
 |true=>
  rw [hb] at hv
  have hl:=Nat.le_of_ble_eq_true hb
  simp only [cond_true,Gc,Option.some.injEq] at hv
  subst hv
  have hw2:=hw.pull hm
  have hq:(Ow e sz ⟨some ⟨g,0,none⟩,n',cap⟩ flat).P w:=hw2.res _ (by simp)
  obtain ⟨rest,hbk,hfl,hnc,hcm,hcl⟩:=Tl (Ow_P.1 hq)
  have hst:=run_storeCells_at Tryz.prog g off e vs 0 (flat++rest).toArray w hbk (by simp;omega) (L3 ho)
  have hp:Put w (w.setRow g ((flat++rest).take off++vs++(flat++rest).drop (off+vs.length)).toArray) g ((flat++rest).take off++vs++(flat++rest).drop (off+vs.length)) e:=Ic hbk
  have e1:(flat++rest).take off++vs++(flat++rest).drop (off+vs.length)=(flat.take off++vs++flat.drop (off+vs.length))++rest:=by
   rw [List.take_append_of_le_length (by omega),List.drop_append_of_le_length (by omega)]
   simp
  have hlen:(flat.take off++vs++flat.drop (off+vs.length)).length=flat.length:=by simp;omega
  refine ⟨_,_,rfl,?_,hw2.chg hp.grown.os hp.grown.tape hp.grown.output hp.grown.size (fun i hi hn=>hp.grown.block i hi fun e=>hn (Ow_fp.2 (show (some g:Option Nat)=some i from e.symm))) (Ow_P.2 ?_) (fun b hb=>.inl (Ow_fp.2 (Ow_fp.1 hb))),k⟩
  ·have h2:=Jr (P:=Tryz.prog) (w:=w) Aa h1
   have h3:=P8 hy
   simp only [Nat.add_zero,List.toList_toArray] at hst
   simp [execOp,hx,Instr.storeAt,Instr.sureAddr,storeVar,h2,h3,hst]
  ·refine ⟨by rw [hlen];exact hfl,.inr ⟨g,cap,_,rfl,Nat.zero_le _,hp.blk,hnc,hcm,?_,?_⟩⟩
   ·rw [e1]
    simp only [List.size_toArray,List.length_append] at hcl ⊢
    rw [<- hcl]
    simp only [List.length_append] at hlen
    omega
   ·simp only
    rw [e1,<- hfl,<- hlen,List.take_left]))⟩
end
def M8 (p:List UInt8):Nat->List Tok->Prop
 |_,[]=>True
 |a,t::ts=>∃ c,TokAt p a t c/\M8 p c ts
def LT (gX gp:Nat)(p:List UInt8)(ts:List Tok):Res where
 fp b:=b=gX\/b=gp
 P w:=gX≠gp/\p.length<=4611686018427387904/\∃ a,M8 p a ts/\(LX gX gp p a).P w/\(TX gp p).P w
 st w w' h k:=⟨h.1,h.2.1,let ⟨a,h1,h2,h3⟩:=h.2.2;⟨a,h1,(LX gX gp p a).st w w' h2 fun b hb=>k b (.inl (Bk_fp.1 hb)),(TX gp p).st w w' h3 fun b hb=>k b (.inr (TX_fp.1 hb))⟩⟩
 lt w h b hb:=by
  obtain ⟨_,_,a,_,h2,h3⟩:=h
  rcases hb with rfl|rfl
  ·exact (LX _ _ p a).lt w h2 _ (Bk_fp.2 rfl)
  ·exact (TX _ p).lt w h3 _ (TX_fp.2 rfl)
section
variable {w0 w:World}{L:List Res}{gX gp a:Nat}{p:List UInt8}{ts:List Tok}
theorem SL.ltOpen (h:SL w0 w (LT gX gp p ts::L)):∃ a,M8 p a ts/\p.length<=4611686018427387904/\SL w0 w (LX gX gp p a::TX gp p::L):=by
 obtain ⟨h1,h2,a,h3,h4,h5⟩:=h.res (LT gX gp p ts) (by simp)
 exact ⟨a,h3,h2,h.split h4 h5 (fun b hb=>.inl (Bk_fp.1 hb)) (fun b hb=>.inr (TX_fp.1 hb)) fun b hb hb2=>h1 ((Bk_fp.1 hb).symm.trans (TX_fp.1 hb2))⟩
theorem SL.ltFold (h:SL w0 w (LX gX gp p a::TX gp p::L))(hl:M8 p a ts)(hp:p.length<=4611686018427387904):SL w0 w (LT gX gp p ts::L):=by
 have hd:=(List.pairwise_cons.1 h.dis).1 (TX gp p) (by simp)
 exact h.join ⟨fun e=>hd gX (Bk_fp.2 rfl) (TX_fp.2 e),hp,a,hl,h.res _ (by simp),h.res _ (by simp)⟩ fun b hb=>hb.elim (fun h=>.inl (Bk_fp.2 h)) fun h=>.inr (TX_fp.2 h)
end
attribute [irreducible] LT
structure PC where
 pv:Sl
 ms:Sl
 mg:Sl
 mf:Sl
 me:Sl
 sl:Sl
 sm:Option Nat
 us:Sl
 fs:Option Nat
 gs:Option Nat
 ls:Option Nat
 hs:Option Nat
def Bj9 (gX:Nat)(t:Tok)(c:PC):List Value:=[c.pv.v,.pointer (some ⟨gX,0,none⟩),.int .u8 (t.k:Int),.int .u8 (t.m:Int),.string (Cf t.s),.int .i64 (t.a:Int),c.ms.v,c.mg.v,c.mf.v,c.me.v,c.sl.v,.map c.sm,c.us.v,.map c.fs,.map c.gs,.map c.ls,.map c.hs]
abbrev PB (gP gX:Nat)(t:Tok)(c:PC):Res:=Bk gP (Bj9 gX t c) 272
section
variable {w0:World}{L:List Res}{gP gX gp:Nat}{p:List UInt8}{t t':Tok}{ts:List Tok}{c:PC}
theorem Aqx (a b:Nat)(hp:p.length<=4611686018427387904)(ht:TokAt p a t' b) :
  CS w0 169 [.pointer (some ⟨gP,0,none⟩)] (PB gP gX t c::LX gX gp p a::TX gp p::L) (fun _:Unit=>.tuple #[]) (fun _=>LX gX gp p b::TX gp p::PB gP gX t' c::L) (fun _=>True):=by
 refine Ai (args:=[.pointer (some ⟨gP,0,none⟩)]) Tryz.func169 rfl Tryz.ntmps169 rfl ?_;conv=>whnf
 (repeat' ((first|refine rB ?_|fail)<;>conv=>whnf))
 refine cC Axy (At5 a b t' hp ht) ?_
 rintro ⟨⟩ -
 conv=>whnf
 intro g2
 conv=>whnf
 (repeat' ((first|refine rA ?_|refine Cy ?_|fail)<;>conv=>whnf))
 exact f0 () trivial
theorem Lk:CS w0 169 [.pointer (some ⟨gP,0,none⟩)] (PB gP gX t c::LT gX gp p (t'::ts)::L) (fun _:Unit=>.tuple #[]) (fun _=>PB gP gX t' c::LT gX gp p ts::L) (fun _=>True):=.mk fun w hw=>by
 obtain ⟨a,⟨b,h1,h2⟩,hp,h3⟩:=(hw.perm (List.Perm.swap ..)).ltOpen
 have h4:=h3.perm (((List.Perm.swap ..).cons _).trans (List.Perm.swap ..))
 refine ((Aqx a b hp h1).go w h4).mono ?_
 rintro e w' ⟨x,rfl,h5,-⟩
 exact ⟨(),rfl,(h5.ltFold h2 hp).perm (List.Perm.swap ..),trivial⟩
end
section
variable {w0:World}{L:List Res}{gP gX gp:Nat}{p:List UInt8}{t t':Tok}{ts:List Tok}{c:PC}
theorem Q6 (s:ByteArray)(hk:t.k=3)(hs:Cf t.s=s) :
  CS w0 220 [.pointer (some ⟨gP,0,none⟩),.string s] (PB gP gX t c::LT gX gp p (t'::ts)::L) (fun _:Unit=>.bool true) (fun _=>PB gP gX t' c::LT gX gp p ts::L) (fun _=>True):=by
 refine Ai (args:=[.pointer (some ⟨gP,0,none⟩),.string s]) Tryz.func220 rfl Tryz.ntmps220 rfl ?_;conv=>whnf
 (repeat' ((first|refine rB ?_|refine Ah (by first|assumption|omega) ?_|refine Avk (by assumption) ?_|fail)<;>conv=>whnf))
 refine cC Kw (Lk (t:=t) (t':=t') (c:=c)) ?_
 rintro ⟨⟩ -
 conv=>whnf
 exact f1 () trivial
theorem T5 (s:ByteArray)(hn:¬ (t.k=3/\Cf t.s=s)) :
  CS w0 220 [.pointer (some ⟨gP,0,none⟩),.string s] (PB gP gX t c::L) (fun _:Unit=>.bool false) (fun _=>PB gP gX t c::L) (fun _=>True):=by
 refine Ai (args:=[.pointer (some ⟨gP,0,none⟩),.string s]) Tryz.func220 rfl Tryz.ntmps220 rfl ?_;conv=>whnf
 by_cases hk:t.k=3
 ·have hs:¬ Cf t.s=s:=fun h=>hn ⟨hk,h⟩
  (repeat' ((first|refine rB ?_|refine Ah (by first|assumption|omega) ?_|refine Ay4 (by assumption) ?_|fail)<;>conv=>whnf))
  exact f1 () trivial
 ·(repeat' ((first|refine rB ?_|refine Ag (by first|assumption|omega) ?_|fail)<;>conv=>whnf))
  exact f1 () trivial
theorem O8 (s:ByteArray)(hk:t.k=3)(hs:Cf t.s=s) :
  CS w0 200 [.pointer (some ⟨gP,0,none⟩),.string s] (PB gP gX t c::LT gX gp p (t'::ts)::L) (fun _:Unit=>.tuple #[]) (fun _=>PB gP gX t' c::LT gX gp p ts::L) (fun _=>True):=by
 refine Ai (args:=[.pointer (some ⟨gP,0,none⟩),.string s]) Tryz.func200 rfl Tryz.ntmps200 rfl ?_;conv=>whnf
 refine cC Pf (Q6 s hk hs (t:=t) (t':=t') (c:=c)) ?_
 rintro ⟨⟩ -
 conv=>whnf
 exact f0 () trivial
theorem Qy (m:Nat)(hk:t.k=2)(hm:t.m=m) :
  CS w0 199 [.pointer (some ⟨gP,0,none⟩),.int .u8 (m:Int)] (PB gP gX t c::LT gX gp p (t'::ts)::L) (fun _:Unit=>.string (Cf t.s)) (fun _=>PB gP gX t' c::LT gX gp p ts::L) (fun _=>True):=by
 subst hm
 refine Ai (args:=[.pointer (some ⟨gP,0,none⟩),.int .u8 (t.m:Int)]) Tryz.func199 rfl Tryz.ntmps199 rfl ?_;conv=>whnf
 (repeat' ((first|refine rB ?_|refine Ah (by first|assumption|omega) ?_|fail)<;>conv=>whnf))
 refine cC Kw (Lk (t:=t) (t':=t') (c:=c)) ?_
 rintro ⟨⟩ -
 conv=>whnf
 skip
 exact f1 () trivial
abbrev NM (b n:Nat)(D:MD):Res:=Mp 9 3 b n D
theorem Vq (b n:Nat)(D:MD)(l:List ByteArray)(s:ByteArray)(i:Nat)(hD:SD D l)(hi:i<l.length)(e:l[i]! = s)(hs:s.size<=maxLen) :
  CS w0 269 [.map (some b),.string s] (NM b n D::L) (fun _:Unit=>.int .i64 (i:Int)) (fun _=>NM b n D::L) (fun _=>True):=by
 have h1:D.atKey (D9 s) (.lit (.int .i64 0))=.lit (.int .i64 (i:Int)):=by rw [<- e];exact hD.at_ i hi _
 have h2:Maps.has D (D9 s)=true:=hD.hasT (by rw [<- e,getElem!_pos l i hi];exact List.getElem_mem hi)
 refine Ai (args:=[.map (some b),.string s]) Tryz.func269 rfl Tryz.ntmps269 rfl ?_;conv=>whnf
 (repeat' ((first|(refine Nv h1 ?_;rw [h2])|fail)<;>conv=>whnf))
 exact f1 () trivial
theorem Ayx (bg n:Nat)(D:MD)(l:List ByteArray)(i:Nat)(hD:SD D l)(hg:c.gs=some bg)(hk:t.k=2)(hm:t.m=36)(hi:i<l.length)(e:l[i]! = Cf t.s)(hs:(Cf t.s).size<=maxLen) :
  CS w0 258 [.pointer (some ⟨gP,0,none⟩)] (PB gP gX t c::LT gX gp p (t'::ts)::NM bg n D::L) (fun _:Unit=>.agg #[.int .u8 2,.int .i64 (i:Int)]) (fun _=>PB gP gX t' c::LT gX gp p ts::NM bg n D::L) (fun _=>True):=by
 obtain ⟨pv,ms,mg,mf,me,sl,sm,us,fs,gs,ls,hs'⟩:=c
 simp only at hg
 subst hg
 refine Ai (args:=[.pointer (some ⟨gP,0,none⟩)]) Tryz.func258 rfl Tryz.ntmps258 rfl ?_;conv=>whnf
 intro g2
 conv=>whnf
 (repeat' ((first|refine rB ?_|refine Ag (by first|assumption|omega) ?_|fail)<;>conv=>whnf))
 refine Eg [0,1,2,4] 3 7 ([]) (by kernel_rfl) ?_;conv=>whnf
 (repeat' (first|exact True.intro|(refine And.intro ?_ ?_<;>conv=>whnf)|(first|(apply SbK.mk;(· repeat' (first|exact Sub.refl|exact Sub.nil|(apply Sub.cons;· repeat' (first|exact Rem.here|apply Rem.there))|apply Sub.skip)))|(refine cC Qz (Qy 36 hk hm (t:=t) (t':=t')) ?_;rintro ⟨⟩ -)|(refine cC An5 (Vq bg n D l _ i hD hi e hs) ?_;rintro ⟨⟩ -)|refine rB ?_|refine Cy ?_|fail)<;>conv=>whnf))
 all_goals exact f1 () trivial
abbrev RS (sl:Sl)(l:List ByteArray):Res:=Ow 9 1 sl (l.map Value.string)
theorem Bg2 (b n:Nat)(D:MD)(l:List ByteArray)(s:ByteArray)(hc:c.sm=some b)(hD:SD D l)(hl:c.sl.n=l.length)(hn:n<1000000)(hl2:l.length<1000000)(hx:s∉l)(hs:s.size<=maxLen) :
  CS w0 198 [.pointer (some ⟨gP,10,none⟩),.string s] (PB gP gX t c::RS c.sl l::NM b n D::L) (fun _:Sl=>.int .i64 (l.length:Int)) (fun sl'=>PB gP gX t { c with sl:=sl' }::RS sl' (l++[s])::NM b (n+1) (D.put (D9 s) (.lit (.int .i64 (l.length:Int))))::L) (fun sl'=>sl'.n=l.length+1):=by
 obtain ⟨pv,ms,mg,mf,me,sl,sm,us,fs,gs,ls,hs'⟩:=c
 simp only at hc hl
 subst hc
 have h1:=hD.atF hx (.lit (.int .i64 0))
 have h2:=hD.hasF hx
 refine Ai (args:=[.pointer (some ⟨gP,10,none⟩),.string s]) Tryz.func198 rfl Tryz.ntmps198 rfl ?_;conv=>whnf
 (repeat' ((first|(refine Nv h1 ?_;rw [h2])|refine Aoq ?_|refine rB ?_|fail)<;>conv=>whnf))
 rw [hl]
 refine Eg [0,1,2,3,4,5,6,7,8,9,10,11] 5 17 ([PB gP gX t ⟨pv,ms,mg,mf,me,sl,some b,us,fs,gs,ls,hs'⟩]) (by kernel_rfl) ?_;conv=>whnf
 (repeat' (first|exact True.intro|(refine And.intro ?_ ?_<;>conv=>whnf)|(first|(apply SbK.mk;(· repeat' (first|exact Sub.refl|exact Sub.nil|(apply Sub.cons;· repeat' (first|exact Rem.here|apply Rem.there))|apply Sub.skip)))|(refine Kv ?_;intro g4)|(refine sAp ?_;intro sl' hsl)|(refine Bf1 (l.length:Int) ?_;intro v0 st)|refine Az4 ?_|refine rB ?_|refine Cy ?_|fail)<;>conv=>whnf))
 rw [show l.map Value.string++[Value.string s]=(l++[s]).map Value.string by simp]
 exact f1 sl' (by dsimp only at hsl;omega)
theorem Bh1 (s:ByteArray)(hc:c.sm=none)(hl:c.sl=⟨none,0,0⟩)(hs:s.size<=maxLen) :
  CS w0 198 [.pointer (some ⟨gP,10,none⟩),.string s] (PB gP gX t c::RS c.sl []::L) (fun _:Sl×Nat=>.int .i64 0) (fun z=>PB gP gX t { c with sl:=z.1,sm:=some z.2 }::RS z.1 [s]::NM z.2 1 ((DataW.map []:MD).put (D9 s) (.lit (.int .i64 0)))::L) (fun z=>z.1.n=1):=by
 obtain ⟨pv,ms,mg,mf,me,sl,sm,us,fs,gs,ls,hs'⟩:=c
 simp only at hc hl
 subst hc hl
 refine Ai (args:=[.pointer (some ⟨gP,10,none⟩),.string s]) Tryz.func198 rfl Tryz.ntmps198 rfl ?_;conv=>whnf
 (repeat' ((first|refine Ar0 ?_|refine Aoq ?_|(refine sMk ?_;intro b)|refine rB ?_|refine Cy ?_|fail)<;>conv=>whnf))
 refine Eg [0,1,2,3,4,5,6,7,8,9,10,11] 5 17 ([PB gP gX t ⟨pv,ms,mg,mf,me,⟨none,0,0⟩,some b,us,fs,gs,ls,hs'⟩]) (by kernel_rfl) ?_;conv=>whnf
 (repeat' (first|exact True.intro|(refine And.intro ?_ ?_<;>conv=>whnf)|(first|(apply SbK.mk;(· repeat' (first|exact Sub.refl|exact Sub.nil|(apply Sub.cons;· repeat' (first|exact Rem.here|apply Rem.there))|apply Sub.skip)))|(refine Kv ?_;intro g4)|(refine sAp ?_;intro sl' hsl)|(refine Bf1 0 ?_;intro v0 st)|refine Az4 ?_|refine rB ?_|refine Cy ?_|fail)<;>conv=>whnf))
 exact f1 (sl',b) hsl
end
def N1 (t u:Tok):Prop:=t.k=1/\Cf t.s=⟨#[103,108,111,98,97,108]⟩/\u.k=2/\u.m=36
instance (t u:Tok):Decidable (N1 t u):=by unfold N1;infer_instance
def Fp:List Tok->List ByteArray
 |t::u::ts=>if N1 t u then Cf u.s::Fp (u::ts) else Fp (u::ts)
 |_=>[]
def Aa3:List Tok->Prop
 |[]=>False
 |[t]=>t.k=0
 |t::u::ts=>t.k≠0/\Aa3 (u::ts)
def Vs:Tok->List Tok->Tok
 |t,[]=>t
 |_,u::ts=>Vs u ts
section
variable {w0:World}{L:List Res}{gP gX gp:Nat}{p:List UInt8}{t t':Tok}{ts:List Tok}{c:PC}
theorem Asx (bg:Nat)(hg:c.gs=some bg)(hts:Aa3 (t'::ts))(hnd:(Fp (t'::ts)).Nodup)(hsz:∀ x∈Fp (t'::ts),x.size<=maxLen)(hlen:(Fp (t'::ts)).length<1000000) :
  CS w0 168 [.pointer (some ⟨gP,0,none⟩)] (PB gP gX t c::LT gX gp p (t'::ts)::NM bg 0 (.map [])::L) (fun _:MD=>.tuple #[]) (fun D=>PB gP gX (Vs t' ts) c::LT gX gp p []::NM bg (Fp (t'::ts)).length D::L) (fun D=>SD D (Fp (t'::ts))):=by
 obtain ⟨pv,ms,mg,mf,me,sl,sm,us,fs,gs,ls,hs'⟩:=c
 simp only at hg
 subst hg
 generalize hG:Fp (t'::ts)=G at hnd hsz hlen ⊢
 generalize hE:Vs t' ts=E
 refine Ai (args:=[.pointer (some ⟨gP,0,none⟩)]) Tryz.func168 rfl Tryz.ntmps168 rfl ?_;conv=>whnf
 refine cC Kw (Lk (t:=t) (t':=t')) ?_
 rintro ⟨⟩ -
 conv=>whnf
 refine Av7 (X:=Tok×List Tok×List ByteArray×MD) (Y:=MD) 0 (fun (_,_,l,_)=>[(0,.pointer (some ⟨gP,0,none⟩)),(2,.int .i64 (l.length:Int))]) (fun (t,ts,l,D)=>PB gP gX t ⟨pv,ms,mg,mf,me,sl,sm,us,fs,some bg,ls,hs'⟩::LT gX gp p ts::NM bg l.length D::L)
  (fun (t,ts,l,D)=>Aa3 (t::ts)/\SD D l/\l++Fp (t::ts)=G/\Vs t ts=E) (fun (_,ts,_,_)=>ts.length)
  (fun _=>[]) (fun D=>PB gP gX E ⟨pv,ms,mg,mf,me,sl,sm,us,fs,some bg,ls,hs'⟩::LT gX gp p []::NM bg G.length D::L) (fun D=>SD D G) (t',ts,[],.map []) ⟨hts,SD.nil,by simpa using hG,hE⟩ ?_ ?_
 rotate_left
 ·intro D G' hD
  conv=>whnf
  exact f0 D hD
 rintro ⟨u,us',l,D⟩ G' ⟨h1,h2,h3,h4⟩
 cases us' with
 |nil=>
  have hk:u.k=0:=h1
  conv=>whnf
  (repeat' ((first|refine rB ?_|refine Ah (by first|assumption|omega) ?_|fail)<;>conv=>whnf))
  have e:l=G:=by simpa [Fp] using h3
  subst e
  have e2:u=E:=h4
  subst e2
  exact xS D h2
 |cons v us'=>
  obtain ⟨hk,h1'⟩:=h1
  conv=>whnf
  (repeat' ((first|refine rB ?_|refine rA ?_|refine Ag (by first|assumption|omega) ?_|fail)<;>conv=>whnf))
  intro g3
  conv=>whnf
  (repeat' ((first|refine Cy ?_|fail)<;>conv=>whnf))
  refine cC Kw (Lk (t:=u) (t':=v)) ?_
  rintro ⟨⟩ -
  conv=>whnf
  by_cases hp:N1 u v
  ·obtain ⟨q1,q2,q3,q4⟩:=hp
   have e1:Fp (u::v::us')=Cf v.s::Fp (v::us'):=by
    show (if N1 u v then _ else _)=_
    rw [if_pos ⟨q1,q2,q3,q4⟩]
   rw [e1] at h3
   have hv:Cf v.s∉l:=by
    rw [<- h3] at hnd
    exact fun hm=>(List.nodup_append.1 hnd).2.2 _ hm _ (by simp) rfl
   have hvs:(Cf v.s).size<=maxLen:=hsz _ (by rw [<- h3];simp)
   have hll:l.length<1000000:=by
    have:=congrArg List.length h3
    simp at this
    omega
   have h5:=h2.atF hv (.lit (.int .i64 0))
   have h6:=h2.hasF hv
   (repeat' ((first|(refine Nv h5 ?_;rw [h6])|refine rB ?_|refine Ag (by first|assumption|omega) ?_|refine Iw rfl (by kernel_rfl) ?_|fail)<;>conv=>whnf))
   refine Bj3 10 (by kernel_rfl) ?_
   conv=>whnf
   (repeat' ((first|refine Ug ?_|refine rB ?_|refine wI (by simp only [Cj];omega) ?_|fail)<;>conv=>whnf))
   have e2:(l.length:Int)+1=((l++[Cf v.s]).length:Int):=by simp
   refine rS (x:=(u,v::us',l,D)) (v,us',l++[Cf v.s],_) ⟨h1',h2.put hv,by simpa using h3,h4⟩ (by simp) (hS:=?_) (hL:=?_)
   ·refine ⟨rfl,?_,trivial⟩
    show Value.int .i64 ((l.length:Int)+1)=_
    rw [e2]
   ·simp only [List.length_append,List.length_singleton]
    repeat' (first|exact Sub.refl|exact Sub.nil|(apply Sub.cons;· repeat' (first|exact Rem.here|apply Rem.there))|apply Sub.skip)
  ·have e1:Fp (u::v::us')=Fp (v::us'):=by
    show (if N1 u v then _ else _)=_
    rw [if_neg hp]
   rw [e1] at h3
   by_cases q1:u.k=1
   ·by_cases q2:Cf u.s=⟨#[103,108,111,98,97,108]⟩
    ·by_cases q3:v.k=2
     ·have q4:¬ v.m=36:=fun h=>hp ⟨q1,q2,q3,h⟩
      (repeat' ((first|refine rB ?_|refine Ag (by first|assumption|omega) ?_|refine Ah (by first|assumption|omega) ?_|fail)<;>conv=>whnf))
      exact rS (x:=(u,v::us',l,D)) (v,us',l,D) ⟨h1',h2,h3,h4⟩ (by simp)
     ·(repeat' ((first|refine rB ?_|refine Ag (by first|assumption|omega) ?_|refine Ah (by first|assumption|omega) ?_|fail)<;>conv=>whnf))
      exact rS (x:=(u,v::us',l,D)) (v,us',l,D) ⟨h1',h2,h3,h4⟩ (by simp)
    ·(repeat' ((first|refine rB ?_|refine Ag (by first|assumption|omega) ?_|refine Ah (by first|assumption|omega) ?_|fail)<;>conv=>whnf))
     exact rS (x:=(u,v::us',l,D)) (v,us',l,D) ⟨h1',h2,h3,h4⟩ (by simp)
   ·(repeat' ((first|refine rB ?_|refine Ah (by first|assumption|omega) ?_|fail)<;>conv=>whnf))
    exact rS (x:=(u,v::us',l,D)) (v,us',l,D) ⟨h1',h2,h3,h4⟩ (by simp)
end
end Go.Proofs.YtghmdfegfehhkaaGreatDoor
