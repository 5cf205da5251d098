/- Several texts of one claim in one file, made short: L12L P12L G15 L1201 L1204 L1206 L1205 U8 L1208 L1501. -/
import Derived.Test.YtghmdfegfehhkaaGreatDoorZ15
import Derived.Test.YtghmdfegfehhkaaGreatDoorZ3
import Derived.Test.YtghmdfegfehhkaaGreatDoorZ4
import Derived.Test.YtghmdfegfehhkaaGreatDoorZ6
import Derived.Test.YtghmdfegfehhkaaGreatDoorZ14
set_option maxRecDepth 100000
set_option maxHeartbeats 64000000
set_option linter.unusedVariables false
set_option linter.unusedSimpArgs false
namespace Go.Proofs.YtghmdfegfehhkaaGreatDoor
open Go.RowKit
def Hk (xs:List Bool)(v:Int):List Bool:=if 0<=v/\v<xs.length then xs.set v.toNat true else xs
theorem Mc (xs:List Bool)(g3 gb:Nat)(v:Int)(w:World)(h3:w.heap[g3]?=some (.cells #[.slice (some ⟨gb,0,none⟩) xs.length xs.length] 113 (0,0)))(hb:w.heap[gb]?=some (.cells (vb xs).toArray 4 (0,0)))(hne:g3≠gb) :
  Calls Tryz.prog 151 #[.int .i64 v,.pointer (some ⟨g3,0,none⟩)] w fun e w'=>e=.returned (.tuple #[])/\w.grownBy w' (some gb)/\w'.heap[gb]?=some (.cells (vb (Hk xs v)).toArray 4 (0,0)):=by
 refine A9 (args:=[.int .i64 v,.pointer (some ⟨g3,0,none⟩)]) Aa Tryz.func151 rfl Tryz.ntmps151 rfl ?_;conv=>whnf
 (repeat' ((first|refine Aj Aa h3 rfl rfl rfl rfl rfl rfl rfl (Ab Aa ?_)|((refine Bv Ql (F4 _ _ _ _) rfl rfl rfl rfl rfl rfl rfl ?_);rintro _ _ ⟨rfl,rfl⟩;refine ⟨_,rfl,Ab Aa ?_⟩)|refine Un (fun hg=>?_) (fun hg=>?_)|fail)<;>conv=>whnf))
 ·have hin:0<=v/\v<xs.length:=by simpa [Ff] using hg
  (repeat' ((first|refine Ni Aa 4 1 rfl rfl rfl rfl rfl rfl rfl (by omega) (by omega) (Ab Aa ?_)|fail)<;>conv=>whnf))
  refine Dt Aa hb rfl rfl rfl rfl rfl rfl (by simp [vb];omega) rfl rfl ?_
  intro w1 hp
  refine Ab Aa ?_
  conv=>whnf
  refine Hr rfl ⟨rfl,hp.grown,?_⟩
  rw [hp.blk,Hk,if_pos hin]
  simp [vb,List.map_set]
  rfl
 ·have hin:¬ (0<=v/\v<xs.length):=by simpa [Ff] using hg
  refine Hr rfl ⟨rfl,Cn _ _,?_⟩
  rw [hb,Hk,if_neg hin]
theorem Gu (xs:List Bool)(v:Int):(Hk xs v).length=xs.length:=by unfold Hk;split<;>simp
def E1 (xs:List Bool)(c:Cell):List Bool:=c.args.foldl Hk (Hk xs c.v)
def G0 (xs:List Bool)(c:Con):List Bool:=if c.k=5 then Hk xs c.a else xs
theorem Iy {α:Type}{f:List Bool->α->List Bool}(hf:∀ xs c,(f xs c).length=xs.length):∀ (l:List α) (xs:List Bool),(l.foldl f xs).length=xs.length
 |[],xs=>rfl
 |c::l,xs=>by rw [List.foldl_cons,Iy hf l,hf]
theorem Hp (xs:List Bool)(c:Cell):(E1 xs c).length=xs.length:=by rw [E1,Iy Gu,Gu]
theorem Ll (xs:List Bool)(c:Con):(G0 xs c).length=xs.length:=by unfold G0;split;exact Gu _ _;rfl
def B7 (s:Sys):List Bool:=s.cons.foldl G0 (s.cells.foldl E1 (List.replicate s.vars.toNat false))
structure LooInv (n:Nat)(g1 g3 gb:Nat)(v1:List Value)(w0 w:World)(L:List Bool):Prop where
 below:Below w0.heap.size w0 w
 b1:w.heap[g1]?=some (.cells v1.toArray 35 (0,0))
 b3:w.heap[g3]?=some (.cells #[.slice (some ⟨gb,0,none⟩) n n] 113 (0,0))
 bb:w.heap[gb]?=some (.cells (vb L).toArray 4 (0,0))
 len:L.length=n
theorem LooInv.up {n g1 g3 gb:Nat}{v1:List Value}{w0 w w':World}{L:List Bool}(h:LooInv n g1 g3 gb v1 w0 w L)(hb:Below w.heap.size w w'):LooInv n g1 g3 gb v1 w0 w' L:=
 ⟨Ax h.below hb,Ac hb h.b1,Ac hb h.b3,Ac hb h.bb,h.len⟩
theorem LooInv.mark {n g1 g3 gb:Nat}{v1:List Value}{w0 w w':World}{L:List Bool}{v:Int}(h:LooInv n g1 g3 gb v1 w0 w L)(h1:g1≠gb)(h3:g3≠gb)(h0:w0.heap.size<=gb)(hg:w.grownBy w' (some gb))(hb:w'.heap[gb]?=some (.cells (vb (Hk L v)).toArray 4 (0,0))):LooInv n g1 g3 gb v1 w0 w' (Hk L v):=
 ⟨h.below.grown hg h.below.size (fun k hk=>by cases hk;exact h0),(hg.block g1 (Ae h.b1) (by simpa using h1)).trans h.b1,(hg.block g3 (Ae h.b3) (by simpa using h3)).trans h.b3,hb,by rw [Gu,h.len]⟩
theorem Zr (s:Sys)(A1 A2:Option Addr)(c1 c2:Nat)(w:World)(h1:RCells w A1 s.cells)(h2:RCons w A2 s.cons)(hv:s.vars<=16384) :
  Calls Tryz.prog 121 #[.agg #[.int .i64 s.vars,.slice A1 s.cells.length c1,.slice A2 s.cons.length c2]] w fun e w'=>∃ g,e=.returned (.slice (some ⟨g,0,none⟩) s.vars.toNat s.vars.toNat)/\w.heap.size<=g/\w'.heap[g]?=some (.cells (vb (B7 s)).toArray 4 (0,0))/\Below w.heap.size w w':=by
 refine A9 (args:=[.agg #[.int .i64 s.vars,.slice A1 s.cells.length c1,.slice A2 s.cons.length c2]]) Aa Tryz.func121 rfl Tryz.ntmps121 rfl ?_;conv=>whnf
 refine Ci rfl rfl rfl rfl rfl rfl ?_
 intro g1 w1 hn1
 have hb1:=hn1.blk
 refine Ab Aa ?_
 conv=>whnf
 (repeat' ((first|refine Aj Aa hb1 rfl rfl rfl rfl rfl rfl rfl (Ab Aa ?_)|fail)<;>conv=>whnf))
 refine Ap8 rfl rfl rfl rfl rfl rfl rfl rfl ?_
 intro m hm
 have hm2:m=(s.vars.toNat:Int):=by rw [hm];split<;>omega
 clear hm
 subst hm2
 refine Ab Aa ?_
 conv=>whnf
 refine Lb Aa 4 1 1 rfl rfl rfl rfl rfl rfl rfl rfl rfl (by omega) (by omega) ?_
 intro gb w2 hn2
 refine Ab Aa ?_
 conv=>whnf
 refine Bm Aa rfl rfl rfl rfl rfl rfl ?_
 intro g3 w3 hn3
 refine Dd (off:=0) Aa hn3.blk rfl rfl rfl rfl rfl rfl (by simp) rfl rfl ?_
 intro w4 hp4
 refine Ab Aa ?_
 conv=>whnf
 have hz1:w.heap.size=g1:=hn1.at_.symm
 have hz2:g1<gb:=by have:=hn1.at_;have:=hn1.size;have:=hn2.at_;omega
 have hz3:gb<g3:=by have:=hn2.at_;have:=hn2.size;have:=hn3.at_;omega
 have hL:LooInv s.vars.toNat g1 g3 gb [.int .i64 s.vars,.slice A1 s.cells.length c1,.slice A2 s.cons.length c2] w w4 (List.replicate s.vars.toNat false):=by
  refine ⟨hp4.below (hn3.up (hn2.up hn1.below)) (by omega) (by have:=hn3.size;have:=hn2.size;have:=hn1.size;omega),hp4.old (hn3.old (hn2.old hb1)) (by omega),hp4.blk,?_,by simp⟩
  have:=hp4.old (hn3.old hn2.blk) (by omega)
  rw [this]
  simp [vb]
  exact .inr rfl
 refine Ta rfl rfl rfl rfl rfl rfl ?_
 refine Ab Aa ?_
 conv=>whnf
 have hb4:=hL.b1
 (repeat' ((first|refine Aj Aa hb4 rfl rfl rfl rfl rfl rfl rfl (Ab Aa ?_)|fail)<;>conv=>whnf))
 refine Am Aa (X:=Nat) (fun i=>[(1,.pointer (some ⟨g1,0,none⟩)),(3,.pointer (some ⟨g3,0,none⟩)),(4,.func (.func 151) #[] #[.pointer (some ⟨g3,0,none⟩)]),(17,.slice A1 s.cells.length c1),(18,.int .i64 s.cells.length),(19,.int .i64 i)])
  (fun i wr=>i<=s.cells.length/\LooInv s.vars.toNat g1 g3 gb [.int .i64 s.vars,.slice A1 s.cells.length c1,.slice A2 s.cons.length c2] w wr ((s.cells.take i).foldl E1 (List.replicate s.vars.toNat false))) (fun i=>s.cells.length - i) 0 ⟨rfl,rfl,rfl,rfl,rfl,rfl,trivial⟩ ⟨by omega,hL⟩ ?_
 clear hL hb4 hp4 hn3 hn2 hn1 hb1
 intro i G wr ⟨hi,hL⟩
 conv=>whnf
 have hmx:=h1.1
 have hmx2:=h2.1
 by_cases hlt:i<s.cells.length
 ·obtain ⟨x,ad,B,c,hx,rfl,e0,hc,e4,_⟩:=Q3 h1 i hlt
  (repeat' ((first|refine Al Aa 99 3 rfl rfl rfl rfl rfl rfl rfl (by omega) (Ab Aa ?_)|refine E0 Aa (Ev hL.below e0) rfl rfl rfl rfl rfl rfl (Ab Aa ?_)|(refine Ag (by first|assumption|omega) ?_)|fail)<;>conv=>whnf))
  refine Bm Aa rfl rfl rfl rfl rfl rfl ?_
  intro g6 w6 hn6
  refine Di Aa hn6.blk rfl rfl rfl rfl rfl (by simp [Value.oneCell']) rfl rfl ?_
  intro w7 hp7
  have hB7:Below wr.heap.size wr w7:=hp7.below hn6.below (by have:=hn6.at_;omega) (by have:=hn6.size;omega)
  have hL7:=hL.up hB7
  have hb7:=hp7.blk
  have hg6:g6≠gb:=by have:=Ae hL.bb;have:=hn6.at_;omega
  refine Ab Aa ?_
  conv=>whnf
  (repeat' ((first|refine Aj Aa hb7 rfl rfl rfl rfl rfl rfl rfl (Ab Aa ?_)|fail)<;>conv=>whnf))
  refine I6 Abz (first:=[]) (args:=[.int .i64 x.v]) (caps:=[.pointer (some ⟨g3,0,none⟩)]) (Mc _ g3 gb x.v w7 (by rw [hL7.len];exact hL7.b3) hL7.bb (by omega)) rfl rfl rfl rfl rfl rfl rfl ?_
  rintro _ m8' ⟨rfl,hgm8,hbm8⟩
  have hm8:=hL7.mark (by omega) (by omega) (by omega) hgm8 hbm8
  refine ⟨_,rfl,Ab Aa ?_⟩
  conv=>whnf
  have hb8:m8'.heap[g6]?=_:=(hgm8.block g6 (Ae hb7) (by simpa using hg6)).trans hb7
  (repeat' ((first|refine Aj Aa hb8 rfl rfl rfl rfl rfl rfl rfl (Ab Aa ?_)|fail)<;>conv=>whnf))
  refine Am Aa (X:=Nat) (fun j=>[(1,.pointer (some ⟨g1,0,none⟩)),(3,.pointer (some ⟨g3,0,none⟩)),(4,.func (.func 151) #[] #[.pointer (some ⟨g3,0,none⟩)]),(17,.slice (some ad) s.cells.length c1),(18,.int .i64 s.cells.length),(19,.int .i64 i),(28,.slice B x.args.length c),(29,.int .i64 x.args.length),(30,.int .i64 j)])
   (fun j wj=>j<=x.args.length/\LooInv s.vars.toNat g1 g3 gb [.int .i64 s.vars,.slice (some ad) s.cells.length c1,.slice A2 s.cons.length c2] w wj ((x.args.take j).foldl Hk (Hk ((s.cells.take i).foldl E1 (List.replicate s.vars.toNat false)) x.v))) (fun j=>x.args.length - j) 0 ⟨rfl,rfl,rfl,rfl,rfl,rfl,rfl,rfl,rfl,trivial⟩ ⟨by omega,hm8⟩ ?_
  intro j G2 wj ⟨hj,hLj⟩
  conv=>whnf
  have hmx3:=e4.out.1
  by_cases hjl:j<x.args.length
  ·obtain ⟨y,ad2,hy,rfl,f0,_⟩:=Dy (e4.out.up (Bj _) hLj.below) j hjl
   (repeat' ((first|refine Az Aa rfl rfl rfl rfl rfl rfl f0 (Ab Aa ?_)|refine Al Aa 3 1 rfl rfl rfl rfl rfl rfl rfl (by omega) (Ab Aa ?_)|(refine Ag (by first|assumption|omega) ?_)|fail)<;>conv=>whnf))
   refine I6 Abz (first:=[]) (args:=[.int .i64 y]) (caps:=[.pointer (some ⟨g3,0,none⟩)]) (Mc _ g3 gb y wj (by rw [hLj.len];exact hLj.b3) hLj.bb (by omega)) rfl rfl rfl rfl rfl rfl rfl ?_
   rintro _ m9' ⟨rfl,hgm9,hbm9⟩
   have hm9:=hLj.mark (by omega) (by omega) (by omega) hgm9 hbm9
   refine ⟨_,rfl,Ab Aa ?_⟩
   conv=>whnf
   (repeat' ((first|refine Af rfl rfl rfl rfl rfl rfl (by omega) (by omega) (Ab Aa ?_)|fail)<;>conv=>whnf))
   exact ⟨j+1,⟨rfl,rfl,rfl,rfl,rfl,rfl,rfl,rfl,rfl,trivial⟩,⟨by omega,by rw [Bl _ _ hjl,hy.out];exact hm9⟩,by omega⟩
  ·(repeat' ((first|refine Af rfl rfl rfl rfl rfl rfl (by omega) (by omega) (Ab Aa ?_)|refine Ah (by first|assumption|omega) ?_|fail)<;>conv=>whnf))
   exact ⟨i+1,⟨rfl,rfl,rfl,rfl,rfl,rfl,trivial⟩,⟨by omega,by rw [Bl _ _ hlt,hx.out,E1];rw [Lz _ _ hjl] at hLj;exact hLj⟩,by omega⟩
 ·(repeat' ((first|refine Aj Aa hL.b1 rfl rfl rfl rfl rfl rfl rfl (Ab Aa ?_)|(refine Ah (by first|assumption|omega) ?_)|fail)<;>conv=>whnf))
  rw [Lz _ _ hlt] at hL
  refine Am Aa (X:=Nat) (fun j=>[(1,.pointer (some ⟨g1,0,none⟩)),(3,.pointer (some ⟨g3,0,none⟩)),(4,.func (.func 151) #[] #[.pointer (some ⟨g3,0,none⟩)]),(40,.slice A2 s.cons.length c2),(41,.int .i64 s.cons.length),(42,.int .i64 j)])
   (fun j wj=>j<=s.cons.length/\LooInv s.vars.toNat g1 g3 gb [.int .i64 s.vars,.slice A1 s.cells.length c1,.slice A2 s.cons.length c2] w wj ((s.cons.take j).foldl G0 (s.cells.foldl E1 (List.replicate s.vars.toNat false)))) (fun j=>s.cons.length - j) 0 ⟨rfl,rfl,rfl,rfl,rfl,rfl,trivial⟩ ⟨by omega,hL⟩ ?_
  intro j G2 wj ⟨hj,hLj⟩
  conv=>whnf
  by_cases hjl:j<s.cons.length
  ·obtain ⟨x,ad,B,c,hx,rfl,e0,hc,e4,hk0,hk1,_⟩:=Qj h2 j hjl
   (repeat' ((first|refine Al Aa 77 4 rfl rfl rfl rfl rfl rfl rfl (by omega) (Ab Aa ?_)|refine E0 Aa (Ev hLj.below e0) rfl rfl rfl rfl rfl rfl (Ab Aa ?_)|(refine Ag (by first|assumption|omega) ?_)|fail)<;>conv=>whnf))
   refine Bm Aa rfl rfl rfl rfl rfl rfl ?_
   intro g6 w6 hn6
   refine Di Aa hn6.blk rfl rfl rfl rfl rfl (by simp [Value.oneCell']) rfl rfl ?_
   intro w7 hp7
   have hB7:Below wj.heap.size wj w7:=hp7.below hn6.below (by have:=hn6.at_;omega) (by have:=hn6.size;omega)
   have hL7:=hLj.up hB7
   have hb7:=hp7.blk
   refine Ab Aa ?_
   conv=>whnf
   (repeat' ((first|refine Aj Aa hb7 rfl rfl rfl rfl rfl rfl rfl (Ab Aa ?_)|refine Af rfl rfl rfl rfl rfl rfl (by omega) (by omega) (Ab Aa ?_)|refine J5 (fun hg=>?_) (fun hg=>?_)|fail)<;>conv=>whnf))
   ·refine I6 Abz (first:=[]) (args:=[.int .i64 x.a]) (caps:=[.pointer (some ⟨g3,0,none⟩)]) (Mc _ g3 gb x.a w7 (by rw [hL7.len];exact hL7.b3) hL7.bb (by omega)) rfl rfl rfl rfl rfl rfl rfl ?_
    rintro _ m8' ⟨rfl,hgm8,hbm8⟩
    have hm8:=hL7.mark (by omega) (by omega) (by omega) hgm8 hbm8
    refine ⟨_,rfl,Ab Aa ?_⟩
    conv=>whnf
    (repeat' ((first|refine Af rfl rfl rfl rfl rfl rfl (by omega) (by omega) (Ab Aa ?_)|fail)<;>conv=>whnf))
    exact ⟨j+1,⟨rfl,rfl,rfl,rfl,rfl,rfl,trivial⟩,⟨by omega,by rw [Bl _ _ hjl,hx.out,G0,if_pos hg];exact hm8⟩,by omega⟩
   ·exact ⟨j+1,⟨rfl,rfl,rfl,rfl,rfl,rfl,trivial⟩,⟨by omega,by rw [Bl _ _ hjl,hx.out,G0,if_neg hg];exact hL7⟩,by omega⟩
  ·(repeat' (first|refine Cg rfl rfl ?_|(first|refine Aj Aa hLj.b3 rfl rfl rfl rfl rfl rfl rfl (Ab Aa ?_)|(refine Ah (by first|assumption|omega) ?_)|fail)<;>conv=>whnf))
   rw [Lz _ _ hjl] at hLj
   exact ⟨gb,rfl,by omega,hLj.bb,hLj.below⟩
def Jy (v:Int)(c:Cell):Bool:=decide (c.v=v)||c.args.any fun n=>decide (n=v)
def Li (v:Int)(c:Con):Bool:=decide (c.k=5)&&decide (c.a=v)
def Fd (s:Sys)(v:Int):Bool:=s.cells.any (Jy v)||s.cons.any (Li v)
theorem Mb {xs:List Bool}{v:Nat}(hv:v<xs.length)(n:Int):(Hk xs n)[v]! = (xs[v]! || decide (n=(v:Int))):=by
 unfold Hk
 split
 ·rename_i hn
  rw [getElem!_pos (xs.set n.toNat true) v (by simpa using hv),getElem!_pos xs v hv,List.getElem_set]
  by_cases e:n=(v:Int)
  ·simp [e]
  ·rw [if_neg (by omega)]
   simp [e]
 ·rename_i hn
  rw [show decide (n=(v:Int))=false by simp;omega]
  simp
theorem K0 {α:Type}{f:List Bool->α->List Bool}{p:α->Bool}{v:Nat}(hl:∀ xs c,(f xs c).length=xs.length)(hf:∀ (xs:List Bool) (c:α),v<xs.length->(f xs c)[v]! = (xs[v]! || p c)) :
  ∀ (l:List α) (xs:List Bool),v<xs.length->(l.foldl f xs)[v]! = (xs[v]! || l.any p)
 |[],xs,h=>by simp
 |c::l,xs,h=>by
  rw [List.foldl_cons,K0 hl hf l _ (by rw [hl];exact h),hf xs c h]
  simp [Bool.or_assoc]
theorem Fz (s:Sys):(B7 s).length=s.vars.toNat:=by
 rw [B7,Iy Ll,Iy Hp,List.length_replicate]
theorem Va (s:Sys){v:Nat}(hv:v<s.vars.toNat):(B7 s)[v]! = Fd s v:=by
 have h0:v<(List.replicate s.vars.toNat false).length:=by simpa using hv
 rw [B7,K0 (p:=Li v) Ll ?_ _ _ (by rw [Iy Hp];exact h0),K0 (p:=Jy v) Hp ?_ _ _ h0]
 ·rw [getElem!_pos (List.replicate s.vars.toNat false) v h0]
  simp [Fd]
 ·intro xs c h
  rw [E1,K0 (p:=fun n=>decide (n=(v:Int))) Gu (fun xs n h=>Mb h n) _ _ (by rw [Gu];exact h),Mb h]
  simp [Jy,Bool.or_assoc]
 ·intro xs c h
  unfold G0 Li
  split
  ·rename_i e
   rw [Mb h]
   simp [e]
  ·rename_i e
   simp [e]
structure Gph where
 vars:Int
 into:List (List Int)
 bases:List (List Int)
 loose:List Bool
deriving Inhabited
def Gp (M:List (List Int))(a x:Int):List (List Int):=M.set a.toNat (M[a.toNat]! ++ [x])
def Cc (vars:Int)(p:List (List Int)×List (List Int))(c:Con):List (List Int)×List (List Int):=
 if c.k=1 then (p.1,Gp p.2 c.a c.b) else if c.k=2 then (Gp p.1 c.a c.b,p.2) else if c.k=3 then (Gp p.1 c.a (vars+c.b),p.2) else p
def El (s:Sys):List (List Int)×List (List Int):=s.cons.foldl (Cc s.vars) (List.replicate (2*s.vars.toNat) [],List.replicate s.vars.toNat [])
def Cb (s:Sys):Gph:=if Ba s then ⟨s.vars,(El s).1,(El s).2,B7 s++List.replicate s.vars.toNat true⟩ else ⟨0,[],[],[]⟩
theorem Mm (vars:Int)(p:List (List Int)×List (List Int))(c:Con):(Cc vars p c).1.length=p.1.length/\(Cc vars p c).2.length=p.2.length:=by
 unfold Cc Gp
 split
 ·simp
 ·split
  ·simp
  ·split<;>simp
theorem Hy (vars:Int):∀ (l:List Con) (p:List (List Int)×List (List Int)),(l.foldl (Cc vars) p).1.length=p.1.length/\(l.foldl (Cc vars) p).2.length=p.2.length
 |[],p=>⟨rfl,rfl⟩
 |c::l,p=>by
  have h:=Hy vars l (Cc vars p c)
  have h2:=Mm vars p c
  exact ⟨h.1.trans h2.1,h.2.trans h2.2⟩
theorem I0 (vars:Int){m:Nat}:∀ (l:List Con) (p:List (List Int)×List (List Int)),(∀ i,i<p.1.length->p.1[i]!.length<=m)->(∀ i,i<p.2.length->p.2[i]!.length<=m)->(∀ i,i<p.1.length->(l.foldl (Cc vars) p).1[i]!.length<=m+l.length)/\(∀ i,i<p.2.length->(l.foldl (Cc vars) p).2[i]!.length<=m+l.length)
 |[],p,h1,h2=>⟨by simpa using h1,by simpa using h2⟩
 |c::l,p,h1,h2=>by
  have hl:=Mm vars p c
  have add:∀ (M:List (List Int)) (a x:Int),(∀ i,i<M.length->M[i]!.length<=m)->∀ i,i<M.length->(Gp M a x)[i]!.length<=m+1:=fun M a x h i hi=>by
   unfold Gp
   rw [Ek _ _ _ _ hi]
   split
   ·rename_i e;subst e;have:=h _ hi;rw [List.length_append,List.length_singleton];omega
   ·have:=h i hi;omega
  have k1:∀ i,i<(Cc vars p c).1.length->(Cc vars p c).1[i]!.length<=m+1:=fun i hi=>by
   rw [hl.1] at hi
   unfold Cc
   split
   ·have:=h1 i hi;simp only;omega
   ·split
    ·exact add _ _ _ h1 i hi
    ·split
     ·exact add _ _ _ h1 i hi
     ·have:=h1 i hi;omega
  have k2:∀ i,i<(Cc vars p c).2.length->(Cc vars p c).2[i]!.length<=m+1:=fun i hi=>by
   rw [hl.2] at hi
   unfold Cc
   split
   ·exact add _ _ _ h2 i hi
   ·split
    ·have:=h2 i hi;simp only;omega
    ·split
     ·have:=h2 i hi;simp only;omega
     ·have:=h2 i hi;omega
  have:=I0 vars l (Cc vars p c) k1 k2
  rw [hl.1,hl.2] at this
  refine ⟨fun i hi=>?_,fun i hi=>?_⟩
  ·have:=this.1 i hi;simp only [List.foldl_cons,List.length_cons];omega
  ·have:=this.2 i hi;simp only [List.foldl_cons,List.length_cons];omega
theorem Ab4 (A:List Bool)(i k:Nat):(A++List.replicate i true++List.replicate (k+1) false).set (A.length+i) true=A++List.replicate (i+1) true++List.replicate k false:=by
 rw [List.set_append_right _ _ (by simp)]
 have e:A.length+i - (A++List.replicate i true).length=0:=by simp
 rw [e,show List.replicate (k+1) false=false::List.replicate k false from rfl,List.set_cons_zero,List.replicate_succ' (n:=i)]
 simp
theorem Aq4 (L:List Bool):∀ v∈vb L,v.oneCell'=true:=fun v hv=>by
 simp only [vb,List.mem_map] at hv
 obtain ⟨b,_,rfl⟩:=hv
 rfl
structure GI (w0 w:World)(g1 g2 gI gB gL g3:Nat)(b1 b2 b3:List Value)(vI vB:List Value)(p:List (List Int)×List (List Int))(L:List Bool)(bI bB:List Nat):Prop where
 below:Below w0.heap.size w0 w
 b1:w.heap[g1]?=some (.cells b1.toArray 35 (0,0))
 b2:w.heap[g2]?=some (.cells b2.toArray 163 (0,0))
 b3:w.heap[g3]?=some (.cells b3.toArray 163 (0,0))
 bL:w.heap[gL]?=some (.cells (vb L).toArray 4 (0,0))
 mI:GMat w0.heap.size gI w vI p.1 bI
 mB:GMat w0.heap.size gB w vB p.2 bB
 dis:∀ b∈bI,b∉bB
 fix:∀ b,b∈bI\/b∈bB->b≠g1/\b≠g2/\b≠g3/\b≠gL/\b≠gI/\b≠gB
 ne:(gI≠g1/\gI≠g2/\gI≠g3/\gI≠gL/\gI≠gB)/\gB≠g1/\gB≠g2/\gB≠g3/\gB≠gL
section
variable {w0 w w1 w2:World}{g1 g2 gI gB gL g3:Nat}{b1 b2 b3 vI vB:List Value}{p:List (List Int)×List (List Int)}{L:List Bool}{bI bB:List Nat}
theorem GI.up (h:GI w0 w g1 g2 gI gB gL g3 b1 b2 b3 vI vB p L bI bB)(hb:Below w.heap.size w w1):GI w0 w1 g1 g2 gI gB gL g3 b1 b2 b3 vI vB p L bI bB:=
 ⟨Ax h.below hb,Ac hb h.b1,Ac hb h.b2,Ac hb h.b3,Ac hb h.bL,h.mI.below hb,h.mB.below hb,h.dis,h.fix,h.ne⟩
theorem GI.putL (h:GI w0 w g1 g2 gI gB gL g3 b1 b2 b3 vI vB p L bI bB)(hL:w0.heap.size<=gL)(hne:gL≠g1/\gL≠g2/\gL≠g3){L':List Bool}(hp:Put w w1 gL (vb L') 4):GI w0 w1 g1 g2 gI gB gL g3 b1 b2 b3 vI vB p L' bI bB:=by
 refine ⟨hp.below h.below hL h.below.size,hp.old h.b1 (fun e=>hne.1 e.symm),hp.old h.b2 (fun e=>hne.2.1 e.symm),hp.old h.b3 (fun e=>hne.2.2 e.symm),hp.blk,h.mI.stays hp.grown (fun b e=>?_),h.mB.stays hp.grown (fun b e=>?_),h.dis,h.fix,h.ne⟩
 ·cases e
  exact ⟨fun e'=>h.ne.1.2.2.2.1 e'.symm,fun hb=>(h.fix gL (.inl hb)).2.2.2.1 rfl⟩
 ·cases e
  exact ⟨fun e'=>h.ne.2.2.2.2 e'.symm,fun hb=>(h.fix gL (.inr hb)).2.2.2.1 rfl⟩
theorem GMat.cellC {base g:Nat}{w:World}{vs:List Value}{M:List (List Int)}{bl:List Nat}(h:GMat base g w vs M bl){i:Nat}(hi:i<M.length){w':World}(hb:w'.heap[g]?=w.heap[g]?):w'.cell? ((⟨g,0,none⟩:Addr).add (i*1))=some vs[i]! :=
 (World.cell?_of_block (by rw [Mt];exact hb)).trans (h.cell hi)
theorem GI.addB (h:GI w0 w g1 g2 gI gB gL g3 b1 b2 b3 vI vB p L bI bB){i:Nat}(hi:i<p.2.length){v':Value}{x:Int}(hv:GInts w0.heap.size w1 v' (p.2[i]! ++ [x]))(hgr:w.grownBy w1 vB[i]!.ownBlock)
  (hob:v'.ownBlock=vB[i]!.ownBlock\/∃ b,v'.ownBlock=some b/\w.heap.size<=b) (hp:Put w1 w2 gB (vB.set i v') 27) :
  GI w0 w2 g1 g2 gI gB gL g3 b1 b2 b3 vI (vB.set i v') (p.1,p.2.set i (p.2[i]! ++ [x])) L bI (bB++v'.ownBlock.toList):=by
 have hm:=h.mB.app hi hv hgr hob hp
 have hrow:∀ b,vB[i]!.ownBlock=some b->b∈bB:=(h.mB.row i hi).2
 have keep:∀ {k:Nat} {o:Obj},w.heap[k]?=some o->(∀ b,b∈bB->k≠b)->k≠gB->w2.heap[k]?=some o:=fun {k o} hk h1 h2=>by
  refine hp.old ((hgr.block k (Ae hk) fun e=>h1 k (hrow k e.symm) rfl).trans hk) h2
 have hs:=h.mB.hg
 have hnew:∀ b,b∈v'.ownBlock.toList->b∈bB\/w.heap.size<=b:=fun b hb=>by
  rcases hob with e1|⟨b',e1,e2⟩
  ·exact .inl (hrow b (by rw [<- e1];exact Bi hb))
  ·rw [e1] at hb;simp at hb;subst hb;exact .inr e2
 have hbelow:Below w0.heap.size w0 w1:=h.below.grown hgr h.below.size (fun k hk=>(h.mB.lt k (hrow k hk)).1)
 refine ⟨hp.below hbelow hs hbelow.size,keep h.b1 (fun b hb e=>(h.fix b (.inr hb)).1 e.symm) (fun e=>h.ne.2.1 e.symm),keep h.b2 (fun b hb e=>(h.fix b (.inr hb)).2.1 e.symm) (fun e=>h.ne.2.2.1 e.symm),keep h.b3 (fun b hb e=>(h.fix b (.inr hb)).2.2.1 e.symm) (fun e=>h.ne.2.2.2.1 e.symm),keep h.bL (fun b hb e=>(h.fix b (.inr hb)).2.2.2.1 e.symm) (fun e=>h.ne.2.2.2.2 e.symm),?_,hm,?_,?_,h.ne⟩
 ·refine (h.mI.stays hgr fun b e=>⟨fun e'=>(h.fix b (.inr (hrow b e))).2.2.2.2.1 e',fun hb=>h.dis b hb (hrow b e)⟩).stays hp.grown fun b e=>?_
  cases e
  exact ⟨fun e'=>h.ne.1.2.2.2.2 e'.symm,fun hb=>(h.fix gB (.inl hb)).2.2.2.2.2 rfl⟩
 ·intro b hb hm
  rcases List.mem_append.1 hm with hm|hm
  ·exact h.dis b hb hm
  ·rcases hnew b hm with h1|h1
   ·exact h.dis b hb h1
   ·have:=(h.mI.lt b hb).2;omega
 ·intro b hb
  have key:b∈bI\/b∈bB\/w.heap.size<=b:=by
   rcases hb with hb|hb
   ·exact .inl hb
   ·rcases List.mem_append.1 hb with hb|hb
    ·exact .inr (.inl hb)
    ·exact .inr (hnew b hb)
  rcases key with hb|hb|hb
  ·exact h.fix b (.inl hb)
  ·exact h.fix b (.inr hb)
  ·have:=Ae h.b1;have:=Ae h.b2;have:=Ae h.b3;have:=Ae h.bL;have:=Ae h.mI.blk;have:=Ae h.mB.blk
   omega
theorem GI.addI (h:GI w0 w g1 g2 gI gB gL g3 b1 b2 b3 vI vB p L bI bB){i:Nat}(hi:i<p.1.length){v':Value}{x:Int}(hv:GInts w0.heap.size w1 v' (p.1[i]! ++ [x]))(hgr:w.grownBy w1 vI[i]!.ownBlock)
  (hob:v'.ownBlock=vI[i]!.ownBlock\/∃ b,v'.ownBlock=some b/\w.heap.size<=b) (hp:Put w1 w2 gI (vI.set i v') 27) :
  GI w0 w2 g1 g2 gI gB gL g3 b1 b2 b3 (vI.set i v') vB (p.1.set i (p.1[i]! ++ [x]),p.2) L (bI++v'.ownBlock.toList) bB:=by
 have hm:=h.mI.app hi hv hgr hob hp
 have hrow:∀ b,vI[i]!.ownBlock=some b->b∈bI:=(h.mI.row i hi).2
 have keep:∀ {k:Nat} {o:Obj},w.heap[k]?=some o->(∀ b,b∈bI->k≠b)->k≠gI->w2.heap[k]?=some o:=fun {k o} hk h1 h2=>by
  refine hp.old ((hgr.block k (Ae hk) fun e=>h1 k (hrow k e.symm) rfl).trans hk) h2
 have hs:=h.mI.hg
 have hnew:∀ b,b∈v'.ownBlock.toList->b∈bI\/w.heap.size<=b:=fun b hb=>by
  rcases hob with e1|⟨b',e1,e2⟩
  ·exact .inl (hrow b (by rw [<- e1];exact Bi hb))
  ·rw [e1] at hb;simp at hb;subst hb;exact .inr e2
 have hbelow:Below w0.heap.size w0 w1:=h.below.grown hgr h.below.size (fun k hk=>(h.mI.lt k (hrow k hk)).1)
 refine ⟨hp.below hbelow hs hbelow.size,keep h.b1 (fun b hb e=>(h.fix b (.inl hb)).1 e.symm) (fun e=>h.ne.1.1 e.symm),keep h.b2 (fun b hb e=>(h.fix b (.inl hb)).2.1 e.symm) (fun e=>h.ne.1.2.1 e.symm),keep h.b3 (fun b hb e=>(h.fix b (.inl hb)).2.2.1 e.symm) (fun e=>h.ne.1.2.2.1 e.symm),keep h.bL (fun b hb e=>(h.fix b (.inl hb)).2.2.2.1 e.symm) (fun e=>h.ne.1.2.2.2.1 e.symm),hm,?_,?_,?_,h.ne⟩
 ·refine (h.mB.stays hgr fun b e=>⟨fun e'=>(h.fix b (.inl (hrow b e))).2.2.2.2.2 e',fun hb=>h.dis b (hrow b e) hb⟩).stays hp.grown fun b e=>?_
  cases e
  exact ⟨fun e'=>h.ne.1.2.2.2.2 e',fun hb=>(h.fix gI (.inr hb)).2.2.2.2.1 rfl⟩
 ·intro b hm hb
  rcases List.mem_append.1 hm with hm|hm
  ·exact h.dis b hm hb
  ·rcases hnew b hm with h1|h1
   ·exact h.dis b h1 hb
   ·have:=(h.mB.lt b hb).2;omega
 ·intro b hb
  have key:b∈bI\/b∈bB\/w.heap.size<=b:=by
   rcases hb with hb|hb
   ·rcases List.mem_append.1 hb with hb|hb
    ·exact .inl hb
    ·rcases hnew b hb with h1|h1
     ·exact .inl h1
     ·exact .inr (.inr h1)
   ·exact .inr (.inl hb)
  rcases key with hb|hb|hb
  ·exact h.fix b (.inl hb)
  ·exact h.fix b (.inr hb)
  ·have:=Ae h.b1;have:=Ae h.b2;have:=Ae h.b3;have:=Ae h.bL;have:=Ae h.mI.blk;have:=Ae h.mB.blk
   omega
end
theorem Aex (s:Sys)(A1 A2:Option Addr)(c1 c2:Nat)(w:World)(h1:RCells w A1 s.cells)(h2:RCons w A2 s.cons) :
  Calls Tryz.prog 79 #[.agg #[.int .i64 s.vars,.slice A1 s.cells.length c1,.slice A2 s.cons.length c2]] w fun e w'=>∃ A B C,e=.returned (.agg #[.int .i64 (Cb s).vars,.slice A (Cb s).into.length (Cb s).into.length,.slice B (Cb s).bases.length (Cb s).bases.length,.slice C (Cb s).loose.length (Cb s).loose.length]) /\
   RRows w' A (Cb s).into/\RRows w' B (Cb s).bases/\RowR 1 dB w' C (Cb s).loose/\Below w.heap.size w w':=by
 have m1:=h1.1
 have m2:=h2.1
 refine A9 (args:=[.agg #[.int .i64 s.vars,.slice A1 s.cells.length c1,.slice A2 s.cons.length c2]]) Aa Tryz.func79 rfl Tryz.ntmps79 rfl ?_;conv=>whnf
 refine Ci rfl rfl rfl rfl rfl rfl ?_
 intro g1 w1 hn1
 have hb1:=hn1.blk
 refine Ab Aa ?_
 conv=>whnf
 refine Bm Aa rfl rfl rfl rfl rfl rfl ?_
 intro g2 w2 hn2
 have hb1:=hn2.old hb1
 have hb2:=hn2.blk
 have hB:=hn2.up hn1.below
 have hg12:g1<g2:=by have:=hn1.at_;have:=hn1.size;have:=hn2.at_;omega
 have hg0:w.heap.size<=g1:=by have:=hn1.at_;omega
 refine Ab Aa ?_
 conv=>whnf
 (repeat' ((first|refine C6 Aa hb1 rfl rfl rfl rfl rfl rfl (Ab Aa ?_)|fail)<;>conv=>whnf))
 refine Bv Atk (Nw s A1 A2 c1 c2 w2 (h1.up Cd hB) (h2.up Ck hB)) rfl rfl rfl rfl rfl rfl rfl ?_
 rintro _ w3 ⟨rfl,hB3⟩
 have hb1:=Ac hB3 hb1
 have hb2:=Ac hB3 hb2
 have hB:=Ax hB hB3
 clear hn1 hn2 hB3
 refine ⟨_,rfl,Ab Aa ?_⟩
 conv=>whnf
 (repeat' ((first|refine Nc (fun hg=>?_) (fun hg=>?_)|fail)<;>conv=>whnf))
 ·rename_i hnr
  refine Di Aa hb2 rfl rfl rfl rfl rfl (by simp [Value.oneCell']) rfl rfl ?_
  intro w4 hp4
  refine Ab Aa ?_
  conv=>whnf
  have e:Cb s=⟨0,[],[],[]⟩:=by simp_all [Cb]
  rw [e]
  refine V0 Aa rfl hp4.blk rfl rfl ⟨none,none,none,rfl,RowR.nil ..,RowR.nil ..,RowR.nil ..,hp4.below hB (by omega) hB.size⟩
 have hr0:0<=s.vars/\s.vars<=16384/\s.cons.length<=131072:=by
  have hr:=hg
  simp only [Ba,Hl,Bool.and_eq_true,decide_eq_true_eq] at hr
  exact ⟨hr.1.1.1.1.1,hr.1.1.1.1.2,hr.1.1.2⟩
 have hgood:∀ i,i<s.cons.length->B4 s.vars s.cells.length s.cons[i]! = true:=fun i hi=>by
  have hr:=hg
  simp only [Ba,Bool.and_eq_true,List.all_eq_true] at hr
  exact hr.2 _ (Cz hi)
 obtain ⟨n,hn⟩:∃ n:Nat,s.vars=n:=⟨s.vars.toNat,by omega⟩
 rw [hn] at hb1
 have hgr:Cb s=⟨n,(El s).1,(El s).2,B7 s++List.replicate n true⟩:=by
  rw [Cb,if_pos hg,hn]
  simp
 refine Jv (X:=Nat×Nat×Nat×Nat) (fun x=>[(1,.pointer (some ⟨g1,0,none⟩)),(2,.pointer (some ⟨g2,0,none⟩)),(3,.pointer (some ⟨x.2.2.2,0,none⟩))])
  (fun x W=>Below w3.heap.size w3 W/\W.heap[x.2.2.2]?=some (.cells #[.int .i64 n,.slice (some ⟨x.1,0,none⟩) (2*n) (2*n),.slice (some ⟨x.2.1,0,none⟩) n n,.slice (some ⟨x.2.2.1,0,none⟩) (2*n) (2*n)] 163 (0,0)) /\
   W.heap[x.1]?=some (.cells (List.replicate (2*n) [Value.slice none 0 0]).flatten.toArray 27 (0,0))/\W.heap[x.2.1]?=some (.cells (List.replicate n [Value.slice none 0 0]).flatten.toArray 27 (0,0))/\W.heap[x.2.2.1]?=some (.cells (List.replicate (2*n) [Value.bool false]).flatten.toArray 4 (0,0)) /\
   (w3.heap.size<=x.1/\w3.heap.size<=x.2.1/\w3.heap.size<=x.2.2.1/\w3.heap.size<=x.2.2.2)/\x.1≠x.2.1/\x.1≠x.2.2.1/\x.1≠x.2.2.2/\x.2.1≠x.2.2.1/\x.2.1≠x.2.2.2/\x.2.2.1≠x.2.2.2) ?_ ?_
 ·refine Em [0,1,2,3,4,6,7,9,10,11] 5 15 (Be _) Aa mixed (by kernel_rfl) (Below.refl _ _) ?_;(conv=>whnf)
  (repeat' ((first|refine Bg Aa hb1 rfl rfl rfl rfl rfl rfl rfl (Ad Aa ?_)|refine Ko rfl rfl rfl rfl rfl rfl (by omega) (by omega) (Ad Aa ?_)|fail)<;>conv=>whnf))
  intro w4 hC hB4
  clear hB4
  conv=>whnf
  repeat' (first|exact True.intro|(refine And.intro ?_ ?_<;>(conv=>whnf))|(refine L7 (m:=2*n) Aa 27 1 24 rfl rfl rfl rfl rfl rfl rfl rfl (by omega) (by omega) ?_;intro g5 v5 n5;(try (have d5_8:g5≠g8:=(by (have:=Ae f8;have:=n5.at_;omega))));(try (have d5_12:g5≠g12:=(by (have:=Ae f12;have:=n5.at_;omega))));(try (have d5_14:g5≠g14:=(by (have:=Ae f14;have:=n5.at_;omega))));have b5:w3.heap.size<=g5:=(by (have:=n5.at_;have:=hC.size;omega));have f5:=n5.blk;refine ⟨Ax hC n5.below,fun W hW hC=>?_⟩;have f5:=Ac hW f5;(try (have f8:=Ac (Ax n5.below hW) f8));(try (have f12:=Ac (Ax n5.below hW) f12));(try (have f14:=Ac (Ax n5.below hW) f14));clear hW n5;(conv=>whnf))|(refine L7 (m:=n) Aa 27 1 24 rfl rfl rfl rfl rfl rfl rfl rfl (by omega) (by omega) ?_;intro g8 v8 n8;(try (have d5_8:g5≠g8:=(by (have:=Ae f5;have:=n8.at_;omega))));(try (have d8_12:g8≠g12:=(by (have:=Ae f12;have:=n8.at_;omega))));(try (have d8_14:g8≠g14:=(by (have:=Ae f14;have:=n8.at_;omega))));have b8:w3.heap.size<=g8:=(by (have:=n8.at_;have:=hC.size;omega));have f8:=n8.blk;refine ⟨Ax hC n8.below,fun W hW hC=>?_⟩;have f8:=Ac hW f8;(try (have f5:=Ac (Ax n8.below hW) f5));(try (have f12:=Ac (Ax n8.below hW) f12));(try (have f14:=Ac (Ax n8.below hW) f14));clear hW n8;(conv=>whnf))|(refine L7 (m:=2*n) Aa 4 1 1 rfl rfl rfl rfl rfl rfl rfl rfl (by omega) (by omega) ?_;intro g12 v12 n12;(try (have d5_12:g5≠g12:=(by (have:=Ae f5;have:=n12.at_;omega))));(try (have d8_12:g8≠g12:=(by (have:=Ae f8;have:=n12.at_;omega))));(try (have d12_14:g12≠g14:=(by (have:=Ae f14;have:=n12.at_;omega))));have b12:w3.heap.size<=g12:=(by (have:=n12.at_;have:=hC.size;omega));have f12:=n12.blk;refine ⟨Ax hC n12.below,fun W hW hC=>?_⟩;have f12:=Ac hW f12;(try (have f5:=Ac (Ax n12.below hW) f5));(try (have f8:=Ac (Ax n12.below hW) f8));(try (have f14:=Ac (Ax n12.below hW) f14));clear hW n12;(conv=>whnf))|(refine Hh (La Aa rfl rfl rfl rfl rfl ?_);intro g14 v14 n14;(try (have d5_14:g5≠g14:=(by (have:=Ae f5;have:=n14.at_;omega))));(try (have d8_14:g8≠g14:=(by (have:=Ae f8;have:=n14.at_;omega))));(try (have d12_14:g12≠g14:=(by (have:=Ae f12;have:=n14.at_;omega))));have b14:w3.heap.size<=g14:=(by (have:=n14.at_;have:=hC.size;omega));have f14:=n14.blk;refine ⟨Ax hC n14.below,fun W hW hC=>?_⟩;have f14:=Ac hW f14;(try (have f5:=Ac (Ax n14.below hW) f5));(try (have f8:=Ac (Ax n14.below hW) f8));(try (have f12:=Ac (Ax n14.below hW) f12));clear hW n14;(conv=>whnf))|(refine Uq Aa rfl rfl rfl ?_;refine ⟨hC,fun W hW hC=>?_⟩;(try (have f5:=Ac (hW) f5));(try (have f8:=Ac (hW) f8));(try (have f12:=Ac (hW) f12));(try (have f14:=Ac (hW) f14));clear hW;(conv=>whnf)))
  all_goals
   refine Di Aa f14 rfl rfl rfl rfl rfl (by simp [Value.oneCell']) rfl rfl ?_
   intro wz hz
   refine Ab Aa ?_
   conv=>whnf
   exact ⟨(g5,g8,g12,g14),⟨rfl,rfl,rfl,trivial⟩,hz.below hC b14 hC.size,hz.blk,hz.old f5 d5_14,hz.old f8 d8_14,hz.old f12 d12_14,⟨b5,b8,b12,b14⟩,d5_8,d5_12,d5_14,d8_12,d8_14,d12_14⟩
 rintro ⟨gI,gB,gL,g3⟩ G w4 ⟨hB4,hb3,hbI,hbB,hbL,hsz,hne⟩
 simp only at hB4 hb3 hbI hbB hbL hsz hne
 have l1:=Ae hb1
 have l2:=Ae hb2
 have hb1:=Ac hB4 hb1
 have hb2:=Ac hB4 hb2
 have hB:=Ax hB hB4
 conv=>whnf
 refine Jv (X:=Unit) (fun x=>[(1,.pointer (some ⟨g1,0,none⟩)),(2,.pointer (some ⟨g2,0,none⟩)),(3,.pointer (some ⟨g3,0,none⟩))])
  (fun x W=>∃ v5,Below w4.heap.size w4 v5/\Put v5 W gL (vb (B7 s++List.replicate n false)) 4) ?_ ?_
 ·refine Em [0,1,2] 1 4 (Be _) Aa mixed (by kernel_rfl) (Below.refl _ _) ?_;(conv=>whnf)
  (repeat' ((first|refine Bg Aa hb3 rfl rfl rfl rfl rfl rfl rfl (Ad Aa ?_)|refine Q8 Aa hb1 rfl rfl rfl rfl rfl rfl (Ad Aa ?_)|fail)<;>conv=>whnf))
  intro w5 hC hB5
  clear hB5
  conv=>whnf
  refine ⟨?_,trivial⟩
  conv=>whnf
  have hBw:=Ax hB hC
  have hcl:=Zr s A1 A2 c1 c2 w5 (h1.up Cd hBw) (h2.up Ck hBw) (by omega)
  rw [hn] at hcl
  simp only [Int.toNat_natCast] at hcl
  refine Ag3 Bbx hcl rfl rfl rfl rfl rfl rfl ?_
  rintro _ w6 ⟨gS,rfl,hgS,hbS,hB6⟩
  refine ⟨_,rfl,Ax hC hB6,fun W hW hC'=>?_⟩
  conv=>whnf
  have hLn:(B7 s).length=n:=by rw [Fz,hn];simp
  have hlen:(vb (B7 s)).length=n:=by rw [<- hLn];simp [vb]
  refine Aj2 Aa 4 1 (vb (B7 s)) (Ac hC' hbL) rfl rfl rfl rfl rfl rfl rfl rfl rfl rfl (by rw [hlen];omega) (fun j v hv=>?_) (by rw [hlen];simp;omega) (Aq4 _) ?_
  ·rw [add_zero]
   exact Au (Ac hW hbS) (by simpa using hv)
  intro wz hz
  refine Ab Aa ?_
  conv=>whnf
  refine ⟨(),⟨rfl,rfl,rfl,trivial⟩,W,hC',?_⟩
  have e:vb (B7 s)++((List.replicate (2*n) [Value.bool false]).flatten).drop (vb (B7 s)).length=vb (B7 s++List.replicate n false):=by
   rw [hlen]
   simp [vb]
   omega
  rw [<- e]
  exact hz
 rintro _ G2 w5 ⟨v5,hB5,hp5⟩
 have hG:GI w w5 g1 g2 gI gB gL g3 [.int .i64 n,.slice A1 s.cells.length c1,.slice A2 s.cons.length c2] [.int .i64 0,.slice none 0 0,.slice none 0 0,.slice none 0 0]
   [.int .i64 n,.slice (some ⟨gI,0,none⟩) (2*n) (2*n),.slice (some ⟨gB,0,none⟩) n n,.slice (some ⟨gL,0,none⟩) (2*n) (2*n)] (List.replicate (2*n) (.slice none 0 0)) (List.replicate n (.slice none 0 0)) (List.replicate (2*n) [],List.replicate n []) (B7 s++List.replicate n false) [] []:=by
  have hs3:=hB.size
  have hs4:=hB4.size
  refine ⟨hp5.below (Ax hB hB5) (by have:=Ae hbL;omega) (Ax hB hB5).size,hp5.old (Ac hB5 hb1) (by omega),hp5.old (Ac hB5 hb2) (by omega),hp5.old (Ac hB5 hb3) (fun e=>hne.2.2.2.2.2 e.symm),hp5.blk,GMat.init (hp5.old (Ac hB5 hbI) hne.2.1) (by omega),GMat.init (hp5.old (Ac hB5 hbB) hne.2.2.2.1) (by omega),by simp,by simp,⟨by omega,by omega,hne.2.2.1,hne.2.1,hne.1⟩,by omega,by omega,hne.2.2.2.2.1,hne.2.2.2.1⟩
 have hgL:w.heap.size<=gL/\gL≠g1/\gL≠g2/\gL≠g3:=⟨by have:=hB.size;omega,by omega,by omega,hne.2.2.2.2.2⟩
 have hLn:(B7 s).length=n:=by rw [Fz,hn];simp
 clear hp5 hB5 hb1 hb2 hb3 hbI hbB hbL hB4 hB hsz l1 l2
 conv=>whnf
 (repeat' ((first|refine Aj Aa hG.b1 rfl rfl rfl rfl rfl rfl rfl (Ab Aa ?_)|fail)<;>conv=>whnf))
 refine Am Aa (X:=Nat) (fun i=>[(1,.pointer (some ⟨g1,0,none⟩)),(2,.pointer (some ⟨g2,0,none⟩)),(3,.pointer (some ⟨g3,0,none⟩)),(31,.int .i64 n),(32,.int .i64 i)])
  (fun i wr=>i<=n/\GI w wr g1 g2 gI gB gL g3 [.int .i64 n,.slice A1 s.cells.length c1,.slice A2 s.cons.length c2] [.int .i64 0,.slice none 0 0,.slice none 0 0,.slice none 0 0]
   [.int .i64 n,.slice (some ⟨gI,0,none⟩) (2*n) (2*n),.slice (some ⟨gB,0,none⟩) n n,.slice (some ⟨gL,0,none⟩) (2*n) (2*n)] (List.replicate (2*n) (.slice none 0 0)) (List.replicate n (.slice none 0 0)) (List.replicate (2*n) [],List.replicate n []) (B7 s++List.replicate i true++List.replicate (n - i) false) [] []) (fun i=>n - i) 0 ⟨rfl,rfl,rfl,rfl,rfl,trivial⟩ ⟨by omega,by simpa using hG⟩ ?_
 clear hG
 intro i G3 wr ⟨hi,hG⟩
 conv=>whnf
 by_cases hlt:i<n
 ·(repeat' ((first|refine Aj Aa hG.b3 rfl rfl rfl rfl rfl rfl rfl (Ab Aa ?_)|refine Aj Aa hG.b1 rfl rfl rfl rfl rfl rfl rfl (Ab Aa ?_)|refine Ni Aa 4 1 rfl rfl rfl rfl rfl rfl rfl (by omega) (by omega) (Ab Aa ?_)|refine Af rfl rfl rfl rfl rfl rfl (by omega) (by omega) (Ab Aa ?_)|refine Ag (by first|assumption|omega) ?_|fail)<;>conv=>whnf))
  refine Dt (j:=((n:Int)+(i:Int)).toNat*1) (v:=.bool true) Aa hG.bL rfl rfl rfl rfl rfl rfl (by simp [vb,hLn];omega) rfl rfl ?_
  intro w6 hp6
  have e1:((n:Int)+(i:Int)).toNat*1=n+i:=by omega
  have e2:(vb (B7 s++List.replicate i true++List.replicate (n - i) false)).set (((n:Int)+(i:Int)).toNat*1) (.bool true)=vb (B7 s++List.replicate (i+1) true++List.replicate (n - (i+1)) false):=by
   rw [e1,show n - i=(n - (i+1))+1 by omega,<- Ab4,hLn]
   simp [vb,List.map_set]
  rw [e2] at hp6
  have hG6:=hG.putL hgL.1 hgL.2 hp6
  refine Ab Aa ?_
  conv=>whnf
  (repeat' ((first|refine Af rfl rfl rfl rfl rfl rfl (by omega) (by omega) (Ab Aa ?_)|fail)<;>conv=>whnf))
  exact ⟨i+1,⟨rfl,rfl,rfl,rfl,rfl,trivial⟩,⟨by omega,hG6⟩,by omega⟩
 ·have hin:i=n:=by omega
  subst hin
  have e3:B7 s++List.replicate i true++List.replicate (i - i) false=B7 s++List.replicate i true:=by simp
  rw [e3] at hG
  (repeat' ((first|refine Aj Aa hG.b1 rfl rfl rfl rfl rfl rfl rfl (Ab Aa ?_)|(refine Ah (by first|assumption|omega) ?_)|fail)<;>conv=>whnf))
  refine Am Aa (X:=Nat) (fun j=>[(1,.pointer (some ⟨g1,0,none⟩)),(2,.pointer (some ⟨g2,0,none⟩)),(3,.pointer (some ⟨g3,0,none⟩)),(44,.slice A2 s.cons.length c2),(45,.int .i64 s.cons.length),(46,.int .i64 j)])
   (fun j wj=>j<=s.cons.length/\∃ vI vB bI bB,GI w wj g1 g2 gI gB gL g3 [.int .i64 i,.slice A1 s.cells.length c1,.slice A2 s.cons.length c2] [.int .i64 0,.slice none 0 0,.slice none 0 0,.slice none 0 0]
   [.int .i64 i,.slice (some ⟨gI,0,none⟩) (2*i) (2*i),.slice (some ⟨gB,0,none⟩) i i,.slice (some ⟨gL,0,none⟩) (2*i) (2*i)] vI vB ((s.cons.take j).foldl (Cc s.vars) (List.replicate (2*i) [],List.replicate i [])) (B7 s++List.replicate i true) bI bB) (fun j=>s.cons.length - j) 0 ⟨rfl,rfl,rfl,rfl,rfl,rfl,trivial⟩ ⟨by omega,_,_,_,_,hG⟩ ?_
  clear hG
  intro j G4 wj ⟨hj,vI,vB,bI,bB,hG⟩
  conv=>whnf
  by_cases hjl:j<s.cons.length
  ·have hgd:=hgood j hjl
   obtain ⟨x,ad,D0,dc0,hx,rfl,e0,hc0,e4,hk0,hk255,hra,hrb⟩:=Qj (h2.up Ck hG.below) j hjl
   rw [hx.out] at hgd
   have hgd':1<=x.k/\x.k<=5:=by
    simp only [B4,Bool.and_eq_true,decide_eq_true_eq] at hgd
    exact ⟨hgd.1.1.1.1.1.1,hgd.1.1.1.1.1.2⟩
   have hga:x.k<5->0<=x.a/\x.a<i:=fun hk=>by
    simp only [B4,Bool.and_eq_true,decide_eq_true_eq,Ff] at hgd
    have:=hgd.1.1.1.1.2
    rw [if_neg (by omega),hn] at this
    exact this
   have hgb:x.k<=5->0<=x.b:=fun hk=>by
    simp only [B4,Bool.and_eq_true,decide_eq_true_eq,Ff] at hgd
    exact hgd.1.1.1.2.1
   have hgb3:x.k=3->x.b<i:=fun hk=>by
    simp only [B4,Bool.and_eq_true,decide_eq_true_eq,Ff] at hgd
    have:=hgd.1.1.1.2.2
    rw [if_neg (by omega),hn] at this
    exact this
   have hsmall:=I0 s.vars (m:=0) (s.cons.take j) (List.replicate (2*i) [],List.replicate i []) (fun l hl=>by rw [getElem!_pos _ l hl];simp) (fun l hl=>by rw [getElem!_pos _ l hl];simp)
   have hplen:=Hy s.vars (s.cons.take j) (List.replicate (2*i) [],List.replicate i [])
   obtain ⟨p,hp⟩:∃ p,p=(s.cons.take j).foldl (Cc s.vars) (List.replicate (2*i) [],List.replicate i []):=⟨_,rfl⟩
   rw [<- hp] at hG hsmall hplen
   simp only [List.length_replicate,List.length_take] at hsmall hplen
   (repeat' ((first|refine Al Aa 77 4 rfl rfl rfl rfl rfl rfl rfl (by omega) (Ab Aa ?_)|refine E0 Aa e0 rfl rfl rfl rfl rfl rfl (Ab Aa ?_)|(refine Ag (by first|assumption|omega) ?_)|fail)<;>conv=>whnf))
   refine Bm Aa rfl rfl rfl rfl rfl rfl ?_
   intro g6 w6 hn6
   refine Di Aa hn6.blk rfl rfl rfl rfl rfl (by simp [Value.oneCell']) rfl rfl ?_
   intro w7 hp7
   have hB7:Below wj.heap.size wj w7:=hp7.below hn6.below (by have:=hn6.at_;omega) (by have:=hn6.size;omega)
   have hb6:=hp7.blk
   have hG7:=hG.up hB7
   refine Ab Aa ?_
   conv=>whnf
   (repeat' ((first|refine Aj Aa hb6 rfl rfl rfl rfl rfl rfl rfl (Ab Aa ?_)|refine Af rfl rfl rfl rfl rfl rfl (by omega) (by omega) (Ab Aa ?_)|refine J5 (fun hg=>?_) (fun hg=>?_)|fail)<;>conv=>whnf))
   ·have hi:x.a.toNat<p.2.length:=by omega
    have hsm:=hsmall.2 x.a.toNat (by omega)
    obtain ⟨⟨flat,hown,hel⟩,hlt',hne'⟩:=(hG7.mB.row x.a.toNat hi).1
    have hob':∀ b,vB[x.a.toNat]!.ownBlock=some b->b∈bB:=(hG7.mB.row x.a.toNat hi).2
    have kp:∀ (k:Nat) (o:Obj),w7.heap[k]?=some o->k∉bB->∀ w',Gw w7 vB[x.a.toNat]!.ownBlock w'->w'.heap[k]?=some o:=fun k o hk hkn w' hw'=>(hw'.block k (Ae hk) (fun e=>hkn (hob' k e.symm))).trans hk
    have hk3:=kp g3 _ hG7.b3 (fun hm=>(hG7.fix g3 (.inr hm)).2.2.1 rfl)
    have hk1:=kp g1 _ hG7.b1 (fun hm=>(hG7.fix g1 (.inr hm)).1 rfl)
    have hk6:=kp g6 _ hb6 (fun hm=>by have:=(hG.mB.lt g6 hm).2;have:=hn6.at_;omega)
    have hkM:=kp gB _ hG7.mB.blk hG7.mB.gb
    have hkc:∀ w',Gw w7 vB[x.a.toNat]!.ownBlock w'->w'.cell? ((⟨gB,0,none⟩:Addr).add (x.a.toNat*1))=some vB[x.a.toNat]! := fun w' hw'=>hG7.mB.cellC hi ((hkM w' hw').trans hG7.mB.blk.symm)
    refine Em [0,1,2,3,4,5,6,7,8,9,10,11] 2 14 (H2 _ (vB[x.a.toNat]!.ownBlock)) Aa mixed (by kernel_rfl) (Cn _ _) ?_;(conv=>whnf)
    (repeat' ((first|refine D6 Aa hk3 rfl rfl rfl rfl rfl rfl rfl (Ad Aa ?_)|refine D6 Aa hk6 rfl rfl rfl rfl rfl rfl rfl (Ad Aa ?_)|refine Qp Aa hkc rfl rfl rfl rfl rfl rfl (Ad Aa ?_)|refine Aj5 Aa 27 1 rfl rfl rfl rfl rfl rfl rfl (by omega) (by omega) (Ad Aa ?_)|fail)<;>conv=>whnf))
    intro u1 hu1 hbu1
    conv=>whnf
    refine ⟨?_,trivial⟩
    conv=>whnf
    refine Hh (Gf Aa 3 1 rfl rfl rfl rfl rfl rfl rfl rfl rfl ?_)
    intro gn u2 hn2
    refine ⟨Bt hu1 (Ar hn2.below),fun u3 hbu3 hu3=>?_⟩
    conv=>whnf
    refine ⟨?_,trivial⟩
    conv=>whnf
    have hB73:=Ax hbu1 (Ax hn2.below hbu3)
    have hown3:=hown.kept (Ar hB73) (Classical.em _)
    refine Hh (Qm Aa 3 1 8 hown3 (Ac hbu3 hn2.blk) rfl rfl rfl rfl rfl rfl rfl rfl rfl rfl (by simp) (by simp [Value.oneCell']) (by omega) (by omega) (by have:=hG7.below.size;have:=hB73.size;omega) ?_)
    intro D dc u4 hown4 hgr4 hob4
    refine ⟨Bt hu3 hgr4,fun u5 hbu5 hu5=>?_⟩
    conv=>whnf
    (repeat' ((first|refine Ni Aa 27 1 rfl rfl rfl rfl rfl rfl rfl (by omega) (by omega) (Ab Aa ?_)|fail)<;>conv=>whnf))
    obtain ⟨v8,hv8⟩:∃ v8,v8=Value.slice D (p.2[x.a.toNat]!.length+1) dc:=⟨_,rfl⟩
    have hrow3:GInts w.heap.size u3 vB[x.a.toNat]! p.2[x.a.toNat]! := (hG7.mB.row x.a.toNat hi).1.below hB73
    have hrow4:=(D5 hrow3 (fun w' _=>⟨(hel w7 (fun _ _=>rfl)).1,(hel w7 (fun _ _=>rfl)).2⟩) hown4 hgr4 hob4 (y:=x.b) (by omega)).below hbu5
    have hgr5:w7.grownBy u5 vB[x.a.toNat]!.ownBlock:=hu5
    have hob5:(Value.slice D (p.2[x.a.toNat]!.length+1) dc).ownBlock=vB[x.a.toNat]!.ownBlock\/∃ b,(Value.slice D (p.2[x.a.toNat]!.length+1) dc).ownBlock=some b/\w7.heap.size<=b:=hob4.imp id fun e=>⟨_,e,hB73.size⟩
    rw [<- hv8] at hrow4 hob5
    refine Dt (j:=x.a.toNat*1) (v:=v8) Aa (hkM u5 hu5) rfl rfl (by rw [hv8];rfl) rfl rfl (by rw [hv8];rfl) (by rw [hG7.mB.len];omega) rfl rfl ?_
    intro u6 hp6
    rw [Nat.mul_one] at hp6
    have hG8:=hG7.addB hi hrow4 hgr5 hob5 hp6
    refine Ab Aa ?_
    conv=>whnf
    (repeat' ((first|refine Af rfl rfl rfl rfl rfl rfl (by omega) (by omega) (Ab Aa ?_)|fail)<;>conv=>whnf))
    exact ⟨j+1,⟨rfl,rfl,rfl,rfl,rfl,rfl,trivial⟩,⟨by omega,_,_,_,_,by rw [Bl _ _ hjl,hx.out,<- hp];simp only [Cc,Gp];simp only [hg,hn,if_true];exact hG8⟩,by omega⟩
   ·have hi:x.a.toNat<p.1.length:=by omega
    have hsm:=hsmall.1 x.a.toNat (by omega)
    obtain ⟨⟨flat,hown,hel⟩,hlt',hne'⟩:=(hG7.mI.row x.a.toNat hi).1
    have hob':∀ b,vI[x.a.toNat]!.ownBlock=some b->b∈bI:=(hG7.mI.row x.a.toNat hi).2
    have kp:∀ (k:Nat) (o:Obj),w7.heap[k]?=some o->k∉bI->∀ w',Gw w7 vI[x.a.toNat]!.ownBlock w'->w'.heap[k]?=some o:=fun k o hk hkn w' hw'=>(hw'.block k (Ae hk) (fun e=>hkn (hob' k e.symm))).trans hk
    have hk3:=kp g3 _ hG7.b3 (fun hm=>(hG7.fix g3 (.inl hm)).2.2.1 rfl)
    have hk1:=kp g1 _ hG7.b1 (fun hm=>(hG7.fix g1 (.inl hm)).1 rfl)
    have hk6:=kp g6 _ hb6 (fun hm=>by have:=(hG.mI.lt g6 hm).2;have:=hn6.at_;omega)
    have hkM:=kp gI _ hG7.mI.blk hG7.mI.gb
    have hkc:∀ w',Gw w7 vI[x.a.toNat]!.ownBlock w'->w'.cell? ((⟨gI,0,none⟩:Addr).add (x.a.toNat*1))=some vI[x.a.toNat]! := fun w' hw'=>hG7.mI.cellC hi ((hkM w' hw').trans hG7.mI.blk.symm)
    refine Em [0,1,2,3,4,5,6,7,8,9,10,11] 2 14 (H2 _ (vI[x.a.toNat]!.ownBlock)) Aa mixed (by kernel_rfl) (Cn _ _) ?_;(conv=>whnf)
    (repeat' ((first|refine D6 Aa hk3 rfl rfl rfl rfl rfl rfl rfl (Ad Aa ?_)|refine D6 Aa hk6 rfl rfl rfl rfl rfl rfl rfl (Ad Aa ?_)|refine Qp Aa hkc rfl rfl rfl rfl rfl rfl (Ad Aa ?_)|refine Aj5 Aa 27 1 rfl rfl rfl rfl rfl rfl rfl (by omega) (by omega) (Ad Aa ?_)|fail)<;>conv=>whnf))
    intro u1 hu1 hbu1
    conv=>whnf
    refine ⟨?_,trivial⟩
    conv=>whnf
    refine Hh (Gf Aa 3 1 rfl rfl rfl rfl rfl rfl rfl rfl rfl ?_)
    intro gn u2 hn2
    refine ⟨Bt hu1 (Ar hn2.below),fun u3 hbu3 hu3=>?_⟩
    conv=>whnf
    refine ⟨?_,trivial⟩
    conv=>whnf
    have hB73:=Ax hbu1 (Ax hn2.below hbu3)
    have hown3:=hown.kept (Ar hB73) (Classical.em _)
    refine Hh (Qm Aa 3 1 8 hown3 (Ac hbu3 hn2.blk) rfl rfl rfl rfl rfl rfl rfl rfl rfl rfl (by simp) (by simp [Value.oneCell']) (by omega) (by omega) (by have:=hG7.below.size;have:=hB73.size;omega) ?_)
    intro D dc u4 hown4 hgr4 hob4
    refine ⟨Bt hu3 hgr4,fun u5 hbu5 hu5=>?_⟩
    conv=>whnf
    (repeat' ((first|refine Ni Aa 27 1 rfl rfl rfl rfl rfl rfl rfl (by omega) (by omega) (Ab Aa ?_)|fail)<;>conv=>whnf))
    obtain ⟨v8,hv8⟩:∃ v8,v8=Value.slice D (p.1[x.a.toNat]!.length+1) dc:=⟨_,rfl⟩
    have hrow3:GInts w.heap.size u3 vI[x.a.toNat]! p.1[x.a.toNat]! := (hG7.mI.row x.a.toNat hi).1.below hB73
    have hrow4:=(D5 hrow3 (fun w' _=>⟨(hel w7 (fun _ _=>rfl)).1,(hel w7 (fun _ _=>rfl)).2⟩) hown4 hgr4 hob4 (y:=x.b) (by omega)).below hbu5
    have hgr5:w7.grownBy u5 vI[x.a.toNat]!.ownBlock:=hu5
    have hob5:(Value.slice D (p.1[x.a.toNat]!.length+1) dc).ownBlock=vI[x.a.toNat]!.ownBlock\/∃ b,(Value.slice D (p.1[x.a.toNat]!.length+1) dc).ownBlock=some b/\w7.heap.size<=b:=hob4.imp id fun e=>⟨_,e,hB73.size⟩
    rw [<- hv8] at hrow4 hob5
    refine Dt (j:=x.a.toNat*1) (v:=v8) Aa (hkM u5 hu5) rfl rfl (by rw [hv8];rfl) rfl rfl (by rw [hv8];rfl) (by rw [hG7.mI.len];omega) rfl rfl ?_
    intro u6 hp6
    rw [Nat.mul_one] at hp6
    have hG8:=hG7.addI hi hrow4 hgr5 hob5 hp6
    refine Ab Aa ?_
    conv=>whnf
    (repeat' ((first|refine Af rfl rfl rfl rfl rfl rfl (by omega) (by omega) (Ab Aa ?_)|fail)<;>conv=>whnf))
    exact ⟨j+1,⟨rfl,rfl,rfl,rfl,rfl,rfl,trivial⟩,⟨by omega,_,_,_,_,by rw [Bl _ _ hjl,hx.out,<- hp];simp only [Cc,Gp];simp only [hg,hn,if_true];exact hG8⟩,by omega⟩
   ·have hi:x.a.toNat<p.1.length:=by omega
    have hsm:=hsmall.1 x.a.toNat (by omega)
    obtain ⟨⟨flat,hown,hel⟩,hlt',hne'⟩:=(hG7.mI.row x.a.toNat hi).1
    have hob':∀ b,vI[x.a.toNat]!.ownBlock=some b->b∈bI:=(hG7.mI.row x.a.toNat hi).2
    have kp:∀ (k:Nat) (o:Obj),w7.heap[k]?=some o->k∉bI->∀ w',Gw w7 vI[x.a.toNat]!.ownBlock w'->w'.heap[k]?=some o:=fun k o hk hkn w' hw'=>(hw'.block k (Ae hk) (fun e=>hkn (hob' k e.symm))).trans hk
    have hk3:=kp g3 _ hG7.b3 (fun hm=>(hG7.fix g3 (.inl hm)).2.2.1 rfl)
    have hk1:=kp g1 _ hG7.b1 (fun hm=>(hG7.fix g1 (.inl hm)).1 rfl)
    have hk6:=kp g6 _ hb6 (fun hm=>by have:=(hG.mI.lt g6 hm).2;have:=hn6.at_;omega)
    have hkM:=kp gI _ hG7.mI.blk hG7.mI.gb
    have hkc:∀ w',Gw w7 vI[x.a.toNat]!.ownBlock w'->w'.cell? ((⟨gI,0,none⟩:Addr).add (x.a.toNat*1))=some vI[x.a.toNat]! := fun w' hw'=>hG7.mI.cellC hi ((hkM w' hw').trans hG7.mI.blk.symm)
    refine Em [0,1,2,3,4,5,6,7,8,9,10,11,12,13,14] 2 17 (H2 _ (vI[x.a.toNat]!.ownBlock)) Aa mixed (by kernel_rfl) (Cn _ _) ?_;(conv=>whnf)
    (repeat' ((first|refine D6 Aa hk3 rfl rfl rfl rfl rfl rfl rfl (Ad Aa ?_)|refine D6 Aa hk6 rfl rfl rfl rfl rfl rfl rfl (Ad Aa ?_)|refine D6 Aa hk1 rfl rfl rfl rfl rfl rfl rfl (Ad Aa ?_)|refine Qp Aa hkc rfl rfl rfl rfl rfl rfl (Ad Aa ?_)|refine Aj5 Aa 27 1 rfl rfl rfl rfl rfl rfl rfl (by omega) (by omega) (Ad Aa ?_)|refine D7 rfl rfl rfl rfl rfl rfl (by omega) (by omega) (Ad Aa ?_)|fail)<;>conv=>whnf))
    intro u1 hu1 hbu1
    conv=>whnf
    refine ⟨?_,trivial⟩
    conv=>whnf
    refine Hh (Gf Aa 3 1 rfl rfl rfl rfl rfl rfl rfl rfl rfl ?_)
    intro gn u2 hn2
    refine ⟨Bt hu1 (Ar hn2.below),fun u3 hbu3 hu3=>?_⟩
    conv=>whnf
    refine ⟨?_,trivial⟩
    conv=>whnf
    have hB73:=Ax hbu1 (Ax hn2.below hbu3)
    have hown3:=hown.kept (Ar hB73) (Classical.em _)
    refine Hh (Qm Aa 3 1 8 hown3 (Ac hbu3 hn2.blk) rfl rfl rfl rfl rfl rfl rfl rfl rfl rfl (by simp) (by simp [Value.oneCell']) (by omega) (by omega) (by have:=hG7.below.size;have:=hB73.size;omega) ?_)
    intro D dc u4 hown4 hgr4 hob4
    refine ⟨Bt hu3 hgr4,fun u5 hbu5 hu5=>?_⟩
    conv=>whnf
    (repeat' ((first|refine Ni Aa 27 1 rfl rfl rfl rfl rfl rfl rfl (by omega) (by omega) (Ab Aa ?_)|fail)<;>conv=>whnf))
    obtain ⟨v8,hv8⟩:∃ v8,v8=Value.slice D (p.1[x.a.toNat]!.length+1) dc:=⟨_,rfl⟩
    have hrow3:GInts w.heap.size u3 vI[x.a.toNat]! p.1[x.a.toNat]! := (hG7.mI.row x.a.toNat hi).1.below hB73
    have hrow4:=(D5 hrow3 (fun w' _=>⟨(hel w7 (fun _ _=>rfl)).1,(hel w7 (fun _ _=>rfl)).2⟩) hown4 hgr4 hob4 (y:=(i:Int)+x.b) (by omega)).below hbu5
    have hgr5:w7.grownBy u5 vI[x.a.toNat]!.ownBlock:=hu5
    have hob5:(Value.slice D (p.1[x.a.toNat]!.length+1) dc).ownBlock=vI[x.a.toNat]!.ownBlock\/∃ b,(Value.slice D (p.1[x.a.toNat]!.length+1) dc).ownBlock=some b/\w7.heap.size<=b:=hob4.imp id fun e=>⟨_,e,hB73.size⟩
    rw [<- hv8] at hrow4 hob5
    refine Dt (j:=x.a.toNat*1) (v:=v8) Aa (hkM u5 hu5) rfl rfl (by rw [hv8];rfl) rfl rfl (by rw [hv8];rfl) (by rw [hG7.mI.len];omega) rfl rfl ?_
    intro u6 hp6
    rw [Nat.mul_one] at hp6
    have hG8:=hG7.addI hi hrow4 hgr5 hob5 hp6
    refine Ab Aa ?_
    conv=>whnf
    (repeat' ((first|refine Af rfl rfl rfl rfl rfl rfl (by omega) (by omega) (Ab Aa ?_)|fail)<;>conv=>whnf))
    exact ⟨j+1,⟨rfl,rfl,rfl,rfl,rfl,rfl,trivial⟩,⟨by omega,_,_,_,_,by rw [Bl _ _ hjl,hx.out,<- hp];simp only [Cc,Gp];simp only [hg,hn,if_true];exact hG8⟩,by omega⟩
   ·exact ⟨j+1,⟨rfl,rfl,rfl,rfl,rfl,rfl,trivial⟩,⟨by omega,_,_,_,_,by rw [Bl _ _ hjl,hx.out,<- hp,Cc,if_neg (by assumption),if_neg (by assumption),if_neg (by assumption)];exact hG7⟩,by omega⟩
  ·(repeat' ((first|refine C6 Aa hG.b3 rfl rfl rfl rfl rfl rfl (Ab Aa ?_)|(refine Ah (by first|assumption|omega) ?_)|fail)<;>conv=>whnf))
   refine Di Aa hG.b2 rfl rfl rfl rfl rfl (by simp [Value.oneCell']) rfl rfl ?_
   intro wz hz
   refine Ab Aa ?_
   conv=>whnf
   rw [Lz _ _ hjl] at hG
   have hlen:=Hy s.vars s.cons (List.replicate (2*i) [],List.replicate i [])
   simp only [List.length_replicate] at hlen
   have hgf:El s=s.cons.foldl (Cc s.vars) (List.replicate (2*i) [],List.replicate i []):=by rw [El,hn];simp
   have hres:(Ending.returned (.agg #[.int .i64 i,.slice (some ⟨gI,0,none⟩) (2*i) (2*i),.slice (some ⟨gB,0,none⟩) i i,.slice (some ⟨gL,0,none⟩) (2*i) (2*i)]))=.returned (.agg #[.int .i64 (Cb s).vars,.slice (some ⟨gI,0,none⟩) (Cb s).into.length (Cb s).into.length,.slice (some ⟨gB,0,none⟩) (Cb s).bases.length (Cb s).bases.length,.slice (some ⟨gL,0,none⟩) (Cb s).loose.length (Cb s).loose.length]):=by
    rw [hgr,hgf]
    have e1:(B7 s++List.replicate i true).length=2*i:=by rw [List.length_append,hLn,List.length_replicate];omega
    simp only [hlen.1,hlen.2,e1]
   refine V0 Aa rfl hz.blk rfl rfl ⟨some ⟨gI,0,none⟩,some ⟨gB,0,none⟩,some ⟨gL,0,none⟩,hres,?_,?_,?_,?_⟩
   ·rw [hgr,hgf]
    exact (hG.mI.stays hz.grown (fun b e=>by cases e;exact ⟨fun e'=>hG.ne.1.2.1 e'.symm,fun hb=>(hG.fix g2 (.inl hb)).2.1 rfl⟩)).rows (by rw [hlen.1];omega)
   ·rw [hgr,hgf]
    exact (hG.mB.stays hz.grown (fun b e=>by cases e;exact ⟨fun e'=>hG.ne.2.2.1 e'.symm,fun hb=>(hG.fix g2 (.inr hb)).2.1 rfl⟩)).rows (by rw [hlen.2];omega)
   ·rw [hgr]
    exact Tj (hz.old hG.bL hgL.2.2.1) (by simp [hLn];omega)
   ·exact hz.below hG.below (by omega) hG.below.size
section
variable {α:Type}[Inhabited α]{f:α->α->Bool}{xs ys:List α}
end
theorem Sj (n:Nat)(xs:List Cell)(ys:List Con)(A1 A2:Option Addr)(c1 c2:Nat)(w:World)(h1:RCells w A1 xs)(h2:RCons w A2 ys)(hr:Ba ⟨n,xs,ys⟩=true) :
  Calls Tryz.prog 79 #[.agg #[.int .i64 n,.slice A1 xs.length c1,.slice A2 ys.length c2]] w fun e w'=>∃ A B C,e=.returned (.agg #[.int .i64 n,.slice A (2*n) (2*n),.slice B n n,.slice C (2*n) (2*n)]) /\
   RRows w' A (El ⟨n,xs,ys⟩).1/\RRows w' B (El ⟨n,xs,ys⟩).2/\RowR 1 dB w' C (B7 ⟨n,xs,ys⟩++List.replicate n true)/\Below w.heap.size w w':=by
 refine (Aex ⟨n,xs,ys⟩ A1 A2 c1 c2 w h1 h2).mono ?_
 rintro e w' ⟨A,B,C,he,k1,k2,k3,hb⟩
 have hg:Cb ⟨n,xs,ys⟩=⟨n,(El ⟨n,xs,ys⟩).1,(El ⟨n,xs,ys⟩).2,B7 ⟨n,xs,ys⟩++List.replicate n true⟩:=by
  rw [Cb,if_pos hr]
  simp
 rw [hg] at he k1 k2 k3
 have hl:=Hy (n:Int) ys (List.replicate (2*n) [],List.replicate n [])
 simp only [List.length_replicate] at hl
 have e1:(El ⟨n,xs,ys⟩).1.length=2*n:=by rw [El];simpa using hl.1
 have e2:(El ⟨n,xs,ys⟩).2.length=n:=by rw [El];simpa using hl.2
 have e3:(B7 ⟨n,xs,ys⟩++List.replicate n true).length=2*n:=by rw [List.length_append,Fz,List.length_replicate];simp;omega
 simp only [e1,e2,e3] at he
 exact ⟨A,B,C,he,k1,k2,k3,hb⟩
end Go.Proofs.YtghmdfegfehhkaaGreatDoor
