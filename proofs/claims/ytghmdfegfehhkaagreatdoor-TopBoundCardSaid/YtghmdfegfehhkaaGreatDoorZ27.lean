/- Several texts of one claim in one file, made short: SI20 SP23 L2000 L2002 PT19. -/
import Derived.Test.YtghmdfegfehhkaaGreatDoorZ25
import Derived.Test.YtghmdfegfehhkaaGreatDoorZ26
import Derived.Test.YtghmdfegfehhkaaGreatDoorZ16
import Derived.Test.YtghmdfegfehhkaaGreatDoorZ5
import Derived.Test.YtghmdfegfehhkaaGreatDoorZ14
import Derived.Test.YtghmdfegfehhkaaGreatDoorZ24
set_option maxRecDepth 100000
set_option maxHeartbeats 64000000
set_option linter.unusedVariables false
set_option linter.unusedSimpArgs false
namespace Go.Proofs.YtghmdfegfehhkaaGreatDoor
open Go.RowKit
structure SW (c:Cx)(O:Nat->Nat)(w:World)(m:Mem):Prop where
 all:All O w (Hx c m)
 low:∀ b,b<c.base->O b=99
 sz:c.base<=w.heap.size
def Rd (gf go:Nat):Mem:=⟨0,fun _=>0,fun _=>0,fun _=>0,fun _=>[],fun _=>[],fun _=>[],fun _=>.slice none 0 0,fun _=>[],[],0,.slice none 0 0,.slice none 0 0,.slice none 0 0,.slice none 0 0,gf,go⟩
theorem R2 {α:Type}(n:Nat)(x:α):(List.replicate n [x]).flatten=(List.range n).map fun _=>x:=by
 refine List.ext_getElem (by simp) fun i h1 h2=>?_
 simp
theorem SW.start (c:Cx){w w1:World}{gf go:Nat}(hbase:c.base<=w.heap.size)(hb:Below w.heap.size w w1)(hs:w.heap.size<=w1.heap.size)
  (hbox:w1.heap[c.gx]?=some (.cells (Dm c (Rd gf go)).toArray 116 (0,0))) (hgf:w1.heap[gf]?=some (.cells (List.replicate c.n [Value.slice none 0 0]).flatten.toArray 27 (0,0))) (hgo:w1.heap[go]?=some (.cells (List.replicate c.n [Value.bool false]).flatten.toArray 4 (0,0)))
  (b1:w.heap.size<=c.gx) (b2:w.heap.size<=gf) (b3:w.heap.size<=go) (d1:c.gx≠gf) (d2:c.gx≠go) (d3:gf≠go) (hO:w.heap.size=c.base) :
  ∃ O,SW c O w1 (Rd gf go)/\Stp (fun _=>99) O w w1/\∀ b,w.heap.size<=b->b≠c.gx->b≠gf->b≠go->O b=97:=by
 let O:Nat->Nat:=fun b=>if b<w.heap.size then 99 else if b=c.gx then 0 else if b=gf then 4 else if b=go then 6 else 97
 have o1:O c.gx=0:=by simp [O,show ¬ c.gx<w.heap.size by omega]
 have o2:O gf=4:=by simp [O,show ¬ gf<w.heap.size by omega,Ne.symm d1]
 have o3:O go=6:=by simp [O,show ¬ go<w.heap.size by omega,Ne.symm d2,Ne.symm d3]
 have old:∀ b,b<w.heap.size->O b=99:=fun b h=>if_pos h
 have nilrow:∀ (k:Nat) (g:Nat->Nat),AtF O k w1 (rowP c.base 0 (.slice none 0 0) g):=fun k g=>⟨[],by simp,fun w' _=>⟨rfl,F6 ..⟩⟩
 have blk:∀ (g k:Nat) (P:List Nat->World->Prop) (o:Obj),O g=k->w1.heap[g]?=some o->(∀ w',w'.heap[g]?=some o->P [g] w')->AtF O k w1 P:=fun g k P o h1 h2 h3=>⟨[g],by simpa using ⟨h1,Ae h2⟩,fun w' hw'=>h3 w' ((hw' g (by simp)).trans h2)⟩
 refine ⟨O,⟨fun k=>?_,fun b h=>old b (by omega),Nat.le_trans hbase hs⟩,⟨hb.os,hb.tape,hb.output,hb.size,old,fun b h _ _=>hb.block b h⟩,fun b h1 h2 h3 h4=>by simp only [O];rw [if_neg (by omega),if_neg h2,if_neg h3,if_neg h4]⟩
 match k with
 |0=>exact blk _ _ _ _ o1 hbox fun w' hw'=>⟨rfl,hw'⟩
 |1=>exact nilrow _ _
 |2=>exact nilrow _ _
 |3=>exact nilrow _ _
 |4=>exact blk _ _ _ _ o2 hgf fun w' hw'=>⟨rfl,by show w'.heap[gf]?=_;rw [hw',R2];rfl⟩
 |5=>exact ⟨[],by simp,fun w' _=>QRow.nil _⟩
 |6=>exact blk _ _ _ _ o3 hgo fun w' hw'=>⟨rfl,by show w'.heap[go]?=_;rw [hw',R2];simp [S4,Rd]⟩
 |j+7=>exact ⟨[],by simp,fun w' _ _=>⟨fun _ h=>by simp only [Rd] at h;omega,fun _ h=>by simp only [Rd] at h;omega,fun _ h=>by simp only [Rd] at h;omega,fun _ _=>QRow.nil _⟩⟩
theorem Oe (n:Nat)(xs:List Cell)(ys:List Con)(A1 A2:Option Addr)(c1 c2:Nat)(w:World)(h1:RCells w A1 xs)(h2:RCons w A2 ys)(hright:Ba ⟨n,xs,ys⟩=true)(hT:Tab w) :
  Calls Tryz.prog 14 #[.agg #[.int .i64 n,.slice A1 xs.length c1,.slice A2 ys.length c2]] w fun e w'=>∃ M A cap k,e=.returned (.tuple #[.slice A n cap,.int .i64 ((k:Nat):Int),.int .i64 0])/\IsLeast ⟨n,xs,ys⟩ M/\RRows w' A (Df M)/\n<=cap/\k<=n*xs.length/\Below w.heap.size w w':=by
 have hm1:=h1.1
 have hm2:=h2.1
 obtain ⟨hn,hnc,hny,hgx,hgc⟩:=R6 hright
 refine A9 (args:=[.agg #[.int .i64 n,.slice A1 xs.length c1,.slice A2 ys.length c2]]) Aa Tryz.func14 rfl Tryz.ntmps14 rfl ?_;conv=>whnf
 refine Ci rfl rfl rfl rfl rfl rfl ?_
 intro g0 w1 hn1
 have hb0:=hn1.blk
 have hB1:=hn1.below
 refine Ab Aa ?_
 conv=>whnf
 (repeat' ((first|refine C6 Aa hb0 rfl rfl rfl rfl rfl rfl (Ab Aa ?_)|fail)<;>conv=>whnf))
 refine Bv Atk (Nw ⟨n,xs,ys⟩ A1 A2 c1 c2 w1 (h1.up Cd hB1) (h2.up Ck hB1)) rfl rfl rfl rfl rfl rfl rfl ?_
 rintro _ w3 ⟨rfl,hB3⟩
 rw [hright]
 have hb0:=Ac hB3 hb0
 have hB:=Ax hB1 hB3
 have hg0:w.heap.size<=g0:=by have:=hn1.at_;omega
 have hg0s:g0<w3.heap.size:=Ae hb0
 clear hn1 hB1 hB3
 refine ⟨_,rfl,Ab Aa ?_⟩
 conv=>whnf
 skip
 refine Jv (X:=Nat×Nat×Nat) (fun x=>[(1,.pointer (some ⟨g0,0,none⟩)),(5,.pointer (some ⟨x.2.2,0,none⟩))])
  (fun x W=>Below w3.heap.size w3 W/\W.heap[x.2.2]?=some (.cells (Dm ⟨w.heap.size,x.2.2,n,xs,ys,A1,A2,c1,c2⟩ (Rd x.1 x.2.1)).toArray 116 (0,0)) /\
   W.heap[x.1]?=some (.cells (List.replicate n [Value.slice none 0 0]).flatten.toArray 27 (0,0))/\W.heap[x.2.1]?=some (.cells (List.replicate n [Value.bool false]).flatten.toArray 4 (0,0)) /\
   (w3.heap.size<=x.1/\w3.heap.size<=x.2.1/\w3.heap.size<=x.2.2)/\x.2.2≠x.1/\x.2.2≠x.2.1/\x.1≠x.2.1) ?_ ?_
 ·refine Em [0,1,2,4,5] 2 7 (Be _) Aa mixed (by kernel_rfl) (Below.refl _ _) ?_;(conv=>whnf)
  (repeat' ((first|refine Bg Aa hb0 rfl rfl rfl rfl rfl rfl rfl (Ad Aa ?_)|refine Q8 Aa hb0 rfl rfl rfl rfl rfl rfl (Ad Aa ?_)|fail)<;>conv=>whnf))
  intro W hC hBW
  clear hBW
  conv=>whnf
  repeat' (first|exact True.intro|(refine And.intro ?_ ?_<;>(conv=>whnf))|(refine L7 (m:=n) Aa 27 1 24 rfl rfl rfl rfl rfl rfl rfl rfl (by omega) (by omega) ?_;intro g3 v3 n3;(try (have d3_6:g3≠g6:=(by (have:=Ae f6;have:=n3.at_;omega))));have b3:w3.heap.size<=g3:=(by (have:=n3.at_;have:=hC.size;omega));have f3:=n3.blk;refine ⟨Ax hC n3.below,fun W hW hC=>?_⟩;have f3:=Ac hW f3;(try (have f6:=Ac (Ax n3.below hW) f6));clear hW n3;(conv=>whnf))|(refine L7 (m:=n) Aa 4 1 1 rfl rfl rfl rfl rfl rfl rfl rfl (by omega) (by omega) ?_;intro g6 v6 n6;(try (have d3_6:g3≠g6:=(by (have:=Ae f3;have:=n6.at_;omega))));have b6:w3.heap.size<=g6:=(by (have:=n6.at_;have:=hC.size;omega));have f6:=n6.blk;refine ⟨Ax hC n6.below,fun W hW hC=>?_⟩;have f6:=Ac hW f6;(try (have f3:=Ac (Ax n6.below hW) f3));clear hW n6;(conv=>whnf))|(refine Uq Aa rfl rfl rfl ?_;refine ⟨hC,fun W hW hC=>?_⟩;(try (have f3:=Ac (hW) f3));(try (have f6:=Ac (hW) f6));clear hW;(conv=>whnf)))
  all_goals
   skip
   refine Ci rfl rfl rfl rfl rfl rfl ?_
   intro gx wz hz
   refine Ab Aa ?_
   conv=>whnf
   skip
   have hgx:=hz.at_
   have l3:=Ae f3
   have l6:=Ae f6
   exact ⟨(g3,g6,gx),⟨rfl,rfl,trivial⟩,hz.up hC,hz.blk,hz.old f3,hz.old f6,⟨b3,b6,by simp only;have:=hC.size;omega⟩,by simp only;omega,by simp only;omega,by simp only;omega⟩
 ·rintro ⟨gf,go,gx⟩ G w4 ⟨hB4,hbox,hgf,hgo,⟨b2,b3,b1⟩,d1,d2,d3⟩
  simp only at hB4 hbox hgf hgo b1 b2 b3 d1 d2 d3
  obtain ⟨c,hcb,rfl,rfl,rfl,rfl,rfl,rfl,rfl,rfl⟩:∃ c:Cx,w.heap.size=c.base/\gx=c.gx/\n=c.n/\xs=c.xs/\ys=c.ys/\A1=c.A1/\A2=c.A2/\c1=c.c1/\c2=c.c2:=⟨⟨w.heap.size,gx,n,xs,ys,A1,A2,c1,c2⟩,rfl,rfl,rfl,rfl,rfl,rfl,rfl,rfl,rfl⟩
  obtain ⟨O4,h4,s4,o97⟩:=SW.start c (w:=w) (w1:=w4) (Nat.le_of_eq hcb.symm) (Ax hB hB4) (by have:=hB.size;have:=hB4.size;omega) hbox hgf hgo (by have:=hB.size;omega) (by have:=hB.size;omega) (by have:=hB.size;omega) d1 d2 d3 hcb
  have hO0:O4 g0=97:=o97 g0 hg0 (by omega) (by omega) (by omega)
  have hb0:=Ac hB4 hb0
  conv=>whnf
  (repeat' ((first|refine Aj Aa hb0 rfl rfl rfl rfl rfl rfl rfl (Ab Aa ?_)|fail)<;>conv=>whnf))
  refine Am Aa (X:=Nat×(Nat->Nat)×Mem) (fun y=>[(1,.pointer (some ⟨g0,0,none⟩)),(5,.pointer (some ⟨c.gx,0,none⟩)),(26,.int .i64 c.n),(27,.int .i64 y.1)])
   (fun y wr=>y.1=y.2.2.k/\SW c y.2.1 wr y.2.2/\Stp O4 y.2.1 w4 wr/\y.2.2.k<=c.n/\y.2.2.wk=[]/\y.2.2.pops=0/\y.2.2.bi=(fun _=>[])/\y.2.2.bd=(fun _=>[])/\y.2.2.bt=(fun _=>[])/\y.2.2.Vr=(fun _=>.slice none 0 0)/\y.2.2.fr=fun _=>[]) (fun y=>c.n - y.1) (0,O4,Rd gf go) ⟨rfl,rfl,rfl,rfl,trivial⟩ ⟨rfl,h4,Stp.refl _ _,by simp [Rd],rfl,rfl,rfl,rfl,rfl,rfl,rfl⟩ ?_
  rintro ⟨k,O,m⟩ G2 wr ⟨hkm,hm,sm,hk,e1,e2,e3,e4,e5,e6,e7⟩
  simp only at hkm hm sm hk e1 e2 e3 e4 e5 e6 e7
  subst hkm
  conv=>whnf
  by_cases hkl:m.k<c.n
  ·obtain ⟨f0,⟨hf0,hbx⟩,hbO⟩:=(hm.all 0).now
   subst hf0
   have hbO:=(hbO _ (List.mem_singleton.2 rfl)).1
   obtain ⟨f1,⟨hf1,hr1⟩,hO1⟩:=(hm.all 1).now
   obtain ⟨f2,⟨hf2,hr2⟩,hO2⟩:=(hm.all 2).now
   obtain ⟨f3,⟨hf3,hr3⟩,hO3⟩:=(hm.all 3).now
   subst hf1 hf2 hf3
   (repeat' ((first|(refine Ag (by first|assumption|omega) ?_)|fail)<;>conv=>whnf))
   refine Awx [0,1,2,3,4,5,7,11,12,13,15,19,20,21,23] [6,8,9,10,14,16,17,18,22,24,25,26,27,28,29,30,31,32] 33 (Fu _ (c.gx::(m.Vi.ownBlock.toList++m.Vd.ownBlock.toList++m.Vt.ownBlock.toList))) Aa mixed (by kernel_rfl) (Kept.refl _ _) ?_;(conv=>whnf)
   skip
   intro w5 hC5 hB5
   have h5:=hm.all.up hB5 97
   have s5:Stp O (Cp O wr.heap.size 97) wr w5:=Stp.up hB5 97
   have hVs:∀ a,a<3->∀ x∈(vsM m a).ownBlock.toList,Cp O wr.heap.size 97 x=1+a/\x<w5.heap.size:=fun a ha x hx=>by
    have:O x=1+a/\x<wr.heap.size:=by
     rcases Eo ha with rfl|rfl|rfl
     ·exact hO1 x hx
     ·exact hO2 x hx
     ·exact hO3 x hx
    exact ⟨(A6 this.2).trans this.1,Nat.lt_of_lt_of_le this.2 hB5.size⟩
   have hVr:∀ a,a<3->∀ x∈(vsM m a).ownBlock.toList,x∈c.gx::(m.Vi.ownBlock.toList++m.Vd.ownBlock.toList++m.Vt.ownBlock.toList):=fun a ha x hx=>by
    rcases Eo ha with rfl|rfl|rfl
    ·have hx:x∈m.Vi.ownBlock.toList:=hx
     simp [hx]
    ·have hx:x∈m.Vd.ownBlock.toList:=hx
     simp [hx]
    ·have hx:x∈m.Vt.ownBlock.toList:=hx
     simp [hx]
   have hsz:∀ {W:World},Kr wr (c.gx::(m.Vi.ownBlock.toList++m.Vd.ownBlock.toList++m.Vt.ownBlock.toList)) W->c.base<=W.heap.size:=fun hC=>Nat.le_trans hm.sz hC.size
   refine ⟨_,JJ.start (F:=_) h5 rfl (by decide),?_,?_⟩
   ·intro listed F W i o hJ hC hi hno ho hdep
    simp only [List.mem_cons,List.not_mem_nil,or_false] at hi
    rcases hi with rfl|rfl|rfl|rfl|rfl|rfl|rfl|rfl|rfl|rfl|rfl|rfl|rfl|rfl|rfl|rfl|rfl|rfl<;>cases ho
    ·exact hJ.wload hC (a:=0) (by omega) (Ho hno) rfl rfl rfl
    ·exact hJ.wbox hC (hsz hC) (a:=0) (by omega) (Ho hno) rfl rfl rfl
    ·exact hJ.wone hC (a:=0) (by omega) (Ho hno) (Ch hdep 8 rfl) rfl rfl
    ·exact hJ.wapp hC (hsz hC) (a:=0) (by omega) (Ho hno) (Ch hdep 6 rfl) (Ch hdep 9 rfl) (hVs 0 (by omega)) (hVr 0 (by omega)) (by omega) rfl rfl
    ·exact hJ.wload hC (a:=1) (by omega) (Ho hno) rfl rfl rfl
    ·exact hJ.wbox hC (hsz hC) (a:=1) (by omega) (Ho hno) rfl rfl rfl
    ·exact hJ.wone hC (a:=1) (by omega) (Ho hno) (Ch hdep 16 rfl) rfl rfl
    ·exact hJ.wapp hC (hsz hC) (a:=1) (by omega) (Ho hno) (Ch hdep 14 rfl) (Ch hdep 17 rfl) (hVs 1 (by omega)) (hVr 1 (by omega)) (by omega) rfl rfl
    ·exact hJ.wload hC (a:=2) (by omega) (Ho hno) rfl rfl rfl
    ·exact hJ.wbox hC (hsz hC) (a:=2) (by omega) (Ho hno) rfl rfl rfl
    ·exact hJ.wone hC (a:=2) (by omega) (Ho hno) (Ch hdep 24 rfl) rfl rfl
    ·exact hJ.wapp hC (hsz hC) (a:=2) (by omega) (Ho hno) (Ch hdep 22 rfl) (Ch hdep 25 rfl) (hVs 2 (by omega)) (hVr 2 (by omega)) (by omega) rfl rfl
    ·exact hJ.wnote hC (i:=27) (s:=56) (v:=C5 c.gx) (by simp) rfl (by simp only [Ca,ev];rw [hJ.fix 29 (by decide)];rfl)
    ·exact hJ.wnote hC (i:=28) (s:=57) (v:=.pointer (some ⟨c.gx,3,none⟩)) (by simp) rfl (by simp only [Ca,ev];rw [hJ.q27 (Ch hdep 27 rfl)];rfl)
    ·exact hJ.w29 hC (by simp) (Ho hno) ⟨Ch hdep 28 rfl,Ch hdep 10 rfl,Ch hdep 18 rfl,Ch hdep 26 rfl⟩ rfl rfl
    ·exact hJ.wnote hC (i:=30) (s:=58) (v:=C5 c.gx) (by simp) rfl (by simp only [Ca,ev];rw [hJ.fix 30 (by decide)];rfl)
    ·exact hJ.wnote hC (i:=31) (s:=59) (v:=.pointer (some ⟨c.gx,4,none⟩)) (by simp) rfl (by simp only [Ca,ev];rw [hJ.q30 (Ch hdep 30 rfl)];rfl)
    ·exact hJ.w32 hC (by simp) (Ho hno) ⟨Ch hdep 31 rfl,Ch hdep 29 rfl⟩ rfl rfl
   ·intro F2 W hJ hC
    obtain ⟨hbx2,⟨A3,c3,h55⟩,hfix,hgrow⟩:=JJ.fin hJ e3 e4 e5
    have hh:holds F2 [(1,.pointer (some ⟨g0,0,none⟩)),(5,.pointer (some ⟨c.gx,0,none⟩)),(26,.int .i64 c.n),(27,.int .i64 m.k),(31,.pointer (some ⟨c.gx,0,none⟩)),(55,.slice A3 (m.k+1) c3)]:=
     ⟨(hfix 1 (by decide)).trans rfl,(hfix 5 (by decide)).trans rfl,(hfix 26 (by decide)).trans rfl,(hfix 27 (by decide)).trans rfl,(hfix 31 (by decide)).trans rfl,h55,trivial⟩
    rw [<- Ct hh]
    conv=>whnf
    skip
    refine Dd (off:=5) Aa hbx2 rfl rfl rfl rfl rfl rfl (by simp [Dm]) rfl rfl ?_
    intro W2 hp
    refine Ab Aa ?_
    conv=>whnf
    (repeat' ((first|refine Af rfl rfl rfl rfl rfl rfl (by omega) (by omega) (Ab Aa ?_)|fail)<;>conv=>whnf))
    obtain ⟨O',m',hall,hst,hm'⟩:=hgrow W2 (by rw [h55];exact hp)
    have hk':m'.k=m.k+1:=by rw [hm']
    have hst:=s5.trans hst
    exact ⟨(m.k+1,O',m'),⟨rfl,rfl,rfl,rfl,trivial⟩,⟨hk'.symm,⟨hall,hst.low hm.low hm.sz,Nat.le_trans hm.sz hst.size⟩,sm.trans hst,by simp only;omega,by rw [hm'];exact e1,by rw [hm'];exact e2,by rw [hm'];exact e3,by rw [hm'];exact e4,by rw [hm'];exact e5,by rw [hm'];exact e6,by rw [hm'];exact e7⟩,by simp only;omega⟩
  ·have hg4:=Ae hb0
   have hb0:=(sm.fr g0 (Ae hb0) (by rw [hO0];omega) (by rw [hO0];omega)).trans hb0
   have hV:SV c O wr m:=⟨hm.all,hm.low,hm.sz,by omega,by rw [e1];simp,by rw [e1];simp,hn,hnc⟩
   have hwr:Below w.heap.size w wr:=by
    have:=(s4.trans sm).below (base:=w.heap.size) (fun _ _=>rfl) (Nat.le_refl _)
    exact this
   have sr:Stp (fun _=>99) O w wr:=s4.trans sm
   have hOr:O g0=97:=(sm.own g0 hg4).trans hO0
   (repeat' ((first|refine Aj Aa hb0 rfl rfl rfl rfl rfl rfl rfl (Ab Aa ?_)|(refine Ah (by first|assumption|omega) ?_)|fail)<;>conv=>whnf))
   clear hm sm s4 o97 hkl hk h4 hbox hgf hgo hB4 hO0
   have hdom0:Dom c.n c.xs.length m.st:=⟨fun v o e=>(by simp [Mem.st,e3,E9] at e),fun v o e=>(by simp [Mem.st,e4,E9] at e),fun v o e=>(by simp [Mem.st,e5,E9] at e),fun v e=>(by simp [Mem.st,e1] at e)⟩
   have hI0:InvI c.sys c.n 0 m.st:=⟨hdom0,⟨fun N _ v o e=>(by simp [Mem.st,e3,E9] at e),fun N _ v o e=>(by simp [Mem.st,e5,E9] at e)⟩,fun v o=>by simp [Mem.st,e4,E9],fun v _ o=>by simp [Mem.st,e3,E9],by simp [Mem.st,e1],e2,fun j hj=>by omega,fun j hj=>by omega⟩
   have hF0:FrI c.ys c.n 0 m.fr:=⟨fun j hj=>by omega,fun v j hj=>(by rw [e7] at hj;cases hj),fun v=>by rw [e7];simp⟩
   clear e1 e2 e3 e4 e5 e6 e7 hdom0
   refine Am Aa (X:=Nat×(Nat->Nat)×Mem) (fun y=>[(1,.pointer (some ⟨g0,0,none⟩)),(5,.pointer (some ⟨c.gx,0,none⟩)),(64,.slice c.A2 c.ys.length c.c2),(65,.int .i64 c.ys.length),(66,.int .i64 y.1)])
    (fun y wk=>y.1<=c.ys.length/\SV c y.2.1 wk y.2.2/\Stp O y.2.1 wr wk/\InvI c.sys c.n y.1 y.2.2.st/\FrI c.ys c.n y.1 y.2.2.fr) (fun y=>c.ys.length - y.1) (0,O,m) ⟨rfl,rfl,rfl,rfl,rfl,trivial⟩ ⟨by simp,hV,Stp.refl _ _,hI0,hF0⟩ ?_
   clear hI0 hF0
   rintro ⟨i,Oi,mi⟩ G3 wk ⟨hi,hV2,si,hI,hF⟩
   simp only at hi hV2 si hI hF
   conv=>whnf
   by_cases hil:i<c.ys.length
   ·have hwk:Below w.heap.size w wk:=(sr.trans si).below (base:=w.heap.size) (fun _ _=>rfl) (Nat.le_refl _)
    obtain ⟨con,adC,Bc,bc,hcon,hA2,fcon,_,hRc,hck0,hck1,hca,hcb'⟩:=Qj h2 i hil
    have gc:=hgc i hil
    have hIc:c.sys.cons[i]! = con:=hcon.out
    rw [hcon.out] at gc
    rw [hA2]
    (repeat' ((first|refine Al Aa 77 4 rfl rfl rfl rfl rfl rfl rfl (by omega) (Ab Aa ?_)|refine E0 Aa (Ev hwk fcon) rfl rfl rfl rfl rfl rfl (Ab Aa ?_)|(refine Ag (by first|assumption|omega) ?_)|fail)<;>conv=>whnf))
    refine Bm Aa rfl rfl rfl rfl rfl rfl ?_
    intro g7 w7 hn7
    refine Ab Aa ?_
    conv=>whnf
    skip
    refine Di Aa hn7.blk rfl rfl rfl rfl rfl (by simp [Value.oneCell']) rfl rfl ?_
    intro w8 hp8
    refine Ab Aa ?_
    conv=>whnf
    have hb7:=hp8.blk
    have hB8:Below wk.heap.size wk w8:=hp8.below hn7.below (by have:=hn7.at_;omega) hn7.below.size
    have h8:=hV2.up hB8 97
    have s8:=si.trans (Stp.up (O:=Oi) hB8 97)
    have hO7:Cp Oi wk.heap.size 97 g7=97:=C3 (by have:=hn7.at_;omega)
    clear hn7 hp8
    obtain ⟨ck,ca,cb,cargs⟩:=con
    simp only at hb7 hca hcb' gc hIc hcon hck0 hck1 hRc
    have hgb0:=gc.b0
    simp only at hgb0
    obtain ⟨vb,rfl⟩:∃ vb:Nat,cb=vb:=⟨cb.toNat,by omega⟩
    (repeat' ((first|refine Aj Aa hb7 rfl rfl rfl rfl rfl rfl rfl (Ab Aa ?_)|refine J5 (fun hg=>?_) (fun hg=>?_)|fail)<;>conv=>whnf))
    ·have hk:ck=1:=by assumption
     have hga:=gc.a0 (by simp only;omega)
     have hga2:=gc.a
     have hgb2:=gc.b1 hk
     simp only at hga hga2 hgb2
     obtain ⟨va,rfl⟩:∃ va:Nat,ca=va:=⟨ca.toNat,by omega⟩
     have hva:va<c.n:=by omega
     have hvb:vb<c.xs.length:=by omega
     obtain ⟨hri,_⟩:=h8.rowI
     obtain ⟨g1,cap1,cur1,hVi,_,_,hcell1,_,_⟩:=hri.form hva
     obtain ⟨fi,hP,hPO⟩:=h8.setI hva
     have hbx:=h8.box.1
     unfold Dm at hbx
     rw [hVi] at hbx
     have hc1:=hcell1 va hva
     unfold C5 at hc1
     have hl1:=Gt hP.wf (N:=c.xs.length) (fun o ho=>(hI.dom.inn va o ho).2)
     refine Gl 10 10 (Be _) Aa mixed (by kernel_rfl) rfl (Below.refl _ _) ?_;conv=>whnf
     (repeat' ((first|refine Bg Aa hbx rfl rfl rfl rfl rfl rfl rfl (Ad Aa ?_)|refine Bg Aa hb7 rfl rfl rfl rfl rfl rfl rfl (Ad Aa ?_)|refine De Aa rfl rfl rfl rfl rfl rfl hc1 (Ad Aa ?_)|refine Dh Aa 117 1 rfl rfl rfl rfl rfl rfl rfl (by omega) (Ad Aa ?_)|fail)<;>conv=>whnf))
     intro w9 _ hB9
     conv=>whnf
     have h9:=h8.up hB9 97
     have hlt:=hP.lt
     refine Bv Y7 (Ag7 (hP.up hB9) (vb:Int) (by omega) (by omega) h9.sz) rfl rfl rfl rfl rfl rfl rfl ?_
     rintro _ w10 ⟨bs',fp',hA⟩
     have hret:=hA.ret
     rw [decide_eq_true (by omega:(0:Int)<=(vb:Int)),Bool.true_and,Int.toNat_natCast] at hret
     rw [hret]
     refine ⟨_,rfl,Ab Aa ?_⟩
     conv=>whnf
     have hPO9:∀ b∈fi,Cp (Cp Oi wk.heap.size 97) w8.heap.size 97 b=100+4*va:=fun b hb=>(A6 (hlt b hb).2).trans (hPO b hb)
     obtain ⟨O10,h10,s10⟩:=h9.joined (O1:=Oi) (w:=wk) (fp:=fi) hva hA.kept hPO9 hA.set (fun b hb=>(hA.new b hb).elim (fun e=>.inl (hPO9 b e)) .inr)
     have s10:=s8.trans ((Stp.up hB9 97).trans s10)
     have hinn:∀ x o,Aw (Bp mi.bi va bs' x) o=(Aw (mi.bi x) o||(decide (x=va)&&decide (o=vb))):=fun x o=>by
      unfold Bp
      by_cases e:x=va
      ·subst e;rw [if_pos rfl,hA.mem];simp [show ((vb:Int)=(o:Int))↔(o=vb) by omega]
      ·rw [if_neg e];simp [e]
     have fin:∀ {O':Nat->Nat} {m':Mem} {W:World},SV c O' W m'->Stp O O' wr W->FlowR va (fun o=>decide (o=vb)) mi.st m'.st->m'.fr=mi.fr->SV c O' W m'/\Stp O O' wr W/\InvI c.sys c.n (i+1) m'.st/\FrI c.ys c.n (i+1) m'.fr:=fun q1 q2 q3 q4=>
      ⟨q1,q2,hI.flow hil (by rw [hIc];exact hk) (a:=va) (b:=vb) (by rw [hIc]) (by rw [hIc]) hva hvb q3,by rw [q4];exact hF.skip (.inl (by rw [hcon.out];exact hk))⟩
     have hb10:=hA.kept.blk (Ac hB9 hb7) (fun hm=>by have:=hPO _ hm;rw [hO7] at this;omega)
     (repeat' ((first|refine Aj Aa hb10 rfl rfl rfl rfl rfl rfl rfl (Ab Aa ?_)|refine Af rfl rfl rfl rfl rfl rfl (by omega) (by omega) (Ab Aa ?_)|refine Nc (fun hg=>?_) (fun hg=>?_)|fail)<;>conv=>whnf))
     ·have hnew:Aw (mi.bi va) vb=false:=by assumption
      refine Bv Bbk (Ao6 h10 va hva) rfl rfl rfl rfl rfl rfl rfl ?_
      rintro _ w11 ⟨rfl,O11,V11,h11,s11⟩
      refine ⟨_,rfl,Ab Aa ?_⟩
      conv=>whnf
      (repeat' ((first|refine Af rfl rfl rfl rfl rfl rfl (by omega) (by omega) (Ab Aa ?_)|fail)<;>conv=>whnf))
      obtain ⟨q1,q2,q3,q4⟩:=fin h11 (s10.trans s11) ⟨hinn,rfl,rfl,rfl,by
       by_cases hm:va∈mi.wk
       ·exact .inl ⟨if_pos hm,.inr hm⟩
       ·exact .inr ⟨if_neg hm,vb,hnew,by simp⟩⟩ rfl
      exact ⟨(i+1,O11,_),⟨rfl,rfl,rfl,rfl,rfl,trivial⟩,⟨by simp only;omega,q1,q2,q3,q4⟩,by simp only;omega⟩
     ·have hold:Aw (mi.bi va) vb=true:=by assumption
      obtain ⟨q1,q2,q3,q4⟩:=fin h10 s10 ⟨hinn,rfl,rfl,rfl,.inl ⟨rfl,.inl (by
       funext o
       show Aw (Bp mi.bi va bs' va) o=Aw (mi.bi va) o
       rw [hinn]
       by_cases e:o=vb
       ·subst e;simp [hold]
       ·simp [e])⟩⟩ rfl
      exact ⟨(i+1,O10,_),⟨rfl,rfl,rfl,rfl,rfl,trivial⟩,⟨by simp only;omega,q1,q2,q3,q4⟩,by simp only;omega⟩
    ·have hk:ck=2:=by assumption
     have hga:=gc.a0 (by simp only;omega)
     have hga2:=gc.a
     have hgb2:=gc.b (by simp only;omega)
     simp only at hga hga2 hgb2
     obtain ⟨va,rfl⟩:∃ va:Nat,ca=va:=⟨ca.toNat,by omega⟩
     have hva:va<c.n:=by omega
     have hvb:vb<c.n:=by omega
     obtain ⟨hrt,_⟩:=h8.rowT
     obtain ⟨g1,cap1,cur1,hVt,_,_,hcell1,_,_⟩:=hrt.form hvb
     obtain ⟨fi,hP,hPO⟩:=h8.setT hvb
     have hbx:=h8.box.1
     unfold Dm at hbx
     rw [hVt] at hbx
     have hc1:=hcell1 vb hvb
     unfold C5 at hc1
     have hl1:=Gt hP.wf (N:=c.n) (fun o ho=>(hI.dom.too vb o ho).2)
     refine Gl 10 10 (Be _) Aa mixed (by kernel_rfl) rfl (Below.refl _ _) ?_;conv=>whnf
     (repeat' ((first|refine Bg Aa hbx rfl rfl rfl rfl rfl rfl rfl (Ad Aa ?_)|refine Bg Aa hb7 rfl rfl rfl rfl rfl rfl rfl (Ad Aa ?_)|refine De Aa rfl rfl rfl rfl rfl rfl hc1 (Ad Aa ?_)|refine Dh Aa 117 1 rfl rfl rfl rfl rfl rfl rfl (by omega) (Ad Aa ?_)|fail)<;>conv=>whnf))
     intro w9 _ hB9
     conv=>whnf
     have h9:=h8.up hB9 97
     have hlt:=hP.lt
     refine Bv Y7 (Ag7 (hP.up hB9) (va:Int) (by omega) (by omega) h9.sz) rfl rfl rfl rfl rfl rfl rfl ?_
     rintro _ w10 ⟨bs',fp',hA⟩
     rw [hA.ret]
     refine ⟨_,rfl,Ab Aa ?_⟩
     conv=>whnf
     have hPO9:∀ b∈fi,Cp (Cp Oi wk.heap.size 97) w8.heap.size 97 b=100+4*vb+2:=fun b hb=>(A6 (hlt b hb).2).trans (hPO b hb)
     obtain ⟨O10,h10,s10⟩:=h9.toAdded hvb hA.kept hPO9 hA.set (fun b hb=>(hA.new b hb).elim (fun e=>.inl (hPO9 b e)) .inr)
     have s10:=s8.trans ((Stp.up hB9 97).trans s10)
     have htoo:∀ x y,Aw (Bp mi.bt vb bs' x) y=(Aw (mi.bt x) y||(decide (x=vb)&&decide (y=va))):=fun x y=>by
      unfold Bp
      by_cases e:x=vb
      ·subst e;rw [if_pos rfl,hA.mem];simp [show ((va:Int)=(y:Int))↔(y=va) by omega]
      ·rw [if_neg e];simp [e]
     (repeat' ((first|refine Af rfl rfl rfl rfl rfl rfl (by omega) (by omega) (Ab Aa ?_)|fail)<;>conv=>whnf))
     exact ⟨(i+1,O10,_),⟨rfl,rfl,rfl,rfl,rfl,trivial⟩,⟨by simp only;omega,h10,s10,hI.edge hil (by rw [hIc];exact hk) (a:=va) (b:=vb) (by rw [hIc]) (by rw [hIc]) hva hvb rfl rfl htoo rfl rfl,hF.skip (.inr (by rw [hcon.out];exact hk))⟩,by simp only;omega⟩
    ·have hk:ck=4:=by assumption
     have hga:=gc.a0 (by simp only;omega)
     simp only at hga
     obtain ⟨va,rfl⟩:∃ va:Nat,ca=va:=⟨ca.toNat,by omega⟩
     have hk1:¬ ck=1:=by assumption
     have hk2:¬ ck=2:=by assumption
     have hsrc:Cs c.ys[i]! = va:=by rw [hcon.out];unfold Cs;simp only;rw [if_pos (by assumption)];simp
     have hvn:va<c.n:=by have:=gc.a;simp only at this;omega
     obtain ⟨ff,hq,hqO⟩:=h8.fromR hvn
     obtain ⟨AF,cF,hVr,_⟩:=hq.form
     rw [hVr] at hq
     obtain ⟨hfB,hfO⟩:=h8.fromB
     obtain ⟨hbx,hbO⟩:=h8.box
     have hbx':=hbx
     unfold Dm at hbx'
     have n1:c.gx∉ff:=fun hm=>by have:=hqO _ hm;rw [hbO] at this;omega
     have n2:g7∉ff:=fun hm=>by have:=hqO _ hm;rw [hO7] at this;omega
     have n3:mi.gf∉ff:=fun hm=>by have:=hqO _ hm;rw [hfO] at this;omega
     have hbC:∀ w',Kr w8 ff w'->w'.heap[c.gx]?=_:=fun w' h'=>h'.blk hbx' n1
     have h7C:∀ w',Kr w8 ff w'->w'.heap[g7]?=_:=fun w' h'=>h'.blk hb7 n2
     have hcC:∀ w',Kr w8 ff w'->w'.cell? ((⟨mi.gf,0,none⟩:Addr).add (va*1))=some (.slice AF (mi.fr va).length cF):=fun w' h'=>by
      rw [Nat.mul_one,add_zero]
      refine Au (h'.blk hfB n3) ?_
      simp [hvn,hVr]
     have hfl:=hF.len va
     have hqlt:=hq.lt
     refine Em [0,1,2,3,4,5,6,7,8,9,10,11,12,13,14] 2 17 (Fu _ (ff)) Aa mixed (by kernel_rfl) (Kept.refl _ _) ?_;(conv=>whnf)
     (repeat' ((first|refine D6 Aa hbC rfl rfl rfl rfl rfl rfl rfl (Ad Aa ?_)|refine D6 Aa h7C rfl rfl rfl rfl rfl rfl rfl (Ad Aa ?_)|refine Qp Aa hcC rfl rfl rfl rfl rfl rfl (Ad Aa ?_)|refine Dh Aa 27 1 rfl rfl rfl rfl rfl rfl rfl (by omega) (Ad Aa ?_)|fail)<;>conv=>whnf))
     intro W hC hBW
     conv=>whnf
     refine And.intro ?_ True.intro
     conv=>whnf
     refine Hh (Gf Aa 3 1 rfl rfl rfl rfl rfl rfl rfl rfl rfl ?_)
     intro gn W1 hn1
     refine ⟨hC.up hn1.below,fun W2 hB2 hC2=>?_⟩
     have hBz:=Ax (Ax hBW hn1.below) hB2
     have hb1:=Ac hB2 hn1.blk
     have h9:=h8.up hBz 97
     clear hC hn1
     conv=>whnf
     refine And.intro ?_ True.intro
     conv=>whnf
     have hq2:=hq.keep (w1:=W2) fun b hb=>hBz.block b (hqlt b hb).2
     refine Hh (Ark (v:=i) hq2 hb1 rfl rfl rfl rfl rfl rfl rfl rfl (by omega) h9.sz ?_)
     intro A3 cap3 W3 fp3 hq3 hk3 hf3
     refine ⟨(hC2.trans hk3 (fun b hb=>.inl hb)),fun W4 hB4 hC4=>?_⟩
     conv=>whnf
     (repeat' ((first|refine Al Aa 27 1 rfl rfl rfl rfl rfl rfl rfl (by omega) (Ab Aa ?_)|fail)<;>conv=>whnf))
     refine Dt (v:=.slice A3 ((mi.fr va).length+1) cap3) Aa (hC4.blk hfB n3) rfl rfl rfl rfl rfl rfl (by simp;omega) rfl rfl ?_
     intro W5 hp5
     refine Ab Aa ?_
     conv=>whnf
     (repeat' ((first|refine Af rfl rfl rfl rfl rfl rfl (by omega) (by omega) (Ab Aa ?_)|fail)<;>conv=>whnf))
     obtain ⟨O9,h9',s9⟩:=h9.fromPut (i:=i) hvn hk3 (fun b hb=>(A6 (hqlt b hb).2).trans (hqO b hb)) hq3 hf3 hB4 (by rw [Nat.mul_one] at hp5;exact hp5)
     have hpush:=hF.push (by rw [hcon.out];exact hk1) (by rw [hcon.out];exact hk2)
     rw [hsrc] at hpush
     exact ⟨(i+1,O9,_),⟨rfl,rfl,rfl,rfl,rfl,trivial⟩,⟨by simp only;omega,h9',s8.trans ((Stp.up hBz 97).trans s9),hI.skip (by rw [hIc];exact hk1) (by rw [hIc];exact hk2),hpush⟩,by simp only;omega⟩
    ·have hk1:¬ ck=1:=by assumption
     have hk2:¬ ck=2:=by assumption
     have hsrc:Cs c.ys[i]! = vb:=by rw [hcon.out];unfold Cs;simp only;rw [if_neg (by assumption)];simp
     have hvn:vb<c.n:=by have:=gc.b (by have:=gc.k;simp only at this ⊢;omega);simp only at this;omega
     obtain ⟨ff,hq,hqO⟩:=h8.fromR hvn
     obtain ⟨AF,cF,hVr,_⟩:=hq.form
     rw [hVr] at hq
     obtain ⟨hfB,hfO⟩:=h8.fromB
     obtain ⟨hbx,hbO⟩:=h8.box
     have hbx':=hbx
     unfold Dm at hbx'
     have n1:c.gx∉ff:=fun hm=>by have:=hqO _ hm;rw [hbO] at this;omega
     have n2:g7∉ff:=fun hm=>by have:=hqO _ hm;rw [hO7] at this;omega
     have n3:mi.gf∉ff:=fun hm=>by have:=hqO _ hm;rw [hfO] at this;omega
     have hbC:∀ w',Kr w8 ff w'->w'.heap[c.gx]?=_:=fun w' h'=>h'.blk hbx' n1
     have h7C:∀ w',Kr w8 ff w'->w'.heap[g7]?=_:=fun w' h'=>h'.blk hb7 n2
     have hcC:∀ w',Kr w8 ff w'->w'.cell? ((⟨mi.gf,0,none⟩:Addr).add (vb*1))=some (.slice AF (mi.fr vb).length cF):=fun w' h'=>by
      rw [Nat.mul_one,add_zero]
      refine Au (h'.blk hfB n3) ?_
      simp [hvn,hVr]
     have hfl:=hF.len vb
     have hqlt:=hq.lt
     refine Em [0,1,2,3,4,5,6,7,8,9,10,11,12,13,14] 2 17 (Fu _ (ff)) Aa mixed (by kernel_rfl) (Kept.refl _ _) ?_;(conv=>whnf)
     (repeat' ((first|refine D6 Aa hbC rfl rfl rfl rfl rfl rfl rfl (Ad Aa ?_)|refine D6 Aa h7C rfl rfl rfl rfl rfl rfl rfl (Ad Aa ?_)|refine Qp Aa hcC rfl rfl rfl rfl rfl rfl (Ad Aa ?_)|refine Dh Aa 27 1 rfl rfl rfl rfl rfl rfl rfl (by omega) (Ad Aa ?_)|fail)<;>conv=>whnf))
     intro W hC hBW
     conv=>whnf
     refine And.intro ?_ True.intro
     conv=>whnf
     refine Hh (Gf Aa 3 1 rfl rfl rfl rfl rfl rfl rfl rfl rfl ?_)
     intro gn W1 hn1
     refine ⟨hC.up hn1.below,fun W2 hB2 hC2=>?_⟩
     have hBz:=Ax (Ax hBW hn1.below) hB2
     have hb1:=Ac hB2 hn1.blk
     have h9:=h8.up hBz 97
     clear hC hn1
     conv=>whnf
     refine And.intro ?_ True.intro
     conv=>whnf
     have hq2:=hq.keep (w1:=W2) fun b hb=>hBz.block b (hqlt b hb).2
     refine Hh (Ark (v:=i) hq2 hb1 rfl rfl rfl rfl rfl rfl rfl rfl (by omega) h9.sz ?_)
     intro A3 cap3 W3 fp3 hq3 hk3 hf3
     refine ⟨(hC2.trans hk3 (fun b hb=>.inl hb)),fun W4 hB4 hC4=>?_⟩
     conv=>whnf
     (repeat' ((first|refine Al Aa 27 1 rfl rfl rfl rfl rfl rfl rfl (by omega) (Ab Aa ?_)|fail)<;>conv=>whnf))
     refine Dt (v:=.slice A3 ((mi.fr vb).length+1) cap3) Aa (hC4.blk hfB n3) rfl rfl rfl rfl rfl rfl (by simp;omega) rfl rfl ?_
     intro W5 hp5
     refine Ab Aa ?_
     conv=>whnf
     (repeat' ((first|refine Af rfl rfl rfl rfl rfl rfl (by omega) (by omega) (Ab Aa ?_)|fail)<;>conv=>whnf))
     obtain ⟨O9,h9',s9⟩:=h9.fromPut (i:=i) hvn hk3 (fun b hb=>(A6 (hqlt b hb).2).trans (hqO b hb)) hq3 hf3 hB4 (by rw [Nat.mul_one] at hp5;exact hp5)
     have hpush:=hF.push (by rw [hcon.out];exact hk1) (by rw [hcon.out];exact hk2)
     rw [hsrc] at hpush
     exact ⟨(i+1,O9,_),⟨rfl,rfl,rfl,rfl,rfl,trivial⟩,⟨by simp only;omega,h9',s8.trans ((Stp.up hBz 97).trans s9),hI.skip (by rw [hIc];exact hk1) (by rw [hIc];exact hk2),hpush⟩,by simp only;omega⟩
   ·have hIv:=hI
    rw [show i=c.sys.cons.length from (by show i=c.ys.length;omega)] at hIv
    have hIn:=hIv.all
    have hFo:FrOk c mi.fr:=FrI.ok (by rw [show c.ys.length=i by omega];exact hF)
    have sk:=sr.trans si
    have hwk:Below w.heap.size w wk:=sk.below (base:=w.heap.size) (fun _ _=>rfl) (Nat.le_refl _)
    clear hIv hI hF
    (repeat' ((first|(refine Ah (by first|assumption|omega) ?_)|fail)<;>conv=>whnf))
    refine Ta rfl rfl rfl rfl rfl rfl ?_
    refine Ab Aa ?_
    conv=>whnf
    skip
    obtain ⟨N,hN⟩:∃ N,N=c.n*c.xs.length:=⟨_,rfl⟩
    have hNb:N<=268435456:=by rw [hN];exact Nat.le_trans (Nat.mul_le_mul hn hnc) (by decide)
    refine Am Aa (X:=(Nat->Nat)×Mem) (fun y=>[(5,.pointer (some ⟨c.gx,0,none⟩)),(8,.func (.func 41) #[.pointer (some ⟨c.gx,0,none⟩)] #[])])
     (fun y wl=>SV c y.1 wl y.2/\Stp (fun _=>99) y.1 w wl/\Inv c.sys c.n y.2.st/\FrOk c y.2.fr) (fun y=>N - y.2.pops) (Oi,mi) ⟨rfl,rfl,trivial⟩ ⟨hV2,sk,hIn,hFo⟩ ?_
    clear hIn hFo hV2 si sk hwk hV sr hOr hwr
    rintro ⟨Ol,ml⟩ G4 wl ⟨hL,sl,hIl,hFl⟩
    simp only at hL sl hIl hFl
    conv=>whnf
    have hwl:Below w.heap.size w wl:=sl.below (base:=w.heap.size) (fun _ _=>rfl) (Nat.le_refl _)
    obtain ⟨hbx,hbO⟩:=hL.box
    obtain ⟨fq,hq,hqO⟩:=hL.queue
    obtain ⟨AQ,cQ,hVw,hlQ⟩:=hq.form
    have hbx':=hbx
    unfold Dm at hbx'
    rw [hVw] at hbx' hq
    have hbound:=hIl.bound
    have hbound:ml.pops+ml.wk.length<=c.n*c.xs.length:=hbound
    rw [<- hN] at hbound
    have hnd:=M6 hL.nd hL.wl
    cases hwk:ml.wk with
    |nil=>
     rw [hwk] at hbx' hbound
     have hIL:=hIl.least rfl hwk hgc hgx
     obtain ⟨M,hM⟩:∃ M,M=Et c.n c.xs.length ml.st.inn:=⟨_,rfl⟩
     have hIL:IsLeast ⟨c.n,c.xs,c.ys⟩ M:=by rw [hM];exact hIL
     have hpl:(Df M).length=c.n:=by rw [hM];simp [Df,(Co c.n c.xs.length ml.st.inn).rows]
     obtain ⟨hri,_⟩:=hL.rowI
     obtain ⟨AI,cI,hVi⟩:∃ AI cI,ml.Vi=.slice AI c.n cI:=by
      rcases hri.2.2 with ⟨e,h0⟩|⟨g,cp,cu,e,_⟩
      ·exact ⟨none,0,by rw [e,h0]⟩
      ·exact ⟨_,_,e⟩
     rw [hVi] at hbx'
     (repeat' ((first|refine Aj Aa hbx' rfl rfl rfl rfl rfl rfl rfl (Ab Aa ?_)|fail)<;>conv=>whnf))
     refine Am Aa (X:=Nat×Option Addr×Nat×List Nat) (fun y=>[(5,.pointer (some ⟨c.gx,0,none⟩)),(10,.slice y.2.1 y.1 y.2.2.1),(183,.slice AI c.n cI),(184,.int .i64 c.n),(185,.int .i64 y.1)])
      (fun y wo=>y.1<=c.n/\Below wl.heap.size wl wo/\GRow 1 H5 27 wl.heap.size wo (.slice y.2.1 y.1 y.2.2.1) ((Df M).take y.1) y.2.2.2) (fun y=>c.n - y.1) (0,none,0,[]) ⟨rfl,rfl,rfl,rfl,rfl,trivial⟩ ⟨by simp,Below.refl _ _,GRow.nil ..⟩ ?_
     rintro ⟨v,D,dc,bs⟩ G5 wo ⟨hv,hBo,hGo⟩
     simp only at hv hBo hGo
     conv=>whnf
     by_cases hvl:v<c.n
     ·obtain ⟨g1,cap1,cur1,hVi',_,_,hcell1,_,_⟩:=hri.form hvl
      rw [hVi] at hVi'
      injection hVi' with q1 q2 q3
      subst q1 q3
      obtain ⟨fi,hP,_⟩:=hL.setI hvl
      have hc1:=Bn hBo (hcell1 v hvl)
      unfold C5 at hc1
      have hl1:=Gt hP.wf (N:=c.xs.length) (fun o ho=>(hIl.dom.inn v o ho).2)
      have hnl:=Gv (ml.bi v)
      (repeat' ((first|refine Az Aa rfl rfl rfl rfl rfl rfl hc1 (Ab Aa ?_)|refine Al Aa 117 1 rfl rfl rfl rfl rfl rfl rfl (by omega) (Ab Aa ?_)|(refine Ag (by first|assumption|omega) ?_)|fail)<;>conv=>whnf))
      refine Bv Ap9 (Atq (hP.up hBo) (by omega) (hT.up (Ax hwl hBo))) rfl rfl rfl rfl rfl rfl rfl ?_
      rintro _ wp ⟨V,rfl,hI,hBp⟩
      obtain ⟨E,ec,rfl,_,_⟩:=hI.row
      refine ⟨_,rfl,Ab Aa ?_⟩
      conv=>whnf
      have hpv:(Df M)[v]! = Br (ml.bi v):=by rw [hM];exact Rs hP.wf hvl (fun _=>rfl) (fun o ho=>(hIl.dom.inn v o ho).2)
      have htl:((Df M).take v).length=v:=by simp [hpl];omega
      have htk:(Df M).take (v+1)=(Df M).take v++[Br (ml.bi v)]:=by
       rw [<- hpv,getElem!_pos (Df M) v (by rw [hpl];exact hvl)]
       simp
      have hBmp:=hBo.trans (hBp.mono hBo.size)
      refine C7 Aa 27 1 rfl rfl rfl rfl rfl rfl rfl rfl rfl rfl ?_
      intro gn u1 hn1
      have hGu:=(hGo.below hBp).below hn1.below
      obtain ⟨flat,hown,helm⟩:=hGu.own
      rw [htl] at hown
      refine Ab Aa ?_
      conv=>whnf
      refine Cu Aa 27 1 24 hown hn1.blk rfl rfl rfl rfl rfl rfl rfl rfl rfl rfl rfl rfl (by simp [Value.oneCell']) (by omega) (by omega) (by have:=hn1.size;have:=hBmp.size;omega) ?_
      intro D2 dc2 u2 hown2 hg2 hob2
      have hpush:=Yf (b':=wo.heap.size) hGu helm (by rw [htl];exact hown2) hg2 hob2 (hI.below hn1.below) hBo.size (fun k hk e=>by have:=(hI.olt k hk).1;have:=(hGo.olt k e.symm).2;omega)
      have hgk:wp.grownBy u2 (Value.slice D v dc).ownBlock:=Bt (Ar hn1.below) hg2
      have hB2:Below wl.heap.size wl u2:=hBmp.grown hgk hBmp.size (fun k e=>(hGo.olt k e).1)
      refine Ab Aa ?_
      conv=>whnf
      (repeat' ((first|refine Af rfl rfl rfl rfl rfl rfl (by omega) (by omega) (Ab Aa ?_)|fail)<;>conv=>whnf))
      exact ⟨(v+1,D2,dc2,_),⟨rfl,rfl,rfl,rfl,rfl,trivial⟩,⟨by simp only;omega,hB2,by simp only;rw [htk];exact hpush⟩,by simp only;omega⟩
     ·have hvn:v=c.n:=by omega
      subst hvn
      (repeat' ((first|(refine Ah (by first|assumption|omega) ?_)|fail)<;>conv=>whnf))
      refine Fo Aa mixed (by kernel_rfl) ?_;conv=>whnf
      (repeat' ((first|refine Bg Aa (Ac hBo hbx') rfl rfl rfl rfl rfl rfl rfl (Ad Aa ?_)|fail)<;>conv=>whnf))
      intro wz hBz
      conv=>whnf
      rw [List.take_of_length_le (by omega)] at hGo
      obtain ⟨_,hcap,hrr⟩:=hGo.rowAt
      refine Bn4 rfl rfl rfl rfl ⟨M,D,dc,ml.pops,rfl,hIL,hrr.up Bz hBz,by omega,by rw [<- hN];omega,Ax (Ax hwl hBo) hBz⟩
    |cons v r=>
     rw [hwk] at hbx' hq
     obtain ⟨ad,hAQ,hc0⟩:=hq.head
     obtain ⟨fq',hq',hfq'⟩:=hq.tail
     obtain ⟨hon,honO⟩:=hL.onB
     have hv:v<c.n:=hL.wl v (by rw [hwk];simp)
     subst hAQ
     have hpos:(0:Int)<(((v::r).length:Nat):Int):=by rw [List.length_cons];omega
     (repeat' ((first|refine Aj Aa hbx' rfl rfl rfl rfl rfl rfl rfl (Ab Aa ?_)|refine Az Aa rfl rfl rfl rfl rfl rfl hc0 (Ab Aa ?_)|refine Ni Aa 3 1 rfl rfl rfl rfl rfl rfl rfl (by omega) (by omega) (Ab Aa ?_)|(refine Ag (by first|assumption|omega) ?_)|fail)<;>conv=>whnf))
     refine K4 Aa 3 1 (hn':=1) (l2:=r.length) rfl rfl (by simp) rfl (by simp) rfl rfl rfl rfl rfl rfl rfl ?_
     refine Ab Aa ?_
     conv=>whnf
     skip
     refine Dd (off:=7) (v:=.slice (K8 (some ad) 1 cQ 1) r.length (cQ - 1)) Aa hbx' rfl rfl rfl rfl rfl rfl (by simp) rfl rfl ?_
     intro wa hpa
     refine Ab Aa ?_
     conv=>whnf
     (repeat' ((first|refine Aj Aa hpa.blk rfl rfl rfl rfl rfl rfl rfl (Ab Aa ?_)|refine Al Aa 4 1 rfl rfl rfl rfl rfl rfl rfl (by omega) (Ab Aa ?_)|fail)<;>conv=>whnf))
     have hgne:ml.go≠c.gx:=fun e=>by rw [e,hbO] at honO;cases honO
     refine Dt (v:=.bool false) Aa (hpa.old hon hgne) rfl rfl rfl rfl rfl rfl (by rw [Vk];omega) rfl rfl ?_
     intro wb hpb
     refine Ab Aa ?_
     conv=>whnf
     have hba:=hpb.old hpa.blk (Ne.symm hgne)
     (repeat' ((first|refine Aj Aa hba rfl rfl rfl rfl rfl rfl rfl (Ab Aa ?_)|refine Af rfl rfl rfl rfl rfl rfl (by omega) (by omega) (Ab Aa ?_)|fail)<;>conv=>whnf))
     refine Dd (off:=9) (v:=.int .i64 ((ml.pops:Int)+1)) Aa hba rfl rfl rfl rfl rfl rfl (by simp) rfl rfl ?_
     intro wc hpc
     refine Ab Aa ?_
     conv=>whnf
     skip
     obtain ⟨Op,hp,sp⟩:=hL.popped hwk hq' (fun b hb=>hqO b (hfq' b hb)) (by unfold Dm;rw [hVw,hwk];exact hpa) (by rw [Nat.mul_one] at hpb;exact hpb) (by unfold Dm;rw [hVw,hwk];exact hpc)
     have hwc:Below w.heap.size w wc:=(sl.trans sp).below (base:=w.heap.size) (fun _ _=>rfl) (Nat.le_refl _)
     refine I6 Bp6 (first:=[.pointer (some ⟨c.gx,0,none⟩)]) (args:=[.int .i64 (v:Int)]) (caps:=[]) (Bbq hp hT hwc hcb h1 h2 hgx hgc hny hIl hwk rfl hFl) rfl rfl rfl rfl rfl rfl rfl ?_
     rintro _ wd ⟨rfl,Od,md,hd,sd,⟨hId,hpd⟩,e1,e2⟩
     refine ⟨_,rfl,Ab Aa ?_⟩
     conv=>whnf
     skip
     have hpd:md.pops=ml.pops+1:=hpd
     rw [hwk,List.length_cons] at hbound
     exact ⟨(Od,md),⟨rfl,rfl,trivial⟩,⟨hd,sl.trans (sp.trans sd),hId,by show FrOk c md.fr;rw [e1];exact hFl⟩,by simp only;omega⟩
theorem Uy (v c:Nat)(hv:v<=16384)(hc:c<=16384)(w:World):Calls Tryz.prog 15 #[.int .i64 (v:Int),.int .i64 (c:Int)] w fun e w'=>e=.returned (.int .i64 ((v:Int)*((c:Int)+1)+(v:Int)*(v:Int)))/\w=w':=by
 have h1:=Fs (a:=(v:Int)) (b:=(c:Int)+1) (m:=16384) (k:=16385) (by omega) (by omega)
 have h2:=Fs (a:=(v:Int)) (b:=(v:Int)) (m:=16384) (k:=16384) (by omega) (by omega)
 refine A9 (args:=[.int .i64 (v:Int),.int .i64 (c:Int)]) Aa Tryz.func15 rfl Tryz.ntmps15 rfl ?_;conv=>whnf
 (repeat' (first|refine Cg rfl rfl ?_|(first|refine Af rfl rfl rfl rfl rfl rfl (by omega) (by omega) (Ab Aa ?_)|refine U0 rfl rfl rfl rfl rfl rfl (by omega) (by omega) (Ab Aa ?_)|fail)<;>conv=>whnf))
 exact ⟨rfl,rfl⟩
structure XM (base g:Nat)(w:World)(vs:List Value)(M:List (List Int)):Prop where
 blk:w.heap[g]?=some (.cells vs.toArray 27 (0,0))
 len:vs.length=M.length
 row:∀ i,i<M.length->GInts base w vs[i]! M[i]! /\ vs[i]!.ownBlock≠some g
section
variable {base g:Nat}{w w1 w2:World}{vs:List Value}{M:List (List Int)}
theorem XM.up (h:XM base g w vs M)(hb:Below w.heap.size w w1):XM base g w1 vs M:=⟨Ac hb h.blk,h.len,fun i hi=>⟨(h.row i hi).1.below hb,(h.row i hi).2⟩⟩
theorem XM.set (h:XM base g w vs M){i:Nat}(hi:i<M.length){v':Value}{ys:List Int}(hv:GInts base w v' ys)(hne:v'.ownBlock≠some g)(hp:Put w w1 g (vs.set i v') 27):XM base g w1 (vs.set i v') (M.set i ys):=by
 refine ⟨hp.blk,by simp [h.len],fun j hj=>?_⟩
 have hj':j<M.length:=by simpa using hj
 rw [Ek _ _ _ _ (by rw [h.len];exact hj'),Ek _ _ _ _ hj']
 by_cases e:i=j
 ·rw [if_pos e,if_pos e]
  exact ⟨hv.other hp.grown (by simp) (fun k hk e2=>hne (by rw [<- e2];exact hk)),hne⟩
 ·rw [if_neg e,if_neg e]
  exact ⟨(h.row j hj').1.other hp.grown (by simp) (fun k hk e2=>(h.row j hj').2 (by rw [<- e2];exact hk)),(h.row j hj').2⟩
theorem XM.init {n:Nat}(hb:w.heap[g]?=some (.cells (List.replicate n [Value.slice none 0 0]).flatten.toArray 27 (0,0))):XM base g w (List.replicate n (.slice none 0 0)) (List.replicate n []):=by
 have e:(List.replicate n [Value.slice none 0 0]).flatten=List.replicate n (.slice none 0 0):=by simp
 rw [e] at hb
 refine ⟨hb,by simp,fun i hi=>?_⟩
 have hi':i<n:=by simpa using hi
 rw [getElem!_pos _ i (by simpa using hi'),getElem!_pos _ i hi]
 simp only [List.getElem_replicate]
 exact ⟨GRow.nil ..,by simp [Value.ownBlock]⟩
theorem XM.rows (h:XM base g w vs M)(hm:M.length<=9223372036854775807):RRows w (some ⟨g,0,none⟩) M:=by
 refine Fq h.blk ⟨by rw [h.len];simp,fun i hi=>?_⟩ hm
 obtain ⟨A,c,e1,e2,e3⟩:=(h.row i hi).1.row
 have hi':i<vs.length:=by rw [h.len];exact hi
 have e:(vs.drop (i*1)).take 1=[vs[i]!]:=by
  rw [Nat.mul_one,List.drop_eq_getElem_cons hi',getElem!_pos vs i hi']
  rfl
 rw [e,e1]
 exact ⟨A,c,rfl,e2,e3⟩
end
def Hm (ps:List (List Int))(n:Int):List Int:=if 0<=n/\n<ps.length then ps[n.toNat]! else []
def Ms (ps:List (List Int))(wh:List Int)(i:Nat):List (List Int):=((wh.take i).map (Hm ps))++List.replicate (wh.length - i) []
theorem Oy (ps:List (List Int))(wh:List Int){i:Nat}(h:i<=wh.length):(Ms ps wh i).length=wh.length:=by simp [Ms];omega
theorem Qv (ps:List (List Int))(wh:List Int){i:Nat}(h:i<wh.length):(Ms ps wh i).set i (Hm ps wh[i]!)=Ms ps wh (i+1):=by
 unfold Ms
 have h1:((wh.take i).map (Hm ps)).length=i:=by simp;omega
 have h2:List.replicate (wh.length - i) ([]:List Int)=[]::List.replicate (wh.length - (i+1)) []:=by
  rw [show wh.length - i=(wh.length - (i+1))+1 by omega,List.replicate_succ]
 rw [h2,List.set_append_right _ _ (by omega),h1,Nat.sub_self,List.set_cons_zero,Mv h,List.map_append]
 simp
theorem Xn (ps:List (List Int))(wh:List Int){i:Nat}(h:i<wh.length)(he:Hm ps wh[i]! = []):Ms ps wh i=Ms ps wh (i+1):=by
 rw [<- Qv ps wh h,he]
 unfold Ms
 have h1:((wh.take i).map (Hm ps)).length=i:=by simp;omega
 have h2:List.replicate (wh.length - i) ([]:List Int)=[]::List.replicate (wh.length - (i+1)) []:=by
  rw [show wh.length - i=(wh.length - (i+1))+1 by omega,List.replicate_succ]
 rw [h2,List.set_append_right _ _ (by omega),h1,Nat.sub_self,List.set_cons_zero]
theorem Sp (ps:List (List Int))(wh:List Int)(A B:Option Addr)(c d:Nat)(w:World)(h1:RRows w A ps)(h2:RI w B wh)(hl1:ps.length<=1048576)(hl2:wh.length<=1048576)(hlr:∀ i,i<ps.length->ps[i]!.length<=17592186044416) :
  Calls Tryz.prog 96 #[.slice A ps.length c,.slice B wh.length d] w fun e w'=>∃ g,e=.returned (.slice (some ⟨g,0,none⟩) wh.length wh.length)/\RRows w' (some ⟨g,0,none⟩) (wh.map (Hm ps))/\(w.heap.size<=g/\∃ vs,XM w.heap.size g w' vs (wh.map (Hm ps)))/\Below w.heap.size w w':=by
 refine A9 (args:=[.slice A ps.length c,.slice B wh.length d]) Aa Tryz.func96 rfl Tryz.ntmps96 rfl ?_;conv=>whnf
 skip
 refine Lb (m:=wh.length) Aa 27 1 24 rfl rfl rfl rfl rfl rfl rfl rfl rfl (by omega) (by omega) ?_
 intro g w1 hn1
 have hB1:=hn1.below
 have hgs:w.heap.size<=g:=by have:=hn1.at_;omega
 have hX:XM w.heap.size g w1 (List.replicate wh.length (.slice none 0 0)) (Ms ps wh 0):=by
  have:=XM.init (base:=w.heap.size) (g:=g) (w:=w1) (n:=wh.length) hn1.blk
  simpa [Ms] using this
 clear hn1
 refine Ab Aa ?_
 conv=>whnf
 skip
 refine Am Aa (X:=Nat×List Value) (fun x=>[(0,.slice A ps.length c),(5,.slice (some ⟨g,0,none⟩) wh.length wh.length),(11,.slice B wh.length d),(12,.int .i64 wh.length),(13,.int .i64 x.1)])
  (fun x wr=>x.1<=wh.length/\XM w.heap.size g wr x.2 (Ms ps wh x.1)/\Below w.heap.size w wr) (fun x=>wh.length - x.1) (0,List.replicate wh.length (.slice none 0 0)) ⟨rfl,rfl,rfl,rfl,rfl,trivial⟩ ⟨by simp,hX,hB1⟩ ?_
 rintro ⟨i,vs⟩ G wr ⟨hi,hXr,hB⟩
 simp only at hi hXr hB
 conv=>whnf
 by_cases hil:i<wh.length
 ·obtain ⟨n,ad,hn,rfl,f0,hnr⟩:=Dy (h2.up (Bj _) hB) i hil
  by_cases hin:0<=n/\n<ps.length
  ·obtain ⟨v,rfl⟩:∃ v:Nat,n=v:=⟨n.toNat,by omega⟩
   have hv:v<ps.length:=by omega
   obtain ⟨x,adP,D,dc,hx,rfl,f1,hdc,hxr⟩:=Iq (h1.up Bz hB) v hv
   have hxl:=hlr v hv
   rw [hx.out] at hxl
   (repeat' ((first|refine Az Aa rfl rfl rfl rfl rfl rfl f0 (Ab Aa ?_)|refine Az Aa rfl rfl rfl rfl rfl rfl f1 (Ab Aa ?_)|refine Al Aa 3 1 rfl rfl rfl rfl rfl rfl rfl (by omega) (Ab Aa ?_)|refine Al Aa 27 1 rfl rfl rfl rfl rfl rfl rfl (by omega) (Ab Aa ?_)|(refine Ag (by first|assumption|omega) ?_)|fail)<;>conv=>whnf))
   refine Q0 Aa 3 1 8 (base:=wr.heap.size) (F6 ..) hxr.out (Afz _) rfl rfl rfl rfl rfl rfl rfl rfl rfl rfl rfl (by omega) (by omega) (Nat.le_refl _) ?_
   intro A5 c5 w5 news hel hown hg5 hob
   rw [Nat.zero_add,List.nil_append] at hown
   rw [Nat.zero_add]
   have hB5:Below wr.heap.size wr w5:=Jd hg5
   have hGI:GInts w.heap.size w5 (.slice A5 x.length c5) x:=by
    have:GInts wr.heap.size w5 (.slice A5 x.length c5) x:=⟨⟨news,hown,fun w' _=>⟨hel.1,fun j hj=>hel.2 j hj⟩⟩,by simp,by simp⟩
    exact this.lower hB.size
   have hgl:=Ae hXr.blk
   have hne:(Value.slice A5 x.length c5).ownBlock≠some g:=fun e=>by have:=(hown.lt g e).1;omega
   have hX5:=hXr.up hB5
   refine Ab Aa ?_
   conv=>whnf
   (repeat' ((first|refine Al Aa 27 1 rfl rfl rfl rfl rfl rfl rfl (by omega) (Ab Aa ?_)|fail)<;>conv=>whnf))
   have hlv:vs.length=wh.length:=by rw [hXr.len,Oy ps wh (by omega)]
   refine Dt (v:=.slice A5 x.length c5) Aa hX5.blk rfl rfl rfl rfl rfl rfl (by omega) rfl rfl ?_
   intro w6 hp6
   refine Ab Aa ?_
   conv=>whnf
   (repeat' ((first|refine Af rfl rfl rfl rfl rfl rfl (by omega) (by omega) (Ab Aa ?_)|fail)<;>conv=>whnf))
   rw [Nat.mul_one] at hp6
   have hX6:=hX5.set (i:=i) (by rw [Oy ps wh (by omega)];exact hil) hGI hne hp6
   have he:Hm ps wh[i]! = x:=by rw [hn.out];unfold Hm;rw [if_pos hin,Int.toNat_natCast,hx.out]
   rw [<- he,Qv ps wh hil] at hX6
   exact ⟨(i+1,_),⟨rfl,rfl,rfl,rfl,rfl,trivial⟩,⟨by simp only;omega,hX6,hp6.below (Ax hB hB5) hgs (by have:=hB.size;have:=hB5.size;omega)⟩,by simp only;omega⟩
  ·have he:Hm ps wh[i]! = []:=by rw [hn.out];unfold Hm;rw [if_neg hin]
   rw [Xn ps wh hil he] at hXr
   by_cases h0:0<=n
   ·have hnn:¬ n<ps.length:=by omega
    (repeat' ((first|refine Az Aa rfl rfl rfl rfl rfl rfl f0 (Ab Aa ?_)|refine Al Aa 3 1 rfl rfl rfl rfl rfl rfl rfl (by omega) (Ab Aa ?_)|refine Af rfl rfl rfl rfl rfl rfl (by omega) (by omega) (Ab Aa ?_)|refine Ag (by first|assumption|omega) ?_|refine Ah (by first|assumption|omega) ?_|fail)<;>conv=>whnf))
    exact ⟨(i+1,vs),⟨rfl,rfl,rfl,rfl,rfl,trivial⟩,⟨by simp only;omega,hXr,hB⟩,by simp only;omega⟩
   ·(repeat' ((first|refine Az Aa rfl rfl rfl rfl rfl rfl f0 (Ab Aa ?_)|refine Al Aa 3 1 rfl rfl rfl rfl rfl rfl rfl (by omega) (Ab Aa ?_)|refine Af rfl rfl rfl rfl rfl rfl (by omega) (by omega) (Ab Aa ?_)|refine Ag (by first|assumption|omega) ?_|refine Ah (by first|assumption|omega) ?_|fail)<;>conv=>whnf))
    exact ⟨(i+1,vs),⟨rfl,rfl,rfl,rfl,rfl,trivial⟩,⟨by simp only;omega,hXr,hB⟩,by simp only;omega⟩
 ·have hiw:i=wh.length:=by omega
  subst hiw
  (repeat' (first|refine Cg rfl rfl ?_|(first|(refine Ah (by first|assumption|omega) ?_)|fail)<;>conv=>whnf))
  have hr:=hXr.rows (by rw [Oy ps wh (by omega)];omega)
  have e:Ms ps wh wh.length=wh.map (Hm ps):=by simp [Ms]
  rw [e] at hr hXr
  exact ⟨g,rfl,hr,⟨hgs,vs,hXr⟩,hB⟩
end Go.Proofs.YtghmdfegfehhkaaGreatDoor
namespace Go.Proofs.YtghmdfegfehhkaaGreatDoor
open Classical in
noncomputable def N5 (n c:Nat)(P:Nat->Nat->Prop):Mat:=(List.range n).map fun v=>(List.range c).map fun o=>decide (P v o)
theorem mg_mk {n c:Nat}{P:Nat->Nat->Prop}{v o:Nat}:mg (N5 n c P) v o=true↔v<n/\o<c/\P v o:=by
 unfold mg N5
 by_cases hv:v<n
 ·rw [getElem!_pos _ v (by simpa using hv)]
  simp only [List.getElem_map,List.getElem_range]
  by_cases ho:o<c
  ·rw [getElem!_pos _ o (by simpa using ho)]
   simp [hv,ho]
  ·rw [getElem!_neg _ o (by simpa using ho)]
   simp [ho]
 ·rw [getElem!_neg _ v (by simpa using hv)]
  constructor
  ·intro h
   rw [getElem!_neg _ o (by simp [show (default:List Bool)=[] from rfl])] at h
   cases h
  ·exact fun h=>absurd h.1 hv
section
variable {n:Nat}{xs:List Cell}{ys:List Con}{M:Mat}
theorem closed_con {v:Int}{N:Mat}:Do ⟨v,xs,ys⟩ N↔∀ c∈ys,Ao4 xs c N:=by
 constructor
 ·intro h c hc
  obtain ⟨i,hi,e⟩:=List.getElem_of_mem hc
  have:=h i hi
  have e2:(⟨v,xs,ys⟩:Sys).cons[i]! = c:=by show ys[i]! = c;rw [getElem!_pos ys i hi];exact e
  rwa [e2] at this
 ·intro h i hi
  have hi:i<ys.length:=hi
  exact h _ (by show ys[i]! ∈ ys;rw [getElem!_pos ys i hi];exact List.getElem_mem hi)
theorem Wt (h:IsLeast ⟨(n:Int),xs,ys⟩ M){v o:Nat}(hm:mg M v o=true):v<n/\o<xs.length:=by
 have hs:Shape n xs.length M:=by simpa using h.sh
 apply Classical.byContradiction
 intro hn
 rw [Ka hs hn] at hm
 cases hm
def Ld (xs:List Cell)(M:Mat)(b o:Nat):Prop:=∃ p,p<xs.length/\mg M b p=true/\(xs[p]!).fn=false/\mg M (xs[p]!).v.toNat o=true
def Ae2 (n:Nat)(xs:List Cell)(ys:List Con)(M:Mat)(v o:Nat):Prop:=
 (Src n xs.length ⟨n,xs,ys⟩ v o/\o<xs.length)\/(∃ u,u<n/\Src n xs.length ⟨n,xs,ys⟩ v (xs.length+u)/\mg M u o=true)\/∃ b,b<n/\Src n xs.length ⟨n,xs,ys⟩ v (xs.length+n+b)/\Ld xs M b o
theorem Ez {v:Nat}{x:Cell}(hx:x∈xs)(h:x.v=(v:Int)\/(v:Int)∈x.args):Fd ⟨(n:Int),xs,ys⟩ v=true:=by
 unfold Fd
 rw [Bool.or_eq_true]
 left
 rw [List.any_eq_true]
 refine ⟨x,hx,?_⟩
 unfold Jy
 rw [Bool.or_eq_true]
 rcases h with h|h
 ·exact .inl (decide_eq_true h)
 ·right
  rw [List.any_eq_true]
  exact ⟨_,h,decide_eq_true rfl⟩
theorem Xo {v:Nat}{c:Con}(hc:c∈ys)(hk:c.k=5)(ha:c.a=(v:Int)):Fd ⟨(n:Int),xs,ys⟩ v=true:=by
 unfold Fd
 rw [Bool.or_eq_true]
 right
 rw [List.any_eq_true]
 exact ⟨c,hc,by simp [Li,hk,ha]⟩
theorem E7 {p:Nat}(hp:p<xs.length):xs[p]! ∈ xs:=by rw [getElem!_pos xs p hp];exact List.getElem_mem hp
theorem Hn {l:List Int}{k:Nat}(hk:k<l.length):l[k]! ∈ l:=by rw [getElem!_pos l k hk];exact List.getElem_mem hk
theorem Zv (hr:Ba ⟨n,xs,ys⟩=true){a b:Nat}(r:Rch (CpE ⟨(n:Int),xs,ys⟩) a b):a<n->b<n:=by
 induction r with
 |refl a=>exact id
 |step e _ ih=>
  intro _
  obtain ⟨c,hcm,k2,h3,h4⟩:=e
  have:=((D4 hr) c hcm).2.2.1.2.2 (by omega)
  exact ih (by omega)
theorem Aaq (hr:Ba ⟨n,xs,ys⟩=true)(h:IsLeast ⟨(n:Int),xs,ys⟩ M){v o:Nat}(hv:v<n)(hw:Ae2 n xs ys M v o):mg M v o=true:=by
 have hc:=closed_con.1 h.closed
 have hP:=D4 hr
 have up:∀ a b,Rch (CpE ⟨(n:Int),xs,ys⟩) a b->∀ o,mg M b o=true->mg M a o=true:=fun a b r=>by
  induction r with
  |refl a=>exact fun o h=>h
  |step e _ ih=>
   obtain ⟨c,hcm,k2,h3,h4⟩:=e
   intro o ho
   have:=(hc c hcm).2.1 k2 (by omega) (by omega) o (by rw [h4,Int.toNat_natCast];exact ih o ho)
   rwa [h3,Int.toNat_natCast] at this
 have seed:∀ u j,u<n->Aj1 n xs.length ⟨(n:Int),xs,ys⟩ u j->(∀ o,o<xs.length->j=o->mg M u o=true)/\(∀ q,q<n->j=xs.length+q->∀ o,mg M q o=true->mg M u o=true)/\∀ b,b<n->j=xs.length+n+b->∀ o,Ld xs M b o->mg M u o=true:=fun u j hul hs=>by
  rcases hs with ⟨c,hcm,h3,⟨k1,h4⟩|⟨k3,h4⟩⟩|⟨h3,_⟩
  ·have hb:=(hP c hcm).2.2.1.2.1 k1
   refine ⟨fun o ho e=>?_,fun q hq e=>by omega,fun b hb e=>by omega⟩
   have:=(hc c hcm).1 k1
   rw [h3,h4,Int.toNat_natCast,Int.toNat_natCast,e] at this
   exact this
  ·have hb:=(hP c hcm).2.2.1.2.2 (by omega)
   have hb0:=(hP c hcm).2.2.1.1
   refine ⟨fun o ho e=>by omega,fun q hq e=>by omega,fun b hbn e o hl=>?_⟩
   obtain ⟨p,hp,h5,h6,h7⟩:=hl
   have hsrc:Cs c=b:=by unfold Cs;rw [if_neg (by omega)];omega
   have:=((hc c hcm).2.2 (by omega) (by omega) p hp (by rw [hsrc];exact h5)).1 k3 h6 (by omega) (Ea hr _ (E7 hp)).1.1 o h7
   rwa [h3,Int.toNat_natCast] at this
  ·refine ⟨fun o ho e=>by omega,fun q hq e o hm=>?_,fun b hbn e=>?_⟩
   ·rw [show u=q by omega];exact hm
   ·omega
 rcases hw with ⟨⟨u,h1,h2⟩,h3⟩|⟨q,hq,⟨u,h1,h2⟩,h3⟩|⟨b,hb,⟨u,h1,h2⟩,h3⟩
 ·exact up v u h1 o ((seed u o (Zv hr h1 hv) h2).1 o h3 rfl)
 ·exact up v u h1 o ((seed u _ (Zv hr h1 hv) h2).2.1 q hq rfl o h3)
 ·exact up v u h1 o ((seed u _ (Zv hr h1 hv) h2).2.2 b hb rfl o h3)
theorem Ae1 (hr:Ba ⟨n,xs,ys⟩=true)(h:IsLeast ⟨(n:Int),xs,ys⟩ M){v o:Nat}(hm:mg M v o=true):Ae2 n xs ys M v o:=by
 have hc:=closed_con.1 h.closed
 have hP:=D4 hr
 have hX:=Ea hr
 have down:∀ v o,mg (N5 n xs.length (Ae2 n xs ys M)) v o=true->mg M v o=true:=fun v o hw=>by
  obtain ⟨h1,h2,h3⟩:=mg_mk.1 hw
  exact Aaq hr h h1 h3
 have mk:∀ (t:Int) (o:Nat),0<=t->t<(n:Int)->mg M t.toNat o=true->(∀ u:Nat,t=(u:Int)->Fd ⟨(n:Int),xs,ys⟩ u=true)->mg (N5 n xs.length (Ae2 n xs ys M)) t.toNat o=true:=fun t o h0 h1 h2 h3=>
  mg_mk.2 ⟨by omega,(Wt h h2).2,.inr (.inl ⟨t.toNat,by omega,.seed (.inr ⟨rfl,h3 _ (by omega)⟩),h2⟩)⟩
 have hcl:Do ⟨(n:Int),xs,ys⟩ (N5 n xs.length (Ae2 n xs ys M)):=closed_con.2 fun c hcm=>by
  obtain ⟨hk,ha,hb,hl,hargs,h5⟩:=hP c hcm
  refine ⟨fun k1=>?_,fun k2=>?_,fun k1 k2 p hp hs=>?_⟩
  ·have h5:=(h5 (by omega)).1
   have hb2:=hb.2.1 k1
   refine mg_mk.2 ⟨by omega,by omega,.inl ⟨.seed (.inl ⟨c,hcm,by omega,.inl ⟨k1,by omega⟩⟩),by omega⟩⟩
  ·intro h1 h2 o ho
   have hb2:=hb.2.2 (by omega)
   obtain ⟨q1,q2,q3⟩:=mg_mk.1 ho
   have hcp:CpE ⟨(n:Int),xs,ys⟩ c.a.toNat c.b.toNat:=⟨c,hcm,k2,by omega,by omega⟩
   refine mg_mk.2 ⟨by omega,q2,?_⟩
   rcases q3 with ⟨q3,q4⟩|⟨u,q3,q4,q5⟩|⟨u,q3,q4,q5⟩
   ·exact .inl ⟨.copy hcp q3,q4⟩
   ·exact .inr (.inl ⟨u,q3,.copy hcp q4,q5⟩)
   ·exact .inr (.inr ⟨u,q3,.copy hcp q4,q5⟩)
  ·have hb2:=hb.2.2 k1
   have hxv:=(hX _ (E7 hp)).1
   have hsM:=down _ _ hs
   have hrule:=(hc c hcm).2.2 k1 k2 p hp hsM
   refine ⟨fun k3 hfn h1 h2 o ho=>?_,fun k4 hfn h1 h2 o ho=>?_,fun k5 hfn=>⟨fun h1 h2 o ho=>?_,fun k hk1 hk2 h1 h2 o ho=>?_⟩⟩
   ·have hsrc:Cs c=c.b.toNat:=by unfold Cs;rw [if_neg (by omega)]
    rw [hsrc] at hsM
    have hoM:=down _ _ ho
    refine mg_mk.2 ⟨by omega,(Wt h hoM).2,.inr (.inr ⟨c.b.toNat,by omega,.seed (.inl ⟨c,hcm,by omega,.inr ⟨k3,by omega⟩⟩),p,hp,hsM,hfn,hoM⟩)⟩
   ·exact mk _ _ h1 hxv.2 (hrule.2.1 k4 hfn h1 h2 o (down _ _ ho)) fun u e=>Ez (E7 hp) (.inl e)
   ·exact mk _ _ h1 ha.2 ((hrule.2.2 k5 hfn).1 h1 h2 o (down _ _ ho)) fun u e=>Xo hcm k5 e
   ·have har:=(hX _ (E7 hp)).2.2 _ (Hn hk1)
    exact mk _ _ h1 har.2 ((hrule.2.2 k5 hfn).2 k hk1 hk2 h1 h2 o (down _ _ ho)) fun u e=>Ez (E7 hp) (.inr (e▸Hn hk1))
 exact (mg_mk.1 (h.least _ hcl v o hm)).2.2
theorem Aey (hr:Ba ⟨n,xs,ys⟩=true)(h:IsLeast ⟨(n:Int),xs,ys⟩ M){v u:Nat}(hv:v<n)(hu:u<n)(e:SrcE n xs.length ⟨n,xs,ys⟩ v u)(o:Nat):mg M v o=true↔mg M u o=true:=by
 have half:∀ a b,b<n->SrcE n xs.length ⟨n,xs,ys⟩ a b->mg M a o=true->mg M b o=true:=fun a b hb e hm=>by
  refine Aaq hr h hb ?_
  rcases Ae1 hr h hm with ⟨q3,q4⟩|⟨u,q3,q4,q5⟩|⟨u,q3,q4,q5⟩
  ·exact .inl ⟨(e _).1 q3,q4⟩
  ·exact .inr (.inl ⟨u,q3,(e _).1 q4,q5⟩)
  ·exact .inr (.inr ⟨u,q3,(e _).1 q4,q5⟩)
 exact ⟨half v u hu e,half u v hv fun j=>(e j).symm⟩
theorem Ag6 (hr:Ba ⟨n,xs,ys⟩=true)(h:IsLeast ⟨(n:Int),xs,ys⟩ M){v:Nat}(e:SrcZ n xs.length ⟨n,xs,ys⟩ v)(o:Nat):¬ mg M v o=true:=fun hm=>by
 rcases Ae1 hr h hm with ⟨q3,_⟩|⟨u,_,q4,_⟩|⟨u,_,q4,_⟩
 ·exact e _ q3
 ·exact e _ q4
 ·exact e _ q4
end
end Go.Proofs.YtghmdfegfehhkaaGreatDoor
