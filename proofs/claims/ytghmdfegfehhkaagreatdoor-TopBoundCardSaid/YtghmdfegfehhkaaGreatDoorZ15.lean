/- Several texts of one claim in one file, made short: M12 A3 C12. -/
import Derived.Test.YtghmdfegfehhkaaGreatDoorZ14
import Derived.Test.YtghmdfegfehhkaaGreatDoorZ3
import Derived.Test.YtghmdfegfehhkaaGreatDoorZ4
set_option maxRecDepth 100000
set_option maxHeartbeats 64000000
set_option linter.unusedVariables false
set_option linter.unusedSimpArgs false
namespace Go.Proofs.YtghmdfegfehhkaaGreatDoor
open Go.RowKit
structure Made (base:Nat)(w:World)(s:Sys)(va vb:Value)(bs cs:List Nat):Prop where
 cells:GRow 3 I5 99 base w va s.cells bs
 cons:GRow 4 Rr 77 base w vb s.cons cs
 ab:∀ k,va.ownBlock=some k->vb.ownBlock≠some k/\k∉cs
 ba:∀ k,vb.ownBlock=some k->k∉bs
 bc:∀ k∈bs,k∉cs
 vars:1<=s.vars/\s.vars<=12
 ncells:s.cells.length<=7
 ncons:s.cons.length<=40
 gcells:∀ k,k<s.cells.length->Ee s.vars s.cells[k]! = true
 gcons:∀ k,k<s.cons.length->B4 s.vars s.cells.length s.cons[k]! = true
theorem Made.right {base:Nat}{w:World}{s:Sys}{va vb:Value}{bs cs:List Nat}(h:Made base w s va vb bs cs):Ba s=true:=
 Qh (by have:=h.vars;omega) (by have:=h.vars;omega) (by have:=h.ncells;omega) (by have:=h.ncons;omega) h.gcells h.gcons
structure M1 (w0 w:World)(B g1 g2 g3:Nat)(c1:List Value)(V:Int)(i:Nat)(va vb:Value)(xs:List Cell)(bs:List Nat):Prop where
 below:Below w0.heap.size w0 w
 b1:w.heap[g1]?=some (.cells c1.toArray 49 (0,0))
 b2:w.heap[g2]?=some (.cells #[.int .i64 0,.slice none 0 0,.slice none 0 0] 35 (0,0))
 b3:w.heap[g3]?=some (.cells #[.int .i64 V,va,vb] 35 (0,0))
 row:GRow 3 I5 99 B w va xs bs
 len:xs.length=i
 good:∀ k,k<xs.length->Ee V xs[k]! = true
 size:B<=w.heap.size
structure M2 (w6 w:World)(B6 g6:Nat)(fn:Bool)(v:Int)(V:Int)(k:Nat)(vs:Value)(ys:List Int):Prop where
 grown:w6.grownBy w (some g6)
 blk:w.heap[g6]?=some (.cells #[.bool fn,.int .i64 v,vs] 99 (0,0))
 row:GInts B6 w vs ys
 len:ys.length=k
 good:∀ y∈ys,0<=y/\y<V
 nil:fn=true\/k=0
theorem Ao {w w1 w2:World}{row row':Option Nat}(h:w.grownBy w1 row)(h':w1.grownBy w2 row')(hb:∀ k,row'=some k->w.heap.size<=k\/row=some k):w.grownBy w2 row:=
 ⟨h'.os.trans h.os,h'.tape.trans h.tape,h'.output.trans h.output,Nat.le_trans h.size h'.size,fun k hk hne=>
  (h'.block k (Nat.lt_of_lt_of_le hk h.size) (fun e=>(hb k e.symm).elim (fun h1=>absurd hk (by omega)) (fun h1=>hne h1.symm))).trans (h.block k hk hne)⟩
theorem Dc {α:Type}[Inhabited α]{p:α->Bool}{xs:List α}{x:α}(h:∀ k,k<xs.length->p xs[k]! = true)(hx:p x=true):∀ k,k<(xs++[x]).length->p (xs++[x])[k]! = true:=by
 intro k hk
 have hm:=Cz hk
 rcases List.mem_append.1 hm with hm|hm
 ·obtain ⟨j,hj,e⟩:=List.getElem_of_mem hm
  rw [<- e,<- getElem!_pos xs j hj]
  exact h j hj
 ·rw [List.mem_singleton.1 hm];exact hx
structure M3 (wB w:World)(B g3:Nat)(V:Int)(N:Nat)(i:Nat)(va vb:Value)(ys:List Con)(cs:List Nat):Prop where
 grown:wB.grownBy w (some g3)
 b3:w.heap[g3]?=some (.cells #[.int .i64 V,va,vb] 35 (0,0))
 row:GRow 4 Rr 77 B w vb ys cs
 len:ys.length<=i
 good:∀ k,k<ys.length->B4 V N ys[k]! = true
structure M4 (w6 w:World)(B6 g6:Nat)(a b:Int)(V:Int)(k:Nat)(vs:Value)(ys:List Int):Prop where
 grown:w6.grownBy w (some g6)
 blk:w.heap[g6]?=some (.cells #[.int .u8 5,.int .i64 a,.int .i64 b,vs] 77 (0,0))
 row:GInts B6 w vs ys
 len:ys.length=k
 good:∀ y∈ys,-1<=y/\y<V
theorem Ajy (dr:Draft)(A:Option Addr)(c:Nat)(w:World)(h:RActs w A dr.acts)(hv:0<=dr.vars/\dr.vars<=255)(hcl:0<=dr.cells/\dr.cells<=255) :
  Calls Tryz.prog 13 #[.agg #[.int .u8 dr.vars,.int .u8 dr.cells,.slice A dr.acts.length c]] w fun e w'=>∃ s va vb bs cs,e=.returned (.agg #[.int .i64 s.vars,va,vb])/\Below w.heap.size w w'/\Made w.heap.size w' s va vb bs cs:=by
 refine A9 (args:=[.agg #[.int .u8 dr.vars,.int .u8 dr.cells,.slice A dr.acts.length c]]) Aa Tryz.func13 rfl Tryz.ntmps13 rfl ?_;conv=>whnf
 refine Ci rfl rfl rfl rfl rfl rfl ?_
 intro g1 w1 hn1
 refine Ab Aa ?_
 conv=>whnf
 refine Bm Aa rfl rfl rfl rfl rfl rfl ?_
 intro g2 w2 hn2
 have hb1:=hn2.old hn1.blk
 refine Ab Aa ?_
 conv=>whnf
 (repeat' ((first|refine Aj Aa hb1 rfl rfl rfl rfl rfl rfl rfl (Ab Aa ?_)|refine Af rfl rfl rfl rfl rfl rfl (by omega) (by omega) (Ab Aa ?_)|refine Im Aa rfl rfl rfl (by simp only [Cj];omega) rfl rfl rfl (Ab Aa ?_)|refine Fv rfl rfl rfl rfl rfl rfl (by omega) (by omega) (fun r hr hr0 hr1 hr2=>Ab Aa ?_)|fail)<;>conv=>whnf))
 refine Bm Aa rfl rfl rfl rfl rfl rfl ?_
 intro g3 w3 hn3
 refine Di Aa hn3.blk rfl rfl rfl rfl rfl (by simp [Value.oneCell']) rfl rfl ?_
 intro w4 hp4
 refine Ab Aa ?_
 conv=>whnf
 have hb14:=hp4.old (hn3.old hb1) (by have:=hn1.at_;have:=hn2.at_;have:=hn1.size;have:=hn2.size;have:=hn3.at_;omega)
 obtain ⟨V,hV⟩:∃ V:Int,V=1+r:=⟨_,rfl⟩
 have hVr:1<=V/\V<=12:=by omega
 (repeat' ((first|refine Aj Aa hb14 rfl rfl rfl rfl rfl rfl rfl (Ab Aa ?_)|refine Im Aa rfl rfl rfl (by simp only [Cj];omega) rfl rfl rfl (Ab Aa ?_)|refine Fv rfl rfl rfl rfl rfl rfl (by omega) (by omega) (fun r hr hr0 hr1 hr2=>Ab Aa ?_)|fail)<;>conv=>whnf))
 have hz1:w.heap.size=g1:=by have:=hn1.at_;omega
 have hz2:g1<g2:=by have:=hn1.at_;have:=hn1.size;have:=hn2.at_;omega
 have hz3:g2<g3:=by have:=hn2.at_;have:=hn2.size;have:=hn3.at_;omega
 have hz4:g3<w4.heap.size:=Ae hp4.blk
 obtain ⟨N,hN⟩:∃ N:Int,N=r:=⟨_,rfl⟩
 have hNr:0<=N/\N<8:=by omega
 have hI:∃ va xs bs,M1 w w4 w4.heap.size g1 g2 g3 [.int .u8 dr.vars,.int .u8 dr.cells,.slice A dr.acts.length c] V 0 va (.slice none 0 0) xs bs:=⟨.slice none 0 0,[],[],
  hp4.below (hn3.up (hn2.up hn1.below)) (by omega) (by have:=hn3.size;have:=hn2.size;have:=hn1.size;omega),hb14,hp4.old (hn3.old hn2.blk) (by omega),by rw [hV];exact hp4.blk,GRow.nil ..,rfl,by simp,Nat.le_refl _⟩
 have hV1:1<=V/\V<=12:=by omega
 refine Am Aa (X:=Nat) (fun i=>[(1,.pointer (some ⟨g1,0,none⟩)),(2,.pointer (some ⟨g2,0,none⟩)),(3,.pointer (some ⟨g3,0,none⟩)),(4,.int .i64 N),(5,.int .i64 i)])
  (fun i wr=>i<=N.toNat/\∃ va xs bs,M1 w wr w4.heap.size g1 g2 g3 [.int .u8 dr.vars,.int .u8 dr.cells,.slice A dr.acts.length c] V i va (.slice none 0 0) xs bs) (fun i=>8 - i) 0 ⟨rfl,rfl,rfl,by rw [hN];rfl,rfl,trivial⟩ ⟨by omega,hI⟩ ?_
 clear hI hp4 hn1 hn2 hn3 hb1 hb14 hV hN hr hr0 hr1 hr2 r
 intro i G wr ⟨hi,va,xs,bs,h1⟩
 conv=>whnf
 have hb1:=h1.b1
 have hb3:=h1.b3
 by_cases hlt:(i:Int)<N
 ·(repeat' ((first|(refine Ag (by first|assumption|omega) ?_)|fail)<;>conv=>whnf))
  refine Gl 19 20 (Be _) Aa mixed (by kernel_rfl) rfl (Below.refl _ _) ?_;conv=>whnf
  (repeat' ((first|refine Bg Aa hb1 rfl rfl rfl rfl rfl rfl rfl (Ad Aa ?_)|refine Bg Aa hb3 rfl rfl rfl rfl rfl rfl rfl (Ad Aa ?_)|refine D7 rfl rfl rfl rfl rfl rfl (by omega) (by omega) (Ad Aa ?_)|refine Kg Aa rfl rfl rfl (by simp only [Cj];omega) rfl rfl rfl (Ad Aa ?_)|refine Kj rfl rfl rfl rfl rfl rfl (by omega) (by omega) (fun r hr hr0 hr1 hr2=>Ad Aa ?_)|refine Ac4 rfl rfl rfl rfl rfl rfl (by omega) (by omega) (by simp only [Cj];omega) (Ad Aa ?_)|refine Ko rfl rfl rfl rfl rfl rfl (by omega) (by omega) (Ad Aa ?_)|fail)<;>conv=>whnf))
  intro W1 _ hW1
  conv=>whnf
  refine La Aa rfl rfl rfl rfl rfl ?_
  intro g6 W2 hn6
  refine ⟨hn6.up hW1,fun W3 hW3 hC3=>?_⟩
  conv=>whnf
  refine Di Aa (Ac hW3 hn6.blk) rfl rfl rfl rfl rfl (by simp [Value.oneCell']) rfl rfl ?_
  intro W4 hp6
  refine Ab Aa ?_
  conv=>whnf
  skip
  have hB4:Below wr.heap.size wr W4:=hp6.below (Ax (hn6.up hW1) hW3) (by have:=hn6.at_;have:=hW1.size;omega) (by have:=hn6.size;have:=hW1.size;have:=hW3.size;omega)
  have hg6:wr.heap.size<=g6:=by have:=hn6.at_;have:=hW1.size;omega
  have hg64:g6<W4.heap.size:=Ae hp6.blk
  have hI2:∃ fn v,(0<=v/\v<V)/\M2 W4 W4 W4.heap.size g6 fn v V 0 (.slice none 0 0) []:=⟨_,_,⟨by assumption,by assumption⟩,Cn _ _,hp6.blk,GRow.nil ..,rfl,by simp,.inr rfl⟩
  obtain ⟨fn,v,hv01,hI2⟩:=hI2
  have hc1:=Ac hB4 hb1
  have hc3:=Ac hB4 hb3
  have hz0:=h1.size
  refine Am Aa (X:=Nat) (fun k=>[(1,.pointer (some ⟨g1,0,none⟩)),(2,.pointer (some ⟨g2,0,none⟩)),(3,.pointer (some ⟨g3,0,none⟩)),(4,.int .i64 N),(5,.int .i64 i),(6,.pointer (some ⟨g6,0,none⟩)),(7,.int .i64 k)])
   (fun k wk=>k<=2/\∃ vs ys,M2 W4 wk W4.heap.size g6 fn v V k vs ys) (fun k=>2 - k) 0 ⟨rfl,rfl,rfl,rfl,rfl,rfl,rfl,trivial⟩ ⟨by omega,_,_,hI2⟩ ?_
  clear hI2 hp6 hn6 hW3 hC3 hW1
  intro k G2 wk ⟨hk2,vs,ys,m2⟩
  conv=>whnf
  have hd1:=(m2.grown.block g1 (by omega) (by simp;omega)).trans hc1
  have hd3:=(m2.grown.block g3 (by omega) (by simp;omega)).trans hc3
  have hd6:=m2.blk
  (repeat' ((first|refine Aj Aa hd3 rfl rfl rfl rfl rfl rfl rfl (Ab Aa ?_)|refine Aj Aa hd6 rfl rfl rfl rfl rfl rfl rfl (Ab Aa ?_)|refine Fv rfl rfl rfl rfl rfl rfl (by omega) (by omega) (fun r hr hr0 hr1 hr2=>Ab Aa ?_)|refine J5 (fun hg=>?_) (fun hg=>?_)|refine Un (fun hg=>?_) (fun hg=>?_)|fail)<;>conv=>whnf))
  ·refine Gl 14 15 (Be _) Aa mixed (by kernel_rfl) rfl (Below.refl _ _) ?_;conv=>whnf
   (repeat' ((first|refine Bg Aa hd1 rfl rfl rfl rfl rfl rfl rfl (Ad Aa ?_)|refine Bg Aa hd3 rfl rfl rfl rfl rfl rfl rfl (Ad Aa ?_)|refine Bg Aa hd6 rfl rfl rfl rfl rfl rfl rfl (Ad Aa ?_)|refine D7 rfl rfl rfl rfl rfl rfl (by omega) (by omega) (Ad Aa ?_)|refine Kg Aa rfl rfl rfl (by simp only [Cj];omega) rfl rfl rfl (Ad Aa ?_)|refine Kj rfl rfl rfl rfl rfl rfl (by omega) (by omega) (fun r hr hr0 hr1 hr2=>Ad Aa ?_)|refine Ac4 rfl rfl rfl rfl rfl rfl (by omega) (by omega) (by simp only [Cj];omega) (Ad Aa ?_)|refine Ko rfl rfl rfl rfl rfl rfl (by omega) (by omega) (Ad Aa ?_)|fail)<;>conv=>whnf))
   intro U1 _ hU1
   conv=>whnf
   refine Gf Aa 3 1 rfl rfl rfl rfl rfl rfl rfl rfl rfl ?_
   intro g7 U2 hn7
   refine ⟨hn7.up hU1,fun U3 hU3 _=>?_⟩
   conv=>whnf
   have hU13:=Ax (hn7.up hU1) hU3
   have hr3:=m2.row.below hU13
   obtain ⟨flat,hfl,hel⟩:=hr3.own
   have hk3:=m2.len
   have hU3s:=hU13.size
   have hks:=m2.grown.size
   refine Cu Aa 3 1 8 hfl (Ac hU3 hn7.blk) rfl rfl rfl rfl rfl rfl rfl rfl rfl rfl rfl rfl (by simp [Value.oneCell']) (by omega) (by omega) (by omega) ?_
   intro A7 cap7 U4 hown hgr hob
   refine Ab Aa ?_
   conv=>whnf
   have hne6:some g6≠vs.ownBlock:=fun e=>by have:=(hr3.olt g6 e.symm).1;omega
   refine Dd (off:=2) Aa ((hgr.block g6 (by omega) hne6).trans (Ac hU13 hd6)) rfl rfl rfl rfl rfl rfl (by simp) rfl rfl ?_
   intro U5 hp7
   refine Ab Aa ?_
   conv=>whnf
   (repeat' ((first|refine Af rfl rfl rfl rfl rfl rfl (by omega) (by omega) (Ab Aa ?_)|fail)<;>conv=>whnf))
   have hnew:=D5 hr3 hel hown hgr hob (y:=_) ⟨by omega,by omega⟩
   refine ⟨k+1,⟨rfl,rfl,rfl,rfl,rfl,rfl,rfl,trivial⟩,⟨by omega,_,_,⟨?_,hp7.blk,hnew.other hp7.grown (by simp) (fun k hk=>by have:=(hnew.olt k hk).1;omega),?_,?_,.inl (by assumption)⟩⟩,by omega⟩
   ·exact Ao (Ao (Ao m2.grown (Ar (row:=none) hU13) nofun) hgr (fun k hk=>.inl (hr3.olt k hk).1)) hp7.grown (fun k hk=>.inr hk)
   ·simp [hk3]
   ·intro y hy
    rcases List.mem_append.1 hy with hy|hy
    ·exact m2.good y hy
    ·have:=List.mem_singleton.1 hy
     omega
  all_goals
   obtain ⟨Av,cv,rfl,hlc,_⟩:=m2.row.row
   have hky:=m2.len
   have hnil:=m2.nil
   have hks:=m2.grown.size
   have hd2:=(m2.grown.block g2 (by omega) (by simp;omega)).trans (Ac hB4 h1.b2)
   have hrow:GRow 3 I5 99 w4.heap.size wk va xs bs:=(h1.row.below hB4).other m2.grown (fun b hb=>by have:=(h1.row.lt b hb).2;omega) (fun k hk=>by have:=(h1.row.olt k hk).2;omega)
   (repeat' ((first|refine C6 Aa hd6 rfl rfl rfl rfl rfl rfl (Ab Aa ?_)|fail)<;>conv=>whnf))
   refine C7 Aa 99 3 rfl rfl rfl rfl rfl rfl rfl rfl rfl rfl ?_
   intro g8 X1 hn8
   refine Ab Aa ?_
   conv=>whnf
   have hrowX:=hrow.below hn8.below
   have hargX:=m2.row.below hn8.below
   obtain ⟨flat,hfl,hel⟩:=hrowX.own
   have hxl:=h1.len
   have hXs:=hn8.size
   refine Cu Aa 99 3 40 hfl hn8.blk rfl rfl rfl rfl rfl rfl rfl rfl rfl rfl rfl rfl (by simp [Value.oneCell']) (by omega) (by omega) (by omega) ?_
   intro A8 cap8 X2 hown hgr hob
   refine Ab Aa ?_
   conv=>whnf
   have hne:∀ g,g<w4.heap.size->some g≠va.ownBlock:=fun g hg e=>by have:=(h1.row.olt g e.symm).1;omega
   refine Dd (off:=1) Aa ((hgr.block g3 (by omega) (hne g3 hz4)).trans (hn8.old hd3)) rfl rfl rfl rfl rfl rfl (by simp) rfl rfl ?_
   intro X3 hp8
   refine Ab Aa ?_
   conv=>whnf
   (repeat' ((first|refine Af rfl rfl rfl rfl rfl rfl (by omega) (by omega) (Ab Aa ?_)|fail)<;>conv=>whnf))
   have hE1:Below w.heap.size w wk:=(Ax h1.below hB4).grown m2.grown (by have:=h1.below.size;have:=hB4.size;omega) (fun k hk=>by cases hk;have:=h1.below.size;omega)
   have hE3:Below w.heap.size w X2:=(hn8.up hE1).grown hgr (by have:=hE1.size;omega) (fun k hk=>by have:=(h1.row.olt k hk).1;omega)
   have hnew:=hrowX.push hel hown hgr hob rfl (bs':=(Value.slice Av ys.length cv).ownBlock.toList) (x:=⟨fn,v,ys⟩) (fun w' hw'=>Tt hargX fn v ⟨by omega,by omega⟩ w' hw')
    (fun b hb=>by have:=hargX.olt b (Bi hb);omega) (fun b hb e=>by have:=hargX.olt b (Bi hb);have:=h1.row.olt b e.symm;have:=hB4.size;omega)
   refine ⟨i+1,⟨rfl,rfl,rfl,rfl,rfl,trivial⟩,⟨by omega,.slice A8 (xs.length+1) cap8,xs++[⟨fn,v,ys⟩],_,⟨hp8.below hE3 (by omega) (by have:=hE3.size;omega),hp8.old ((hgr.block g1 (by omega) (hne g1 (by omega))).trans (hn8.old hd1)) (by omega),hp8.old ((hgr.block g2 (by omega) (hne g2 (by omega))).trans (hn8.old hd2)) (by omega),hp8.blk,hnew.other hp8.grown ?_ ?_,by simp [hxl],Dc h1.good ?_,by have:=hgr.size;have:=hp8.size;omega⟩⟩,by omega⟩
   ·intro b hb
    have:=(hnew.lt b hb).1
    omega
   ·intro k hk
    have:=(hnew.olt k hk).1
    omega
   ·refine Ah1 (by simp [Ff];omega) (by simp;omega) ?_ (fun j hj=>?_)
    ·rcases hnil with h'|h'
     ·exact .inl h'
     ·exact .inr (show ys.length=0 by omega)
    ·have:=m2.good _ (Cz hj)
     show Ff ys[j]! 0 V=true
     simp only [Ff,Bool.and_eq_true,decide_eq_true_eq]
     exact this
 ·have hiN:i=N.toNat:=by omega
  (repeat' ((first|(refine Ah (by first|assumption|omega) ?_)|fail)<;>conv=>whnf))
  have hB:=h1.below
  have hz0:=h1.size
  have hg3:g3<wr.heap.size:=by omega
  have hI3:M3 wr wr wr.heap.size g3 V N.toNat 0 va (.slice none 0 0) [] []:=⟨Cn _ _,hb3,GRow.nil ..,Nat.le_refl _,by simp⟩
  refine Am Aa (X:=Nat) (fun i=>[(1,.pointer (some ⟨g1,0,none⟩)),(2,.pointer (some ⟨g2,0,none⟩)),(3,.pointer (some ⟨g3,0,none⟩)),(4,.int .i64 N),(8,.int .i64 i)])
   (fun i w3=>i<=dr.acts.length/\i<=40/\∃ vb ys cs,M3 wr w3 wr.heap.size g3 V N.toNat i va vb ys cs) (fun i=>40 - i) 0 ⟨rfl,rfl,rfl,rfl,rfl,trivial⟩ ⟨by omega,by omega,_,_,_,hI3⟩ ?_
  clear hI3
  intro j G3 wk ⟨hj1,hj2,vb,ys,cs,m3⟩
  conv=>whnf
  have hc1:=(m3.grown.block g1 (by omega) (by simp;omega)).trans hb1
  have hc3:=m3.b3
  have hBk:Below w.heap.size w wk:=hB.grown m3.grown hB.size (fun k hk=>by cases hk;omega)
  have hc2:=(m3.grown.block g2 (by omega) (by simp;omega)).trans h1.b2
  (repeat' ((first|refine Aj Aa hc1 rfl rfl rfl rfl rfl rfl rfl (Ab Aa ?_)|refine J5 (fun hg=>?_) (fun hg=>?_)|fail)<;>conv=>whnf))
  ·have hjl:j<dr.acts.length:=by omega
   obtain ⟨x,ad,hx,rfl,e0,x1,x2,x3,x4⟩:=Azk (h.up Pv hBk) j hjl
   (repeat' ((first|refine Al Aa 111 4 rfl rfl rfl rfl rfl rfl rfl (by omega) (Ab Aa ?_)|refine E0 Aa e0 rfl rfl rfl rfl rfl rfl (Ab Aa ?_)|fail)<;>conv=>whnf))
   refine Bm Aa rfl rfl rfl rfl rfl rfl ?_
   intro g9 U1 hn9
   refine Di Aa hn9.blk rfl rfl rfl rfl rfl (by simp [Value.oneCell']) rfl rfl ?_
   intro U2 hp9
   refine Ab Aa ?_
   conv=>whnf
   have hU2:Below wk.heap.size wk U2:=hp9.below hn9.below (by have:=hn9.at_;omega) (by have:=hn9.size;omega)
   have hd3:=Ac hU2 hc3
   have hd9:=hp9.blk
   have hg9:wk.heap.size<=g9:=by have:=hn9.at_;omega
   clear hn9 hp9
   (repeat' ((first|refine Aj Aa hd3 rfl rfl rfl rfl rfl rfl rfl (Ab Aa ?_)|refine Aj Aa hd9 rfl rfl rfl rfl rfl rfl rfl (Ab Aa ?_)|refine Af rfl rfl rfl rfl rfl rfl (by omega) (by omega) (Ab Aa ?_)|refine Im Aa rfl rfl rfl (by simp only [Cj];omega) rfl rfl rfl (Ab Aa ?_)|refine Fv rfl rfl rfl rfl rfl rfl (by omega) (by omega) (fun r hr hr0 hr1 hr2=>Ab Aa ?_)|refine Ag (by first|assumption|omega) ?_|refine J5 (fun hg=>?_) (fun hg=>?_)|fail)<;>conv=>whnf))
   ·refine Gl 9 10 (Be _) Aa mixed (by kernel_rfl) rfl (Below.refl _ _) ?_;conv=>whnf
    (repeat' ((first|refine Bg Aa hd3 rfl rfl rfl rfl rfl rfl rfl (Ad Aa ?_)|refine Bg Aa hd9 rfl rfl rfl rfl rfl rfl rfl (Ad Aa ?_)|refine Kg Aa rfl rfl rfl (by simp only [Cj];omega) rfl rfl rfl (Ad Aa ?_)|refine Kj rfl rfl rfl rfl rfl rfl (by omega) (by omega) (fun r hr hr0 hr1 hr2=>Ad Aa ?_)|fail)<;>conv=>whnf))
    intro Y0 _ hY0
    conv=>whnf
    refine Gf Aa 77 4 rfl rfl rfl rfl rfl rfl rfl rfl rfl ?_
    intro g8 Y1' hn8
    refine ⟨hn8.up hY0,fun Y1 hY1' _=>?_⟩
    conv=>whnf
    have hY1:Below wk.heap.size wk Y1:=Ax hU2 (Ax (hn8.up hY0) hY1')
    have hd31:=Ac (Ax (hn8.up hY0) hY1') hd3
    have hrowY:=m3.row.below (hY1)
    have hargY:=(GRow.nil 1 (dI .i64) 3 wr.heap.size Y1)
    obtain ⟨flat,hfl,hel⟩:=hrowY.own
    have hyl:=m3.len
    have hYs:=Below.size (hY1)
    have hws:=m3.grown.size
    refine Cu Aa 77 4 48 hfl (Ac hY1' hn8.blk) rfl rfl rfl rfl rfl rfl rfl rfl rfl rfl rfl rfl (by simp [Value.oneCell']) (by omega) (by omega) (by omega) ?_
    intro A8 cap8 Y2 hown hgr hob
    refine Ab Aa ?_
    conv=>whnf
    have hne3:some g3≠vb.ownBlock:=fun e=>by have:=(m3.row.olt g3 e.symm).1;omega
    refine Dd (off:=2) Aa ((hgr.block g3 (by omega) hne3).trans (hd31)) rfl rfl rfl rfl rfl rfl (by simp) rfl rfl ?_
    intro Y3 hp8
    refine Ab Aa ?_
    conv=>whnf
    (repeat' ((first|refine Af rfl rfl rfl rfl rfl rfl (by omega) (by omega) (Ab Aa ?_)|fail)<;>conv=>whnf))
    have hnew:=hrowY.push hel hown hgr hob rfl (bs':=(Value.slice none 0 0).ownBlock.toList) (x:=⟨_,_,_,_⟩) (fun w' hw'=>Fb hargY _ _ _ ⟨by omega,by omega⟩ ⟨by omega,by omega⟩ ⟨by omega,by omega⟩ w' hw')
     (fun b hb=>by have:=hargY.olt b (Bi hb);omega) (fun b hb=>absurd hb (by simp [Value.ownBlock]))
    refine ⟨j+1,⟨rfl,rfl,rfl,rfl,rfl,trivial⟩,⟨by omega,by omega,.slice A8 (ys.length+1) cap8,_,_,⟨Ao (Ao (Ao m3.grown (Ar (row:=none) (hY1)) nofun) hgr (fun k hk=>.inl (m3.row.olt k hk).1)) hp8.grown (fun k hk=>.inr hk),hp8.blk,hnew.other hp8.grown ?_ ?_,by simp;omega,Dc m3.good (by simp [B4,Ff];omega)⟩⟩,by omega⟩
    ·intro b hb
     have:=(hnew.lt b hb).1
     omega
    ·intro k hk
     have:=(hnew.olt k hk).1
     omega
   ·exact ⟨j+1,⟨rfl,rfl,rfl,rfl,rfl,trivial⟩,⟨by omega,by omega,vb,ys,cs,⟨Ao m3.grown (Ar (row:=none) hU2) nofun,hd3,m3.row.below hU2,by have:=m3.len;omega,m3.good⟩⟩,by omega⟩
   ·refine Gl 9 10 (Be _) Aa mixed (by kernel_rfl) rfl (Below.refl _ _) ?_;conv=>whnf
    (repeat' ((first|refine Bg Aa hd3 rfl rfl rfl rfl rfl rfl rfl (Ad Aa ?_)|refine Bg Aa hd9 rfl rfl rfl rfl rfl rfl rfl (Ad Aa ?_)|refine Kg Aa rfl rfl rfl (by simp only [Cj];omega) rfl rfl rfl (Ad Aa ?_)|refine Kj rfl rfl rfl rfl rfl rfl (by omega) (by omega) (fun r hr hr0 hr1 hr2=>Ad Aa ?_)|fail)<;>conv=>whnf))
    intro Y0 _ hY0
    conv=>whnf
    refine Gf Aa 77 4 rfl rfl rfl rfl rfl rfl rfl rfl rfl ?_
    intro g8 Y1' hn8
    refine ⟨hn8.up hY0,fun Y1 hY1' _=>?_⟩
    conv=>whnf
    have hY1:Below wk.heap.size wk Y1:=Ax hU2 (Ax (hn8.up hY0) hY1')
    have hd31:=Ac (Ax (hn8.up hY0) hY1') hd3
    have hrowY:=m3.row.below (hY1)
    have hargY:=(GRow.nil 1 (dI .i64) 3 wr.heap.size Y1)
    obtain ⟨flat,hfl,hel⟩:=hrowY.own
    have hyl:=m3.len
    have hYs:=Below.size (hY1)
    have hws:=m3.grown.size
    refine Cu Aa 77 4 48 hfl (Ac hY1' hn8.blk) rfl rfl rfl rfl rfl rfl rfl rfl rfl rfl rfl rfl (by simp [Value.oneCell']) (by omega) (by omega) (by omega) ?_
    intro A8 cap8 Y2 hown hgr hob
    refine Ab Aa ?_
    conv=>whnf
    have hne3:some g3≠vb.ownBlock:=fun e=>by have:=(m3.row.olt g3 e.symm).1;omega
    refine Dd (off:=2) Aa ((hgr.block g3 (by omega) hne3).trans (hd31)) rfl rfl rfl rfl rfl rfl (by simp) rfl rfl ?_
    intro Y3 hp8
    refine Ab Aa ?_
    conv=>whnf
    (repeat' ((first|refine Af rfl rfl rfl rfl rfl rfl (by omega) (by omega) (Ab Aa ?_)|fail)<;>conv=>whnf))
    have hnew:=hrowY.push hel hown hgr hob rfl (bs':=(Value.slice none 0 0).ownBlock.toList) (x:=⟨_,_,_,_⟩) (fun w' hw'=>Fb hargY _ _ _ ⟨by omega,by omega⟩ ⟨by omega,by omega⟩ ⟨by omega,by omega⟩ w' hw')
     (fun b hb=>by have:=hargY.olt b (Bi hb);omega) (fun b hb=>absurd hb (by simp [Value.ownBlock]))
    refine ⟨j+1,⟨rfl,rfl,rfl,rfl,rfl,trivial⟩,⟨by omega,by omega,.slice A8 (ys.length+1) cap8,_,_,⟨Ao (Ao (Ao m3.grown (Ar (row:=none) (hY1)) nofun) hgr (fun k hk=>.inl (m3.row.olt k hk).1)) hp8.grown (fun k hk=>.inr hk),hp8.blk,hnew.other hp8.grown ?_ ?_,by simp;omega,Dc m3.good (by simp [B4,Ff];omega)⟩⟩,by omega⟩
    ·intro b hb
     have:=(hnew.lt b hb).1
     omega
    ·intro k hk
     have:=(hnew.olt k hk).1
     omega
   ·exact ⟨j+1,⟨rfl,rfl,rfl,rfl,rfl,trivial⟩,⟨by omega,by omega,vb,ys,cs,⟨Ao m3.grown (Ar (row:=none) hU2) nofun,hd3,m3.row.below hU2,by have:=m3.len;omega,m3.good⟩⟩,by omega⟩
   ·refine Gl 9 10 (Be _) Aa mixed (by kernel_rfl) rfl (Below.refl _ _) ?_;conv=>whnf
    (repeat' ((first|refine Bg Aa hd3 rfl rfl rfl rfl rfl rfl rfl (Ad Aa ?_)|refine Bg Aa hd9 rfl rfl rfl rfl rfl rfl rfl (Ad Aa ?_)|refine Kg Aa rfl rfl rfl (by simp only [Cj];omega) rfl rfl rfl (Ad Aa ?_)|refine Kj rfl rfl rfl rfl rfl rfl (by omega) (by omega) (fun r hr hr0 hr1 hr2=>Ad Aa ?_)|fail)<;>conv=>whnf))
    intro Y0 _ hY0
    conv=>whnf
    refine Gf Aa 77 4 rfl rfl rfl rfl rfl rfl rfl rfl rfl ?_
    intro g8 Y1' hn8
    refine ⟨hn8.up hY0,fun Y1 hY1' _=>?_⟩
    conv=>whnf
    have hY1:Below wk.heap.size wk Y1:=Ax hU2 (Ax (hn8.up hY0) hY1')
    have hd31:=Ac (Ax (hn8.up hY0) hY1') hd3
    have hrowY:=m3.row.below (hY1)
    have hargY:=(GRow.nil 1 (dI .i64) 3 wr.heap.size Y1)
    obtain ⟨flat,hfl,hel⟩:=hrowY.own
    have hyl:=m3.len
    have hYs:=Below.size (hY1)
    have hws:=m3.grown.size
    refine Cu Aa 77 4 48 hfl (Ac hY1' hn8.blk) rfl rfl rfl rfl rfl rfl rfl rfl rfl rfl rfl rfl (by simp [Value.oneCell']) (by omega) (by omega) (by omega) ?_
    intro A8 cap8 Y2 hown hgr hob
    refine Ab Aa ?_
    conv=>whnf
    have hne3:some g3≠vb.ownBlock:=fun e=>by have:=(m3.row.olt g3 e.symm).1;omega
    refine Dd (off:=2) Aa ((hgr.block g3 (by omega) hne3).trans (hd31)) rfl rfl rfl rfl rfl rfl (by simp) rfl rfl ?_
    intro Y3 hp8
    refine Ab Aa ?_
    conv=>whnf
    (repeat' ((first|refine Af rfl rfl rfl rfl rfl rfl (by omega) (by omega) (Ab Aa ?_)|fail)<;>conv=>whnf))
    have hnew:=hrowY.push hel hown hgr hob rfl (bs':=(Value.slice none 0 0).ownBlock.toList) (x:=⟨_,_,_,_⟩) (fun w' hw'=>Fb hargY _ _ _ ⟨by omega,by omega⟩ ⟨by omega,by omega⟩ ⟨by omega,by omega⟩ w' hw')
     (fun b hb=>by have:=hargY.olt b (Bi hb);omega) (fun b hb=>absurd hb (by simp [Value.ownBlock]))
    refine ⟨j+1,⟨rfl,rfl,rfl,rfl,rfl,trivial⟩,⟨by omega,by omega,.slice A8 (ys.length+1) cap8,_,_,⟨Ao (Ao (Ao m3.grown (Ar (row:=none) (hY1)) nofun) hgr (fun k hk=>.inl (m3.row.olt k hk).1)) hp8.grown (fun k hk=>.inr hk),hp8.blk,hnew.other hp8.grown ?_ ?_,by simp;omega,Dc m3.good (by simp [B4,Ff];omega)⟩⟩,by omega⟩
    ·intro b hb
     have:=(hnew.lt b hb).1
     omega
    ·intro k hk
     have:=(hnew.olt k hk).1
     omega
   ·exact ⟨j+1,⟨rfl,rfl,rfl,rfl,rfl,trivial⟩,⟨by omega,by omega,vb,ys,cs,⟨Ao m3.grown (Ar (row:=none) hU2) nofun,hd3,m3.row.below hU2,by have:=m3.len;omega,m3.good⟩⟩,by omega⟩
   ·refine C7 Aa 77 4 rfl rfl rfl rfl rfl rfl rfl rfl rfl rfl ?_
    intro g8 Y1 hn8
    refine Ab Aa ?_
    conv=>whnf
    have hY1:Below wk.heap.size wk Y1:=hn8.up hU2
    have hd31:=hn8.old hd3
    have hrowY:=m3.row.below (hY1)
    have hargY:=(GRow.nil 1 (dI .i64) 3 wr.heap.size Y1)
    obtain ⟨flat,hfl,hel⟩:=hrowY.own
    have hyl:=m3.len
    have hYs:=Below.size (hY1)
    have hws:=m3.grown.size
    refine Cu Aa 77 4 48 hfl (hn8.blk) rfl rfl rfl rfl rfl rfl rfl rfl rfl rfl rfl rfl (by simp [Value.oneCell']) (by omega) (by omega) (by omega) ?_
    intro A8 cap8 Y2 hown hgr hob
    refine Ab Aa ?_
    conv=>whnf
    have hne3:some g3≠vb.ownBlock:=fun e=>by have:=(m3.row.olt g3 e.symm).1;omega
    refine Dd (off:=2) Aa ((hgr.block g3 (by omega) hne3).trans (hd31)) rfl rfl rfl rfl rfl rfl (by simp) rfl rfl ?_
    intro Y3 hp8
    refine Ab Aa ?_
    conv=>whnf
    (repeat' ((first|refine Af rfl rfl rfl rfl rfl rfl (by omega) (by omega) (Ab Aa ?_)|fail)<;>conv=>whnf))
    have hnew:=hrowY.push hel hown hgr hob rfl (bs':=(Value.slice none 0 0).ownBlock.toList) (x:=⟨_,_,_,_⟩) (fun w' hw'=>Fb hargY _ _ _ ⟨by omega,by omega⟩ ⟨by omega,by omega⟩ ⟨by omega,by omega⟩ w' hw')
     (fun b hb=>by have:=hargY.olt b (Bi hb);omega) (fun b hb=>absurd hb (by simp [Value.ownBlock]))
    refine ⟨j+1,⟨rfl,rfl,rfl,rfl,rfl,trivial⟩,⟨by omega,by omega,.slice A8 (ys.length+1) cap8,_,_,⟨Ao (Ao (Ao m3.grown (Ar (row:=none) (hY1)) nofun) hgr (fun k hk=>.inl (m3.row.olt k hk).1)) hp8.grown (fun k hk=>.inr hk),hp8.blk,hnew.other hp8.grown ?_ ?_,by simp;omega,Dc m3.good (by simp [B4,Ff];omega)⟩⟩,by omega⟩
    ·intro b hb
     have:=(hnew.lt b hb).1
     omega
    ·intro k hk
     have:=(hnew.olt k hk).1
     omega
   ·refine C7 Aa 77 4 rfl rfl rfl rfl rfl rfl rfl rfl rfl rfl ?_
    intro g8 Y1 hn8
    refine Ab Aa ?_
    conv=>whnf
    have hY1:Below wk.heap.size wk Y1:=hn8.up hU2
    have hd31:=hn8.old hd3
    have hrowY:=m3.row.below (hY1)
    have hargY:=(GRow.nil 1 (dI .i64) 3 wr.heap.size Y1)
    obtain ⟨flat,hfl,hel⟩:=hrowY.own
    have hyl:=m3.len
    have hYs:=Below.size (hY1)
    have hws:=m3.grown.size
    refine Cu Aa 77 4 48 hfl (hn8.blk) rfl rfl rfl rfl rfl rfl rfl rfl rfl rfl rfl rfl (by simp [Value.oneCell']) (by omega) (by omega) (by omega) ?_
    intro A8 cap8 Y2 hown hgr hob
    refine Ab Aa ?_
    conv=>whnf
    have hne3:some g3≠vb.ownBlock:=fun e=>by have:=(m3.row.olt g3 e.symm).1;omega
    refine Dd (off:=2) Aa ((hgr.block g3 (by omega) hne3).trans (hd31)) rfl rfl rfl rfl rfl rfl (by simp) rfl rfl ?_
    intro Y3 hp8
    refine Ab Aa ?_
    conv=>whnf
    (repeat' ((first|refine Af rfl rfl rfl rfl rfl rfl (by omega) (by omega) (Ab Aa ?_)|fail)<;>conv=>whnf))
    have hnew:=hrowY.push hel hown hgr hob rfl (bs':=(Value.slice none 0 0).ownBlock.toList) (x:=⟨_,_,_,_⟩) (fun w' hw'=>Fb hargY _ _ _ ⟨by omega,by omega⟩ ⟨by omega,by omega⟩ ⟨by omega,by omega⟩ w' hw')
     (fun b hb=>by have:=hargY.olt b (Bi hb);omega) (fun b hb=>absurd hb (by simp [Value.ownBlock]))
    refine ⟨j+1,⟨rfl,rfl,rfl,rfl,rfl,trivial⟩,⟨by omega,by omega,.slice A8 (ys.length+1) cap8,_,_,⟨Ao (Ao (Ao m3.grown (Ar (row:=none) (hY1)) nofun) hgr (fun k hk=>.inl (m3.row.olt k hk).1)) hp8.grown (fun k hk=>.inr hk),hp8.blk,hnew.other hp8.grown ?_ ?_,by simp;omega,Dc m3.good (by simp [B4,Ff];omega)⟩⟩,by omega⟩
    ·intro b hb
     have:=(hnew.lt b hb).1
     omega
    ·intro k hk
     have:=(hnew.olt k hk).1
     omega
   ·refine C7 Aa 77 4 rfl rfl rfl rfl rfl rfl rfl rfl rfl rfl ?_
    intro g8 Y1 hn8
    refine Ab Aa ?_
    conv=>whnf
    have hY1:Below wk.heap.size wk Y1:=hn8.up hU2
    have hd31:=hn8.old hd3
    have hrowY:=m3.row.below (hY1)
    have hargY:=(GRow.nil 1 (dI .i64) 3 wr.heap.size Y1)
    obtain ⟨flat,hfl,hel⟩:=hrowY.own
    have hyl:=m3.len
    have hYs:=Below.size (hY1)
    have hws:=m3.grown.size
    refine Cu Aa 77 4 48 hfl (hn8.blk) rfl rfl rfl rfl rfl rfl rfl rfl rfl rfl rfl rfl (by simp [Value.oneCell']) (by omega) (by omega) (by omega) ?_
    intro A8 cap8 Y2 hown hgr hob
    refine Ab Aa ?_
    conv=>whnf
    have hne3:some g3≠vb.ownBlock:=fun e=>by have:=(m3.row.olt g3 e.symm).1;omega
    refine Dd (off:=2) Aa ((hgr.block g3 (by omega) hne3).trans (hd31)) rfl rfl rfl rfl rfl rfl (by simp) rfl rfl ?_
    intro Y3 hp8
    refine Ab Aa ?_
    conv=>whnf
    (repeat' ((first|refine Af rfl rfl rfl rfl rfl rfl (by omega) (by omega) (Ab Aa ?_)|fail)<;>conv=>whnf))
    have hnew:=hrowY.push hel hown hgr hob rfl (bs':=(Value.slice none 0 0).ownBlock.toList) (x:=⟨_,_,_,_⟩) (fun w' hw'=>Fb hargY _ _ _ ⟨by omega,by omega⟩ ⟨by omega,by omega⟩ ⟨by omega,by omega⟩ w' hw')
     (fun b hb=>by have:=hargY.olt b (Bi hb);omega) (fun b hb=>absurd hb (by simp [Value.ownBlock]))
    refine ⟨j+1,⟨rfl,rfl,rfl,rfl,rfl,trivial⟩,⟨by omega,by omega,.slice A8 (ys.length+1) cap8,_,_,⟨Ao (Ao (Ao m3.grown (Ar (row:=none) (hY1)) nofun) hgr (fun k hk=>.inl (m3.row.olt k hk).1)) hp8.grown (fun k hk=>.inr hk),hp8.blk,hnew.other hp8.grown ?_ ?_,by simp;omega,Dc m3.good (by simp [B4,Ff];omega)⟩⟩,by omega⟩
    ·intro b hb
     have:=(hnew.lt b hb).1
     omega
    ·intro k hk
     have:=(hnew.olt k hk).1
     omega
   ·refine C7 Aa 77 4 rfl rfl rfl rfl rfl rfl rfl rfl rfl rfl ?_
    intro g8 Y1 hn8
    refine Ab Aa ?_
    conv=>whnf
    have hY1:Below wk.heap.size wk Y1:=hn8.up hU2
    have hd31:=hn8.old hd3
    have hrowY:=m3.row.below (hY1)
    have hargY:=(GRow.nil 1 (dI .i64) 3 wr.heap.size Y1)
    obtain ⟨flat,hfl,hel⟩:=hrowY.own
    have hyl:=m3.len
    have hYs:=Below.size (hY1)
    have hws:=m3.grown.size
    refine Cu Aa 77 4 48 hfl (hn8.blk) rfl rfl rfl rfl rfl rfl rfl rfl rfl rfl rfl rfl (by simp [Value.oneCell']) (by omega) (by omega) (by omega) ?_
    intro A8 cap8 Y2 hown hgr hob
    refine Ab Aa ?_
    conv=>whnf
    have hne3:some g3≠vb.ownBlock:=fun e=>by have:=(m3.row.olt g3 e.symm).1;omega
    refine Dd (off:=2) Aa ((hgr.block g3 (by omega) hne3).trans (hd31)) rfl rfl rfl rfl rfl rfl (by simp) rfl rfl ?_
    intro Y3 hp8
    refine Ab Aa ?_
    conv=>whnf
    (repeat' ((first|refine Af rfl rfl rfl rfl rfl rfl (by omega) (by omega) (Ab Aa ?_)|fail)<;>conv=>whnf))
    have hnew:=hrowY.push hel hown hgr hob rfl (bs':=(Value.slice none 0 0).ownBlock.toList) (x:=⟨_,_,_,_⟩) (fun w' hw'=>Fb hargY _ _ _ ⟨by omega,by omega⟩ ⟨by omega,by omega⟩ ⟨by omega,by omega⟩ w' hw')
     (fun b hb=>by have:=hargY.olt b (Bi hb);omega) (fun b hb=>absurd hb (by simp [Value.ownBlock]))
    refine ⟨j+1,⟨rfl,rfl,rfl,rfl,rfl,trivial⟩,⟨by omega,by omega,.slice A8 (ys.length+1) cap8,_,_,⟨Ao (Ao (Ao m3.grown (Ar (row:=none) (hY1)) nofun) hgr (fun k hk=>.inl (m3.row.olt k hk).1)) hp8.grown (fun k hk=>.inr hk),hp8.blk,hnew.other hp8.grown ?_ ?_,by simp;omega,Dc m3.good (by simp [B4,Ff];omega)⟩⟩,by omega⟩
    ·intro b hb
     have:=(hnew.lt b hb).1
     omega
    ·intro k hk
     have:=(hnew.olt k hk).1
     omega
   ·refine C7 Aa 77 4 rfl rfl rfl rfl rfl rfl rfl rfl rfl rfl ?_
    intro g8 Y1 hn8
    refine Ab Aa ?_
    conv=>whnf
    have hY1:Below wk.heap.size wk Y1:=hn8.up hU2
    have hd31:=hn8.old hd3
    have hrowY:=m3.row.below (hY1)
    have hargY:=(GRow.nil 1 (dI .i64) 3 wr.heap.size Y1)
    obtain ⟨flat,hfl,hel⟩:=hrowY.own
    have hyl:=m3.len
    have hYs:=Below.size (hY1)
    have hws:=m3.grown.size
    refine Cu Aa 77 4 48 hfl (hn8.blk) rfl rfl rfl rfl rfl rfl rfl rfl rfl rfl rfl rfl (by simp [Value.oneCell']) (by omega) (by omega) (by omega) ?_
    intro A8 cap8 Y2 hown hgr hob
    refine Ab Aa ?_
    conv=>whnf
    have hne3:some g3≠vb.ownBlock:=fun e=>by have:=(m3.row.olt g3 e.symm).1;omega
    refine Dd (off:=2) Aa ((hgr.block g3 (by omega) hne3).trans (hd31)) rfl rfl rfl rfl rfl rfl (by simp) rfl rfl ?_
    intro Y3 hp8
    refine Ab Aa ?_
    conv=>whnf
    (repeat' ((first|refine Af rfl rfl rfl rfl rfl rfl (by omega) (by omega) (Ab Aa ?_)|fail)<;>conv=>whnf))
    have hnew:=hrowY.push hel hown hgr hob rfl (bs':=(Value.slice none 0 0).ownBlock.toList) (x:=⟨_,_,_,_⟩) (fun w' hw'=>Fb hargY _ _ _ ⟨by omega,by omega⟩ ⟨by omega,by omega⟩ ⟨by omega,by omega⟩ w' hw')
     (fun b hb=>by have:=hargY.olt b (Bi hb);omega) (fun b hb=>absurd hb (by simp [Value.ownBlock]))
    refine ⟨j+1,⟨rfl,rfl,rfl,rfl,rfl,trivial⟩,⟨by omega,by omega,.slice A8 (ys.length+1) cap8,_,_,⟨Ao (Ao (Ao m3.grown (Ar (row:=none) (hY1)) nofun) hgr (fun k hk=>.inl (m3.row.olt k hk).1)) hp8.grown (fun k hk=>.inr hk),hp8.blk,hnew.other hp8.grown ?_ ?_,by simp;omega,Dc m3.good (by simp [B4,Ff];omega)⟩⟩,by omega⟩
    ·intro b hb
     have:=(hnew.lt b hb).1
     omega
    ·intro k hk
     have:=(hnew.olt k hk).1
     omega
   ·rename_i a ha ha0 ha1 ha2 b hb hb0 hb1 hb2 _ _ _ _ _ _ _
    refine Bm Aa rfl rfl rfl rfl rfl rfl ?_
    intro g12 T1 hn12
    refine Di Aa hn12.blk rfl rfl rfl rfl rfl (by simp [Value.oneCell']) rfl rfl ?_
    intro T2 hp12
    refine Ab Aa ?_
    conv=>whnf
    have hT2:Below U2.heap.size U2 T2:=hp12.below hn12.below (by have:=hn12.at_;omega) (by have:=hn12.size;omega)
    have hg12:U2.heap.size<=g12:=by have:=hn12.at_;omega
    have hd32:=Ac hT2 hd3
    have hd92:=Ac hT2 hd9
    have hu2:=hU2.size
    have hwk:=m3.grown.size
    have hg9U:=Ae hd9
    (repeat' ((first|refine Aj Aa hd92 rfl rfl rfl rfl rfl rfl rfl (Ab Aa ?_)|refine Fv rfl rfl rfl rfl rfl rfl (by omega) (by omega) (fun r hr hr0 hr1 hr2=>Ab Aa ?_)|refine J5 (fun hg=>?_) (fun hg=>?_)|fail)<;>conv=>whnf))
    ·refine Dd (off:=1) Aa hp12.blk rfl rfl rfl rfl rfl rfl (by simp) rfl rfl ?_
     intro T3 hp13
     have hT3:Below U2.heap.size U2 T3:=hp13.below hT2 hg12 hT2.size
     have hI4:M4 T3 T3 T3.heap.size g12 (-1) b V 0 (.slice none 0 0) []:=⟨Cn _ _,hp13.blk,GRow.nil ..,rfl,by simp⟩
     have hd33:=Ac hT3 hd3
     have hd93:=Ac hT3 hd9
     have hgT:=Ae hp13.blk
     obtain ⟨a',hae⟩:∃ a':Int,a'=-1:=⟨_,rfl⟩
     rw [<- hae] at hI4
     have ha':-1<=a'/\a'<V:=by omega
     refine Ab Aa ?_
     conv=>whnf
     refine Am Aa (X:=Nat) (fun k=>[(1,.pointer (some ⟨g1,0,none⟩)),(2,.pointer (some ⟨g2,0,none⟩)),(3,.pointer (some ⟨g3,0,none⟩)),(4,.int .i64 N),(8,.int .i64 j),(9,.pointer (some ⟨g9,0,none⟩)),(10,.int .i64 a),(11,.int .i64 b),(12,.pointer (some ⟨g12,0,none⟩)),(13,.int .i64 k)])
      (fun k w4=>k<=3/\∃ vs zs,M4 T3 w4 T3.heap.size g12 a' b V k vs zs) (fun k=>4 - k) 0 ⟨rfl,rfl,rfl,rfl,rfl,rfl,rfl,rfl,rfl,rfl,trivial⟩ ⟨by omega,_,_,hI4⟩ ?_
     clear hI4
     intro k G4 w4' ⟨hk4,vs,zs,m4⟩
     conv=>whnf
     have hs3:=hT3.size
     have he3:=(m4.grown.block g3 (by omega) (by simp;omega)).trans hd33
     have he9:=(m4.grown.block g9 (by omega) (by simp;omega)).trans hd93
     have he12:=m4.blk
     (repeat' ((first|refine Aj Aa he3 rfl rfl rfl rfl rfl rfl rfl (Ab Aa ?_)|refine Aj Aa he9 rfl rfl rfl rfl rfl rfl rfl (Ab Aa ?_)|refine Im Aa rfl rfl rfl (by simp only [Cj];omega) rfl rfl rfl (Ab Aa ?_)|refine Fv rfl rfl rfl rfl rfl rfl (by omega) (by omega) (fun r hr hr0 hr1 hr2=>Ab Aa ?_)|refine Ke rfl rfl rfl rfl rfl rfl (by omega) (by omega) (by simp only [Cj];omega) (Ab Aa ?_)|refine J5 (fun hg=>?_) (fun hg=>?_)|fail)<;>conv=>whnf))
     ·have hmb:=Fs (m:=3) (k:=255) (a:=(k:Int)) (b:=x.c) ⟨by omega,by omega⟩ ⟨by omega,by omega⟩
      refine Gl 16 17 (Be _) Aa mixed (by kernel_rfl) rfl (Below.refl _ _) ?_;conv=>whnf
      (repeat' ((first|refine Bg Aa he3 rfl rfl rfl rfl rfl rfl rfl (Ad Aa ?_)|refine Bg Aa he9 rfl rfl rfl rfl rfl rfl rfl (Ad Aa ?_)|refine Bg Aa he12 rfl rfl rfl rfl rfl rfl rfl (Ad Aa ?_)|refine D7 rfl rfl rfl rfl rfl rfl (by omega) (by omega) (Ad Aa ?_)|refine Zg rfl rfl rfl rfl rfl rfl (by omega) (by omega) (Ad Aa ?_)|refine Kg Aa rfl rfl rfl (by simp only [Cj];omega) rfl rfl rfl (Ad Aa ?_)|refine Kj rfl rfl rfl rfl rfl rfl (by omega) (by omega) (fun r hr hr0 hr1 hr2=>Ad Aa ?_)|refine Ko rfl rfl rfl rfl rfl rfl (by omega) (by omega) (Ad Aa ?_)|fail)<;>conv=>whnf))
      intro Z1 _ hZ1
      conv=>whnf
      refine Gf Aa 3 1 rfl rfl rfl rfl rfl rfl rfl rfl rfl ?_
      intro g14 Z2 hn14
      refine ⟨hn14.up hZ1,fun Z3 hZ3 _=>?_⟩
      conv=>whnf
      have hZ13:=Ax (hn14.up hZ1) hZ3
      have hr3:=m4.row.below hZ13
      obtain ⟨flat,hfl,hel⟩:=hr3.own
      have hk3:=m4.len
      have hZs:=hZ13.size
      have hks:=m4.grown.size
      refine Cu Aa 3 1 8 hfl (Ac hZ3 hn14.blk) rfl rfl rfl rfl rfl rfl rfl rfl rfl rfl rfl rfl (by simp [Value.oneCell']) (by omega) (by omega) (by omega) ?_
      intro A7 cap7 Z4 hown hgr hob
      refine Ab Aa ?_
      conv=>whnf
      have hne6:some g12≠vs.ownBlock:=fun e=>by have:=(hr3.olt g12 e.symm).1;omega
      refine Dd (off:=3) Aa ((hgr.block g12 (by omega) hne6).trans (Ac hZ13 he12)) rfl rfl rfl rfl rfl rfl (by simp) rfl rfl ?_
      intro Z5 hp7
      refine Ab Aa ?_
      conv=>whnf
      (repeat' ((first|refine Af rfl rfl rfl rfl rfl rfl (by omega) (by omega) (Ab Aa ?_)|fail)<;>conv=>whnf))
      have hnew:=D5 hr3 hel hown hgr hob (y:=_) ⟨by omega,by omega⟩
      refine ⟨k+1,⟨rfl,rfl,rfl,rfl,rfl,rfl,rfl,rfl,rfl,rfl,trivial⟩,⟨by omega,_,_,⟨?_,hp7.blk,hnew.other hp7.grown (by simp) (fun k hk=>by have:=(hnew.olt k hk).1;omega),?_,?_⟩⟩,by omega⟩
      ·exact Ao (Ao (Ao m4.grown (Ar (row:=none) hZ13) nofun) hgr (fun k hk=>.inl (hr3.olt k hk).1)) hp7.grown (fun k hk=>.inr hk)
      ·simp [hk3]
      ·intro y hy
       rcases List.mem_append.1 hy with hy|hy
       ·exact m4.good y hy
       ·have:=List.mem_singleton.1 hy
        omega
     ·obtain ⟨Av,cv,rfl,hlc,_⟩:=m4.row.row
      (repeat' ((first|refine C6 Aa he12 rfl rfl rfl rfl rfl rfl (Ab Aa ?_)|fail)<;>conv=>whnf))
      refine C7 Aa 77 4 rfl rfl rfl rfl rfl rfl rfl rfl rfl rfl ?_
      intro g8 Y1 hn8
      refine Ab Aa ?_
      conv=>whnf
      have hX:Below wk.heap.size wk w4':=(Ax hU2 hT3).grown m4.grown (by omega) (fun k hk=>by cases hk;omega)
      have hY1:Below wk.heap.size wk Y1:=hn8.up hX
      have hd31:=hn8.old he3
      have hall:(zs.all fun n=>Ff n (-1) V)=true:=List.all_eq_true.2 fun y hy=>by have:=m4.good y hy;simp [Ff];omega
      have hzl:=m4.len
      have hrowY:=m3.row.below (hY1)
      have hargY:=(m4.row.below hn8.below)
      obtain ⟨flat,hfl,hel⟩:=hrowY.own
      have hyl:=m3.len
      have hYs:=Below.size (hY1)
      have hws:=m3.grown.size
      refine Cu Aa 77 4 48 hfl (hn8.blk) rfl rfl rfl rfl rfl rfl rfl rfl rfl rfl rfl rfl (by simp [Value.oneCell']) (by omega) (by omega) (by omega) ?_
      intro A8 cap8 Y2 hown hgr hob
      refine Ab Aa ?_
      conv=>whnf
      have hne3:some g3≠vb.ownBlock:=fun e=>by have:=(m3.row.olt g3 e.symm).1;omega
      refine Dd (off:=2) Aa ((hgr.block g3 (by omega) hne3).trans (hd31)) rfl rfl rfl rfl rfl rfl (by simp) rfl rfl ?_
      intro Y3 hp8
      refine Ab Aa ?_
      conv=>whnf
      (repeat' ((first|refine Af rfl rfl rfl rfl rfl rfl (by omega) (by omega) (Ab Aa ?_)|fail)<;>conv=>whnf))
      have hnew:=hrowY.push hel hown hgr hob rfl (bs':=(Value.slice Av zs.length cv).ownBlock.toList) (x:=⟨_,_,_,_⟩) (fun w' hw'=>Fb hargY _ _ _ ⟨by omega,by omega⟩ ⟨by omega,by omega⟩ ⟨by omega,by omega⟩ w' hw')
       (fun b hb=>by have:=hargY.olt b (Bi hb);omega) (fun b hb e=>by have:=hargY.olt b (Bi hb);have:=m3.row.olt b e.symm;omega)
      refine ⟨j+1,⟨rfl,rfl,rfl,rfl,rfl,trivial⟩,⟨by omega,by omega,.slice A8 (ys.length+1) cap8,_,_,⟨Ao (Ao (Ao m3.grown (Ar (row:=none) (hY1)) nofun) hgr (fun k hk=>.inl (m3.row.olt k hk).1)) hp8.grown (fun k hk=>.inr hk),hp8.blk,hnew.other hp8.grown ?_ ?_,by simp;omega,Dc m3.good (by simp only [B4];rw [hall];simp [Ff];omega)⟩⟩,by omega⟩
      ·intro b hb
       have:=(hnew.lt b hb).1
       omega
      ·intro k hk
       have:=(hnew.olt k hk).1
       omega
    ·have hI4:M4 T2 T2 T2.heap.size g12 a b V 0 (.slice none 0 0) []:=⟨Cn _ _,hp12.blk,GRow.nil ..,rfl,by simp⟩
     obtain ⟨T3,hT3e⟩:∃ T3,T3=T2:=⟨_,rfl⟩
     rw [<- hT3e] at hI4 hT2 hd32 hd92 hp12 ⊢
     have hT3:=hT2
     have hd33:=hd32
     have hd93:=hd92
     have hgT:=Ae hp12.blk
     obtain ⟨a',hae⟩:∃ a':Int,a'=a:=⟨_,rfl⟩
     rw [<- hae] at hI4
     have ha':-1<=a'/\a'<V:=by omega
     refine Am Aa (X:=Nat) (fun k=>[(1,.pointer (some ⟨g1,0,none⟩)),(2,.pointer (some ⟨g2,0,none⟩)),(3,.pointer (some ⟨g3,0,none⟩)),(4,.int .i64 N),(8,.int .i64 j),(9,.pointer (some ⟨g9,0,none⟩)),(10,.int .i64 a),(11,.int .i64 b),(12,.pointer (some ⟨g12,0,none⟩)),(13,.int .i64 k)])
      (fun k w4=>k<=3/\∃ vs zs,M4 T3 w4 T3.heap.size g12 a' b V k vs zs) (fun k=>4 - k) 0 ⟨rfl,rfl,rfl,rfl,rfl,rfl,rfl,rfl,rfl,rfl,trivial⟩ ⟨by omega,_,_,hI4⟩ ?_
     clear hI4
     intro k G4 w4' ⟨hk4,vs,zs,m4⟩
     conv=>whnf
     have hs3:=hT3.size
     have he3:=(m4.grown.block g3 (by omega) (by simp;omega)).trans hd33
     have he9:=(m4.grown.block g9 (by omega) (by simp;omega)).trans hd93
     have he12:=m4.blk
     (repeat' ((first|refine Aj Aa he3 rfl rfl rfl rfl rfl rfl rfl (Ab Aa ?_)|refine Aj Aa he9 rfl rfl rfl rfl rfl rfl rfl (Ab Aa ?_)|refine Im Aa rfl rfl rfl (by simp only [Cj];omega) rfl rfl rfl (Ab Aa ?_)|refine Fv rfl rfl rfl rfl rfl rfl (by omega) (by omega) (fun r hr hr0 hr1 hr2=>Ab Aa ?_)|refine Ke rfl rfl rfl rfl rfl rfl (by omega) (by omega) (by simp only [Cj];omega) (Ab Aa ?_)|refine J5 (fun hg=>?_) (fun hg=>?_)|fail)<;>conv=>whnf))
     ·have hmb:=Fs (m:=3) (k:=255) (a:=(k:Int)) (b:=x.c) ⟨by omega,by omega⟩ ⟨by omega,by omega⟩
      refine Gl 16 17 (Be _) Aa mixed (by kernel_rfl) rfl (Below.refl _ _) ?_;conv=>whnf
      (repeat' ((first|refine Bg Aa he3 rfl rfl rfl rfl rfl rfl rfl (Ad Aa ?_)|refine Bg Aa he9 rfl rfl rfl rfl rfl rfl rfl (Ad Aa ?_)|refine Bg Aa he12 rfl rfl rfl rfl rfl rfl rfl (Ad Aa ?_)|refine D7 rfl rfl rfl rfl rfl rfl (by omega) (by omega) (Ad Aa ?_)|refine Zg rfl rfl rfl rfl rfl rfl (by omega) (by omega) (Ad Aa ?_)|refine Kg Aa rfl rfl rfl (by simp only [Cj];omega) rfl rfl rfl (Ad Aa ?_)|refine Kj rfl rfl rfl rfl rfl rfl (by omega) (by omega) (fun r hr hr0 hr1 hr2=>Ad Aa ?_)|refine Ko rfl rfl rfl rfl rfl rfl (by omega) (by omega) (Ad Aa ?_)|fail)<;>conv=>whnf))
      intro Z1 _ hZ1
      conv=>whnf
      refine Gf Aa 3 1 rfl rfl rfl rfl rfl rfl rfl rfl rfl ?_
      intro g14 Z2 hn14
      refine ⟨hn14.up hZ1,fun Z3 hZ3 _=>?_⟩
      conv=>whnf
      have hZ13:=Ax (hn14.up hZ1) hZ3
      have hr3:=m4.row.below hZ13
      obtain ⟨flat,hfl,hel⟩:=hr3.own
      have hk3:=m4.len
      have hZs:=hZ13.size
      have hks:=m4.grown.size
      refine Cu Aa 3 1 8 hfl (Ac hZ3 hn14.blk) rfl rfl rfl rfl rfl rfl rfl rfl rfl rfl rfl rfl (by simp [Value.oneCell']) (by omega) (by omega) (by omega) ?_
      intro A7 cap7 Z4 hown hgr hob
      refine Ab Aa ?_
      conv=>whnf
      have hne6:some g12≠vs.ownBlock:=fun e=>by have:=(hr3.olt g12 e.symm).1;omega
      refine Dd (off:=3) Aa ((hgr.block g12 (by omega) hne6).trans (Ac hZ13 he12)) rfl rfl rfl rfl rfl rfl (by simp) rfl rfl ?_
      intro Z5 hp7
      refine Ab Aa ?_
      conv=>whnf
      (repeat' ((first|refine Af rfl rfl rfl rfl rfl rfl (by omega) (by omega) (Ab Aa ?_)|fail)<;>conv=>whnf))
      have hnew:=D5 hr3 hel hown hgr hob (y:=_) ⟨by omega,by omega⟩
      refine ⟨k+1,⟨rfl,rfl,rfl,rfl,rfl,rfl,rfl,rfl,rfl,rfl,trivial⟩,⟨by omega,_,_,⟨?_,hp7.blk,hnew.other hp7.grown (by simp) (fun k hk=>by have:=(hnew.olt k hk).1;omega),?_,?_⟩⟩,by omega⟩
      ·exact Ao (Ao (Ao m4.grown (Ar (row:=none) hZ13) nofun) hgr (fun k hk=>.inl (hr3.olt k hk).1)) hp7.grown (fun k hk=>.inr hk)
      ·simp [hk3]
      ·intro y hy
       rcases List.mem_append.1 hy with hy|hy
       ·exact m4.good y hy
       ·have:=List.mem_singleton.1 hy
        omega
     ·obtain ⟨Av,cv,rfl,hlc,_⟩:=m4.row.row
      (repeat' ((first|refine C6 Aa he12 rfl rfl rfl rfl rfl rfl (Ab Aa ?_)|fail)<;>conv=>whnf))
      refine C7 Aa 77 4 rfl rfl rfl rfl rfl rfl rfl rfl rfl rfl ?_
      intro g8 Y1 hn8
      refine Ab Aa ?_
      conv=>whnf
      have hX:Below wk.heap.size wk w4':=(Ax hU2 hT3).grown m4.grown (by omega) (fun k hk=>by cases hk;omega)
      have hY1:Below wk.heap.size wk Y1:=hn8.up hX
      have hd31:=hn8.old he3
      have hall:(zs.all fun n=>Ff n (-1) V)=true:=List.all_eq_true.2 fun y hy=>by have:=m4.good y hy;simp [Ff];omega
      have hzl:=m4.len
      have hrowY:=m3.row.below (hY1)
      have hargY:=(m4.row.below hn8.below)
      obtain ⟨flat,hfl,hel⟩:=hrowY.own
      have hyl:=m3.len
      have hYs:=Below.size (hY1)
      have hws:=m3.grown.size
      refine Cu Aa 77 4 48 hfl (hn8.blk) rfl rfl rfl rfl rfl rfl rfl rfl rfl rfl rfl rfl (by simp [Value.oneCell']) (by omega) (by omega) (by omega) ?_
      intro A8 cap8 Y2 hown hgr hob
      refine Ab Aa ?_
      conv=>whnf
      have hne3:some g3≠vb.ownBlock:=fun e=>by have:=(m3.row.olt g3 e.symm).1;omega
      refine Dd (off:=2) Aa ((hgr.block g3 (by omega) hne3).trans (hd31)) rfl rfl rfl rfl rfl rfl (by simp) rfl rfl ?_
      intro Y3 hp8
      refine Ab Aa ?_
      conv=>whnf
      (repeat' ((first|refine Af rfl rfl rfl rfl rfl rfl (by omega) (by omega) (Ab Aa ?_)|fail)<;>conv=>whnf))
      have hnew:=hrowY.push hel hown hgr hob rfl (bs':=(Value.slice Av zs.length cv).ownBlock.toList) (x:=⟨_,_,_,_⟩) (fun w' hw'=>Fb hargY _ _ _ ⟨by omega,by omega⟩ ⟨by omega,by omega⟩ ⟨by omega,by omega⟩ w' hw')
       (fun b hb=>by have:=hargY.olt b (Bi hb);omega) (fun b hb e=>by have:=hargY.olt b (Bi hb);have:=m3.row.olt b e.symm;omega)
      refine ⟨j+1,⟨rfl,rfl,rfl,rfl,rfl,trivial⟩,⟨by omega,by omega,.slice A8 (ys.length+1) cap8,_,_,⟨Ao (Ao (Ao m3.grown (Ar (row:=none) (hY1)) nofun) hgr (fun k hk=>.inl (m3.row.olt k hk).1)) hp8.grown (fun k hk=>.inr hk),hp8.blk,hnew.other hp8.grown ?_ ?_,by simp;omega,Dc m3.good (by simp only [B4];rw [hall];simp [Ff];omega)⟩⟩,by omega⟩
      ·intro b hb
       have:=(hnew.lt b hb).1
       omega
      ·intro k hk
       have:=(hnew.olt k hk).1
       omega
  all_goals
   (repeat' ((first|refine C6 Aa hc3 rfl rfl rfl rfl rfl rfl (Ab Aa ?_)|fail)<;>conv=>whnf))
   refine Di Aa hc2 rfl rfl rfl rfl rfl (by
    obtain ⟨A1,k1,e1,_⟩:=h1.row.row
    obtain ⟨A2,k2,e2,_⟩:=m3.row.row
    rw [e1,e2]
    simp [Value.oneCell']) rfl rfl ?_
   intro U1 hp
   refine Ab Aa ?_
   conv=>whnf
   have hrow:GRow 3 I5 99 w4.heap.size wk va xs bs:=h1.row.other m3.grown (fun b hb=>by have:=(h1.row.lt b hb).1;omega) (fun k hk=>by have:=(h1.row.olt k hk).1;omega)
   refine V0 Aa rfl hp.blk rfl rfl ⟨⟨V,xs,ys⟩,va,vb,bs,cs,rfl,hp.below hBk (by omega) hBk.size,(hrow.other hp.grown (fun b hb=>by have:=(h1.row.lt b hb).1;omega) (fun k hk=>by have:=(h1.row.olt k hk).1;omega)).lower (by omega),(m3.row.other hp.grown (fun b hb=>by have:=(m3.row.lt b hb).1;omega) (fun k hk=>by have:=(m3.row.olt k hk).1;omega)).lower (by have:=hB.size;omega),?_,?_,?_,hV1,?_,?_,h1.good,?_⟩
   ·intro k hk
    have:=(h1.row.olt k hk).2
    exact ⟨fun e=>by have:=(m3.row.olt k e).1;omega,fun hm=>by have:=(m3.row.lt k hm).1;omega⟩
   ·intro k hk hm
    have:=(h1.row.lt k hm).2
    have:=(m3.row.olt k hk).1
    omega
   ·intro k hk hm
    have:=(h1.row.lt k hk).2
    have:=(m3.row.lt k hm).1
    omega
   ·have:=h1.len
    show xs.length<=7
    omega
   ·have:=m3.len
    show ys.length<=40
    omega
   ·have:=h1.len
    have e:xs.length=N.toNat:=by omega
    show ∀ k,k<ys.length->B4 V xs.length ys[k]! = true
    rw [e]
    exact m3.good
theorem F4 (a b c:Int)(w:World) :
  Calls Tryz.prog 117 #[.int .i64 a,.int .i64 b,.int .i64 c] w fun e w'=>e=.returned (.bool (Ff a b c))/\w=w':=by
 refine A9 (args:=[.int .i64 a,.int .i64 b,.int .i64 c]) Aa Tryz.func117 rfl Tryz.ntmps117 rfl ?_;conv=>whnf
 (repeat' (first|refine Cg rfl rfl ?_|(first|refine J5 (fun hg=>?_) (fun hg=>?_)|fail)<;>conv=>whnf))
 all_goals exact ⟨Pn (by simp_all [Ff];try omega),rfl⟩
theorem Am5 (x:Cell)(vars:Int)(B:Option Addr)(c:Nat)(w:World)(h:RI w B x.args) :
  Calls Tryz.prog 72 #[.agg #[.bool x.fn,.int .i64 x.v,.slice B x.args.length c],.int .i64 vars] w fun e w'=>e=.returned (.bool (Ee vars x))/\Below w.heap.size w w':=by
 have L1:=h.1
 refine A9 (args:=[.agg #[.bool x.fn,.int .i64 x.v,.slice B x.args.length c],.int .i64 vars]) Aa Tryz.func72 rfl Tryz.ntmps72 rfl ?_;conv=>whnf
 refine Ci rfl rfl rfl rfl rfl rfl ?_
 intro g w1 hn
 have hb:=hn.blk
 have hB:=hn.below
 refine Ab Aa ?_
 conv=>whnf
 (repeat' ((first|refine Aj Aa hb rfl rfl rfl rfl rfl rfl rfl (Ab Aa ?_)|fail)<;>conv=>whnf))
 refine Am Aa (X:=Nat) (fun k=>[(1,.int .i64 vars),(2,.pointer (some ⟨g,0,none⟩)),(8,.slice B x.args.length c),(9,.int .i64 x.args.length),(10,.int .i64 k)])
  (fun k wr=>k<=x.args.length/\(∀ j,j<k->Ff x.args[j]! 0 vars=true)/\wr=w1) (fun k=>x.args.length - k) 0 ⟨rfl,rfl,rfl,rfl,rfl,trivial⟩ ⟨by omega,by omega,rfl⟩ ?_
 rintro k G _ ⟨hk,hok,rfl⟩
 conv=>whnf
 by_cases hlt:k<x.args.length
 ·obtain ⟨y,ad,hy,rfl,f0,_⟩:=Dy (h.up (Bj _) hB) k hlt
  (repeat' (first|refine Cg rfl rfl ?_|(first|refine Az Aa rfl rfl rfl rfl rfl rfl f0 (Ab Aa ?_)|refine Al Aa 3 1 rfl rfl rfl rfl rfl rfl rfl (by omega) (Ab Aa ?_)|((refine Bv Ql (F4 _ _ _ _) rfl rfl rfl rfl rfl rfl rfl ?_);rintro _ _ ⟨rfl,rfl⟩;refine ⟨_,rfl,Ab Aa ?_⟩)|refine Af rfl rfl rfl rfl rfl rfl (by omega) (by omega) (Ab Aa ?_)|refine Ag (by first|assumption|omega) ?_|refine Nc (fun hg=>?_) (fun hg=>?_)|fail)<;>conv=>whnf))
  all_goals try exact ⟨Pn (by rw [Ag0 hlt (by rw [hy.out];assumption)]),hB⟩
  all_goals exact ⟨k+1,⟨rfl,rfl,rfl,rfl,rfl,trivial⟩,⟨by omega,Lw hok (by rw [hy.out];assumption),rfl⟩,by omega⟩
 ·have hall:=I9 (p:=fun n=>Ff n 0 vars) (Rw hok hlt)
  (repeat' (first|refine Cg rfl rfl ?_|(first|refine Aj Aa hb rfl rfl rfl rfl rfl rfl rfl (Ab Aa ?_)|((refine Bv Ql (F4 _ _ _ _) rfl rfl rfl rfl rfl rfl rfl ?_);rintro _ _ ⟨rfl,rfl⟩;refine ⟨_,rfl,Ab Aa ?_⟩)|refine Ah (by first|assumption|omega) ?_|refine J5 (fun hg=>?_) (fun hg=>?_)|refine Un (fun hg=>?_) (fun hg=>?_)|fail)<;>conv=>whnf))
  all_goals refine ⟨Pn ?_,hB⟩
  all_goals unfold Ee;rw [hall];clear hall hok h hb hB hn;simp_all;try omega
theorem As3 (x:Con)(vars:Int)(cells:Nat)(B:Option Addr)(c:Nat)(w:World)(h:RI w B x.args) :
  Calls Tryz.prog 73 #[.agg #[.int .u8 x.k,.int .i64 x.a,.int .i64 x.b,.slice B x.args.length c],.int .i64 vars,.int .i64 cells] w fun e w'=>e=.returned (.bool (B4 vars cells x))/\Below w.heap.size w w':=by
 have L1:=h.1
 refine A9 (args:=[.agg #[.int .u8 x.k,.int .i64 x.a,.int .i64 x.b,.slice B x.args.length c],.int .i64 vars,.int .i64 cells]) Aa Tryz.func73 rfl Tryz.ntmps73 rfl ?_;conv=>whnf
 refine Ci rfl rfl rfl rfl rfl rfl ?_
 intro g w1 hn
 have hb:=hn.blk
 have hB:=hn.below
 refine Ab Aa ?_
 conv=>whnf
 (repeat' (first|refine Cg rfl rfl ?_|(first|refine Aj Aa hb rfl rfl rfl rfl rfl rfl rfl (Ab Aa ?_)|((refine Bv Ql (F4 _ _ _ _) rfl rfl rfl rfl rfl rfl rfl ?_);rintro _ _ ⟨rfl,rfl⟩;refine ⟨_,rfl,Ab Aa ?_⟩)|refine Ag (by first|assumption|omega) ?_|refine J5 (fun hg=>?_) (fun hg=>?_)|refine Un (fun hg=>?_) (fun hg=>?_)|fail)<;>conv=>whnf))
 all_goals try (refine ⟨Pn ?_,hB⟩;(first|rw [Ae3 (by omega)]|rw [Ag2 (by omega) (by omega)]|rw [Ag4 (by omega)]);try (clear h hb hB hn L1;simp_all;done))
 refine Am Aa (X:=Nat) (fun k=>[(1,.int .i64 vars),(3,.pointer (some ⟨g,0,none⟩)),(7,.int .i64 (-1)),(53,.slice B x.args.length c),(54,.int .i64 x.args.length),(55,.int .i64 k)])
  (fun k wr=>k<=x.args.length/\(∀ j,j<k->Ff x.args[j]! (-1) vars=true)/\wr=w1) (fun k=>x.args.length - k) 0 ⟨rfl,rfl,rfl,rfl,rfl,rfl,trivial⟩ ⟨by omega,by omega,rfl⟩ ?_
 rintro k G _ ⟨hk,hok,rfl⟩
 conv=>whnf
 by_cases hlt:k<x.args.length
 ·obtain ⟨y,ad,hy,rfl,f0,_⟩:=Dy (h.up (Bj _) hB) k hlt
  (repeat' (first|refine Cg rfl rfl ?_|(first|refine Az Aa rfl rfl rfl rfl rfl rfl f0 (Ab Aa ?_)|refine Al Aa 3 1 rfl rfl rfl rfl rfl rfl rfl (by omega) (Ab Aa ?_)|((refine Bv Ql (F4 _ _ _ _) rfl rfl rfl rfl rfl rfl rfl ?_);rintro _ _ ⟨rfl,rfl⟩;refine ⟨_,rfl,Ab Aa ?_⟩)|refine Af rfl rfl rfl rfl rfl rfl (by omega) (by omega) (Ab Aa ?_)|refine Ag (by first|assumption|omega) ?_|refine Nc (fun hg=>?_) (fun hg=>?_)|fail)<;>conv=>whnf))
  all_goals try exact ⟨Pn (by rw [Ai5 hlt (by rw [hy.out];assumption)]),hB⟩
  all_goals exact ⟨k+1,⟨rfl,rfl,rfl,rfl,rfl,rfl,trivial⟩,⟨by omega,Lw hok (by rw [hy.out];assumption),rfl⟩,by omega⟩
 ·have hall:=I9 (p:=fun n=>Ff n (-1) vars) (Rw hok hlt)
  (repeat' (first|refine Cg rfl rfl ?_|(first|refine Aj Aa hb rfl rfl rfl rfl rfl rfl rfl (Ab Aa ?_)|((refine Bv Ql (F4 _ _ _ _) rfl rfl rfl rfl rfl rfl rfl ?_);rintro _ _ ⟨rfl,rfl⟩;refine ⟨_,rfl,Ab Aa ?_⟩)|refine Ah (by first|assumption|omega) ?_|refine Un (fun hg=>?_) (fun hg=>?_)|fail)<;>conv=>whnf))
  all_goals (refine ⟨Pn ?_,hB⟩;rw [Abq (by omega) hall];clear hall hok h hb hB hn L1;simp_all;done)
theorem Nw (s:Sys)(A1 A2:Option Addr)(c1 c2:Nat)(w:World)(h1:RCells w A1 s.cells)(h2:RCons w A2 s.cons) :
  Calls Tryz.prog 35 #[.agg #[.int .i64 s.vars,.slice A1 s.cells.length c1,.slice A2 s.cons.length c2]] w fun e w'=>e=.returned (.bool (Ba s))/\Below w.heap.size w w':=by
 have L1:=h1.1
 have L2:=h2.1
 refine A9 (args:=[.agg #[.int .i64 s.vars,.slice A1 s.cells.length c1,.slice A2 s.cons.length c2]]) Aa Tryz.func35 rfl Tryz.ntmps35 rfl ?_;conv=>whnf
 refine Ci rfl rfl rfl rfl rfl rfl ?_
 intro g w1 hn
 have hb:=hn.blk
 refine Ab Aa ?_
 conv=>whnf
 (repeat' (first|refine Cg rfl rfl ?_|(first|refine Aj Aa hb rfl rfl rfl rfl rfl rfl rfl (Ab Aa ?_)|refine J5 (fun hg=>?_) (fun hg=>?_)|fail)<;>conv=>whnf))
 all_goals try exact ⟨Pn (X5 (by omega)).symm,hn.below⟩
 refine Am Aa (X:=Nat) (fun k=>[(1,.pointer (some ⟨g,0,none⟩)),(28,.slice A1 s.cells.length c1),(29,.int .i64 s.cells.length),(30,.int .i64 k)])
  (fun k wr=>k<=s.cells.length/\(∀ j,j<k->Ee s.vars s.cells[j]! = true)/\Below w.heap.size w wr/\wr.heap[g]?=some (.cells #[.int .i64 s.vars,.slice A1 s.cells.length c1,.slice A2 s.cons.length c2] 35 (0,0)))
  (fun k=>s.cells.length - k) 0 ⟨rfl,rfl,rfl,rfl,trivial⟩ ⟨by omega,by omega,hn.below,hb⟩ ?_
 clear hb hn
 intro k G wr ⟨hk,hok,hB,hb⟩
 conv=>whnf
 by_cases hlt:k<s.cells.length
 ·obtain ⟨x,ad,B,c,hx,rfl,e0,e1,e2,_⟩:=Q3 (h1.up Cd hB) k hlt
  (repeat' ((first|refine Al Aa 99 3 rfl rfl rfl rfl rfl rfl rfl (by omega) (Ab Aa ?_)|refine E0 Aa e0 rfl rfl rfl rfl rfl rfl (Ab Aa ?_)|(refine Ag (by first|assumption|omega) ?_)|fail)<;>conv=>whnf))
  refine Bm Aa rfl rfl rfl rfl rfl rfl ?_
  intro g2 w2 hn2
  refine Di Aa hn2.blk rfl rfl rfl rfl rfl (by simp [Value.oneCell']) rfl rfl ?_
  intro w3 hp
  have hg:g≠g2:=by have:=Ae hb;have:=hn2.at_;omega
  have hb3:=hp.old (hn2.old hb) hg
  have hc3:=hp.blk
  have hB3:Below wr.heap.size wr w3:=hp.below hn2.below (by have:=hn2.at_;omega) (by have:=hn2.size;omega)
  have hBw:=Ax hB hB3
  refine Ab Aa ?_
  conv=>whnf
  (repeat' ((first|refine Aj Aa hb3 rfl rfl rfl rfl rfl rfl rfl (Ab Aa ?_)|refine C6 Aa hc3 rfl rfl rfl rfl rfl rfl (Ab Aa ?_)|fail)<;>conv=>whnf))
  refine Bv Bk2 (Am5 x _ _ _ _ (e2.out.up (Bj _) hB3)) rfl rfl rfl rfl rfl rfl rfl ?_
  rintro _ w4 ⟨rfl,hB4⟩
  refine ⟨_,rfl,Ab Aa ?_⟩
  conv=>whnf
  (repeat' (first|refine Cg rfl rfl ?_|(first|refine Af rfl rfl rfl rfl rfl rfl (by omega) (by omega) (Ab Aa ?_)|refine Nc (fun hg=>?_) (fun hg=>?_)|fail)<;>conv=>whnf))
  ·exact ⟨Pn (by rw [Uj hlt (by rw [hx.out];assumption)]),Ax hBw hB4⟩
  ·exact ⟨k+1,⟨rfl,rfl,rfl,rfl,trivial⟩,⟨by omega,Lw hok (by rw [hx.out];assumption),Ax hBw hB4,Ac (Ax hB3 hB4) hb⟩,by omega⟩
 ·have hokA:=Rw hok hlt
  (repeat' ((first|refine Aj Aa hb rfl rfl rfl rfl rfl rfl rfl (Ab Aa ?_)|(refine Ah (by first|assumption|omega) ?_)|fail)<;>conv=>whnf))
  refine Am Aa (X:=Nat) (fun k=>[(1,.pointer (some ⟨g,0,none⟩)),(41,.slice A2 s.cons.length c2),(42,.int .i64 s.cons.length),(43,.int .i64 k)])
   (fun k wr=>k<=s.cons.length/\(∀ j,j<k->B4 s.vars s.cells.length s.cons[j]! = true)/\Below w.heap.size w wr/\wr.heap[g]?=some (.cells #[.int .i64 s.vars,.slice A1 s.cells.length c1,.slice A2 s.cons.length c2] 35 (0,0)))
   (fun k=>s.cons.length - k) 0 ⟨rfl,rfl,rfl,rfl,trivial⟩ ⟨by omega,by omega,hB,hb⟩ ?_
  clear hb hB
  intro k G wr ⟨hk,hokc,hB,hb⟩
  conv=>whnf
  by_cases hlt:k<s.cons.length
  ·obtain ⟨x,ad,B,c,hx,rfl,e0,e1,e2,e3,e4,_⟩:=Qj (h2.up Ck hB) k hlt
   (repeat' ((first|refine Al Aa 77 4 rfl rfl rfl rfl rfl rfl rfl (by omega) (Ab Aa ?_)|refine E0 Aa e0 rfl rfl rfl rfl rfl rfl (Ab Aa ?_)|(refine Ag (by first|assumption|omega) ?_)|fail)<;>conv=>whnf))
   refine Bm Aa rfl rfl rfl rfl rfl rfl ?_
   intro g2 w2 hn2
   refine Di Aa hn2.blk rfl rfl rfl rfl rfl (by simp [Value.oneCell']) rfl rfl ?_
   intro w3 hp
   have hg:g≠g2:=by have:=Ae hb;have:=hn2.at_;omega
   have hb3:=hp.old (hn2.old hb) hg
   have hc3:=hp.blk
   have hB3:Below wr.heap.size wr w3:=hp.below hn2.below (by have:=hn2.at_;omega) (by have:=hn2.size;omega)
   have hBw:=Ax hB hB3
   refine Ab Aa ?_
   conv=>whnf
   (repeat' ((first|refine Aj Aa hb3 rfl rfl rfl rfl rfl rfl rfl (Ab Aa ?_)|refine C6 Aa hc3 rfl rfl rfl rfl rfl rfl (Ab Aa ?_)|fail)<;>conv=>whnf))
   refine Bv Box (As3 x _ _ _ _ _ (e2.out.up (Bj _) hB3)) rfl rfl rfl rfl rfl rfl rfl ?_
   rintro _ w4 ⟨rfl,hB4⟩
   refine ⟨_,rfl,Ab Aa ?_⟩
   conv=>whnf
   (repeat' (first|refine Cg rfl rfl ?_|(first|refine Af rfl rfl rfl rfl rfl rfl (by omega) (by omega) (Ab Aa ?_)|refine Nc (fun hg=>?_) (fun hg=>?_)|fail)<;>conv=>whnf))
   ·exact ⟨Pn (by rw [Yl hlt (by rw [hx.out];assumption)]),Ax hBw hB4⟩
   ·exact ⟨k+1,⟨rfl,rfl,rfl,rfl,trivial⟩,⟨by omega,Lw hokc (by rw [hx.out];assumption),Ax hBw hB4,Ac (Ax hB3 hB4) hb⟩,by omega⟩
  ·(repeat' (first|refine Cg rfl rfl ?_|(first|(refine Ah (by first|assumption|omega) ?_)|fail)<;>conv=>whnf))
   exact ⟨Pn (by rw [Qh (by omega) (by omega) (by omega) (by omega) hokA (Rw hokc hlt)]),hB⟩
end Go.Proofs.YtghmdfegfehhkaaGreatDoor
