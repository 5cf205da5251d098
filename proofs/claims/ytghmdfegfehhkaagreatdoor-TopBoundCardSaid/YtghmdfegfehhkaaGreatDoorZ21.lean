/- Several texts of one claim in one file, made short: SA19 OF17. -/
import Derived.Test.YtghmdfegfehhkaaGreatDoorZ20
import Derived.Test.YtghmdfegfehhkaaGreatDoorZ17
import Derived.Test.YtghmdfegfehhkaaGreatDoorZ5
set_option maxRecDepth 100000
set_option maxHeartbeats 64000000
set_option linter.unusedVariables false
set_option linter.unusedSimpArgs false
namespace Go.Proofs.YtghmdfegfehhkaaGreatDoor
open Go.RowKit
def Pj (lab:Nat->Int)(v:Nat):Int:=if lab v<0 then -1 else lab v
def Adx (gA:Nat):Value:=.func (.func 75) #[] #[.pointer (some ⟨gA,0,none⟩)]
theorem Ea {n:Nat}{xs:List Cell}{ys:List Con}(hr:Ba ⟨n,xs,ys⟩=true):∀ c∈xs,(0<=c.v/\c.v<(n:Int))/\c.args.length<=6/\∀ x∈c.args,0<=x/\x<(n:Int):=by
 simp only [Ba,Hl,Bool.and_eq_true,decide_eq_true_eq,List.all_eq_true] at hr
 intro c hc
 have:=hr.1.2 c hc
 simp only [Ee,Ff,Bool.and_eq_true,decide_eq_true_eq,List.all_eq_true] at this
 exact ⟨this.1.1.1,this.1.1.2,this.2⟩
theorem D4 {n:Nat}{xs:List Cell}{ys:List Con}(hr:Ba ⟨n,xs,ys⟩=true):∀ c∈ys,(1<=c.k/\c.k<=5)/\(-1<=c.a/\c.a<(n:Int))/\(0<=c.b/\(c.k=1->c.b<(xs.length:Int))/\(¬c.k=1->c.b<(n:Int)))/\c.args.length<=6/\(∀ x∈c.args,-1<=x/\x<(n:Int))/\(¬c.k=5->0<=c.a/\c.args=[]):=by
 simp only [Ba,Hl,Bool.and_eq_true,decide_eq_true_eq,List.all_eq_true] at hr
 intro c hc
 have:=hr.2 c hc
 simp only [B4,Ff,Bool.and_eq_true,Bool.or_eq_true,decide_eq_true_eq,List.all_eq_true] at this
 obtain ⟨⟨⟨⟨⟨⟨h1,h2⟩,h3⟩,h4⟩,h5⟩,h6⟩,h7⟩:=this
 refine ⟨⟨h1,h2⟩,?_,?_,h5,fun x hx=>h7 x hx,fun h=>?_⟩
 ·split at h3<;>omega
 ·refine ⟨h4.1,fun e=>?_,fun e=>?_⟩
  ·rw [if_pos e] at h4;exact h4.2
  ·rw [if_neg e] at h4;exact h4.2
 ·rw [if_neg h] at h3
  exact ⟨h3.1,List.eq_nil_of_length_eq_zero (h6.resolve_left h)⟩
structure FX (n nx ny:Nat)(A1 A2:Option Addr)(c1 c2 g3 g9 gw gA:Nat)(wh:Nat->Int)(w:World):Prop where
 box:w.heap[g3]?=some (.cells #[.int .i64 n,.slice A1 nx c1,.slice A2 ny c2] 35 (0,0))
 wc:w.heap[g9]?=some (.cells #[.slice (some ⟨gw,0,none⟩) n n] 27 (0,0))
 wr:w.heap[gw]?=some (.cells (fZ n wh).toArray 3 (0,0))
 fn:w.heap[gA]?=some (.cells #[atV g9] 149 (0,0))
section
variable {n nx ny c1 c2 g3 g9 gw gA:Nat}{A1 A2:Option Addr}{wh:Nat->Int}{w w1:World}
theorem FX.up (h:FX n nx ny A1 A2 c1 c2 g3 g9 gw gA wh w)(hb:Below w.heap.size w w1):FX n nx ny A1 A2 c1 c2 g3 g9 gw gA wh w1:=⟨Ac hb h.box,Ac hb h.wc,Ac hb h.wr,Ac hb h.fn⟩
theorem FX.kept {rb:List Nat}(h:FX n nx ny A1 A2 c1 c2 g3 g9 gw gA wh w)(hk:Kept rb w w1)(h1:g3∉rb)(h2:g9∉rb)(h3:gw∉rb)(h4:gA∉rb):FX n nx ny A1 A2 c1 c2 g3 g9 gw gA wh w1:=⟨hk.blk h.box h1,hk.blk h.wc h2,hk.blk h.wr h3,hk.blk h.fn h4⟩
end
section
variable {P:Program}{T:Nat->Option TI}{n:Nat}{F:Fm}{w:World}{o:Oper}{K:Fm->World->Prop}
theorem Ao3 (hT:TabOk P T){t t':TypeId}{x y:Operand}{g:Nat}{cs vs:List Value}(hb:w.heap[g]?=some (.cells cs.toArray t' (0,0)))(hop:o.op=.store t x y)(hx:ev F x=.pointer (some ⟨g,0,none⟩))(hy:ev F y=.agg vs.toArray)
  (hs:P4 T t vs.length=true) (hl:vs.length=cs.length) (hv:∀ v∈vs,v.oneCell'=true) (hd:o.dst=none)
  (k:∀ w1,Put w w1 g vs t'->K F w1):wb P n o F w K:=by
 obtain ⟨w1,hr,hp⟩:=Rk (P:=P) vs cs g 0 w hb (by omega) hv
 have key:∀ (vs cs pre:List Value),vs.length=cs.length->Ex (pre++cs) pre.length vs=pre++vs:=by
  intro vs
  induction vs with
  |nil=>intro cs pre h;have:cs=[]:=List.eq_nil_of_length_eq_zero h.symm;simp [Ex,this]
  |cons v vs ih=>
   intro cs pre h
   cases cs with
   |nil=>simp at h
   |cons c cs=>
    simp only [Ex]
    have e1:(pre++c::cs).set pre.length v=(pre++[v])++cs:=by simp
    rw [e1]
    have:=ih cs (pre++[v]) (by simpa using h)
    simp only [List.length_append,List.length_singleton] at this
    rw [this];simp
 have e:=key vs cs [] hl
 simp only [List.nil_append,List.length_nil] at e
 rw [e] at hp
 refine ⟨by rw [hd];rfl,.inr (.inr ⟨w1,?_,by rw [hd];exact k w1 hp⟩)⟩
 simp [execOp,hop,hx,hy,Instr.storeAt,Instr.sureAddr,storeVar,Value.cells,Jr hT hs,hr]
end
theorem As5 {P:Program}{T:Nat->Option TI}{F:Fm}{w:World}(hT:TabOk P T){fn:Func}{R:Ending->World->Prop}{p t:Tmp}{ty t':TypeId}{g:Nat}{cs:List Value}{fr:Nat×Nat}{v:Value}(hr:fn.results=#[.cell p ty,.tmp t])(hb:w.heap[g]?=some (.cells cs.toArray t' fr))(hv:F p=.pointer (some ⟨g,0,none⟩))(h1:Mr T ty cs.length=true)(hu:F t=v)(h:R (.returned (.tuple #[.agg cs.toArray,v])) w):Om P fn R F w:=by
 unfold Om Mz
 intro tmps ht
 refine ⟨.tuple #[.agg cs.toArray,v],?_,h⟩
 have h2:=Fg (P:=P) (w:=w) hT h1
 have h3:=B8 (P:=P) cs 0 #[] (Cr hb cs 0 0 (by simp))
 have h4:=ht p
 have h6:=ht t
 rw [hv] at h4
 rw [hu] at h6
 have h5:tmps[p]?.getD undef=.pointer (some ⟨g,0,none⟩):=by simpa using h4
 have h7:tmps[t]?.getD undef=v:=by simpa using h6
 unfold results
 simp [hr,h5,h7,asAddr,loadVar,h2,loadCells,h3]
theorem Apy {P:Program}{n:Nat}{Q:Post}{F:Fm}{w:World}{ops:Array Oper}{rest:List Oper}{o:Oper}{t:TypeId}{m x:Operand}{b:Nat}{key v:Value}(h:(Instr.lookup t (.map (some b)) key false).run P w=.ok v w)(hop:o.op=.lookup t m x false)(hm:ev F m=.map (some b))(hx:ev F x=key)(hg:o.guard=none){d:Nat}(hd:o.dst=some d)(hn:Nat.blt d n=true)
  (k:wl P n ops rest Q (Bd F d v) w):wl P n ops (o::rest) Q F w:=by
 refine Bh hg hd hn ?_ k
 simp [execOp,hop,hm,hx,h]
theorem Nn (l:Nat->Int):∀ v,F7 l v<=v
 |0=>by simp [F7]
 |v+1=>by
  have:=Nn l v
  unfold F7
  split<;>omega
structure APR (B H:Nat)(w:World)(n:Nat)(xs:List Cell)(ys:List Con)(wh:Nat->Int)(less:Bool)(gw:Nat)(D1:Option Addr)(d1:Nat)(D2:Option Addr)(d2:Nat):Prop where
 wr:w.heap[gw]?=some (.cells (fZ n wh).toArray 3 (0,0))
 ge:B<=gw/\gw<H
 cells:∃ bs,GRow 3 I5 99 B w (.slice D1 xs.length d1) (xs.map (L9 wh)) bs/\∀ b∈bs++(Value.slice D1 xs.length d1).ownBlock.toList,B<=b/\b<H
 cons:∃ bs,GRow 4 Rr 77 B w (.slice D2 (Hv wh less ys).length d2) (Hv wh less ys) bs/\∀ b∈bs++(Value.slice D2 (Hv wh less ys).length d2).ownBlock.toList,B<=b/\b<H
section
variable {B H n gw d1 d2:Nat}{xs:List Cell}{ys:List Con}{wh:Nat->Int}{less:Bool}{D1 D2:Option Addr}{w w1:World}
theorem APR.up (h:APR B H w n xs ys wh less gw D1 d1 D2 d2)(hb:Below w.heap.size w w1):APR B H w1 n xs ys wh less gw D1 d1 D2 d2:=by
 obtain ⟨bs1,g1,l1⟩:=h.cells
 obtain ⟨bs2,g2,l2⟩:=h.cons
 exact ⟨Ac hb h.wr,h.ge,⟨bs1,g1.below hb,l1⟩,⟨bs2,g2.below hb,l2⟩⟩
theorem APR.put (h:APR B H w n xs ys wh less gw D1 d1 D2 d2){g:Nat}{cs:List Value}{t:TypeId}(hp:Put w w1 g cs t)(hg:g<B\/H<=g):APR B H w1 n xs ys wh less gw D1 d1 D2 d2:=by
 obtain ⟨bs1,g1,l1⟩:=h.cells
 obtain ⟨bs2,g2,l2⟩:=h.cons
 have ne:∀ b,B<=b/\b<H->b≠g:=fun b hb e=>by omega
 exact ⟨hp.old h.wr (ne _ h.ge),h.ge,⟨bs1,g1.other hp.grown (fun b hb=>ne b (l1 b (by simp [hb]))) (fun k hk=>ne k (l1 k (by simp [hk]))),l1⟩,⟨bs2,g2.other hp.grown (fun b hb=>ne b (l2 b (by simp [hb]))) (fun k hk=>ne k (l2 k (by simp [hk]))),l2⟩⟩
theorem APR.rows (h:APR B H w n xs ys wh less gw D1 d1 D2 d2):RCells w D1 (xs.map (L9 wh))/\RCons w D2 (Hv wh less ys):=by
 obtain ⟨bs1,g1,l1⟩:=h.cells
 obtain ⟨bs2,g2,l2⟩:=h.cons
 exact ⟨g1.rowAt.2.2,g2.rowAt.2.2⟩
end
theorem Am2 (n:Nat)(xs:List Cell)(ys:List Con)(A1 A2 LA:Option Addr)(c1 c2 lc:Nat)(lab:Nat->Int)(less:Bool)(w:World)(hright:Ba ⟨n,xs,ys⟩=true)(h1:RCells w A1 xs)(h2:RCons w A2 ys)(hL:RI w LA ((List.range n).map lab)) :
  Calls Tryz.prog 36 #[.agg #[.int .i64 n,.slice A1 xs.length c1,.slice A2 ys.length c2],.slice LA n lc,.bool less] w fun e w'=>∃ gw wh D1 d1 D2 d2,e=.returned (.tuple #[.agg #[.int .i64 (F7 wh n:Int),.slice D1 xs.length d1,.slice D2 (Hv wh less ys).length d2],.slice (some ⟨gw,0,none⟩) n n]) /\
   APR w.heap.size w'.heap.size w' n xs ys wh less gw D1 d1 D2 d2/\Canon n wh (fun v u=>Pj lab v=Pj lab u) (fun v=>lab v<0)/\Below w.heap.size w w':=by
 obtain ⟨hn,hnx,hny⟩:=Gx hright
 have hcell:=Ea hright
 have hcon:=D4 hright
 refine A9 (args:=[.agg #[.int .i64 n,.slice A1 xs.length c1,.slice A2 ys.length c2],.slice LA n lc,.bool less]) Aa Tryz.func36 rfl Tryz.ntmps36 rfl ?_;conv=>whnf
 refine Ci rfl rfl rfl rfl rfl rfl ?_
 intro g3 w1 hn1
 refine Ab Aa ?_
 conv=>whnf
 refine Bm Aa rfl rfl rfl rfl rfl rfl ?_
 intro g6 w2 hn2
 refine Ab Aa ?_
 conv=>whnf
 refine Bm Aa rfl rfl rfl rfl rfl rfl ?_
 intro g8 w3 hn3
 refine Ab Aa ?_
 conv=>whnf
 have hb33:=hn3.old (hn2.old hn1.blk)
 (repeat' ((first|refine Aj Aa hb33 rfl rfl rfl rfl rfl rfl rfl (Ab Aa ?_)|fail)<;>conv=>whnf))
 refine Lb (m:=n) Aa 3 1 8 rfl rfl rfl rfl rfl rfl rfl rfl rfl (by omega) (by omega) ?_
 intro gw w4 hn4
 refine Ab Aa ?_
 conv=>whnf
 refine Bm Aa rfl rfl rfl rfl rfl rfl ?_
 intro g9 w5 hn5
 refine Ab Aa ?_
 conv=>whnf
 refine Dd (off:=0) (v:=.slice (some ⟨gw,0,none⟩) n n) Aa hn5.blk rfl rfl rfl rfl rfl rfl (by simp) rfl rfl ?_
 intro w6 hp6
 refine Ab Aa ?_
 conv=>whnf
 refine M5 rfl rfl rfl rfl ?_
 intro bm w7 hbm hw7 hB7
 refine Ab Aa ?_
 conv=>whnf
 have q1:=hn1.at_
 have q2:=hn2.at_
 have q3:=hn3.at_
 have q4:=hn4.at_
 have q5:=hn5.at_
 have s1:=hn1.size
 have s2:=hn2.size
 have s3:=hn3.size
 have s4:=hn4.size
 have s5:=hn5.size
 have s6:=hp6.size
 have hb3:w7.heap[g3]?=some (.cells #[.int .i64 n,.slice A1 xs.length c1,.slice A2 ys.length c2] 35 (0,0)):=Ac hB7 (hp6.old (hn5.old (hn4.old hb33)) (by omega))
 have hb6:w7.heap[g6]?=some (.cells #[.int .i64 0,.slice none 0 0,.slice none 0 0] 35 (0,0)):=Ac hB7 (hp6.old (hn5.old (hn4.old (hn3.old hn2.blk))) (by omega))
 have hb8:w7.heap[g8]?=some (.cells #[.int .i64 0,.slice none 0 0,.slice none 0 0] 35 (0,0)):=Ac hB7 (hp6.old (hn5.old (hn4.old hn3.blk)) (by omega))
 have hb9:w7.heap[g9]?=some (.cells #[.slice (some ⟨gw,0,none⟩) n n] 27 (0,0)):=Ac hB7 hp6.blk
 have hbw:w7.heap[gw]?=some (.cells (fZ n fun _=>0).toArray 3 (0,0)):=by rw [<- Ls];exact Ac hB7 (hp6.old (hn5.old hn4.blk) (by omega))
 have hS7:IMap w7 bm [] 0:=by rw [hbm];exact IntL.made hw7
 have hB07:Below w.heap.size w w7:=Ax (hp6.below (hn5.up (hn4.up (hn3.up (hn2.up hn1.below)))) (by omega) (by omega)) hB7
 have hids:w.heap.size<=g3/\g3<g6/\g6<g8/\g8<gw/\gw<g9/\g9<bm:=⟨by omega,by omega,by omega,by omega,by omega,by omega⟩
 clear q1 q2 q3 q4 q5 s1 s2 s3 s4 s5 s6 hn1 hn2 hn3 hn4 hn5 hp6 hbm hw7 hB7 hb33
 obtain ⟨i1,i2,i3,i4,i5,i6⟩:=hids
 have hlab:∀ wr,Below w.heap.size w wr->∀ v,v<n->∃ ad,LA=some ad/\wr.cell? (ad.add (v*1))=some (.int .i64 (lab v))/\Pu (lab v):=fun wr hb v hv=>by
  obtain ⟨y,ad3,⟨hy⟩,e3,hyc,hy1,hy2⟩:=Dy (hL.up (Bj _) hb) v (by simpa using hv)
  rw [getElem!_pos _ v (by simpa using hv)] at hy
  simp at hy
  subst hy
  exact ⟨ad3,e3,hyc,hy1,hy2⟩
 skip
 refine C8 0 (fun _ _=>False) (X:=Unit) (fun _=>[(2,.bool less),(3,.pointer (some ⟨g3,0,none⟩)),(6,.pointer (some ⟨g6,0,none⟩)),(8,.pointer (some ⟨g8,0,none⟩)),(9,.pointer (some ⟨g9,0,none⟩)),(10,.map (some bm))]) (fun _ wj=>∃ wh L m,Kept [gw,bm] w7 wj/\wj.heap[gw]?=some (.cells (fZ n wh).toArray 3 (0,0))/\IMap wj bm L m/\LbI (fun v=>lab v<0) (Pj lab) n wh L) ?_ (fun _ _ h=>h.elim) ?_
 ·refine Am Aa (X:=Nat) (fun v=>[(2,.bool less),(3,.pointer (some ⟨g3,0,none⟩)),(6,.pointer (some ⟨g6,0,none⟩)),(8,.pointer (some ⟨g8,0,none⟩)),(9,.pointer (some ⟨g9,0,none⟩)),(10,.map (some bm)),(28,.slice LA n lc),(29,.int .i64 (n:Int)),(30,.int .i64 (v:Int))]) (fun v wj=>v<=n/\∃ wh L m,m<=v/\Kept [gw,bm] w7 wj/\wj.heap[gw]?=some (.cells (fZ n wh).toArray 3 (0,0))/\IMap wj bm L m/\LbI (fun v=>lab v<0) (Pj lab) v wh L) (fun v=>n - v) 0 ⟨rfl,rfl,rfl,rfl,rfl,rfl,rfl,rfl,rfl,trivial⟩ ⟨by omega,_,[],0,Nat.le_refl _,Kept.refl _ _,hbw,hS7,LbI.start _⟩ ?_
  clear hbw hS7
  rintro v G wj ⟨hv,wh,L,m,hm,hkj,hrj,hSj,hI⟩
  have hBj:Below w.heap.size w wj:=hkj.below hB07 hB07.size (fun k hk=>by simp at hk;rcases hk with rfl|rfl<;>omega)
  have hLl:=hI.len
  by_cases hvn:v<n
  ·obtain ⟨adl,hLA,hlc,hli⟩:=hlab wj hBj v hvn
   subst hLA
   have hb9j:=hkj.blk hb9 (by simp;omega)
   conv=>whnf
   (repeat' ((first|refine Aj Aa hb9j rfl rfl rfl rfl rfl rfl rfl (Ab Aa ?_)|refine Az Aa rfl rfl rfl rfl rfl rfl hlc (Ab Aa ?_)|refine Al Aa 3 1 rfl rfl rfl rfl rfl rfl rfl (by omega) (Ab Aa ?_)|(refine Ag (by first|assumption|omega) ?_)|fail)<;>conv=>whnf))
   refine Dt (j:=v*1) (v:=.int .i64 (-1)) Aa hrj rfl rfl rfl rfl rfl rfl (by rw [Ij];omega) rfl rfl ?_
   intro wa hpa
   rw [Nat.mul_one,Io] at hpa
   have hka:=hkj.put hpa (.inl (by simp))
   have hra:=hpa.blk
   have hSa:=hSj.kept hpa.grown (fun e=>by injection e with e;omega)
   have hb9a:=hka.blk hb9 (by simp;omega)
   clear hpa
   refine Ab Aa ?_
   conv=>whnf
   by_cases hz:lab v<0
   ·(repeat' ((first|refine Af rfl rfl rfl rfl rfl rfl (by omega) (by omega) (Ab Aa ?_)|refine Ag (by first|assumption|omega) ?_|fail)<;>conv=>whnf))
    exact ⟨v+1,⟨rfl,rfl,rfl,rfl,rfl,rfl,rfl,rfl,rfl,trivial⟩,⟨by omega,_,L,m,by omega,hka,hra,hSa,hI.zero hz⟩,by omega⟩
   ·(repeat' ((first|(refine Ah (by first|assumption|omega) ?_)|fail)<;>conv=>whnf))
    obtain ⟨x,ok,hlk,hok,hix⟩:=hSa.look P7 (Aa0 _) hli
    have hkv:Pj lab v=lab v:=if_neg hz
    refine U8 hlk rfl rfl rfl rfl rfl rfl ?_
    refine Ab Aa ?_
    conv=>whnf
    have hoc:ok=true\/ok=false:=by cases ok<;>simp
    rcases hoc with rfl|rfl
    ·have hin:=hok.1 rfl
     obtain ⟨i,hi,e⟩:=List.getElem_of_mem hin
     have he:L[i]! = lab v:=by rw [getElem!_pos L i hi,e]
     have hxi:=hix i hi he
     subst hxi
     conv=>whnf
     (repeat' ((first|refine Aj Aa hb9a rfl rfl rfl rfl rfl rfl rfl (Ab Aa ?_)|refine Al Aa 3 1 rfl rfl rfl rfl rfl rfl rfl (by omega) (Ab Aa ?_)|fail)<;>conv=>whnf))
     refine Dt (j:=v*1) (v:=.int .i64 (i:Int)) Aa hra rfl rfl rfl rfl rfl rfl (by rw [Ij];omega) rfl rfl ?_
     intro wb hpb
     rw [Nat.mul_one,Io] at hpb
     have hs2:Bf (Bf wh v (-1)) v (i:Int)=Bf wh v (i:Int):=by
      funext q
      unfold Bf
      split<;>rfl
     rw [hs2] at hpb
     refine Ab Aa ?_
     conv=>whnf
     (repeat' ((first|refine Af rfl rfl rfl rfl rfl rfl (by omega) (by omega) (Ab Aa ?_)|fail)<;>conv=>whnf))
     exact ⟨v+1,⟨rfl,rfl,rfl,rfl,rfl,rfl,rfl,rfl,rfl,trivial⟩,⟨by omega,_,L,m,by omega,hka.put hpb (.inl (by simp)),hpb.blk,hSa.kept hpb.grown (fun e=>by injection e with e;omega),hI.old hz hi (by rw [hkv];exact he)⟩,by omega⟩
    ·have hnin:lab v∉L:=fun h=>by have:=hok.2 h;cases this
     conv=>whnf
     skip
     refine Dz (hSa.len P7) rfl rfl rfl rfl rfl rfl rfl rfl ?_
     refine Ab Aa ?_
     conv=>whnf
     skip
     refine J7 (hSa.put P7 (by unfold maxLen;omega) hli ⟨by omega,by omega⟩ hnin) rfl rfl rfl rfl rfl rfl ?_
     rintro wb ⟨hSb,hgb⟩
     have hrb:wb.heap[gw]?=_:=(hgb.block gw (Ae hra) (fun e=>by injection e with e;omega)).trans hra
     have hkb:=hka.grown hgb (fun g e=>by injection e with e;subst e;exact .inl (by simp))
     have hb9b:=hkb.blk hb9 (by simp;omega)
     refine Ab Aa ?_
     conv=>whnf
     (repeat' ((first|refine Aj Aa hb9b rfl rfl rfl rfl rfl rfl rfl (Ab Aa ?_)|refine Al Aa 3 1 rfl rfl rfl rfl rfl rfl rfl (by omega) (Ab Aa ?_)|fail)<;>conv=>whnf))
     refine Dt (j:=v*1) (v:=.int .i64 (L.length:Int)) Aa hrb rfl rfl rfl rfl rfl rfl (by rw [Ij];omega) rfl rfl ?_
     intro wc hpc
     rw [Nat.mul_one,Io] at hpc
     have hs2:Bf (Bf wh v (-1)) v (L.length:Int)=Bf wh v (L.length:Int):=by
      funext q
      unfold Bf
      split<;>rfl
     rw [hs2] at hpc
     refine Ab Aa ?_
     conv=>whnf
     (repeat' ((first|refine Af rfl rfl rfl rfl rfl rfl (by omega) (by omega) (Ab Aa ?_)|fail)<;>conv=>whnf))
     have hnw:=hI.new hz (by rw [hkv];exact hnin)
     rw [hkv] at hnw
     exact ⟨v+1,⟨rfl,rfl,rfl,rfl,rfl,rfl,rfl,rfl,rfl,trivial⟩,⟨by omega,_,_,m+1,by omega,hkb.put hpc (.inl (by simp)),hpc.blk,hSb.kept hpc.grown (fun e=>by injection e with e;omega),hnw⟩,by omega⟩
  ·have hvn2:v=n:=by omega
   rw [hvn2] at hI
   conv=>whnf
   (repeat' ((first|(refine Ah (by first|assumption|omega) ?_)|fail)<;>conv=>whnf))
   exact ⟨rfl,(),⟨rfl,rfl,rfl,rfl,rfl,rfl,trivial⟩,wh,L,m,hkj,hrj,hSj,hI⟩
 ·clear hbw hS7
  rintro _ G wA ⟨wh,L,m,hkA,hrA,hSA,hI⟩
  have hcan:=hI.done (E:=fun v u=>Pj lab v=Pj lab u) (fun a b _ _=>Iff.rfl) (fun a b _ _ h=>by
   have h:Pj lab a=Pj lab b:=h
   unfold Pj at h
   split at h<;>split at h<;>(constructor<;>intro h2<;>omega)) (fun a b ha hb=>by
   show Pj lab a=Pj lab b
   unfold Pj
   rw [if_pos ha,if_pos hb])
  have hcnt:=hI.nx
  have hwr:∀ v,v<n->-1<=wh v/\wh v<(n:Int):=fun v hv=>by
   have h3:=hcan.le v hv
   have h4:=Nn wh v
   omega
  have hLn:L.length<=n:=hI.len
  have hBA:Below w.heap.size w wA:=hkA.below hB07 hB07.size (fun k hk=>by simp at hk;rcases hk with rfl|rfl<;>omega)
  have hb3:=hkA.blk hb3 (by simp;omega)
  have hb6:=hkA.blk hb6 (by simp;omega)
  have hb8:=hkA.blk hb8 (by simp;omega)
  have hb9:=hkA.blk hb9 (by simp;omega)
  clear hI hkA hlab hB07 hL
  conv=>whnf
  refine Dz (hSA.len P7) rfl rfl rfl rfl rfl rfl rfl rfl ?_
  rw [<- hcnt]
  refine Ab Aa ?_
  conv=>whnf
  refine Dd (off:=0) (v:=.int .i64 (F7 wh n:Int)) Aa hb8 rfl rfl rfl rfl rfl rfl (by simp) rfl rfl ?_
  intro wB hpB
  have hBB:Below w.heap.size w wB:=hpB.below hBA (by omega) hBA.size
  have hb3:=hpB.old hb3 (by omega)
  have hb6:=hpB.old hb6 (by omega)
  have hb9:=hpB.old hb9 (by omega)
  have hrA:=hpB.old hrA (by omega)
  have hb8:wB.heap[g8]?=some (.cells #[.int .i64 (F7 wh n:Int),.slice none 0 0,.slice none 0 0] 35 (0,0)):=hpB.blk
  clear hpB hBA hSA
  refine Ab Aa ?_
  conv=>whnf
  refine Ta (fs:=[]) (cs:=[.pointer (some ⟨g9,0,none⟩)]) rfl rfl rfl rfl rfl rfl ?_
  refine Ab Aa ?_
  conv=>whnf
  refine Bm Aa rfl rfl rfl rfl rfl rfl ?_
  intro gA wC hnC
  refine Ab Aa ?_
  conv=>whnf
  refine Dd (off:=0) (v:=atV g9) Aa hnC.blk rfl rfl rfl rfl rfl rfl (by simp) rfl rfl ?_
  intro wS hpS
  have qA:=hnC.at_
  have qAs:=hnC.size
  have lw:=Ae hrA
  have l9:=Ae hb9
  have hBS:Below w.heap.size w wS:=hpS.below (hnC.up hBB) (by have:=hBB.size;omega) (by have:=hBB.size;omega)
  have hFX:FX n xs.length ys.length A1 A2 c1 c2 g3 g9 gw gA wh wS:=⟨hpS.old (hnC.old hb3) (by omega),hpS.old (hnC.old hb9) (by omega),hpS.old (hnC.old hrA) (by omega),hpS.blk⟩
  have hb6:=hpS.old (hnC.old hb6) (by omega)
  have hb8:=hpS.old (hnC.old hb8) (by omega)
  have lA:gA<wS.heap.size:=Ae hpS.blk
  have n8:g3≠g8/\g9≠g8/\gw≠g8/\gA≠g8/\g6≠g8:=⟨by omega,by omega,by omega,by omega,by omega⟩
  have h8S:w.heap.size<=g8/\g8<wS.heap.size:=⟨by omega,Ae hb8⟩
  clear qA qAs lw l9 hnC hpS hBB hrA hb9 hb3
  refine Ab Aa ?_
  conv=>whnf
  refine Ta (fs:=[]) (cs:=[.pointer (some ⟨gA,0,none⟩)]) rfl rfl rfl rfl rfl rfl ?_
  refine Ab Aa ?_
  conv=>whnf
  (repeat' ((first|refine Aj Aa hFX.box rfl rfl rfl rfl rfl rfl rfl (Ab Aa ?_)|fail)<;>conv=>whnf))
  refine C8 2 (fun _ _=>False) (X:=Option Addr×Nat) (fun _=>[(2,.bool less),(3,.pointer (some ⟨g3,0,none⟩)),(6,.pointer (some ⟨g6,0,none⟩)),(8,.pointer (some ⟨g8,0,none⟩)),(9,.pointer (some ⟨g9,0,none⟩)),(15,.pointer (some ⟨gA,0,none⟩)),(16,Adx gA)]) (fun x wj=>∃ bs,Kept [g8] wS wj/\wj.heap[g8]?=some (.cells #[.int .i64 (F7 wh n:Int),.slice x.1 xs.length x.2,.slice none 0 0] 35 (0,0))/\GRow 3 I5 99 wS.heap.size wj (.slice x.1 xs.length x.2) (xs.map (L9 wh)) bs) ?_ (fun _ _ h=>h.elim) ?_
  ·refine Am Aa (X:=Nat×Option Addr×Nat) (fun x=>[(2,.bool less),(3,.pointer (some ⟨g3,0,none⟩)),(6,.pointer (some ⟨g6,0,none⟩)),(8,.pointer (some ⟨g8,0,none⟩)),(9,.pointer (some ⟨g9,0,none⟩)),(15,.pointer (some ⟨gA,0,none⟩)),(16,Adx gA),(64,.slice A1 xs.length c1),(65,.int .i64 (xs.length:Int)),(66,.int .i64 (x.1:Int))]) (fun x wj=>x.1<=xs.length/\∃ bs,Kept [g8] wS wj/\wj.heap[g8]?=some (.cells #[.int .i64 (F7 wh n:Int),.slice x.2.1 x.1 x.2.2,.slice none 0 0] 35 (0,0))/\GRow 3 I5 99 wS.heap.size wj (.slice x.2.1 x.1 x.2.2) ((xs.take x.1).map (L9 wh)) bs) (fun x=>xs.length - x.1) (0,none,0) ⟨rfl,rfl,rfl,rfl,rfl,rfl,rfl,rfl,rfl,rfl,trivial⟩ ⟨by simp,[],Kept.refl _ _,hb8,GRow.nil ..⟩ ?_
   clear hb8
   rintro ⟨i,D1,d1⟩ G2 wj ⟨hi,bs,hkj,hb8,hrow⟩
   simp only at hi hb8 hrow
   have hBj:Below w.heap.size w wj:=hkj.below hBS hBS.size (fun k hk=>by simp at hk;subst hk;exact h8S.1)
   have hFXj:=hFX.kept hkj (by simp;exact n8.1) (by simp;exact n8.2.1) (by simp;exact n8.2.2.1) (by simp;exact n8.2.2.2.1)
   by_cases hil:i<xs.length
   ·obtain ⟨x,ad,B,c,⟨hx⟩,hA1,hcs,hlc,⟨hRB⟩,hv1,hv2⟩:=Q3 (h1.up Cd hBj) i hil
    subst hA1
    have hxm:x∈xs:=by rw [<- hx,getElem!_pos xs i hil];exact List.getElem_mem hil
    obtain ⟨hxv,hxl,hxa⟩:=hcell x hxm
    have hxr:=Jn hwr hxv.2
    have hlen:((xs.take i).map (L9 wh)).length=i:=by simp;omega
    have hnx:(xs.take (i+1)).map (L9 wh)=(xs.take i).map (L9 wh)++[L9 wh x]:=by rw [List.take_add_one,List.getElem?_eq_getElem hil,List.map_append,<- hx,getElem!_pos xs i hil];rfl
    conv=>whnf
    (repeat' ((first|refine Al Aa 99 3 rfl rfl rfl rfl rfl rfl rfl (by omega) (Ab Aa ?_)|refine E0 Aa hcs rfl rfl rfl rfl rfl rfl (Ab Aa ?_)|(refine Ag (by first|assumption|omega) ?_)|fail)<;>conv=>whnf))
    refine Bm Aa rfl rfl rfl rfl rfl rfl ?_
    intro g18 wk hn18
    refine Ab Aa ?_
    conv=>whnf
    refine Di Aa hn18.blk rfl rfl rfl rfl rfl (by simp [Value.oneCell']) rfl rfl ?_
    intro wl hpl
    have hb18:wl.heap[g18]?=some (.cells #[.bool x.fn,.int .i64 x.v,.slice B x.args.length c] 99 (0,0)):=hpl.blk
    have hBjl:Below wj.heap.size wj wl:=hpl.below hn18.below (by have:=hn18.at_;omega) (by have:=hn18.size;omega)
    have hFXl:=hFXj.up hBjl
    have hb8l:=Ac hBjl hb8
    have hRBl:=hRB.up (Bj _) hBjl
    clear hpl hn18
    refine Ab Aa ?_
    conv=>whnf
    refine Em [0,1,2,3,4,5,6,8,9,10] 4 14 (Be _) Aa mixed (by kernel_rfl) (Below.refl _ _) ?_;(conv=>whnf)
    (repeat' ((first|refine Bg Aa hb8l rfl rfl rfl rfl rfl rfl rfl (Ad Aa ?_)|refine Bg Aa hb18 rfl rfl rfl rfl rfl rfl rfl (Ad Aa ?_)|refine Bg Aa hFXl.fn rfl rfl rfl rfl rfl rfl rfl (Ad Aa ?_)|fail)<;>conv=>whnf))
    intro W hC hBW
    conv=>whnf
    refine And.intro ?_ True.intro
    conv=>whnf
    refine Wf (first:=[]) (args:=[.int .i64 x.v]) (caps:=[.pointer (some ⟨g9,0,none⟩)]) Aj0 (Ak1 (hFXl.up hBW).wc (hFXl.up hBW).wr x.v hxv.2) rfl rfl rfl rfl rfl rfl ?_
    rintro _ W1 ⟨rfl,hB1⟩
    refine ⟨_,rfl,Ax hC hB1,fun W2 hB2 hC2=>?_⟩
    conv=>whnf
    refine And.intro ?_ True.intro
    conv=>whnf
    have hFX2:=(hFXl.up hBW).up (Ax hB1 hB2)
    have hsz2:=(Ax hBjl hC2).size
    refine Wf (first:=[]) (args:=[.slice B x.args.length c]) (caps:=[.pointer (some ⟨gA,0,none⟩)]) Ba8 (Ap6 hFX2.wc hFX2.wr hFX2.fn x.args B c (hRBl.up (Bj _) hC2) (fun y hy=>(hxa y hy).2) hxl hwr hn) rfl rfl rfl rfl rfl rfl ?_
    rintro _ W3 ⟨E,ec,rfl,hGE,hB3⟩
    refine ⟨_,rfl,Ax hC2 hB3,fun W4 hB4 hC4=>?_⟩
    conv=>whnf
    refine And.intro ?_ True.intro
    conv=>whnf
    refine Uq Aa rfl rfl rfl ?_
    refine ⟨hC4,fun W5 hB5 hC5=>?_⟩
    conv=>whnf
    refine And.intro ?_ True.intro
    conv=>whnf
    refine Hh (Gf Aa 99 3 rfl rfl rfl rfl rfl rfl rfl rfl rfl ?_)
    intro gn W6 hn6
    refine ⟨Ax hC5 hn6.below,fun W7 hB7 hC7=>?_⟩
    have hbn:=Ac hB7 hn6.blk
    have hGE7:=hGE.below (Ax (Ax hB4 hB5) (Ax hn6.below hB7))
    have hBj7:=Ax hBjl hC7
    have hrow7:=hrow.below hBj7
    have hb87:=Ac hBj7 hb8
    have hk7:=hkj.up hBj7
    have hsz7:=hBj7.size
    have hszS:=hkj.size
    clear hB1 hB2 hB3 hB4 hB5 hB7 hn6 hC hC2 hC4 hC5 hC7 hBW hFX2 hGE
    conv=>whnf
    obtain ⟨flat,o1,o2⟩:=hrow7.own
    rw [hlen] at o1
    refine Cu Aa 99 3 40 o1 hbn rfl rfl rfl rfl rfl rfl rfl rfl rfl rfl rfl rfl (by simp [Value.oneCell']) (by omega) (by omega) (by omega) ?_
    intro E2 ec2 W8 hown hgr hob
    refine Ab Aa ?_
    conv=>whnf
    have hrow8:=hrow7.push (x:=L9 wh x) (bs':=(Value.slice E x.args.length ec).ownBlock.toList) o2 (by rw [hlen];exact hown) hgr hob rfl (fun w' hw'=>Tt hGE7 x.fn (atF wh x.v) ⟨by omega,by omega⟩ w' hw') (fun b hb=>by have:=hGE7.olt b (Bi hb);exact ⟨by omega,this.2⟩) (fun b hb e=>by
     have h3:=(hGE7.olt b (Bi hb)).1
     have h4:=(hrow.olt b e.symm).2
     omega)
    have hb88:W8.heap[g8]?=_:=(hgr.block g8 (Ae hb87) (fun e=>by have:=(hrow.olt g8 e.symm).1;omega)).trans hb87
    refine Dd (off:=1) (v:=.slice E2 (i+1) ec2) Aa hb88 rfl rfl rfl rfl rfl rfl (by simp) rfl rfl ?_
    intro W9 hp9
    have hrow9:=hrow8.other hp9.grown (fun b hb=>by
     rcases List.mem_append.1 hb with hb|hb
     ·have:=(hrow.lt b hb).1;omega
     ·have:=(hGE7.olt b (Bi hb)).1;omega) (fun k hk=>by have:=(hrow8.olt k hk).1;omega)
    rw [<- hnx] at hrow9
    have hk9:=(hk7.grown hgr (fun g e=>.inr (hrow.olt g e).1)).put hp9 (.inl (by simp))
    refine Ab Aa ?_
    conv=>whnf
    (repeat' ((first|refine Af rfl rfl rfl rfl rfl rfl (by omega) (by omega) (Ab Aa ?_)|fail)<;>conv=>whnf))
    exact ⟨(i+1,E2,ec2),⟨rfl,rfl,rfl,rfl,rfl,rfl,rfl,rfl,rfl,rfl,trivial⟩,⟨by simp only;omega,_,hk9,hp9.blk,hrow9⟩,by simp only;omega⟩
   ·have hil2:i=xs.length:=by omega
    rw [hil2,List.take_length] at hrow
    rw [hil2] at hb8
    conv=>whnf
    (repeat' ((first|(refine Ah (by first|assumption|omega) ?_)|fail)<;>conv=>whnf))
    exact ⟨rfl,(D1,d1),⟨rfl,rfl,rfl,rfl,rfl,rfl,rfl,trivial⟩,bs,hkj,hb8,hrow⟩
  ·clear hb8
   rintro ⟨D1,d1⟩ G2 wT ⟨bs,hkT,hb8,hrow⟩
   simp only at hb8 hrow
   have hFXT:=hFX.kept hkT (by simp;exact n8.1) (by simp;exact n8.2.1) (by simp;exact n8.2.2.1) (by simp;exact n8.2.2.2.1)
   have hb6:=hkT.blk hb6 (by simp;exact n8.2.2.2.2)
   have hBT:Below w.heap.size w wT:=hkT.below hBS hBS.size (fun k hk=>by simp at hk;subst hk;exact h8S.1)
   have hszT:=hkT.size
   have hl3:=Ae hFXT.box
   have hl9:=Ae hFXT.wc
   have hlw:=Ae hFXT.wr
   have hlA:=Ae hFXT.fn
   have hl6:=Ae hb6
   conv=>whnf
   skip
   refine M5 rfl rfl rfl rfl ?_
   intro gm wU hgm hwU hBU
   have hMU:BMap wU gm [] 0:=by rw [hgm];exact StrB.made hwU
   have hFXU:=hFXT.up hBU
   have hb6:=Ac hBU hb6
   have hb8:=Ac hBU hb8
   have hrowT:=hrow
   have hrow:=hrow.below hBU
   have hBU0:=Ax hBT hBU
   have hcells:∀ b∈bs++(Value.slice D1 xs.length d1).ownBlock.toList,wS.heap.size<=b/\b<gm:=fun b hb=>by
    rw [hgm]
    rcases List.mem_append.1 hb with hb|hb
    ·exact hrowT.lt b hb
    ·exact hrowT.olt b (Bi hb)
   have hne:(g3≠gm/\g9≠gm/\gw≠gm/\gA≠gm/\g6≠gm)/\g8<gm/\gm<wU.heap.size:=⟨⟨by omega,by omega,by omega,by omega,by omega⟩,by omega,hMU.lt⟩
   have hszU:=hBU.size
   have hl6':=hl6
   clear hrowT hgm hwU hBU hFXT hBT hkT hl3 hl9 hlw hlA
   refine Ab Aa ?_
   conv=>whnf
   (repeat' ((first|refine Aj Aa hFXU.box rfl rfl rfl rfl rfl rfl rfl (Ab Aa ?_)|fail)<;>conv=>whnf))
   refine C8 4 (fun _ _=>False) (X:=Option Addr×Nat) (fun _=>[(6,.pointer (some ⟨g6,0,none⟩)),(8,.pointer (some ⟨g8,0,none⟩)),(9,.pointer (some ⟨g9,0,none⟩))]) (fun x wj=>∃ bs2,Kept [g8,gm] wU wj/\wj.heap[g8]?=some (.cells #[.int .i64 (F7 wh n:Int),.slice D1 xs.length d1,.slice x.1 (Hv wh less ys).length x.2] 35 (0,0))/\GRow 4 Rr 77 wU.heap.size wj (.slice x.1 (Hv wh less ys).length x.2) (Hv wh less ys) bs2) ?_ (fun _ _ h=>h.elim) ?_
   ·refine Am Aa (X:=Nat×Option Addr×Nat) (fun x=>[(2,.bool less),(3,.pointer (some ⟨g3,0,none⟩)),(6,.pointer (some ⟨g6,0,none⟩)),(8,.pointer (some ⟨g8,0,none⟩)),(9,.pointer (some ⟨g9,0,none⟩)),(15,.pointer (some ⟨gA,0,none⟩)),(16,Adx gA),(19,.map (some gm)),(89,.slice A2 ys.length c2),(90,.int .i64 (ys.length:Int)),(91,.int .i64 (x.1:Int))]) (fun x wj=>x.1<=ys.length/\∃ bs2 keys m,m<=x.1/\Kept [g8,gm] wU wj/\wj.heap[g8]?=some (.cells #[.int .i64 (F7 wh n:Int),.slice D1 xs.length d1,.slice x.2.1 (Hv wh less (ys.take x.1)).length x.2.2] 35 (0,0))/\GRow 4 Rr 77 wU.heap.size wj (.slice x.2.1 (Hv wh less (ys.take x.1)).length x.2.2) (Hv wh less (ys.take x.1)) bs2/\BMap wj gm keys m/\(∀ k,k∈keys↔∃ y∈Hv wh less (ys.take x.1),k=Fk (Mu y))/\∀ y∈Hv wh less (ys.take x.1),Yt y) (fun x=>ys.length - x.1) (0,none,0) ⟨rfl,rfl,rfl,rfl,rfl,rfl,rfl,rfl,rfl,rfl,rfl,trivial⟩ ⟨by simp,[],[],0,Nat.le_refl _,Kept.refl _ _,hb8,GRow.nil ..,hMU,by simp [Hv],by simp [Hv]⟩ ?_
    clear hb8 hMU
    rintro ⟨i,D2,d2⟩ G3 wj ⟨hi,bs2,keys,m,hm,hkj,hb8,hrw,hMj,hkeys,hrng⟩
    simp only at hi hm hb8 hrw hkeys hrng
    have hBj:Below w.heap.size w wj:=hkj.below hBU0 hBU0.size (fun k hk=>by simp at hk;rcases hk with rfl|rfl<;>omega)
    have hFXj:=hFXU.kept hkj (by simp;exact ⟨n8.1,hne.1.1⟩) (by simp;exact ⟨n8.2.1,hne.1.2.1⟩) (by simp;exact ⟨n8.2.2.1,hne.1.2.2.1⟩) (by simp;exact ⟨n8.2.2.2.1,hne.1.2.2.2.1⟩)
    by_cases hil:i<ys.length
    ·obtain ⟨x,ad,B,c,⟨hx⟩,hA2,hcs,hlc,⟨hRB⟩,hk0,hk255,ha1,hb1⟩:=Qj (h2.up Ck hBj) i hil
     subst hA2
     have hxm:x∈ys:=by rw [<- hx,getElem!_pos ys i hil];exact List.getElem_mem hil
     obtain ⟨hxk,hxa,hxb,hxl,hxr,_⟩:=hcon x hxm
     have har:=Jn hwr hxa.2
     obtain ⟨out,hout⟩:∃ out,out=Hv wh less (ys.take i):=⟨_,rfl⟩
     have hnx:Hv wh less (ys.take (i+1))=Dw wh less out x:=by rw [Ad5 hil,<- hout,hx]
     have holen:out.length<=i:=by rw [hout];have:=Vp wh less (ys.take i);rw [List.length_take] at this;omega
     rw [<- hout] at hb8 hrw hkeys hrng
     clear hout
     conv=>whnf
     (repeat' ((first|refine Al Aa 77 4 rfl rfl rfl rfl rfl rfl rfl (by omega) (Ab Aa ?_)|refine E0 Aa hcs rfl rfl rfl rfl rfl rfl (Ab Aa ?_)|(refine Ag (by first|assumption|omega) ?_)|fail)<;>conv=>whnf))
     refine Bm Aa rfl rfl rfl rfl rfl rfl ?_
     intro g21 wk hn21
     refine Ab Aa ?_
     conv=>whnf
     refine Di Aa hn21.blk rfl rfl rfl rfl rfl (by simp [Value.oneCell']) rfl rfl ?_
     intro wl hpl
     have hb21:wl.heap[g21]?=some (.cells #[.int .u8 x.k,.int .i64 x.a,.int .i64 x.b,.slice B x.args.length c] 77 (0,0)):=hpl.blk
     have hBjl:Below wj.heap.size wj wl:=hpl.below hn21.below (by have:=hn21.at_;omega) (by have:=hn21.size;omega)
     have hFXl:=hFXj.up hBjl
     have hRBl:=hRB.up (Bj _) hBjl
     clear hpl hn21
     refine Ab Aa ?_
     conv=>whnf
     have hat:∀ W,Below wl.heap.size wl W->Calls Tryz.prog 74 #[.int .i64 x.a,.pointer (some ⟨g9,0,none⟩)] W fun e w'=>e=.returned (.int .i64 (atF wh x.a))/\Below W.heap.size W w':=fun W hb=>Ak1 (hFXl.up hb).wc (hFXl.up hb).wr x.a hxa.2
     have hal:∀ W,Below wl.heap.size wl W->Calls Tryz.prog 75 #[.slice B x.args.length c,.pointer (some ⟨gA,0,none⟩)] W fun e w'=>∃ E ec,e=.returned (.slice E x.args.length ec)/\GInts wl.heap.size w' (.slice E x.args.length ec) (x.args.map (atF wh))/\Below W.heap.size W w':=fun W hb=>by
      have hF:=hFXl.up hb
      refine (Ap6 hF.wc hF.wr hF.fn x.args B c (hRBl.up (Bj _) hb) (fun y hy=>(hxr y hy).2) hxl hwr hn).mono ?_
      rintro e w' ⟨E,ec,h3,h4,h5⟩
      exact ⟨E,ec,h3,h4.lower hb.size,h5⟩
     refine Jv (X:=Nat×Option Addr×Nat) (fun z=>[(2,.bool less),(3,.pointer (some ⟨g3,0,none⟩)),(6,.pointer (some ⟨g6,0,none⟩)),(8,.pointer (some ⟨g8,0,none⟩)),(9,.pointer (some ⟨g9,0,none⟩)),(15,.pointer (some ⟨gA,0,none⟩)),(16,Adx gA),(19,.map (some gm)),(21,.pointer (some ⟨g21,0,none⟩)),(22,.pointer (some ⟨z.1,0,none⟩)),(89,.slice (some ad) ys.length c2),(90,.int .i64 (ys.length:Int)),(91,.int .i64 (i:Int))])
      (fun z W=>Below wl.heap.size wl W/\wl.heap.size<=z.1/\W.heap[z.1]?=some (.cells #[.int .u8 x.k,.int .i64 (atF wh x.a),.int .i64 x.b,.slice z.2.1 x.args.length z.2.2] 77 (0,0))/\GInts wl.heap.size W (.slice z.2.1 x.args.length z.2.2) (x.args.map (atF wh))) ?_ ?_
     ·refine Em [0,1,2,3,4,6,7,8,9,10] 4 14 (Be _) Aa mixed (by kernel_rfl) (Below.refl _ _) ?_;(conv=>whnf)
      (repeat' ((first|refine Bg Aa hb21 rfl rfl rfl rfl rfl rfl rfl (Ad Aa ?_)|refine Bg Aa hFXl.fn rfl rfl rfl rfl rfl rfl rfl (Ad Aa ?_)|fail)<;>conv=>whnf))
      intro W hC hBW
      clear hBW
      conv=>whnf
      repeat' (first
       |exact True.intro
       |(refine And.intro ?_ ?_<;>conv=>whnf)
       |(refine Wf (first:=[]) (args:=[.int .i64 x.a]) (caps:=[.pointer (some ⟨g9,0,none⟩)]) Aj0 (hat _ hC) rfl rfl rfl rfl rfl rfl ?_;rintro _ Wa ⟨rfl,hBa⟩;refine ⟨_,rfl,Ax hC hBa,fun W hW hC=>?_⟩;(try have fR:=fR.below (Ax hBa hW));(try have f13:=Ac (Ax hBa hW) f13);clear hW hBa;conv=>whnf)
       |(refine Wf (first:=[]) (args:=[.slice B x.args.length c]) (caps:=[.pointer (some ⟨gA,0,none⟩)]) Ba8 (hal _ hC) rfl rfl rfl rfl rfl rfl ?_;rintro _ Wa ⟨E,ec,rfl,fR,hBa⟩;refine ⟨_,rfl,Ax hC hBa,fun W hW hC=>?_⟩;have fR:=fR.below hW;(try have f13:=Ac (Ax hBa hW) f13);clear hW hBa;conv=>whnf)
       |(refine Hh (La Aa rfl rfl rfl rfl rfl ?_);intro g22 Wa hna;have hg22:wl.heap.size<=g22:=(by have:=hna.at_;have:=hC.size;omega);refine ⟨Ax hC hna.below,fun W hW hC=>?_⟩;(try have fR:=fR.below (Ax hna.below hW));have f13:=Ac hW hna.blk;clear hW hna;conv=>whnf)
       |(refine Uq Aa rfl rfl rfl ?_;refine ⟨hC,fun W hW hC=>?_⟩;(try have fR:=fR.below hW);(try have f13:=Ac hW f13);clear hW;conv=>whnf))
      all_goals
       refine Di Aa f13 rfl rfl rfl rfl rfl (by simp [Value.oneCell']) rfl rfl ?_
       intro w9 hp9
       refine Ab Aa ?_
       conv=>whnf
       exact ⟨(g22,E,ec),⟨rfl,rfl,rfl,rfl,rfl,rfl,rfl,rfl,rfl,rfl,rfl,rfl,rfl,trivial⟩,hp9.below hC hg22 hC.size,hg22,hp9.blk,fR.other hp9.grown (by simp) (fun k hk e=>by
        obtain ⟨fl,o1,_⟩:=fR.own
        obtain ⟨cur,h9⟩:=Lp o1 hk
        rw [e,f13] at h9
        simp only [Option.some.injEq,Obj.cells.injEq] at h9
        exact absurd h9.2.1 (by decide))⟩
     ·rintro ⟨g22,E,ec⟩ G4 wa ⟨hBa,hg22,hb22,hE⟩
      simp only at hg22 hb22 hE
      have hb21a:=Ac hBa hb21
      have hFXa:=hFXl.up hBa
      obtain ⟨y,hy⟩:∃ y,y=Fj wh x:=⟨_,rfl⟩
      have hyk:y.k=x.k:=by rw [hy];rfl
      have hya:y.a=atF wh x.a:=by rw [hy];rfl
      have hyb:y.b=if x.k=1 then x.b else atF wh x.b:=by rw [hy];rfl
      have hyr:y.args=x.args.map (atF wh):=by rw [hy];rfl
      have hyl:y.args.length=x.args.length:=by rw [hyr,List.length_map]
      rw [<- hyr] at hE
      rw [<- hya,<- hyk] at hb22
      have hEne:∀ k,(Value.slice E x.args.length ec).ownBlock=some k->∀ W:World,Below wa.heap.size wa W->True:=fun _ _ _ _=>trivial
      conv=>whnf
      refine Aj Aa hb21a rfl rfl rfl rfl rfl rfl rfl (Alz Aa rfl rfl rfl rfl (N9 ?_))
      refine Pb (X:=Unit) (fun _=>[(2,.bool less),(3,.pointer (some ⟨g3,0,none⟩)),(6,.pointer (some ⟨g6,0,none⟩)),(8,.pointer (some ⟨g8,0,none⟩)),(9,.pointer (some ⟨g9,0,none⟩)),(15,.pointer (some ⟨gA,0,none⟩)),(16,Adx gA),(19,.map (some gm)),(22,.pointer (some ⟨g22,0,none⟩)),(89,.slice (some ad) ys.length c2),(90,.int .i64 (ys.length:Int)),(91,.int .i64 (i:Int))])
       (fun _ W=>Below wl.heap.size wl W/\W.heap[g22]?=some (.cells #[.int .u8 y.k,.int .i64 y.a,.int .i64 y.b,.slice E x.args.length ec] 77 (0,0))/\GInts wl.heap.size W (.slice E x.args.length ec) y.args) ?_ ?_
      ·clear hb22 hE hBa hb21a hFXa
       rintro _ G5 wa2 ⟨hBa,hb22,hE⟩
       have hyRng:Yt y:=by
        refine ⟨by rw [hyk];exact hxk,?_,?_,fun z hz=>?_⟩
        ·rw [hya];unfold Yx;omega
        ·rw [hyb]
         unfold Yx
         by_cases e:x.k=1
         ·rw [if_pos e];have:=hxb.2.1 e;omega
         ·rw [if_neg e];have:=Jn hwr (hxb.2.2 e);omega
        ·rw [hyr] at hz
         obtain ⟨q,hq,rfl⟩:=List.mem_map.1 hz
         have:=Jn hwr (hxr q hq).2
         unfold Yx
         omega
       have hyb2:=hyRng.2.2.1
       have hya2:=hyRng.2.1
       unfold Yx at hyb2 hya2
       have hkc:=Bh6 y E ec wa2 hyRng.1 ⟨by omega,by omega⟩ ⟨by omega,by omega⟩ hE.rowAt.2.2 (by omega)
       rw [hyl] at hkc
       obtain ⟨KS,hKS⟩:∃ K,K=Fk (Mu y):=⟨_,rfl⟩
       have hKsz:KS.size<=maxLen:=by
        rw [hKS,Xr]
        unfold Mu maxLen
        rw [List.length_cons,Tc]
        simp only [List.length_append,List.length_cons,List.length_nil]
        omega
       rw [<- hKS] at hkc
       have hBj2:=Ax hBjl hBa
       have hMa:=hMj.up hBj2
       have hka:=hkj.up hBj2
       have hb8a:=Ac hBj2 hb8
       have hrwa:=hrw.below hBj2
       have hszj:=hkj.size
       have hszl:=hBjl.size
       have hgml:gm<wl.heap.size/\g8<wl.heap.size/\wU.heap.size<=wl.heap.size:=⟨by omega,by omega,by omega⟩
       conv=>whnf
       (repeat' ((first|refine C6 Aa hb22 rfl rfl rfl rfl rfl rfl (Ab Aa ?_)|fail)<;>conv=>whnf))
       refine Bv Bp5 hkc rfl rfl rfl rfl rfl rfl rfl ?_
       rintro _ wb ⟨rfl,hBb⟩
       have hb22:=Ac hBb hb22
       have hE:=hE.below hBb
       have hMa:=hMa.up hBb
       have hka:=hka.up hBb
       have hb8a:=Ac hBb hb8a
       have hrwa:=hrwa.below hBb
       have hBa:=Ax hBa hBb
       clear hBb hkc
       refine ⟨_,rfl,Ab Aa ?_⟩
       have hlc:less=true\/less=false:=by cases less<;>simp
       rcases hlc with hle|hle
       case' inl=>
        have hemc:=Ai7 y E ec wb hyRng.1
        rw [hyl] at hemc
        obtain ⟨em,hem⟩:∃ em,em=Dv y:=⟨_,rfl⟩
        rw [<- hem] at hemc
        conv=>whnf
        (repeat' ((first|refine C6 Aa hb22 rfl rfl rfl rfl rfl rfl (Ab Aa ?_)|refine Ahy (by assumption) ?_|fail)<;>conv=>whnf))
        refine Bv Bm1 hemc rfl rfl rfl rfl rfl rfl rfl ?_
        rintro _ wc ⟨rfl,hBc⟩
        have hb22:=Ac hBc hb22
        have hE:=hE.below hBc
        have hMa:=hMa.up hBc
        have hka:=hka.up hBc
        have hb8a:=Ac hBc hb8a
        have hrwa:=hrwa.below hBc
        have hBa:=Ax hBa hBc
        clear hBc hemc
        refine ⟨_,rfl,Ab Aa ?_⟩
        have hemb:em=true\/em=false:=by cases em<;>simp
        rcases hemb with hemt|hemt
        ·have hst:Hv wh less (ys.take (i+1))=out:=by
          rw [hnx]
          unfold Dw
          rw [<- hy,<- hem,hemt,hle]
          rfl
         conv=>whnf
         (repeat' ((first|refine Af rfl rfl rfl rfl rfl rfl (by omega) (by omega) (Ab Aa ?_)|refine Ahy (by assumption) ?_|fail)<;>conv=>whnf))
         exact ⟨(i+1,D2,d2),⟨rfl,rfl,rfl,rfl,rfl,rfl,rfl,rfl,rfl,rfl,rfl,trivial⟩,⟨by simp only;omega,bs2,keys,m,by simp only;omega,hka,by simp only [hst];exact hb8a,by simp only [hst];exact hrwa,hMa,by simp only [hst];exact hkeys,by simp only [hst];exact hrng⟩,by simp only;omega⟩
        have hlk:=hMa.look Anq (Be5 _) hKsz
        obtain ⟨sn,hsn⟩:∃ sn,sn=inB keys KS:=⟨_,rfl⟩
        rw [<- hsn] at hlk
        have hsn2:sn=true↔y∈out:=by
         rw [hsn,inB_iff,hkeys]
         constructor
         ·rintro ⟨z,hz,e⟩
          rw [Af4 hyRng (hrng z hz) (by rw [<- hKS,e])]
          exact hz
         ·exact fun h=>⟨y,h,hKS⟩
        conv=>whnf
        (repeat' ((first|refine Ah8 (by assumption) ?_|fail)<;>conv=>whnf))
        refine Apy hlk rfl rfl rfl rfl rfl rfl ?_
        refine Ab Aa ?_
        have hsnb:sn=true\/sn=false:=by cases sn<;>simp
        rcases hsnb with hsnt|hsnt
        ·have hst:Hv wh less (ys.take (i+1))=out:=by
          rw [hnx]
          unfold Dw
          rw [<- hy,hle,inC_iff.2 (hsn2.1 hsnt),Bool.or_true]
          rfl
         conv=>whnf
         (repeat' ((first|refine Af rfl rfl rfl rfl rfl rfl (by omega) (by omega) (Ab Aa ?_)|refine Ahy (by assumption) ?_|fail)<;>conv=>whnf))
         exact ⟨(i+1,D2,d2),⟨rfl,rfl,rfl,rfl,rfl,rfl,rfl,rfl,rfl,rfl,rfl,trivial⟩,⟨by simp only;omega,bs2,keys,m,by simp only;omega,hka,by simp only [hst];exact hb8a,by simp only [hst];exact hrwa,hMa,by simp only [hst];exact hkeys,by simp only [hst];exact hrng⟩,by simp only;omega⟩
        have hst:Hv wh less (ys.take (i+1))=out++[y]:=by
         rw [hnx]
         unfold Dw
         have hni:inC out y=false:=Bool.eq_false_iff.2 fun h=>by
          have:=hsn2.2 (inC_iff.1 h)
          rw [hsnt] at this
          cases this
         rw [<- hy,<- hem,hemt,hle,hni]
         rfl
        conv=>whnf
        (repeat' ((first|refine Ah8 (by assumption) ?_|fail)<;>conv=>whnf))
       case' inr=>
        have hst:Hv wh less (ys.take (i+1))=out++[y]:=by
         rw [hnx]
         unfold Dw
         rw [<- hy,hle]
         rfl
        conv=>whnf
        (repeat' ((first|refine Ah8 (by assumption) ?_|fail)<;>conv=>whnf))
       all_goals
        have hMs:=hMa.lt
        refine J7 (hMa.put Anq (by unfold maxLen;omega) hKsz) rfl rfl rfl rfl rfl rfl ?_
        rintro we ⟨hMe,hge⟩
        have hb22e:=(hge.block g22 (Ae hb22) (fun e=>by injection e with e;omega)).trans hb22
        have hb8e:=(hge.block g8 (Ae hb8a) (fun e=>by injection e with e;omega)).trans hb8a
        have hEe:=hE.other hge (by simp) (fun k hk=>by have:=(hE.olt k hk).1;omega)
        have hrwe:=hrwa.other hge (fun b hb=>by have:=(hrwa.lt b hb).1;omega) (fun k hk=>by have:=(hrwa.olt k hk).1;omega)
        have hke:=hka.grown hge (fun g e=>by injection e with e;subst e;exact .inl (by simp))
        have hsze:=hge.size
        have hszB:=hBa.size
        refine Ab Aa ?_
        conv=>whnf
        (repeat' ((first|refine Aj Aa hb8e rfl rfl rfl rfl rfl rfl rfl (Ab Aa ?_)|refine C6 Aa hb22e rfl rfl rfl rfl rfl rfl (Ab Aa ?_)|fail)<;>conv=>whnf))
        refine C7 Aa 77 4 rfl rfl rfl rfl rfl rfl rfl rfl rfl rfl ?_
        intro gn wf hnf
        have hbn:=hnf.blk
        have hb8f:=Ac hnf.below hb8e
        have hEf:=hEe.below hnf.below
        have hrwf:=hrwe.below hnf.below
        have hkf:=hke.up hnf.below
        have hMf:=hMe.up hnf.below
        have hszf:=hnf.size
        clear hnf hge
        refine Ab Aa ?_
        conv=>whnf
        obtain ⟨flat,o1,o2⟩:=hrwf.own
        refine Cu Aa 77 4 48 o1 hbn rfl rfl rfl rfl rfl rfl rfl rfl rfl rfl rfl rfl (by simp [Value.oneCell']) (by omega) (by omega) (by omega) ?_
        intro E2 ec2 wg hown hgr hob
        refine Ab Aa ?_
        conv=>whnf
        have hrwg:=hrwf.push (x:=y) (bs':=(Value.slice E x.args.length ec).ownBlock.toList) o2 hown hgr hob rfl (fun w' hw'=>Fb hEf y.k y.a y.b ⟨by have:=hyRng.1;omega,by have:=hyRng.1;omega⟩ ⟨by omega,by omega⟩ ⟨by omega,by omega⟩ w' hw') (fun b hb=>by have:=hEf.olt b (Bi hb);exact ⟨by omega,this.2⟩) (fun b hb e=>by
         have h3:=(hEf.olt b (Bi hb)).1
         have h4:=(hrw.olt b e.symm).2
         omega)
        have hb8g:wg.heap[g8]?=_:=(hgr.block g8 (Ae hb8f) (fun e=>by have:=(hrw.olt g8 e.symm).1;omega)).trans hb8f
        refine Dd (off:=2) (v:=.slice E2 (out.length+1) ec2) Aa hb8g rfl rfl rfl rfl rfl rfl (by simp) rfl rfl ?_
        intro wh9 hp9
        have hrw9:=hrwg.other hp9.grown (fun b hb=>by
         rcases List.mem_append.1 hb with hb|hb
         ·have:=(hrw.lt b hb).1;omega
         ·have:=(hEf.olt b (Bi hb)).1;omega) (fun k hk=>by have:=(hrwg.olt k hk).1;omega)
        have hk9:=(hkf.grown hgr (fun g e=>.inr (hrw.olt g e).1)).put hp9 (.inl (by simp))
        have hM9:=(hMf.kept hgr (fun e=>by have:=(hrw.olt gm e.symm).1;omega)).kept hp9.grown (fun e=>by injection e with e;omega)
        have hl9:(out++[y]).length=out.length+1:=by simp
        refine Ab Aa ?_
        conv=>whnf
        (repeat' ((first|refine Af rfl rfl rfl rfl rfl rfl (by omega) (by omega) (Ab Aa ?_)|fail)<;>conv=>whnf))
        exact ⟨(i+1,E2,ec2),⟨rfl,rfl,rfl,rfl,rfl,rfl,rfl,rfl,rfl,rfl,rfl,trivial⟩,⟨by simp only;omega,_,keys++[KS],m+1,by simp only;omega,hk9,by simp only [hst,hl9];exact hp9.blk,by simp only [hst,hl9];exact hrw9,hM9,fun q=>by
         simp only [hst]
         rw [List.mem_append,hkeys,List.mem_singleton]
         constructor
         ·rintro (⟨z,hz,e⟩|e)
          ·exact ⟨z,by simp [hz],e⟩
          ·exact ⟨y,by simp,by rw [e,hKS]⟩
         ·rintro ⟨z,hz,e⟩
          rcases List.mem_append.1 hz with hz|hz
          ·exact .inl ⟨z,hz,e⟩
          ·simp at hz
           subst hz
           exact .inr (by rw [e,hKS]),fun z hz=>by
         simp only [hst] at hz
         rcases List.mem_append.1 hz with hz|hz
         ·exact hrng z hz
         ·simp at hz
          subst hz
          exact hyRng⟩,by simp only;omega⟩
      ·intro yv hyv
       by_cases hk1:x.k=1
       ·rw [if_pos hk1] at hyb
        rw [<- hyb] at hb22
        conv=>whnf
        (repeat' ((first|(refine Ah (by first|assumption|omega) ?_)|fail)<;>conv=>whnf))
        exact hyv () _ _ ⟨rfl,rfl,rfl,rfl,rfl,rfl,rfl,rfl,rfl,rfl,rfl,rfl,trivial⟩ ⟨hBa,hb22,hE⟩
       ·rw [if_neg hk1] at hyb
        conv=>whnf
        (repeat' ((first|refine Aj Aa hb21a rfl rfl rfl rfl rfl rfl rfl (Ab Aa ?_)|refine Aj Aa hFXa.fn rfl rfl rfl rfl rfl rfl rfl (Ab Aa ?_)|(refine Ag (by first|assumption|omega) ?_)|fail)<;>conv=>whnf))
        refine I6 (first:=[]) (args:=[.int .i64 x.b]) (caps:=[.pointer (some ⟨g9,0,none⟩)]) Aj0 (Ak1 hFXa.wc hFXa.wr x.b (hxb.2.2 hk1)) rfl rfl rfl rfl rfl rfl rfl ?_
        rintro _ wb ⟨rfl,hBb⟩
        refine ⟨_,rfl,Ab Aa ?_⟩
        conv=>whnf
        refine Dd (off:=2) (v:=.int .i64 (atF wh x.b)) Aa (Ac hBb hb22) rfl rfl rfl rfl rfl rfl (by simp) rfl rfl ?_
        intro wc hpc
        refine Ab Aa ?_
        conv=>whnf
        have hBc:=hpc.below (Ax hBa hBb) hg22 (Ax hBa hBb).size
        exact hyv () _ _ ⟨rfl,rfl,rfl,rfl,rfl,rfl,rfl,rfl,rfl,rfl,rfl,rfl,trivial⟩ ⟨hBc,by rw [hyb];exact hpc.blk,(hE.below hBb).other hpc.grown (by simp) (fun k hk e=>by
         obtain ⟨fl,o1,_⟩:=hE.own
         obtain ⟨cur,h9⟩:=Lp o1 hk
         rw [e,hb22] at h9
         simp only [Option.some.injEq,Obj.cells.injEq] at h9
         exact absurd h9.2.1 (by decide))⟩
    ·have hil2:i=ys.length:=by omega
     rw [hil2,List.take_length] at hrw hb8
     conv=>whnf
     (repeat' ((first|(refine Ah (by first|assumption|omega) ?_)|fail)<;>conv=>whnf))
     exact ⟨rfl,(D2,d2),⟨rfl,rfl,rfl,trivial⟩,bs2,hkj,hb8,hrw⟩
   ·clear hb8 hMU
    rintro ⟨D2,d2⟩ G3 wj ⟨bs2,hkj,hb8,hrw⟩
    simp only at hb8 hrw
    have hFXj:=hFXU.kept hkj (by simp;exact ⟨n8.1,hne.1.1⟩) (by simp;exact ⟨n8.2.1,hne.1.2.1⟩) (by simp;exact ⟨n8.2.2.1,hne.1.2.2.1⟩) (by simp;exact ⟨n8.2.2.2.1,hne.1.2.2.2.1⟩)
    have hb6j:=hkj.blk hb6 (by simp;exact ⟨n8.2.2.2.2,hne.1.2.2.2.2⟩)
    have hBj:Below w.heap.size w wj:=hkj.below hBU0 hBU0.size (fun k hk=>by simp at hk;rcases hk with rfl|rfl<;>omega)
    have hg68:g8≠g6:=n8.2.2.2.2.symm
    have k8:∀ w',Kr wj [g6] w'->Cw w' ⟨g8,0,none⟩ 0 [.int .i64 (F7 wh n:Int),.slice D1 xs.length d1,.slice D2 (Hv wh less ys).length d2]:=fun w' h'=>Cr (h'.blk hb8 (by simp;exact hg68)) _ 0 0 (by simp)
    have k9:∀ w',Kr wj [g6] w'->w'.heap[g9]?=_:=fun w' h'=>h'.blk hFXj.wc (by simp;omega)
    have hrx:=hrow.agree (w':=wj) (fun b hb=>hkj.block b (by have:=hcells b hb;omega) (by simp;have:=hcells b hb;omega))
    conv=>whnf
    refine Em [0,1] 1 3 (Fu _ ([g6])) Aa mixed (by kernel_rfl) (Kept.refl _ _) ?_;(conv=>whnf)
    (repeat' ((first|refine D6 Aa k9 rfl rfl rfl rfl rfl rfl rfl (Ad Aa ?_)|refine T9 Aa k8 rfl rfl rfl rfl rfl rfl (Ad Aa ?_)|fail)<;>conv=>whnf))
    intro W hC hBW
    conv=>whnf
    refine And.intro ?_ True.intro
    conv=>whnf
    refine Ao3 Aa (Ac hBW hb6j) rfl rfl rfl rfl rfl (by simp [Value.oneCell']) rfl ?_
    intro W1 hp1
    refine ⟨hC.put hp1 (.inl (by simp)),fun W2 hB2 hC2=>?_⟩
    conv=>whnf
    skip
    refine As5 Aa rfl (Ac hB2 hp1.blk) rfl rfl rfl ?_
    have hres:∀ b,wS.heap.size<=b->b∉[g6]:=fun b hb h=>by simp at h;omega
    have hwrW:=hC2.blk hFXj.wr (by simp;omega)
    have hxW:=hrx.agree (w':=W2) (fun b hb=>hC2.block b (by
     have h3:=hcells b hb
     have:=hkj.size
     omega) (hres b (hcells b hb).1))
    have hyb:∀ b∈bs2++(Value.slice D2 (Hv wh less ys).length d2).ownBlock.toList,wU.heap.size<=b/\b<wj.heap.size:=fun b hb=>by
     rcases List.mem_append.1 hb with hb|hb
     ·exact hrw.lt b hb
     ·exact hrw.olt b (Bi hb)
    have hyW:=hrw.agree (w':=W2) (fun b hb=>hC2.block b (hyb b hb).2 (hres b (by have:=(hyb b hb).1;omega)))
    have hs2:=hC2.size
    have hsj:=hkj.size
    have hap:APR w.heap.size W2.heap.size W2 n xs ys wh less gw D1 d1 D2 d2:=⟨hwrW,⟨by omega,Ae hwrW⟩,⟨bs,hxW.lower (by omega),fun b hb=>by have:=hcells b hb;omega⟩,⟨bs2,hyW.lower (by omega),fun b hb=>by have:=hyb b hb;omega⟩⟩
    exact ⟨gw,wh,D1,d1,D2,d2,rfl,hap,hcan,hC2.below hBj hBj.size (fun k hk=>by simp at hk;subst hk;omega)⟩
theorem Ar4 (g m:Nat)(w:World)(hb:w.heap[g]?=some (.cells #[.int .i64 (m:Int)] 3 (0,0)))(hm:m<9223372036854775807) :
  Calls Tryz.prog 119 #[.pointer (some ⟨g,0,none⟩)] w fun e w'=>e=.returned (.int .i64 (m:Int))/\Put w w' g [.int .i64 ((m+1:Nat):Int)] 3:=by
 refine A9 (args:=[.pointer (some ⟨g,0,none⟩)]) Aa Tryz.func119 rfl Tryz.ntmps119 rfl ?_;conv=>whnf
 (repeat' ((first|refine Aj Aa hb rfl rfl rfl rfl rfl rfl rfl (Ab Aa ?_)|refine Af rfl rfl rfl rfl rfl rfl (by omega) (by omega) (Ab Aa ?_)|fail)<;>conv=>whnf))
 refine Dd (off:=0) (v:=.int .i64 ((m+1:Nat):Int)) Aa hb rfl rfl rfl rfl rfl rfl (by simp) rfl rfl ?_
 intro w1 hp
 refine Ab Aa ?_
 conv=>whnf
 have hb1:w1.heap[g]?=some (.cells #[.int .i64 ((m+1:Nat):Int)] 3 (0,0)):=hp.blk
 (repeat' (first|refine Cg rfl rfl ?_|(first|refine Aj Aa hb1 rfl rfl rfl rfl rfl rfl rfl (Ab Aa ?_)|refine Jk rfl rfl rfl rfl rfl rfl (by omega) (by omega) (Ab Aa ?_)|fail)<;>conv=>whnf))
 exact ⟨by congr 2;omega,hp⟩
def Fe (S W:List Int)(f:Int->Option Nat)(m:Nat):Int×Nat×(Int->Option Nat):=
 match S with
 |x::_=>(x,m,f)
 |[]=>match W with
  |o::_=>match f o with
   |some q=>((q:Int),m,f)
   |none=>((m:Int),m+1,Po f o m)
  |[]=>(-1,m,f)
def Dq (S W:List Int)(loose:Bool)(f:Int->Option Nat)(m:Nat):Int×Nat×(Int->Option Nat):=
 if loose=true\/1<W.length\/1<S.length\/(W.length=1/\S.length=1) then ((m:Int),m+1,f) else Fe S W f m
def Dl (gn:Nat):Value:=.func (.func 119) #[] #[.pointer (some ⟨gn,0,none⟩)]
structure OL (w w':World)(gn bo:Nat)(m:Nat)(f:Int->Option Nat)(no:Nat):Prop where
 cell:w'.heap[gn]?=some (.cells #[.int .i64 (m:Int)] 3 (0,0))
 obj:INum w' bo f no
 kept:Kept [gn,bo] w w'
theorem OL.mono {w w':World}{gn bo m no:Nat}{f:Int->Option Nat}(h:OL w w' gn bo m f (no+1)):OL w w' gn bo m f (no+2):=⟨h.cell,by obtain ⟨D,q1,q2⟩:=h.obj.ex;exact ⟨D,q1.mono (by omega),q2⟩,h.kept⟩
theorem INum.ne {w:World}{bo gn no:Nat}{f:Int->Option Nat}{cs:Array Value}{t:TypeId}{fr:Nat×Nat}(h:INum w bo f no)(hg:w.heap[gn]?=some (.cells cs t fr)):bo≠gn:=by
 obtain ⟨D,⟨es,clock,hb,_⟩,_⟩:=h.ex
 intro e
 rw [e,hg] at hb
 cases hb
theorem Rv {S W:List Int}{loose:Bool}{f:Int->Option Nat}{m:Nat}(h:loose=true\/1<W.length\/1<S.length\/(W.length=1/\S.length=1)):Dq S W loose f m=((m:Int),m+1,f):=if_pos h
theorem Au3 {w:World}{bs bw bo gn ns nw no m:Nat}{S W:List Int}{f:Int->Option Nat}(loose:Bool)(hS:ISet w bs S ns)(hW:ISet w bw W nw)(hO:INum w bo f no)(hg:w.heap[gn]?=some (.cells #[.int .i64 (m:Int)] 3 (0,0)))
  (hm:m<4611686018427387904) (hno:no<4611686018427387904) (hSi:∀ x∈S,Pu x) (hWi:∀ x∈W,Pu x) :
  Calls Tryz.prog 120 #[.map (some bs),.map (some bw),.bool loose,.map (some bo),Dl gn] w fun e w'=>e=.returned (.int .i64 (Dq S W loose f m).1)/\OL w w' gn bo (Dq S W loose f m).2.1 (Dq S W loose f m).2.2 (no+2):=by
 have hne:=hO.ne hg
 have hgl:=Ae hg
 have hol:=hO.lt
 have hfr:∀ w0,OL w w0 gn bo m f (no+1)->Calls Tryz.prog 119 #[.pointer (some ⟨gn,0,none⟩)] w0 fun e w'=>e=.returned (.int .i64 (m:Int))/\OL w w' gn bo (m+1) f (no+1):=fun w0 h0=>by
  refine (Ar4 gn m w0 h0.cell (by omega)).mono ?_
  rintro e w' ⟨he,hp⟩
  exact ⟨he,hp.blk,h0.obj.kept hp.grown (by intro e;injection e with e;exact hne e),Kept.put h0.kept hp (.inl (by simp))⟩
 have hid:OL w w gn bo m f (no+1):=⟨hg,by obtain ⟨D,q1,q2⟩:=hO.ex;exact ⟨D,q1.mono (by omega),q2⟩,Kept.refl _ _⟩
 refine A9 (args:=[.map (some bs),.map (some bw),.bool loose,.map (some bo),Dl gn]) Aa Tryz.func120 rfl Tryz.ntmps120 rfl ?_;conv=>whnf
 by_cases hc:loose=true\/1<W.length\/1<S.length\/(W.length=1/\S.length=1)
 ·rw [Rv hc]
  cases loose with
  |true=>
   conv=>whnf
   skip
   refine I6 Tg (first:=[]) (args:=[]) (caps:=[.pointer (some ⟨gn,0,none⟩)]) (hfr w hid) rfl rfl rfl rfl rfl rfl rfl ?_
   rintro _ w1 ⟨rfl,hO1⟩
   refine ⟨_,rfl,Ab Aa ?_⟩
   conv=>whnf
   (repeat' (first|refine Cg rfl rfl ?_|fail))
   exact ⟨rfl,hO1.mono⟩
  |false=>
   have hc:1<W.length\/1<S.length\/(W.length=1/\S.length=1):=hc.resolve_left (by simp)
   conv=>whnf
   by_cases h1:1<W.length
   ·(repeat' (first|(refine Dz (hW.len Fc) rfl rfl rfl rfl rfl rfl rfl rfl (Ab Aa ?_);(conv=>whnf))|(first|(refine Ag (by first|assumption|omega) ?_)|fail)<;>conv=>whnf))
    refine I6 Tg (first:=[]) (args:=[]) (caps:=[.pointer (some ⟨gn,0,none⟩)]) (hfr w hid) rfl rfl rfl rfl rfl rfl rfl ?_
    rintro _ w1 ⟨rfl,hO1⟩
    refine ⟨_,rfl,Ab Aa ?_⟩
    conv=>whnf
    (repeat' (first|refine Cg rfl rfl ?_|fail))
    exact ⟨rfl,hO1.mono⟩
   by_cases h2:1<S.length
   ·(repeat' (first|(refine Dz (hS.len Fc) rfl rfl rfl rfl rfl rfl rfl rfl (Ab Aa ?_);(conv=>whnf))|(refine Dz (hW.len Fc) rfl rfl rfl rfl rfl rfl rfl rfl (Ab Aa ?_);(conv=>whnf))|(first|refine Ag (by first|assumption|omega) ?_|refine Ah (by first|assumption|omega) ?_|fail)<;>conv=>whnf))
    refine I6 Tg (first:=[]) (args:=[]) (caps:=[.pointer (some ⟨gn,0,none⟩)]) (hfr w hid) rfl rfl rfl rfl rfl rfl rfl ?_
    rintro _ w1 ⟨rfl,hO1⟩
    refine ⟨_,rfl,Ab Aa ?_⟩
    conv=>whnf
    (repeat' (first|refine Cg rfl rfl ?_|fail))
    exact ⟨rfl,hO1.mono⟩
   have h3:W.length=1/\S.length=1:=by omega
   obtain ⟨h3,h4⟩:=h3
   (repeat' (first|(refine Dz (hS.len Fc) rfl rfl rfl rfl rfl rfl rfl rfl (Ab Aa ?_);(conv=>whnf))|(refine Dz (hW.len Fc) rfl rfl rfl rfl rfl rfl rfl rfl (Ab Aa ?_);(conv=>whnf))|(first|refine Ag (by first|assumption|omega) ?_|refine Ah (by first|assumption|omega) ?_|fail)<;>conv=>whnf))
   refine I6 Tg (first:=[]) (args:=[]) (caps:=[.pointer (some ⟨gn,0,none⟩)]) (hfr w hid) rfl rfl rfl rfl rfl rfl rfl ?_
   rintro _ w1 ⟨rfl,hO1⟩
   refine ⟨_,rfl,Ab Aa ?_⟩
   conv=>whnf
   (repeat' (first|refine Cg rfl rfl ?_|fail))
   exact ⟨rfl,hO1.mono⟩
 ·have h0:loose=false:=by cases loose<;>simp_all
  have h1:¬ 1<W.length:=fun h=>hc (.inr (.inl h))
  have h2:¬ 1<S.length:=fun h=>hc (.inr (.inr (.inl h)))
  have h3:¬ (W.length=1/\S.length=1):=fun h=>hc (.inr (.inr (.inr h)))
  have hlF:Dq S W loose f m=Fe S W f m:=if_neg hc
  rw [hlF]
  clear hlF hc
  subst h0
  have hmore:∀ w',Below w.heap.size w w'->OL w w' gn bo m f (no+1):=fun w' hb=>⟨Ac hb hg,hid.obj.up hb,Kept.of hb⟩
  cases S with
  |cons x r=>
   cases r with
   |cons y r=>exact absurd (by simp) h2
   |nil=>
    obtain ⟨w1,hr1,hB1,hnx⟩:=hS.only Fc
    conv=>whnf
    have hW0:W.length=0:=by simp at h3;omega
    (repeat' (first|(refine Dz (hS.len Fc) rfl rfl rfl rfl rfl rfl rfl rfl (Ab Aa ?_);(conv=>whnf))|(refine Dz (hW.len Fc) rfl rfl rfl rfl rfl rfl rfl rfl (Ab Aa ?_);(conv=>whnf))|(first|(refine Ah (by first|assumption|omega) ?_)|fail)<;>conv=>whnf))
    refine V7 hr1 rfl rfl rfl rfl rfl ?_
    refine Ab Aa ?_
    conv=>whnf
    refine Am Aa (X:=Unit) (fun _=>[(44,.pointer (some ⟨w.heap.size,0,none⟩))]) (fun _ wr=>wr=w1) (fun _=>0) () ⟨rfl,trivial⟩ rfl ?_
    rintro _ G wr rfl
    conv=>whnf
    obtain ⟨w2,v,hr2,hB2,hen⟩:=hnx _
    refine Ae8 hr2 rfl rfl rfl rfl rfl ?_
    refine Ab Aa ?_
    conv=>whnf
    refine Ab9 hen rfl rfl rfl rfl rfl ?_
    refine Ab Aa ?_
    conv=>whnf
    (repeat' (first|refine Cg rfl rfl ?_|fail))
    exact ⟨rfl,(hmore _ hB2).mono⟩
  |nil=>
   cases W with
   |nil=>
    conv=>whnf
    (repeat' (first|(refine Dz (hS.len Fc) rfl rfl rfl rfl rfl rfl rfl rfl (Ab Aa ?_);(conv=>whnf))|(refine Dz (hW.len Fc) rfl rfl rfl rfl rfl rfl rfl rfl (Ab Aa ?_);(conv=>whnf))|refine Cg rfl rfl ?_|fail))
    exact ⟨rfl,hid.mono⟩
   |cons o r=>
    cases r with
    |cons y r=>exact absurd (by simp) h1
    |nil=>
     have hoi:=hWi o (by simp)
     obtain ⟨w1,hr1,hB1,hnx⟩:=hW.only Fc
     conv=>whnf
     (repeat' (first|(refine Dz (hS.len Fc) rfl rfl rfl rfl rfl rfl rfl rfl (Ab Aa ?_);(conv=>whnf))|(refine Dz (hW.len Fc) rfl rfl rfl rfl rfl rfl rfl rfl (Ab Aa ?_);(conv=>whnf))|fail))
     refine V7 hr1 rfl rfl rfl rfl rfl ?_
     refine Ab Aa ?_
     conv=>whnf
     refine Am Aa (X:=Unit) (fun _=>[(3,.map (some bo)),(4,Dl gn),(55,.pointer (some ⟨w.heap.size,0,none⟩))]) (fun _ wr=>wr=w1) (fun _=>0) () ⟨rfl,rfl,rfl,trivial⟩ rfl ?_
     rintro _ G wr rfl
     conv=>whnf
     obtain ⟨w2,v,hr2,hB2,hen⟩:=hnx _
     have hO2:=hmore w2 hB2
     obtain ⟨vl,hlk,hvl⟩:=hO2.obj.look P7 (Aa0 w2) hoi
     refine Ae8 hr2 rfl rfl rfl rfl rfl ?_
     refine Ab Aa ?_
     conv=>whnf
     refine Ab9 hen rfl rfl rfl rfl rfl ?_
     refine Ab Aa ?_
     conv=>whnf
     refine U8 hlk rfl rfl rfl rfl rfl rfl ?_
     refine Ab Aa ?_
     conv=>whnf
     cases hf:f o with
     |some q=>
      rw [hf] at hvl
      have hlo:Fe [] [o] f m=((q:Int),m,f):=by unfold Fe;simp [hf]
      rw [hlo,hvl q rfl]
      conv=>whnf
      (repeat' (first|refine Cg rfl rfl ?_|fail))
      exact ⟨rfl,hO2.mono⟩
     |none=>
      have hlo:Fe [] [o] f m=((m:Int),m+1,Po f o m):=by unfold Fe;simp [hf]
      rw [hlo]
      conv=>whnf
      refine I6 Tg (first:=[]) (args:=[]) (caps:=[.pointer (some ⟨gn,0,none⟩)]) (hfr w2 hO2) rfl rfl rfl rfl rfl rfl rfl ?_
      rintro _ w3 ⟨rfl,hO3⟩
      refine ⟨_,rfl,Ab Aa ?_⟩
      conv=>whnf
      refine J7 (hO3.obj.put P7 (x:=o) (m:=m) (by unfold maxLen;omega) hoi ⟨by omega,by omega⟩) rfl rfl rfl rfl rfl rfl ?_
      rintro w4 ⟨hN4,hg4⟩
      refine Ab Aa ?_
      conv=>whnf
      (repeat' (first|refine Cg rfl rfl ?_|fail))
      exact ⟨rfl,⟨(hg4.block gn (Ae hO3.cell) (by intro e;injection e with e;exact hne e.symm)).trans hO3.cell,hN4,Kept.grown hO3.kept hg4 (fun g e=>.inl (by injection e with e;simp [e]))⟩⟩
end Go.Proofs.YtghmdfegfehhkaaGreatDoor
