/- Several texts of one claim in one file, made short: SY19 V20 SV20 SC20. -/
import Derived.Test.YtghmdfegfehhkaaGreatDoorZ21
import Derived.Test.YtghmdfegfehhkaaGreatDoorZ22
import Derived.Test.YtghmdfegfehhkaaGreatDoorZ23
import Derived.Test.YtghmdfegfehhkaaGreatDoorZ17
import Derived.Test.YtghmdfegfehhkaaGreatDoorZ12
import Derived.Test.YtghmdfegfehhkaaGreatDoorZ18
import Derived.Test.YtghmdfegfehhkaaGreatDoorZ6
set_option maxRecDepth 100000
set_option maxHeartbeats 64000000
set_option linter.unusedVariables false
set_option linter.unusedSimpArgs false
namespace Go.Proofs.YtghmdfegfehhkaaGreatDoor
open Go.RowKit
structure LabM (n:Nat)(xs:List Cell)(ys:List Con)(mode:Int)(lab:Nat->Int):Prop where
 ovs:mode=1->∃ kn of,KnOk (gInto n xs ys) kn of/\∀ v,v<n->lab v=gl n xs ys kn of v
 hu:mode=2->Canon n lab (SrcE n xs.length ⟨n,xs,ys⟩) (SrcZ n xs.length ⟨n,xs,ys⟩)
 plain:¬ mode=1->¬mode=2->∀ v,v<n->lab v=(v:Int)
theorem Af1 {w:World}{g n:Nat}{f:Nat->Int}(hn:n<=16384)(h:w.heap[g]?=some (.cells (fZ n f).toArray 3 (0,0)))(hb:∀ v,v<n->-9223372036854775808<=f v/\f v<=9223372036854775807):RI w (some ⟨g,0,none⟩) ((List.range n).map f):=by
 have e:fZ n f=((List.range n).map f).map (Value.int .i64):=by simp [fZ]
 rw [e] at h
 refine Fq h ⟨by simp,fun q hq=>?_⟩ (by simp;omega)
 have hq':q<n:=by simpa using hq
 rw [Nat.mul_one,List.drop_eq_getElem_cons (by simpa using hq'),getElem!_pos _ q hq]
 have:=hb q hq'
 refine ⟨by simp,?_,?_⟩
 ·simp;show (-9223372036854775808:Int)<=_;omega
 ·simp;show _<=(9223372036854775807:Int);omega
theorem Ab5 (n:Nat)(xs:List Cell)(ys:List Con)(A1 A2:Option Addr)(c1 c2:Nat)(mode:Int)(w:World)(hright:Ba ⟨n,xs,ys⟩=true)(hr1:RCells w A1 xs)(hr2:RCons w A2 ys) :
  Calls Tryz.prog 37 #[.agg #[.int .i64 n,.slice A1 xs.length c1,.slice A2 ys.length c2],.int .u8 mode] w fun e w'=>∃ go lab,e=.returned (.slice (some ⟨go,0,none⟩) n n)/\RI w' (some ⟨go,0,none⟩) ((List.range n).map lab)/\LabM n xs ys mode lab/\Below w.heap.size w w':=by
 obtain ⟨hn,hnx,hny⟩:=Gx hright
 refine A9 (args:=[.agg #[.int .i64 n,.slice A1 xs.length c1,.slice A2 ys.length c2],.int .u8 mode]) Aa Tryz.func37 rfl Tryz.ntmps37 rfl ?_;conv=>whnf
 refine Ci rfl rfl rfl rfl rfl rfl ?_
 intro g1 w1 hn1
 have hb1:=hn1.blk
 have hB1:=hn1.below
 have hr1:=hr1.up Cd hB1
 have hr2:=hr2.up Ck hB1
 clear hn1
 refine Ab Aa ?_
 by_cases hm1:mode=1
 ·conv=>whnf
  (repeat' ((first|refine C6 Aa hb1 rfl rfl rfl rfl rfl rfl (Ab Aa ?_)|refine Af rfl rfl rfl rfl rfl rfl (by omega) (by omega) (Ab Aa ?_)|refine Ag (by first|assumption|omega) ?_|refine Ah (by first|assumption|omega) ?_|fail)<;>conv=>whnf))
  refine Bv Aw4 (Sj n xs ys A1 A2 c1 c2 w1 hr1 hr2 hright) rfl rfl rfl rfl rfl rfl rfl ?_
  rintro _ w6 ⟨A',B',C',rfl,k1,k2,k3,hB6⟩
  have hG:GOk n (gInto n xs ys) (gBases n xs ys) (gLoose n xs ys):=gok hright
  have hni:(gInto n xs ys).length=2*n:=hG.ni
  have hnb:(gBases n xs ys).length=n:=hG.nb
  have hnl:(gLoose n xs ys).length=2*n:=hG.nl
  refine ⟨_,rfl,Ab Aa ?_⟩
  conv=>whnf
  have hlab:=Ajq n (gInto n xs ys) (gBases n xs ys) (gLoose n xs ys) A' B' C' (2*n) n (2*n) w6 hG k1 k2 k3
  rw [hni,hnb,hnl] at hlab
  refine Bv Bp4 hlab rfl rfl rfl rfl rfl rfl rfl ?_
  rintro _ w7 ⟨kn,of,ga,hK,rfl,hR,hB7⟩
  refine ⟨_,rfl,Ab Aa ?_⟩
  conv=>whnf
  (repeat' (first|refine Cg rfl rfl ?_|fail))
  exact ⟨ga,gl n xs ys kn of,rfl,hR,⟨fun _=>⟨kn,of,hK,fun v _=>rfl⟩,fun e=>by omega,fun e=>absurd hm1 e⟩,Ax hB1 (Ax hB6 hB7)⟩
 by_cases hm2:mode=2
 ·conv=>whnf
  (repeat' ((first|refine Af rfl rfl rfl rfl rfl rfl (by omega) (by omega) (Ab Aa ?_)|refine Ag (by first|assumption|omega) ?_|refine Ah (by first|assumption|omega) ?_|fail)<;>conv=>whnf))
  refine Em [0,2,3,4] 1 5 (Be _) Aa mixed (by kernel_rfl) (Below.refl _ _) ?_;(conv=>whnf)
  (repeat' ((first|refine Bg Aa hb1 rfl rfl rfl rfl rfl rfl rfl (Ad Aa ?_)|refine Q8 Aa hb1 rfl rfl rfl rfl rfl rfl (Ad Aa ?_)|fail)<;>conv=>whnf))
  intro w6 _ hB6
  conv=>whnf
  refine And.intro ?_ trivial
  conv=>whnf
  refine Ag3 Aw4 (Sj n xs ys A1 A2 c1 c2 w6 (hr1.up Cd hB6) (hr2.up Ck hB6) hright) rfl rfl rfl rfl rfl rfl ?_
  rintro _ w7 ⟨A',B',C',rfl,k1,k2,k3,hB7⟩
  refine ⟨_,rfl,Ax hB6 hB7,fun w8 hB8 _=>?_⟩
  conv=>whnf
  have k1:=k1.up Bz hB8
  have k2:=k2.up Bz hB8
  have k3:=k3.up K3 hB8
  refine Bv Bm3 (Xy (n:=n) (xs:=xs) (ys:=ys) A' B' C' w8 hright k1 k2 k3) rfl rfl rfl rfl rfl rfl rfl ?_
  rintro _ w9 ⟨go,hl,rfl,hrow,hcan,hB9⟩
  refine ⟨_,rfl,Ab Aa ?_⟩
  conv=>whnf
  (repeat' (first|refine Cg rfl rfl ?_|fail))
  exact ⟨go,hl,rfl,Af1 hn hrow (fun v hv=>by have:=hcan.le v hv;have:=Nn hl v;omega),⟨fun e=>absurd e hm1,fun _=>hcan,fun _ e=>absurd hm2 e⟩,Ax hB1 (Ax (Ax hB6 hB7) (Ax hB8 hB9))⟩
 ·conv=>whnf
  (repeat' ((first|refine Aj Aa hb1 rfl rfl rfl rfl rfl rfl rfl (Ab Aa ?_)|refine Af rfl rfl rfl rfl rfl rfl (by omega) (by omega) (Ab Aa ?_)|refine Ag (by first|assumption|omega) ?_|refine Ah (by first|assumption|omega) ?_|fail)<;>conv=>whnf))
  refine Lb (m:=n) Aa 3 1 8 rfl rfl rfl rfl rfl rfl rfl rfl rfl (by omega) (by omega) ?_
  intro gz w2 hn2
  have hz:w2.heap[gz]?=some (.cells (fZ n fun v=>if v<0 then (v:Int) else 0).toArray 3 (0,0)):=by
   have e:(fun v:Nat=>if v<0 then (v:Int) else 0)=fun _=>0:=by funext v;rw [if_neg (Nat.not_lt_zero v)]
   rw [e,<- Ls]
   exact hn2.blk
  have hB2:=hn2.below
  have hg2:w1.heap.size<=gz:=Nat.le_of_eq hn2.at_.symm
  clear hn2
  refine Ab Aa ?_
  conv=>whnf
  skip
  refine Am Aa (X:=Nat) (fun i=>[(5,.slice (some ⟨gz,0,none⟩) n n),(25,.int .i64 (n:Int)),(26,.int .i64 (i:Int))]) (fun i wi=>i<=n/\Below w1.heap.size w1 wi/\wi.heap[gz]?=some (.cells (fZ n fun v=>if v<i then (v:Int) else 0).toArray 3 (0,0))) (fun i=>n - i) 0 ⟨rfl,rfl,rfl,trivial⟩ ⟨by omega,hB2,hz⟩ ?_
  clear hz hB2
  rintro i G wi ⟨hi,hBi,hz⟩
  by_cases hil:i<n
  ·conv=>whnf
   (repeat' ((first|refine Al Aa 3 1 rfl rfl rfl rfl rfl rfl rfl (by omega) (Ab Aa ?_)|refine Af rfl rfl rfl rfl rfl rfl (by omega) (by omega) (Ab Aa ?_)|refine Ag (by first|assumption|omega) ?_|refine Ah (by first|assumption|omega) ?_|fail)<;>conv=>whnf))
   refine Dt (j:=i*1) (v:=.int .i64 (i:Int)) Aa hz rfl rfl rfl rfl rfl rfl (by rw [Ij];omega) rfl rfl ?_
   intro w3 hp3
   rw [Nat.mul_one,Io] at hp3
   have ef:Bf (fun v=>if v<i then (v:Int) else 0) i (i:Int)=fun v=>if v<i+1 then (v:Int) else 0:=by
    funext v
    unfold Bf
    by_cases e:v=i
    ·subst e;simp
    ·rw [if_neg e]
     show (if v<i then (v:Int) else 0)=_
     by_cases h1:v<i
     ·rw [if_pos h1,if_pos (by omega)]
     ·rw [if_neg h1,if_neg (by omega)]
   rw [ef] at hp3
   refine Ab Aa ?_
   conv=>whnf
   (repeat' ((first|refine Af rfl rfl rfl rfl rfl rfl (by omega) (by omega) (Ab Aa ?_)|refine Ag (by first|assumption|omega) ?_|refine Ah (by first|assumption|omega) ?_|fail)<;>conv=>whnf))
   exact ⟨i+1,⟨rfl,rfl,rfl,trivial⟩,⟨by omega,hp3.below hBi hg2 hBi.size,hp3.blk⟩,by omega⟩
  ·have hil2:i=n:=by omega
   rw [hil2] at hz
   conv=>whnf
   (repeat' (first|refine Cg rfl rfl ?_|(first|refine Af rfl rfl rfl rfl rfl rfl (by omega) (by omega) (Ab Aa ?_)|refine Ag (by first|assumption|omega) ?_|refine Ah (by first|assumption|omega) ?_|fail)<;>conv=>whnf))
   refine ⟨gz,fun v=>if v<n then (v:Int) else 0,rfl,Af1 hn hz (fun v hv=>?_),⟨fun e=>absurd e hm1,fun e=>absurd e hm2,fun _ _ v hv=>if_pos hv⟩,Ax hB1 hBi⟩
   simp only [hv,if_true]
   omega
theorem As8 {P:Program}{T:Nat->Option TI}{F:Fm}{w:World}(hT:TabOk P T){fn:Func}{R:Ending->World->Prop}{p t t2:Tmp}{ty t':TypeId}{g:Nat}{cs:List Value}{fr:Nat×Nat}{v v2:Value}(hr:fn.results=#[.cell p ty,.tmp t,.tmp t2])(hb:w.heap[g]?=some (.cells cs.toArray t' fr))(hv:F p=.pointer (some ⟨g,0,none⟩))(h1:Mr T ty cs.length=true)(hu:F t=v)(hu2:F t2=v2)(h:R (.returned (.tuple #[.agg cs.toArray,v,v2])) w):Om P fn R F w:=by
 unfold Om Mz
 intro tmps ht
 refine ⟨.tuple #[.agg cs.toArray,v,v2],?_,h⟩
 have h2:=Fg (P:=P) (w:=w) hT h1
 have h3:=B8 (P:=P) cs 0 #[] (Cr hb cs 0 0 (by simp))
 have h4:=ht p
 have h6:=ht t
 have h8:=ht t2
 rw [hv] at h4
 rw [hu] at h6
 rw [hu2] at h8
 have h5:tmps[p]?.getD undef=.pointer (some ⟨g,0,none⟩):=by simpa using h4
 have h7:tmps[t]?.getD undef=v:=by simpa using h6
 have h9:tmps[t2]?.getD undef=v2:=by simpa using h8
 unfold results
 simp [hr,h5,h7,h9,asAddr,loadVar,h2,loadCells,h3]
theorem Be8 (n:Nat)(xs:List Cell)(ys:List Con)(A1 A2:Option Addr)(c1 c2:Nat)(mode:Int)(w:World)(hright:Ba ⟨n,xs,ys⟩=true)(hmode:0<=mode/\mode<=2)(hr1:RCells w A1 xs)(hr2:RCons w A2 ys) :
  Calls Tryz.prog 10 #[.agg #[.int .i64 n,.slice A1 xs.length c1,.slice A2 ys.length c2],.int .u8 mode] w fun e w'=>∃ gw wh lab H B D1 d1 D2 d2,e=.returned (.tuple #[.agg #[.int .i64 (F7 wh n:Int),.slice D1 xs.length d1,.slice D2 (Hv wh (decide (¬mode=0)) ys).length d2],.slice (some ⟨gw,0,none⟩) n n,.int .i64 0]) /\
   APR B H w' n xs ys wh (decide (¬mode=0)) gw D1 d1 D2 d2/\Canon n wh (fun v u=>Pj lab v=Pj lab u) (fun v=>lab v<0)/\LabM n xs ys mode lab/\Below w.heap.size w w':=by
 refine A9 (args:=[.agg #[.int .i64 n,.slice A1 xs.length c1,.slice A2 ys.length c2],.int .u8 mode]) Aa Tryz.func10 rfl Tryz.ntmps10 rfl ?_;conv=>whnf
 refine Ci rfl rfl rfl rfl rfl rfl ?_
 intro g2 w1 hn1
 refine Ab Aa ?_
 conv=>whnf
 refine Bm Aa rfl rfl rfl rfl rfl rfl ?_
 intro g4 w2 hn2
 have hb2:=hn2.old hn1.blk
 have hb4:=hn2.blk
 have hB2:=Ax hn1.below hn2.below
 have hg4:w.heap.size<=g4:=by have:=hn2.at_;have:=hn1.size;omega
 clear hn1 hn2
 refine Ab Aa ?_
 conv=>whnf
 (repeat' ((first|refine C6 Aa hb2 rfl rfl rfl rfl rfl rfl (Ab Aa ?_)|fail)<;>conv=>whnf))
 refine Bv Atk (Nw ⟨n,xs,ys⟩ A1 A2 c1 c2 w2 (hr1.up Cd hB2) (hr2.up Ck hB2)) rfl rfl rfl rfl rfl rfl rfl ?_
 rintro _ w3 ⟨rfl,hB3⟩
 have hb2:=Ac hB3 hb2
 have hb4:=Ac hB3 hb4
 have hB3:=Ax hB2 hB3
 have hr1:=hr1.up Cd hB3
 have hr2:=hr2.up Ck hB3
 have hg43:g4<w3.heap.size:=Ae hb4
 clear hB2
 refine ⟨_,rfl,Ab Aa ?_⟩
 rw [hright]
 conv=>whnf
 (repeat' ((first|refine Af rfl rfl rfl rfl rfl rfl (by omega) (by omega) (Ab Aa ?_)|refine Ag (by first|assumption|omega) ?_|refine Ah (by first|assumption|omega) ?_|fail)<;>conv=>whnf))
 refine Jv (X:=Nat×Nat×(Nat->Int)×(Nat->Int)×Option Addr×Nat×Option Addr×Nat×Nat) (fun z=>[(4,.pointer (some ⟨g4,0,none⟩)),(7,.pointer (some ⟨z.1,0,none⟩)),(8,.slice (some ⟨z.2.1,0,none⟩) n n)])
  (fun z W=>Below w3.heap.size w3 W/\W.heap[z.1]?=some (.cells #[.int .i64 (F7 z.2.2.1 n:Int),.slice z.2.2.2.2.1 xs.length z.2.2.2.2.2.1,.slice z.2.2.2.2.2.2.1 (Hv z.2.2.1 (decide (¬mode=0)) ys).length z.2.2.2.2.2.2.2.1] 35 (0,0))/\(∃ B,w3.heap.size<=B/\APR B z.2.2.2.2.2.2.2.2 W n xs ys z.2.2.1 (decide (¬mode=0)) z.2.1 z.2.2.2.2.1 z.2.2.2.2.2.1 z.2.2.2.2.2.2.1 z.2.2.2.2.2.2.2.1)/\Canon n z.2.2.1 (fun v u=>Pj z.2.2.2.1 v=Pj z.2.2.2.1 u) (fun v=>z.2.2.2.1 v<0)/\LabM n xs ys mode z.2.2.2.1) ?_ ?_
 ·refine Em [0,1,2,4,5] 7 12 (Be _) Aa mixed (by kernel_rfl) (Below.refl _ _) ?_;(conv=>whnf)
  (repeat' ((first|refine Q8 Aa hb2 rfl rfl rfl rfl rfl rfl (Ad Aa ?_)|fail)<;>conv=>whnf))
  intro W hC hBW
  clear hBW
  conv=>whnf
  repeat' (first
   |exact True.intro
   |(refine And.intro ?_ ?_<;>conv=>whnf)
   |(refine Ag3 Bl5 (Ab5 n xs ys A1 A2 c1 c2 mode _ hright (hr1.up Cd hC) (hr2.up Ck hC)) rfl rfl rfl rfl rfl rfl ?_;rintro _ Wa ⟨go,lab,rfl,fL,hLM,hBa⟩;refine ⟨_,rfl,Ax hC hBa,fun W hW hC=>?_⟩;have fL:=fL.up (Bj _) hW;(try have f10:=Ac (Ax hBa hW) f10);clear hW hBa;conv=>whnf)
   |(refine Ag3 Bjk (Am2 n xs ys A1 A2 (some ⟨go,0,none⟩) c1 c2 n lab (decide (¬mode=0)) _ hright (hr1.up Cd hC) (hr2.up Ck hC) fL) rfl rfl rfl rfl rfl rfl ?_;rintro _ Wa ⟨gw,wh,D1,d1,D2,d2,rfl,fA,hcan,hBa⟩;have hszB:=hC.size;(try have h7:=Or.inl (b:=Wa.heap.size<=g7) (Ae f10));refine ⟨_,rfl,Ax hC hBa,fun W hW hC=>?_⟩;have fA:=fA.up hW;(try have f10:=Ac (Ax hBa hW) f10);have hszA:=hW.size;clear hW hBa;conv=>whnf)
   |(refine Hh (La Aa rfl rfl rfl rfl rfl ?_);intro g7 Wa hna;have hg7:w3.heap.size<=g7:=(by have:=hna.at_;have:=hC.size;omega);have h7n:=hna.at_;refine ⟨Ax hC hna.below,fun W hW hC=>?_⟩;(try have fL:=fL.up (Bj _) (Ax hna.below hW));(try have fA:=fA.up (Ax hna.below hW));have f10:=Ac hW hna.blk;clear hW hna;conv=>whnf)
   |(refine Ao3 Aa f10 rfl rfl rfl rfl rfl (by simp [Value.oneCell']) rfl ?_;intro Wb hpb;have fA:=fA.put hpb (by first|exact h7|exact .inr (by omega));refine ⟨hpb.below hC hg7 hC.size,fun W hW hC=>?_⟩;have fA:=fA.up hW;have f10:=Ac hW hpb.blk;clear hW hpb;conv=>whnf)
   |(refine Uq Aa rfl rfl rfl ?_;refine ⟨hC,fun W hW hC=>?_⟩;(try have fL:=fL.up (Bj _) hW);(try have fA:=fA.up hW);(try have f10:=Ac hW f10);(try have hszA:=Nat.le_trans hszA hW.size);clear hW;conv=>whnf))
  all_goals exact ⟨(g7,gw,wh,lab,D1,d1,D2,d2,_),⟨rfl,rfl,rfl,trivial⟩,hC,f10,⟨_,hszB,fA⟩,hcan,hLM⟩
 ·rintro ⟨g7,gw,wh,lab,D1,d1,D2,d2,H⟩ G W ⟨hC,f10,⟨B,hBw,hA⟩,hcan,hLM⟩
  simp only at f10 hA hcan hLM
  have hb4:=Ac hC hb4
  conv=>whnf
  (repeat' ((first|refine C6 Aa f10 rfl rfl rfl rfl rfl rfl (Ab Aa ?_)|fail)<;>conv=>whnf))
  refine Di Aa hb4 rfl rfl rfl rfl rfl (by simp [Value.oneCell']) rfl rfl ?_
  intro w5 hp5
  have hA:=hA.put hp5 (.inl (by omega))
  refine Ab Aa ?_
  conv=>whnf
  skip
  refine As8 Aa rfl hp5.blk rfl rfl rfl rfl ?_
  exact ⟨gw,wh,lab,H,B,D1,d1,D2,d2,rfl,hA,hcan,hLM,hp5.below (Ax hB3 hC) hg4 (Ax hB3 hC).size⟩
abbrev Rel:=Nat->Nat->Bool
structure St where
 inn:Rel
 don:Rel
 too:Rel
 work:List Nat
 pops:Nat
def Et (n c:Nat)(f:Rel):Mat:=(List.range n).map fun v=>(List.range c).map fun o=>f v o
theorem Co (n c:Nat)(f:Rel):Shape n c (Et n c f):=⟨by simp [Et],fun i hi=>by rw [getElem!_pos _ i (by simpa [Et] using hi)];simp [Et]⟩
theorem Gb {n c:Nat}(f:Rel){v o:Nat}(hv:v<n)(ho:o<c):mg (Et n c f) v o=f v o:=by
 unfold mg
 rw [getElem!_pos (Et n c f) v (by simpa [Et] using hv)]
 simp only [Et,List.getElem_map,List.getElem_range]
 rw [getElem!_pos _ o (by simpa using ho)]
 simp
theorem Vn {n c:Nat}{f g:Rel}(h:∀ v o,f v o=true->g v o=true):LeM (Et n c f) (Et n c g):=fun v o e=>by
 by_cases hv:v<n/\o<c
 ·rw [Gb _ hv.1 hv.2] at e ⊢;exact h v o e
 ·rw [Ka (Co n c f) hv] at e;cases e
theorem R9 {n c:Nat}{f g:Rel}(h:∀ v o,f v o=true->g v o=true):cnt (Et n c f)<=cnt (Et n c g):=by
 by_cases e:Et n c g=Et n c f
 ·rw [e];exact Nat.le_refl _
 ·exact Nat.le_of_lt (Zk (Co n c f) (Co n c g) (Vn h) e)
theorem Vh {n c:Nat}{f g:Rel}(h:∀ v o,f v o=true->g v o=true){v o:Nat}(hv:v<n)(ho:o<c)(h0:f v o=false)(h1:g v o=true):cnt (Et n c f)<cnt (Et n c g):=
 Zk (Co n c f) (Co n c g) (Vn h) fun e=>by
  have h2:=Gb (n:=n) (c:=c) g hv ho
  rw [e,Gb f hv ho,h0,h1] at h2
  cases h2
structure Dom (n c:Nat)(s:St):Prop where
 inn:∀ v o,s.inn v o=true->v<n/\o<c
 don:∀ v o,s.don v o=true->s.inn v o=true
 too:∀ a b,s.too a b=true->a<n/\b<n
 work:∀ v∈s.work,v<n
structure Sound (s:Sys)(t:St):Prop where
 inn:∀ N,Do s N->∀ v o,t.inn v o=true->mg N v o=true
 too:∀ N,Do s N->∀ a b,t.too a b=true->∀ o,mg N a o=true->mg N b o=true
structure Grow (n c:Nat)(s t:St):Prop where
 inn:∀ v o,s.inn v o=true->t.inn v o=true
 too:∀ a b,s.too a b=true->t.too a b=true
 don:t.don=s.don
 pops:t.pops=s.pops
 work:∀ v∈s.work,v∈t.work
 new:∀ v,v∉t.work->t.inn v=s.inn v
 pay:t.work.length+cnt (Et n c s.inn)<=s.work.length+cnt (Et n c t.inn)
 edge:∀ a b,t.too a b=true->s.too a b=true\/∀ o,s.don a o=true->t.inn b o=true
section
variable {n c:Nat}{s t u:St}
theorem Grow.refl (s:St):Grow n c s s:=⟨fun _ _ h=>h,fun _ _ h=>h,rfl,rfl,fun _ h=>h,fun _ _=>rfl,Nat.le_refl _,fun _ _ h=>.inl h⟩
theorem Grow.trans (h:Grow n c s t)(k:Grow n c t u):Grow n c s u:=
 ⟨fun v o e=>k.inn v o (h.inn v o e),fun a b e=>k.too a b (h.too a b e),k.don.trans h.don,k.pops.trans h.pops,fun v e=>k.work v (h.work v e),
 fun v e=>(k.new v e).trans (h.new v fun e'=>e (k.work v e')),by have:=h.pay;have:=k.pay;omega,
 fun a b e=>(k.edge a b e).elim (fun e1=>(h.edge a b e1).imp id fun e2 o e3=>k.inn b o (e2 o e3)) (fun e1=>.inr fun o e2=>e1 o (by rw [h.don];exact e2))⟩
end
structure FlowR (v:Nat)(l:Nat->Bool)(s t:St):Prop where
 inn:∀ x o,t.inn x o=(s.inn x o||(decide (x=v)&&l o))
 don:t.don=s.don
 too:t.too=s.too
 pops:t.pops=s.pops
 work:t.work=s.work/\(t.inn v=s.inn v\/v∈s.work)\/t.work=s.work++[v]/\∃ o,s.inn v o=false/\l o=true
structure EdgeR (a b:Nat)(s t:St):Prop where
 inn:∀ x o,t.inn x o=(s.inn x o||(decide (x=b)&&s.inn a o&&!decide (a=b)))
 don:t.don=s.don
 too:∀ x y,t.too x y=(s.too x y||(decide (x=a)&&decide (y=b)&&!decide (a=b)))
 pops:t.pops=s.pops
 work:t.work=s.work/\(t.inn b=s.inn b\/b∈s.work)\/t.work=s.work++[b]/\∃ o,s.inn b o=false/\s.inn a o=true
section
variable {n c:Nat}{s t u:St}{v a b:Nat}{l:Nat->Bool}{S:Sys}
theorem FlowR.grow (h:FlowR v l s t)(hv:v<n)(hl:∀ o,l o=true->o<c):Grow n c s t:=by
 have hi:∀ x o,s.inn x o=true->t.inn x o=true:=fun x o e=>by rw [h.inn,e];rfl
 refine ⟨hi,fun x y e=>by rw [h.too];exact e,h.don,h.pops,fun x e=>?_,fun x e=>?_,?_,fun x y e=>.inl (by rw [<- h.too];exact e)⟩
 ·rcases h.work with ⟨w,_⟩|⟨w,_⟩<;>rw [w]
  ·exact e
  ·exact List.mem_append_left _ e
 ·by_cases hx:x=v
  ·subst hx
   rcases h.work with ⟨w,w2|w2⟩|⟨w,_⟩
   ·exact w2
   ·rw [w] at e;exact absurd w2 e
   ·exact absurd (by rw [w];simp) e
  ·funext o
   rw [h.inn]
   simp [hx]
 ·rcases h.work with ⟨w,_⟩|⟨w,o,w1,w2⟩
  ·rw [w];have:=R9 (n:=n) (c:=c) hi;omega
  ·have:=Vh hi hv (hl o w2) w1 (by rw [h.inn,w2];simp)
   rw [w,List.length_append,List.length_singleton]
   omega
theorem FlowR.dom (h:FlowR v l s t)(hd:Dom n c s)(hv:v<n)(hl:∀ o,l o=true->o<c):Dom n c t:=by
 refine ⟨fun x o e=>?_,fun x o e=>?_,fun x y e=>hd.too x y (by rw [<- h.too];exact e),fun x e=>?_⟩
 ·rw [h.inn] at e
  simp only [Bool.or_eq_true,Bool.and_eq_true,decide_eq_true_eq] at e
  rcases e with e|⟨rfl,e⟩
  ·exact hd.inn x o e
  ·exact ⟨hv,hl o e⟩
 ·rw [h.don] at e;rw [h.inn,hd.don x o e];rfl
 ·rcases h.work with ⟨w,_⟩|⟨w,_⟩<;>rw [w] at e
  ·exact hd.work x e
  ·rcases List.mem_append.1 e with e|e
   ·exact hd.work x e
   ·rw [List.mem_singleton.1 e];exact hv
theorem FlowR.sound (h:FlowR v l s t)(hs:Sound S s)(hl:∀ N,Do S N->∀ o,l o=true->mg N v o=true):Sound S t:=by
 refine ⟨fun N hN x o e=>?_,fun N hN x y e=>hs.too N hN x y (by rw [<- h.too];exact e)⟩
 rw [h.inn] at e
 simp only [Bool.or_eq_true,Bool.and_eq_true,decide_eq_true_eq] at e
 rcases e with e|⟨rfl,e⟩
 ·exact hs.inn N hN x o e
 ·exact hl N hN o e
theorem EdgeR.grow (h:EdgeR a b s t)(ha:a<n)(hb:b<n)(hd:Dom n c s):Grow n c s t:=by
 have hi:∀ x o,s.inn x o=true->t.inn x o=true:=fun x o e=>by rw [h.inn,e];rfl
 refine ⟨hi,fun x y e=>by rw [h.too,e];rfl,h.don,h.pops,fun x e=>?_,fun x e=>?_,?_,fun x y e=>?_⟩
 ·rcases h.work with ⟨w,_⟩|⟨w,_⟩<;>rw [w]
  ·exact e
  ·exact List.mem_append_left _ e
 ·by_cases hx:x=b
  ·subst hx
   rcases h.work with ⟨w,w2|w2⟩|⟨w,_⟩
   ·exact w2
   ·rw [w] at e;exact absurd w2 e
   ·exact absurd (by rw [w];simp) e
  ·funext o
   rw [h.inn]
   simp [hx]
 ·rcases h.work with ⟨w,_⟩|⟨w,o,w1,w2⟩
  ·rw [w];have:=R9 (n:=n) (c:=c) hi;omega
  ·have hne:a≠b:=fun e=>by rw [e] at w2;rw [w1] at w2;cases w2
   have:=Vh hi hb (hd.inn a o w2).2 w1 (by rw [h.inn,w2];simp [hne])
   rw [w,List.length_append,List.length_singleton]
   omega
 ·rw [h.too] at e
  simp only [Bool.or_eq_true,Bool.and_eq_true,decide_eq_true_eq] at e
  rcases e with e|⟨⟨rfl,rfl⟩,e⟩
  ·exact .inl e
  ·refine .inr fun o e2=>?_
   rw [h.inn,hd.don _ _ e2]
   simp at e
   simp [e]
theorem EdgeR.dom (h:EdgeR a b s t)(hd:Dom n c s)(ha:a<n)(hb:b<n):Dom n c t:=by
 refine ⟨fun x o e=>?_,fun x o e=>?_,fun x y e=>?_,fun x e=>?_⟩
 ·rw [h.inn] at e
  simp only [Bool.or_eq_true,Bool.and_eq_true,decide_eq_true_eq] at e
  rcases e with e|⟨⟨rfl,e⟩,_⟩
  ·exact hd.inn x o e
  ·exact ⟨hb,(hd.inn a o e).2⟩
 ·rw [h.don] at e;rw [h.inn,hd.don x o e];rfl
 ·rw [h.too] at e
  simp only [Bool.or_eq_true,Bool.and_eq_true,decide_eq_true_eq] at e
  rcases e with e|⟨⟨rfl,rfl⟩,_⟩
  ·exact hd.too x y e
  ·exact ⟨ha,hb⟩
 ·rcases h.work with ⟨w,_⟩|⟨w,_⟩<;>rw [w] at e
  ·exact hd.work x e
  ·rcases List.mem_append.1 e with e|e
   ·exact hd.work x e
   ·rw [List.mem_singleton.1 e];exact hb
theorem EdgeR.sound (h:EdgeR a b s t)(hs:Sound S s)(hl:∀ N,Do S N->∀ o,mg N a o=true->mg N b o=true):Sound S t:=by
 refine ⟨fun N hN x o e=>?_,fun N hN x y e=>?_⟩
 ·rw [h.inn] at e
  simp only [Bool.or_eq_true,Bool.and_eq_true,decide_eq_true_eq] at e
  rcases e with e|⟨⟨rfl,e⟩,_⟩
  ·exact hs.inn N hN x o e
  ·exact hl N hN o (hs.inn N hN a o e)
 ·rw [h.too] at e
  simp only [Bool.or_eq_true,Bool.and_eq_true,decide_eq_true_eq] at e
  rcases e with e|⟨⟨rfl,rfl⟩,_⟩
  ·exact hs.too N hN x y e
  ·exact hl N hN
theorem EdgeR.there (h:EdgeR a b s t):a=b\/t.too a b=true:=by
 by_cases e:a=b
 ·exact .inl e
 ·refine .inr ?_
  rw [h.too];simp [e]
end
def edgeE (t:St)(a b:Int):Prop:=0<=a->0<=b->a=b\/t.too a.toNat b.toNat=true
def objE (t:St)(c:Con)(x:Cell):Prop:=
 (c.k=3->x.fn=false->edgeE t x.v c.a)/\(c.k=4->x.fn=false->edgeE t c.b x.v) /\
 (c.k=5->x.fn=true->edgeE t x.v c.a/\∀ k,k<x.args.length->k<c.args.length->edgeE t c.args[k]! x.args[k]!)
theorem edgeE.up {s t:St}(h:∀ a b,s.too a b=true->t.too a b=true){a b:Int}(e:edgeE s a b):edgeE t a b:=fun h0 h1=>(e h0 h1).imp id (h _ _)
theorem objE.up {s t:St}(h:∀ a b,s.too a b=true->t.too a b=true){c:Con}{x:Cell}(e:objE s c x):objE t c x:=
 ⟨fun h1 h2=>(e.1 h1 h2).up h,fun h1 h2=>(e.2.1 h1 h2).up h,fun h1 h2=>⟨(e.2.2 h1 h2).1.up h,fun k h3 h4=>((e.2.2 h1 h2).2 k h3 h4).up h⟩⟩
structure Inv (S:Sys)(n:Nat)(t:St):Prop where
 dom:Dom n S.cells.length t
 sound:Sound S t
 wk:∀ v,v∉t.work->t.inn v=t.don v
 pay:t.pops+t.work.length<=cnt (Et n S.cells.length t.inn)
 edge:∀ a b,t.too a b=true->∀ o,t.don a o=true->t.inn b o=true
 base:∀ i,i<S.cons.length->S.cons[i]!.k=1->t.inn S.cons[i]!.a.toNat S.cons[i]!.b.toNat=true
 copy:∀ i,i<S.cons.length->S.cons[i]!.k=2->t.too S.cons[i]!.b.toNat S.cons[i]!.a.toNat=true
 obj:∀ i,i<S.cons.length->¬S.cons[i]!.k=1->¬S.cons[i]!.k=2->∀ o,o<S.cells.length->t.don (Cs S.cons[i]!) o=true->objE t S.cons[i]! S.cells[o]!
def St.pop (s:St)(v:Nat)(r:List Nat):St:=⟨s.inn,fun x=>if x=v then s.inn v else s.don x,s.too,r,s.pops+1⟩
theorem Inv.pop_dom {S:Sys}{n:Nat}{s:St}(h:Inv S n s){v:Nat}{r:List Nat}(hw:s.work=v::r):Dom n S.cells.length (s.pop v r):=
 ⟨h.dom.inn,fun x o e=>by
  unfold St.pop at e ⊢
  simp only at e ⊢
  split at e
  ·rename_i hx;subst hx;exact e
  ·exact h.dom.don x o e,h.dom.too,fun x hx=>h.dom.work x (by rw [hw];exact List.mem_cons_of_mem _ hx)⟩
theorem Inv.look {S:Sys}{n:Nat}{s t u:St}(h:Inv S n s){v:Nat}{r:List Nat}(hw:s.work=v::r)
  (hg:Grow n S.cells.length (s.pop v r) t) (hs:Sound S u) (hd:Dom n S.cells.length u)
  (ho:∀ i,i<S.cons.length->¬S.cons[i]!.k=1->¬S.cons[i]!.k=2->Cs S.cons[i]! = v->∀ o,o<S.cells.length->s.inn v o=true->s.don v o=false->objE t S.cons[i]! S.cells[o]!)
  (hg2:Grow n S.cells.length t u) (hto:u.too=t.too) (hf:∀ b,u.too v b=true->∀ o,s.inn v o=true->s.don v o=false->u.inn b o=true):Inv S n u:=by
 have hG:=hg.trans hg2
 have hdon:∀ x,u.don x=if x=v then s.inn v else s.don x:=fun x=>by rw [hG.don];rfl
 refine ⟨hd,hs,fun x hx=>?_,?_,fun a b e o e2=>?_,fun i hi hk=>hG.inn _ _ (h.base i hi hk),fun i hi hk=>hG.too _ _ (h.copy i hi hk),fun i hi h1 h2 o hoc e=>?_⟩
 ·rw [hG.new x hx,hdon]
  show s.inn x=_
  split
  ·rename_i e;rw [e]
  ·rename_i e
   refine h.wk x fun hm=>?_
   rw [hw] at hm
   rcases List.mem_cons.1 hm with rfl|hm
   ·exact e rfl
   ·exact hx (hG.work x hm)
 ·have h1:=hG.pay
  have h2:=h.pay
  have h3:u.pops=s.pops+1:=hG.pops
  have h4:(s.pop v r).work=r:=rfl
  have h5:(s.pop v r).inn=s.inn:=rfl
  rw [hw,List.length_cons] at h2
  rw [h4,h5] at h1
  omega
 ·rw [hdon] at e2
  rcases hG.edge a b e with e1|e1
  ·have e1':s.too a b=true:=e1
   split at e2
   ·rename_i hav
    subst hav
    cases hq:s.don a o with
    |true=>exact hG.inn b o (h.edge a b e1' o hq)
    |false=>exact hf b e o e2 hq
   ·exact hG.inn b o (h.edge a b e1' o e2)
  ·exact e1 o (by show (if a=v then s.inn v else s.don a) o=true;exact e2)
 ·rw [hdon] at e
  split at e
  ·rename_i hv
   cases hq:s.don v o with
   |true=>exact (h.obj i hi h1 h2 o hoc (by rw [hv];exact hq)).up hG.too
   |false=>exact (ho i hi h1 h2 hv o hoc e hq).up hg2.too
  ·exact (h.obj i hi h1 h2 o hoc e).up hG.too
theorem I8 {S:Sys}{n:Nat}{t:St}(h:Inv S n t)(hw:t.work=[]){a b:Int}(hb:b<n)(e:edgeE t a b):Ns b a (Et n S.cells.length t.inn):=fun h1 h0 o ho=>by
 have hoc:a.toNat<n/\o<S.cells.length:=by
  apply Classical.byContradiction
  intro hh
  rw [Ka (Co n S.cells.length t.inn) hh] at ho
  cases ho
 rcases e h0 h1 with e|e
 ·rw [<- e];exact ho
 ·rw [Gb _ hoc.1 hoc.2] at ho
  rw [Gb _ (by omega) hoc.2]
  exact h.edge _ _ e o (by rw [<- h.wk a.toNat (by rw [hw];simp)];exact ho)
theorem Inv.least {S:Sys}{n:Nat}{t:St}(h:Inv S n t)(hn:S.vars=n)(hw:t.work=[])(hgc:∀ i,i<S.cons.length->GoodC n S.cells.length S.cons[i]!)(hgx:∀ o,o<S.cells.length->GoodX n S.cells[o]!):IsLeast S (Et n S.cells.length t.inn):=by
 refine ⟨by rw [hn];simpa using Co n S.cells.length t.inn,fun i hi=>⟨fun hk=>?_,fun hk=>?_,fun h1 h2 o ho e=>?_⟩,fun N hN v o e=>?_⟩
 ·have g:=hgc i hi
  have:=g.a0 (by omega)
  have:=g.b0
  have:=g.b1 hk
  have:=g.a
  rw [Gb _ (by omega) (by omega)]
  exact h.base i hi hk
 ·have g:=hgc i hi
  exact I8 h hw g.a fun _ _=>.inr (h.copy i hi hk)
 ·have g:=hgc i hi
  have gx:=hgx o ho
  have e2:t.don (Cs S.cons[i]!) o=true:=by
   have hv:Cs S.cons[i]!<n:=by
    apply Classical.byContradiction
    intro hh
    rw [Ka (Co n S.cells.length t.inn) (by omega)] at e
    cases e
   rw [Gb _ hv ho] at e
   rw [<- h.wk _ (by rw [hw];simp)];exact e
  have q:=h.obj i hi h1 h2 o ho e2
  exact ⟨fun k1 k2=>I8 h hw g.a (q.1 k1 k2),fun k1 k2=>I8 h hw gx.v (q.2.1 k1 k2) |> fun r=>r,fun k1 k2=>⟨I8 h hw g.a (q.2.2 k1 k2).1,fun k k3 k4=>I8 h hw (gx.args k k3) ((q.2.2 k1 k2).2 k k3 k4)⟩⟩
 ·by_cases hv:v<n/\o<S.cells.length
  ·rw [Gb _ hv.1 hv.2] at e
   exact h.sound.inn N hN v o e
  ·rw [Ka (Co n S.cells.length t.inn) hv] at e;cases e
theorem Inv.bound {S:Sys}{n:Nat}{t:St}(h:Inv S n t):t.pops+t.work.length<=n*S.cells.length:=Nat.le_trans h.pay (Asz (Co _ _ _))
structure Cx where
 base:Nat
 gx:Nat
 n:Nat
 xs:List Cell
 ys:List Con
 A1:Option Addr
 A2:Option Addr
 c1:Nat
 c2:Nat
structure Mem where
 k:Nat
 gi:Nat->Nat
 gd:Nat->Nat
 gt:Nat->Nat
 bi:Nat->List Blk
 bd:Nat->List Blk
 bt:Nat->List Blk
 Vr:Nat->Value
 fr:Nat->List Nat
 wk:List Nat
 pops:Nat
 Vi:Value
 Vd:Value
 Vt:Value
 Vw:Value
 gf:Nat
 go:Nat
def Mem.st (m:Mem):St:=⟨fun v o=>Aw (m.bi v) o,fun v o=>Aw (m.bd v) o,fun v o=>Aw (m.bt v) o,m.wk,m.pops⟩
def C5 (g:Nat):Value:=.pointer (some ⟨g,0,none⟩)
def K1 (k:Nat)(g:Nat->Nat):List Value:=(List.range k).map fun v=>C5 (g v)
def Bp {α:Type}(f:Nat->α)(v:Nat)(x:α):Nat->α:=fun j=>if j=v then x else f j
theorem E6 {α:Type}(f:Nat->α)(v:Nat)(x:α):Bp f v x v=x:=if_pos rfl
theorem Ga {α:Type}(f:Nat->α){v j:Nat}(x:α)(h:j≠v):Bp f v x j=f j:=if_neg h
def Dm (c:Cx)(m:Mem):List Value:=[.int .i64 (c.n:Int),.slice c.A1 c.xs.length c.c1,.slice c.A2 c.ys.length c.c2,m.Vi,m.Vd,m.Vt,.slice (some ⟨m.gf,0,none⟩) c.n c.n,m.Vw,.slice (some ⟨m.go,0,none⟩) c.n c.n,.int .i64 (m.pops:Int)]
def S4 (n:Nat)(wk:List Nat):List Value:=(List.range n).map fun v=>.bool (decide (v∈wk))
def rowP (base k:Nat)(V:Value)(g:Nat->Nat):List Nat->World->Prop:=fun fp w=>fp=V.ownBlock.toList/\w.ownsRow base 117 1 V k (K1 k g)
def J9 (c:Cx)(m:Mem)(v t:Nat):List Nat->World->Prop:=fun fp w=>
 (t=0->v<m.k->PSet c.base (m.gi v) w (m.bi v) fp)/\(t=1->v<m.k->PSet c.base (m.gd v) w (m.bd v) fp)/\(t=2->v<m.k->PSet c.base (m.gt v) w (m.bt v) fp)/\(t=3->v<c.n->QRow c.base (m.Vr v) (m.fr v) fp w)
def Hx (c:Cx)(m:Mem):Nat->List Nat->World->Prop
 |0=>fun fp w=>fp=[c.gx]/\w.heap[c.gx]?=some (.cells (Dm c m).toArray 116 (0,0))
 |1=>rowP c.base m.k m.Vi m.gi
 |2=>rowP c.base m.k m.Vd m.gd
 |3=>rowP c.base m.k m.Vt m.gt
 |4=>fun fp w=>fp=[m.gf]/\w.heap[m.gf]?=some (.cells ((List.range c.n).map m.Vr).toArray 27 (0,0))
 |5=>QRow c.base m.Vw m.wk
 |6=>fun fp w=>fp=[m.go]/\w.heap[m.go]?=some (.cells (S4 c.n m.wk).toArray 4 (0,0))
 |j+7=>fun fp w=>93<=j->J9 c m ((j - 93)/4) ((j - 93)%4) fp w
structure SV (c:Cx)(O:Nat->Nat)(w:World)(m:Mem):Prop where
 all:All O w (Hx c m)
 low:∀ b,b<c.base->O b=99
 sz:c.base<=w.heap.size
 hk:m.k=c.n
 nd:m.wk.Nodup
 wl:∀ v∈m.wk,v<c.n
 hn:c.n<=16384
 hx:c.xs.length<=16384
section
variable {base k v:Nat}{V:Value}{g:Nat->Nat}{fp:List Nat}{w w1:World}
theorem Tb (k:Nat)(g:Nat->Nat):(K1 k g).length=k:=by simp [K1]
theorem Y8 {k:Nat}{g:Nat->Nat}{v:Nat}(h:v<k):(K1 k g)[v]?=some (C5 (g v)):=by simp [K1,h]
theorem Js {α:Type}(f:Nat->α)(k v:Nat)(x:α):((List.range k).map f).set v x=(List.range k).map (Bp f v x):=by
 refine List.ext_getElem (by simp) fun j h1 h2=>?_
 rw [List.getElem_set]
 simp only [List.getElem_map,List.getElem_range,Bp]
 by_cases e:v=j
 ·rw [if_pos e,if_pos e.symm]
 ·rw [if_neg e,if_neg (fun e'=>e e'.symm)]
theorem Ad9 (k:Nat)(g:Nat->Nat)(v p:Nat):(K1 k g).set v (C5 p)=K1 k (Bp g v p):=by
 unfold K1
 rw [Js]
 congr 1
 funext j
 unfold Bp
 split<;>rfl
theorem rowP.form (h:rowP base k V g fp w)(hv:v<k):∃ (g0:Nat) (cap:Nat) (cur:List Value),V=.slice (some ⟨g0,0,none⟩) k cap/\fp=[g0]/\w.heap[g0]?=some (.cells cur.toArray 117 (0,0)) /\
  (∀ j,j<k->w.cell? ((⟨g0,0,none⟩:Addr).add (j*1))=some (C5 (g j)))/\k<=cur.length/\∀ (w1:World) (j p:Nat),j<k->w1.heap[g0]?=some (.cells (cur.set j (C5 p)).toArray 117 (0,0))->rowP base k V (Bp g j p) [g0] w1:=by
 obtain ⟨h1,h2⟩:=h
 have hlen:=Tb k g
 rcases h2.2 with ⟨rfl,h0⟩|⟨g0,cap,cur,rfl,hbg,hg,hnc,hcm,hcs,htake⟩
 ·omega
 ·have hcl:k<=cur.toList.length:=by simp;omega
  have htk:cur.toList.take k=K1 k g:=by rw [Nat.mul_one] at htake;exact htake
  refine ⟨g0,cap,cur.toList,rfl,by rw [h1];rfl,by simpa using hg,fun j hj=>?_,hcl,fun w1 j p hj hp=>⟨rfl,?_⟩⟩
  ·rw [Nat.mul_one,add_zero]
   refine Au hg ?_
   have:=Y8 (g:=g) hj
   rw [<- htk,List.getElem?_take,if_pos hj] at this
   simpa using this
  ·refine ⟨by simp [Tb],.inr ⟨g0,cap,(cur.toList.set j (C5 p)).toArray,rfl,hbg,hp,hnc,hcm,by simpa using hcs,?_⟩⟩
   rw [Nat.mul_one]
   show (cur.toList.set j (C5 p)).take k=_
   rw [List.take_set,htk,Ad9]
theorem E4 {c:Cx}{m:Mem}(v t:Nat)(ht:t<4):Hx c m (100+4*v+t)=J9 c m v t:=by
 have e:100+4*v+t=(93+4*v+t)+7:=by omega
 rw [e]
 funext fp w
 show (93<=93+4*v+t->J9 c m ((93+4*v+t - 93)/4) ((93+4*v+t - 93)%4) fp w)=_
 have e1:(93+4*v+t - 93)/4=v:=by omega
 have e2:(93+4*v+t - 93)%4=t:=by omega
 rw [e1,e2]
 simp [show 93<=93+4*v+t by omega]
theorem Xz {c:Cx}{m:Mem}{j:Nat}(h:50<=j)(h2:j<100):Hx c m j=fun _ _=>True:=by
 obtain ⟨i,rfl⟩:∃ i,j=i+7:=⟨j - 7,by omega⟩
 funext fp w
 show (93<=i->J9 c m ((i - 93)/4) ((i - 93)%4) fp w)=True
 simp
 intro h3;omega
theorem Xu {c:Cx}{m m':Mem}(j:Nat)(hk:m'.k=m.k)(h0:j=0->Dm c m'=Dm c m)(h1:j=1->m'.Vi=m.Vi/\m'.gi=m.gi)(h2:j=2->m'.Vd=m.Vd/\m'.gd=m.gd)(h3:j=3->m'.Vt=m.Vt/\m'.gt=m.gt)(h4:j=4->m'.gf=m.gf/\m'.Vr=m.Vr)
  (h5:j=5->m'.Vw=m.Vw/\m'.wk=m.wk) (h6:j=6->m'.go=m.go/\m'.wk=m.wk)
  (h7:∀ v,j=100+4*v->m'.gi v=m.gi v/\m'.bi v=m.bi v) (h8:∀ v,j=100+4*v+1->m'.gd v=m.gd v/\m'.bd v=m.bd v) (h9:∀ v,j=100+4*v+2->m'.gt v=m.gt v/\m'.bt v=m.bt v) (h10:∀ v,j=100+4*v+3->m'.Vr v=m.Vr v/\m'.fr v=m.fr v):Hx c m' j=Hx c m j:=by
 match j with
 |0=>funext fp w;simp only [Hx,h0 rfl]
 |1=>simp only [Hx,h1 rfl,hk]
 |2=>simp only [Hx,h2 rfl,hk]
 |3=>simp only [Hx,h3 rfl,hk]
 |4=>simp only [Hx,h4 rfl]
 |5=>simp only [Hx,h5 rfl]
 |6=>simp only [Hx,h6 rfl]
 |i+7=>
  funext fp w
  simp only [Hx]
  refine propext ⟨fun h hi=>?_,fun h hi=>?_⟩<;>have h:=h hi<;>unfold J9 at h ⊢<;>refine ⟨fun e hv=>?_,fun e hv=>?_,fun e hv=>?_,fun e hv=>?_⟩
  ·have:=h.1 e (by rw [hk];exact hv);rwa [(h7 _ (by omega)).1,(h7 _ (by omega)).2] at this
  ·have:=h.2.1 e (by rw [hk];exact hv);rwa [(h8 _ (by omega)).1,(h8 _ (by omega)).2] at this
  ·have:=h.2.2.1 e (by rw [hk];exact hv);rwa [(h9 _ (by omega)).1,(h9 _ (by omega)).2] at this
  ·have:=h.2.2.2 e hv;rwa [(h10 _ (by omega)).1,(h10 _ (by omega)).2] at this
  ·have:=h.1 e (by rw [<- hk];exact hv);rwa [(h7 _ (by omega)).1,(h7 _ (by omega)).2]
  ·have:=h.2.1 e (by rw [<- hk];exact hv);rwa [(h8 _ (by omega)).1,(h8 _ (by omega)).2]
  ·have:=h.2.2.1 e (by rw [<- hk];exact hv);rwa [(h9 _ (by omega)).1,(h9 _ (by omega)).2]
  ·have:=h.2.2.2 e hv;rwa [(h10 _ (by omega)).1,(h10 _ (by omega)).2]
theorem Jq {c:Cx}{m m':Mem}(j:Nat){fp:List Nat}{w:World}(hj:Hx c m j fp w)(hk:m'.k=m.k)(h0:j=0->Dm c m'=Dm c m)(h1:j=1->m'.Vi=m.Vi/\m'.gi=m.gi)(h2:j=2->m'.Vd=m.Vd/\m'.gd=m.gd)(h3:j=3->m'.Vt=m.Vt/\m'.gt=m.gt)(h4:j=4->m'.gf=m.gf/\m'.Vr=m.Vr)
  (h5:j=5->m'.Vw=m.Vw/\m'.wk=m.wk) (h6:j=6->m'.go=m.go/\m'.wk=m.wk)
  (h7:∀ v,j=100+4*v->m'.gi v=m.gi v/\m'.bi v=m.bi v) (h8:∀ v,j=100+4*v+1->m'.gd v=m.gd v/\m'.bd v=m.bd v) (h9:∀ v,j=100+4*v+2->m'.gt v=m.gt v/\m'.bt v=m.bt v) (h10:∀ v,j=100+4*v+3->m'.Vr v=m.Vr v/\m'.fr v=m.fr v):Hx c m' j fp w:=by
 rw [Xu (m:=m) (m':=m') j hk h0 h1 h2 h3 h4 h5 h6 h7 h8 h9 h10]
 exact hj
end
section
variable {c:Cx}{O O1:Nat->Nat}{w w1:World}{m:Mem}{v k g:Nat}{f:Nat->List Nat->World->Prop}{P:List Nat->World->Prop}
theorem All.putB {cs:List Value}{t:TypeId}(h:All O w f)(hp:Put w w1 g cs t)(hO:O g=k)(hP:∀ w',w'.heap[g]?=some (.cells cs.toArray t (0,0))->P [g] w'):All (Cp O w.heap.size k) w1 (H9 f k P):=
 h.put (rb:=[g]) (fp:=[g]) (Kept.put (Kept.refl _ _) hp (.inl (by simp))) (by simpa using fun _=>hO) (by simpa using ⟨fun _=>hO,Ae hp.blk⟩) fun w' hw=>hP w' ((hw g (by simp)).trans hp.blk)
structure AS (O:Nat->Nat)(w:World)(O1:Nat->Nat)(w1:World)(f:Nat->List Nat->World->Prop):Prop where
 all:All O1 w1 f
 stp:Stp O O1 w w1
theorem AS.start (h:All O w f):AS O w O w f:=⟨h,Stp.refl _ _⟩
section
variable {w2:World}
theorem AS.up (h:AS O w O1 w1 f)(hb:Below w1.heap.size w1 w2)(k:Nat):AS O w (Cp O1 w1.heap.size k) w2 f:=⟨h.all.up hb k,h.stp.trans (Stp.up hb k)⟩
theorem AS.put {rb fp:List Nat}(h:AS O w O1 w1 f)(h5:k<50\/100<=k)(hk:Kept rb w1 w2)(hr:∀ b∈rb,b<w1.heap.size->O1 b=k)(hfp:∀ b∈fp,(b<w1.heap.size->O1 b=k)/\b<w2.heap.size)(hP:∀ w',(∀ b∈fp,w'.heap[b]?=w2.heap[b]?)->P fp w'):AS O w (Cp O1 w1.heap.size k) w2 (H9 f k P):=
 ⟨h.all.put hk hr hfp hP,h.stp.trans (Stp.kept hk hr h5 k)⟩
theorem AS.putB {cs:List Value}{t:TypeId}(h:AS O w O1 w1 f)(h5:k<50\/100<=k)(hp:Put w1 w2 g cs t)(hO:O1 g=k)(hP:∀ w',w'.heap[g]?=some (.cells cs.toArray t (0,0))->P [g] w'):AS O w (Cp O1 w1.heap.size k) w2 (H9 f k P):=
 ⟨h.all.putB hp hO hP,h.stp.trans (Stp.kept (rb:=[g]) (Kept.put (Kept.refl _ _) hp (.inl (by simp))) (by simpa using fun _=>hO) h5 k)⟩
theorem AS.imp {f':Nat->List Nat->World->Prop}(h:AS O w O1 w1 f)(hi:∀ j fp w,f j fp w->f' j fp w):AS O w O1 w1 f':=⟨h.all.imp hi,h.stp⟩
end
theorem SV.box (h:SV c O w m):w.heap[c.gx]?=some (.cells (Dm c m).toArray 116 (0,0))/\O c.gx=0:=by
 obtain ⟨fp,⟨rfl,h1⟩,h2⟩:=(h.all 0).now
 exact ⟨h1,(h2 _ (by simp)).1⟩
theorem SV.onB (h:SV c O w m):w.heap[m.go]?=some (.cells (S4 c.n m.wk).toArray 4 (0,0))/\O m.go=6:=by
 obtain ⟨fp,⟨rfl,h1⟩,h2⟩:=(h.all 6).now
 exact ⟨h1,(h2 _ (by simp)).1⟩
theorem SV.fromB (h:SV c O w m):w.heap[m.gf]?=some (.cells ((List.range c.n).map m.Vr).toArray 27 (0,0))/\O m.gf=4:=by
 obtain ⟨fp,⟨rfl,h1⟩,h2⟩:=(h.all 4).now
 exact ⟨h1,(h2 _ (by simp)).1⟩
theorem SV.rowI (h:SV c O w m):rowP c.base c.n m.Vi m.gi m.Vi.ownBlock.toList w/\∀ b∈m.Vi.ownBlock.toList,O b=1:=by
 obtain ⟨fp,h1,h2⟩:=(h.all 1).now
 have h1:rowP c.base m.k m.Vi m.gi fp w:=h1
 rw [h.hk] at h1
 have e:=h1.1
 subst e
 exact ⟨h1,fun b hb=>(h2 b hb).1⟩
theorem SV.rowD (h:SV c O w m):rowP c.base c.n m.Vd m.gd m.Vd.ownBlock.toList w/\∀ b∈m.Vd.ownBlock.toList,O b=2:=by
 obtain ⟨fp,h1,h2⟩:=(h.all 2).now
 have h1:rowP c.base m.k m.Vd m.gd fp w:=h1
 rw [h.hk] at h1
 have e:=h1.1
 subst e
 exact ⟨h1,fun b hb=>(h2 b hb).1⟩
theorem SV.rowT (h:SV c O w m):rowP c.base c.n m.Vt m.gt m.Vt.ownBlock.toList w/\∀ b∈m.Vt.ownBlock.toList,O b=3:=by
 obtain ⟨fp,h1,h2⟩:=(h.all 3).now
 have h1:rowP c.base m.k m.Vt m.gt fp w:=h1
 rw [h.hk] at h1
 have e:=h1.1
 subst e
 exact ⟨h1,fun b hb=>(h2 b hb).1⟩
theorem SV.queue (h:SV c O w m):∃ fp,QRow c.base m.Vw m.wk fp w/\∀ b∈fp,O b=5:=by
 obtain ⟨fp,h1,h2⟩:=(h.all 5).now
 exact ⟨fp,h1,fun b hb=>(h2 b hb).1⟩
theorem SV.setI (h:SV c O w m)(hv:v<c.n):∃ fp,PSet c.base (m.gi v) w (m.bi v) fp/\∀ b∈fp,O b=100+4*v:=by
 obtain ⟨fp,h1,h2⟩:=(h.all (100+4*v+0)).now
 rw [E4 v 0 (by omega)] at h1
 exact ⟨fp,h1.1 rfl (by rw [h.hk];exact hv),fun b hb=>(h2 b hb).1⟩
theorem SV.setD (h:SV c O w m)(hv:v<c.n):∃ fp,PSet c.base (m.gd v) w (m.bd v) fp/\∀ b∈fp,O b=100+4*v+1:=by
 obtain ⟨fp,h1,h2⟩:=(h.all (100+4*v+1)).now
 rw [E4 v 1 (by omega)] at h1
 exact ⟨fp,h1.2.1 rfl (by rw [h.hk];exact hv),fun b hb=>(h2 b hb).1⟩
theorem SV.setT (h:SV c O w m)(hv:v<c.n):∃ fp,PSet c.base (m.gt v) w (m.bt v) fp/\∀ b∈fp,O b=100+4*v+2:=by
 obtain ⟨fp,h1,h2⟩:=(h.all (100+4*v+2)).now
 rw [E4 v 2 (by omega)] at h1
 exact ⟨fp,h1.2.2.1 rfl (by rw [h.hk];exact hv),fun b hb=>(h2 b hb).1⟩
theorem SV.fromR (h:SV c O w m)(hv:v<c.n):∃ fp,QRow c.base (m.Vr v) (m.fr v) fp w/\∀ b∈fp,O b=100+4*v+3:=by
 obtain ⟨fp,h1,h2⟩:=(h.all (100+4*v+3)).now
 rw [E4 v 3 (by omega)] at h1
 exact ⟨fp,h1.2.2.2 rfl hv,fun b hb=>(h2 b hb).1⟩
theorem SV.up (h:SV c O w m)(hb:Below w.heap.size w w1)(k:Nat):SV c (Cp O w.heap.size k) w1 m:=
 ⟨h.all.up hb k,fun b hlt=>by rw [A6 (by have:=h.sz;omega)];exact h.low b hlt,Nat.le_trans h.sz hb.size,h.hk,h.nd,h.wl,h.hn,h.hx⟩
theorem Ahk (n:Nat)(wk:List Nat)(v:Nat):(S4 n wk).set v (.bool true)=S4 n (wk++[v]):=by
 unfold S4
 rw [Js]
 congr 1
 funext j
 unfold Bp
 by_cases e:j=v<;>simp [e]
theorem Akq {n:Nat}{wk:List Nat}{v:Nat}(h:v<n):(S4 n wk)[v]?=some (.bool (decide (v∈wk))):=by simp [S4,h]
theorem Vk (n:Nat)(wk:List Nat):(S4 n wk).length=n:=by simp [S4]
theorem QRow.one {base:Nat}{V:Value}{xs fp:List Nat}(h:QRow base V xs fp w):∃ row:Option Nat,fp=row.toList:=by
 rcases h.ex with ⟨_,rfl,_⟩|⟨g,_,_,rfl,_⟩
 ·exact ⟨none,rfl⟩
 ·exact ⟨some g,rfl⟩
theorem Ark {n:Nat}{F:Fm}{o:Oper}{K:Fm->World->Prop}{base:Nat}{V:Value}{xs fp:List Nat}{v:Nat}{c:Call}{x y:Operand}{g1 cc:Nat}{t':TypeId}
  (h:QRow base V xs fp w) (hb1:w.heap[g1]?=some (.cells #[.int .i64 (v:Int)] t' (0,0))) (hop:o.op=.call c) (hcal:c.callee=.builtin .append) (hargs:c.args.toList=[x,y]) (htys:c.argTypes.toList=[27,27])
  (hx:ev F x=V) (hy:ev F y=.slice (some ⟨g1,0,none⟩) 1 cc) {d:Nat} (hd:o.dst=some d) (hn:Nat.blt d n=true) (hl:xs.length<1099511627776) (hbase:base<=w.heap.size)
  (k:∀ A cap w1 fp',QRow base (.slice A (xs.length+1) cap) (xs++[v]) fp' w1->Kept fp w w1->(∀ b∈fp',b∈fp\/w.heap.size<=b)->K (Bd F d (.slice A (xs.length+1) cap)) w1):wa Tryz.prog n o F w K:=by
 obtain ⟨V',w1,fp',h1,h2,h3,h4⟩:=Aky Aa (by rfl) h hb1 hop hcal hargs htys hx hy hl hbase
 obtain ⟨A,cap,rfl,_⟩:=h2.form
 have e:(xs++[v]).length=xs.length+1:=by simp
 rw [e] at h1 h2
 exact ⟨_,_,h1,by rw [hd];exact hn,by rw [hd];exact k A cap w1 fp' h2 h3 h4⟩
end
theorem Yk (k:Nat)(g:Nat->Nat)(p:Nat):K1 (k+1) (Bp g k p)=K1 k g++[C5 p]:=by
 unfold K1
 rw [List.range_succ,List.map_append]
 congr 1
 ·refine List.map_congr_left fun v hv=>?_
  rw [Ga _ _ (by have:=List.mem_range.1 hv;omega)]
 ·simp [Bp]
structure CP where
 ld:Nat
 bx:Nat
 bs:Nat
 ap:Nat
 sl:Nat
 sx:Nat
 ss:Nat
 sa:Nat
 kr:Nat
 ks:Nat
 kt:Nat
 V:Value
 g:Nat->Nat
 K:Nat
 base:Nat
def Bkz (h gs:Nat):List Nat->World->Prop:=fun fp w=>fp=[h]/\w.heap[h]?=some (.cells #[C5 gs] 117 (0,0))
structure ChOk (p:CP)(b:Nat->Bool)(O:Nat->Nat)(F:Fm)(W:World):Prop where
 l:b p.ld=true->F p.sl=p.V
 r:b p.ap=false->AtF O p.kr W (rowP p.base p.K p.V p.g)
 x:b p.bx=true->∃ gs,F p.sx=C5 gs/\AtF O p.ks W (fun fp w=>PSet p.base gs w [] fp) /\
  (b p.bs=true->b p.ap=false->∃ h,F p.ss=.slice (some ⟨h,0,none⟩) 1 1/\AtF O p.kt W (Bkz h gs)) /\
  (b p.ap=true->∃ A c,F p.sa=.slice A (p.K+1) c/\AtF O p.kr W (rowP p.base (p.K+1) (.slice A (p.K+1) c) (Bp p.g p.K gs)))
 sb:b p.bs=true->b p.bx=true
 asb:b p.ap=true->b p.bs=true
 al:b p.ap=true->b p.ld=true
section
variable {p:CP}{b b':Nat->Bool}{O O':Nat->Nat}{F F':Fm}{W W':World}
theorem ChOk.fr (h:ChOk p b O F W)(hb:∀ i,(i=p.ld\/i=p.bx\/i=p.bs\/i=p.ap)->b' i=b i)(hF:∀ t,(t=p.sl\/t=p.sx\/t=p.ss\/t=p.sa)->F' t=F t)(hA:∀ k P,(k=p.kr\/k=p.ks\/k=p.kt)->AtF O k W P->AtF O' k W' P):ChOk p b' O' F' W':=by
 have h1:=hb p.ld (by simp)
 have h2:=hb p.bx (by simp)
 have h3:=hb p.bs (by simp)
 have h4:=hb p.ap (by simp)
 refine ⟨fun e=>?_,fun e=>?_,fun e=>?_,fun e=>?_,fun e=>?_,fun e=>by rw [h1];exact h.al (by rw [<- h4];exact e)⟩
 ·rw [hF _ (by simp)];exact h.l (by rw [<- h1];exact e)
 ·exact hA _ _ (by simp) (h.r (by rw [<- h4];exact e))
 ·obtain ⟨gs,a1,a2,a3,a4⟩:=h.x (by rw [<- h2];exact e)
  refine ⟨gs,by rw [hF _ (by simp)];exact a1,hA _ _ (by simp) a2,fun e1 e2=>?_,fun e1=>?_⟩
  ·obtain ⟨q,q1,q2⟩:=a3 (by rw [<- h3];exact e1) (by rw [<- h4];exact e2)
   exact ⟨q,by rw [hF _ (by simp)];exact q1,hA _ _ (by simp) q2⟩
  ·obtain ⟨A,c,q1,q2⟩:=a4 (by rw [<- h4];exact e1)
   exact ⟨A,c,by rw [hF _ (by simp)];exact q1,hA _ _ (by simp) q2⟩
 ·rw [h2];exact h.sb (by rw [<- h3];exact e)
 ·rw [h3];exact h.asb (by rw [<- h4];exact e)
theorem AtF.up {P:List Nat->World->Prop}{k:Nat}(h:AtF O k W P)(hb:Below W.heap.size W W')(k':Nat):AtF (Cp O W.heap.size k') k W' P:=h.keep (fun _=>A6) hb.size fun b hlt _=>hb.block b hlt
theorem ChOk.up (h:ChOk p b O F W)(hb:Below W.heap.size W W')(k:Nat):ChOk p b (Cp O W.heap.size k) F W':=h.fr (fun _ _=>rfl) (fun _ _=>rfl) fun _ _ _ ha=>ha.up hb k
theorem ChOk.load (h:ChOk p b O F W)(hne:p.ld≠p.bx/\p.ld≠p.bs/\p.ld≠p.ap)(hs:p.sl≠p.sx/\p.sl≠p.ss/\p.sl≠p.sa)(hb:∀ i,b' i=(b i||decide (i=p.ld)))(hF:F'=Bd F p.sl p.V):ChOk p b' O F' W:=by
 have e0:F' p.sl=p.V:=by rw [hF];simp [Bd]
 have eF:∀ t,t≠p.sl->F' t=F t:=fun t ht=>by rw [hF];simp only [Bd,E5 ht,cond_false]
 have eb:∀ i,i≠p.ld->b' i=b i:=fun i hi=>by rw [hb];simp [hi]
 have h2:=eb p.bx (Ne.symm hne.1)
 have h3:=eb p.bs (Ne.symm hne.2.1)
 have h4:=eb p.ap (Ne.symm hne.2.2)
 refine ⟨fun _=>e0,fun e=>h.r (by rw [<- h4];exact e),fun e=>?_,fun e=>by rw [h2];exact h.sb (by rw [<- h3];exact e),fun e=>by rw [h3];exact h.asb (by rw [<- h4];exact e),fun _=>by rw [hb];simp⟩
 obtain ⟨gs,a1,a2,a3,a4⟩:=h.x (by rw [<- h2];exact e)
 refine ⟨gs,by rw [eF _ (Ne.symm hs.1)];exact a1,a2,fun e1 e2=>?_,fun e1=>?_⟩
 ·obtain ⟨q,q1,q2⟩:=a3 (by rw [<- h3];exact e1) (by rw [<- h4];exact e2)
  exact ⟨q,by rw [eF _ (Ne.symm hs.2.1)];exact q1,q2⟩
 ·obtain ⟨A,c,q1,q2⟩:=a4 (by rw [<- h4];exact e1)
  exact ⟨A,c,by rw [eF _ (Ne.symm hs.2.2)];exact q1,q2⟩
theorem ChOk.box (h:ChOk p b O F W){g1:Nat}{w1:World}(hn:New W w1 g1 [.slice none 0 0] 120)(hbase:p.base<=W.heap.size)(hbx:b p.bx=false)(hne:p.bx≠p.ld/\p.bx≠p.bs/\p.bx≠p.ap)(hs:p.sx≠p.sl)(hb:∀ i,b' i=(b i||decide (i=p.bx)))(hF:F'=Bd F p.sx (C5 g1)) :
  ChOk p b' (Cp O W.heap.size p.ks) F' w1:=by
 have e0:F' p.sx=C5 g1:=by rw [hF];simp [Bd]
 have eF:∀ t,t≠p.sx->F' t=F t:=fun t ht=>by rw [hF];simp only [Bd,E5 ht,cond_false]
 have eb:∀ i,i≠p.bx->b' i=b i:=fun i hi=>by rw [hb];simp [hi]
 have h1:=eb p.ld (Ne.symm hne.1)
 have h3:=eb p.bs (Ne.symm hne.2.1)
 have h4:=eb p.ap (Ne.symm hne.2.2)
 have nb:b p.bs=false:=by cases q:b p.bs with|false=>rfl|true=>have:=h.sb q;rw [hbx] at this;cases this
 have na:b p.ap=false:=by cases q:b p.ap with|false=>rfl|true=>have:=h.asb q;rw [nb] at this;cases this
 refine ⟨fun e=>by rw [eF _ (Ne.symm hs)];exact h.l (by rw [<- h1];exact e),fun e=>(h.r na).up hn.below _,fun e=>?_,fun e=>by rw [hb];simp,fun e=>(by rw [h4,na] at e;cases e),fun e=>(by rw [h4,na] at e;cases e)⟩
 refine ⟨g1,e0,⟨[g1],by simpa using ⟨C3 (Nat.le_of_eq hn.at_.symm),Ae hn.blk⟩,fun w' hw'=>?_⟩,fun e1=>(by rw [h3,nb] at e1;cases e1),fun e1=>(by rw [h4,na] at e1;cases e1)⟩
 have hp:=K6 hn
 exact (hp.keep hw').lower hbase
theorem ChOk.one (h:ChOk p b O F W){h1 gs:Nat}{w1:World}(hgs:F p.sx=C5 gs)(hn:New W w1 h1 [C5 gs] 117)(hbx:b p.bx=true)(hbs:b p.bs=false)(hne:p.bs≠p.ld/\p.bs≠p.bx/\p.bs≠p.ap)(hs:p.ss≠p.sl/\p.ss≠p.sx)(hb:∀ i,b' i=(b i||decide (i=p.bs)))(hF:F'=Bd F p.ss (.slice (some ⟨h1,0,none⟩) 1 1)) :
  ChOk p b' (Cp O W.heap.size p.kt) F' w1:=by
 have e0:F' p.ss=.slice (some ⟨h1,0,none⟩) 1 1:=by rw [hF];simp [Bd]
 have eF:∀ t,t≠p.ss->F' t=F t:=fun t ht=>by rw [hF];simp only [Bd,E5 ht,cond_false]
 have eb:∀ i,i≠p.bs->b' i=b i:=fun i hi=>by rw [hb];simp [hi]
 have h2:=eb p.ld (Ne.symm hne.1)
 have h3:=eb p.bx (Ne.symm hne.2.1)
 have h4:=eb p.ap (Ne.symm hne.2.2)
 have na:b p.ap=false:=by cases q:b p.ap with|false=>rfl|true=>have:=h.asb q;rw [hbs] at this;cases this
 refine ⟨fun e=>by rw [eF _ (Ne.symm hs.1)];exact h.l (by rw [<- h2];exact e),fun e=>(h.r na).up hn.below _,fun e=>?_,fun e=>by rw [h3];exact hbx,fun e=>(by rw [h4,na] at e;cases e),fun e=>(by rw [h4,na] at e;cases e)⟩
 obtain ⟨gs',a1,a2,_,_⟩:=h.x hbx
 have:gs'=gs:=by
  rw [hgs] at a1
  unfold C5 at a1
  injection a1 with a1
  injection a1 with a1
  injection a1 with a1
  exact a1.symm
 subst this
 refine ⟨gs',by rw [eF _ (Ne.symm hs.2)];exact a1,a2.up hn.below _,fun _ _=>⟨h1,e0,[h1],by simpa using ⟨C3 (Nat.le_of_eq hn.at_.symm),Ae hn.blk⟩,fun w' hw'=>⟨rfl,(hw' h1 (by simp)).trans hn.blk⟩⟩,fun e1=>(by rw [h4,na] at e1;cases e1)⟩
theorem ChOk.app (h:ChOk p b O F W){A:Option Addr}{cap gs:Nat}{w1:World}(hgs:F p.sx=C5 gs)(hown:w1.ownsRow p.base 117 1 (.slice A (p.K+1) cap) (p.K+1) (K1 p.K p.g++[C5 gs]))(hg:W.grownBy w1 p.V.ownBlock)
  (hob:(Value.slice A (p.K+1) cap).ownBlock=p.V.ownBlock\/(Value.slice A (p.K+1) cap).ownBlock=some W.heap.size) (hV:∀ x∈p.V.ownBlock.toList,O x=p.kr/\x<W.heap.size) (hks:p.ks≠p.kr) (hbs:b p.bs=true) (hap:b p.ap=false) (hne:p.ap≠p.ld/\p.ap≠p.bx/\p.ap≠p.bs) (hs:p.sa≠p.sl/\p.sa≠p.sx) (hld:b p.ld=true) (hb:∀ i,b' i=(b i||decide (i=p.ap))) (hF:F'=Bd F p.sa (.slice A (p.K+1) cap)) :
  ChOk p b' (Cp O W.heap.size p.kr) F' w1:=by
 have e0:F' p.sa=.slice A (p.K+1) cap:=by rw [hF];simp [Bd]
 have eF:∀ t,t≠p.sa->F' t=F t:=fun t ht=>by rw [hF];simp only [Bd,E5 ht,cond_false]
 have eb:∀ i,i≠p.ap->b' i=b i:=fun i hi=>by rw [hb];simp [hi]
 have h2:=eb p.ld (Ne.symm hne.1)
 have h3:=eb p.bx (Ne.symm hne.2.1)
 have h4:=eb p.bs (Ne.symm hne.2.2)
 have hat:b' p.ap=true:=by rw [hb];simp
 refine ⟨fun e=>by rw [eF _ (Ne.symm hs.1)];exact h.l (by rw [<- h2];exact e),fun e=>(by rw [hat] at e;cases e),fun e=>?_,fun e=>by rw [h3];exact h.sb (by rw [<- h4];exact e),fun e=>by rw [h4];exact hbs,fun _=>by rw [h2];exact hld⟩
 obtain ⟨gs',a1,a2,_,_⟩:=h.x (h.sb hbs)
 have:gs'=gs:=by
  rw [hgs] at a1
  unfold C5 at a1
  injection a1 with a1
  injection a1 with a1
  injection a1 with a1
  exact a1.symm
 subst this
 have hlt:=hown.lt
 refine ⟨gs',by rw [eF _ (Ne.symm hs.2)];exact a1,a2.keep (fun _=>A6) hg.size fun x hx ho=>hg.block x hx fun e=>hks (by rw [<- ho];exact (hV x (by rw [<- e];simp)).1),fun _ e1=>(by rw [hat] at e1;cases e1),fun _=>⟨A,cap,e0,(Value.slice A (p.K+1) cap).ownBlock.toList,fun x hx=>⟨?_,(hlt x (Bi hx)).2⟩,fun w' hw'=>⟨rfl,?_⟩⟩⟩
 ·have hx':=Bi hx
  rcases hob with e|e
  ·have:=hV x (by rw [<- e];exact hx)
   rw [A6 this.2];exact this.1
  ·rw [e] at hx';cases hx';exact C3 (Nat.le_refl _)
 ·rw [Yk]
  refine ⟨hown.1,hown.2.imp id ?_⟩
  rintro ⟨g,cp,cur,h5,h6,h7,h8⟩
  exact ⟨g,cp,cur,h5,h6,(hw' g (by rw [h5];simp [Value.ownBlock])).trans h7,h8⟩
end
end Go.Proofs.YtghmdfegfehhkaaGreatDoor
