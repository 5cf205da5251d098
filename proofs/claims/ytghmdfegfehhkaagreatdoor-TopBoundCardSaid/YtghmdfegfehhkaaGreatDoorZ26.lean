/- Several texts of one claim in one file, made short: K03 S03 EF CL23 SK20 PT23 RM23 SM20. -/
import Derived.Test.YtghmdfegfehhkaaGreatDoorZ19
import Derived.Test.YtghmdfegfehhkaaGreatDoorZ5
import Derived.Test.YtghmdfegfehhkaaGreatDoorZ18
import Derived.Laws.StructEq
import Derived.Test.YtghmdfegfehhkaaGreatDoorZ6
import Derived.Laws.FloatArith
import Derived.Test.YtghmdfegfehhkaaGreatDoorZ15
import Derived.Test.YtghmdfegfehhkaaGreatDoorZ17
import Derived.Test.YtghmdfegfehhkaaGreatDoorZ25
set_option maxRecDepth 100000
set_option maxHeartbeats 64000000
set_option linter.unusedVariables false
set_option linter.unusedSimpArgs false
namespace Go.Proofs.YtghmdfegfehhkaaGreatDoor
open Go.RowKit
set_option linter.unnecessarySimpa false
theorem Ab6 (a b:Nat):∃ v:Nat,bits .andNot .u64 (a:Int) (b:Int)=(v:Int)/\v<18446744073709551616/\∀ j,v.testBit j=(decide (j<64)&&(a.testBit j&&!b.testBit j)):=by
 refine ⟨(BitVec.ofInt 64 (a:Int) &&& ~~~BitVec.ofInt 64 (b:Int)).toNat,?_,BitVec.isLt _,fun j=>?_⟩
 ·show IntKind.u64.wrap _=_
  have:=(BitVec.ofInt 64 (a:Int) &&& ~~~BitVec.ofInt 64 (b:Int)).isLt
  rw [IntKind.wrap_u64]
  show (((BitVec.ofInt 64 (a:Int) &&& ~~~BitVec.ofInt 64 (b:Int)).toNat:Nat):Int)%18446744073709551616=_
  omega
 ·rw [BitVec.testBit_toNat,BitVec.getLsbD_and,BitVec.getLsbD_not,BitVec.ofInt_natCast,BitVec.ofInt_natCast,BitVec.getLsbD_ofNat,BitVec.getLsbD_ofNat]
  by_cases h:j<64<;>simp [h]
structure LessR (w0:World)(s t:List Blk)(e:Ending)(w':World)(g':Nat)(bs':List Blk)(fp':List Nat):Prop where
 ret:e=.returned (.pointer (some ⟨g',0,none⟩))
 own:OwnS w0 g' w' bs' fp'
 mem:∀ n,Aw bs' n=(Aw s n&&!Aw t n)
 len:bs'.length<=s.length
theorem Qb {base g:Nat}{w w1 w2:World}{out:List Blk}{fp:List Nat}{D A5:Option Addr}{dc c5:Nat}{x:Blk}(hP:PSet base g w out fp)(hb:w.heap[g]?=some (.cells #[.slice D out.length dc] 120 (0,0)))(ho:ownsB w base (.slice D out.length dc) out)(hne:(Value.slice D out.length dc).ownBlock≠some g)
  (hown:w1.ownsRow base 179 2 (.slice A5 (out.length+1) c5) (out.length+1) (Bq out++En x)) (hgr:w.grownBy w1 (Value.slice D out.length dc).ownBlock) (hob:(Value.slice A5 (out.length+1) c5).ownBlock=(Value.slice D out.length dc).ownBlock\/(Value.slice A5 (out.length+1) c5).ownBlock=some w.heap.size)
  (hp:Put w1 w2 g [.slice A5 (out.length+1) c5] 120) (hw:WFB (out++[x])):∃ fp2,PSet base g w2 (out++[x]) fp2/\∀ b∈fp2,base<=b:=by
 have hpush:=Eu (x:=x) hown
 have e:out.length+1=(out++[x]).length:=by simp
 rw [e] at hp hob
 have hne2:(Value.slice A5 (out++[x]).length c5).ownBlock≠some g:=fun e2=>by
  rcases hob with h1|h1
  ·exact hne (h1.symm.trans e2)
  ·rw [e2] at h1
   cases h1
   have:=Ae hb
   omega
 refine ⟨_,⟨⟨_,hp.blk,hpush.keep fun b e3=>hp.grown.block b (hpush.lt b e3).2 (fun e4=>hne2 (e3.trans e4)),rfl,hne2⟩,hP.ge,hw⟩,fun b hb2=>?_⟩
 rcases List.mem_cons.1 hb2 with h|h
 ·rw [h];exact hP.ge
 ·exact (hpush.lt b (Bi h)).1
theorem Bh3 {b1 b2 g1 g2:Nat}{w:World}{s t:List Blk}{f1 f2:List Nat}(hP:PSet b1 g1 w s f1)(hQ:PSet b2 g2 w t f2)(hl1:s.length<1099511627776)(hl2:t.length<1099511627776) :
  Calls Tryz.prog 88 #[.pointer (some ⟨g1,0,none⟩),.pointer (some ⟨g2,0,none⟩)] w fun e w'=>∃ g' bs' fp',LessR w s t e w' g' bs' fp':=by
 obtain ⟨V1,hs,ho1,hf1,hne1⟩:=hP.ex
 obtain ⟨A,c,rfl,hlc1,hr1⟩:=ho1.row
 obtain ⟨V2,ht,ho2,hf2,hne2⟩:=hQ.ex
 obtain ⟨B,d,rfl,hlc2,hr2⟩:=ho2.row
 refine A9 (args:=[.pointer (some ⟨g1,0,none⟩),.pointer (some ⟨g2,0,none⟩)]) Aa Tryz.func88 rfl Tryz.ntmps88 rfl ?_;conv=>whnf
 skip
 refine Ci rfl rfl rfl rfl rfl rfl ?_
 intro g5 w1 hn1
 have hs1:=Ac hn1.below hs
 refine Ab Aa ?_
 conv=>whnf
 (repeat' ((first|refine Aj Aa hs1 rfl rfl rfl rfl rfl rfl rfl (Ab Aa ?_)|refine Kf Aa rfl rfl rfl rfl rfl rfl (Ab Aa ?_)|fail)<;>conv=>whnf))
 refine Am Aa (X:=Nat) (fun i=>[(1,.pointer (some ⟨g2,0,none⟩)),(5,.pointer (some ⟨g5,0,none⟩)),(18,.slice A s.length c),(19,.int .i64 s.length),(20,.int .i64 i)])
  (fun i wr=>i<=s.length/\∃ out fp,OwnS w g5 wr out fp/\LInv s t i out) (fun i=>s.length - i) 0 ⟨rfl,rfl,rfl,rfl,rfl,trivial⟩ ⟨by omega,[],[g5],⟨K6 hn1,hn1.below⟩,LInv.start s t⟩ ?_
 clear hs1 hn1
 intro i G wr ⟨hi,out,fp,hO,hL⟩
 conv=>whnf
 have hB:=hO.below
 by_cases hil:i<s.length
 ·obtain ⟨ad,rfl,hc⟩:=E8 (hr1.up B5 hB) i hil
  have hrg:=hP.wf.rng _ (Bs hil)
  have hstep:=@LInv.step s t out i
  (repeat' ((first|refine Al Aa 179 2 rfl rfl rfl rfl rfl rfl rfl (by omega) (Ab Aa ?_)|refine E0 Aa hc rfl rfl rfl rfl rfl rfl (Ab Aa ?_)|(refine Ag (by first|assumption|omega) ?_)|fail)<;>conv=>whnf))
  refine Bm Aa rfl rfl rfl rfl rfl rfl ?_
  intro g7 w2 hn2
  refine Ab Aa ?_
  conv=>whnf
  refine Di Aa hn2.blk rfl rfl rfl rfl rfl (by simp [Value.oneCell']) rfl rfl ?_
  intro w3 hp3
  have hB3:Below wr.heap.size wr w3:=hp3.below hn2.below (by have:=hn2.at_;omega) (by have:=hn2.size;omega)
  have hb7:=hp3.blk
  refine Ab Aa ?_
  conv=>whnf
  (repeat' ((first|refine Aj Aa hb7 rfl rfl rfl rfl rfl rfl rfl (Ab Aa ?_)|refine Aty Aa rfl rfl rfl rfl rfl rfl (Ab Aa ?_)|fail)<;>conv=>whnf))
  have hQ3:=hQ.up (Ax hB hB3)
  refine Bv Aw6 (An6 hQ3 s[i]!.a ⟨hrg.1,hrg.2.1⟩ (by omega)) rfl rfl rfl rfl rfl rfl rfl ?_
  rintro _ w4 ⟨p,ok,rfl,hf,hB4⟩
  refine ⟨_,rfl,Ab Aa ?_⟩
  conv=>whnf
  have hB04:=Ax hB (Ax hB3 hB4)
  have hb7:=Ac hB4 hb7
  have hg7:g7=wr.heap.size:=hn2.at_
  have hO4:OwnS w g5 w4 out fp:=⟨hO.set.up (Ax hB3 hB4),hB04⟩
  have hn7:∀ b∈fp,b≠g7:=fun b hb=>by have:=(hO.set.lt b hb).2;omega
  obtain ⟨hp0,hp1,hp2,hpok⟩:=hf
  cases ok
  ·skip
   have hO5:=hO4
   obtain ⟨v,hv⟩:∃ v,v=s[i]!.w:=⟨_,rfl⟩
   have hv1:v<18446744073709551616:=by rw [hv];exact hrg.2.2.2
   have hb7:w4.heap[g7]?=some (.cells #[.int .i64 s[i]!.a,.int .u64 (v:Int)] 179 (0,0)):=by rw [hv];exact hb7
   have hbits:∀ n,s[i]!.a=((n/64:Nat):Int)->v.testBit (n%64)=(s[i]!.w.testBit (n%64)&&!Aw t n):=fun n hn=>by
    rw [hv,Qg]
    ·simp
    ·intro j hj e
     have hja:t[j]!.a=s[i]!.a:=e.trans hn.symm
     rcases Nat.lt_or_ge j p with h1|h1
     ·have:=hp1 j h1;omega
     ·rcases Nat.lt_or_ge p j with h2|h2
      ·have:=hp2 p (Nat.le_refl _) (by omega)
       have:=hQ.wf.up p j h2 hj
       omega
      ·have:j=p:=by omega
       subst this
       rw [decide_eq_true hj,decide_eq_true hja] at hpok
       cases hpok
   have hst:=LInv.step hP.wf hL hil hv1 hbits
   by_cases hvz:v=0
   ·omega
   ·rw [if_neg hvz] at hst
    obtain ⟨V5,hb5,ho5,hfp5,hne5⟩:=hO5.set.ex
    obtain ⟨D,dc,rfl,_,_⟩:=ho5.row
    (repeat' ((first|refine Aj Aa hb7 rfl rfl rfl rfl rfl rfl rfl (Ab Aa ?_)|(refine Ag (by first|assumption|omega) ?_)|fail)<;>conv=>whnf))
    have hrowlt:∀ b,(Value.slice D out.length dc).ownBlock=some b->b∈fp:=fun b e=>by rw [hfp5,e];simp
    have hk5:=fun w' (h:Gw _ (Value.slice D out.length dc).ownBlock w')=>(h.block g5 (Ae hb5) (fun e=>hne5 e.symm)).trans hb5
    have hk7:=fun w' (h:Gw _ (Value.slice D out.length dc).ownBlock w')=>(h.block g7 (Ae hb7) (fun e=>hn7 g7 (hrowlt g7 e.symm) rfl)).trans hb7
    have hk7c:∀ w',Gw _ (Value.slice D out.length dc).ownBlock w'->Cw w' ⟨g7,0,none⟩ 0 [.int .i64 s[i]!.a,.int .u64 (v:Int)]:=fun w' h=>Cr (hk7 w' h) _ 0 0 (by simp)
    refine Em [0,1,2,3,4,5] 2 8 (H2 _ ((Value.slice D out.length dc).ownBlock)) Aa mixed (by kernel_rfl) (Cn _ _) ?_;(conv=>whnf)
    (repeat' ((first|refine D6 Aa hk5 rfl rfl rfl rfl rfl rfl rfl (Ad Aa ?_)|refine T9 Aa hk7c rfl rfl rfl rfl rfl rfl (Ad Aa ?_)|fail)<;>conv=>whnf))
    intro u1 hu1 hbu1
    conv=>whnf
    refine ⟨?_,trivial⟩
    conv=>whnf
    refine Hh (Gf Aa 179 2 rfl rfl rfl rfl rfl rfl rfl rfl rfl ?_)
    intro gn u2 hn2
    refine ⟨Bt hu1 (Ar hn2.below),fun u3 hbu3 hu3=>?_⟩
    conv=>whnf
    refine ⟨?_,trivial⟩
    conv=>whnf
    have hB73:=Ax hbu1 (Ax hn2.below hbu3)
    have hO7:OwnS w g5 u3 out fp:=⟨hO5.set.up hB73,Ax hO5.below hB73⟩
    have hb57:=Ac hB73 hb5
    have ho57:ownsB u3 w.heap.size (.slice D out.length dc) out:=ho5.keep fun b e=>hB73.block b (ho5.lt b e).2
    have hol:=hL.len
    refine Hh (Qm Aa 179 2 16 ho57 (Ac hbu3 hn2.blk) rfl rfl rfl rfl rfl rfl rfl rfl rfl rfl (by simp) (by simp [Value.oneCell']) (by omega) (by omega) hO7.below.size ?_)
    intro A5 c5 u4 hown hgr hob
    refine ⟨Bt hu3 hgr,fun u5 hbu5 hu5=>?_⟩
    conv=>whnf
    have hg5l:=Ae hb57
    have hb58:=Ac hbu5 ((hgr.block g5 hg5l (fun e=>hne5 e.symm)).trans hb57)
    have hown:=hown.kept (Ar (row:=none) hbu5) (Classical.em _)
    have hgr:u3.grownBy u5 (Value.slice D out.length dc).ownBlock:=Bt hgr (Ar hbu5)
    skip
    refine Dd (off:=0) Aa hb58 rfl rfl rfl rfl rfl rfl (by simp) rfl rfl ?_
    intro w9 hp9
    refine Ab Aa ?_
    conv=>whnf
    (repeat' ((first|refine Af rfl rfl rfl rfl rfl rfl (by omega) (by omega) (Ab Aa ?_)|fail)<;>conv=>whnf))
    obtain ⟨fp2,hs2,_⟩:=Qb (x:=⟨s[i]!.a,v⟩) hO7.set hb57 ho57 hne5 hown hgr hob hp9 hst.wf
    have hB8:Below w.heap.size w u5:=hO7.below.grown hgr hO7.below.size (fun b e=>(ho57.lt b e).1)
    exact ⟨i+1,⟨rfl,rfl,rfl,rfl,rfl,trivial⟩,⟨by omega,_,fp2,⟨hs2,hp9.below hB8 hO7.set.ge hB8.size⟩,hst⟩,by omega⟩
  ·have hpok:=hpok.symm
   rw [Bool.and_eq_true,decide_eq_true_eq,decide_eq_true_eq] at hpok
   obtain ⟨hpl,hpa⟩:=hpok
   obtain ⟨bd,rfl,_,hc4⟩:=Kt (hr2.up B5 hB04) p hpl
   have ht4:=Ac hB04 ht
   obtain ⟨v,hv0,hv1,hv2⟩:=Ab6 s[i]!.w t[p]!.w
   skip
   refine Gl 12 12 (Be _) Aa mixed (by kernel_rfl) rfl (Below.refl _ _) ?_;conv=>whnf
   (repeat' (first|(refine Ag5 hv0 rfl rfl rfl rfl rfl rfl rfl (Ad Aa ?_);(conv=>whnf))|(first|refine Bg Aa hb7 rfl rfl rfl rfl rfl rfl rfl (Ad Aa ?_)|refine Bg Aa ht4 rfl rfl rfl rfl rfl rfl rfl (Ad Aa ?_)|refine De Aa rfl rfl rfl rfl rfl rfl hc4 (Ad Aa ?_)|refine Dh Aa 179 2 rfl rfl rfl rfl rfl rfl rfl (by omega) (Ad Aa ?_)|fail)<;>conv=>whnf))
   intro w5 _ hB5
   conv=>whnf
   refine Dd (off:=1) Aa (Ac hB5 hb7) rfl rfl rfl rfl rfl rfl (by simp) rfl rfl ?_
   intro w6 hp6
   refine Ab Aa ?_
   conv=>whnf
   have hb7:w6.heap[g7]?=some (.cells #[.int .i64 s[i]!.a,.int .u64 (v:Int)] 179 (0,0)):=hp6.blk
   have hO5:OwnS w g5 w6 out fp:=by
    have h5:=hO4.set.up hB5
    exact ⟨h5.keep fun b hb=>hp6.grown.block b (h5.lt b hb).2 (by simp;exact hn7 b hb),hp6.below (Ax hB04 hB5) (by have:=hB.size;omega) (Ax hB04 hB5).size⟩
   have hbits:∀ n,s[i]!.a=((n/64:Nat):Int)->v.testBit (n%64)=(s[i]!.w.testBit (n%64)&&!Aw t n):=fun n hn=>by
    rw [hv2,hQ.wf.at_ hpl (hpa.trans hn),decide_eq_true (Nat.mod_lt _ (by omega))]
    rfl
   have hst:=LInv.step hP.wf hL hil hv1 hbits
   by_cases hvz:v=0
   ·rw [if_pos hvz] at hst
    (repeat' ((first|refine Aj Aa hb7 rfl rfl rfl rfl rfl rfl rfl (Ab Aa ?_)|refine Af rfl rfl rfl rfl rfl rfl (by omega) (by omega) (Ab Aa ?_)|refine Ah (by first|assumption|omega) ?_|fail)<;>conv=>whnf))
    exact ⟨i+1,⟨rfl,rfl,rfl,rfl,rfl,trivial⟩,⟨by omega,out,fp,hO5,hst⟩,by omega⟩
   ·rw [if_neg hvz] at hst
    obtain ⟨V5,hb5,ho5,hfp5,hne5⟩:=hO5.set.ex
    obtain ⟨D,dc,rfl,_,_⟩:=ho5.row
    (repeat' ((first|refine Aj Aa hb7 rfl rfl rfl rfl rfl rfl rfl (Ab Aa ?_)|(refine Ag (by first|assumption|omega) ?_)|fail)<;>conv=>whnf))
    have hrowlt:∀ b,(Value.slice D out.length dc).ownBlock=some b->b∈fp:=fun b e=>by rw [hfp5,e];simp
    have hk5:=fun w' (h:Gw _ (Value.slice D out.length dc).ownBlock w')=>(h.block g5 (Ae hb5) (fun e=>hne5 e.symm)).trans hb5
    have hk7:=fun w' (h:Gw _ (Value.slice D out.length dc).ownBlock w')=>(h.block g7 (Ae hb7) (fun e=>hn7 g7 (hrowlt g7 e.symm) rfl)).trans hb7
    have hk7c:∀ w',Gw _ (Value.slice D out.length dc).ownBlock w'->Cw w' ⟨g7,0,none⟩ 0 [.int .i64 s[i]!.a,.int .u64 (v:Int)]:=fun w' h=>Cr (hk7 w' h) _ 0 0 (by simp)
    refine Em [0,1,2,3,4,5] 2 8 (H2 _ ((Value.slice D out.length dc).ownBlock)) Aa mixed (by kernel_rfl) (Cn _ _) ?_;(conv=>whnf)
    (repeat' ((first|refine D6 Aa hk5 rfl rfl rfl rfl rfl rfl rfl (Ad Aa ?_)|refine T9 Aa hk7c rfl rfl rfl rfl rfl rfl (Ad Aa ?_)|fail)<;>conv=>whnf))
    intro u1 hu1 hbu1
    conv=>whnf
    refine ⟨?_,trivial⟩
    conv=>whnf
    refine Hh (Gf Aa 179 2 rfl rfl rfl rfl rfl rfl rfl rfl rfl ?_)
    intro gn u2 hn2
    refine ⟨Bt hu1 (Ar hn2.below),fun u3 hbu3 hu3=>?_⟩
    conv=>whnf
    refine ⟨?_,trivial⟩
    conv=>whnf
    have hB73:=Ax hbu1 (Ax hn2.below hbu3)
    have hO7:OwnS w g5 u3 out fp:=⟨hO5.set.up hB73,Ax hO5.below hB73⟩
    have hb57:=Ac hB73 hb5
    have ho57:ownsB u3 w.heap.size (.slice D out.length dc) out:=ho5.keep fun b e=>hB73.block b (ho5.lt b e).2
    have hol:=hL.len
    refine Hh (Qm Aa 179 2 16 ho57 (Ac hbu3 hn2.blk) rfl rfl rfl rfl rfl rfl rfl rfl rfl rfl (by simp) (by simp [Value.oneCell']) (by omega) (by omega) hO7.below.size ?_)
    intro A5 c5 u4 hown hgr hob
    refine ⟨Bt hu3 hgr,fun u5 hbu5 hu5=>?_⟩
    conv=>whnf
    have hg5l:=Ae hb57
    have hb58:=Ac hbu5 ((hgr.block g5 hg5l (fun e=>hne5 e.symm)).trans hb57)
    have hown:=hown.kept (Ar (row:=none) hbu5) (Classical.em _)
    have hgr:u3.grownBy u5 (Value.slice D out.length dc).ownBlock:=Bt hgr (Ar hbu5)
    skip
    refine Dd (off:=0) Aa hb58 rfl rfl rfl rfl rfl rfl (by simp) rfl rfl ?_
    intro w9 hp9
    refine Ab Aa ?_
    conv=>whnf
    (repeat' ((first|refine Af rfl rfl rfl rfl rfl rfl (by omega) (by omega) (Ab Aa ?_)|fail)<;>conv=>whnf))
    obtain ⟨fp2,hs2,_⟩:=Qb (x:=⟨s[i]!.a,v⟩) hO7.set hb57 ho57 hne5 hown hgr hob hp9 hst.wf
    have hB8:Below w.heap.size w u5:=hO7.below.grown hgr hO7.below.size (fun b e=>(ho57.lt b e).1)
    exact ⟨i+1,⟨rfl,rfl,rfl,rfl,rfl,trivial⟩,⟨by omega,_,fp2,⟨hs2,hp9.below hB8 hO7.set.ge hB8.size⟩,hst⟩,by omega⟩
 ·(repeat' (first|refine Cg rfl rfl ?_|(first|(refine Ah (by first|assumption|omega) ?_)|fail)<;>conv=>whnf))
  have e:i=s.length:=by omega
  subst e
  obtain ⟨j1,j2,j3⟩:=hL.done
  exact ⟨g5,out,fp,⟨rfl,hO,j2,j3⟩⟩
theorem Aqq (xs:List Blk)(A:Option Addr)(c:Nat)(w:World)(h:RowR 2 K5 w A xs)(hl:xs.length<1099511627776) :
  Calls Tryz.prog 130 #[.slice A xs.length c] w fun e w'=>∃ V,e=.returned V/\ownsB w' w.heap.size V xs/\Below w.heap.size w w':=by
 refine A9 (args:=[.slice A xs.length c]) Aa Tryz.func130 rfl Tryz.ntmps130 rfl ?_;conv=>whnf
 skip
 refine Aj8 Aa 179 2 rfl rfl rfl rfl rfl rfl (Ab Aa ?_);conv=>whnf
 cases A with
 |none=>
  have hx:xs=[]:=by
   cases xs with
   |nil=>rfl
   |cons a l=>obtain ⟨_,_,e,_⟩:=h.2 0 (by simp);cases e
  subst hx
  conv=>whnf
  (repeat' (first|refine Cg rfl rfl ?_|fail))
  exact ⟨_,rfl,F6 ..,Below.refl _ _⟩
 |some ad=>
  conv=>whnf
  skip
  refine C7 Aa 179 2 rfl rfl rfl rfl rfl rfl rfl rfl rfl rfl ?_
  intro g w1 hn1
  refine Ab Aa ?_
  conv=>whnf
  have ho:w1.ownsRow w.heap.size 179 2 (.slice (some ⟨g,0,none⟩) 0 0) 0 []:=⟨by simp,.inr ⟨g,0,_,rfl,Nat.le_of_eq hn1.at_.symm,hn1.blk,Nat.le_refl _,by decide,by simp,by simp⟩⟩
  skip
  refine Q0 Aa 179 2 16 ho (h.up B5 hn1.below) Ahx rfl rfl rfl rfl rfl rfl rfl rfl rfl rfl rfl (by omega) (by omega) (by have:=hn1.size;omega) ?_
  intro A2 c2 w2 news hel hown hgr hob
  refine Ab Aa ?_
  conv=>whnf
  (repeat' (first|refine Cg rfl rfl ?_|fail))
  have hB2:Below w.heap.size w w2:=hn1.below.grown hgr (by have:=hn1.size;omega) (fun k hk=>by cases hk;exact Nat.le_of_eq hn1.at_.symm)
  rw [Qn hel] at hown
  simp only [Nat.zero_add,List.nil_append] at hown ⊢
  exact ⟨_,rfl,hown,hB2⟩
theorem Be3 {base g:Nat}{w:World}{bs:List Blk}{fp:List Nat}(hP:PSet base g w bs fp)(hl:bs.length<1099511627776) :
  Calls Tryz.prog 89 #[.pointer (some ⟨g,0,none⟩)] w fun e w'=>∃ g' fp',e=.returned (.pointer (some ⟨g',0,none⟩))/\OwnS w g' w' bs fp':=by
 refine A9 (args:=[.pointer (some ⟨g,0,none⟩)]) Aa Tryz.func89 rfl Tryz.ntmps89 rfl ?_;conv=>whnf
 refine Bv Am8 (An9 hP) rfl rfl rfl rfl rfl rfl rfl ?_
 rintro _ w1 ⟨A,c,rfl,_,_,h1,hB1⟩
 refine ⟨_,rfl,Ab Aa ?_⟩
 conv=>whnf
 refine Bv Be4 (Aqq bs A c w1 (h1.up B5 hB1) hl) rfl rfl rfl rfl rfl rfl rfl ?_
 rintro _ w2 ⟨V,rfl,ho,hB2⟩
 obtain ⟨A2,c2,rfl,_,_⟩:=ho.row
 refine ⟨_,rfl,Ab Aa ?_⟩
 conv=>whnf
 skip
 refine Ci rfl rfl rfl rfl rfl rfl ?_
 intro g3 w3 hn3
 refine Ab Aa ?_
 conv=>whnf
 (repeat' (first|refine Cg rfl rfl ?_|fail))
 have hs1:=hB1.size
 have hs2:=hB2.size
 have ho3:ownsB w3 w.heap.size (.slice A2 bs.length c2) bs:=(ho.lower hs1).keep fun b e=>hn3.below.block b (ho.lt b e).2
 exact ⟨g3,_,rfl,⟨⟨_,hn3.blk,ho3,rfl,fun e=>by have:=(ho.lt g3 e).2;have:=hn3.at_;omega⟩,by have:=hn3.at_;omega,hP.wf⟩,Ax (Ax hB1 hB2) hn3.below⟩
section
variable {P:Program}{T:Nat->Option TI}{n:Nat}{Q:Post}{F:Fm}{w:World}{ops:Array Oper}{rest:List Oper}{o:Oper}{K:Fm->Prop}{C:World->Prop}
end
theorem R6 {n:Nat}{xs:List Cell}{ys:List Con}(h:Ba ⟨n,xs,ys⟩=true):n<=16384/\xs.length<=16384/\ys.length<=131072/\(∀ o,o<xs.length->GoodX n xs[o]!)/\∀ i,i<ys.length->GoodC n xs.length ys[i]! := by
 simp only [Ba,Hl,Bool.and_eq_true,decide_eq_true_eq,List.all_eq_true] at h
 exact ⟨by omega,h.1.1.1.2,h.1.1.2,fun o ho=>Ay2 (h.1.2 _ (Cz ho)),fun i hi=>Bax (h.2 _ (Cz hi))⟩
theorem QRow.get {base:Nat}{A:Option Addr}{l c:Nat}{xs fp:List Nat}{w:World}(h:QRow base (.slice A l c) xs fp w){i:Nat}(hi:i<xs.length):∃ ad,A=some ad/\w.cell? (ad.add (i*1))=some (.int .i64 (xs[i]!:Int)):=by
 rcases h.ex with ⟨h1,_⟩|⟨g,pre,post,h1,h2,h3,h4,h5⟩
 ·subst h1;simp at hi
 ·injection h2 with h2 _ _
  subst h2
  refine ⟨_,rfl,?_⟩
  rw [Nat.mul_one,Addr.add_lit]
  refine Au h4 ?_
  simp only [List.getElem?_toArray]
  rw [List.append_assoc,List.getElem?_append_right (by omega),Nat.add_sub_cancel_left,List.getElem?_append_left (by rw [R0];exact hi)]
  simp [vi,getElem!_pos xs i hi,hi]
structure FrOk (c:Cx)(fr:Nat->List Nat):Prop where
 all:∀ i,i<c.ys.length->¬c.ys[i]!.k=1->¬c.ys[i]!.k=2->i∈fr (Cs c.ys[i]!)
 only:∀ v,v<c.n->∀ i∈fr v,i<c.ys.length/\¬c.ys[i]!.k=1/\¬c.ys[i]!.k=2/\Cs c.ys[i]! = v
 len:∀ v,v<c.n->(fr v).length<=c.ys.length
def Cx.sys (c:Cx):Sys:=⟨c.n,c.xs,c.ys⟩
theorem SV.doned {c:Cx}{O:Nat->Nat}{w1 w2 w3:World}{m:Mem}{v g2 gr:Nat}{cur:List Value}{fp:List Nat}(h:SV c O w1 m)(hv:v<c.n)(hS:OwnS w1 g2 w2 (m.bi v) fp)
  (hO:O gr=2) (hg:gr<w1.heap.size) (hp:Put w2 w3 gr (cur.set v (C5 g2)) 117) (hrow:∀ w',w'.heap[gr]?=some (.cells (cur.set v (C5 g2)).toArray 117 (0,0))->rowP c.base c.n m.Vd (Bp m.gd v g2) [gr] w') :
  ∃ O3,SV c O3 w3 { m with gd:=Bp m.gd v g2,bd:=Bp m.bd v (m.bi v) }/\Stp O O3 w1 w3:=by
 have hlt:=hS.set.lt
 have a1:=(AS.start h.all).put (k:=100+4*v+1) (rb:=[]) (P:=J9 c { m with gd:=Bp m.gd v g2,bd:=Bp m.bd v (m.bi v) } v 1) (.inr (by omega)) (Kept.of hS.below) (by simp) (fp:=fp) (fun b hb=>⟨fun hl=>by have:=hlt b hb;omega,(hlt b hb).2⟩) (fun w' hw'=>by
  refine ⟨fun e=>absurd e (by omega),fun _ _=>?_,fun e=>absurd e (by omega),fun e=>absurd e (by omega)⟩
  show PSet c.base (Bp m.gd v g2 v) w' (Bp m.bd v (m.bi v) v) fp
  rw [E6,E6]
  exact (hS.set.keep hw').lower h.sz)
 have a2:=a1.putB (k:=2) (.inl (by omega)) hp ((a1.stp.own gr hg).trans hO) (P:=rowP c.base c.n m.Vd (Bp m.gd v g2)) (fun w' hw'=>hrow w' hw')
 refine ⟨_,⟨a2.all.imp fun j fp w' hj=>?_,a2.stp.low h.low h.sz,Nat.le_trans h.sz a2.stp.size,h.hk,h.nd,h.wl,h.hn,h.hx⟩,a2.stp⟩
 unfold H9 at hj
 split at hj
 ·rename_i e
  subst e
  show rowP c.base m.k m.Vd (Bp m.gd v g2) fp w'
  rw [h.hk]
  exact hj
 rename_i n2
 split at hj
 ·rename_i e
  subst e
  rw [E4 (c:=c) (m:={ m with gd:=Bp m.gd v g2,bd:=Bp m.bd v (m.bi v) }) v 1 (by omega)]
  exact hj
 rename_i ne
 refine Jq (m:=m) j hj rfl (fun _=>rfl) (fun _=>⟨rfl,rfl⟩) (fun e=>absurd e n2) (fun _=>⟨rfl,rfl⟩) (fun _=>⟨rfl,rfl⟩) (fun _=>⟨rfl,rfl⟩) (fun _=>⟨rfl,rfl⟩) (fun _ _=>⟨rfl,rfl⟩) (fun x e=>⟨Ga _ _ (fun e2=>ne (by subst e2;exact e)),Ga _ _ (fun e2=>ne (by subst e2;exact e))⟩) (fun _ _=>⟨rfl,rfl⟩) (fun _ _=>⟨rfl,rfl⟩)
theorem Bbq {c:Cx}{O:Nat->Nat}{w0 w:World}{m:Mem}(h:SV c O w m)(hT:Tab w0)(hw:Below w0.heap.size w0 w)(hw0:w0.heap.size=c.base)(hX:RCells w0 c.A1 c.xs)(hY:RCons w0 c.A2 c.ys)
  (hgx:∀ o,o<c.xs.length->GoodX c.n c.xs[o]!) (hgc:∀ i,i<c.ys.length->GoodC c.n c.xs.length c.ys[i]!) (hyl:c.ys.length<=131072) {s:St} (hI:Inv c.sys c.n s) {v:Nat} {r:List Nat} (hwk:s.work=v::r) (hm:m.st=⟨s.inn,s.don,s.too,r,s.pops+1⟩) (hF:FrOk c m.fr) :
  Calls Tryz.prog 41 #[.pointer (some ⟨c.gx,0,none⟩),.int .i64 (v:Int)] w fun e w'=>e=.returned (.tuple #[])/\SR c O w m w' (fun a u=>Inv c.sys c.n u/\u.pops=a.pops):=by
 have hv:v<c.n:=hI.dom.work v (by rw [hwk];simp)
 have hinn:∀ x o,Aw (m.bi x) o=s.inn x o:=fun x o=>congrFun (congrFun (congrArg St.inn hm) x) o
 have hdon:∀ x o,Aw (m.bd x) o=s.don x o:=fun x o=>congrFun (congrFun (congrArg St.don hm) x) o
 have htoo:∀ x o,Aw (m.bt x) o=s.too x o:=fun x o=>congrFun (congrFun (congrArg St.too hm) x) o
 obtain ⟨hbx,hbO⟩:=h.box
 obtain ⟨hri,_⟩:=h.rowI
 obtain ⟨g1,cap1,cur1,hVi,_,hr1,hcell1,_,_⟩:=hri.form hv
 obtain ⟨hrd,hrdO⟩:=h.rowD
 obtain ⟨g2,cap2,cur2,hVd,hfd,hr2,hcell2,hlen2,hput2⟩:=hrd.form hv
 obtain ⟨fi,hPi,hPiO⟩:=h.setI hv
 obtain ⟨fd,hPd,hPdO⟩:=h.setD hv
 have hb':=hbx
 unfold Dm at hb'
 rw [hVi,hVd] at hb'
 have hl1:=Gt hPi.wf (N:=c.xs.length) (fun o ho=>(hI.dom.inn v o (by rw [<- hinn];exact ho)).2)
 have hl2:=Gt hPd.wf (N:=c.xs.length) (fun o ho=>(hI.dom.inn v o (hI.dom.don v o (by rw [<- hdon];exact ho))).2)
 have hx:=h.hx
 have hn:=h.hn
 have hc1:=hcell1 v hv
 have hc2:=hcell2 v hv
 unfold C5 at hc1 hc2
 have hO2:O g2=2:=hrdO _ (by rw [hfd];simp)
 refine A9 (args:=[.pointer (some ⟨c.gx,0,none⟩),.int .i64 (v:Int)]) Aa Tryz.func41 rfl Tryz.ntmps41 rfl ?_;conv=>whnf
 refine Gl 14 14 (Be _) Aa mixed (by kernel_rfl) rfl (Below.refl _ _) ?_;conv=>whnf
 (repeat' ((first|refine Bg Aa hb' rfl rfl rfl rfl rfl rfl rfl (Ad Aa ?_)|refine De Aa rfl rfl rfl rfl rfl rfl hc1 (Ad Aa ?_)|refine De Aa rfl rfl rfl rfl rfl rfl hc2 (Ad Aa ?_)|refine Dh Aa 117 1 rfl rfl rfl rfl rfl rfl rfl (by omega) (Ad Aa ?_)|fail)<;>conv=>whnf))
 intro w1 _ hB1
 conv=>whnf
 refine Bv Bn3 (Bh3 (hPi.up hB1) (hPd.up hB1) (by omega) (by omega)) rfl rfl rfl rfl rfl rfl rfl ?_
 rintro _ w2 ⟨gm,lm,fm,hL⟩
 rw [hL.ret]
 refine ⟨_,rfl,Ab Aa ?_⟩
 conv=>whnf
 have hB2:=Ax hB1 hL.own.below
 have h2:=h.up hB2 98
 have hb2:=Ac hB2 hb'
 have hc1:=Bn hB2 hc1
 refine Em [0,1,2,3,4,5,6,7,8,9,10,11] 1 13 (Be _) Aa mixed (by kernel_rfl) (Below.refl _ _) ?_;(conv=>whnf)
 (repeat' ((first|refine Bg Aa hb2 rfl rfl rfl rfl rfl rfl rfl (Ad Aa ?_)|refine De Aa rfl rfl rfl rfl rfl rfl hc1 (Ad Aa ?_)|refine Dh Aa 117 1 rfl rfl rfl rfl rfl rfl rfl (by omega) (Ad Aa ?_)|fail)<;>conv=>whnf))
 intro w3 hB3 _
 conv=>whnf
 refine And.intro ?_ True.intro
 conv=>whnf
 refine Ag3 Bo3 (Be3 (hPi.up (Ax hB2 hB3)) (by omega)) rfl rfl rfl rfl rfl rfl ?_
 rintro _ w4 ⟨gc,fc,rfl,hC⟩
 refine ⟨_,rfl,Ax hB3 hC.below,fun w5 hB5 hC5=>?_⟩
 conv=>whnf
 (repeat' ((first|refine Al Aa 117 1 rfl rfl rfl rfl rfl rfl rfl (by omega) (Ab Aa ?_)|fail)<;>conv=>whnf))
 have hB45:=Ax hC.below hB5
 refine Dt (v:=.pointer (some ⟨gc,0,none⟩)) Aa (Ac (Ax (Ax hB2 hB3) hB45) hr2) rfl rfl rfl rfl rfl rfl (by omega) rfl rfl ?_
 intro w6 hp6
 refine Ab Aa ?_
 conv=>whnf
 have h3:=h2.up hB3 97
 have hs26:w.heap.size<=w2.heap.size:=hB2.size
 obtain ⟨O6,h6,s36⟩:=h3.doned (g2:=gc) (fp:=fc) hv ⟨hC.set.up hB5,hB45⟩ (by rw [A6 (by have:=Ae hr2;omega),A6 (Ae hr2)];exact hO2) (by have:=Ae hr2;have:=hB3.size;omega) (by rw [Nat.mul_one] at hp6;exact hp6) (fun w' hw'=>hput2 w' v gc hv hw')
 have s26:Stp (Cp O w.heap.size 98) O6 w2 w6:=(Stp.up hB3 97).trans s36
 have s06:Stp O O6 w w6:=(Stp.up hB2 98).trans s26
 have hmO:∀ b∈fm,Cp O w.heap.size 98 b=98:=fun b hb=>C3 (by have:=(hL.own.set.lt b hb).1;have:=hB1.size;omega)
 have hPm:∀ {W:World} {OW:Nat->Nat},Stp (Cp O w.heap.size 98) OW w2 W->PSet w1.heap.size gm W lm fm:=fun hS=>hL.own.set.keep fun b hb=>hS.fr b (hL.own.set.lt b hb).2 (by rw [hmO b hb];omega) (by rw [hmO b hb];omega)
 have hmem:∀ o,Aw lm o=(s.inn v o&&!s.don v o):=fun o=>by rw [hL.mem,hinn,hdon]
 have hlml:lm.length<=c.xs.length:=by have:=hL.len;omega
 have hlmo:∀ o,Aw lm o=true->o<c.xs.length:=fun o ho=>by
  rw [hmem] at ho
  simp only [Bool.and_eq_true] at ho
  exact (hI.dom.inn v o ho.1).2
 have hwW:∀ {W:World} {OW:Nat->Nat},Stp O OW w W->Below w0.heap.size w0 W:=fun hS=>hw.trans (by rw [hw0];exact hS.below h.low h.sz)
 obtain ⟨m2,hm2⟩:∃ m2:Mem,m2={ m with gd:=Bp m.gd v gc,bd:=Bp m.bd v (m.bi v) }:=⟨_,rfl⟩
 have hst2:m2.st=s.pop v r:=by
  subst hm2
  have q1:m.st.inn=s.inn:=by rw [hm]
  have q2:m.st.too=s.too:=by rw [hm]
  have q3:m.st.work=r:=by rw [hm]
  have q4:m.st.pops=s.pops+1:=by rw [hm]
  refine Ac1 q1 ?_ q2 q3 q4
  funext x o
  show Aw (Bp m.bd v (m.bi v) x) o=(if x=v then s.inn v else s.don x) o
  unfold Bp
  split
  ·exact hinn v o
  ·exact hdon x o
 have hfr2:m2.fr=m.fr:=by subst hm2;rfl
 have hVr2:m2.Vr=m.Vr:=by subst hm2;rfl
 have hgf2:m2.gf=m.gf:=by subst hm2;rfl
 rw [<- hm2] at h6
 clear hm2 s36 h3 hput2 hp6 hB45 hB5 hC hC5 h2 hb2 hc1 hc2
 obtain ⟨hfB,_⟩:=h6.fromB
 obtain ⟨ff,hR,hRO⟩:=h6.fromR hv
 obtain ⟨AF,cF,hVrv,_⟩:=hR.form
 rw [hVrv] at hR
 have hcf:w6.cell? ((⟨m2.gf,0,none⟩:Addr).add (v*1))=some (.slice AF (m2.fr v).length cF):=by
  rw [Nat.mul_one,add_zero]
  refine Au hfB ?_
  simp [hv,hVrv]
 have hb6:=h6.box.1
 unfold Dm at hb6
 (repeat' ((first|refine Aj Aa hb6 rfl rfl rfl rfl rfl rfl rfl (Ab Aa ?_)|refine Az Aa rfl rfl rfl rfl rfl rfl hcf (Ab Aa ?_)|refine Al Aa 27 1 rfl rfl rfl rfl rfl rfl rfl (by omega) (Ab Aa ?_)|fail)<;>conv=>whnf))
 have hfl:=hF.len v hv
 rw [<- hfr2] at hfl hF
 have hdom2:Dom c.n c.xs.length m2.st:=by rw [hst2];exact hI.pop_dom hwk
 have hsnd2:Sound c.sys m2.st:=by rw [hst2];exact ⟨hI.sound.inn,hI.sound.too⟩
 refine Am Aa (X:=Nat×(Nat->Nat)×Mem) (fun y=>[(0,.pointer (some ⟨c.gx,0,none⟩)),(1,.int .i64 (v:Int)),(4,.pointer (some ⟨gm,0,none⟩)),(46,.slice AF (m2.fr v).length cF),(47,.int .i64 (m2.fr v).length),(48,.int .i64 y.1)])
  (fun y wr=>y.1<=(m2.fr v).length/\SV c y.2.1 wr y.2.2/\Stp O6 y.2.1 w6 wr/\Grow c.n c.xs.length m2.st y.2.2.st/\Dom c.n c.xs.length y.2.2.st/\Sound c.sys y.2.2.st/\(∀ k,k<y.1->∀ o,Aw lm o=true->objE y.2.2.st c.ys[(m2.fr v)[k]!]! c.xs[o]!)/\y.2.2.fr=m2.fr/\y.2.2.Vr=m2.Vr) (fun y=>(m2.fr v).length - y.1) (0,O6,m2) ⟨rfl,rfl,rfl,rfl,rfl,rfl,trivial⟩ ⟨by simp,h6,Stp.refl _ _,Grow.refl _,hdom2,hsnd2,fun k hk=>by simp at hk,rfl,rfl⟩ ?_
 rintro ⟨i,Oi,mi⟩ G wr ⟨hi,hi2,si,hGi,hDi,hSi,hoi,e1,e2⟩
 simp only at hi hi2 si hGi hDi hSi hoi e1 e2
 conv=>whnf
 by_cases hil:i<(m2.fr v).length
 ·obtain ⟨ffi,hRi,_⟩:=hi2.fromR hv
  rw [e2,e1,hVrv] at hRi
  obtain ⟨adF,hAF,hcF⟩:=hRi.get hil
  obtain ⟨ii,hii⟩:∃ ii,ii=(m2.fr v)[i]! := ⟨_,rfl⟩
  rw [<- hii] at hcF
  have hiim:ii∈m2.fr v:=by rw [hii,getElem!_pos _ i hil];exact List.getElem_mem hil
  obtain ⟨hiy,hk1,hk2,hsrc⟩:=hF.only v hv ii hiim
  subst hAF
  (repeat' ((first|refine Az Aa rfl rfl rfl rfl rfl rfl hcF (Ab Aa ?_)|refine Al Aa 3 1 rfl rfl rfl rfl rfl rfl rfl (by omega) (Ab Aa ?_)|(refine Ag (by first|assumption|omega) ?_)|fail)<;>conv=>whnf))
  refine Bv Ap9 (Atq (hPm (s26.trans si)) (by omega) (hT.up (hwW (s06.trans si)))) rfl rfl rfl rfl rfl rfl rfl ?_
  rintro _ w7 ⟨V,rfl,hV,hB7⟩
  obtain ⟨AV,cV,rfl,_,_⟩:=hV.row
  refine ⟨_,rfl,Ab Aa ?_⟩
  conv=>whnf
  have h7:=hi2.up hB7 97
  have s7:Stp O6 (Cp Oi wr.heap.size 97) w6 w7:=si.trans (Stp.up hB7 97)
  have hVO:∀ b,(Value.slice AV (Br lm).length cV).ownBlock=some b->b<w7.heap.size/\Cp Oi wr.heap.size 97 b=97:=fun b hb=>⟨(hV.olt b hb).2,C3 (hV.olt b hb).1⟩
  generalize Cp Oi wr.heap.size 97=O7 at h7 s7 hVO
  have hnl:=Gv lm
  skip
  refine Am Aa (X:=Nat×(Nat->Nat)×Mem) (fun y=>[(0,.pointer (some ⟨c.gx,0,none⟩)),(1,.int .i64 (v:Int)),(4,.pointer (some ⟨gm,0,none⟩)),(6,.int .i64 (ii:Int)),(46,.slice (some adF) (m2.fr v).length cF),(47,.int .i64 (m2.fr v).length),(48,.int .i64 i),(53,.slice AV (Br lm).length cV),(54,.int .i64 (Br lm).length),(55,.int .i64 y.1)])
   (fun y wk=>y.1<=(Br lm).length/\SV c y.2.1 wk y.2.2/\Stp O7 y.2.1 w7 wk/\Grow c.n c.xs.length mi.st y.2.2.st/\Dom c.n c.xs.length y.2.2.st/\Sound c.sys y.2.2.st/\(∀ k,k<y.1->objE y.2.2.st c.ys[ii]! c.xs[((Br lm)[k]!).toNat]!)/\y.2.2.fr=m2.fr/\y.2.2.Vr=m2.Vr) (fun y=>(Br lm).length - y.1) (0,O7,mi) ⟨rfl,rfl,rfl,rfl,rfl,rfl,rfl,rfl,rfl,rfl,trivial⟩ ⟨by simp,h7,Stp.refl _ _,Grow.refl _,hDi,hSi,fun k hk=>by simp at hk,e1,e2⟩ ?_
  rintro ⟨j,Oj,mj⟩ G2 wk ⟨hj,hj2,sj,hGj,hDj,hSj,hoj,e3,e4⟩
  simp only at hj hj2 sj hGj hDj hSj hoj e3 e4
  conv=>whnf
  by_cases hjl:j<(Br lm).length
  ·have hVk:=hV.reads wk (by
    intro b hb
    obtain ⟨q1,q2⟩:=hVO b (Bi (by simpa using hb))
    exact sj.fr b q1 (by omega) (by omega))
   obtain ⟨ox,adV,hox,hAV,fo,_⟩:=Dy hVk j hjl
   have hom:ox∈Br lm:=by
    rw [<- hox.out,getElem!_pos _ j hjl]
    exact List.getElem_mem hjl
   obtain ⟨ho0,hob⟩:=(F5 hL.own.set.wf).1 hom
   obtain ⟨o,rfl⟩:∃ o:Nat,ox=o:=⟨ox.toNat,by omega⟩
   rw [Int.toNat_natCast] at hob
   have hoc:=hlmo o hob
   subst hAV
   obtain ⟨con,adC,Bc,bc,hcon,hA2,fcon,_,hRc,hck0,hck1,hca,hcb⟩:=Qj hY ii hiy
   obtain ⟨cel,adX,Bx,bx,hcel,hA1,fcel,_,hRx,hxv⟩:=Q3 hX o hoc
   have hbk:=hj2.box.1
   unfold Dm at hbk
   rw [hA1,hA2] at hbk
   have hwk0:Below w0.heap.size w0 wk:=hwW (s06.trans (s7.trans sj))
   have gc:=hgc ii hiy
   have gx:=hgx o hoc
   rw [hcon.out] at gc hk1 hk2 hsrc
   rw [hcel.out] at gx
   (repeat' ((first|refine Az Aa rfl rfl rfl rfl rfl rfl fo (Ab Aa ?_)|refine Al Aa 3 1 rfl rfl rfl rfl rfl rfl rfl (by omega) (Ab Aa ?_)|(refine Ag (by first|assumption|omega) ?_)|fail)<;>conv=>whnf))
   refine Gl 17 17 (Be _) Aa mixed (by kernel_rfl) rfl (Below.refl _ _) ?_;conv=>whnf
   (repeat' ((first|refine Bg Aa hbk rfl rfl rfl rfl rfl rfl rfl (Ad Aa ?_)|refine Dh Aa 77 4 rfl rfl rfl rfl rfl rfl rfl (by omega) (Ad Aa ?_)|refine Dh Aa 99 3 rfl rfl rfl rfl rfl rfl rfl (by omega) (Ad Aa ?_)|refine Zj Aa (Ev hwk0 fcon) rfl rfl rfl rfl rfl rfl (Ad Aa ?_)|refine Zj Aa (Ev hwk0 fcel) rfl rfl rfl rfl rfl rfl (Ad Aa ?_)|fail)<;>conv=>whnf))
   intro w8 _ hB8
   conv=>whnf
   have h8:=hj2.up hB8 97
   refine Bv Bl6 (Ak8 h8 hDj con cel Bc Bx bc bx (Ax hwk0 hB8) hw0 hRc.out hRx.out ⟨hca.1,gc.a⟩ hcb.1 (fun hk=>gc.b (by omega)) ⟨hxv.1,gx.v⟩ gx.args gc.args) rfl rfl rfl rfl rfl rfl rfl ?_
   rintro _ w9 ⟨rfl,O9,m9,h9,s9,hQ,e5,e6⟩
   refine ⟨_,rfl,Ab Aa ?_⟩
   conv=>whnf
   (repeat' ((first|refine Af rfl rfl rfl rfl rfl rfl (by omega) (by omega) (Ab Aa ?_)|fail)<;>conv=>whnf))
   refine ⟨(j+1,O9,m9),⟨rfl,rfl,rfl,rfl,rfl,rfl,rfl,rfl,rfl,rfl,trivial⟩,⟨by simp only;omega,h9,sj.trans ((Stp.up hB8 97).trans s9),hGj.trans hQ.grow,hQ.dom,hQ.sound c.sys hSj fun N hN=>?_,fun k hk=>?_,e5.trans e3,e6.trans e4⟩,by simp only;omega⟩
   ·have hr:=(hN ii hiy).2.2
    have hys:c.sys.cons[ii]! = con:=hcon.out
    rw [hys] at hr
    have:=hr hk1 hk2 o hoc (by
     rw [hsrc]
     refine hI.sound.inn N hN v o ?_
     rw [hmem] at hob
     simp only [Bool.and_eq_true] at hob
     exact hob.1)
    have hxs:c.sys.cells[o]! = cel:=hcel.out
    rwa [hxs] at this
   ·rcases Nat.lt_or_ge k j with hkj|hkj
    ·exact (hoj k hkj).up hQ.grow.too
    ·have:k=j:=by simp only at hk;omega
     subst this
     rw [hox.out,Int.toNat_natCast,hcon.out,hcel.out]
     exact hQ.there
  ·(repeat' ((first|refine Af rfl rfl rfl rfl rfl rfl (by omega) (by omega) (Ab Aa ?_)|refine Ah (by first|assumption|omega) ?_|fail)<;>conv=>whnf))
   refine ⟨(i+1,Oj,mj),⟨rfl,rfl,rfl,rfl,rfl,rfl,trivial⟩,⟨by simp only;omega,hj2,s7.trans sj,hGi.trans hGj,hDj,hSj,fun k hk o ho=>?_,e3,e4⟩,by simp only;omega⟩
   rcases Nat.lt_or_ge k i with hki|hki
   ·exact (hoi k hki o ho).up hGj.too
   ·have:k=i:=by simp only at hk;omega
    subst this
    rw [<- hii]
    have hm':((o:Nat):Int)∈Br lm:=(F5 hL.own.set.wf).2 ⟨by omega,by simpa using ho⟩
    obtain ⟨q,hq,hqe⟩:=List.getElem_of_mem hm'
    have:=hoj q (by omega)
    rw [getElem!_pos _ q hq,hqe,Int.toNat_natCast] at this
    exact this
 ·obtain ⟨hrt,_⟩:=hi2.rowT
  obtain ⟨g3,cap3,cur3,hVt,_,_,hcell3,_,_⟩:=hrt.form hv
  obtain ⟨ft,hPt,hPtO⟩:=hi2.setT hv
  have hbi:=hi2.box.1
  unfold Dm at hbi
  rw [hVt] at hbi
  have hc3:=hcell3 v hv
  unfold C5 at hc3
  have hlt:=Gt hPt.wf (N:=c.n) (fun o ho=>(hDi.too v o ho).2)
  (repeat' ((first|refine Aj Aa hbi rfl rfl rfl rfl rfl rfl rfl (Ab Aa ?_)|refine Az Aa rfl rfl rfl rfl rfl rfl hc3 (Ab Aa ?_)|refine Al Aa 117 1 rfl rfl rfl rfl rfl rfl rfl (by omega) (Ab Aa ?_)|(refine Ah (by first|assumption|omega) ?_)|fail)<;>conv=>whnf))
  refine Bv Ap9 (Atq hPt (by omega) (hT.up (hwW (s06.trans si)))) rfl rfl rfl rfl rfl rfl rfl ?_
  rintro _ w7 ⟨V,rfl,hV,hB7⟩
  obtain ⟨AV,cV,rfl,_,_⟩:=hV.row
  refine ⟨_,rfl,Ab Aa ?_⟩
  conv=>whnf
  have h7:=hi2.up hB7 97
  have s7:Stp O6 (Cp Oi wr.heap.size 97) w6 w7:=si.trans (Stp.up hB7 97)
  have hVO:∀ b,(Value.slice AV (Br (mi.bt v)).length cV).ownBlock=some b->b<w7.heap.size/\Cp Oi wr.heap.size 97 b=97:=fun b hb=>⟨(hV.olt b hb).2,C3 (hV.olt b hb).1⟩
  generalize Cp Oi wr.heap.size 97=O7 at h7 s7 hVO
  have hnl:=Gv (mi.bt v)
  have hnt:=h.hn
  skip
  refine Am Aa (X:=Nat×(Nat->Nat)×Mem) (fun y=>[(0,.pointer (some ⟨c.gx,0,none⟩)),(4,.pointer (some ⟨gm,0,none⟩)),(86,.slice AV (Br (mi.bt v)).length cV),(87,.int .i64 (Br (mi.bt v)).length),(88,.int .i64 y.1)])
   (fun y wk=>y.1<=(Br (mi.bt v)).length/\SV c y.2.1 wk y.2.2/\Stp O7 y.2.1 w7 wk/\Grow c.n c.xs.length mi.st y.2.2.st/\Dom c.n c.xs.length y.2.2.st/\Sound c.sys y.2.2.st/\y.2.2.st.too=mi.st.too/\(∀ k,k<y.1->∀ o,Aw lm o=true->y.2.2.st.inn ((Br (mi.bt v))[k]!).toNat o=true)/\y.2.2.fr=m2.fr/\y.2.2.Vr=m2.Vr) (fun y=>(Br (mi.bt v)).length - y.1) (0,O7,mi) ⟨rfl,rfl,rfl,rfl,rfl,trivial⟩ ⟨by simp,h7,Stp.refl _ _,Grow.refl _,hDi,hSi,rfl,fun k hk=>by simp at hk,e1,e2⟩ ?_
  rintro ⟨j,Oj,mj⟩ G2 wk ⟨hj,hj2,sj,hGj,hDj,hSj,htj,hoj,e3,e4⟩
  simp only at hj hj2 sj hGj hDj hSj htj hoj e3 e4
  conv=>whnf
  by_cases hjl:j<(Br (mi.bt v)).length
  ·have hVk:=hV.reads wk (by
    intro b hb
    obtain ⟨q1,q2⟩:=hVO b (Bi (by simpa using hb))
    exact sj.fr b q1 (by omega) (by omega))
   obtain ⟨ox,adV,hox,hAV,fo,_⟩:=Dy hVk j hjl
   have hom:ox∈Br (mi.bt v):=by
    rw [<- hox.out,getElem!_pos _ j hjl]
    exact List.getElem_mem hjl
   obtain ⟨ho0,hob⟩:=(F5 hPt.wf).1 hom
   obtain ⟨b,rfl⟩:∃ b:Nat,ox=b:=⟨ox.toNat,by omega⟩
   rw [Int.toNat_natCast] at hob
   have hbn:=(hDi.too v b hob).2
   subst hAV
   (repeat' ((first|refine Az Aa rfl rfl rfl rfl rfl rfl fo (Ab Aa ?_)|refine Al Aa 3 1 rfl rfl rfl rfl rfl rfl rfl (by omega) (Ab Aa ?_)|(refine Ag (by first|assumption|omega) ?_)|fail)<;>conv=>whnf))
   refine Bv Bc1 (Aox hj2 hDj b hbn (hPm (s26.trans (s7.trans sj))) hlmo) rfl rfl rfl rfl rfl rfl rfl ?_
   rintro _ w9 ⟨rfl,O9,m9,h9,s9,hQ,e5,e6⟩
   refine ⟨_,rfl,Ab Aa ?_⟩
   conv=>whnf
   (repeat' ((first|refine Af rfl rfl rfl rfl rfl rfl (by omega) (by omega) (Ab Aa ?_)|fail)<;>conv=>whnf))
   refine ⟨(j+1,O9,m9),⟨rfl,rfl,rfl,rfl,rfl,trivial⟩,⟨by simp only;omega,h9,sj.trans s9,hGj.trans (hQ.grow hbn hlmo),hQ.dom hDj hbn hlmo,hQ.sound hSj fun N hN o ho=>?_,hQ.too.trans htj,fun k hk o ho=>?_,e5.trans e3,e6.trans e4⟩,by simp only;omega⟩
   ·refine hSi.too N hN v b hob o (hI.sound.inn N hN v o ?_)
    rw [hmem] at ho
    simp only [Bool.and_eq_true] at ho
    exact ho.1
   ·rcases Nat.lt_or_ge k j with hkj|hkj
    ·exact (hQ.grow hbn hlmo).inn _ _ (hoj k hkj o ho)
    ·have:k=j:=by simp only at hk;omega
     subst this
     rw [hox.out,Int.toNat_natCast,hQ.inn,ho]
     simp
  ·(repeat' ((first|(refine Ah (by first|assumption|omega) ?_)|fail)<;>conv=>whnf))
   refine Hr rfl ⟨rfl,Oj,mj,hj2,s06.trans (s7.trans sj),?_,e3.trans hfr2,e4.trans hVr2⟩
   have hpops:mj.st.pops=m.st.pops:=by rw [hGj.pops,hGi.pops,hst2,hm];rfl
   rw [hst2] at hGi
   have hall:∀ k,k<(m2.fr v).length->∀ o,Aw lm o=true->objE mi.st c.ys[(m2.fr v)[k]!]! c.xs[o]! := fun k hk=>hoi k (by omega)
   refine ⟨hI.look hwk hGi hSj hDj (fun i' hi' k1 k2 hs o ho h1 h2=>?_) hGj htj (fun b hb o h1 h2=>?_),hpops⟩
   ·have hm':=hF.all i' hi' k1 k2
    have hs':Cs c.ys[i']! = v:=hs
    rw [hs'] at hm'
    obtain ⟨q,hq,hqe⟩:=List.getElem_of_mem hm'
    have:=hall q hq o (by rw [hmem,h1,h2];rfl)
    rw [getElem!_pos _ q hq,hqe] at this
    exact this
   ·rw [htj] at hb
    have hm':((b:Nat):Int)∈Br (mi.bt v):=(F5 hPt.wf).2 ⟨by omega,by rw [Int.toNat_natCast];exact hb⟩
    obtain ⟨q,hq,hqe⟩:=List.getElem_of_mem hm'
    have:=hoj q (by omega) o (by rw [hmem,h1,h2];rfl)
    rw [getElem!_pos _ q hq,hqe,Int.toNat_natCast] at this
    exact this
def Pg (r:List Bool)(k:Nat):List Int:=((List.range k).filter fun o=>r[o]!).map fun (o:Nat)=>(o:Int)
def Fw (r:List Bool):List Int:=Pg r r.length
def Df (M:Mat):List (List Int):=M.map Fw
theorem GMat.lower {base b' g:Nat}{w:World}{vs:List Value}{M:List (List Int)}{bl:List Nat}(h:GMat base g w vs M bl)(hb:b'<=base):GMat b' g w vs M bl:=
 ⟨h.blk,h.len,Nat.le_trans hb h.hg,h.gb,fun b hm=>⟨Nat.le_trans hb (h.lt b hm).1,(h.lt b hm).2⟩,fun i hi=>⟨(h.row i hi).1.lower hb,(h.row i hi).2⟩,h.ne⟩
theorem Yf {base:Nat}{w w1:World}{V V':Value}{rows:List (List Int)}{bs:List Nat}{flat:List Value}{A:Option Addr}{c:Nat}{ys:List Int}{b':Nat}
  (h:GRow 1 H5 27 base w V rows bs) (hflat:∀ w',(∀ b∈bs,w'.heap[b]?=w.heap[b]?)->Elems 1 H5 w' flat rows)
  (hown:w1.ownsRow base 27 1 V' (rows.length+1) (flat++[.slice A ys.length c])) (hg:w.grownBy w1 V.ownBlock) (hob:V'.ownBlock=V.ownBlock\/V'.ownBlock=some w.heap.size)
  (hy:GInts b' w (.slice A ys.length c) ys) (hb:base<=b') (hne:∀ k,(Value.slice A ys.length c).ownBlock=some k->some k≠V.ownBlock):GRow 1 H5 27 base w1 V' (rows++[ys]) (bs++(Value.slice A ys.length c).ownBlock.toList):=by
 have hrow:=hy.rowAt
 refine h.push hflat hown hg hob rfl (x:=ys) (fun w' hw'=>⟨A,c,rfl,hrow.2.1,hy.reads w' (by simpa using hw')⟩) (fun b hb'=>?_) (fun b hb'=>?_)
 ·have e:=Bi hb'
  have:=hy.olt b e
  omega
 ·exact hne b (Bi hb')
theorem Bn4 {P:Program}{F:Fm}{w:World}{fn:Func}{R:Ending->World->Prop}{s t r:Tmp}{u v x:Value}(hr:fn.results=#[.tmp s,.tmp t,.tmp r])(hu:Ul (F s)=some u)(hv:Ul (F t)=some v)(hx:Ul (F r)=some x)(h:R (.returned (.tuple #[u,v,x])) w):Om P fn R F w:=by
 rw [He] at hu hv hx
 have hu:=Option.some.inj hu
 have hv:=Option.some.inj hv
 have hx:=Option.some.inj hx
 unfold Om Mz
 intro tmps ht
 refine ⟨.tuple #[u,v,x],?_,h⟩
 have e1:=ht s
 have e2:=ht t
 have e3:=ht r
 rw [hu] at e1
 rw [hv] at e2
 rw [hx] at e3
 simp only [Array.getD_eq_getD_getElem?] at e1 e2 e3
 simp [results,hr,e1,e2,e3]
theorem SV.fromPut {c:Cx}{O:Nat->Nat}{w1 w2 w3 w4:World}{m:Mem}{v i:Nat}{V':Value}{fp fp':List Nat}(h:SV c O w1 m)(hv:v<c.n)(hk:Kept fp w1 w2)(hfp:∀ b∈fp,O b=100+4*v+3)(hq:QRow c.base V' (m.fr v++[i]) fp' w2)
  (hnew:∀ b∈fp',b∈fp\/w1.heap.size<=b) (hb:Below w2.heap.size w2 w3) (hp:Put w3 w4 m.gf (((List.range c.n).map m.Vr).set v V') 27) :
  ∃ O2,SV c O2 w4 { m with Vr:=Bp m.Vr v V',fr:=Bp m.fr v (m.fr v++[i]) }/\Stp O O2 w1 w4:=by
 obtain ⟨hgb,hgO⟩:=h.fromB
 have hlt:=hq.lt
 have a1:=(AS.start h.all).put (k:=100+4*v+3) (P:=J9 c { m with Vr:=Bp m.Vr v V',fr:=Bp m.fr v (m.fr v++[i]) } v 3) (.inr (by omega)) hk (fun b hb _=>hfp b hb) (fp:=fp') (fun b hb=>⟨fun hl=>(hnew b hb).elim (fun e=>hfp b e) (fun e=>by omega),(hlt b hb).2⟩) (fun w' hw'=>by
  refine ⟨fun e=>absurd e (by omega),fun e=>absurd e (by omega),fun e=>absurd e (by omega),fun _ _=>?_⟩
  show QRow c.base (Bp m.Vr v V' v) (Bp m.fr v (m.fr v++[i]) v) fp' w'
  rw [E6,E6]
  exact hq.keep hw')
 have a2:=a1.up hb 97
 have a3:=a2.putB (k:=4) (.inl (by omega)) hp ((a2.stp.own _ (Ae hgb)).trans hgO) (P:=fun fp w=>fp=[m.gf]/\w.heap[m.gf]?=some (.cells ((List.range c.n).map (Bp m.Vr v V')).toArray 27 (0,0))) (fun w' hw'=>⟨rfl,by rw [hw',Js]⟩)
 refine ⟨_,⟨a3.all.imp fun j fp w' hj=>?_,a3.stp.low h.low h.sz,Nat.le_trans h.sz a3.stp.size,h.hk,h.nd,h.wl,h.hn,h.hx⟩,a3.stp⟩
 unfold H9 at hj
 split at hj
 ·rename_i e;subst e;exact hj
 rename_i n4
 split at hj
 ·rename_i e
  subst e
  rw [E4 (c:=c) (m:={ m with Vr:=Bp m.Vr v V',fr:=Bp m.fr v (m.fr v++[i]) }) v 3 (by omega)]
  exact hj
 rename_i ne
 exact Jq (m:=m) j hj rfl (fun _=>rfl) (fun _=>⟨rfl,rfl⟩) (fun _=>⟨rfl,rfl⟩) (fun _=>⟨rfl,rfl⟩) (fun e=>absurd e n4) (fun _=>⟨rfl,rfl⟩) (fun _=>⟨rfl,rfl⟩) (fun _ _=>⟨rfl,rfl⟩) (fun _ _=>⟨rfl,rfl⟩) (fun _ _=>⟨rfl,rfl⟩) (fun x e=>⟨Ga _ _ (fun e2=>ne (by subst e2;exact e)),Ga _ _ (fun e2=>ne (by subst e2;exact e))⟩)
theorem Aax {n v:Nat}{r:List Nat}(h:(v::r).Nodup):(S4 n (v::r)).set v (.bool false)=S4 n r:=by
 unfold S4
 rw [Js]
 congr 1
 funext j
 unfold Bp
 have hn:v∉r:=(List.nodup_cons.1 h).1
 by_cases e:j=v
 ·subst e;simp [hn]
 ·simp [e]
theorem SV.popped {c:Cx}{O:Nat->Nat}{w1 w2 w3 w4:World}{m:Mem}{v:Nat}{r:List Nat}{V':Value}{fp':List Nat}(h:SV c O w1 m)(hw:m.wk=v::r)(hq:QRow c.base V' r fp' w1)(hfp:∀ b∈fp',O b=5)
  (hp1:Put w1 w2 c.gx ((Dm c m).set 7 V') 116) (hp2:Put w2 w3 m.go ((S4 c.n m.wk).set v (.bool false)) 4) (hp3:Put w3 w4 c.gx (((Dm c m).set 7 V').set 9 (.int .i64 ((m.pops:Int)+1))) 116) :
  ∃ O2,SV c O2 w4 { m with wk:=r,Vw:=V',pops:=m.pops+1 }/\Stp O O2 w1 w4:=by
 obtain ⟨hb,hbO⟩:=h.box
 obtain ⟨hon,honO⟩:=h.onB
 have hlt:=hq.lt
 have hnd:=h.nd
 rw [hw] at hnd
 have a1:=(AS.start h.all).put (k:=5) (P:=QRow c.base V' r) (rb:=[]) (.inl (by omega)) (Kept.refl _ w1) (by simp) (fp:=fp') (fun b hb=>⟨fun _=>hfp b hb,(hlt b hb).2⟩) (fun w' hw'=>hq.keep hw')
 have a2:=a1.putB (k:=0) (P:=fun _ _=>True) (.inl (by omega)) hp1 ((a1.stp.own _ (Ae hb)).trans hbO) (fun _ _=>trivial)
 have a3:=a2.putB (k:=6) (P:=fun fp w=>fp=[m.go]/\w.heap[m.go]?=some (.cells (S4 c.n r).toArray 4 (0,0))) (.inl (by omega)) hp2 ((a2.stp.own _ (Ae hon)).trans honO) (fun w' hw'=>⟨rfl,by rw [hw',hw,Aax hnd]⟩)
 have a4:=a3.putB (k:=0) (P:=fun fp w=>fp=[c.gx]/\w.heap[c.gx]?=some (.cells (Dm c { m with wk:=r,Vw:=V',pops:=m.pops+1 }).toArray 116 (0,0))) (.inl (by omega)) hp3 ((a3.stp.own _ (Ae hb)).trans hbO) (fun w' hw'=>⟨rfl,by rw [hw'];rfl⟩)
 refine ⟨_,⟨a4.all.imp fun j fp w' hj=>?_,a4.stp.low h.low h.sz,Nat.le_trans h.sz a4.stp.size,h.hk,(List.nodup_cons.1 hnd).2,fun x hx=>h.wl x (by rw [hw];exact List.mem_cons_of_mem _ hx),h.hn,h.hx⟩,a4.stp⟩
 unfold H9 at hj
 split at hj
 ·rename_i e;subst e;exact hj
 rename_i n0
 split at hj
 ·rename_i e;subst e;exact hj
 rename_i n6
 split at hj
 ·rename_i e;subst e;exact hj
 rename_i n5
 exact Jq (m:=m) j hj rfl (fun e=>absurd e n0) (fun _=>⟨rfl,rfl⟩) (fun _=>⟨rfl,rfl⟩) (fun _=>⟨rfl,rfl⟩) (fun _=>⟨rfl,rfl⟩) (fun e=>absurd e n5) (fun e=>absurd e n6) (fun _ _=>⟨rfl,rfl⟩) (fun _ _=>⟨rfl,rfl⟩) (fun _ _=>⟨rfl,rfl⟩) (fun _ _=>⟨rfl,rfl⟩)
theorem Rs {bs:List Blk}(hw:WFB bs){n nc v:Nat}{f:Rel}(hv:v<n)(hf:∀ o,f v o=Aw bs o)(hc:∀ o,Aw bs o=true->o<nc):(Df (Et n nc f))[v]! = Br bs:=by
 have hs:=Co n nc f
 have hl:(Df (Et n nc f)).length=n:=by simp [Df,hs.rows]
 have hM:(Et n nc f)[v]!.length=nc:=hs.cols v hv
 rw [getElem!_pos _ v (by rw [hl];exact hv)]
 have e:(Df (Et n nc f))[v]'(by rw [hl];exact hv)=Fw (Et n nc f)[v]! := by
  rw [getElem!_pos (Et n nc f) v (by rw [hs.rows];exact hv)]
  simp [Df]
 rw [e]
 refine (Zh hw ?_ (fun x hx=>?_) (fun o=>?_)).symm
 ·unfold Fw Pg
  refine List.Pairwise.map _ (fun a b h=>?_) ((List.pairwise_lt_range).filter _)
  omega
 ·obtain ⟨o,_,rfl⟩:=List.mem_map.1 hx
  omega
 ·rw [Bool.eq_iff_iff,decide_eq_true_eq]
  unfold Fw Pg
  rw [List.mem_map]
  constructor
  ·intro h
   have ho:=hc o h
   refine ⟨o,?_,rfl⟩
   rw [List.mem_filter,List.mem_range,hM]
   refine ⟨ho,?_⟩
   show mg (Et n nc f) v o=true
   rw [Gb f hv ho,hf,h]
  ·rintro ⟨q,hq,e⟩
   have:q=o:=by omega
   subst this
   rw [List.mem_filter,List.mem_range,hM] at hq
   have h2:mg (Et n nc f) v q=true:=hq.2
   rw [Gb f hv hq.1,hf] at h2
   exact h2
structure InvI (S:Sys)(n i:Nat)(t:St):Prop where
 dom:Dom n S.cells.length t
 sound:Sound S t
 don:∀ v o,t.don v o=false
 wk:∀ v,v∉t.work->∀ o,t.inn v o=false
 pay:t.work.length<=cnt (Et n S.cells.length t.inn)
 pops:t.pops=0
 base:∀ j,j<i->S.cons[j]!.k=1->t.inn S.cons[j]!.a.toNat S.cons[j]!.b.toNat=true
 copy:∀ j,j<i->S.cons[j]!.k=2->t.too S.cons[j]!.b.toNat S.cons[j]!.a.toNat=true
theorem Cv {p:Nat->Prop}{i:Nat}(h:∀ j,j<i->p j)(hi:p i):∀ j,j<i+1->p j:=fun j hj=>by
 rcases Nat.lt_or_ge j i with h1|h1
 ·exact h j h1
 ·have:j=i:=by omega
  subst this;exact hi
theorem InvI.all {S:Sys}{n:Nat}{t:St}(h:InvI S n S.cons.length t):Inv S n t:=by
 refine ⟨h.dom,h.sound,fun v hv=>?_,by rw [h.pops,Nat.zero_add];exact h.pay,fun a b _ o e=>(by rw [h.don] at e;cases e),fun j hj hk=>h.base j hj hk,fun j hj hk=>h.copy j hj hk,fun j _ _ _ o _ e=>(by rw [h.don] at e;cases e)⟩
 funext o
 rw [h.wk v hv,h.don]
theorem InvI.skip {S:Sys}{n i:Nat}{t:St}(h:InvI S n i t)(h1:¬ S.cons[i]!.k=1)(h2:¬ S.cons[i]!.k=2):InvI S n (i+1) t:=
 ⟨h.dom,h.sound,h.don,h.wk,h.pay,h.pops,Cv h.base fun e=>absurd e h1,Cv h.copy fun e=>absurd e h2⟩
theorem InvI.flow {S:Sys}{n i a b:Nat}{s t:St}(h:InvI S n i s)(hi:i<S.cons.length)(hk:S.cons[i]!.k=1)(ha:S.cons[i]!.a=a)(hb:S.cons[i]!.b=b)(han:a<n)(hbn:b<S.cells.length)(hf:FlowR a (fun o=>decide (o=b)) s t):InvI S n (i+1) t:=by
 have hl:∀ o,decide (o=b)=true->o<S.cells.length:=fun o ho=>by simp at ho;omega
 have hg:=hf.grow han hl
 refine ⟨hf.dom h.dom han hl,hf.sound h.sound fun N hN o ho=>?_,fun v o=>by rw [hg.don];exact h.don v o,fun v hv o=>?_,?_,by rw [hg.pops];exact h.pops,Cv (fun j hj e=>hg.inn _ _ (h.base j hj e)) fun _=>?_,Cv (fun j hj e=>hg.too _ _ (h.copy j hj e)) fun e=>by omega⟩
 ·simp at ho
  subst ho
  have:=(hN i hi).1 hk
  rwa [ha,hb,Int.toNat_natCast,Int.toNat_natCast] at this
 ·rw [hg.new v hv]
  exact h.wk v (fun e=>hv (hg.work v e)) o
 ·have:=hg.pay;have:=h.pay;omega
 ·rw [ha,hb,Int.toNat_natCast,Int.toNat_natCast,hf.inn];simp
theorem InvI.edge {S:Sys}{n i a b:Nat}{s t:St}(h:InvI S n i s)(hi:i<S.cons.length)(hk:S.cons[i]!.k=2)(ha:S.cons[i]!.a=a)(hb:S.cons[i]!.b=b)(han:a<n)(hbn:b<n)(h1:t.inn=s.inn)(h2:t.don=s.don)(h3:∀ x y,t.too x y=(s.too x y||(decide (x=b)&&decide (y=a))))(h4:t.work=s.work)(h5:t.pops=s.pops):InvI S n (i+1) t:=by
 refine ⟨⟨fun v o e=>h.dom.inn v o (by rw [<- h1];exact e),fun v o e=>(by rw [h2,h.don] at e;cases e),fun x y e=>?_,fun v e=>h.dom.work v (by rw [<- h4];exact e)⟩,⟨fun N hN v o e=>h.sound.inn N hN v o (by rw [<- h1];exact e),fun N hN x y e o ho=>?_⟩,fun v o=>by rw [h2];exact h.don v o,fun v hv o=>by rw [h1];exact h.wk v (by rw [<- h4];exact hv) o,by rw [h1,h4];exact h.pay,by rw [h5];exact h.pops,Cv (fun j hj e=>by rw [h1];exact h.base j hj e) fun e=>by omega,Cv (fun j hj e=>by rw [h3,h.copy j hj e];rfl) fun _=>?_⟩
 ·rw [h3] at e
  simp only [Bool.or_eq_true,Bool.and_eq_true,decide_eq_true_eq] at e
  rcases e with e|⟨rfl,rfl⟩
  ·exact h.dom.too x y e
  ·exact ⟨hbn,han⟩
 ·rw [h3] at e
  simp only [Bool.or_eq_true,Bool.and_eq_true,decide_eq_true_eq] at e
  rcases e with e|⟨rfl,rfl⟩
  ·exact h.sound.too N hN x y e o ho
  ·have:=(hN i hi).2.1 hk
   rw [ha,hb] at this
   have:=this (by omega) (by omega) o
   simp only [Int.toNat_natCast] at this
   exact this ho
 ·rw [ha,hb,Int.toNat_natCast,Int.toNat_natCast,h3];simp
structure FrI (ys:List Con)(n i:Nat)(fr:Nat->List Nat):Prop where
 all:∀ j,j<i->¬ys[j]!.k=1->¬ys[j]!.k=2->j∈fr (Cs ys[j]!)
 only:∀ v,∀ j∈fr v,j<i/\¬ys[j]!.k=1/\¬ys[j]!.k=2/\Cs ys[j]! = v
 len:∀ v,(fr v).length<=i
theorem FrI.skip {ys:List Con}{n i:Nat}{fr:Nat->List Nat}(h:FrI ys n i fr)(hk:ys[i]!.k=1\/ys[i]!.k=2):FrI ys n (i+1) fr:=
 ⟨Cv h.all fun h1 h2=>by omega,fun v j hj=>let ⟨a,b⟩:=h.only v j hj;⟨by omega,b⟩,fun v=>by have:=h.len v;omega⟩
theorem FrI.push {ys:List Con}{n i:Nat}{fr:Nat->List Nat}(h:FrI ys n i fr)(h1:¬ ys[i]!.k=1)(h2:¬ ys[i]!.k=2):FrI ys n (i+1) (Bp fr (Cs ys[i]!) (fr (Cs ys[i]!)++[i])):=by
 refine ⟨Cv (fun j hj a b=>?_) fun _ _=>by rw [E6];simp,fun v j hj=>?_,fun v=>?_⟩
 ·have:=h.all j hj a b
  unfold Bp
  split
  ·rename_i e;rw [<- e];exact List.mem_append_left _ this
  ·exact this
 ·unfold Bp at hj
  split at hj
  ·rename_i e
   rcases List.mem_append.1 hj with hj|hj
   ·obtain ⟨a,b,c,d⟩:=h.only _ j hj
    exact ⟨by omega,b,c,by rw [d,e]⟩
   ·simp at hj;subst hj;exact ⟨by omega,h1,h2,e.symm⟩
  ·obtain ⟨a,b⟩:=h.only v j hj
   exact ⟨by omega,b⟩
 ·unfold Bp
  split
  ·have:=h.len (Cs ys[i]!);rw [List.length_append,List.length_singleton];omega
  ·have:=h.len v;omega
theorem FrI.ok {c:Cx}{fr:Nat->List Nat}(h:FrI c.ys c.n c.ys.length fr):FrOk c fr:=⟨h.all,fun v _=>h.only v,fun v _=>h.len v⟩
end Go.Proofs.YtghmdfegfehhkaaGreatDoor
