/- Several texts of one claim in one file, made short: J03 HC18 HS18 EW18. -/
import Derived.Test.YtghmdfegfehhkaaGreatDoorZ18
import Derived.Test.YtghmdfegfehhkaaGreatDoorZ17
import Derived.Test.YtghmdfegfehhkaaGreatDoorZ8
import Derived.StringKeys
set_option maxRecDepth 100000
set_option maxHeartbeats 64000000
set_option linter.unusedVariables false
set_option linter.unusedSimpArgs false
namespace Go.Proofs.YtghmdfegfehhkaaGreatDoor
open Go.RowKit
section
variable {P:Program}{T:Nat->Option TI}{n:Nat}{Q:Post}{F:Fm}{w:World}{ops:Array Oper}{rest:List Oper}{o:Oper}{K:Fm->Prop}{C:World->Prop}
theorem Ar5 {c:Call}{x y:Operand}{a b:Nat}(hop:o.op=.call c)(hcal:c.callee=.builtin .max)(hargs:c.args.toList=[x,y])(hx:ev F x=.int .i64 a)(hy:ev F y=.int .i64 b)(hg:o.guard=none){d:Nat}(hd:o.dst=some d)(hn:Nat.blt d n=true)
  (k:wq P n ops C rest K (Bd F d (.int .i64 ((max a b:Nat):Int)))):wq P n ops C (o::rest) K F:=Ec hg hd hn (fun w' _=>by
 have e:(if (b:Int)>(a:Int) then (b:Int) else (a:Int))=((max a b:Nat):Int):=by split<;>omega
 rw [Rj hop hcal hargs hx hy,e]) k
theorem Ag5 {op:BinOp}{x y:Operand}{xt yt:TypeId}{ki:IntKind}{a b r:Int}(hr:bits op ki a b=r)(hop:o.op=.binOp op xt x y yt)(hx:ev F x=.int ki a)(hy:ev F y=.int ki b)(hb:Xf op=true)(hg:o.guard=none){d:Nat}(hd:o.dst=some d)(hn:Nat.blt d n=true)
  (k:wq P n ops C rest K (Bd F d (.int ki r))):wq P n ops C (o::rest) K F:=Ec hg hd hn (fun _ _=>by rw [Pd hop hx hy hb,hr]) k
theorem Apq (hT:TabOk P T)(e s b:Nat){t:TypeId}{x y:Operand}{m:Nat}{i:TI}{z:List Value}(hop:o.op=.makeSlice t x y)(hx:ev F x=.int .i64 0)(hy:ev F y=.int .i64 m)(h1:I7 T t e s b=true)(hi:T e=some i)(hz:i.zero.cells=z.toArray)(hg:o.guard=none){d:Nat}(hd:o.dst=some d)(hn:Nat.blt d n=true)
  (hbig:b*m<=281474976710656) (h63:m<=9223372036854775807)
  (k:∀ g w1,New w w1 g (List.replicate m z).flatten e->wl P n ops rest Q (Bd F d (.slice (some ⟨g,0,none⟩) 0 m)) w1):wl P n ops (o::rest) Q F w:=by
 obtain ⟨hu,j,z',hj,hz',hs,hby,hzs⟩:=Eh hT h1
 obtain ⟨j2,hj2,hz2,_,_⟩:=Tv hT hi
 rw [hj] at hj2
 cases hj2
 rw [hz'] at hz2
 cases hz2
 refine Bh hg hd hn ?_ (k _ _ (Ce w _ e))
 have hbi:((j.bytes:Int)*(m:Int))<=281474976710656:=by rw [hby,<- Int.natCast_mul];omega
 have hr:=run_make (P:=P) w t e j i.zero hu hj hz' .i64 .i64 0 m (by omega) (by omega) hbi (by omega)
 simp only [Int.toNat_natCast] at hr
 have hc:madeCells i.zero.cells (m*j.size)=((List.replicate m z).flatten).toArray:=by
  rw [<- Ge z m]
  have hzl:z.length=s:=by rw [hz] at hzs;simpa using hzs
  unfold madeCells
  rw [hz,hs,hzl]
  apply Array.ext'
  simp [hzl]
 rw [hc] at hr
 simp [execOp,hop,hx,hy,hr]
end
theorem Eu {w:World}{base:Nat}{A:Option Addr}{c:Nat}{out:List Blk}{x:Blk}(h:w.ownsRow base 179 2 (.slice A (out.length+1) c) (out.length+1) (Bq out++En x)):ownsB w base (.slice A (out++[x]).length c) (out++[x]):=by
 have e:(out++[x]).length=out.length+1:=by simp
 show World.ownsRow _ _ _ _ _ _ _
 rw [e,H7,P6]
 exact h
structure JoinR (b1 g1:Nat)(w:World)(s t:List Blk)(e:Ending)(w':World)(bs':List Blk)(fp':List Nat):Prop where
 ret:e=.returned (.bool (!decide (bs'=s)))
 set:PSet b1 g1 w' bs' fp'
 kept:Kept [g1] w w'
 new:∀ b∈fp',b=g1\/w.heap.size<=b
 mem:∀ n,Aw bs' n=(Aw s n||Aw t n)
 len:bs'.length<=s.length+t.length
theorem Ap3 {b1 b2 g1 g2:Nat}{w:World}{s t:List Blk}{f1 f2:List Nat}(hP:PSet b1 g1 w s f1)(hQ:PSet b2 g2 w t f2)(hl1:s.length<1099511627776)(hl2:t.length<1099511627776)(hb1:b1<=w.heap.size) :
  Calls Tryz.prog 133 #[.pointer (some ⟨g1,0,none⟩),.pointer (some ⟨g2,0,none⟩)] w fun e w'=>∃ bs' fp',JoinR b1 g1 w s t e w' bs' fp':=by
 obtain ⟨V1,hs,ho1,hf1,hne1⟩:=hP.ex
 obtain ⟨A,c,rfl,hlc1,hr1⟩:=ho1.row
 obtain ⟨V2,ht,ho2,hf2,hne2⟩:=hQ.ex
 obtain ⟨B,d,rfl,hlc2,hr2⟩:=ho2.row
 refine A9 (args:=[.pointer (some ⟨g1,0,none⟩),.pointer (some ⟨g2,0,none⟩)]) Aa Tryz.func133 rfl Tryz.ntmps133 rfl ?_;conv=>whnf
 (repeat' ((first|refine Kf Aa rfl rfl rfl rfl rfl rfl (Ab Aa ?_)|fail)<;>conv=>whnf))
 refine Gl 11 11 (Be _) Aa mixed (by kernel_rfl) rfl (Below.refl _ _) ?_;conv=>whnf
 (repeat' (first|(refine Ar5 rfl rfl rfl rfl rfl rfl rfl rfl (Ad Aa ?_);(conv=>whnf))|(first|refine Bg Aa hs rfl rfl rfl rfl rfl rfl rfl (Ad Aa ?_)|refine Bg Aa ht rfl rfl rfl rfl rfl rfl rfl (Ad Aa ?_)|fail)<;>conv=>whnf))
 intro w1 _ hB1
 conv=>whnf
 refine Apq Aa 179 2 16 rfl rfl rfl rfl rfl rfl rfl rfl rfl (by omega) (by omega) ?_
 intro g6 w2 hn2
 refine Ab Aa ?_
 conv=>whnf
 have hs1:=hB1.size
 have hs2:=hn2.size
 have ho0:ownsB w2 w.heap.size (.slice (some ⟨g6,0,none⟩) ([]:List Blk).length (max s.length t.length)) []:=⟨by simp [Bq],.inr ⟨g6,max s.length t.length,_,rfl,by have:=hn2.at_;omega,hn2.blk,by simp,by simp only [maxLen];omega,by simp,by simp [Bq]⟩⟩
 have hB02:=Ax hB1 hn2.below
 skip
 refine Am Aa (X:=Nat×Nat×List Blk×Option Addr×Nat×Bool) (fun y=>[(0,.pointer (some ⟨g1,0,none⟩)),(1,.pointer (some ⟨g2,0,none⟩)),(5,.bool y.2.2.2.2.2),(6,.slice y.2.2.2.1 y.2.2.1.length y.2.2.2.2.1),(7,.int .i64 y.1),(8,.int .i64 y.2.1)])
  (fun y wr=>JInv s t y.1 y.2.1 y.2.2.1 y.2.2.2.2.2/\ownsB wr w.heap.size (.slice y.2.2.2.1 y.2.2.1.length y.2.2.2.2.1) y.2.2.1/\Below w.heap.size w wr) (fun y=>(s.length - y.1)+(t.length - y.2.1)) (0,0,[],some ⟨g6,0,none⟩,max s.length t.length,false) ⟨rfl,rfl,rfl,rfl,rfl,rfl,trivial⟩ ⟨JInv.start s t,ho0,hB02⟩ ?_
 clear ho0 hB02 hn2 hB1 hs1 hs2
 rintro ⟨i,k,out,D,dc,more⟩ G wr ⟨hJ,hO,hB⟩
 simp only at hJ hO
 dsimp only
 conv=>whnf
 have hsr:=Ac hB hs
 have htr:=Ac hB ht
 have hi:=hJ.hi
 have hk:=hJ.hk
 have hol:=hJ.len
 have hsz:=hB.size
 by_cases hil:i<s.length
 ·by_cases hkl:k<t.length
  ·obtain ⟨ad,rfl,ha0,ha1⟩:=Kt (hr1.up B5 hB) i hil
   obtain ⟨bd,rfl,hc0,hc1⟩:=Kt (hr2.up B5 hB) k hkl
   rcases Int.lt_trichotomy s[i]!.a t[k]!.a with hlt|heq|hgt
   ·(repeat' ((first|refine Aj Aa hsr rfl rfl rfl rfl rfl rfl rfl (Ab Aa ?_)|refine Af rfl rfl rfl rfl rfl rfl (by omega) (by omega) (Ab Aa ?_)|refine Ag (by first|assumption|omega) ?_|refine Ah (by first|assumption|omega) ?_|fail)<;>conv=>whnf))
    refine Fo Aa mixed (by kernel_rfl) ?_;(conv=>whnf)
    (repeat' ((first|refine Bg Aa hsr rfl rfl rfl rfl rfl rfl rfl (Ad Aa ?_)|refine Bg Aa htr rfl rfl rfl rfl rfl rfl rfl (Ad Aa ?_)|refine De Aa rfl rfl rfl rfl rfl rfl ha0 (Ad Aa ?_)|refine De Aa rfl rfl rfl rfl rfl rfl hc0 (Ad Aa ?_)|refine Dh Aa 179 2 rfl rfl rfl rfl rfl rfl rfl (by omega) (Ad Aa ?_)|refine D7 rfl rfl rfl rfl rfl rfl (by omega) (by omega) (Ad Aa ?_)|refine Ag (by first|assumption|omega) ?_|refine Ah (by first|assumption|omega) ?_|fail)<;>conv=>whnf))
    intro w3 hB3
    conv=>whnf
    (repeat' ((first|refine Af rfl rfl rfl rfl rfl rfl (by omega) (by omega) (Ab Aa ?_)|refine Ag (by first|assumption|omega) ?_|refine Ah (by first|assumption|omega) ?_|fail)<;>conv=>whnf))
    have hB03:=Ax hB hB3
    have hs3:=Ac hB03 hs
    have hO3:=hO.keep (w1:=w3) fun b e=>hB3.block b (hO.lt b e).2
    obtain ⟨ad3,e3,hc3⟩:=E8 (hr1.up B5 hB03) i hil
    cases e3
    (repeat' ((first|refine Aj Aa hs3 rfl rfl rfl rfl rfl rfl rfl (Ab Aa ?_)|refine Al Aa 179 2 rfl rfl rfl rfl rfl rfl rfl (by omega) (Ab Aa ?_)|refine E0 Aa hc3 rfl rfl rfl rfl rfl rfl (Ab Aa ?_)|fail)<;>conv=>whnf))
    refine C7 Aa 179 2 rfl rfl rfl rfl rfl rfl rfl rfl rfl rfl ?_
    intro g8 w4 hn4
    refine Ab Aa ?_
    conv=>whnf
    have hO4:=hO3.keep (w1:=w4) fun b e=>hn4.below.block b (hO3.lt b e).2
    refine Cu Aa 179 2 16 hO4 hn4.blk rfl rfl rfl rfl rfl rfl rfl rfl rfl rfl rfl rfl (by simp [Value.oneCell']) (by omega) (by omega) (by have:=hn4.size;have:=hB3.size;omega) ?_
    intro A5 c5 w5 hown hgr hob
    have hpush:=Eu (x:=s[i]!) hown
    have hB5:Below w.heap.size w w5:=(Ax hB03 hn4.below).grown hgr (by have:=hn4.size;have:=hB3.size;omega) (fun b e=>(hO4.lt b e).1)
    have hlen5:out.length+1=(out++[s[i]!]).length:=by simp
    refine Ab Aa ?_
    conv=>whnf
    rw [hlen5]
    (repeat' ((first|refine Af rfl rfl rfl rfl rfl rfl (by omega) (by omega) (Ab Aa ?_)|refine Ag (by first|assumption|omega) ?_|refine Ah (by first|assumption|omega) ?_|fail)<;>conv=>whnf))
    exact ⟨(i+1,k,out++[s[i]!],A5,c5,more),⟨rfl,rfl,rfl,rfl,rfl,rfl,trivial⟩,⟨hJ.left hP.wf hQ.wf hil (.inr ⟨hkl,hlt⟩),hpush,hB5⟩,by simp only;omega⟩
   ·(repeat' ((first|refine Aj Aa hsr rfl rfl rfl rfl rfl rfl rfl (Ab Aa ?_)|refine Af rfl rfl rfl rfl rfl rfl (by omega) (by omega) (Ab Aa ?_)|refine Ag (by first|assumption|omega) ?_|refine Ah (by first|assumption|omega) ?_|fail)<;>conv=>whnf))
    refine Fo Aa mixed (by kernel_rfl) ?_;(conv=>whnf)
    (repeat' ((first|refine Bg Aa hsr rfl rfl rfl rfl rfl rfl rfl (Ad Aa ?_)|refine Bg Aa htr rfl rfl rfl rfl rfl rfl rfl (Ad Aa ?_)|refine De Aa rfl rfl rfl rfl rfl rfl ha0 (Ad Aa ?_)|refine De Aa rfl rfl rfl rfl rfl rfl hc0 (Ad Aa ?_)|refine Dh Aa 179 2 rfl rfl rfl rfl rfl rfl rfl (by omega) (Ad Aa ?_)|refine D7 rfl rfl rfl rfl rfl rfl (by omega) (by omega) (Ad Aa ?_)|refine Ag (by first|assumption|omega) ?_|refine Ah (by first|assumption|omega) ?_|fail)<;>conv=>whnf))
    intro w3 hB3
    conv=>whnf
    (repeat' ((first|refine Af rfl rfl rfl rfl rfl rfl (by omega) (by omega) (Ab Aa ?_)|refine Ag (by first|assumption|omega) ?_|refine Ah (by first|assumption|omega) ?_|fail)<;>conv=>whnf))
    have hsr3:=Ac hB3 hsr
    have htr3:=Ac hB3 htr
    have ha03:=Bn hB3 ha0
    have hc03:=Bn hB3 hc0
    refine Fo Aa mixed (by kernel_rfl) ?_;(conv=>whnf)
    (repeat' ((first|refine Bg Aa hsr3 rfl rfl rfl rfl rfl rfl rfl (Ad Aa ?_)|refine Bg Aa htr3 rfl rfl rfl rfl rfl rfl rfl (Ad Aa ?_)|refine De Aa rfl rfl rfl rfl rfl rfl ha03 (Ad Aa ?_)|refine De Aa rfl rfl rfl rfl rfl rfl hc03 (Ad Aa ?_)|refine Dh Aa 179 2 rfl rfl rfl rfl rfl rfl rfl (by omega) (Ad Aa ?_)|refine D7 rfl rfl rfl rfl rfl rfl (by omega) (by omega) (Ad Aa ?_)|refine Ag (by first|assumption|omega) ?_|refine Ah (by first|assumption|omega) ?_|fail)<;>conv=>whnf))
    intro w3' hB3'
    conv=>whnf
    have hB3:=Ax hB3 hB3'
    (repeat' ((first|refine Af rfl rfl rfl rfl rfl rfl (by omega) (by omega) (Ab Aa ?_)|refine Ag (by first|assumption|omega) ?_|refine Ah (by first|assumption|omega) ?_|fail)<;>conv=>whnf))
    have hB04:=Ax hB hB3
    obtain ⟨ad4,e4,ha04,ha14⟩:=Kt (hr1.up B5 hB04) i hil
    obtain ⟨bd4,e5,hc04,hc14⟩:=Kt (hr2.up B5 hB04) k hkl
    cases e4
    cases e5
    have hs4:=Ac hB04 hs
    have ht4:=Ac hB04 ht
    have hw1:=(hP.wf.rng _ (Bs hil)).2.2.2
    have hw2:=(hQ.wf.rng _ (Bs hkl)).2.2.2
    have hboth:=hJ.both hP.wf hQ.wf hil hkl heq
    obtain ⟨orw,horw⟩:∃ r,r=s[i]!.w ||| t[k]!.w:=⟨_,rfl⟩
    have hor:bits .or .u64 (s[i]!.w:Int) (t[k]!.w:Int)=(orw:Int):=by rw [bits_or_u64_nat _ _ hw1 hw2,horw]
    rw [<- horw] at hboth
    refine Fo Aa mixed (by kernel_rfl) ?_;(conv=>whnf)
    (repeat' (first|(refine Ag5 hor rfl rfl rfl rfl rfl rfl rfl (Ad Aa ?_);(conv=>whnf))|(first|refine Bg Aa hs4 rfl rfl rfl rfl rfl rfl rfl (Ad Aa ?_)|refine Bg Aa ht4 rfl rfl rfl rfl rfl rfl rfl (Ad Aa ?_)|refine De Aa rfl rfl rfl rfl rfl rfl ha14 (Ad Aa ?_)|refine De Aa rfl rfl rfl rfl rfl rfl hc14 (Ad Aa ?_)|refine Dh Aa 179 2 rfl rfl rfl rfl rfl rfl rfl (by omega) (Ad Aa ?_)|fail)<;>conv=>whnf))
    intro w4 hB4
    conv=>whnf
    have hB04:=Ax hB04 hB4
    have hs4:=Ac hB4 hs4
    have ha04:=Bn hB4 ha04
    have ha14:=Bn hB4 ha14
    have hO4:=hO.keep (w1:=w4) fun b e=>(Ax hB3 hB4).block b (hO.lt b e).2
    cases more
    ·(repeat' ((first|refine Aj Aa hs4 rfl rfl rfl rfl rfl rfl rfl (Ab Aa ?_)|refine Az Aa rfl rfl rfl rfl rfl rfl ha14 (Ab Aa ?_)|refine Az Aa rfl rfl rfl rfl rfl rfl ha04 (Ab Aa ?_)|refine Al Aa 179 2 rfl rfl rfl rfl rfl rfl rfl (by omega) (Ab Aa ?_)|fail)<;>conv=>whnf))
     refine C7 Aa 179 2 rfl rfl rfl rfl rfl rfl rfl rfl rfl rfl ?_
     intro g8 w5 hn5
     refine Ab Aa ?_
     conv=>whnf
     have hO5:=hO4.keep (w1:=w5) fun b e=>hn5.below.block b (hO4.lt b e).2
     refine Cu Aa 179 2 16 hO5 hn5.blk rfl rfl rfl rfl rfl rfl rfl rfl rfl rfl rfl rfl (by simp [Value.oneCell']) (by omega) (by omega) (by have:=hn5.size;have:=hB04.size;omega) ?_
     intro A5 c5 w6 hown hgr hob
     have hpush:=Eu (x:=⟨s[i]!.a,orw⟩) hown
     have hB6:Below w.heap.size w w6:=(Ax hB04 hn5.below).grown hgr (by have:=hn5.size;have:=hB04.size;omega) (fun b e=>(hO5.lt b e).1)
     have hlen5:out.length+1=(out++[(⟨s[i]!.a,orw⟩:Blk)]).length:=by simp
     refine Ab Aa ?_
     conv=>whnf
     rw [hlen5]
     (repeat' ((first|refine Af rfl rfl rfl rfl rfl rfl (by omega) (by omega) (Ab Aa ?_)|refine Ag (by first|assumption|omega) ?_|refine Ah (by first|assumption|omega) ?_|fail)<;>conv=>whnf))
     refine ⟨(i+1,k+1,out++[⟨s[i]!.a,orw⟩],A5,c5,decide (orw≠s[i]!.w)),⟨rfl,rfl,?_,rfl,rfl,rfl,trivial⟩,⟨by rwa [Bool.false_or] at hboth,hpush,hB6⟩,by simp only;omega⟩
     show Value.bool (decide ¬ ((orw:Int)=(s[i]!.w:Int)))=Value.bool (decide (orw≠s[i]!.w))
     congr 1
     rw [decide_eq_decide]
     constructor<;>intro h<;>omega
    ·(repeat' ((first|refine Aj Aa hs4 rfl rfl rfl rfl rfl rfl rfl (Ab Aa ?_)|refine Az Aa rfl rfl rfl rfl rfl rfl ha04 (Ab Aa ?_)|refine Al Aa 179 2 rfl rfl rfl rfl rfl rfl rfl (by omega) (Ab Aa ?_)|fail)<;>conv=>whnf))
     refine C7 Aa 179 2 rfl rfl rfl rfl rfl rfl rfl rfl rfl rfl ?_
     intro g8 w5 hn5
     refine Ab Aa ?_
     conv=>whnf
     have hO5:=hO4.keep (w1:=w5) fun b e=>hn5.below.block b (hO4.lt b e).2
     refine Cu Aa 179 2 16 hO5 hn5.blk rfl rfl rfl rfl rfl rfl rfl rfl rfl rfl rfl rfl (by simp [Value.oneCell']) (by omega) (by omega) (by have:=hn5.size;have:=hB04.size;omega) ?_
     intro A5 c5 w6 hown hgr hob
     have hpush:=Eu (x:=⟨s[i]!.a,orw⟩) hown
     have hB6:Below w.heap.size w w6:=(Ax hB04 hn5.below).grown hgr (by have:=hn5.size;have:=hB04.size;omega) (fun b e=>(hO5.lt b e).1)
     have hlen5:out.length+1=(out++[(⟨s[i]!.a,orw⟩:Blk)]).length:=by simp
     refine Ab Aa ?_
     conv=>whnf
     rw [hlen5]
     (repeat' ((first|refine Af rfl rfl rfl rfl rfl rfl (by omega) (by omega) (Ab Aa ?_)|refine Ag (by first|assumption|omega) ?_|refine Ah (by first|assumption|omega) ?_|fail)<;>conv=>whnf))
     exact ⟨(i+1,k+1,out++[⟨s[i]!.a,orw⟩],A5,c5,true),⟨rfl,rfl,rfl,rfl,rfl,rfl,trivial⟩,⟨by simpa using hboth,hpush,hB6⟩,by simp only;omega⟩
   ·(repeat' ((first|refine Aj Aa hsr rfl rfl rfl rfl rfl rfl rfl (Ab Aa ?_)|refine Af rfl rfl rfl rfl rfl rfl (by omega) (by omega) (Ab Aa ?_)|refine Ag (by first|assumption|omega) ?_|refine Ah (by first|assumption|omega) ?_|fail)<;>conv=>whnf))
    refine Fo Aa mixed (by kernel_rfl) ?_;(conv=>whnf)
    (repeat' ((first|refine Bg Aa hsr rfl rfl rfl rfl rfl rfl rfl (Ad Aa ?_)|refine Bg Aa htr rfl rfl rfl rfl rfl rfl rfl (Ad Aa ?_)|refine De Aa rfl rfl rfl rfl rfl rfl ha0 (Ad Aa ?_)|refine De Aa rfl rfl rfl rfl rfl rfl hc0 (Ad Aa ?_)|refine Dh Aa 179 2 rfl rfl rfl rfl rfl rfl rfl (by omega) (Ad Aa ?_)|refine D7 rfl rfl rfl rfl rfl rfl (by omega) (by omega) (Ad Aa ?_)|refine Ag (by first|assumption|omega) ?_|refine Ah (by first|assumption|omega) ?_|fail)<;>conv=>whnf))
    intro w3 hB3
    conv=>whnf
    (repeat' ((first|refine Af rfl rfl rfl rfl rfl rfl (by omega) (by omega) (Ab Aa ?_)|refine Ag (by first|assumption|omega) ?_|refine Ah (by first|assumption|omega) ?_|fail)<;>conv=>whnf))
    have hsr3:=Ac hB3 hsr
    have htr3:=Ac hB3 htr
    have ha03:=Bn hB3 ha0
    have hc03:=Bn hB3 hc0
    refine Fo Aa mixed (by kernel_rfl) ?_;(conv=>whnf)
    (repeat' ((first|refine Bg Aa hsr3 rfl rfl rfl rfl rfl rfl rfl (Ad Aa ?_)|refine Bg Aa htr3 rfl rfl rfl rfl rfl rfl rfl (Ad Aa ?_)|refine De Aa rfl rfl rfl rfl rfl rfl ha03 (Ad Aa ?_)|refine De Aa rfl rfl rfl rfl rfl rfl hc03 (Ad Aa ?_)|refine Dh Aa 179 2 rfl rfl rfl rfl rfl rfl rfl (by omega) (Ad Aa ?_)|refine D7 rfl rfl rfl rfl rfl rfl (by omega) (by omega) (Ad Aa ?_)|refine Ag (by first|assumption|omega) ?_|refine Ah (by first|assumption|omega) ?_|fail)<;>conv=>whnf))
    intro w3' hB3'
    conv=>whnf
    have hB3:=Ax hB3 hB3'
    have hB03:=Ax hB hB3
    have hs3:=Ac hB03 ht
    have hO3:=hO.keep (w1:=w3') fun b e=>hB3.block b (hO.lt b e).2
    obtain ⟨ad3,e3,hc3⟩:=E8 (hr2.up B5 hB03) k hkl
    cases e3
    (repeat' ((first|refine Aj Aa hs3 rfl rfl rfl rfl rfl rfl rfl (Ab Aa ?_)|refine Al Aa 179 2 rfl rfl rfl rfl rfl rfl rfl (by omega) (Ab Aa ?_)|refine E0 Aa hc3 rfl rfl rfl rfl rfl rfl (Ab Aa ?_)|refine Af rfl rfl rfl rfl rfl rfl (by omega) (by omega) (Ab Aa ?_)|refine Ag (by first|assumption|omega) ?_|refine Ah (by first|assumption|omega) ?_|fail)<;>conv=>whnf))
    refine C7 Aa 179 2 rfl rfl rfl rfl rfl rfl rfl rfl rfl rfl ?_
    intro g8 w4 hn4
    refine Ab Aa ?_
    conv=>whnf
    have hO4:=hO3.keep (w1:=w4) fun b e=>hn4.below.block b (hO3.lt b e).2
    refine Cu Aa 179 2 16 hO4 hn4.blk rfl rfl rfl rfl rfl rfl rfl rfl rfl rfl rfl rfl (by simp [Value.oneCell']) (by omega) (by omega) (by have:=hn4.size;have:=hB3.size;omega) ?_
    intro A5 c5 w5 hown hgr hob
    have hpush:=Eu (x:=t[k]!) hown
    have hB5:Below w.heap.size w w5:=(Ax hB03 hn4.below).grown hgr (by have:=hn4.size;have:=hB3.size;omega) (fun b e=>(hO4.lt b e).1)
    have hlen5:out.length+1=(out++[t[k]!]).length:=by simp
    refine Ab Aa ?_
    conv=>whnf
    rw [hlen5]
    (repeat' ((first|refine Af rfl rfl rfl rfl rfl rfl (by omega) (by omega) (Ab Aa ?_)|refine Ag (by first|assumption|omega) ?_|refine Ah (by first|assumption|omega) ?_|fail)<;>conv=>whnf))
    exact ⟨(i,k+1,out++[t[k]!],A5,c5,true),⟨rfl,rfl,rfl,rfl,rfl,rfl,trivial⟩,⟨hJ.right hP.wf hQ.wf hkl (.inr ⟨hil,hgt⟩),hpush,hB5⟩,by simp only;omega⟩
  ·(repeat' ((first|refine Aj Aa hsr rfl rfl rfl rfl rfl rfl rfl (Ab Aa ?_)|refine Af rfl rfl rfl rfl rfl rfl (by omega) (by omega) (Ab Aa ?_)|refine Ag (by first|assumption|omega) ?_|refine Ah (by first|assumption|omega) ?_|fail)<;>conv=>whnf))
   refine Fo Aa mixed (by kernel_rfl) ?_;(conv=>whnf)
   (repeat' ((first|refine Bg Aa htr rfl rfl rfl rfl rfl rfl rfl (Ad Aa ?_)|refine D7 rfl rfl rfl rfl rfl rfl (by omega) (by omega) (Ad Aa ?_)|refine Ag (by first|assumption|omega) ?_|refine Ah (by first|assumption|omega) ?_|fail)<;>conv=>whnf))
   intro w3 hB3
   conv=>whnf
   have hB03:=Ax hB hB3
   have hs3:=Ac hB03 hs
   have hO3:=hO.keep (w1:=w3) fun b e=>hB3.block b (hO.lt b e).2
   obtain ⟨ad3,e3,hc3⟩:=E8 (hr1.up B5 hB03) i hil
   cases e3
   (repeat' ((first|refine Aj Aa hs3 rfl rfl rfl rfl rfl rfl rfl (Ab Aa ?_)|refine Al Aa 179 2 rfl rfl rfl rfl rfl rfl rfl (by omega) (Ab Aa ?_)|refine E0 Aa hc3 rfl rfl rfl rfl rfl rfl (Ab Aa ?_)|fail)<;>conv=>whnf))
   refine C7 Aa 179 2 rfl rfl rfl rfl rfl rfl rfl rfl rfl rfl ?_
   intro g8 w4 hn4
   refine Ab Aa ?_
   conv=>whnf
   have hO4:=hO3.keep (w1:=w4) fun b e=>hn4.below.block b (hO3.lt b e).2
   refine Cu Aa 179 2 16 hO4 hn4.blk rfl rfl rfl rfl rfl rfl rfl rfl rfl rfl rfl rfl (by simp [Value.oneCell']) (by omega) (by omega) (by have:=hn4.size;have:=hB3.size;omega) ?_
   intro A5 c5 w5 hown hgr hob
   have hpush:=Eu (x:=s[i]!) hown
   have hB5:Below w.heap.size w w5:=(Ax hB03 hn4.below).grown hgr (by have:=hn4.size;have:=hB3.size;omega) (fun b e=>(hO4.lt b e).1)
   have hlen5:out.length+1=(out++[s[i]!]).length:=by simp
   refine Ab Aa ?_
   conv=>whnf
   rw [hlen5]
   (repeat' ((first|refine Af rfl rfl rfl rfl rfl rfl (by omega) (by omega) (Ab Aa ?_)|refine Ag (by first|assumption|omega) ?_|refine Ah (by first|assumption|omega) ?_|fail)<;>conv=>whnf))
   exact ⟨(i+1,k,out++[s[i]!],A5,c5,more),⟨rfl,rfl,rfl,rfl,rfl,rfl,trivial⟩,⟨hJ.left hP.wf hQ.wf hil (.inl (by show k=t.length;omega)),hpush,hB5⟩,by simp only;omega⟩
 ·by_cases hkl:k<t.length
  ·(repeat' ((first|refine Aj Aa hsr rfl rfl rfl rfl rfl rfl rfl (Ab Aa ?_)|refine Aj Aa htr rfl rfl rfl rfl rfl rfl rfl (Ab Aa ?_)|refine Af rfl rfl rfl rfl rfl rfl (by omega) (by omega) (Ab Aa ?_)|refine Ag (by first|assumption|omega) ?_|refine Ah (by first|assumption|omega) ?_|fail)<;>conv=>whnf))
   refine Fo Aa mixed (by kernel_rfl) ?_;(conv=>whnf)
   (repeat' ((first|refine Bg Aa hsr rfl rfl rfl rfl rfl rfl rfl (Ad Aa ?_)|refine Bg Aa htr rfl rfl rfl rfl rfl rfl rfl (Ad Aa ?_)|refine D7 rfl rfl rfl rfl rfl rfl (by omega) (by omega) (Ad Aa ?_)|refine Ag (by first|assumption|omega) ?_|refine Ah (by first|assumption|omega) ?_|fail)<;>conv=>whnf))
   intro w3 hB3
   conv=>whnf
   skip
   have hsr3:=Ac hB3 hsr
   have htr3:=Ac hB3 htr
   refine Fo Aa mixed (by kernel_rfl) ?_;(conv=>whnf)
   (repeat' ((first|refine Bg Aa hsr3 rfl rfl rfl rfl rfl rfl rfl (Ad Aa ?_)|refine D7 rfl rfl rfl rfl rfl rfl (by omega) (by omega) (Ad Aa ?_)|refine Ag (by first|assumption|omega) ?_|refine Ah (by first|assumption|omega) ?_|fail)<;>conv=>whnf))
   intro w3' hB3'
   conv=>whnf
   have hB3:=Ax hB3 hB3'
   have hB03:=Ax hB hB3
   have hs3:=Ac hB03 ht
   have hO3:=hO.keep (w1:=w3') fun b e=>hB3.block b (hO.lt b e).2
   obtain ⟨ad3,e3,hc3⟩:=E8 (hr2.up B5 hB03) k hkl
   cases e3
   (repeat' ((first|refine Aj Aa hs3 rfl rfl rfl rfl rfl rfl rfl (Ab Aa ?_)|refine Al Aa 179 2 rfl rfl rfl rfl rfl rfl rfl (by omega) (Ab Aa ?_)|refine E0 Aa hc3 rfl rfl rfl rfl rfl rfl (Ab Aa ?_)|fail)<;>conv=>whnf))
   refine C7 Aa 179 2 rfl rfl rfl rfl rfl rfl rfl rfl rfl rfl ?_
   intro g8 w4 hn4
   refine Ab Aa ?_
   conv=>whnf
   have hO4:=hO3.keep (w1:=w4) fun b e=>hn4.below.block b (hO3.lt b e).2
   refine Cu Aa 179 2 16 hO4 hn4.blk rfl rfl rfl rfl rfl rfl rfl rfl rfl rfl rfl rfl (by simp [Value.oneCell']) (by omega) (by omega) (by have:=hn4.size;have:=hB3.size;omega) ?_
   intro A5 c5 w5 hown hgr hob
   have hpush:=Eu (x:=t[k]!) hown
   have hB5:Below w.heap.size w w5:=(Ax hB03 hn4.below).grown hgr (by have:=hn4.size;have:=hB3.size;omega) (fun b e=>(hO4.lt b e).1)
   have hlen5:out.length+1=(out++[t[k]!]).length:=by simp
   refine Ab Aa ?_
   conv=>whnf
   rw [hlen5]
   (repeat' ((first|refine Af rfl rfl rfl rfl rfl rfl (by omega) (by omega) (Ab Aa ?_)|refine Ag (by first|assumption|omega) ?_|refine Ah (by first|assumption|omega) ?_|fail)<;>conv=>whnf))
   exact ⟨(i,k+1,out++[t[k]!],A5,c5,true),⟨rfl,rfl,rfl,rfl,rfl,rfl,trivial⟩,⟨hJ.right hP.wf hQ.wf hkl (.inl (by show i=s.length;omega)),hpush,hB5⟩,by simp only;omega⟩
  ·have hi2:i=s.length:=by omega
   have hk2:k=t.length:=by omega
   subst hi2 hk2
   obtain ⟨j1,j2,j3,j4⟩:=hJ.done
   (repeat' ((first|refine Aj Aa hsr rfl rfl rfl rfl rfl rfl rfl (Ab Aa ?_)|refine Aj Aa htr rfl rfl rfl rfl rfl rfl rfl (Ab Aa ?_)|refine Af rfl rfl rfl rfl rfl rfl (by omega) (by omega) (Ab Aa ?_)|refine Ag (by first|assumption|omega) ?_|refine Ah (by first|assumption|omega) ?_|fail)<;>conv=>whnf))
   refine Dd (off:=0) Aa hsr rfl rfl rfl rfl rfl rfl (by simp) rfl rfl ?_
   intro w9 hp9
   refine Ab Aa ?_
   conv=>whnf
   (repeat' (first|refine Cg rfl rfl ?_|fail))
   have hne:(Value.slice D out.length dc).ownBlock≠some g1:=fun e=>by have:=(hO.lt g1 e).1;have:=Ae hs;omega
   have hO9:ownsB w9 b1 (.slice D out.length dc) out:=(hO.lower hb1).keep fun b e=>hp9.grown.block b (hO.lt b e).2 (fun e2=>hne (e.trans e2))
   exact ⟨out,g1::(Value.slice D out.length dc).ownBlock.toList,⟨by rw [j3],⟨⟨_,hp9.blk,hO9,rfl,hne⟩,hP.ge,j1⟩,(Kept.of hB).put hp9 (.inl (by simp)),fun b hb=>by
    rcases List.mem_cons.1 hb with h|h
    ·exact .inl h
    ·exact .inr (hO.lt b (Bi h)).1,j2,j4⟩⟩
section
variable {B B2 g g2:Nat}{w w1:World}{P Q:Nat->Prop}
structure CSet (B g:Nat)(w:World)(P:Nat->Prop):Prop where
 ex:∃ bs fp,PSet B g w bs fp/\(∀ j,Aw bs j=true↔P j)/\bs.length<=1024
 lt:∀ j,P j->j<65536
theorem Ww {bs:List Blk}{fp:List Nat}(h:PSet B g w bs fp)(hm:∀ j,Aw bs j=true↔P j)(hl:∀ j,P j->j<65536):CSet B g w P:=
 ⟨⟨bs,fp,h,hm,X6 h.wf fun m hq=>by have:=hl m ((hm m).1 hq);omega⟩,hl⟩
theorem CSet.up (h:CSet B g w P)(hb:Below w.heap.size w w1):CSet B g w1 P:=by
 obtain ⟨bs,fp,h1,h2⟩:=h.ex
 exact ⟨⟨bs,fp,h1.up hb,h2⟩,h.lt⟩
theorem CSet.imp (h:CSet B g w P)(hi:∀ j,P j↔Q j):CSet B g w Q:=by
 obtain ⟨bs,fp,h1,h2,h3⟩:=h.ex
 exact ⟨⟨bs,fp,h1,fun j=>(h2 j).trans (hi j),h3⟩,fun j hj=>h.lt j ((hi j).2 hj)⟩
theorem CSet.lower (h:CSet B g w P)(hb:B2<=B):CSet B2 g w P:=by
 obtain ⟨bs,fp,h1,h2⟩:=h.ex
 exact ⟨⟨bs,fp,h1.lower hb,h2⟩,h.lt⟩
theorem CSet.ge (h:CSet B g w P):B<=g/\g<w.heap.size:=by
 obtain ⟨bs,fp,h1,h2⟩:=h.ex
 obtain ⟨V,h3,_⟩:=h1.ex
 exact ⟨h1.ge,Ae h3⟩
theorem CSet.put {gl:Nat}{cs:Array Value}{t:TypeId}{fr:Nat×Nat}(h:CSet B g w P)(hl:w.heap[gl]?=some (.cells cs t fr))(h1:t≠120)(h2:t≠179)(hg:w.grownBy w1 (some gl)):CSet B g w1 P:=by
 obtain ⟨bs,fp,hP,hm⟩:=h.ex
 refine ⟨⟨bs,fp,hP.keep fun b hb=>hg.block b (hP.lt b hb).2 fun e=>?_,hm⟩,h.lt⟩
 injection e with e
 subst e
 obtain ⟨V,q1,q2,rfl,_⟩:=hP.ex
 rcases List.mem_cons.1 hb with rfl|hb
 ·rw [hl] at q1
  simp only [Option.some.injEq,Obj.cells.injEq] at q1
  exact h1 q1.2.1
 ·rcases q2.2 with ⟨q3,_⟩|⟨g',cap,cur,q3,_,q4,_⟩
  ·rw [q3] at hb
   simp [Value.ownBlock] at hb
  ·rw [q3] at hb
   have hb:b=g':=by simpa [Value.ownBlock] using hb
   subst hb
   rw [hl] at q4
   simp only [Option.some.injEq,Obj.cells.injEq] at q4
   exact h2 q4.2.1
theorem Az6 (h:New w w1 g [.slice none 0 0] 120):CSet w.heap.size g w1 (fun _=>False):=Ww (K6 h) (fun j=>by simp [Aw]) fun _ h=>h.elim
theorem Ax8 (h:CSet B g w P)(hB:B<=w.heap.size)(n:Nat){m:Int}(hm0:m=(n:Int))(hn:n<65536) :
  Calls Tryz.prog 39 #[.pointer (some ⟨g,0,none⟩),.int .i64 m] w fun e w'=>(∃ b,e=.returned (.bool b))/\CSet B g w' (fun j=>P j\/j=n)/\∀ w0,Below B w0 w->Below B w0 w':=by
 subst hm0
 obtain ⟨bs,fp,hP,hm,hl⟩:=h.ex
 refine (Ag7 hP n (by omega) (by omega) hB).mono ?_
 rintro e w' ⟨bs',fp',r⟩
 refine ⟨⟨_,r.ret⟩,Ww r.set (fun j=>?_) (fun j hj=>hj.elim (h.lt j) fun e=>by omega),fun w0 hb=>r.kept.below hb hB fun k hk=>(hP.lt k hk).1⟩
 rw [r.mem,Bool.or_eq_true,hm,decide_eq_true_eq]
 exact or_congr Iff.rfl ⟨fun e=>by omega,fun e=>by omega⟩
theorem Zc (h:CSet B g w P)(k:CSet B2 g2 w Q)(hB:B<=w.heap.size) :
  Calls Tryz.prog 133 #[.pointer (some ⟨g,0,none⟩),.pointer (some ⟨g2,0,none⟩)] w fun e w'=>(∃ b,e=.returned (.bool b))/\CSet B g w' (fun j=>P j\/Q j)/\∀ w0,Below B w0 w->Below B w0 w':=by
 obtain ⟨bs,fp,hP,hm,hl⟩:=h.ex
 obtain ⟨bs2,fp2,hP2,hm2,hl2⟩:=k.ex
 refine (Ap3 hP hP2 (by omega) (by omega) hB).mono ?_
 rintro e w' ⟨bs',fp',r⟩
 refine ⟨⟨_,r.ret⟩,Ww r.set (fun j=>?_) (fun j hj=>hj.elim (h.lt j) (k.lt j)),fun w0 hb=>r.kept.below hb hB fun k hk=>by simp at hk;subst hk;exact hP.ge⟩
 rw [r.mem,Bool.or_eq_true,hm,hm2]
theorem Bhq (l:List Int)(A:Option Addr)(c:Nat)(w:World)(h:RI w A l)(hl:l.length<=1048576)(hm:∀ x∈l,0<=x/\x<65536) :
  Calls Tryz.prog 152 #[.slice A l.length c] w fun e w'=>∃ g,e=.returned (.pointer (some ⟨g,0,none⟩))/\CSet w.heap.size g w' (fun j=>(j:Int)∈l)/\Below w.heap.size w w':=by
 refine (pOf l A c w h hl).mono ?_
 rintro e w' ⟨g,bs,fp,he,hO,hb,hl2⟩
 exact ⟨g,he,Ww hO.set (fun j=>by rw [hb,decide_eq_true_eq]) (fun j hj=>by have:=hm _ hj;omega),hO.below⟩
end
def We (K:Nat)(f:Nat->Value):List Value:=(List.range K).map f
theorem Vm (K:Nat)(f:Nat->Value):(We K f).length=K:=by simp [We]
theorem Vy {K k:Nat}{f:Nat->Value}(h:k<K):(We K f)[k]?=some (f k):=by simp [We,h]
theorem Vo (K:Nat)(f:Nat->Value)(k:Nat)(x:Value):(We K f).set k x=We K (Bf f k x):=Ih f K k x
theorem S0 (n:Nat):(List.replicate n [Value.pointer none]).flatten=We n fun _=>.pointer none:=by
 induction n with
 |zero=>rfl
 |succ n ih=>
  rw [List.replicate_succ,List.flatten_cons,ih]
  unfold We
  rw [List.range_succ_eq_map]
  simp [Function.comp_def]
structure HM (w0:World)(gl K k:Nat)(f:Nat->Value)(M:Nat->Nat->Prop)(w:World):Prop where
 below:Below w0.heap.size w0 w
 ge:w0.heap.size<=gl
 row:w.heap[gl]?=some (.cells (We K f).toArray 117 (0,0))
 set:∀ p,p<k->∃ g,f p=.pointer (some ⟨g,0,none⟩)/\CSet w0.heap.size g w (M p)
section
variable {w0 w w1:World}{gl K k g:Nat}{f:Nat->Value}{M:Nat->Nat->Prop}
theorem HM.up (h:HM w0 gl K k f M w)(hb:Below w.heap.size w w1):HM w0 gl K k f M w1:=
 ⟨Ax h.below hb,h.ge,Ac hb h.row,fun p hp=>by obtain ⟨g,h1,h2⟩:=h.set p hp;exact ⟨g,h1,h2.up hb⟩⟩
theorem HM.cell (h:HM w0 gl K k f M w){p:Nat}(hp:p<K):w.cell? ((⟨gl,0,none⟩:Addr).add (p*1))=some (f p):=by
 rw [Nat.mul_one,add_zero]
 exact Au h.row (by simpa using Vy hp)
theorem HM.put (h:HM w0 gl K k f M w)(hc:CSet w0.heap.size g w (M k))(hp:Put w w1 gl ((We K f).set k (.pointer (some ⟨g,0,none⟩))) 117):HM w0 gl K (k+1) (Bf f k (.pointer (some ⟨g,0,none⟩))) M w1:=by
 refine ⟨hp.below h.below h.ge h.below.size,h.ge,by rw [<- Vo];exact hp.blk,fun p hpk=>?_⟩
 by_cases e:p=k
 ·subst e
  exact ⟨g,by simp [Bf],hc.put h.row (by decide) (by decide) hp.grown⟩
 ·obtain ⟨g',h1,h2⟩:=h.set p (by omega)
  exact ⟨g',by rw [<- h1];simp [Bf,e],h2.put h.row (by decide) (by decide) hp.grown⟩
end
def At0 (vars nc:Nat)(into bases:List (List Int))(lo:List Bool)(kn:List (List Nat))(p j:Nat):Prop:=∃ v∈kn[p]!,GS vars nc into bases lo v j
def Lu (vars nc:Nat)(into bases:List (List Int))(lo:List Bool)(of:Nat->Nat)(p w j:Nat):Prop:=(lo[w]! = true/\j=nc+w)\/(w<vars/\(j:Int)∈bases[w]!)\/∃ x∈into[w]!,of x.toNat≠p/\GS vars nc into bases lo x.toNat j
section
variable {vars nc:Nat}{into bases:List (List Int)}{lo:List Bool}{kn:List (List Nat)}{of:Nat->Nat}
theorem Aok (hri:∀ v,v<into.length->∀ x∈into[v]!,0<=x/\x<(into.length:Int))(hK:KnOk into kn of){p v j:Nat}(hp:p<kn.length)(hv:v∈kn[p]!):At0 vars nc into bases lo kn p j↔GS vars nc into bases lo v j:=by
 constructor
 ·rintro ⟨u,hu,h⟩
  rw [Nq hri hK hp hu] at h
  exact (Nq hri hK hp hv).2 h
 ·exact fun h=>⟨v,hv,h⟩
theorem Afk (hri:∀ v,v<into.length->∀ x∈into[v]!,0<=x/\x<(into.length:Int))(hK:KnOk into kn of){p j:Nat}(hp:p<kn.length):At0 vars nc into bases lo kn p j↔∃ w∈kn[p]!,Lu vars nc into bases lo of p w j:=by
 obtain ⟨v,hv⟩:=List.exists_mem_of_ne_nil _ (hK.kn p hp).1
 rw [Aok hri hK hp hv,Nq hri hK hp hv]
 constructor
 ·rintro (⟨w,hw,h⟩|⟨w,hw,h⟩|⟨w,hw,h⟩)
  ·exact ⟨w,hw,.inl h⟩
  ·exact ⟨w,hw,.inr (.inl h)⟩
  ·exact ⟨w,hw,.inr (.inr h)⟩
 ·rintro ⟨w,hw,h|h|h⟩
  ·exact .inl ⟨w,hw,h⟩
  ·exact .inr (.inl ⟨w,hw,h⟩)
  ·exact .inr (.inr ⟨w,hw,h⟩)
theorem H3 {α:Type}[Inhabited α]{l:List α}{i:Nat}(hi:i<l.length){x:α}:x∈l.take (i+1)↔x∈l.take i\/x=l[i]! := by
 rw [List.take_add_one,List.getElem?_eq_getElem hi,getElem!_pos l i hi,List.mem_append,Option.toList_some,List.mem_singleton]
end
theorem Pb {P:Program}{T:Nat->Option TI}{n:Nat}{Q:Post}{F:Fm}{w:World}{X:Type}(S:X->List (Nat×Value))(R:X->World->Prop){x y:Code}(tail:∀ z G w,R z w->Hs P T n y Q (Ng G (S z)) w)
  (k:∀ yv:Code,(∀ z F' w',holds F' (S z)->R z w'->Hs P T n yv Q F' w')->Hs P T n (.seq x yv) Q F w):Hs P T n (.seq x y) Q F w:=
 k y fun z F' w' h1 h2=>by have:=tail z F' w' h2;rwa [Ct h1] at this
theorem Yq (vars nc:Nat)(into bases:List (List Int))(lo:List Bool)(A B C:Option Addr)(ca cb cc:Nat)(w:World)(hG:GOk vars into bases lo)(hnc:nc<=16384)(hbl:∀ v,v<vars->(bases[v]!).length<=1048576)(hA:RRows w A into)(hB:RRows w B bases)(hC:RowR 1 dB w C lo) :
  Calls Tryz.prog 122 #[.agg #[.int .i64 vars,.slice A into.length ca,.slice B bases.length cb,.slice C lo.length cc],.int .i64 nc] w fun e w'=>∃ go f,e=.returned (.slice (some ⟨go,0,none⟩) vars vars)/\w'.heap[go]?=some (.cells (We vars f).toArray 117 (0,0)) /\
   (∀ v,v<vars->∃ g,f v=.pointer (some ⟨g,0,none⟩)/\CSet w.heap.size g w' (GS vars nc into bases lo v))/\Below w.heap.size w w':=by
 have hsm:=hG.small
 have hni:=hG.ni
 have hnb:=hG.nb
 have hnl:=hG.nl
 obtain ⟨N,hN⟩:∃ N,N=into.length:=⟨_,rfl⟩
 refine A9 (args:=[.agg #[.int .i64 vars,.slice A into.length ca,.slice B bases.length cb,.slice C lo.length cc],.int .i64 nc]) Aa Tryz.func122 rfl Tryz.ntmps122 rfl ?_;conv=>whnf
 refine Ci rfl rfl rfl rfl rfl rfl ?_
 intro g1 w1 hn1
 have hb1:=hn1.blk
 refine Ab Aa ?_
 conv=>whnf
 (repeat' ((first|refine Aj Aa hb1 rfl rfl rfl rfl rfl rfl rfl (Ab Aa ?_)|fail)<;>conv=>whnf))
 refine Bv An8 (Aoy into A ca w1 (hA.up Bz hn1.below) (by omega)) rfl rfl rfl rfl rfl rfl rfl ?_
 rintro _ w5 ⟨⟨kn,of,Ak,ck,go,rfl,hK,hrk,hcn,hof⟩,hB5⟩
 have hbx:w5.heap[g1]?=some (.cells #[.int .i64 vars,.slice A into.length ca,.slice B bases.length cb,.slice C lo.length cc] 163 (0,0)):=Ac hB5 hb1
 have hBw:=Ax hn1.below hB5
 have hA:=hA.up Bz hBw
 have hB:=hB.up Bz hBw
 have hC:=hC.up K3 hBw
 clear hn1 hb1 hB5
 have rd:∀ (wb:World),Below w5.heap.size w5 wb->∀ j,j<into.length->wb.cell? ((⟨go,0,none⟩:Addr).add (j*1))=some (.int .i64 (of j:Int)):=fun wb hBb j hj=>by
  obtain ⟨z,ad3,⟨hz3⟩,e3,hc4,_,_⟩:=Dy (hof.up (Bj _) hBb) j (by rw [Rn];exact hj)
  rw [Z0 _ hj] at hz3
  subst hz3
  injection e3 with e3
  subst e3
  exact hc4
 obtain ⟨K,hKn⟩:∃ K,K=kn.length:=⟨_,rfl⟩
 rw [<- hN] at hof
 have hKN:K<=N:=by
  rw [hKn,hN]
  refine Mw (fun k=>if hk:k<kn.length then (hK.rep hk).choose else 0) (fun k hk=>?_) (fun i j hi hj e=>?_)
  ·simp only [hk,dif_pos]
   exact (hK.rep hk).choose_spec.1
  ·simp only [hi,hj,dif_pos] at e
   have h1:=(hK.rep hi).choose_spec.2
   have h2:=(hK.rep hj).choose_spec.2
   rw [e] at h1
   omega
 obtain ⟨M,hMd⟩:∃ M:Nat->Nat->Prop,M=At0 vars nc into bases lo kn:=⟨_,rfl⟩
 have hMat:∀ p v j,p<K->v∈kn[p]! -> (M p j↔GS vars nc into bases lo v j):=fun p v j hp hv=>by rw [hMd];exact Aok hG.ri hK (by omega) hv
 have hMno:∀ p j,p<K->(M p j↔∃ u∈kn[p]!,Lu vars nc into bases lo of p u j):=fun p j hp=>by rw [hMd];exact Afk hG.ri hK (by omega)
 clear hMd
 refine ⟨_,rfl,Ab Aa ?_⟩
 rw [<- hKn,<- hN]
 conv=>whnf
 skip
 refine Lb (m:=K) Aa 117 1 8 rfl rfl rfl rfl rfl rfl rfl rfl rfl (by omega) (by omega) ?_
 intro gl w6 hn6
 refine Ab Aa ?_
 conv=>whnf
 skip
 have hM:HM w5 gl K 0 (fun _=>.pointer none) M w6:=⟨hn6.below,Nat.le_of_eq hn6.at_.symm,by rw [<- S0];exact hn6.blk,fun p hp=>absurd hp (Nat.not_lt_zero p)⟩
 clear hn6
 refine C8 0 (fun _ _=>False) (X:=Nat->Value) (fun f=>[(1,.int .i64 nc),(2,.pointer (some ⟨g1,0,none⟩)),(6,.slice (some ⟨go,0,none⟩) N N),(7,.slice (some ⟨gl,0,none⟩) K K)]) (fun f wi=>HM w5 gl K K f M wi) ?_ (fun _ _ h=>h.elim) ?_
 ·refine Am Aa (X:=Nat×(Nat->Value)) (fun x=>[(1,.int .i64 nc),(2,.pointer (some ⟨g1,0,none⟩)),(6,.slice (some ⟨go,0,none⟩) N N),(7,.slice (some ⟨gl,0,none⟩) K K),(26,.slice Ak K ck),(27,.int .i64 (K:Int)),(28,.int .i64 (x.1:Int))]) (fun x wi=>x.1<=K/\HM w5 gl K x.1 x.2 M wi) (fun x=>K - x.1) (0,fun _=>.pointer none) ⟨rfl,rfl,rfl,rfl,rfl,rfl,rfl,trivial⟩ ⟨by simp,hM⟩ ?_
  clear hM
  rintro ⟨k,f⟩ G wr ⟨hk,hM⟩
  simp only at hk hM
  by_cases hlt:k<K
  ·obtain ⟨l,hl⟩:∃ l,l=kn[k]! := ⟨_,rfl⟩
   have hlN:l.length<=N:=by
    rw [hl,hN]
    refine Ew ?_ fun v hv=>((hK.kn k (by omega)).2.2 v hv).1
    exact ((hK.kn k (by omega)).2.1).imp fun {a b} hab e=>by omega
   obtain ⟨x0,ad0,B0,cl,⟨hx0⟩,hA0,hrow0,_,⟨hR0⟩⟩:=Iq (hrk.up Bz hM.below) k (by rw [Rt];omega)
   rw [Af6 (by omega),<- hl] at hx0
   have hx0l:x0.length=l.length:=by rw [<- hx0,List.length_map]
   rw [hx0l] at hrow0
   subst hA0
   have hdown:∀ v,v∈l->v<N/\∀ x∈into[v]!,of x.toNat<=k:=fun v hv=>by
    rw [hN]
    exact hK.down hG.ri (by omega) (by rw [<- hl];exact hv)
   have hlne:0<l.length:=by
    rw [hl]
    exact List.length_pos_iff.2 (hK.kn k (by omega)).1
   obtain ⟨adl,hadl⟩:∃ adl,B0=some adl:=by
    obtain ⟨ad,cs,e,_⟩:=Hb hR0 0 (by omega)
    exact ⟨ad,e⟩
   subst hadl
   have hR5:∀ wi,Below wr.heap.size wr wi->∀ i,i<l.length->wi.cell? (adl.add (i*1))=some (.int .i64 (l[i]!:Int)):=fun wi hb i hi=>by
    obtain ⟨y,ad,⟨hy⟩,e,hc,_,_⟩:=Dy hR0 i (by omega)
    injection e with e
    subst e
    rw [<- hx0,R4 hi] at hy
    subst hy
    exact Bn hb hc
   have hMk:∀ j,M k j↔∃ u∈l,Lu vars nc into bases lo of k u j:=fun j=>by rw [hl];exact hMno k j hlt
   conv=>whnf
   (repeat' ((first|refine Az Aa rfl rfl rfl rfl rfl rfl hrow0 (Ab Aa ?_)|refine Al Aa 27 1 rfl rfl rfl rfl rfl rfl rfl (by omega) (Ab Aa ?_)|refine Af rfl rfl rfl rfl rfl rfl (by omega) (by omega) (Ab Aa ?_)|refine Ag (by first|assumption|omega) ?_|refine Ah (by first|assumption|omega) ?_|fail)<;>conv=>whnf))
   refine Ci rfl rfl rfl rfl rfl rfl ?_
   intro gs wa hna
   have hC0:=Az6 hna
   have hBa:=hna.below
   clear hna
   refine Ab Aa ?_
   conv=>whnf
   skip
   refine C8 2 (fun _ _=>False) (X:=Unit) (fun _=>[(1,.int .i64 nc),(2,.pointer (some ⟨g1,0,none⟩)),(6,.slice (some ⟨go,0,none⟩) N N),(7,.slice (some ⟨gl,0,none⟩) K K),(8,.int .i64 (k:Int)),(10,.pointer (some ⟨gs,0,none⟩)),(26,.slice (some ad0) K ck),(27,.int .i64 (K:Int)),(28,.int .i64 (k:Int))]) (fun _ wj=>Below wr.heap.size wr wj/\CSet wr.heap.size gs wj (M k)) ?_ (fun _ _ h=>h.elim) ?_
   ·refine Am Aa (X:=Nat) (fun i=>[(1,.int .i64 nc),(2,.pointer (some ⟨g1,0,none⟩)),(6,.slice (some ⟨go,0,none⟩) N N),(7,.slice (some ⟨gl,0,none⟩) K K),(8,.int .i64 (k:Int)),(10,.pointer (some ⟨gs,0,none⟩)),(26,.slice (some ad0) K ck),(27,.int .i64 (K:Int)),(28,.int .i64 (k:Int)),(35,.slice (some adl) l.length cl),(36,.int .i64 (l.length:Int)),(37,.int .i64 (i:Int))]) (fun i wj=>i<=l.length/\Below wr.heap.size wr wj/\CSet wr.heap.size gs wj (fun j=>∃ u∈l.take i,Lu vars nc into bases lo of k u j)) (fun i=>l.length - i) 0 ⟨rfl,rfl,rfl,rfl,rfl,rfl,rfl,rfl,rfl,rfl,rfl,rfl,trivial⟩ ⟨by omega,hBa,hC0.imp fun j=>by simp⟩ ?_
    clear hC0 hBa
    rintro i G5 wi ⟨hi,hBi,hCi⟩
    have hB5i:=Ax hM.below hBi
    by_cases hil:i<l.length
    ·obtain ⟨v,hv⟩:∃ v,v=l[i]! := ⟨_,rfl⟩
     have hvl:v∈l:=by rw [hv,getElem!_pos l i hil];exact List.getElem_mem hil
     have hvN:=(hdown v hvl).1
     have hvd:=(hdown v hvl).2
     have hcv:=hR5 wi hBi i hil
     rw [<- hv] at hcv
     obtain ⟨cad,hCe,rdC⟩:∃ cad,C=some cad/\∀ wj,Below w5.heap.size w5 wj->wj.cell? (cad.add (v*1))=some (.bool lo[v]!):=by
      obtain ⟨adC,csC,eC,_,hcC,hdC⟩:=Hb hC v (by omega)
      have hdC:csC=[.bool lo[v]!]:=hdC
      subst hdC
      exact ⟨adC,eC,fun wj hb=>Bn hb hcC.1⟩
     have hCc:=hCe
     subst hCc
     obtain ⟨P0,hP0⟩:∃ P:Nat->Prop,P=fun j=>∃ u∈l.take i,Lu vars nc into bases lo of k u j:=⟨_,rfl⟩
     have hPn:∀ j,(∃ u∈l.take (i+1),Lu vars nc into bases lo of k u j)↔P0 j\/Lu vars nc into bases lo of k v j:=fun j=>by
      rw [hP0,hv]
      constructor
      ·rintro ⟨u,hu,h⟩
       rcases (H3 hil).1 hu with h2|h2
       ·exact .inl ⟨u,h2,h⟩
       ·exact .inr (h2▸h)
      ·rintro (⟨u,hu,h⟩|h)
       ·exact ⟨u,(H3 hil).2 (.inl hu),h⟩
       ·exact ⟨_,(H3 hil).2 (.inr rfl),h⟩
     rw [<- hP0] at hCi
     clear hP0
     obtain ⟨b,hb⟩:∃ b,b=lo[v]! := ⟨_,rfl⟩
     have hbi:=Ac hB5i hbx
     have hcC:=rdC wi hB5i
     rw [<- hb] at hcC
     obtain ⟨x,ad2,B2,cc2,⟨hx⟩,hAi,hrw5,_,⟨hRx⟩⟩:=Iq hA v (by omega)
     have hAc:=hAi
     subst hAc
     have hxm:=hRx.1
     have hyN:∀ y∈x,0<=y/\y<(N:Int):=fun y hy=>by rw [hN];exact hG.ri v (by omega) y (by rw [hx];exact hy)
     have hyk:∀ y∈x,of y.toNat<=k:=fun y hy=>hvd y (by rw [hx];exact hy)
     conv=>whnf
     (repeat' ((first|refine Aj Aa hbi rfl rfl rfl rfl rfl rfl rfl (Ab Aa ?_)|refine Az Aa rfl rfl rfl rfl rfl rfl hcv (Ab Aa ?_)|refine Al Aa 3 1 rfl rfl rfl rfl rfl rfl rfl (by omega) (Ab Aa ?_)|refine Al Aa 4 1 rfl rfl rfl rfl rfl rfl rfl (by omega) (Ab Aa ?_)|refine Af rfl rfl rfl rfl rfl rfl (by omega) (by omega) (Ab Aa ?_)|refine Ag (by first|assumption|omega) ?_|refine Ah (by first|assumption|omega) ?_|fail)<;>conv=>whnf))
     refine Az Aa rfl rfl rfl rfl rfl rfl hcC (N9 ?_)
     refine Pb (X:=Unit) (fun _=>[(1,.int .i64 nc),(2,.pointer (some ⟨g1,0,none⟩)),(6,.slice (some ⟨go,0,none⟩) N N),(7,.slice (some ⟨gl,0,none⟩) K K),(8,.int .i64 (k:Int)),(10,.pointer (some ⟨gs,0,none⟩)),(12,.int .i64 (v:Int)),(26,.slice (some ad0) K ck),(27,.int .i64 (K:Int)),(28,.int .i64 (k:Int)),(35,.slice (some adl) l.length cl),(36,.int .i64 (l.length:Int)),(37,.int .i64 (i:Int))]) (fun _ wj=>Below wr.heap.size wr wj/\CSet wr.heap.size gs wj (fun j=>P0 j\/(b=true/\j=nc+v))) ?_ ?_
     ·clear hCi hBi hB5i hcv hcC hbi
      rintro _ G6 wj ⟨hBj,hCj⟩
      have hB5j:=Ax hM.below hBj
      have hbj:=Ac hB5j hbx
      conv=>whnf
      refine Aj Aa hbj rfl rfl rfl rfl rfl rfl rfl (Alz Aa rfl rfl rfl rfl (N9 ?_))
      refine Pb (X:=Unit) (fun _=>[(1,.int .i64 nc),(2,.pointer (some ⟨g1,0,none⟩)),(6,.slice (some ⟨go,0,none⟩) N N),(7,.slice (some ⟨gl,0,none⟩) K K),(8,.int .i64 (k:Int)),(10,.pointer (some ⟨gs,0,none⟩)),(12,.int .i64 (v:Int)),(26,.slice (some ad0) K ck),(27,.int .i64 (K:Int)),(28,.int .i64 (k:Int)),(35,.slice (some adl) l.length cl),(36,.int .i64 (l.length:Int)),(37,.int .i64 (i:Int))]) (fun _ wj=>Below wr.heap.size wr wj/\CSet wr.heap.size gs wj (fun j=>(P0 j\/(b=true/\j=nc+v))\/(v<vars/\(j:Int)∈bases[v]!))) ?_ ?_
      ·clear hCj hBj hB5j hbj
       rintro _ G7 wj ⟨hBj,hCj⟩
       have hB5j:=Ax hM.below hBj
       have hbj:=Ac hB5j hbx
       have hrw:=Bn hB5j hrw5
       obtain ⟨P3,hP3⟩:∃ P:Nat->Prop,P=fun j=>(P0 j\/(b=true/\j=nc+v))\/(v<vars/\(j:Int)∈bases[v]!):=⟨_,rfl⟩
       rw [<- hP3] at hCj
       conv=>whnf
       (repeat' ((first|refine Aj Aa hbj rfl rfl rfl rfl rfl rfl rfl (Ab Aa ?_)|refine Az Aa rfl rfl rfl rfl rfl rfl hrw (Ab Aa ?_)|refine Al Aa 27 1 rfl rfl rfl rfl rfl rfl rfl (by omega) (Ab Aa ?_)|fail)<;>conv=>whnf))
       refine C8 4 (fun _ _=>False) (X:=Unit) (fun _=>[(1,.int .i64 nc),(2,.pointer (some ⟨g1,0,none⟩)),(6,.slice (some ⟨go,0,none⟩) N N),(7,.slice (some ⟨gl,0,none⟩) K K),(8,.int .i64 (k:Int)),(10,.pointer (some ⟨gs,0,none⟩)),(26,.slice (some ad0) K ck),(27,.int .i64 (K:Int)),(28,.int .i64 (k:Int)),(35,.slice (some adl) l.length cl),(36,.int .i64 (l.length:Int)),(37,.int .i64 (i:Int))]) (fun _ wj=>Below wr.heap.size wr wj/\CSet wr.heap.size gs wj (fun j=>P0 j\/Lu vars nc into bases lo of k v j)) ?_ (fun _ _ h=>h.elim) ?_
       ·refine Am Aa (X:=Nat) (fun m=>[(1,.int .i64 nc),(2,.pointer (some ⟨g1,0,none⟩)),(6,.slice (some ⟨go,0,none⟩) N N),(7,.slice (some ⟨gl,0,none⟩) K K),(8,.int .i64 (k:Int)),(10,.pointer (some ⟨gs,0,none⟩)),(26,.slice (some ad0) K ck),(27,.int .i64 (K:Int)),(28,.int .i64 (k:Int)),(35,.slice (some adl) l.length cl),(36,.int .i64 (l.length:Int)),(37,.int .i64 (i:Int)),(67,.slice B2 x.length cc2),(68,.int .i64 (x.length:Int)),(69,.int .i64 (m:Int))]) (fun m wj=>m<=x.length/\Below wr.heap.size wr wj/\CSet wr.heap.size gs wj (fun j=>P3 j\/∃ y∈x.take m,of y.toNat≠k/\GS vars nc into bases lo y.toNat j)) (fun m=>x.length - m) 0 ⟨rfl,rfl,rfl,rfl,rfl,rfl,rfl,rfl,rfl,rfl,rfl,rfl,rfl,rfl,rfl,trivial⟩ ⟨by omega,hBj,hCj.imp fun j=>by simp⟩ ?_
        clear hCj hBj hB5j hbj hrw
        rintro m G8 wk ⟨hm,hBk,hCk⟩
        have hB5k:=Ax hM.below hBk
        by_cases hmx:m<x.length
        ·obtain ⟨y,ad3,⟨hy⟩,e3,hyc,_,_⟩:=Dy (hRx.up (Bj _) hB5k) m hmx
         subst e3
         have hym:y∈x:=by rw [<- hy,getElem!_pos x m hmx];exact List.getElem_mem hmx
         have hyn:=hyN y hym
         obtain ⟨u,hu⟩:=Int.eq_ofNat_of_zero_le hyn.1
         subst hu
         have huk:=hyk _ hym
         rw [Int.toNat_natCast] at huk
         have hcu:=rd wk hB5k u (by omega)
         have hnext:∀ j,(∃ y∈x.take (m+1),of y.toNat≠k/\GS vars nc into bases lo y.toNat j)↔(∃ y∈x.take m,of y.toNat≠k/\GS vars nc into bases lo y.toNat j)\/(of u≠k/\GS vars nc into bases lo u j):=fun j=>by
          constructor
          ·rintro ⟨y,h1,h2⟩
           rcases (H3 hmx).1 h1 with h3|h3
           ·exact .inl ⟨y,h3,h2⟩
           ·rw [h3,hy,Int.toNat_natCast] at h2
            exact .inr h2
          ·rintro (⟨y,h1,h2⟩|h2)
           ·exact ⟨y,(H3 hmx).2 (.inl h1),h2⟩
           ·exact ⟨_,(H3 hmx).2 (.inr rfl),by rw [hy,Int.toNat_natCast];exact h2⟩
         by_cases h1:of u=k
         ·conv=>whnf
          (repeat' ((first|refine Az Aa rfl rfl rfl rfl rfl rfl hyc (Ab Aa ?_)|refine Az Aa rfl rfl rfl rfl rfl rfl hcu (Ab Aa ?_)|refine Al Aa 3 1 rfl rfl rfl rfl rfl rfl rfl (by omega) (Ab Aa ?_)|refine Af rfl rfl rfl rfl rfl rfl (by omega) (by omega) (Ab Aa ?_)|refine Ag (by first|assumption|omega) ?_|refine Ah (by first|assumption|omega) ?_|fail)<;>conv=>whnf))
          exact ⟨m+1,⟨rfl,rfl,rfl,rfl,rfl,rfl,rfl,rfl,rfl,rfl,rfl,rfl,rfl,rfl,rfl,trivial⟩,⟨hmx,hBk,hCk.imp fun j=>by rw [hnext j];exact ⟨fun h=>h.elim .inl fun h=>.inr (.inl h),fun h=>h.elim .inl fun h=>h.elim .inr fun h=>absurd h1 h.1⟩⟩,by omega⟩
         ·obtain ⟨g2,hf2,hcs⟩:=(hM.up hBk).set (of u) (by omega)
          have hset:=(hM.up hBk).cell (p:=of u) (by omega)
          rw [hf2] at hset
          have hmu:∀ j,M (of u) j↔GS vars nc into bases lo u j:=fun j=>hMat (of u) u j (by omega) (hK.at_ u (by omega)).2
          conv=>whnf
          (repeat' ((first|refine Az Aa rfl rfl rfl rfl rfl rfl hyc (Ab Aa ?_)|refine Az Aa rfl rfl rfl rfl rfl rfl hcu (Ab Aa ?_)|refine Az Aa rfl rfl rfl rfl rfl rfl hset (Ab Aa ?_)|refine Al Aa 3 1 rfl rfl rfl rfl rfl rfl rfl (by omega) (Ab Aa ?_)|refine Al Aa 117 1 rfl rfl rfl rfl rfl rfl rfl (by omega) (Ab Aa ?_)|refine Af rfl rfl rfl rfl rfl rfl (by omega) (by omega) (Ab Aa ?_)|refine Ag (by first|assumption|omega) ?_|refine Ah (by first|assumption|omega) ?_|fail)<;>conv=>whnf))
          have hsz2:=hBk.size
          refine Bv Af0 (Zc hCk hcs hsz2) rfl rfl rfl rfl rfl rfl rfl ?_
          rintro _ w4 ⟨⟨bb,rfl⟩,hC4,hK4⟩
          refine ⟨_,rfl,Ab Aa ?_⟩
          conv=>whnf
          (repeat' ((first|refine Af rfl rfl rfl rfl rfl rfl (by omega) (by omega) (Ab Aa ?_)|refine Ag (by first|assumption|omega) ?_|refine Ah (by first|assumption|omega) ?_|fail)<;>conv=>whnf))
          exact ⟨m+1,⟨rfl,rfl,rfl,rfl,rfl,rfl,rfl,rfl,rfl,rfl,rfl,rfl,rfl,rfl,rfl,trivial⟩,⟨hmx,hK4 wr hBk,hC4.imp fun j=>by rw [hnext j,hmu j];exact ⟨fun h=>h.elim (fun h=>h.elim .inl fun h=>.inr (.inl h)) fun h=>.inr (.inr ⟨h1,h⟩),fun h=>h.elim (fun h=>.inl (.inl h)) fun h=>h.elim (fun h=>.inl (.inr h)) fun h=>.inr h.2⟩⟩,by omega⟩
        ·have hml:m=x.length:=by omega
         rw [hml,List.take_length] at hCk
         conv=>whnf
         (repeat' ((first|refine Af rfl rfl rfl rfl rfl rfl (by omega) (by omega) (Ab Aa ?_)|refine Ag (by first|assumption|omega) ?_|refine Ah (by first|assumption|omega) ?_|fail)<;>conv=>whnf))
         refine ⟨rfl,(),⟨rfl,rfl,rfl,rfl,rfl,rfl,rfl,rfl,rfl,rfl,rfl,rfl,trivial⟩,hBk,hCk.imp fun j=>?_⟩
         rw [hP3,hb,<- hx]
         unfold Lu
         constructor
         ·rintro (((h|h)|h)|h)
          ·exact .inl h
          ·exact .inr (.inl h)
          ·exact .inr (.inr (.inl h))
          ·exact .inr (.inr (.inr h))
         ·rintro (h|h|h|h)
          ·exact .inl (.inl (.inl h))
          ·exact .inl (.inl (.inr h))
          ·exact .inl (.inr h)
          ·exact .inr h
       ·rintro _ G8 wk ⟨hBk,hCk⟩
        conv=>whnf
        (repeat' ((first|refine Af rfl rfl rfl rfl rfl rfl (by omega) (by omega) (Ab Aa ?_)|refine Ag (by first|assumption|omega) ?_|refine Ah (by first|assumption|omega) ?_|fail)<;>conv=>whnf))
        exact ⟨i+1,⟨rfl,rfl,rfl,rfl,rfl,rfl,rfl,rfl,rfl,rfl,rfl,rfl,trivial⟩,⟨by omega,hBk,hCk.imp fun j=>(hPn j).symm⟩,by omega⟩
      ·intro yv hy
       by_cases hvv:v<vars
       ·obtain ⟨xb,adb,Bb,cbb,⟨hxb⟩,hBe,hrb5,_,⟨hRb⟩⟩:=Iq hB v (by omega)
        subst hBe
        have hbm:=hRb.1
        have hbN:∀ y∈xb,0<=y/\y<65536:=fun y hy=>by have:=hG.rb v (by omega) y (by rw [hxb];exact hy);omega
        have hxbl:xb.length<=1048576:=by rw [<- hxb];exact hbl v hvv
        have hrb:=Bn hB5j hrb5
        conv=>whnf
        (repeat' ((first|refine Aj Aa hbj rfl rfl rfl rfl rfl rfl rfl (Ab Aa ?_)|refine Az Aa rfl rfl rfl rfl rfl rfl hrb (Ab Aa ?_)|refine Al Aa 27 1 rfl rfl rfl rfl rfl rfl rfl (by omega) (Ab Aa ?_)|refine Af rfl rfl rfl rfl rfl rfl (by omega) (by omega) (Ab Aa ?_)|refine Ag (by first|assumption|omega) ?_|refine Ah (by first|assumption|omega) ?_|fail)<;>conv=>whnf))
        refine Bv Aw1 (Bhq xb Bb cbb wj (hRb.up (Bj _) hB5j) hxbl hbN) rfl rfl rfl rfl rfl rfl rfl ?_
        rintro _ w3 ⟨g2,rfl,hC2,hB3⟩
        refine ⟨_,rfl,Ab Aa ?_⟩
        conv=>whnf
        have hsz3:=(Ax hBj hB3).size
        refine Bv Af0 (Zc (hCj.up hB3) hC2 hsz3) rfl rfl rfl rfl rfl rfl rfl ?_
        rintro _ w4 ⟨⟨bb,rfl⟩,hC4,hK4⟩
        refine ⟨_,rfl,Ab Aa ?_⟩
        conv=>whnf
        exact hy () _ _ ⟨rfl,rfl,rfl,rfl,rfl,rfl,rfl,rfl,rfl,rfl,rfl,rfl,rfl,trivial⟩ ⟨hK4 wr (Ax hBj hB3),hC4.imp fun j=>by rw [hxb];exact or_congr Iff.rfl ⟨fun h=>⟨hvv,h⟩,fun h=>h.2⟩⟩
       ·conv=>whnf
        (repeat' ((first|refine Af rfl rfl rfl rfl rfl rfl (by omega) (by omega) (Ab Aa ?_)|refine Ag (by first|assumption|omega) ?_|refine Ah (by first|assumption|omega) ?_|fail)<;>conv=>whnf))
        exact hy () _ _ ⟨rfl,rfl,rfl,rfl,rfl,rfl,rfl,rfl,rfl,rfl,rfl,rfl,rfl,trivial⟩ ⟨hBj,hCj.imp fun j=>⟨.inl,fun h=>h.elim id fun h=>absurd h.1 hvv⟩⟩
     ·intro yv hy
      have hbc:b=true\/b=false:=by cases b<;>simp
      clear hb
      rcases hbc with rfl|rfl
      ·conv=>whnf
       (repeat' ((first|refine Af rfl rfl rfl rfl rfl rfl (by omega) (by omega) (Ab Aa ?_)|refine Ag (by first|assumption|omega) ?_|refine Ah (by first|assumption|omega) ?_|fail)<;>conv=>whnf))
       have hsz2:=hBi.size
       refine Bv Y7 (Ax8 hCi hsz2 (nc+v) (by omega) (by omega)) rfl rfl rfl rfl rfl rfl rfl ?_
       rintro _ w4 ⟨⟨bb,rfl⟩,hC4,hK4⟩
       refine ⟨_,rfl,Ab Aa ?_⟩
       conv=>whnf
       exact hy () _ _ ⟨rfl,rfl,rfl,rfl,rfl,rfl,rfl,rfl,rfl,rfl,rfl,rfl,rfl,trivial⟩ ⟨hK4 wr hBi,hC4.imp fun j=>by simp⟩
      ·conv=>whnf
       exact hy () _ _ ⟨rfl,rfl,rfl,rfl,rfl,rfl,rfl,rfl,rfl,rfl,rfl,rfl,rfl,trivial⟩ ⟨hBi,hCi.imp fun j=>by simp⟩
    ·have hil2:i=l.length:=by omega
     rw [hil2,List.take_length] at hCi
     conv=>whnf
     (repeat' ((first|refine Af rfl rfl rfl rfl rfl rfl (by omega) (by omega) (Ab Aa ?_)|refine Ag (by first|assumption|omega) ?_|refine Ah (by first|assumption|omega) ?_|fail)<;>conv=>whnf))
     exact ⟨rfl,(),⟨rfl,rfl,rfl,rfl,rfl,rfl,rfl,rfl,rfl,trivial⟩,hBi,hCi.imp fun j=>(hMk j).symm⟩
   ·rintro _ G5 wi ⟨hBi,hCi⟩
    have hMi:=hM.up hBi
    have hrow:=hMi.row
    conv=>whnf
    (repeat' ((first|refine Al Aa 117 1 rfl rfl rfl rfl rfl rfl rfl (by omega) (Ab Aa ?_)|fail)<;>conv=>whnf))
    refine Dt (j:=k*1) (v:=.pointer (some ⟨gs,0,none⟩)) Aa hrow rfl rfl rfl rfl rfl rfl (by rw [Vm];omega) rfl rfl ?_
    intro w2 hp2
    rw [Nat.mul_one] at hp2
    have hM2:=hMi.put (hCi.lower hM.below.size) hp2
    refine Ab Aa ?_
    conv=>whnf
    (repeat' ((first|refine Af rfl rfl rfl rfl rfl rfl (by omega) (by omega) (Ab Aa ?_)|refine Ag (by first|assumption|omega) ?_|refine Ah (by first|assumption|omega) ?_|fail)<;>conv=>whnf))
    exact ⟨(k+1,Bf f k (.pointer (some ⟨gs,0,none⟩))),⟨rfl,rfl,rfl,rfl,rfl,rfl,rfl,trivial⟩,⟨by simp only;omega,hM2⟩,by simp only;omega⟩
  ·have hkK:k=K:=by omega
   rw [hkK] at hM
   conv=>whnf
   (repeat' ((first|refine Af rfl rfl rfl rfl rfl rfl (by omega) (by omega) (Ab Aa ?_)|refine Ag (by first|assumption|omega) ?_|refine Ah (by first|assumption|omega) ?_|fail)<;>conv=>whnf))
   exact ⟨rfl,f,⟨rfl,rfl,rfl,rfl,trivial⟩,hM⟩
 ·clear hM
  rintro f G wS hM
  have hBS:=hM.below
  have hbS:=Ac hBS hbx
  conv=>whnf
  (repeat' ((first|refine Aj Aa hbS rfl rfl rfl rfl rfl rfl rfl (Ab Aa ?_)|fail)<;>conv=>whnf))
  refine Lb (m:=vars) Aa 117 1 8 rfl rfl rfl rfl rfl rfl rfl rfl rfl (by omega) (by omega) ?_
  intro g9 w7 hn7
  have hB7:=hn7.below
  have hr7:w7.heap[g9]?=some (.cells (We vars fun _=>.pointer none).toArray 117 (0,0)):=by rw [<- S0];exact hn7.blk
  have hg9:wS.heap.size<=g9:=Nat.le_of_eq hn7.at_.symm
  clear hn7
  refine Ab Aa ?_
  conv=>whnf
  skip
  refine C8 6 (fun _ _=>False) (X:=Nat->Value) (fun x=>[(15,.slice (some ⟨g9,0,none⟩) vars vars)]) (fun x wj=>Below wS.heap.size wS wj/\wj.heap[g9]?=some (.cells (We vars x).toArray 117 (0,0))/\∀ u,u<vars->x u=f (of u)) ?_ (fun _ _ h=>h.elim) ?_
  ·refine Am Aa (X:=Nat×(Nat->Value)) (fun x=>[(6,.slice (some ⟨go,0,none⟩) N N),(7,.slice (some ⟨gl,0,none⟩) K K),(15,.slice (some ⟨g9,0,none⟩) vars vars),(99,.int .i64 (vars:Int)),(100,.int .i64 (x.1:Int))]) (fun x wj=>x.1<=vars/\Below wS.heap.size wS wj/\wj.heap[g9]?=some (.cells (We vars x.2).toArray 117 (0,0))/\∀ u,u<x.1->x.2 u=f (of u)) (fun x=>vars - x.1) (0,fun _=>.pointer none) ⟨rfl,rfl,rfl,rfl,rfl,trivial⟩ ⟨by simp,hB7,hr7,fun u hu=>absurd hu (Nat.not_lt_zero u)⟩ ?_
   clear hB7 hr7
   rintro ⟨v,x⟩ G2 wj ⟨hv,hBj,hrj,hfj⟩
   simp only at hv hBj hrj hfj
   by_cases hvn:v<vars
   ·have hcv:=rd wj (Ax hBS hBj) v (by omega)
    have hov:=(hK.at_ v (by omega)).1
    have hcf:=(hM.up hBj).cell (p:=of v) (by omega)
    conv=>whnf
    (repeat' ((first|refine Az Aa rfl rfl rfl rfl rfl rfl hcv (Ab Aa ?_)|refine Az Aa rfl rfl rfl rfl rfl rfl hcf (Ab Aa ?_)|refine Al Aa 3 1 rfl rfl rfl rfl rfl rfl rfl (by omega) (Ab Aa ?_)|refine Al Aa 117 1 rfl rfl rfl rfl rfl rfl rfl (by omega) (Ab Aa ?_)|refine Af rfl rfl rfl rfl rfl rfl (by omega) (by omega) (Ab Aa ?_)|refine Ag (by first|assumption|omega) ?_|refine Ah (by first|assumption|omega) ?_|fail)<;>conv=>whnf))
    have hone:(f (of v)).oneCell'=true:=by
     obtain ⟨g2,hf2,_⟩:=hM.set (of v) (by omega)
     rw [hf2]
     rfl
    refine Dt (j:=v*1) (v:=f (of v)) Aa hrj rfl rfl rfl rfl rfl hone (by rw [Vm];omega) rfl rfl ?_
    intro w2 hp2
    rw [Nat.mul_one,Vo] at hp2
    refine Ab Aa ?_
    conv=>whnf
    (repeat' ((first|refine Af rfl rfl rfl rfl rfl rfl (by omega) (by omega) (Ab Aa ?_)|refine Ag (by first|assumption|omega) ?_|refine Ah (by first|assumption|omega) ?_|fail)<;>conv=>whnf))
    refine ⟨(v+1,Bf x v (f (of v))),⟨rfl,rfl,rfl,rfl,rfl,trivial⟩,⟨by simp only;omega,hp2.below hBj hg9 hBj.size,hp2.blk,fun u hu=>?_⟩,by simp only;omega⟩
    by_cases e:u=v
    ·rw [e];simp [Bf]
    ·simp only [Bf,e,if_false]
     exact hfj u (by omega)
   ·have hvn2:v=vars:=by omega
    rw [hvn2] at hfj
    conv=>whnf
    (repeat' ((first|refine Af rfl rfl rfl rfl rfl rfl (by omega) (by omega) (Ab Aa ?_)|refine Ag (by first|assumption|omega) ?_|refine Ah (by first|assumption|omega) ?_|fail)<;>conv=>whnf))
    exact ⟨rfl,x,⟨rfl,trivial⟩,hBj,hrj,hfj⟩
  ·rintro x G2 wj ⟨hBj,hrj,hfj⟩
   conv=>whnf
   (repeat' (first|refine Cg rfl rfl ?_|fail))
   refine ⟨g9,x,rfl,hrj,fun v hv=>?_,Ax hBw (Ax hBS hBj)⟩
   have hat:=hK.at_ v (by omega)
   obtain ⟨g2,hf2,hcs⟩:=(hM.up hBj).set (of v) (by omega)
   exact ⟨g2,by rw [hfj v hv,hf2],(hcs.lower hBw.size).imp fun j=>hMat (of v) v j (by omega) hat.2⟩
theorem Nj {a b:ByteArray}(h:(Lit.string a.data.toList)=(Lit.string b.data.toList)):a=b:=by
 injection h with h
 cases a
 cases b
 congr 1
 exact Array.toList_inj.1 h
theorem Ma (x:ByteArray):WideAt.IsKeyLit (.string x.data.toList):=by simp [WideAt.IsKeyLit]
structure StrT (P:Program)(t k e:TypeId):Prop where
 t:P.underlying t=some (.map k e)
 k:P.underlying k=some .string
 e:P.underlying e=some (.int .i64)
section
variable {P:Program}{t k e:TypeId}{w w1:World}{b n:Nat}{L:List ByteArray}
structure StrM (P:Program)(k e:TypeId)(w:World)(b:Nat)(L:List ByteArray)(n:Nat):Prop where
 ex:∃ D:DataW Unit,w.ownsMap P k (plainElem P e) b n D/\(∀ l,Maps.has D l=true↔∃ x∈L,l=Lit.string x.data.toList)/\Maps.size D=L.length/\∀ i,i<L.length->∀ z,D.atKey (.string (L[i]!).data.toList) z=.lit (.int .i64 (i:Int))
 nd:L.Nodup
theorem StrM.lt (h:StrM P k e w b L n):b<w.heap.size:=by
 obtain ⟨D,h1,_⟩:=h.ex
 exact h1.lt
theorem StrM.kept {row:Option Nat}(h:StrM P k e w b L n)(hg:w.grownBy w1 row)(hne:some b≠row):StrM P k e w1 b L n:=by
 obtain ⟨D,h1,h2⟩:=h.ex
 exact ⟨⟨D,h1.kept hg hne,h2⟩,h.nd⟩
theorem StrM.up (h:StrM P k e w b L n)(hb:Below w.heap.size w w1):StrM P k e w1 b L n:=h.kept (row:=none) (Ar hb) nofun
theorem StrM.made (hb:w1=w.alloc (.map #[] 0)):StrM P k e w1 w.heap.size [] 0:=by
 subst hb
 refine ⟨⟨.map [],World.ownsMap_made w P k _,fun l=>⟨fun h=>(by cases h),fun ⟨x,hx,_⟩=>(by cases hx)⟩,rfl,fun i hi=>absurd hi (Nat.not_lt_zero i)⟩,.nil⟩
theorem StrM.put (hT:StrT P t k e)(h:StrM P k e w b L n)(hn:n<maxLen){x:ByteArray}(hx:x.size<=maxLen)(hm:Pu (L.length:Int))(hxL:x∉L) :
  ∃ w',(Instr.mapUpdate t (.map (some b)) (.string x) (.int .i64 (L.length:Int))).run P w=.ok () w'/\StrM P k e w' b (L++[x]) (n+1)/\w.grownBy w' (some b):=by
 obtain ⟨D,h1,h2,h3,h4⟩:=h.ex
 have K:=Maps.string_keyed (P:=P) hT.k
 obtain ⟨w',hr,h5,h6⟩:=h1.update K hT.t hn (WideMaps.keyOf_string_mk hT.k hx) (plainElem_int hT.e (Gh hm))
 refine ⟨w',hr,⟨⟨_,h5,fun l=>?_,?_,fun i hi z=>?_⟩,?_⟩,h6⟩
 ·by_cases e1:l=.string x.data.toList
  ·subst e1
   rw [Maps.has_put_same (h1.isMap) (Ma x)]
   exact ⟨fun _=>⟨x,by simp,rfl⟩,fun _=>rfl⟩
  ·rw [Maps.has_put_other e1,h2]
   constructor
   ·rintro ⟨y,hy,rfl⟩
    exact ⟨y,by simp [hy],rfl⟩
   ·rintro ⟨y,hy,rfl⟩
    rcases List.mem_append.1 hy with hy|hy
    ·exact ⟨y,hy,rfl⟩
    ·simp at hy
     subst hy
     exact absurd rfl e1
 ·rw [Maps.size_put (h1.tidy K)]
  have hm:¬ Maps.has D (.string x.data.toList)=true:=fun hh=>by
   obtain ⟨y,hy,e⟩:=(h2 _).1 hh
   exact hxL (Nj e▸hy)
  rw [if_neg hm,h3]
  simp
 ·have hi:i<L.length+1:=by simpa using hi
  by_cases e1:i<L.length
  ·have e2:(L++[x])[i]! = L[i]! := by
    rw [getElem!_pos (L++[x]) i (by simp;omega),getElem!_pos L i e1,List.getElem_append_left e1]
   rw [e2]
   have hne:L[i]! ≠ x:=fun e=>hxL (by rw [<- e,getElem!_pos L i e1];exact List.getElem_mem e1)
   rw [Maps.atKey_put_other (fun e3=>hne (Nj e3)),h4 i e1]
  ·have e2:i=L.length:=by omega
   subst e2
   have e2:(L++[x])[L.length]! = x:=by
    rw [getElem!_pos (L++[x]) L.length (by simp)]
    simp
   rw [e2]
   exact Maps.atKey_put_same h1.isMap (Ma x) _ z
 ·rw [List.nodup_append]
  exact ⟨h.nd,by simp,fun a ha c hc e=>by simp at hc;subst hc;exact hxL (e▸ha)⟩
theorem StrM.len (hT:StrT P t k e)(h:StrM P k e w b L n)(ty:TypeId):(Builtin.len_ #[t] ty #[.map (some b)]).run P w=.ok (.int .i64 (L.length:Int)) w:=by
 obtain ⟨D,h1,h2,h3,_⟩:=h.ex
 rw [h1.len hT.t ty,h3]
theorem StrM.look (hT:StrT P t k e)(h:StrM P k e w b L n)(hz:(zeroValue e).run P w=.ok (.int .i64 0) w){x:ByteArray}(hx:x.size<=maxLen) :
  ∃ (v:Int) (ok:Bool),(Instr.lookup t (.map (some b)) (.string x) true).run P w=.ok (.tuple #[.int .i64 v,.bool ok]) w/\(ok=true↔x∈L)/\∀ i,i<L.length->L[i]! = x->v=(i:Int):=by
 obtain ⟨D,h1,h2,h3,h4⟩:=h.ex
 have K:=Maps.string_keyed (P:=P) hT.k
 obtain ⟨v,ps,hr,hv⟩:=h1.look_ok K hT.t hz (plainElem_int hT.e (by decide)) (WideMaps.keyOf_string_mk hT.k hx)
 obtain ⟨c,rfl,hc,_⟩:=plainElem_int_inv hT.e hv
 have hhas:Maps.has D (.string x.data.toList)=true↔x∈L:=by
  rw [h2]
  exact ⟨fun ⟨y,hy,e⟩=>Nj e▸hy,fun hx=>⟨x,hx,rfl⟩⟩
 refine ⟨c,_,hr,hhas,fun i hi e=>?_⟩
 have h5:=h4 i hi (.lit (.int .i64 0))
 rw [e] at h5
 simp only [Prod.mk.injEq] at hc
 have h6:=hc.1.symm.trans h5
 injection h6 with h6
 injection h6
end
theorem Ad3:StrT Tryz.prog 217 9 3:=⟨Tryz.underlying217,Tryz.underlying9,Tryz.underlying3⟩
abbrev SNum:=StrM Tryz.prog 9 3
end Go.Proofs.YtghmdfegfehhkaaGreatDoor
