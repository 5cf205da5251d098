/- Several texts of one claim in one file, made short: SW16 FI16 AW16 A2. -/
import Derived.Test.YtghmdfegfehhkaaGreatDoorZ13
import Derived.Test.YtghmdfegfehhkaaGreatDoorZ5
import Derived.Test.YtghmdfegfehhkaaGreatDoorZ3
set_option maxRecDepth 100000
set_option maxHeartbeats 64000000
set_option linter.unusedVariables false
set_option linter.unusedSimpArgs false
namespace Go.Proofs.YtghmdfegfehhkaaGreatDoor
open Go.RowKit
section
variable {c:KC}{O O0 O1:Nat->Nat}{w w0 w1:World}{s s1:TS}{vk vn vp:Value}{P A B:List (Nat×Nat)}{v nx gp m cap:Nat}
theorem SM.own (h:SM c O0 w0 s vp P w):w.ownsRow w0.heap.size 288 2 vp P.length (fv P):=by
 obtain ⟨O,vk,vn,h1,h2,h3⟩:=h.ex
 obtain ⟨fp,⟨_,h4⟩,_⟩:=h2.now
 exact h4
theorem SM.neT (h:SM c O0 w0 s (.slice (some ⟨gp,0,none⟩) m cap) P w):c.gT≠gp:=by
 obtain ⟨O,vk,vn,h1,h2,h3⟩:=h.ex
 obtain ⟨fp,⟨e4,h4⟩,h5⟩:=h2.now
 have:=(h5 gp (by rw [e4];simp [Value.ownBlock])).1
 have h6:=h1.box.2
 intro e
 rw [e] at h6
 omega
theorem SM.size (h:SM c O0 w0 s vp P w):w0.heap.size<=w.heap.size:=by
 obtain ⟨O,vk,vn,h1,h2,h3⟩:=h.ex
 exact h3.size
theorem SM.enterC (h:SM c O0 w0 s vp P w)(u:Nat)(hu:u<c.n)(hcnt:s.cnt<9223372036854775807)(hst:s.stk.length<1099511627776)(hn:c.n<=9223372036854775807) :
  Calls Tryz.prog 188 #[.pointer (some ⟨c.gT,0,none⟩),.int .i64 (u:Int)] w fun e w'=>e=.returned (.agg #[.int .i64 (u:Int),.int .i64 0])/\SM c O0 w0 (s.enter u) vp P w':=by
 obtain ⟨O,vk,vn,h1,h2,h3⟩:=h.ex
 refine (Af5 h1 u hu hcnt hst hn).mono ?_
 rintro e w' ⟨he,O1,vk1,h4,h5⟩
 exact ⟨he,O1,vk1,vn,h4,h2.stp h5 (by omega) (by omega),h3.trans h5⟩
theorem SM.leaveC (h:SM c O0 w0 s vp P w)(A:List (Nat×Nat))(L R:List Nat)(v:Nat)(hs:s.stk=L++v::R)(hR:v∉R)(hlt:∀ x∈s.stk,x<c.n)(hst:s.stk.length<1099511627776)(hkn:s.kn.length<1099511627776)(hn:c.n<=9223372036854775807) :
  Calls Tryz.prog 189 #[.pointer (some ⟨c.gT,0,none⟩),.int .i64 (v:Int)] w fun e w'=>e=.returned (.tuple #[])/\SM c O0 w0 (s.leave A L (v::R) (Hf (v::R))) vp P w':=by
 obtain ⟨O,vk,vn,h1,h2,h3⟩:=h.ex
 refine (At1 h1 A L R v hs hR hlt hst hkn hn).mono ?_
 rintro e w' ⟨he,O1,vk1,vn1,h4,h5⟩
 exact ⟨he,O1,vk1,vn1,h4,h2.stp h5 (by omega) (by omega),h3.trans h5⟩
theorem SM.cutP {x:Nat×Nat}(h:SM c O0 w0 s (.slice (some ⟨gp,0,none⟩) m cap) (A++[x]) w):SM c O0 w0 s (.slice (some ⟨gp,0,none⟩) A.length cap) A w:=by
 obtain ⟨O,vk,vn,h1,h2,h3⟩:=h.ex
 refine ⟨O,vk,vn,h1,h2.imp fun fp w hf=>?_,h3⟩
 obtain ⟨e,h4⟩:=hf
 have hm:m=(A++[x]).length:=by
  rcases h4.2 with ⟨h5,_⟩|⟨g,cap',cur,h5,_⟩
  ·cases h5
  ·injection h5
 subst hm
 refine ⟨e,Tu h4 (by simp) (Ib A) ?_⟩
 rw [T6,<- Ib A,List.take_left]
theorem SM.push {E:Option Addr}{ec u:Nat}(h:SM c O0 w0 s vp P w)(hown:w1.ownsRow w0.heap.size 288 2 (.slice E (P.length+1) ec) (P.length+1) (fv P++[.int .i64 (u:Int),.int .i64 0]))(hg:w.grownBy w1 vp.ownBlock)
  (hob:(Value.slice E (P.length+1) ec).ownBlock=vp.ownBlock\/(Value.slice E (P.length+1) ec).ownBlock=some w.heap.size):SM c O0 w0 s (.slice E (P.length+1) ec) (P++[(u,0)]) w1:=by
 obtain ⟨O,vk,vn,h1,h2,h3⟩:=h.ex
 obtain ⟨fp,⟨e4,h4⟩,h5⟩:=h2.now
 have hO:∀ b,vp.ownBlock=some b->O b=50:=fun b hb=>(h5 b (by rw [e4,hb];simp)).1
 have hk:Kept vp.ownBlock.toList w w1:=Kept.grown (Kept.refl _ _) hg fun g e=>.inl (by simp [e])
 refine ⟨_,vk,vn,h1.keep50 hk (fun b hb _=>hO b (by simpa using hb)),?_,h3.own50 hk (fun b hb=>(h4.lt b (by simpa using hb)).1) 50⟩
 refine ⟨(Value.slice E (P.length+1) ec).ownBlock.toList,fun b hb=>?_,fun w' hw'=>⟨rfl,?_⟩⟩
 ·have hb:(Value.slice E (P.length+1) ec).ownBlock=some b:=by simpa using hb
  refine ⟨?_,(hown.lt b hb).2⟩
  rcases hob with q|q
  ·have q':=q.symm.trans hb
   rw [A6 (h4.lt b q').2]
   exact hO b q'
  ·rw [q] at hb
   injection hb with hb
   exact C3 (by omega)
 ·have hlp:(P++[(u,0)]).length=P.length+1:=by simp
  rw [hlp,T6]
  exact Hz hown hw'
end
structure SP (g:List (List Int))(s0:TS)(v0:Nat)(s:TS):Prop where
 inv:TInv g s
 cnt:s.cnt=Y4 g.length s.idx
 le:∀ x,0<s0.idx x->0<s.idx x
 at_:0<s.idx v0
section
variable {g:List (List Int)}{s0 s:TS}{v0 v:Nat}{A B:List (Nat×Nat)}
theorem SP.cntle (h:SP g s0 v0 s):s.cnt<=g.length:=by rw [h.cnt];exact Ab3 _ _
theorem SP.enter (h:SP g s0 v0 s){u:Nat}(hu:u<g.length)(h0:s.idx u=0)(hp:∀ p∈s.pn,Rg g p u):SP g s0 v0 (s.enter u):=by
 refine ⟨h.inv.enter hu h0 hp,?_,fun x hx=>?_,?_⟩
 ·show s.cnt+1=Y4 g.length (Bf s.idx u (s.cnt+1))
  rw [Xk hu h0 (by omega),<- h.cnt]
 ·have:=h.le x hx
  show 0<Bf s.idx u (s.cnt+1) x
  unfold Bf
  split<;>omega
 ·have:=h.at_
  show 0<Bf s.idx u (s.cnt+1) v0
  unfold Bf
  split<;>omega
theorem H1 (f:Nat->Nat)(v:Nat):Bf f v (f v)=f:=by
 funext j
 unfold Bf
 split
 ·rename_i e;rw [e]
 ·rfl
theorem SP.adv {nx m:Nat}(h:SP g s0 v0 s)(hp:s.path=A++(v,nx)::B)(hm:m<=s.low v)(hmw:m=s.low v\/∃ w∈s.stk,EdK g v nx w/\m=s.idx w)(he:∀ w,EdK g v nx w->0<s.idx w/\(w∈s.stk->m<=s.idx w)):SP g s0 v0 (s.adv A B v nx m):=
 ⟨h.inv.adv hp hm hmw he,h.cnt,h.le,h.at_⟩
theorem SP.leave {nx:Nat}{L R:List Nat}(h:SP g s0 v0 s)(hp:s.path=A++[(v,nx)])(hall:∀ k w,EdK g v k w->k<nx)(he:s.low v=s.idx v)(hs:s.stk=L++v::R):SP g s0 v0 (s.leave A L (v::R) (Hf (v::R))):=by
 refine ⟨h.inv.leave2 hp hall he hs (Ak0 ?_) (fun x=>mem_nsrt),h.cnt,h.le,h.at_⟩
 have:=h.inv.stk_nodup
 rw [hs,List.nodup_append] at this
 exact this.2.1
theorem SP.pop {u k nx:Nat}(h:SP g s0 v0 s)(hp:s.path=A++[(u,k),(v,nx)])(hall:∀ k w,EdK g v k w->k<nx)(hne:s.low v≠s.idx v):SP g s0 v0 (s.pop A u k (min (s.low u) (s.low v))):=
 ⟨h.inv.pop hp hall hne,h.cnt,h.le,h.at_⟩
theorem SP.down {nx u:Nat}(h:SP g s0 v0 s)(hp:s.path=A++[(v,nx)])(hu:u<g.length)(h0:s.idx u=0)(he:EdK g v nx u)(hinj:∀ w,EdK g v nx w->w=u):SP g s0 v0 ((s.enter u).adv A [(u,0)] v nx ((s.enter u).low v)):=by
 have hvp:v∈s.pn:=by unfold TS.pn;rw [hp];simp
 have hvs:=h.inv.pstk hvp
 have hne:v≠u:=fun e=>by have:=h.inv.stk v hvs;rw [e] at this;omega
 have hr:∀ p∈s.pn,Rg g p u:=fun p hp2=>by
  refine (h.inv.j2 p hp2 v hvs ?_).trans (.one ⟨_,he⟩)
  unfold TS.pn at hp2
  rw [hp,List.map_append] at hp2
  rcases List.mem_append.1 hp2 with h3|h3
  ·obtain ⟨a,ha,rfl⟩:=List.mem_map.1 h3
   exact Nat.le_of_lt ((h.inv.plt hp).1 a ha)
  ·simp at h3
   rw [h3]
   exact Nat.le_refl _
 have h1:=h.enter hu h0 hr
 refine h1.adv (B:=[(u,0)]) ?_ (Nat.le_refl _) (.inl rfl) (fun w hw=>?_)
 ·show s.path++[(u,0)]=_
  rw [hp]
  simp
 ·rw [hinj w hw]
  have hiu:(s.enter u).idx u=s.cnt+1:=D3 ..
  have hlv:(s.enter u).low v=s.low v:=C1 _ _ hne
  have:=(h.inv.j3 v hvp).1
  have:=h.inv.le v
  rw [hiu,hlv]
  exact ⟨by omega,fun _=>by omega⟩
theorem EdK.inj {k u w:Nat}(h:EdK g v k u)(h2:EdK g v k w):w=u:=by
 have:=h.2.2.2
 have:=h2.2.2.2
 omega
end
theorem Aiy {c:KC}{O:Nat->Nat}{w:World}{s:TS}{vk vn:Value}{g:List (List Int)}(h:KS c O w s vk vn)(hI:TInv g s)(hp:s.path=[])(hcn:c.n=g.length)(hc:s.cnt=Y4 g.length s.idx)(hg:∀ w',Below c.base w w'->RRows w' c.A g)(hn:g.length<=1000000)(v:Nat)(hv:v<g.length)(h0:s.idx v=0) :
  Calls Tryz.prog 150 #[.pointer (some ⟨c.gT,0,none⟩),.int .i64 (v:Int)] w fun e w'=>e=.returned (.tuple #[])/\∃ O1 vk1 vn1 s1,KS c O1 w' s1 vk1 vn1/\Stp O O1 w w'/\SP g s v s1/\s1.path=[]:=by
 have hcl:=Ab3 g.length s.idx
 have hst:=hI.stk_le
 refine A9 (args:=[.pointer (some ⟨c.gT,0,none⟩),.int .i64 (v:Int)]) Aa Tryz.func150 rfl Tryz.ntmps150 rfl ?_;conv=>whnf
 refine Aa8 (Ab7 Aa ?_)
 conv=>whnf
 refine Bv An3 (Af5 h v (by omega) (by omega) (by omega) (by omega)) rfl rfl rfl rfl rfl rfl rfl ?_
 rintro _ w1 ⟨rfl,O1,vk1,h1,st1⟩
 refine ⟨_,rfl,Ab Aa ?_⟩
 conv=>whnf
 refine C7 Aa 288 2 rfl rfl rfl rfl rfl rfl rfl rfl rfl rfl ?_
 intro gp w2 hn2
 refine Ab Aa ?_
 conv=>whnf
 have hsz1:=st1.size
 have hp1:(s.enter v).path=[(v,0)]:=by show s.path++[(v,0)]=_;rw [hp];rfl
 have hM:SM c O w (s.enter v) (.slice (some ⟨gp,0,none⟩) 1 1) [(v,0)] w2:=by
  refine ⟨_,vk1,vn,h1.up hn2.below 50,⟨[gp],fun b hb=>?_,fun w' hw'=>⟨rfl,rfl,.inr ⟨gp,1,#[.int .i64 (v:Int),.int .i64 0],rfl,?_,?_,by simp,by decide,rfl,rfl⟩⟩⟩,st1.trans (Stp.up hn2.below 50)⟩
  ·simp at hb
   subst hb
   exact ⟨C3 (by have:=hn2.at_;omega),Ae hn2.blk⟩
  ·have:=hn2.at_;omega
  ·exact (hw' gp (by simp)).trans hn2.blk
 have hS:SP g s v (s.enter v):=by
  refine ⟨hI.enter hv h0 (fun p hp2=>by unfold TS.pn at hp2;rw [hp] at hp2;cases hp2),?_,fun x hx=>?_,?_⟩
  ·show s.cnt+1=Y4 g.length (Bf s.idx v (s.cnt+1))
   rw [Xk hv h0 (by omega),<- hc]
  ·show 0<Bf s.idx v (s.cnt+1) x
   unfold Bf
   split<;>omega
  ·show 0<Bf s.idx v (s.cnt+1) v
   rw [D3]
   omega
 have hbase:=h.sz
 have hlow:=h.low
 refine Am Aa (X:=TS×Value) (fun x=>[(0,.pointer (some ⟨c.gT,0,none⟩)),(4,x.2)]) (fun x wr=>SM c O w x.1 x.2 x.1.path wr/\SP g s v x.1) (fun x=>2*(g.length - x.1.cnt)+x.1.path.length) (s.enter v,.slice (some ⟨gp,0,none⟩) 1 1) ⟨rfl,rfl,trivial⟩ ⟨by rw [hp1];exact hM,hS⟩ ?_
 clear hM hS hp1 hn2 h1 st1 hsz1
 rintro ⟨s1,vp⟩ G wr ⟨hM,hS⟩
 simp only at hM hS
 rcases List.eq_nil_or_concat s1.path with hnil|⟨A,⟨v1,nx1⟩,hcat⟩
 ·obtain ⟨A1,cp,hvp⟩:=hM.form
  have hlen:s1.path.length=0:=by rw [hnil];rfl
  rw [hlen] at hvp
  subst hvp
  conv=>whnf
  skip
  obtain ⟨O1,vk1,vn1,k1,_,k3⟩:=hM.ex
  exact Hr rfl ⟨rfl,O1,vk1,vn1,s1,k1,k3,hS,hnil⟩
 have hcat:s1.path=A++[(v1,nx1)]:=by rw [hcat];simp
 have hlen:(A++[(v1,nx1)]).length=A.length+1:=by simp
 have hv1p:v1∈s1.pn:=by unfold TS.pn;rw [hcat];simp
 have hv1:v1<g.length:=hS.inv.stk_lt v1 (hS.inv.pstk hv1p)
 have hAn:A.length+1<=g.length:=by have:=hS.inv.path_le;rw [hcat,hlen] at this;exact this
 rw [hcat] at hM
 obtain ⟨gp,cap,cur,hvp,_,_,hcap,_,_⟩:=hM.frame
 rw [hlen] at hvp hcap
 subst hvp
 conv=>whnf
 (repeat' ((first|refine Ni Aa 288 2 rfl rfl rfl rfl rfl rfl rfl (by omega) (by omega) (Ab Aa ?_)|refine Jk rfl rfl rfl rfl rfl rfl (by omega) (by omega) (Ab Aa ?_)|refine Ag (by first|assumption|omega) ?_|fail)<;>conv=>whnf))
 have e5:(((A.length+1:Nat):Int) - 1).toNat=A.length:=by omega
 rw [e5]
 refine Am Aa (X:=TS×Nat) (fun x=>[(0,.pointer (some ⟨c.gT,0,none⟩)),(4,.slice (some ⟨gp,0,none⟩) (A.length+1) cap),(5,.pointer (some ((⟨gp,0,none⟩:Addr).add (A.length*2))))]) (fun x wi=>SM c O w x.1 (.slice (some ⟨gp,0,none⟩) (A.length+1) cap) (A++[(v1,x.2)]) wi/\SP g s v x.1/\x.1.path=A++[(v1,x.2)]/\x.1.cnt=s1.cnt) (fun x=>(g[v1]!).length - x.2) (s1,nx1) ⟨rfl,rfl,rfl,trivial⟩ ⟨hM,hS,hcat,rfl⟩ ?_
 clear hM hS
 rintro ⟨s2,nx⟩ G2 wi ⟨hM,hS,hP,hcnt⟩
 simp only at hM hS hP hcnt
 conv=>whnf
 have hcle:=hS.cntle
 have hst:=hS.inv.stk_le
 have hkn:=hS.inv.kn_le
 obtain ⟨vk2,vn2,hbox⟩:=hM.box
 unfold Mo at hbox
 obtain ⟨gp',cap',cur2,e1,hb2,hl2,_,hc0,hc1⟩:=hM.frame
 injection e1 with e1 _ e2
 injection e1 with e1
 injection e1 with e1 _ _
 subst e1 e2
 obtain ⟨x,ad,B,cc,⟨hx⟩,hcA,hrow,hxc,⟨hRI⟩⟩:=Iq (hg wi (hM.bel hlow hbase)) v1 hv1
 rw [hcA] at hbox
 have hxl:=hRI.1
 have hgx:(g[v1]!).length=x.length:=by rw [hx]
 have hb2l:=Ae hb2
 by_cases hk:nx<x.length
 ·obtain ⟨y,ad2,⟨hy⟩,rfl,hyc,hy1,hy2⟩:=Dy hRI nx hk
  have hed:∀ u,EdK g v1 nx u->(u:Int)=y/\u<g.length:=fun u hu=>by
   have:=hu.2.2.2
   rw [hx,hy] at this
   exact ⟨this.symm,hu.2.1⟩
  refine Fo Aa mixed (by kernel_rfl) ?_;conv=>whnf
  (repeat' ((first|refine Bg Aa hbox rfl rfl rfl rfl rfl rfl rfl (Ad Aa ?_)|refine De Aa rfl rfl rfl rfl rfl rfl hc1 (Ad Aa ?_)|refine De Aa rfl rfl rfl rfl rfl rfl hc0 (Ad Aa ?_)|refine De Aa rfl rfl rfl rfl rfl rfl hrow (Ad Aa ?_)|refine Dh Aa 27 1 rfl rfl rfl rfl rfl rfl rfl (by omega) (Ad Aa ?_)|fail)<;>conv=>whnf))
  intro w3 hB3
  conv=>whnf
  (repeat' ((first|(refine Ag (by first|assumption|omega) ?_)|fail)<;>conv=>whnf))
  have hbox:=Ac hB3 hbox
  have hc0:=Bn hB3 hc0
  have hc1:=Bn hB3 hc1
  have hrow:=Bn hB3 hrow
  have hyc:=Bn hB3 hyc
  refine Fo Aa mixed (by kernel_rfl) ?_;conv=>whnf
  (repeat' ((first|refine Bg Aa hbox rfl rfl rfl rfl rfl rfl rfl (Ad Aa ?_)|refine De Aa rfl rfl rfl rfl rfl rfl hc1 (Ad Aa ?_)|refine De Aa rfl rfl rfl rfl rfl rfl hc0 (Ad Aa ?_)|refine De Aa rfl rfl rfl rfl rfl rfl hrow (Ad Aa ?_)|refine De Aa rfl rfl rfl rfl rfl rfl hyc (Ad Aa ?_)|refine Dh Aa 27 1 rfl rfl rfl rfl rfl rfl rfl (by omega) (Ad Aa ?_)|refine Dh Aa 3 1 rfl rfl rfl rfl rfl rfl rfl (by omega) (Ad Aa ?_)|fail)<;>conv=>whnf))
  intro w4 hB4
  conv=>whnf
  have hbox:=Ac hB4 hbox
  have hc1:=Bn hB4 hc1
  have hM4:=(hM.up hB3).up hB4
  have hb4:=Ac hB4 (Ac hB3 hb2)
  (repeat' ((first|refine Az Aa rfl rfl rfl rfl rfl rfl hc1 (Ab Aa ?_)|refine Af rfl rfl rfl rfl rfl rfl (by omega) (by omega) (Ab Aa ?_)|fail)<;>conv=>whnf))
  refine Au4 (v:=.int .i64 ((nx+1:Nat):Int)) Aa 1 hb4 rfl rfl rfl rfl rfl rfl (by omega) rfl rfl ?_
  intro w5 hp5
  refine Ab Aa ?_
  conv=>whnf
  have hM5:=hM4.bump hb4 hp5
  have hTgp:c.gT≠gp:=hM4.neT
  have hbox:=hp5.old hbox hTgp
  by_cases hneg:y<0
  ·(repeat' ((first|(refine Ag (by first|assumption|omega) ?_)|fail)<;>conv=>whnf))
   exact ⟨(s2.adv A [] v1 nx (s2.low v1),nx+1),⟨rfl,rfl,rfl,trivial⟩,⟨hM5.same rfl (H1 _ _) rfl rfl rfl rfl rfl,hS.adv hP (Nat.le_refl _) (.inl rfl) (fun u hu=>by have:=(hed u hu).1;omega),rfl,hcnt⟩,by omega⟩
  by_cases hge:(c.n:Int)<=y
  ·(repeat' ((first|refine Aj Aa hbox rfl rfl rfl rfl rfl rfl rfl (Ab Aa ?_)|refine Ag (by first|assumption|omega) ?_|refine Ah (by first|assumption|omega) ?_|fail)<;>conv=>whnf))
   exact ⟨(s2.adv A [] v1 nx (s2.low v1),nx+1),⟨rfl,rfl,rfl,trivial⟩,⟨hM5.same rfl (H1 _ _) rfl rfl rfl rfl rfl,hS.adv hP (Nat.le_refl _) (.inl rfl) (fun u hu=>by have:=hed u hu;omega),rfl,hcnt⟩,by omega⟩
  obtain ⟨u,rfl⟩:=Int.eq_ofNat_of_zero_le (Int.not_lt.1 hneg)
  have hun:u<c.n:=by omega
  have hug:u<g.length:=by omega
  have hek:EdK g v1 nx u:=⟨hv1,hug,by rw [hx];exact hk,by rw [hx,hy]⟩
  have hinj:∀ w,EdK g v1 nx w->w=u:=fun w hw=>hek.inj hw
  have hcu:=hM5.idxC hun
  have hbl5:=Ae hM5.lowB
  by_cases hi0:s2.idx u=0
  ·(repeat' ((first|refine Aj Aa hbox rfl rfl rfl rfl rfl rfl rfl (Ab Aa ?_)|refine Az Aa rfl rfl rfl rfl rfl rfl hcu (Ab Aa ?_)|refine Al Aa 3 1 rfl rfl rfl rfl rfl rfl rfl (by omega) (Ab Aa ?_)|refine Ag (by first|assumption|omega) ?_|refine Ah (by first|assumption|omega) ?_|fail)<;>conv=>whnf))
   refine Bv An3 (hM5.enterC u hun (by omega) (by omega) (by omega)) rfl rfl rfl rfl rfl rfl rfl ?_
   rintro _ w6 ⟨rfl,hM6⟩
   refine ⟨_,rfl,Ab Aa ?_⟩
   conv=>whnf
   refine C7 Aa 288 2 rfl rfl rfl rfl rfl rfl rfl rfl rfl rfl ?_
   intro g7 w7 hn7
   refine Ab Aa ?_
   conv=>whnf
   have hM7:=hM6.up hn7.below
   have hlen2:(A++[(v1,nx+1)]).length=A.length+1:=by simp
   have hown:=hM7.own
   rw [hlen2] at hown
   refine Cu Aa 288 2 16 hown hn7.blk rfl rfl rfl rfl rfl rfl rfl rfl rfl rfl rfl (by simp) (by simp [Value.oneCell']) (by omega) (by omega) hM7.size ?_
   intro E ec w8 hown8 hg8 hob8
   refine Ab Aa ?_
   conv=>whnf
   have hpu:=hM7.push (E:=E) (ec:=ec) (u:=u) (w1:=w8)
   rw [hlen2] at hpu
   have hM8:=hpu hown8 hg8 hob8
   have hS8:=hS.down hP hug hi0 hek hinj
   have hcl8:=hS8.cntle
   have hcl9:((s2.enter u).adv A [(u,0)] v1 nx ((s2.enter u).low v1)).cnt=s2.cnt+1:=rfl
   have hpa:((s2.enter u).adv A [(u,0)] v1 nx ((s2.enter u).low v1)).path=A++[(v1,nx+1)]++[(u,0)]:=by
    show A++(v1,nx+1)::[(u,0)]=_
    simp
   refine ⟨((s2.enter u).adv A [(u,0)] v1 nx ((s2.enter u).low v1),.slice E (A.length+1+1) ec),⟨rfl,rfl,trivial⟩,⟨?_,hS8⟩,?_⟩
   ·show SM c O w _ _ ((s2.enter u).adv A [(u,0)] v1 nx ((s2.enter u).low v1)).path w8
    rw [hpa]
    exact hM8.same rfl (H1 _ _) rfl rfl rfl rfl rfl
   ·simp only [hcl9,hpa]
    simp only [List.length_append,List.length_cons,List.length_nil,hcat]
    omega
  ·have hcon:=hM5.onC hun
   by_cases hon:s2.on u=true
   ·(repeat' ((first|refine Aj Aa hbox rfl rfl rfl rfl rfl rfl rfl (Ab Aa ?_)|refine Az Aa rfl rfl rfl rfl rfl rfl hcu (Ab Aa ?_)|refine Az Aa rfl rfl rfl rfl rfl rfl hcon (Ab Aa ?_)|refine Al Aa 3 1 rfl rfl rfl rfl rfl rfl rfl (by omega) (Ab Aa ?_)|refine Al Aa 4 1 rfl rfl rfl rfl rfl rfl rfl (by omega) (Ab Aa ?_)|refine Ah (by first|assumption|omega) ?_|refine Ahy (by assumption) ?_|fail)<;>conv=>whnf))
    have hus:u∈s2.stk:=(hS.inv.on u).1 hon
    have hM5b:=hM5
    obtain ⟨gp2,cap2,cur5,e1,hb5,hl5,_,hc0,hc1⟩:=hM5b.frame
    injection e1 with e1 _ e2
    injection e1 with e1
    injection e1 with e1 _ _
    subst e1 e2
    have hclo:=hM5.lowC (hcn▸hv1:v1<c.n)
    refine Em [0,1,2,3,4,5,6,7,8,9,10,11,12,13,14,15,16,17,18,19,20,21,22,23,24,25] 0 26 (Be _) Aa mixed (by kernel_rfl) (Below.refl _ _) ?_;(conv=>whnf)
    (repeat' (first|(refine Afq rfl rfl rfl rfl rfl rfl rfl rfl (Ad Aa ?_);(conv=>whnf))|(first|refine Bg Aa hbox rfl rfl rfl rfl rfl rfl rfl (Ad Aa ?_)|refine De Aa rfl rfl rfl rfl rfl rfl hc0 (Ad Aa ?_)|refine De Aa rfl rfl rfl rfl rfl rfl hcu (Ad Aa ?_)|refine De Aa rfl rfl rfl rfl rfl rfl hclo (Ad Aa ?_)|refine Dh Aa 3 1 rfl rfl rfl rfl rfl rfl rfl (by omega) (Ad Aa ?_)|fail)<;>conv=>whnf))
    intro w6 hC6 hB6
    conv=>whnf
    have hM6:=hM5.up hB6
    (repeat' ((first|refine Al Aa 3 1 rfl rfl rfl rfl rfl rfl rfl (by omega) (Ab Aa ?_)|fail)<;>conv=>whnf))
    refine Dt (j:=v1*1) (v:=.int .i64 ((min (s2.low v1) (s2.idx u):Nat):Int)) Aa hM6.lowB rfl rfl rfl rfl rfl rfl (by rw [Ox];omega) rfl rfl ?_
    intro w7 hp7
    refine Ab Aa ?_
    conv=>whnf
    rw [Nat.mul_one] at hp7
    exact ⟨(s2.adv A [] v1 nx (min (s2.low v1) (s2.idx u)),nx+1),⟨rfl,rfl,rfl,trivial⟩,⟨(hM6.low hp7).same rfl rfl rfl rfl rfl rfl rfl,hS.adv hP (Nat.min_le_left _ _) (by
     by_cases hmm:s2.low v1<=s2.idx u
     ·exact .inl (Nat.min_eq_left hmm)
     ·exact .inr ⟨u,hus,hek,Nat.min_eq_right (by omega)⟩) (fun q hq=>by rw [hinj q hq];exact ⟨by omega,fun _=>Nat.min_le_right _ _⟩),rfl,hcnt⟩,by omega⟩
   ·have hon':s2.on u=false:=by simpa using hon
    (repeat' ((first|refine Aj Aa hbox rfl rfl rfl rfl rfl rfl rfl (Ab Aa ?_)|refine Az Aa rfl rfl rfl rfl rfl rfl hcu (Ab Aa ?_)|refine Az Aa rfl rfl rfl rfl rfl rfl hcon (Ab Aa ?_)|refine Al Aa 3 1 rfl rfl rfl rfl rfl rfl rfl (by omega) (Ab Aa ?_)|refine Al Aa 4 1 rfl rfl rfl rfl rfl rfl rfl (by omega) (Ab Aa ?_)|refine Ah (by first|assumption|omega) ?_|refine Ah8 (by assumption) ?_|fail)<;>conv=>whnf))
    exact ⟨(s2.adv A [] v1 nx (s2.low v1),nx+1),⟨rfl,rfl,rfl,trivial⟩,⟨hM5.same rfl (H1 _ _) rfl rfl rfl rfl rfl,hS.adv hP (Nat.le_refl _) (.inl rfl) (fun q hq=>by rw [hinj q hq];exact ⟨by omega,fun hs=>absurd ((hS.inv.on u).2 hs) hon⟩),rfl,hcnt⟩,by omega⟩
 ·have hall:∀ k q,EdK g v1 k q->k<nx:=fun k q hq=>by have:=hq.2.2.1;omega
  refine Fo Aa mixed (by kernel_rfl) ?_;conv=>whnf
  (repeat' ((first|refine Bg Aa hbox rfl rfl rfl rfl rfl rfl rfl (Ad Aa ?_)|refine De Aa rfl rfl rfl rfl rfl rfl hc1 (Ad Aa ?_)|refine De Aa rfl rfl rfl rfl rfl rfl hc0 (Ad Aa ?_)|refine De Aa rfl rfl rfl rfl rfl rfl hrow (Ad Aa ?_)|refine Dh Aa 27 1 rfl rfl rfl rfl rfl rfl rfl (by omega) (Ad Aa ?_)|fail)<;>conv=>whnf))
  intro w3 hB3
  conv=>whnf
  have hbox:=Ac hB3 hbox
  have hc0:=Bn hB3 hc0
  have hM3:=hM.up hB3
  (repeat' ((first|refine Az Aa rfl rfl rfl rfl rfl rfl hc0 (Ab Aa ?_)|refine Jk rfl rfl rfl rfl rfl rfl (by omega) (by omega) (Ab Aa ?_)|refine Ah (by first|assumption|omega) ?_|fail)<;>conv=>whnf))
  refine Nm Aa 288 2 (hn':=A.length) (by omega) (by omega) rfl rfl rfl rfl rfl rfl rfl ?_
  refine Ab Aa ?_
  conv=>whnf
  have hMc:=hM3.cutP
  have hv1s:=hS.inv.pstk (show v1∈s2.pn by unfold TS.pn;rw [hP];simp)
  obtain ⟨L,R,hLR,hRv⟩:=hS.inv.cut hv1s
  have hltc:∀ x∈s2.stk,x<c.n:=fun x hx=>by have:=hS.inv.stk_lt x hx;omega
  rcases List.eq_nil_or_concat A with hA|⟨A',⟨u,k⟩,hA⟩
  ·have hAl:A.length=0:=by rw [hA];rfl
   (repeat' ((first|(refine Ah (by first|assumption|omega) ?_)|fail)<;>conv=>whnf))
   have hlast:s2.low v1=s2.idx v1:=hS.inv.last (by rw [hP,hA];rfl)
   have hclo:=hMc.lowC (hcn▸hv1:v1<c.n)
   have hcid:=hMc.idxC (hcn▸hv1:v1<c.n)
   refine Fo Aa mixed (by kernel_rfl) ?_;conv=>whnf
   (repeat' ((first|refine Bg Aa hbox rfl rfl rfl rfl rfl rfl rfl (Ad Aa ?_)|refine De Aa rfl rfl rfl rfl rfl rfl hclo (Ad Aa ?_)|refine De Aa rfl rfl rfl rfl rfl rfl hcid (Ad Aa ?_)|refine Dh Aa 3 1 rfl rfl rfl rfl rfl rfl rfl (by omega) (Ad Aa ?_)|fail)<;>conv=>whnf))
   intro w4 hB4
   conv=>whnf
   (repeat' ((first|(refine Ag (by first|assumption|omega) ?_)|fail)<;>conv=>whnf))
   refine Bv Ap5 ((hMc.up hB4).leaveC A L R v1 hLR hRv hltc (by omega) (by omega) (by omega)) rfl rfl rfl rfl rfl rfl rfl ?_
   rintro _ w5 ⟨rfl,hM5⟩
   refine ⟨_,rfl,Ab Aa ?_⟩
   conv=>whnf
   refine ⟨(s2.leave A L (v1::R) (Hf (v1::R)),.slice (some ⟨gp,0,none⟩) A.length cap),⟨rfl,rfl,trivial⟩,⟨hM5,hS.leave hP hall hlast hLR⟩,?_⟩
   show 2*(g.length - s2.cnt)+A.length<2*(g.length - s1.cnt)+s1.path.length
   rw [hcat,hlen]
   omega
  ·have hA:A=A'++[(u,k)]:=by rw [hA];simp
   have hAl:A.length=A'.length+1:=by rw [hA];simp
   have hP2:s2.path=A'++[(u,k),(v1,nx)]:=by rw [hP,hA];simp
   have hMu:SM c O w s2 (.slice (some ⟨gp,0,none⟩) A.length cap) (A'++[(u,k)]) w3:=by rw [<- hA];exact hMc
   obtain ⟨gp3,cap3,cur3,e1,_,_,_,hd0,hd1⟩:=hMu.frame
   injection e1 with e1 _ e2
   injection e1 with e1
   injection e1 with e1 _ _
   subst e1 e2
   have e6:(((A.length:Nat):Int) - 1).toNat=A'.length:=by omega
   rw [<- e6] at hd0
   (repeat' ((first|refine Az Aa rfl rfl rfl rfl rfl rfl hd0 (Ab Aa ?_)|refine Ni Aa 288 2 rfl rfl rfl rfl rfl rfl rfl (by omega) (by omega) (Ab Aa ?_)|refine Jk rfl rfl rfl rfl rfl rfl (by omega) (by omega) (Ab Aa ?_)|refine Ag (by first|assumption|omega) ?_|fail)<;>conv=>whnf))
   have hup:u∈s2.pn:=by unfold TS.pn;rw [hP2];simp
   have hug:u<g.length:=hS.inv.stk_lt u (hS.inv.pstk hup)
   have hlt:s2.idx u<s2.idx v1:=(hS.inv.plt (A:=A') (v:=u) (nx:=k) (B:=[(v1,nx)]) hP2).2 (v1,nx) (by simp)
   have hne:v1≠u:=fun e=>by rw [e] at hlt;omega
   have hclo:=hMc.lowC (hcn▸hv1:v1<c.n)
   have hclu:=hMc.lowC (hcn▸hug:u<c.n)
   refine Em [0,1,2,3,4,5,6,7,8,9,10,11,12,13,14,15,16,17,18,19] 0 20 (Be _) Aa mixed (by kernel_rfl) (Below.refl _ _) ?_;(conv=>whnf)
   (repeat' (first|(refine Afq rfl rfl rfl rfl rfl rfl rfl rfl (Ad Aa ?_);(conv=>whnf))|(first|refine Bg Aa hbox rfl rfl rfl rfl rfl rfl rfl (Ad Aa ?_)|refine De Aa rfl rfl rfl rfl rfl rfl hclu (Ad Aa ?_)|refine De Aa rfl rfl rfl rfl rfl rfl hclo (Ad Aa ?_)|refine Dh Aa 3 1 rfl rfl rfl rfl rfl rfl rfl (by omega) (Ad Aa ?_)|fail)<;>conv=>whnf))
   intro w4 hC4 hB4
   conv=>whnf
   have hM4:=hMc.up hB4
   (repeat' ((first|refine Al Aa 3 1 rfl rfl rfl rfl rfl rfl rfl (by omega) (Ab Aa ?_)|fail)<;>conv=>whnf))
   refine Dt (j:=u*1) (v:=.int .i64 ((min (s2.low u) (s2.low v1):Nat):Int)) Aa hM4.lowB rfl rfl rfl rfl rfl rfl (by rw [Ox];omega) rfl rfl ?_
   intro w5 hp5
   refine Ab Aa ?_
   conv=>whnf
   rw [Nat.mul_one] at hp5
   have hM5:=hM4.low hp5
   obtain ⟨vk3,vn3,hbox⟩:=hM5.box
   unfold Mo at hbox
   have hcid:w5.cell? ((⟨c.gi,0,none⟩:Addr).add (v1*1))=some (.int .i64 (s2.idx v1:Int)):=hM5.idxC (hcn▸hv1:v1<c.n)
   have hcl5:=hM5.lowC (hcn▸hv1:v1<c.n)
   have elo:(Bf s2.low u (min (s2.low u) (s2.low v1))) v1=s2.low v1:=C1 _ _ hne
   simp only [elo] at hcl5
   by_cases hlw:s2.low v1=s2.idx v1
   ·refine Fo Aa mixed (by kernel_rfl) ?_;conv=>whnf
    (repeat' ((first|refine Bg Aa hbox rfl rfl rfl rfl rfl rfl rfl (Ad Aa ?_)|refine De Aa rfl rfl rfl rfl rfl rfl hcl5 (Ad Aa ?_)|refine De Aa rfl rfl rfl rfl rfl rfl hcid (Ad Aa ?_)|refine Dh Aa 3 1 rfl rfl rfl rfl rfl rfl rfl (by omega) (Ad Aa ?_)|fail)<;>conv=>whnf))
    intro w6 hB6
    conv=>whnf
    (repeat' ((first|(refine Ag (by first|assumption|omega) ?_)|fail)<;>conv=>whnf))
    have hlu:=(hS.inv.j3 u hup).1
    have hmin:min (s2.low u) (s2.low v1)=s2.low u:=by omega
    have hM6:SM c O w s2 (.slice (some ⟨gp,0,none⟩) A.length cap) A w6:=(hM5.up hB6).same rfl (by rw [hmin];exact (H1 _ _).symm) rfl rfl rfl rfl rfl
    refine Bv Ap5 (hM6.leaveC A L R v1 hLR hRv hltc (by omega) (by omega) (by omega)) rfl rfl rfl rfl rfl rfl rfl ?_
    rintro _ w7 ⟨rfl,hM7⟩
    refine ⟨_,rfl,Ab Aa ?_⟩
    conv=>whnf
    refine ⟨(s2.leave A L (v1::R) (Hf (v1::R)),.slice (some ⟨gp,0,none⟩) A.length cap),⟨rfl,rfl,trivial⟩,⟨hM7,hS.leave hP hall hlw hLR⟩,?_⟩
    show 2*(g.length - s2.cnt)+A.length<2*(g.length - s1.cnt)+s1.path.length
    rw [hcat,hlen]
    omega
   ·refine Fo Aa mixed (by kernel_rfl) ?_;conv=>whnf
    (repeat' ((first|refine Bg Aa hbox rfl rfl rfl rfl rfl rfl rfl (Ad Aa ?_)|refine De Aa rfl rfl rfl rfl rfl rfl hcl5 (Ad Aa ?_)|refine De Aa rfl rfl rfl rfl rfl rfl hcid (Ad Aa ?_)|refine Dh Aa 3 1 rfl rfl rfl rfl rfl rfl rfl (by omega) (Ad Aa ?_)|fail)<;>conv=>whnf))
    intro w6 hB6
    conv=>whnf
    (repeat' ((first|(refine Ah (by first|assumption|omega) ?_)|fail)<;>conv=>whnf))
    have hpp:(s2.pop A' u k (min (s2.low u) (s2.low v1))).path=A:=by rw [hA];rfl
    refine ⟨(s2.pop A' u k (min (s2.low u) (s2.low v1)),.slice (some ⟨gp,0,none⟩) A.length cap),⟨rfl,rfl,trivial⟩,⟨?_,hS.pop hP2 hall hlw⟩,?_⟩
    ·show SM c O w _ _ (s2.pop A' u k (min (s2.low u) (s2.low v1))).path w6
     rw [hpp]
     exact (hM5.up hB6).same rfl rfl rfl rfl rfl rfl rfl
    ·show 2*(g.length - s2.cnt)+(s2.pop A' u k (min (s2.low u) (s2.low v1))).path.length<2*(g.length - s1.cnt)+s1.path.length
     rw [hpp,hcat,hlen]
     omega
def ofI (n:Nat)(f:Nat->Nat):List Int:=(List.range n).map fun v=>(f v:Int)
theorem Rn (n:Nat)(f:Nat->Nat):(ofI n f).length=n:=by simp [ofI]
theorem Z0 {n v:Nat}(f:Nat->Nat)(h:v<n):(ofI n f)[v]! = (f v:Int):=by
 rw [getElem!_pos _ v (by rw [Rn];exact h)]
 simp [ofI]
theorem Avq (n:Nat)(f:Nat->Nat):fI n f=vi ((List.range n).map f):=by simp [fI,vi,List.map_map,Function.comp_def]
theorem Ra (n:Nat):(List.replicate n [Value.int .i64 0]).flatten=fI n fun _=>0:=by
 induction n with
 |zero=>rfl
 |succ n ih=>
  have e:fI (n+1) (fun _=>0)=fI n (fun _=>0)++[Value.int .i64 0]:=by simp [fI,List.range_succ]
  rw [e,<- ih,List.replicate_succ']
  simp
theorem Alk (n:Nat):(List.replicate n [Value.bool false]).flatten=fB n fun _=>false:=by
 induction n with
 |zero=>rfl
 |succ n ih=>
  have e:fB (n+1) (fun _=>false)=fB n (fun _=>false)++[Value.bool false]:=by simp [fB,List.range_succ]
  rw [e,<- ih,List.replicate_succ']
  simp
def Tx (c:KC):Nat->Nat:=fun b=>if b<c.base then 99 else if b=c.gT then 0 else if b=c.gi then 1 else if b=c.gl then 2 else if b=c.gn then 3 else if b=c.go then 4 else 8
theorem ks0 {c:KC}{w:World}(hT:w.heap[c.gT]?=some (.cells (Mo c TS.init (.slice none 0 0) (.slice none 0 0)).toArray 251 (0,0)))(hi:w.heap[c.gi]?=some (.cells (fI c.n fun _=>0).toArray 3 (0,0)))
  (hl:w.heap[c.gl]?=some (.cells (fI c.n fun _=>0).toArray 3 (0,0))) (hn:w.heap[c.gn]?=some (.cells (fB c.n fun _=>false).toArray 4 (0,0))) (ho:w.heap[c.go]?=some (.cells (fI c.n fun _=>0).toArray 3 (0,0)))
  (gT:c.base<=c.gT) (gi:c.base<=c.gi) (gl:c.base<=c.gl) (gn:c.base<=c.gn) (go:c.base<=c.go)
  (d1:c.gi≠c.gT) (d2:c.gl≠c.gT) (d3:c.gn≠c.gT) (d4:c.go≠c.gT) (d5:c.gl≠c.gi) (d6:c.gn≠c.gi) (d7:c.go≠c.gi) (d8:c.gn≠c.gl) (d9:c.go≠c.gl) (d10:c.go≠c.gn):KS c (Tx c) w TS.init (.slice none 0 0) (.slice none 0 0):=by
 refine ⟨fun j=>?_,fun b hb=>if_pos hb,Nat.le_trans gT (Nat.le_of_lt (Ae hT))⟩
 have n1:¬ c.gT<c.base:=by omega
 have n2:¬ c.gi<c.base:=by omega
 have n3:¬ c.gl<c.base:=by omega
 have n4:¬ c.gn<c.base:=by omega
 have n5:¬ c.go<c.base:=by omega
 match j with
 |0=>exact ⟨[c.gT],by simpa [Tx,n1] using Ae hT,fun w' hw=>⟨rfl,(hw c.gT (by simp)).trans hT⟩⟩
 |1=>exact ⟨[c.gi],by simpa [Tx,n2,d1] using Ae hi,fun w' hw=>⟨rfl,(hw c.gi (by simp)).trans hi⟩⟩
 |2=>exact ⟨[c.gl],by simpa [Tx,n3,d2,d5] using Ae hl,fun w' hw=>⟨rfl,(hw c.gl (by simp)).trans hl⟩⟩
 |3=>exact ⟨[c.gn],by simpa [Tx,n4,d3,d6,d8] using Ae hn,fun w' hw=>⟨rfl,(hw c.gn (by simp)).trans hn⟩⟩
 |4=>exact ⟨[c.go],by simpa [Tx,n5,d4,d7,d9,d10] using Ae ho,fun w' hw=>⟨rfl,(hw c.go (by simp)).trans ho⟩⟩
 |5=>exact ⟨[],by simp,fun w' hw=>⟨rfl,F6 ..⟩⟩
 |6=>exact ⟨[],by simp,fun w' hw=>⟨[],rfl,GRow.nil ..⟩⟩
 |j+7=>exact ⟨[],by simp,fun _ _=>trivial⟩
structure Knots (g:List (List Int))(w w':World)(e:Ending):Prop where
 ex:∃ kn of An cn go,e=.returned (.tuple #[.slice An kn.length cn,.slice (some ⟨go,0,none⟩) g.length g.length])/\KnOk g kn of/\RRows w' An (Tm kn)/\kn.length<=cn/\RI w' (some ⟨go,0,none⟩) (ofI g.length of)
 below:Below w.heap.size w w'
theorem Aoy (g:List (List Int))(A:Option Addr)(cc:Nat)(w:World)(hr:RRows w A g)(hn:g.length<=1000000) :
  Calls Tryz.prog 118 #[.slice A g.length cc] w fun e w'=>Knots g w w' e:=by
 obtain ⟨n,hgn⟩:∃ n,n=g.length:=⟨_,rfl⟩
 rw [<- hgn] at hn ⊢
 refine A9 (args:=[.slice A n cc]) Aa Tryz.func118 rfl Tryz.ntmps118 rfl ?_;conv=>whnf
 refine Jv (X:=KC) (fun c=>[(4,.pointer (some ⟨c.gT,0,none⟩)),(0,.slice A n cc)])
  (fun c W=>Below w.heap.size w W/\c.n=n/\c.A=A/\c.c=cc/\c.base=w.heap.size/\KS c (Tx c) W TS.init (.slice none 0 0) (.slice none 0 0)) ?_ ?_
 ·refine Em [0,1,2,4,5,7,8,10,11] 4 13 (Be _) Aa mixed (by kernel_rfl) (Below.refl _ _) ?_;(conv=>whnf)
  skip
  intro w1 hC hB1
  clear hB1
  conv=>whnf
  repeat' (first|exact True.intro|(refine And.intro ?_ ?_<;>(conv=>whnf))|(refine L7 (m:=n) (d:=9) Aa 3 1 8 rfl rfl rfl rfl rfl rfl rfl rfl (by omega) (by omega) ?_;intro g3 v3 n3;(try (have d3_6:g3≠g6:=(by (have:=Ae f6;have:=n3.at_;omega))));(try (have d3_9:g3≠g9:=(by (have:=Ae f9;have:=n3.at_;omega))));(try (have d3_12:g3≠g12:=(by (have:=Ae f12;have:=n3.at_;omega))));have b3:w.heap.size<=g3:=(by (have:=n3.at_;have:=hC.size;omega));have f3:=n3.blk;refine ⟨Ax hC n3.below,fun W hW hC=>?_⟩;have f3:=Ac hW f3;(try (have f6:=Ac (Ax n3.below hW) f6));(try (have f9:=Ac (Ax n3.below hW) f9));(try (have f12:=Ac (Ax n3.below hW) f12));clear hW n3;(conv=>whnf))|(refine L7 (m:=n) (d:=12) Aa 3 1 8 rfl rfl rfl rfl rfl rfl rfl rfl (by omega) (by omega) ?_;intro g6 v6 n6;(try (have d3_6:g3≠g6:=(by (have:=Ae f3;have:=n6.at_;omega))));(try (have d6_9:g6≠g9:=(by (have:=Ae f9;have:=n6.at_;omega))));(try (have d6_12:g6≠g12:=(by (have:=Ae f12;have:=n6.at_;omega))));have b6:w.heap.size<=g6:=(by (have:=n6.at_;have:=hC.size;omega));have f6:=n6.blk;refine ⟨Ax hC n6.below,fun W hW hC=>?_⟩;have f6:=Ac hW f6;(try (have f3:=Ac (Ax n6.below hW) f3));(try (have f9:=Ac (Ax n6.below hW) f9));(try (have f12:=Ac (Ax n6.below hW) f12));clear hW n6;(conv=>whnf))|(refine L7 (m:=n) (d:=15) Aa 4 1 1 rfl rfl rfl rfl rfl rfl rfl rfl (by omega) (by omega) ?_;intro g9 v9 n9;(try (have d3_9:g3≠g9:=(by (have:=Ae f3;have:=n9.at_;omega))));(try (have d6_9:g6≠g9:=(by (have:=Ae f6;have:=n9.at_;omega))));(try (have d9_12:g9≠g12:=(by (have:=Ae f12;have:=n9.at_;omega))));have b9:w.heap.size<=g9:=(by (have:=n9.at_;have:=hC.size;omega));have f9:=n9.blk;refine ⟨Ax hC n9.below,fun W hW hC=>?_⟩;have f9:=Ac hW f9;(try (have f3:=Ac (Ax n9.below hW) f3));(try (have f6:=Ac (Ax n9.below hW) f6));(try (have f12:=Ac (Ax n9.below hW) f12));clear hW n9;(conv=>whnf))|(refine L7 (m:=n) (d:=18) Aa 3 1 8 rfl rfl rfl rfl rfl rfl rfl rfl (by omega) (by omega) ?_;intro g12 v12 n12;(try (have d3_12:g3≠g12:=(by (have:=Ae f3;have:=n12.at_;omega))));(try (have d6_12:g6≠g12:=(by (have:=Ae f6;have:=n12.at_;omega))));(try (have d9_12:g9≠g12:=(by (have:=Ae f9;have:=n12.at_;omega))));have b12:w.heap.size<=g12:=(by (have:=n12.at_;have:=hC.size;omega));have f12:=n12.blk;refine ⟨Ax hC n12.below,fun W hW hC=>?_⟩;have f12:=Ac hW f12;(try (have f3:=Ac (Ax n12.below hW) f3));(try (have f6:=Ac (Ax n12.below hW) f6));(try (have f9:=Ac (Ax n12.below hW) f9));clear hW n12;(conv=>whnf))|(refine Uq Aa rfl rfl rfl ?_;refine ⟨hC,fun W hW hC=>?_⟩;(try (have f3:=Ac (hW) f3));(try (have f6:=Ac (hW) f6));(try (have f9:=Ac (hW) f9));(try (have f12:=Ac (hW) f12));clear hW;(conv=>whnf)))
  all_goals
   refine Ci rfl rfl rfl rfl rfl rfl ?_
   intro gT wz hz
   refine Ab Aa ?_
   conv=>whnf
   have hgT:=hz.at_
   have hsz:=hC.size
   have l3:=Ae f3
   have l6:=Ae f6
   have l9:=Ae f9
   have l12:=Ae f12
   exact ⟨⟨n,A,cc,gT,g3,g6,g9,g12,w.heap.size⟩,⟨rfl,rfl,trivial⟩,hz.up hC,rfl,rfl,rfl,rfl,ks0 hz.blk ((hz.old f3).trans (by rw [<- Ra];rfl)) ((hz.old f6).trans (by rw [<- Ra];rfl)) ((hz.old f9).trans (by rw [<- Alk];rfl)) ((hz.old f12).trans (by rw [<- Ra];rfl)) (by show w.heap.size<=gT;omega) b3 b6 b9 b12
    (by show g3≠gT;omega) (by show g6≠gT;omega) (by show g9≠gT;omega) (by show g12≠gT;omega) d3_6.symm d3_9.symm d3_12.symm d6_9.symm d6_12.symm d9_12.symm⟩
 ·rintro ⟨n',A',cc',gT,gi,gl,gn,go,base⟩ G w1 ⟨hB1,rfl,rfl,rfl,rfl,hK⟩
  conv=>whnf
  skip
  have hlow0:=hK.low
  have hsz0:=hK.sz
  obtain ⟨c,hc⟩:∃ c,c=KC.mk n' A' cc' gT gi gl gn go w.heap.size:=⟨_,rfl⟩
  rw [<- hc] at hK
  have hcn:c.n=n':=by rw [hc]
  have hcg:c.n=g.length:=by rw [hcn];exact hgn
  have hcT:c.gT=gT:=by rw [hc]
  have hcb:c.base=w.heap.size:=by rw [hc]
  have hcA:c.A=A':=by rw [hc]
  have hcc:c.c=cc':=by rw [hc]
  refine Am Aa (X:=Nat×TS) (fun x=>[(4,.pointer (some ⟨c.gT,0,none⟩)),(22,.int .i64 (n':Int)),(23,.int .i64 (x.1:Int))]) (fun x wr=>x.1<=n'/\Below w.heap.size w wr/\(∃ O vk vn,KS c O wr x.2 vk vn)/\TInv g x.2/\x.2.path=[]/\x.2.cnt=Y4 g.length x.2.idx/\∀ y,y<x.1->0<x.2.idx y) (fun x=>n' - x.1) (0,TS.init) ⟨by rw [hcT];rfl,rfl,rfl,trivial⟩ ⟨by omega,hB1,⟨_,_,_,hK⟩,TInv.init g,rfl,(Z7 _).symm,fun y hy=>absurd hy (Nat.not_lt_zero y)⟩ ?_
  clear hB1 hK
  rintro ⟨i,s⟩ G2 wr ⟨hi,hB,⟨O,vk,vn,hK⟩,hI,hp,hcnt,hall⟩
  simp only at hi hB hK hI hp hcnt hall
  conv=>whnf
  have hbox:=hK.box.1
  unfold Mo at hbox
  by_cases hlt:i<n'
  ·have hcell:wr.cell? ((⟨c.gi,0,none⟩:Addr).add (i*1))=some (.int .i64 (s.idx i:Int)):=by
    rw [Nat.mul_one,add_zero]
    exact Au hK.bi.1 (by simpa using Ub (by omega))
   by_cases h0:s.idx i=0
   ·(repeat' ((first|refine Aj Aa hbox rfl rfl rfl rfl rfl rfl rfl (Ab Aa ?_)|refine Az Aa rfl rfl rfl rfl rfl rfl hcell (Ab Aa ?_)|refine Al Aa 3 1 rfl rfl rfl rfl rfl rfl rfl (by omega) (Ab Aa ?_)|(refine Ag (by first|assumption|omega) ?_)|fail)<;>conv=>whnf))
    refine Bv Az3 (Aiy hK hI hp hcg hcnt (fun w' hB'=>by rw [hcA];exact hr.up Bz (hB.trans (by rw [hcb] at hB';exact hB'))) (by omega) i (by omega) h0) rfl rfl rfl rfl rfl rfl rfl ?_
    rintro _ w5 ⟨rfl,O1,vk1,vn1,s1,hK1,hst1,hS1,hp1⟩
    refine ⟨_,rfl,Ab Aa ?_⟩
    conv=>whnf
    (repeat' ((first|refine Af rfl rfl rfl rfl rfl rfl (by omega) (by omega) (Ab Aa ?_)|fail)<;>conv=>whnf))
    refine ⟨(i+1,s1),⟨rfl,rfl,rfl,trivial⟩,⟨by omega,?_,⟨O1,vk1,vn1,hK1⟩,hS1.inv,hp1,hS1.cnt,fun y hy=>?_⟩,by omega⟩
    ·have:=hst1.below hK.low hK.sz
     rw [hcb] at this
     exact hB.trans this
    ·have hy:y<i+1:=hy
     by_cases e:y=i
     ·rw [e];exact hS1.at_
     ·exact hS1.le y (hall y (by omega))
   ·(repeat' ((first|refine Aj Aa hbox rfl rfl rfl rfl rfl rfl rfl (Ab Aa ?_)|refine Az Aa rfl rfl rfl rfl rfl rfl hcell (Ab Aa ?_)|refine Al Aa 3 1 rfl rfl rfl rfl rfl rfl rfl (by omega) (Ab Aa ?_)|refine Af rfl rfl rfl rfl rfl rfl (by omega) (by omega) (Ab Aa ?_)|refine Ag (by first|assumption|omega) ?_|refine Ah (by first|assumption|omega) ?_|fail)<;>conv=>whnf))
    exact ⟨(i+1,s),⟨rfl,rfl,rfl,trivial⟩,⟨by omega,hB,⟨O,vk,vn,hK⟩,hI,hp,hcnt,fun y hy=>by
     have hy:y<i+1:=hy
     show 0<s.idx y
     by_cases e:y=i
     ·rw [e];omega
     ·exact hall y (by omega)⟩,by omega⟩
  ·obtain ⟨bs,hkg,_,_⟩:=hK.knots
   obtain ⟨An,cn,evn,hcn2,hrk⟩:=hkg.row
   subst evn
   have hkl:(Tm s.kn).length=s.kn.length:=by simp [Tm]
   (repeat' ((first|(refine Ah (by first|assumption|omega) ?_)|fail)<;>conv=>whnf))
   refine Fo Aa mixed (by kernel_rfl) ?_;conv=>whnf
   (repeat' ((first|refine Bg Aa hbox rfl rfl rfl rfl rfl rfl rfl (Ad Aa ?_)|fail)<;>conv=>whnf))
   intro w6 hB6
   conv=>whnf
   have hin:i=g.length:=by omega
   have hD:=hI.done hp (fun v hv=>hall v (by omega))
   have hof:=hK.bo.1
   rw [Avq] at hof
   have hofR:=Fq hof (My (w:=wr) (fun x hx=>by
    obtain ⟨v,hv,rfl⟩:=List.mem_map.1 hx
    have:=(hD.at_ v (by have:=List.mem_range.1 hv;omega)).1
    have:=hI.kn_le
    omega)) (by simp;omega)
   refine Yp rfl rfl rfl ⟨⟨s.kn,s.of,An,cn,c.go,?_,hD,hrk.up Bz hB6,by omega,?_⟩,Ax hB hB6⟩
   ·rw [hkl,hcg]
   ·have e:ofI g.length s.of=((List.range c.n).map s.of).map fun (x:Nat)=>(x:Int):=by simp [ofI,hcg,List.map_map,Function.comp_def]
    rw [e]
    exact hofR.up (Bj _) hB6
theorem Rt (kn:List (List Nat)):(Tm kn).length=kn.length:=by simp [Tm]
theorem Af6 {kn:List (List Nat)}{k:Nat}(h:k<kn.length):(Tm kn)[k]! = (kn[k]!).map fun (x:Nat)=>(x:Int):=by
 rw [getElem!_pos _ k (by rw [Rt];exact h),getElem!_pos kn k h]
 simp [Tm]
theorem R4 {l:List Nat}{i:Nat}(h:i<l.length):(l.map fun (x:Nat)=>(x:Int))[i]! = (l[i]!:Int):=by
 rw [getElem!_pos _ i (by simpa using h),getElem!_pos l i h]
 simp
theorem Wk:∀ {a b:List Nat},a.Pairwise (·<·)->b.Pairwise (·<·)->(∀ x,x∈a↔x∈b)->a=b
 |[],[],_,_,_=>rfl
 |[],y::b,_,_,h=>by have:=(h y).2 (by simp);cases this
 |x::a,[],_,_,h=>by have:=(h x).1 (by simp);cases this
 |x::a,y::b,ha,hb,h=>by
  rw [List.pairwise_cons] at ha hb
  have hxy:x=y:=by
   rcases List.mem_cons.1 ((h x).1 (by simp)) with e|h1
   ·exact e
   ·rcases List.mem_cons.1 ((h y).2 (by simp)) with e|h2
    ·exact e.symm
    ·have:=ha.1 y h2
     have:=hb.1 x h1
     omega
  subst hxy
  congr 1
  refine Wk ha.2 hb.2 fun z=>?_
  constructor
  ·intro hz
   have:=ha.1 z hz
   rcases List.mem_cons.1 ((h z).1 (by simp [hz])) with e|h1
   ·omega
   ·exact h1
  ·intro hz
   have:=hb.1 z hz
   rcases List.mem_cons.1 ((h z).2 (by simp [hz])) with e|h1
   ·omega
   ·exact h1
end Go.Proofs.YtghmdfegfehhkaaGreatDoor
