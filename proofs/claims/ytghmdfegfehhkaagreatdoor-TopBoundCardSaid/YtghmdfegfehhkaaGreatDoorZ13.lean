/- Several texts of one claim in one file, made short: SL16 SK16 KL16 KP16 KX16 SE16. -/
import Derived.Test.YtghmdfegfehhkaaGreatDoorZ12
import Derived.Test.YtghmdfegfehhkaaGreatDoorZ4
import Derived.Test.YtghmdfegfehhkaaGreatDoorZ5
import Derived.Scope
set_option maxRecDepth 100000
set_option maxHeartbeats 64000000
set_option linter.unusedVariables false
set_option linter.unusedSimpArgs false
namespace Go.Proofs.YtghmdfegfehhkaaGreatDoor
open Go.RowKit
theorem My {w:World}{xs:List Nat}(h:∀ x∈xs,(x:Int)<=9223372036854775807):Elems 1 (dI .i64) w (vi xs) (xs.map fun (x:Nat)=>(x:Int)):=by
 refine ⟨by simp [vi],fun i hi=>?_⟩
 have hi':i<xs.length:=by simpa using hi
 have e1:((vi xs).drop (i*1)).take 1=[.int .i64 (xs[i]:Int)]:=by
  rw [Nat.mul_one,List.drop_eq_getElem_cons (by simpa [vi] using hi')]
  simp [vi]
 have e2:(xs.map fun (x:Nat)=>(x:Int))[i]! = (xs[i]:Int):=by
  rw [getElem!_pos _ i hi]
  simp
 rw [e1,e2]
 have:=h xs[i] (List.getElem_mem hi')
 exact ⟨rfl,by show (-9223372036854775808:Int)<=_;omega,by show _<=(9223372036854775807:Int);omega⟩
theorem Al9 {w:World}{news:List Value}{xs:List Nat}(h:Elems 1 (dI .i64) w news (xs.map fun (x:Nat)=>(x:Int))):news=vi xs:=by
 have h1:news.length=xs.length:=by simpa using h.1
 refine List.ext_getElem (by simp [vi,h1]) fun i i1 i2=>?_
 have hi:i<(xs.map fun (x:Nat)=>(x:Int)).length:=by simp;omega
 have h3:=(h.2 i hi).1
 rw [Nat.mul_one,List.drop_eq_getElem_cons i1,getElem!_pos _ i hi] at h3
 have h3:[news[i]]=_:=h3
 injection h3 with h3 _
 rw [h3]
 simp [vi]
theorem Hz {w w':World}{base:Nat}{e:TypeId}{sz n:Nat}{v:Value}{xs:List Value}(h:w.ownsRow base e sz v n xs)(hb:∀ b∈v.ownBlock.toList,w'.heap[b]?=w.heap[b]?):w'.ownsRow base e sz v n xs:=by
 refine ⟨h.1,h.2.imp id ?_⟩
 rintro ⟨g,cap,cur,h4,h5,h6,h7⟩
 refine ⟨g,cap,cur,h4,h5,?_,h7⟩
 rw [hb g (by rw [h4];simp [Value.ownBlock])]
 exact h6
theorem Tu {w:World}{base:Nat}{e:TypeId}{sz n m cap g:Nat}{xs ys:List Value}(h:w.ownsRow base e sz (.slice (some ⟨g,0,none⟩) n cap) n xs)(hm:m<=n)(hl:ys.length=m*sz)(hy:xs.take (m*sz)=ys):w.ownsRow base e sz (.slice (some ⟨g,0,none⟩) m cap) m ys:=by
 refine ⟨hl,.inr ?_⟩
 rcases h.2 with ⟨h0,_⟩|⟨g',cap',cur,hv,hg,hb,hn,hcap,hs,htk⟩
 ·cases h0
 ·injection hv with e1 e2 e3
  injection e1 with e1
  injection e1 with e1 _ _
  subst e1 e3
  refine ⟨g,cap,cur,rfl,hg,hb,by omega,hcap,hs,?_⟩
  rw [<- hy,<- htk,List.take_take,Nat.min_eq_left (Nat.mul_le_mul_right _ hm)]
def kLv (s:TS)(L T:List Nat)(i:Nat):TS:={ s with stk:=L,on:=(T.take i).foldl (fun f x=>Bf f x false) s.on,of:=(T.take i).foldl (fun f x=>Bf f x s.kn.length) s.of }
theorem GRow.agree {α:Type}[Inhabited α]{sz:Nat}{d:Dec α}{e:TypeId}{base:Nat}{w w':World}{v:Value}{xs:List α}{bs:List Nat}(h:GRow sz d e base w v xs bs)(hb:∀ b∈bs++v.ownBlock.toList,w'.heap[b]?=w.heap[b]?):GRow sz d e base w' v xs bs:=by
 obtain ⟨flat,h1,h2⟩:=h.own
 refine ⟨⟨flat,Hz h1 (fun b hb'=>hb b (by simp [hb'])),fun w2 hw2=>h2 w2 fun b hb'=>(hw2 b hb').trans (hb b (by simp [hb']))⟩,fun b hb'=>⟨(h.lt b hb').1,?_⟩,h.ne⟩
 have h3:=hb b (by simp [hb'])
 have h4:=(h.lt b hb').2
 rw [Array.getElem?_eq_getElem h4] at h3
 exact (Array.getElem?_eq_some_iff.1 h3).1
def kLf (c:KC)(s:TS)(bs:List Nat)(base:Nat)(vn vl:Value)(T:List Nat):List Nat->World->Prop:=fun fp w=>fp=vn.ownBlock.toList++bs++vl.ownBlock.toList/\GRow 1 H5 27 c.base w vn (Tm s.kn) bs/\w.ownsRow base 3 1 vl (T.map fun (x:Nat)=>(x:Int)).length (vi T)
theorem At1 {c:KC}{O:Nat->Nat}{w:World}{s:TS}{vk vn:Value}(h:KS c O w s vk vn)(A:List (Nat×Nat))(L R:List Nat)(v:Nat)(hs:s.stk=L++v::R)(hR:v∉R)(hlt:∀ x∈s.stk,x<c.n)(hst:s.stk.length<1099511627776)(hkn:s.kn.length<1099511627776)(hn:c.n<=9223372036854775807) :
  Calls Tryz.prog 189 #[.pointer (some ⟨c.gT,0,none⟩),.int .i64 (v:Int)] w fun e w'=>e=.returned (.tuple #[])/\∃ O1 vk1 vn1,KS c O1 w' (s.leave A L (v::R) (Hf (v::R))) vk1 vn1/\Stp O O1 w w':=by
 obtain ⟨hb,hbO⟩:=h.box
 obtain ⟨ho,hoO⟩:=h.bn
 obtain ⟨hf,hfO⟩:=h.bo
 obtain ⟨hk,hkO⟩:=h.stack
 have hsl:s.stk.length=L.length+1+R.length:=by rw [hs];simp;omega
 obtain ⟨g5,cap,hvk⟩:∃ g5 cap,vk=.slice (some ⟨g5,0,none⟩) s.stk.length cap:=by
  rcases hk.2 with ⟨h0,h1⟩|⟨g,cap,cur,hv,_⟩
  ·omega
  ·exact ⟨g,cap,hv⟩
 subst hvk
 have hcell:∀ i,i<s.stk.length->w.cell? ((⟨g5,0,none⟩:Addr).add (i*1))=some (.int .i64 (s.stk[i]!:Int)):=fun i hi=>by
  rw [Nat.mul_one,add_zero,hk.cellAt i (by omega),getElem!_pos _ i hi]
  simp [vi,hi]
 obtain ⟨An,cn,hvn1⟩:∃ An cn,vn=.slice An s.kn.length cn:=by
  obtain ⟨bs,hkg,_,_⟩:=h.knots
  obtain ⟨An,cn,e,_,_⟩:=hkg.row
  exact ⟨An,cn,by rw [e];simp [Tm]⟩
 subst hvn1
 have hb':=hb
 unfold Mo at hb'
 refine A9 (args:=[.pointer (some ⟨c.gT,0,none⟩),.int .i64 (v:Int)]) Aa Tryz.func189 rfl Tryz.ntmps189 rfl ?_;conv=>whnf
 (repeat' ((first|refine Aj Aa hb' rfl rfl rfl rfl rfl rfl rfl (Ab Aa ?_)|refine Jk rfl rfl rfl rfl rfl rfl (by omega) (by omega) (Ab Aa ?_)|fail)<;>conv=>whnf))
 have hrow:RowR 1 (dI .i64) w (some ⟨g5,0,none⟩) (s.stk.map fun (x:Nat)=>(x:Int)):=by
  obtain ⟨A',c',e,_,hr⟩:=Dp hk (by simp) (My (w:=w) fun x hx=>by have:=hlt x hx;omega)
  injection e with e _ _
  rw [e]
  exact hr
 have hcl:s.stk.length<=cap:=by
  rcases hk.2 with ⟨h0,h1⟩|⟨g,cap',cur,hv,_,_,hle,_⟩
  ·omega
  ·injection hv with _ _ e
   omega
 have hv0:s.stk[L.length]! = v:=by rw [getElem!_pos s.stk L.length (by omega)];simp [hs]
 have hvn:∀ i,L.length<i->i<s.stk.length->s.stk[i]! ≠ v:=fun i h1 h2 e=>by
  apply hR
  rw [getElem!_pos s.stk i h2] at e
  have e3:s.stk[i]=(L++v::R)[i]'(by rw [<- hs];exact h2):=by simp only [hs]
  rw [e3,List.getElem_append_right (by omega),List.getElem_cons,dif_neg (by omega)] at e
  rw [<- e]
  exact List.getElem_mem _
 refine Am Aa (X:=Int) (fun k=>[(0,.pointer (some ⟨c.gT,0,none⟩)),(1,.int .i64 (v:Int)),(4,.int .i64 k)]) (fun k wr=>((L.length:Int)<=k/\k<s.stk.length)/\wr=w) (fun k=>k.toNat) ((s.stk.length:Int) - 1) ⟨rfl,rfl,rfl,trivial⟩ ⟨⟨by omega,by omega⟩,rfl⟩ ?_
 rintro k G wr ⟨⟨hk1,hk2⟩,rfl⟩
 conv=>whnf
 have f0:=hcell k.toNat (by omega)
 by_cases hkL:k=(L.length:Int)
 ·have hsv:(s.stk[k.toNat]!:Int)=v:=by rw [hkL,Int.toNat_natCast,hv0]
  subst hkL
  (repeat' ((first|refine Aj Aa hb' rfl rfl rfl rfl rfl rfl rfl (Ab Aa ?_)|refine Az Aa rfl rfl rfl rfl rfl rfl f0 (Ab Aa ?_)|refine Ni Aa 3 1 rfl rfl rfl rfl rfl rfl rfl (by omega) (by omega) (Ab Aa ?_)|(refine Ah (by first|assumption|omega) ?_)|fail)<;>conv=>whnf))
  refine K4 Aa 3 1 (hn':=L.length) rfl rfl rfl rfl (by omega) rfl rfl rfl rfl rfl rfl rfl ?_
  refine Ab Aa ?_
  conv=>whnf
  have hdr:=hrow.drop L.length cap (by simpa using hcl)
  have hdl:(s.stk.map fun (x:Nat)=>(x:Int)).drop L.length=(v::R).map fun (x:Nat)=>(x:Int):=by rw [<- List.map_drop,hs,List.drop_left]
  rw [hdl] at hdr
  have hll:s.stk.length - L.length=((v::R).map fun (x:Nat)=>(x:Int)).length:=by simp;omega
  rw [hll]
  refine Q0 Aa 3 1 8 (base:=wr.heap.size) (F6 ..) hdr (Afz _) rfl rfl rfl rfl rfl rfl rfl rfl rfl rfl rfl (by simp;omega) (by simp;omega) (Nat.le_refl _) ?_
  intro A5 c5 w5 news hel hown hg5 hob
  rw [Nat.zero_add,List.nil_append] at hown
  rw [Nat.zero_add (List.map (fun (x:Nat)=>(x:Int)) (v::R)).length] at hob ⊢
  have hB5:Below wr.heap.size wr w5:=Jd hg5
  have hnews:news=vi (v::R):=Al9 hel
  subst hnews
  have hb5:=Ac hB5 hb'
  refine Ab Aa ?_
  conv=>whnf
  (repeat' ((first|refine Aj Aa hb5 rfl rfl rfl rfl rfl rfl rfl (Ab Aa ?_)|fail)<;>conv=>whnf))
  refine Nm Aa 3 1 (hn':=L.length) rfl (by omega) rfl rfl rfl rfl rfl rfl rfl ?_
  refine Ab Aa ?_
  conv=>whnf
  refine Dd (off:=4) (v:=.slice (some ⟨g5,0,none⟩) L.length cap) Aa hb5 rfl rfl rfl rfl rfl rfl (by simp) rfl rfl ?_
  intro w6 hp6
  refine Ab Aa ?_
  conv=>whnf
  have hvlt:=hown.lt
  have a1:=(KA.start h.all).up hB5 6
  obtain ⟨bs,hkg,hkgO,hbsO⟩:=h.knots
  have hkg5:=hkg.below hB5
  have a2:=a1.put (k:=6) (.inl (by omega)) (rb:=[]) (Kept.refl _ _) (by simp) (fp:=(Value.slice An s.kn.length cn).ownBlock.toList++bs++(Value.slice A5 ((v::R).map fun (x:Nat)=>(x:Int)).length c5).ownBlock.toList) (fun b hb=>by
    rcases List.mem_append.1 hb with hb|hb
    ·rcases List.mem_append.1 hb with hb|hb
     ·have hb':=hkgO b (by simpa using hb)
      have:=hkg.olt b (by simpa using hb)
      exact ⟨fun _=>(A6 this.2).trans hb',Nat.lt_of_lt_of_le this.2 hB5.size⟩
     ·have:=hkg.lt b hb
      exact ⟨fun _=>(A6 this.2).trans (hbsO b hb),Nat.lt_of_lt_of_le this.2 hB5.size⟩
    ·have:=hvlt b (by simpa using hb)
     exact ⟨fun _=>C3 this.1,this.2⟩)
   (P:=kLf c s bs wr.heap.size (.slice An s.kn.length cn) (.slice A5 ((v::R).map fun (x:Nat)=>(x:Int)).length c5) (v::R)) (fun w' hw'=>⟨rfl,hkg5.agree (fun b hb=>hw' b (by
    rcases List.mem_append.1 hb with hb|hb
    ·simp [hb]
    ·exact List.mem_append.2 (.inl (List.mem_append.2 (.inl hb))))),Hz hown (fun b hb=>hw' b (List.mem_append.2 (.inr hb)))⟩)
  have hk5:=hk.kept (Ar hB5) (Classical.em _)
  have g5O:O g5=5:=hkO g5 rfl
  have g5l:g5<wr.heap.size:=(hk.lt g5 rfl).2
  have a3:=a2.put (k:=5) (.inl (by omega)) (rb:=[]) (Kept.refl _ _) (by simp) (fp:=[g5]) (fun b hb=>by
    simp at hb
    subst hb
    exact ⟨fun _=>(a2.stp.own _ g5l).trans g5O,Nat.lt_of_lt_of_le g5l hB5.size⟩)
   (P:=fun fp w=>fp=(Value.slice (some ⟨g5,0,none⟩) L.length cap).ownBlock.toList/\w.ownsRow c.base 3 1 (.slice (some ⟨g5,0,none⟩) L.length cap) L.length (vi L)) (fun w' hw'=>⟨rfl,Tu (Hz hk5 (fun b hb=>hw' b (by simpa [Value.ownBlock,eq_comm] using hb))) (by omega) (by simp [vi]) (by rw [hs];simp [vi])⟩)
  have sT:=Ae hb
  have a4:=a3.putB (k:=0) (.inl (by omega)) hp6 ((a3.stp.own _ sT).trans hbO) (P:=fun fp w=>fp=[c.gT]/\w.heap[c.gT]?=some (.cells (Mo c { s with stk:=L } (.slice (some ⟨g5,0,none⟩) L.length cap) (.slice An s.kn.length cn)).toArray 251 (0,0))) (fun w' hw'=>⟨rfl,hw'⟩)
  obtain ⟨gq,hgq⟩:∃ gq,A5=some ⟨gq,0,none⟩:=by
   rcases hown.2 with ⟨h0,h1⟩|⟨g,cap',cur,hv,_⟩
   ·simp at h1
   ·injection hv with e1 _ _
    exact ⟨g,e1⟩
  obtain ⟨vl,hvl⟩:∃ vl,vl=Value.slice A5 ((v::R).map fun (x:Nat)=>(x:Int)).length c5:=⟨_,rfl⟩
  obtain ⟨P9,hP9⟩:∃ P9:List Nat->World->Prop,P9=kLf c s bs wr.heap.size (.slice An s.kn.length cn) vl (v::R):=⟨_,rfl⟩
  have hTl:((v::R).map fun (x:Nat)=>(x:Int)).length=(v::R).length:=by simp
  have a5:∃ O5,KA O wr O5 w6 (H9 (Wp c (kLv s L (v::R) 0) (.slice (some ⟨g5,0,none⟩) L.length cap) (.slice An s.kn.length cn)) 6 P9):=by
   refine ⟨_,a4.imp fun j fp w' hj=>?_⟩
   unfold H9 at hj ⊢
   split at hj
   ·rename_i e0;subst e0;exact hj
   split at hj
   ·rename_i e0;subst e0;exact hj
   split at hj
   ·rename_i e0;subst e0;rw [if_pos rfl,hP9,hvl];exact hj
   rename_i n0 n5 n9
   rw [if_neg n9]
   match j with
   |0=>exact absurd rfl n0
   |1=>exact hj
   |2=>exact hj
   |3=>exact hj
   |4=>exact hj
   |5=>exact absurd rfl n5
   |6=>exact absurd rfl n9
   |j+7=>trivial
  clear a4 a3 a2 a1
  skip
  refine Am Aa (X:=Nat) (fun i=>[(0,.pointer (some ⟨c.gT,0,none⟩)),(5,vl),(41,vl),(42,.int .i64 ((v::R).length:Nat)),(43,.int .i64 (i:Int))]) (fun i ws=>i<=(v::R).length/\∃ O5,KA O wr O5 ws (H9 (Wp c (kLv s L (v::R) i) (.slice (some ⟨g5,0,none⟩) L.length cap) (.slice An s.kn.length cn)) 6 P9)) (fun i=>(v::R).length - i) 0 ⟨rfl,by rw [hvl];rfl,by rw [hvl];rfl,by rw [<- hTl];rfl,rfl,trivial⟩ ⟨by omega,a5⟩ ?_
  rintro i G2 ws ⟨hi,O5,a5⟩
  conv=>whnf
  obtain ⟨fp0,⟨e0,hb0⟩,q0⟩:=(a5.all 0).now
  obtain ⟨fp3,⟨e3,hb3⟩,q3⟩:=(a5.all 3).now
  obtain ⟨fp4,⟨e4,hb4⟩,q4⟩:=(a5.all 4).now
  have o0:O5 c.gT=0:=(q0 c.gT (by rw [e0];simp)).1
  have o3:O5 c.gn=3:=(q3 c.gn (by rw [e3];simp)).1
  have o4:O5 c.go=4:=(q4 c.go (by rw [e4];simp)).1
  have h9:=(a5.all 6).now
  have h9:∃ fp,P9 fp ws/\∀ b∈fp,O5 b=6/\b<ws.heap.size:=h9
  rw [hP9,hvl,hgq] at h9
  obtain ⟨fp9,⟨e9,hg9,hl9⟩,q9⟩:=h9
  by_cases hil:i<(v::R).length
  ·obtain ⟨x,hx⟩:∃ x,x=(v::R)[i]! := ⟨_,rfl⟩
   have hxn:x<c.n:=by
    rw [hx,getElem!_pos (v::R) i hil]
    exact hlt _ (by rw [hs];exact List.mem_append.2 (.inr (List.getElem_mem hil)))
   have f1:ws.cell? ((⟨gq,0,none⟩:Addr).add (i*1))=some (.int .i64 (x:Int)):=by
    rw [Nat.mul_one,add_zero,hl9.cellAt i (by omega),hx,getElem!_pos (v::R) i hil]
    simp only [vi,List.getElem?_map,List.getElem?_eq_getElem hil]
    rfl
   have nTn:c.gT≠c.gn:=fun e=>by rw [e,o3] at o0;cases o0
   have nTo:c.gT≠c.go:=fun e=>by rw [e,o4] at o0;cases o0
   have nno:c.gn≠c.go:=fun e=>by rw [e,o4] at o3;cases o3
   have hb0':ws.heap[c.gT]?=some (.cells #[.slice c.A c.n c.c,.slice (some ⟨c.gi,0,none⟩) c.n c.n,.slice (some ⟨c.gl,0,none⟩) c.n c.n,.slice (some ⟨c.gn,0,none⟩) c.n c.n,.slice (some ⟨g5,0,none⟩) L.length cap,.slice (some ⟨c.go,0,none⟩) c.n c.n,.int .i64 (s.cnt:Int),.slice An s.kn.length cn] 251 (0,0)):=hb0
   have hbC:∀ w',Kr ws [c.gn,c.go] w'->w'.heap[c.gT]?=_:=fun w' h'=>h'.blk hb0' (by simp [nTn,nTo])
   subst hvl hgq
   have hii:((i:Nat):Int)<(((v::R).length:Nat):Int):=by omega
   (repeat' ((first|refine Az Aa rfl rfl rfl rfl rfl rfl f1 (Ab Aa ?_)|refine Al Aa 3 1 rfl rfl rfl rfl rfl rfl rfl (by omega) (Ab Aa ?_)|(refine Ag (by first|assumption|omega) ?_)|fail)<;>conv=>whnf))
   refine Em [0,1,2,3,4,5,6,7,8,9,10,11,12,13,14,15] 1 17 (Fu _ ([c.gn,c.go])) Aa mixed (by kernel_rfl) (Kept.refl _ _) ?_;(conv=>whnf)
   (repeat' ((first|refine D6 Aa hbC rfl rfl rfl rfl rfl rfl rfl (Ad Aa ?_)|refine Dh Aa 4 1 rfl rfl rfl rfl rfl rfl rfl (by omega) (Ad Aa ?_)|fail)<;>conv=>whnf))
   intro W hC hBW
   conv=>whnf
   refine And.intro ?_ True.intro
   conv=>whnf
   refine Wh (v:=.bool false) Aa (Ac hBW hb3) rfl rfl rfl rfl rfl (by simp [Value.oneCell']) (by rw [Aby];omega) rfl ?_
   intro W1 hq1
   refine ⟨hC.put hq1 (.inl (by simp)),fun W2 hB2 hC2=>?_⟩
   conv=>whnf
   (repeat' ((first|refine Al Aa 3 1 rfl rfl rfl rfl rfl rfl rfl (by omega) (Ab Aa ?_)|fail)<;>conv=>whnf))
   have hb4W:=Ac hB2 (hq1.old (Ac hBW hb4) nno.symm)
   refine Dt (v:=.int .i64 (s.kn.length:Int)) Aa hb4W rfl rfl rfl rfl rfl rfl (by rw [Ox];omega) rfl rfl ?_
   intro W4 hq4
   refine Ab Aa ?_
   conv=>whnf
   rw [Nat.mul_one] at hq1 hq4
   have b1:=a5.up hBW 8
   have s3:=Ae hb3
   have s4:=Ae hb4
   have b2:=b1.putB (k:=3) (.inl (by omega)) hq1 ((A6 s3).trans o3) (P:=fun fp w=>fp=[c.gn]/\w.heap[c.gn]?=some (.cells (fB c.n (kLv s L (v::R) (i+1)).on).toArray 4 (0,0))) (fun w' hw'=>⟨rfl,by
    rw [hw']
    unfold kLv
    simp only
    rw [P1 _ _ _ hil,<- hx,<- Ae0]⟩)
   have b3:=b2.up hB2 8
   have b4:=b3.putB (k:=4) (.inl (by omega)) hq4 (by
    rw [A6 (by have:=hq1.size;have:=hBW.size;omega),A6 (by have:=hBW.size;omega),A6 s4]
    exact o4) (P:=fun fp w=>fp=[c.go]/\w.heap[c.go]?=some (.cells (fI c.n (kLv s L (v::R) (i+1)).of).toArray 3 (0,0))) (fun w' hw'=>⟨rfl,by
    rw [hw']
    unfold kLv
    simp only
    rw [P1 _ _ _ hil,<- hx,<- Rq]⟩)
   (repeat' ((first|refine Af rfl rfl rfl rfl rfl rfl (by omega) (by omega) (Ab Aa ?_)|fail)<;>conv=>whnf))
   refine ⟨i+1,⟨rfl,rfl,rfl,rfl,rfl,trivial⟩,⟨by omega,_,b4.imp fun j fp w' hj=>?_⟩,by omega⟩
   unfold H9 at hj ⊢
   split at hj
   ·rename_i e0;subst e0;exact hj
   split at hj
   ·rename_i e0;subst e0;exact hj
   split at hj
   ·rename_i e0;subst e0;rw [if_pos rfl];exact hj
   rename_i n4 n3 n9
   rw [if_neg n9]
   match j with
   |0=>exact hj
   |1=>exact hj
   |2=>exact hj
   |3=>exact absurd rfl n3
   |4=>exact absurd rfl n4
   |5=>exact hj
   |6=>exact absurd rfl n9
   |j+7=>trivial
  ·have hie:i=(v::R).length:=by omega
   subst hie
   have hb0':ws.heap[c.gT]?=some (.cells #[.slice c.A c.n c.c,.slice (some ⟨c.gi,0,none⟩) c.n c.n,.slice (some ⟨c.gl,0,none⟩) c.n c.n,.slice (some ⟨c.gn,0,none⟩) c.n c.n,.slice (some ⟨g5,0,none⟩) L.length cap,.slice (some ⟨c.go,0,none⟩) c.n c.n,.int .i64 (s.cnt:Int),.slice An s.kn.length cn] 251 (0,0)):=hb0
   subst hvl hgq
   have hii:¬ (((v::R).length:Nat):Int)<(((v::R).length:Nat):Int):=by omega
   have hvi:vi (v::R)=((v::R).map fun (x:Nat)=>(x:Int)).map (Value.int .i64):=by simp [vi]
   rw [hvi] at hl9
   (repeat' ((first|(refine Ah (by first|assumption|omega) ?_)|fail)<;>conv=>whnf))
   refine Bv Bb6 (Am4 hl9 (by simp;omega)) rfl rfl rfl rfl rfl rfl rfl ?_
   rintro _ wt ⟨rfl,hgt,hlt9⟩
   refine ⟨_,rfl,Ab Aa ?_⟩
   conv=>whnf
   have hb0t:wt.heap[c.gT]?=_:=(hgt.block c.gT (Ae hb0') (fun e=>by
    have e:some c.gT=some gq:=e
    injection e with e
    have:=(q9 gq (by rw [e9];simp [Value.ownBlock])).1
    rw [<- e,o0] at this
    cases this)).trans hb0'
   (repeat' ((first|refine Aj Aa hb0t rfl rfl rfl rfl rfl rfl rfl (Ab Aa ?_)|fail)<;>conv=>whnf))
   refine C7 Aa 27 1 rfl rfl rfl rfl rfl rfl rfl rfl rfl rfl ?_
   intro gm wu hnm
   refine Ab Aa ?_
   conv=>whnf
   have hsN:srt ((v::R).map fun (x:Nat)=>(x:Int))=(Hf (v::R)).map fun (x:Nat)=>(x:Int):=Ae7 _
   have hNl:(Hf (v::R)).length=(v::R).length:=Sx _
   have hrowl:∀ w',(∀ b∈(Value.slice (some ⟨gq,0,none⟩) ((v::R).map fun (x:Nat)=>(x:Int)).length c5).ownBlock.toList,w'.heap[b]?=wt.heap[b]?)->H5 w' [.slice (some ⟨gq,0,none⟩) ((v::R).map fun (x:Nat)=>(x:Int)).length c5] ((Hf (v::R)).map fun (x:Nat)=>(x:Int)):=fun w' hw'=>by
    have h1:=Hz hlt9 hw'
    rw [hsN] at h1
    obtain ⟨A',c',e,hle,hr⟩:=Dp (d:=dI .i64) (xs:=(Hf (v::R)).map fun (x:Nat)=>(x:Int)) h1 (by simp [Sx]) (by
     have:=My (w:=w') (xs:=Hf (v::R)) (fun x hx=>by
      have:=hlt x (by rw [hs];exact List.mem_append.2 (.inr (mem_nsrt.1 hx)))
      omega)
     rw [List.map_map]
     exact this)
    exact ⟨A',c',by rw [e],hle,hr⟩
   have hgqge:wr.heap.size<=gq:=(hl9.lt gq rfl).1
   have hg9t:GRow 1 H5 27 c.base wt (.slice An s.kn.length cn) (Tm s.kn) bs:=hg9.stays (some gq) hgt (fun b hb e=>by
     injection e with e
     have:=(hkg.lt b hb).2
     omega) (by
     cases hv:(Value.slice An s.kn.length cn).ownBlock with
     |none=>exact .inl rfl
     |some k=>
      refine .inr fun e=>?_
      injection e with e
      have:=(hkg.olt k hv).2
      omega)
   have hgu:=hg9t.below hnm.below
   obtain ⟨⟨fy,hown6,hel6⟩,_,_⟩:=id hgu
   have hknl:(Tm s.kn).length=s.kn.length:=by simp [Tm]
   rw [hknl] at hown6
   have hqlt:gq<wt.heap.size:=(hlt9.lt gq rfl).2
   have hszu:c.base<=wu.heap.size:=by have:=h.sz;have:=hB5.size;have:=a5.stp.size;have:=hgt.size;have:=hnm.size;omega
   refine Cu Aa 27 1 24 hown6 hnm.blk rfl rfl rfl rfl rfl rfl rfl rfl rfl rfl rfl (by simp) (by simp [Value.oneCell']) (by omega) (by omega) hszu ?_
   intro E ec wv hown7 hgv hobv
   refine Ab Aa ?_
   conv=>whnf
   have hb0u:=Ac hnm.below hb0t
   have hb0v:wv.heap[c.gT]?=_:=(hgv.block c.gT (Ae hb0u) (fun e=>by
    have h1:=hkgO c.gT e.symm
    rw [hbO] at h1
    cases h1)).trans hb0u
   refine Dd (off:=7) (v:=.slice E (s.kn.length+1) ec) Aa hb0v rfl rfl rfl rfl rfl rfl (by simp) rfl rfl ?_
   intro wx hpx
   refine Ab Aa ?_
   conv=>whnf
   have hpush:GRow 1 H5 27 c.base wv (.slice E (s.kn.length+1) ec) (Tm (s.kn++[Hf (v::R)])) (bs++[gq]):=by
    have h1:=hgu.push (v':=.slice E (s.kn.length+1) ec) (x:=(Hf (v::R)).map fun (x:Nat)=>(x:Int)) (bs':=[gq]) hel6 (by rw [hknl];exact hown7) hgv hobv rfl (fun w' hw'=>hrowl w' (fun b hb=>(hw' b (by simpa [Value.ownBlock,eq_comm] using hb)).trans (by
      have hbq:b=gq:=by simpa [Value.ownBlock,eq_comm] using hb
      rw [hbq]
      exact hnm.below.block gq hqlt))) (by
     intro b hb
     simp at hb
     subst hb
     exact ⟨by have:=h.sz;omega,Nat.lt_of_lt_of_le hqlt hnm.below.size⟩) (by
     intro b hb e
     simp at hb
     subst hb
     have:=(hkg.olt b e.symm).2
     omega)
    simpa [Tm] using h1
   have hk1:Kept ([gq]++(Value.slice An s.kn.length cn).ownBlock.toList) ws wv:=by
    have k1:Kept ([gq]++(Value.slice An s.kn.length cn).ownBlock.toList) ws wt:=Kept.grown (Kept.refl _ _) hgt (fun g e=>.inl (by
     have e:some gq=some g:=e
     injection e with e
     rw [<- e]
     exact List.mem_append.2 (.inl (by simp))))
    have k2:=Kept.grown k1 (Ar (row:=none) hnm.below) (fun g e=>by cases e)
    exact Kept.grown k2 hgv (fun g e=>.inl (by simp [e]))
   have c1:=a5.put (k:=6) (.inl (by omega)) hk1 (fun b hb hbl=>by
     refine (q9 b ?_).1
     rw [e9]
     rcases List.mem_append.1 hb with hb|hb
     ·simp at hb;simp [hb,Value.ownBlock]
     ·simp at hb;simp [hb]) (fp:=(Value.slice E (s.kn.length+1) ec).ownBlock.toList++(bs++[gq])) (fun b hb=>by
     rcases List.mem_append.1 hb with hb|hb
     ·have hb:(Value.slice E (s.kn.length+1) ec).ownBlock=some b:=by simpa using hb
      refine ⟨fun hlt=>?_,(hpush.olt b hb).2⟩
      rcases hobv with q|q
      ·exact (q9 b (by rw [e9];have:=q.symm.trans hb;simp [this])).1
      ·rw [q] at hb
       injection hb with hb
       have:=hgt.size
       have:=hnm.below.size
       omega
     ·refine ⟨fun _=>(q9 b (by rw [e9];rcases List.mem_append.1 hb with hb|hb<;>(try simp at hb)<;>simp [hb,Value.ownBlock])).1,(hpush.lt b hb).2⟩)
    (P:=fun fp w=>∃ bs',fp=(Value.slice E (s.kn.length+1) ec).ownBlock.toList++bs'/\GRow 1 H5 27 c.base w (.slice E (s.kn.length+1) ec) (Tm (s.kn++[Hf (v::R)])) bs') (fun w' hw'=>⟨_,rfl,hpush.agree (fun b hb=>hw' b (by
     rcases List.mem_append.1 hb with hb|hb
     ·exact List.mem_append.2 (.inr hb)
     ·exact List.mem_append.2 (.inl hb)))⟩)
   have wT:wv.heap.size>=ws.heap.size:=hk1.size
   have c2:=c1.putB (k:=0) (.inl (by omega)) hpx ((A6 (Ae hb0')).trans o0) (P:=fun fp w=>fp=[c.gT]/\w.heap[c.gT]?=some (.cells (Mo c (s.leave A L (v::R) (Hf (v::R))) (.slice (some ⟨g5,0,none⟩) L.length cap) (.slice E (s.kn.length+1) ec)).toArray 251 (0,0))) (fun w' hw'=>⟨rfl,hw'⟩)
   have eon:(kLv s L (v::R) (v::R).length).on=(s.leave A L (v::R) (Hf (v::R))).on:=by
    show ((v::R).take (v::R).length).foldl _ s.on=_
    rw [List.take_length,Bkk]
    rfl
   have eof:(kLv s L (v::R) (v::R).length).of=(s.leave A L (v::R) (Hf (v::R))).of:=by
    show ((v::R).take (v::R).length).foldl _ s.of=_
    rw [List.take_length,An4]
    rfl
   refine Hr rfl ⟨rfl,_,.slice (some ⟨g5,0,none⟩) L.length cap,.slice E (s.kn.length+1) ec,h.next (c2.all.imp fun j fp w' hj=>?_) c2.stp,c2.stp⟩
   unfold H9 at hj
   split at hj
   ·rename_i e0;subst e0;exact hj
   split at hj
   ·rename_i e0;subst e0;exact hj
   rename_i n0 n6
   match j with
   |0=>exact absurd rfl n0
   |1=>exact hj
   |2=>exact hj
   |3=>
    have hj:fp=[c.gn]/\w'.heap[c.gn]?=some (.cells (fB c.n (kLv s L (v::R) (v::R).length).on).toArray 4 (0,0)):=hj
    rw [eon] at hj
    exact hj
   |4=>
    have hj:fp=[c.go]/\w'.heap[c.go]?=some (.cells (fI c.n (kLv s L (v::R) (v::R).length).of).toArray 3 (0,0)):=hj
    rw [eof] at hj
    exact hj
   |5=>exact hj
   |6=>exact absurd rfl n6
   |j+7=>trivial
 ·have hsv:¬ (s.stk[k.toNat]!:Int)=v:=fun e=>hvn k.toNat (by omega) (by omega) (by omega)
  (repeat' ((first|refine Aj Aa hb' rfl rfl rfl rfl rfl rfl rfl (Ab Aa ?_)|refine Az Aa rfl rfl rfl rfl rfl rfl f0 (Ab Aa ?_)|refine Ni Aa 3 1 rfl rfl rfl rfl rfl rfl rfl (by omega) (by omega) (Ab Aa ?_)|refine Jk rfl rfl rfl rfl rfl rfl (by omega) (by omega) (Ab Aa ?_)|refine Ag (by first|assumption|omega) ?_|fail)<;>conv=>whnf))
  exact ⟨k - 1,⟨rfl,rfl,rfl,trivial⟩,⟨⟨by omega,by omega⟩,rfl⟩,by omega⟩
theorem Af5 {c:KC}{O:Nat->Nat}{w:World}{s:TS}{vk vn:Value}(h:KS c O w s vk vn)(v:Nat)(hv:v<c.n)(hcnt:s.cnt<9223372036854775807)(hst:s.stk.length<1099511627776)(hn:c.n<=9223372036854775807) :
  Calls Tryz.prog 188 #[.pointer (some ⟨c.gT,0,none⟩),.int .i64 (v:Int)] w fun e w'=>e=.returned (.agg #[.int .i64 (v:Int),.int .i64 0])/\∃ O1 vk1,KS c O1 w' (s.enter v) vk1 vn/\Stp O O1 w w':=by
 refine A9 (args:=[.pointer (some ⟨c.gT,0,none⟩),.int .i64 (v:Int)]) Aa Tryz.func188 rfl Tryz.ntmps188 rfl ?_;conv=>whnf
 refine Bm Aa rfl rfl rfl rfl rfl rfl ?_
 intro g4 w1 hn4
 have hs4:g4=w.heap.size:=hn4.at_
 have l4:=Ae hn4.blk
 obtain ⟨O',hO'⟩:∃ O',O'=Cp O w.heap.size 8:=⟨_,rfl⟩
 have o4:O' g4=8:=by rw [hO'];exact C3 (by omega)
 have st0:Stp O O' w w1:=by rw [hO'];exact Stp.up hn4.below 8
 have h0:=h
 have h:KS c O' w1 s vk vn:=by rw [hO'];exact h0.up hn4.below 8
 obtain ⟨hb,hbO⟩:=h.box
 obtain ⟨hi,hiO⟩:=h.bi
 obtain ⟨hl,hlO⟩:=h.bl
 obtain ⟨ho,hoO⟩:=h.bn
 obtain ⟨hk,hkO⟩:=h.stack
 have hsz:=h.sz
 have nTi:c.gT≠c.gi:=fun e=>by rw [e,hiO] at hbO;cases hbO
 have nTl:c.gT≠c.gl:=fun e=>by rw [e,hlO] at hbO;cases hbO
 have nTn:c.gT≠c.gn:=fun e=>by rw [e,hoO] at hbO;cases hbO
 have nil:c.gi≠c.gl:=fun e=>by rw [e,hlO] at hiO;cases hiO
 have nin:c.gi≠c.gn:=fun e=>by rw [e,hoO] at hiO;cases hiO
 have nln:c.gl≠c.gn:=fun e=>by rw [e,hoO] at hlO;cases hlO
 have sT:=Ae hb
 have si:=Ae hi
 have sl:=Ae hl
 have sn:=Ae ho
 have a1:=KA.start h.all
 have hb1':=hb
 unfold Mo at hb1'
 refine Ab Aa ?_
 conv=>whnf
 (repeat' ((first|refine Aj Aa hb1' rfl rfl rfl rfl rfl rfl rfl (Ab Aa ?_)|refine Af rfl rfl rfl rfl rfl rfl (by omega) (by omega) (Ab Aa ?_)|fail)<;>conv=>whnf))
 refine Dd (off:=6) Aa hb1' rfl rfl rfl rfl rfl rfl (by simp) rfl rfl ?_
 intro w2 hp2
 refine Ab Aa ?_
 conv=>whnf
 have hb2:w2.heap[c.gT]?=some (.cells #[.slice c.A c.n c.c,.slice (some ⟨c.gi,0,none⟩) c.n c.n,.slice (some ⟨c.gl,0,none⟩) c.n c.n,.slice (some ⟨c.gn,0,none⟩) c.n c.n,vk,.slice (some ⟨c.go,0,none⟩) c.n c.n,.int .i64 ((s.cnt:Int)+1),vn] 251 (0,0)):=hp2.blk
 have a2:=a1.putB (k:=0) (.inl (by omega)) hp2 ((a1.stp.own _ sT).trans hbO) (P:=fun fp w=>fp=[c.gT]/\w.heap[c.gT]?=some (.cells (Mo c { s with cnt:=s.cnt+1 } vk vn).toArray 251 (0,0))) (fun w' hw'=>⟨rfl,hw'⟩)
 have hi2:=hp2.old hi nTi.symm
 have hl2:=hp2.old hl nTl.symm
 have ho2:=hp2.old ho nTn.symm
 have hbC:∀ w',Kr w2 [c.gi,c.gl,c.gn] w'->w'.heap[c.gT]?=_:=fun w' h'=>h'.blk hb2 (by simp [nTi,nTl,nTn])
 skip
 refine Em [0,1,2,3,4,5,6,7,8,9,10,11,12,13,14,15,16,17,18,19,20,21,22,23] 3 27 (Fu _ ([c.gi,c.gl,c.gn])) Aa mixed (by kernel_rfl) (Kept.refl _ _) ?_;(conv=>whnf)
 (repeat' ((first|refine D6 Aa hbC rfl rfl rfl rfl rfl rfl rfl (Ad Aa ?_)|refine Dh Aa 3 1 rfl rfl rfl rfl rfl rfl rfl (by omega) (Ad Aa ?_)|fail)<;>conv=>whnf))
 intro W hC hBW
 conv=>whnf
 refine And.intro ?_ True.intro
 conv=>whnf
 have hiW:=Ac hBW hi2
 refine Wh (v:=.int .i64 ((s.cnt:Int)+1)) Aa hiW rfl rfl rfl rfl rfl (by simp [Value.oneCell']) (by rw [Ox];omega) rfl ?_
 intro W1 hq1
 refine ⟨hC.put hq1 (.inl (by simp)),fun W2 hB2 hC2=>?_⟩
 conv=>whnf
 refine And.intro ?_ True.intro
 conv=>whnf
 refine N6 rfl rfl (Rx Aa 3 1 (i:=v) rfl rfl rfl rfl hv) ?_
 refine ⟨hC2,fun W3 hB3 hC3=>?_⟩
 conv=>whnf
 refine And.intro ?_ True.intro
 conv=>whnf
 have hlW:=Ac (Ax hB2 hB3) (hq1.old (Ac hBW hl2) nil.symm)
 refine Wh (v:=.int .i64 ((s.cnt:Int)+1)) Aa hlW rfl rfl rfl rfl rfl (by simp [Value.oneCell']) (by rw [Ox];omega) rfl ?_
 intro W4 hq4
 refine ⟨hC3.put hq4 (.inl (by simp)),fun W5 hB5 hC5=>?_⟩
 conv=>whnf
 (repeat' ((first|refine Al Aa 4 1 rfl rfl rfl rfl rfl rfl rfl (by omega) (Ab Aa ?_)|fail)<;>conv=>whnf))
 have hoW:=Ac hB5 (hq4.old (Ac (Ax hB2 hB3) (hq1.old (Ac hBW ho2) nin.symm)) nln.symm)
 refine Dt (v:=.bool true) Aa hoW rfl rfl rfl rfl rfl rfl (by rw [Aby];omega) rfl rfl ?_
 intro W6 hq6
 refine Ab Aa ?_
 conv=>whnf
 rw [Nat.mul_one] at hq1 hq4 hq6
 have a3:=a2.up hBW 8
 have a4:=a3.putB (k:=1) (.inl (by omega)) hq1 ((a3.stp.own _ si).trans hiO) (P:=fun fp w=>fp=[c.gi]/\w.heap[c.gi]?=some (.cells (fI c.n (Bf s.idx v (s.cnt+1))).toArray 3 (0,0))) (fun w' hw'=>⟨rfl,by rw [hw',<- Rq];rfl⟩)
 have a5:=a4.up (Ax hB2 hB3) 8
 have a6:=a5.putB (k:=2) (.inl (by omega)) hq4 ((a5.stp.own _ sl).trans hlO) (P:=fun fp w=>fp=[c.gl]/\w.heap[c.gl]?=some (.cells (fI c.n (Bf s.low v (s.cnt+1))).toArray 3 (0,0))) (fun w' hw'=>⟨rfl,by rw [hw',<- Rq];rfl⟩)
 have a7:=a6.up hB5 8
 have a8:=a7.putB (k:=3) (.inl (by omega)) hq6 ((a7.stp.own _ sn).trans hoO) (P:=fun fp w=>fp=[c.gn]/\w.heap[c.gn]?=some (.cells (fB c.n (Bf s.on v true)).toArray 4 (0,0))) (fun w' hw'=>⟨rfl,by rw [hw',<- Ae0]⟩)
 have hb6:=hq6.old (hbC _ hC5) nTn
 (repeat' ((first|refine Aj Aa hb6 rfl rfl rfl rfl rfl rfl rfl (Ab Aa ?_)|fail)<;>conv=>whnf))
 refine C7 Aa 3 1 rfl rfl rfl rfl rfl rfl rfl rfl rfl rfl ?_
 intro g8 W8 hn8
 refine Ab Aa ?_
 conv=>whnf
 obtain ⟨O9,a9⟩:∃ O9,KA O' w1 O9 W8 _:=⟨_,a8.up hn8.below 8⟩
 have hkk:W8.ownsRow c.base 3 1 vk s.stk.length (vi s.stk)/\∀ b,vk.ownBlock=some b->O9 b=5:=by
  obtain ⟨fp,h1,h2⟩:=(a9.all 5).now
  have h1:fp=vk.ownBlock.toList/\W8.ownsRow c.base 3 1 vk s.stk.length (vi s.stk):=h1
  exact ⟨h1.2,fun b hb=>(h2 b (by rw [h1.1,hb];simp)).1⟩
 have hs8:w1.heap.size<=W8.heap.size:=a9.stp.size
 refine Cu Aa 3 1 8 hkk.1 hn8.blk rfl rfl rfl rfl rfl rfl rfl rfl rfl rfl rfl (by simp) (by simp [Value.oneCell']) (by omega) (by omega) (by omega) ?_
 intro E ec W9 hown9 hg9 hob9
 refine Ab Aa ?_
 conv=>whnf
 have hbb:W9.heap[c.gT]?=_:=(hg9.block c.gT (by have:=Ae (Ac hn8.below hb6);exact this) (fun e=>by
  have h1:=hkk.2 c.gT e.symm
  have h2:=(a9.stp.own _ sT).trans hbO
  rw [h1] at h2
  cases h2)).trans (Ac hn8.below hb6)
 refine Dd (off:=4) (v:=.slice E (s.stk.length+1) ec) Aa hbb rfl rfl rfl rfl rfl rfl (by simp) rfl rfl ?_
 intro Wa hqa
 refine Ab Aa ?_
 conv=>whnf
 have hlt9:=hown9.lt
 have a10:=a9.put (k:=5) (.inl (by omega)) (rb:=vk.ownBlock.toList) (Kept.grown (Kept.refl _ _) hg9 (fun g e=>.inl (by simp [e]))) (fun b hb _=>hkk.2 b (by simpa using hb)) (fp:=(Value.slice E (s.stk.length+1) ec).ownBlock.toList) (fun b hb=>by
   have hb:(Value.slice E (s.stk.length+1) ec).ownBlock=some b:=by simpa using hb
   refine ⟨fun hlt=>?_,(hlt9 b hb).2⟩
   rcases hob9 with q|q
   ·exact hkk.2 b (q.symm.trans hb)
   ·rw [q] at hb
    injection hb with hb
    omega)
  (P:=fun fp w=>fp=(Value.slice E (s.stk.length+1) ec).ownBlock.toList/\w.ownsRow c.base 3 1 (.slice E (s.stk.length+1) ec) (s.stk++[v]).length (vi (s.stk++[v]))) (fun w' hw'=>⟨rfl,by
   rw [show (s.stk++[v]).length=s.stk.length+1 by simp,show vi (s.stk++[v])=vi s.stk++[.int .i64 (v:Int)] by simp [vi]]
   refine ⟨hown9.1,hown9.2.imp id ?_⟩
   rintro ⟨g,cap,cur,h4,h5,h6,h7⟩
   refine ⟨g,cap,cur,h4,h5,?_,h7⟩
   rw [hw' g (by rw [h4];simp [Value.ownBlock])]
   exact h6⟩)
 have a11:=a10.putB (k:=0) (.inl (by omega)) hqa ((a10.stp.own _ sT).trans hbO) (P:=fun fp w=>fp=[c.gT]/\w.heap[c.gT]?=some (.cells (Mo c (s.enter v) (.slice E (s.stk.length+1) ec) vn).toArray 251 (0,0))) (fun w' hw'=>⟨rfl,hw'⟩)
 obtain ⟨O11,a11⟩:∃ O11,KA O' w1 O11 Wa _:=⟨_,a11⟩
 have h4:Wa.heap[g4]?=some (.cells #[.int .i64 0,.int .i64 0] 288 (0,0)):=by
  have e1:g4≠c.gT:=fun e=>by rw [e,hbO] at o4;cases o4
  have e2:g4≠c.gi:=fun e=>by rw [e,hiO] at o4;cases o4
  have e3:g4≠c.gl:=fun e=>by rw [e,hlO] at o4;cases o4
  have e4:g4≠c.gn:=fun e=>by rw [e,hoO] at o4;cases o4
  have e5:vk.ownBlock≠some g4:=fun e=>by have:=hkO g4 e;rw [this] at o4;cases o4
  have b1:=hq6.old (Ac hB5 (hq4.old (Ac (Ax hB2 hB3) (hq1.old (Ac hBW (hp2.old hn4.blk e1)) e2)) e3)) e4
  have b2:=Ac hn8.below b1
  have b3:=(hg9.block g4 (Ae b2) (fun e=>e5 e.symm)).trans b2
  exact hqa.old b3 e1
 skip
 refine Di Aa h4 rfl rfl rfl rfl rfl (by simp [Value.oneCell']) rfl rfl ?_
 intro Wb hqb
 refine Ab Aa ?_
 conv=>whnf
 have a12:=a11.putB (k:=8) (.inl (by omega)) hqb ((a11.stp.own _ l4).trans o4) (P:=fun _ _=>True) (fun _ _=>trivial)
 have hr4:Wb.heap[g4]?=some (.cells #[.int .i64 (v:Int),.int .i64 0] 288 (0,0)):=hqb.blk
 refine V0 Aa rfl hr4 rfl rfl ⟨rfl,_,.slice E (s.stk.length+1) ec,h.next (a12.all.imp fun j fp w' hj=>?_) a12.stp,st0.trans a12.stp⟩
 unfold H9 at hj
 split at hj
 ·rename_i e0;subst e0;trivial
 split at hj
 ·rename_i e0;subst e0;exact hj
 split at hj
 ·rename_i e0;subst e0;exact hj
 split at hj
 ·rename_i e0;subst e0;exact hj
 split at hj
 ·rename_i e0;subst e0;exact hj
 split at hj
 ·rename_i e0;subst e0;exact hj
 match j with
 |0=>exact absurd rfl (by assumption)
 |1=>exact absurd rfl (by assumption)
 |2=>exact absurd rfl (by assumption)
 |3=>exact absurd rfl (by assumption)
 |4=>exact hj
 |5=>exact absurd rfl (by assumption)
 |6=>exact hj
 |j+7=>trivial
end Go.Proofs.YtghmdfegfehhkaaGreatDoor
namespace Go.Proofs.YtghmdfegfehhkaaGreatDoor
structure KnOk (g:List (List Int))(kn:List (List Nat))(of:Nat->Nat):Prop where
 at_:∀ v,v<g.length->of v<kn.length/\v∈kn[of v]!
 kn:∀ k,k<kn.length->kn[k]! ≠ []/\(kn[k]!).Pairwise (·<·)/\∀ v∈kn[k]!,v<g.length/\of v=k
 scc:∀ v u,v<g.length->u<g.length->(of v=of u↔Rg g v u/\Rg g u v)
 ord:∀ v u,v<g.length->u<g.length->Rg g v u->of u<=of v
theorem TInv.done {g:List (List Int)}{s:TS}(h:TInv g s)(hp:s.path=[])(hall:∀ v,v<g.length->0<s.idx v):KnOk g s.kn s.of:=by
 have he:=h.empty hp
 have dn:∀ v,v<g.length->s.Dn v:=fun v hv=>⟨hall v hv,by rw [he];simp⟩
 refine ⟨fun v hv=>h.dk v (dn v hv),fun k hk=>?_,fun v u hv hu=>h.scc v u (dn v hv) (dn u hu),fun v u hv hu hr=>?_⟩
 ·obtain ⟨h1,h2,h3⟩:=h.kd k hk
  exact ⟨h1,h2,fun v hv=>⟨h.nod v (h3 v hv).1.1,(h3 v hv).2⟩⟩
 ·have:=hr.closed (P:=fun x=>s.Dn x/\s.of x<=s.of v) (fun a b ha e=>by
   obtain ⟨h1,h2⟩:=h.cl a b ha.1 e
   exact ⟨h1,Nat.le_trans h2 ha.2⟩) ⟨dn v hv,Nat.le_refl _⟩
  exact this.2
theorem Ew:∀ {n:Nat} {l:List Nat},l.Nodup->(∀ v∈l,v<n)->l.length<=n:=by
 intro n
 induction n with
 |zero=>
  intro l _ h
  cases l with
  |nil=>simp
  |cons a r=>exact absurd (h a (by simp)) (Nat.not_lt_zero a)
 |succ n ih=>
  intro l hl h
  have h1:=ih (l:=l.filter fun x=>decide (x≠n)) (hl.sublist List.filter_sublist) (fun v hv=>by
   obtain ⟨h1,h2⟩:=List.mem_filter.1 hv
   have:=h v h1
   have:v≠n:=by simpa using h2
   omega)
  have h2:l.length<=(l.filter fun x=>decide (x≠n)).length+1:=by
   clear ih h h1
   induction l with
   |nil=>simp
   |cons a r ih2=>
    rw [List.nodup_cons] at hl
    by_cases e:a=n
    ·subst e
     have:r.filter (fun x=>decide (x≠a))=r:=List.filter_eq_self.2 fun x hx=>by
      simp only [decide_eq_true_eq]
      exact fun e=>hl.1 (e▸hx)
     rw [List.filter_cons_of_neg (by simp),this]
     simp
    ·rw [List.filter_cons_of_pos (by simpa using e)]
     have:=ih2 hl.2
     simp only [List.length_cons]
     omega
  omega
theorem Mw {a b:Nat}(f:Nat->Nat)(hf:∀ i,i<a->f i<b)(hi:∀ i j,i<a->j<a->f i=f j->i=j):a<=b:=by
 have:=Ew (n:=b) (l:=(List.range a).map f) (by
  rw [List.nodup_iff_pairwise_ne,List.pairwise_map]
  exact (List.nodup_range (n:=a)).imp_of_mem fun hx hy hne e=>hne (hi _ _ (List.mem_range.1 hx) (List.mem_range.1 hy) e)) (fun v hv=>by
  obtain ⟨i,hi2,rfl⟩:=List.mem_map.1 hv
  exact hf i (List.mem_range.1 hi2))
 simpa using this
section
variable {g g2:List (List Int)}{kn kn2:List (List Nat)}{of of2:Nat->Nat}
theorem KnOk.rep (h:KnOk g kn of){k:Nat}(hk:k<kn.length):∃ v,v<g.length/\of v=k:=by
 obtain ⟨h1,_,h3⟩:=h.kn k hk
 cases e:kn[k]! with
 |nil=>exact absurd e h1
 |cons a r=>exact ⟨a,h3 a (by rw [e];simp)⟩
theorem KnOk.total (h:KnOk g kn of):kn.flatten.length=g.length:=by
 have hm:∀ v,v∈kn.flatten↔v<g.length:=fun v=>by
  rw [List.mem_flatten]
  constructor
  ·rintro ⟨l,hl,hv⟩
   obtain ⟨k,hk,e⟩:=List.getElem_of_mem hl
   have e:kn[k]! = l:=by rw [getElem!_pos _ k hk];exact e
   exact ((h.kn k hk).2.2 v (e▸hv)).1
  ·intro hv
   obtain ⟨h1,h2⟩:=h.at_ v hv
   exact ⟨kn[of v]!,by rw [getElem!_pos kn (of v) h1];exact List.getElem_mem h1,h2⟩
 have hn:kn.flatten.Nodup:=by
  rw [List.nodup_iff_pairwise_ne,List.pairwise_flatten]
  constructor
  ·intro l hl
   obtain ⟨k,hk,e⟩:=List.getElem_of_mem hl
   have e:kn[k]! = l:=by rw [getElem!_pos _ k hk];exact e
   have hp:=(h.kn k hk).2.1
   rw [e] at hp
   exact hp.imp fun {a b} (hab:a<b) (e:a=b)=>absurd e (Nat.ne_of_lt hab)
  ·rw [List.pairwise_iff_getElem]
   intro i j hi hj hij a ha b hb e
   subst e
   have h1:=((h.kn i hi).2.2 a (by rw [getElem!_pos _ i hi];exact ha)).2
   have h2:=((h.kn j hj).2.2 a (by rw [getElem!_pos _ j hj];exact hb)).2
   omega
 refine Nat.le_antisymm (Ew hn fun v hv=>(hm v).1 hv) ?_
 refine Mw (fun v=>kn.flatten.idxOf v) (fun v hv=>List.idxOf_lt_length_iff.2 ((hm v).2 hv)) (fun i j hi hj e=>?_)
 have h1:=List.getElem_idxOf (List.idxOf_lt_length_iff.2 ((hm i).2 hi))
 have h2:=List.getElem_idxOf (List.idxOf_lt_length_iff.2 ((hm j).2 hj))
 have e:kn.flatten.idxOf i=kn.flatten.idxOf j:=e
 rw [<- h1,<- h2]
 congr 1
theorem KnOk.one (h:KnOk g kn of)(h0:0<g.length)(hall:∀ v u,v<g.length->u<g.length->Rg g v u):kn.length=1/\(kn[0]!).length=g.length/\∀ v,v<g.length->of v=0:=by
 have hof:∀ v u,v<g.length->u<g.length->of v=of u:=fun v u hv hu=>(h.scc v u hv hu).2 ⟨hall v u hv hu,hall u v hu hv⟩
 have h1:=(h.at_ 0 h0).1
 have hl:kn.length=1:=by
  apply Nat.le_antisymm _ (by omega)
  refine Mw (fun _=>0) (fun _ _=>by omega) (fun i j hi hj _=>?_)
  obtain ⟨v,hv,e1⟩:=h.rep hi
  obtain ⟨u,hu,e2⟩:=h.rep hj
  rw [<- e1,<- e2]
  exact hof v u hv hu
 have hz:∀ v,v<g.length->of v=0:=fun v hv=>by have:=(h.at_ v hv).1;omega
 refine ⟨hl,?_,hz⟩
 have ht:=h.total
 cases kn with
 |nil=>simp at hl
 |cons a r=>
  cases r with
  |nil=>simpa using ht
  |cons b r=>simp at hl
theorem KnOk.row (h:KnOk g kn of)(hr:∀ v u,v<g.length->u<g.length->(Rg g v u↔u<=v)):kn.length=g.length/\∀ v,v<g.length->of v=v/\(kn[v]!).length=1:=by
 have inj:∀ v u,v<g.length->u<g.length->of v=of u->v=u:=fun v u hv hu e=>by
  have:=(h.scc v u hv hu).1 e
  have h1:=(hr v u hv hu).1 this.1
  have h2:=(hr u v hu hv).1 this.2
  omega
 have mono:∀ v u,v<g.length->u<v->of u<of v:=fun v u hv hu=>by
  have h1:=h.ord v u hv (by omega) ((hr v u hv (by omega)).2 (by omega))
  have:of u≠of v:=fun e=>by have:=inj u v (by omega) hv e;omega
  omega
 have hlen:kn.length=g.length:=by
  apply Nat.le_antisymm
  ·have key:∀ k,∃ v,k<kn.length->v<g.length/\of v=k:=fun k=>by
    by_cases hk:k<kn.length
    ·obtain ⟨v,hv⟩:=h.rep hk
     exact ⟨v,fun _=>hv⟩
    ·exact ⟨0,fun hh=>absurd hh hk⟩
   refine Mw (fun k=>Classical.choose (key k)) (fun k hk=>((Classical.choose_spec (key k)) hk).1) (fun i j hi hj e=>?_)
   have h3:=(Classical.choose_spec (key i)) hi
   have h4:=(Classical.choose_spec (key j)) hj
   have e:Classical.choose (key i)=Classical.choose (key j):=e
   rw [<- h3.2,<- h4.2,e]
  ·exact Mw of (fun v hv=>(h.at_ v hv).1) (fun i j hi hj e=>inj i j hi hj e)
 have ge:∀ v,v<g.length->v<=of v:=fun v=>by
  induction v with
  |zero=>intro _;omega
  |succ v ih=>
   intro hv
   have:=ih (by omega)
   have:=mono (v+1) v hv (by omega)
   omega
 have le:∀ d v,v+d+1=g.length->of v<=v:=fun d=>by
  induction d with
  |zero=>
   intro v hv
   have:=(h.at_ v (by omega)).1
   omega
  |succ d ih=>
   intro v hv
   have:=ih (v+1) (by omega)
   have:=mono (v+1) v (by omega) (by omega)
   omega
 have hof:∀ v,v<g.length->of v=v:=fun v hv=>Nat.le_antisymm (le (g.length - v - 1) v (by omega)) (ge v hv)
 refine ⟨hlen,fun v hv=>⟨hof v hv,?_⟩⟩
 obtain ⟨h1,h2,h3⟩:=h.kn v (by omega)
 cases e:kn[v]! with
 |nil=>exact absurd e h1
 |cons a r=>
  cases r with
  |nil=>rfl
  |cons b r=>
   rw [e] at h2 h3
   have h4:=h3 a (by simp)
   have h5:=h3 b (by simp)
   have:=(List.pairwise_cons.1 h2).1 b (by simp)
   rw [hof a h4.1] at h4
   rw [hof b h5.1] at h5
   omega
end
end Go.Proofs.YtghmdfegfehhkaaGreatDoor
namespace Go.Proofs.YtghmdfegfehhkaaGreatDoor
def Y4 (n:Nat)(f:Nat->Nat):Nat:=(List.range n).countP fun v=>decide (0<f v)
theorem Ab3 (n:Nat)(f:Nat->Nat):Y4 n f<=n:=by
 have:=List.countP_le_length (p:=fun v=>decide (0<f v)) (l:=List.range n)
 simpa [Y4] using this
theorem Z7 (n:Nat):Y4 n (fun _=>0)=0:=by simp [Y4]
theorem Xk {n v x:Nat}{f:Nat->Nat}(hv:v<n)(h0:f v=0)(hx:0<x):Y4 n (Bf f v x)=Y4 n f+1:=by
 induction n with
 |zero=>omega
 |succ n ih=>
  unfold Y4 at *
  rw [List.range_succ,List.countP_append,List.countP_append]
  by_cases e:v=n
  ·subst e
   have h1:(List.range v).countP (fun u=>decide (0<Bf f v x u))=(List.range v).countP fun u=>decide (0<f u):=by
    apply List.countP_congr
    intro u hu
    have hu:=List.mem_range.1 hu
    rw [C1 _ _ (by omega:u≠v)]
   rw [h1]
   simp [D3,h0,hx]
  ·have:=ih (by omega)
   rw [this]
   have h2:Bf f v x n=f n:=C1 _ _ fun e2=>e e2.symm
   simp only [List.countP_singleton,h2]
   omega
section
variable {g:List (List Int)}{s:TS}
theorem TInv.stk_lt (h:TInv g s):∀ x∈s.stk,x<g.length:=fun x hx=>h.nod x (h.stk x hx)
theorem TInv.stk_nodup (h:TInv g s):s.stk.Nodup:=by
 rw [List.nodup_iff_pairwise_ne]
 exact h.ord.imp fun {a b} hab e=>by subst e;omega
theorem TInv.stk_le (h:TInv g s):s.stk.length<=g.length:=Ew h.stk_nodup h.stk_lt
theorem TInv.path_le (h:TInv g s):s.path.length<=g.length:=by
 have h1:=h.psub.length_le
 have h2:s.pn.length=s.path.length:=by simp [TS.pn]
 have:=h.stk_le
 omega
theorem TInv.kn_le (h:TInv g s):s.kn.length<=g.length:=by
 have h1:∀ k,k<s.kn.length->∃ v,v<g.length/\s.of v=k:=fun k hk=>by
  obtain ⟨h1,h2,h3⟩:=h.kd k hk
  cases hl:s.kn[k]! with
  |nil=>exact absurd hl h1
  |cons a r=>
   have:=h3 a (by rw [hl];simp)
   exact ⟨a,h.nod a this.1.1,this.2⟩
 have h2:∃ f:Nat->Nat,∀ k,k<s.kn.length->f k<g.length/\s.of (f k)=k:=by
  refine ⟨fun k=>if hk:k<s.kn.length then (h1 k hk).choose else 0,fun k hk=>?_⟩
  simp only [hk,dif_pos]
  exact (h1 k hk).choose_spec
 obtain ⟨f,hf⟩:=h2
 have h3:((List.range s.kn.length).map f).length<=g.length:=by
  refine Ew ?_ fun v hv=>?_
  ·rw [List.nodup_iff_pairwise_ne,List.pairwise_map]
   refine (List.nodup_iff_pairwise_ne.1 List.nodup_range).imp_of_mem fun {a b} ha hb hab e=>hab ?_
   have h4:=(hf a (List.mem_range.1 ha)).2
   have h5:=(hf b (List.mem_range.1 hb)).2
   rw [<- h4,<- h5,e]
  ·obtain ⟨k,hk,rfl⟩:=List.mem_map.1 hv
   exact (hf k (List.mem_range.1 hk)).1
 simpa using h3
theorem TInv.cut (h:TInv g s){v:Nat}(hv:v∈s.stk):∃ L R,s.stk=L++v::R/\v∉R:=by
 obtain ⟨L,R,e⟩:=List.append_of_mem hv
 refine ⟨L,R,e,fun hm=>?_⟩
 have:=h.stk_nodup
 rw [e,List.nodup_append] at this
 have h2:=this.2.1
 rw [List.nodup_cons] at h2
 exact h2.1 hm
theorem TInv.leave2 (h:TInv g s){A:List (Nat×Nat)}{v nx:Nat}{L R l:List Nat}(hp:s.path=A++[(v,nx)])(hall:∀ k w,EdK g v k w->k<nx)(he:s.low v=s.idx v)(hs:s.stk=L++v::R)(hl:l.Pairwise (·<·))(hlT:∀ x,x∈l↔x∈v::R):TInv g (s.leave A L (v::R) l):=
 h.leave hp hall he hs rfl hl hlT
end
open Go.RowKit
def fv (p:List (Nat×Nat)):List Value:=(p.map fun x=>[Value.int .i64 (x.1:Int),.int .i64 (x.2:Int)]).flatten
theorem T6 (p q:List (Nat×Nat)):fv (p++q)=fv p++fv q:=by simp [fv]
theorem Xg (x:Nat×Nat)(q:List (Nat×Nat)):fv (x::q)=.int .i64 (x.1:Int)::.int .i64 (x.2:Int)::fv q:=rfl
theorem Ib (p:List (Nat×Nat)):(fv p).length=p.length*2:=by
 induction p with
 |nil=>rfl
 |cons x q ih=>rw [Xg];simp [ih];omega
def Bi5 (base:Nat)(vp:Value)(p:List (Nat×Nat)):List Nat->World->Prop:=fun fp w=>fp=vp.ownBlock.toList/\w.ownsRow base 288 2 vp p.length (fv p)
section
variable {c:KC}{O O0 O1:Nat->Nat}{w w0 w1:World}{s s1:TS}{vk vn vp:Value}{P:List (Nat×Nat)}
theorem KS.keep50 {rb:List Nat}(h:KS c O w s vk vn)(hk:Kept rb w w1)(hr:∀ b∈rb,b<w.heap.size->O b=50):KS c (Cp O w.heap.size 50) w1 s vk vn:=by
 refine ⟨fun j=>?_,fun b hb=>by rw [A6 (by have:=h.sz;omega)];exact h.low b hb,Nat.le_trans h.sz hk.size⟩
 by_cases hj:j=50
 ·subst hj
  exact AtF.tr.imp fun _ _ _=>trivial
 ·exact (h.all j).keep (fun _=>A6) hk.size fun b hlt e=>hk.block b hlt fun hm=>hj (by rw [<- e];exact hr b hm hlt)
theorem Stp.own50 {rb:List Nat}(h:Stp O0 O w0 w)(hk:Kept rb w w1)(hr:∀ b∈rb,w0.heap.size<=b)(k:Nat):Stp O0 (Cp O w.heap.size k) w0 w1:=
 ⟨hk.os.trans h.os,hk.tape.trans h.tape,hk.output.trans h.output,Nat.le_trans h.size hk.size,fun b hb=>(A6 (Nat.lt_of_lt_of_le hb h.size)).trans (h.own b hb),
 fun b hb h1 h2=>(hk.block b (Nat.lt_of_lt_of_le hb h.size) (fun hm=>by have:=hr b hm;omega)).trans (h.fr b hb h1 h2)⟩
theorem KS.same (h:KS c O w s vk vn)(e1:s1.idx=s.idx)(e2:s1.low=s.low)(e3:s1.on=s.on)(e4:s1.stk=s.stk)(e5:s1.of=s.of)(e6:s1.cnt=s.cnt)(e7:s1.kn=s.kn):KS c O w s1 vk vn:=by
 obtain ⟨a1,a2,a3,a4,a5,a6,a7,a8⟩:=s
 obtain ⟨b1,b2,b3,b4,b5,b6,b7,b8⟩:=s1
 simp only at e1 e2 e3 e4 e5 e6 e7
 subst e1 e2 e3 e4 e5 e6 e7
 refine ⟨h.all.imp fun j fp w hj=>?_,h.low,h.sz⟩
 match j with
 |0=>exact hj
 |1=>exact hj
 |2=>exact hj
 |3=>exact hj
 |4=>exact hj
 |5=>exact hj
 |6=>exact hj
 |j+7=>trivial
theorem KS.lowPut {u m:Nat}(h:KS c O w s vk vn)(hp:Put w w1 c.gl ((fI c.n s.low).set u (.int .i64 (m:Int))) 3):∃ O1,KS c O1 w1 { s with low:=Bf s.low u m } vk vn/\Stp O O1 w w1:=by
 have a:=(KA.start h.all).putB (k:=2) (.inl (by omega)) hp h.bl.2 (P:=fun fp w=>fp=[c.gl]/\w.heap[c.gl]?=some (.cells (fI c.n (Bf s.low u m)).toArray 3 (0,0))) (fun w' hw'=>⟨rfl,by rw [hw',Rq]⟩)
 refine ⟨_,h.next (a.all.imp fun j fp w' hj=>?_) a.stp,a.stp⟩
 unfold H9 at hj
 split at hj
 ·rename_i e0;subst e0;exact hj
 match j with
 |0=>exact hj
 |1=>exact hj
 |2=>exact absurd rfl (by assumption)
 |3=>exact hj
 |4=>exact hj
 |5=>exact hj
 |6=>exact hj
 |j+7=>trivial
structure SM (c:KC)(O0:Nat->Nat)(w0:World)(s:TS)(vp:Value)(P:List (Nat×Nat))(w:World):Prop where
 ex:∃ O vk vn,KS c O w s vk vn/\AtF O 50 w (Bi5 w0.heap.size vp P)/\Stp O0 O w0 w
theorem SM.up (h:SM c O0 w0 s vp P w)(hb:Below w.heap.size w w1):SM c O0 w0 s vp P w1:=by
 obtain ⟨O,vk,vn,h1,h2,h3⟩:=h.ex
 exact ⟨_,vk,vn,h1.up hb 8,h2.keep (fun _=>A6) hb.size (fun b hlt _=>hb.block b hlt),h3.trans (Stp.up hb 8)⟩
theorem SM.same (h:SM c O0 w0 s vp P w)(e1:s1.idx=s.idx)(e2:s1.low=s.low)(e3:s1.on=s.on)(e4:s1.stk=s.stk)(e5:s1.of=s.of)(e6:s1.cnt=s.cnt)(e7:s1.kn=s.kn):SM c O0 w0 s1 vp P w:=by
 obtain ⟨O,vk,vn,h1,h2,h3⟩:=h.ex
 exact ⟨O,vk,vn,h1.same e1 e2 e3 e4 e5 e6 e7,h2,h3⟩
theorem SM.bel (h:SM c O0 w0 s vp P w)(hl:∀ b,b<c.base->O0 b=99)(hb:c.base<=w0.heap.size):Below c.base w0 w:=by
 obtain ⟨O,vk,vn,h1,h2,h3⟩:=h.ex
 exact h3.below hl hb
theorem SM.box (h:SM c O0 w0 s vp P w):∃ vk vn,w.heap[c.gT]?=some (.cells (Mo c s vk vn).toArray 251 (0,0)):=by
 obtain ⟨O,vk,vn,h1,h2,h3⟩:=h.ex
 exact ⟨vk,vn,h1.box.1⟩
theorem SM.idxC (h:SM c O0 w0 s vp P w){u:Nat}(hu:u<c.n):w.cell? ((⟨c.gi,0,none⟩:Addr).add (u*1))=some (.int .i64 (s.idx u:Int)):=by
 obtain ⟨O,vk,vn,h1,h2,h3⟩:=h.ex
 rw [Nat.mul_one,add_zero]
 exact Au h1.bi.1 (by simpa using Ub hu)
theorem SM.lowC (h:SM c O0 w0 s vp P w){u:Nat}(hu:u<c.n):w.cell? ((⟨c.gl,0,none⟩:Addr).add (u*1))=some (.int .i64 (s.low u:Int)):=by
 obtain ⟨O,vk,vn,h1,h2,h3⟩:=h.ex
 rw [Nat.mul_one,add_zero]
 exact Au h1.bl.1 (by simpa using Ub hu)
theorem SM.onC (h:SM c O0 w0 s vp P w){u:Nat}(hu:u<c.n):w.cell? ((⟨c.gn,0,none⟩:Addr).add (u*1))=some (.bool (s.on u)):=by
 obtain ⟨O,vk,vn,h1,h2,h3⟩:=h.ex
 rw [Nat.mul_one,add_zero]
 exact Au h1.bn.1 (by simpa using Au2 hu)
theorem SM.lowB (h:SM c O0 w0 s vp P w):w.heap[c.gl]?=some (.cells (fI c.n s.low).toArray 3 (0,0)):=by
 obtain ⟨O,vk,vn,h1,h2,h3⟩:=h.ex
 exact h1.bl.1
theorem SM.low (h:SM c O0 w0 s vp P w){u m:Nat}(hp:Put w w1 c.gl ((fI c.n s.low).set u (.int .i64 (m:Int))) 3):SM c O0 w0 { s with low:=Bf s.low u m } vp P w1:=by
 obtain ⟨O,vk,vn,h1,h2,h3⟩:=h.ex
 obtain ⟨O1,h4,h5⟩:=h1.lowPut hp
 exact ⟨O1,vk,vn,h4,h2.stp h5 (by omega) (by omega),h3.trans h5⟩
theorem SM.form (h:SM c O0 w0 s vp P w):∃ A cap,vp=.slice A P.length cap:=by
 obtain ⟨O,vk,vn,h1,h2,h3⟩:=h.ex
 obtain ⟨fp,⟨_,h4⟩,_⟩:=h2.now
 rcases h4.2 with ⟨h5,h6⟩|⟨g,cap,cur,h5,_⟩
 ·exact ⟨none,0,by rw [h6];exact h5⟩
 ·exact ⟨_,cap,h5⟩
theorem SM.row (h:SM c O0 w0 s vp P w)(hP:P≠[]):∃ gp cap cur,vp=.slice (some ⟨gp,0,none⟩) P.length cap/\w.heap[gp]?=some (.cells cur 288 (0,0))/\P.length<=cap/\P.length*2<=cur.size/\∀ j,j<P.length*2->cur[j]?=(fv P)[j]?:=by
 obtain ⟨O,vk,vn,h1,h2,h3⟩:=h.ex
 obtain ⟨fp,⟨_,h4⟩,_⟩:=h2.now
 rcases h4.2 with ⟨h5,h6⟩|⟨g,cap,cur,h5,h6,h7,h8,h9,h10,h11⟩
 ·exact absurd (List.eq_nil_of_length_eq_zero h6) hP
 ·refine ⟨g,cap,_,h5,h7,h8,?_,fun j hj=>?_⟩
  ·omega
  ·rw [<- h11,List.getElem?_take,if_pos hj]
   simp
end
theorem Aa8 {P:Program}{n:Nat}{Q:Post}{F:Fm}{w:World}{c:Code}(h:wc P n c Q F w):wc P n (.scope c) Q F w:=by
 unfold wc at *
 exact fun ds a ha=>wp_scope_straight (wp_mono (h ds a ha) (fun e a w h=>by cases e<;>exact h))
section
variable {P:Program}{T:Nat->Option TI}{n:Nat}{Q:Post}{F:Fm}{w:World}{ops:Array Oper}{rest:List Oper}{o:Oper}{C:World->Prop}{K:Fm->Prop}
theorem Ak7 {c:Call}{x y:Operand}{ki:IntKind}{a b:Int}(hop:o.op=.call c)(hcal:c.callee=.builtin .min)(hargs:c.args.toList=[x,y])(hx:ev F x=.int ki a)(hy:ev F y=.int ki b):(execOp (ev F) o).run P w=.ok (.value (.int ki (if b<a then b else a))) w:=by
 obtain ⟨callee,⟨args⟩,tys⟩:=c
 simp only at hcal hargs
 subst hcal hargs
 simp [execOp,hop,resolve,invoke,builtin,Builtin.min_,Builtin.min2,hx,hy]
theorem Afq {c:Call}{x y:Operand}{ki:IntKind}{a b:Nat}(hop:o.op=.call c)(hcal:c.callee=.builtin .min)(hargs:c.args.toList=[x,y])(hx:ev F x=.int ki (a:Int))(hy:ev F y=.int ki (b:Int))(hg:o.guard=none){d:Nat}(hd:o.dst=some d)(hn:Nat.blt d n=true)
  (k:wq P n ops C rest K (Bd F d (.int ki (((min a b:Nat)):Int)))):wq P n ops C (o::rest) K F:=by
 refine Ec hg hd hn (fun w' _=>Ak7 hop hcal hargs hx hy) ?_
 have e:(if (b:Int)<(a:Int) then (b:Int) else (a:Int))=((min a b:Nat):Int):=by
  split<;>omega
 rw [e]
 exact k
end
section
variable {P:Program}{T:Nat->Option TI}{n:Nat}{Q:Post}{F:Fm}{w:World}{ops:Array Oper}{rest:List Oper}{o:Oper}
theorem Aaz (g j k:Nat):(⟨((⟨g,0,none⟩:Addr).add j).block,((⟨g,0,none⟩:Addr).add j).off+k,none⟩:Addr)=⟨g,j+k,none⟩:=by rw [add_zero]
theorem Au4 (hT:TabOk P T)(k:Nat){t t':TypeId}{x y:Operand}{i:TI}{g j:Nat}{cs:List Value}{v:Value}(hb:w.heap[g]?=some (.cells cs.toArray t' (0,0)))(hop:o.op=.store t x y)(hx:ev F x=.pointer (some ⟨((⟨g,0,none⟩:Addr).add j).block,((⟨g,0,none⟩:Addr).add j).off+k,none⟩))(hy:ev F y=v)
  (hi:T t=some i) (h1:i.size=1) (hv:v.oneCell'=true) (hoff:j+k<cs.length) (hg:o.guard=none) (hd:o.dst=none)
  (kk:∀ w1,Put w w1 g (cs.set (j+k) v) t'->wl P n ops rest Q F w1):wl P n ops (o::rest) Q F w:=
 Dd (off:=j+k) hT hb hop (by rw [hx,Aaz]) hy hi h1 hv hoff hg hd kk
end
theorem Ah0 (g j k:Nat):(⟨g,j+k,none⟩:Addr)=⟨((⟨g,0,none⟩:Addr).add j).block,((⟨g,0,none⟩:Addr).add j).off+k,none⟩:=by rw [add_zero]
section
variable {c:KC}{O O0 O1:Nat->Nat}{w w0 w1:World}{s s1:TS}{vk vn vp:Value}{A B:List (Nat×Nat)}{v nx gp m cap:Nat}
theorem W0 (A B:List (Nat×Nat))(v nx:Nat):fv (A++(v,nx)::B)=fv A++(.int .i64 (v:Int)::.int .i64 (nx:Int)::fv B):=by rw [T6,Xg]
theorem SM.frame (h:SM c O0 w0 s vp (A++(v,nx)::B) w):∃ gp cap cur,vp=.slice (some ⟨gp,0,none⟩) (A++(v,nx)::B).length cap/\w.heap[gp]?=some (.cells (List.toArray cur) 288 (0,0))/\A.length*2+1<cur.length/\(A++(v,nx)::B).length<=cap /\
  w.cell? ((⟨gp,0,none⟩:Addr).add (A.length*2))=some (.int .i64 (v:Int))/\w.cell? ⟨((⟨gp,0,none⟩:Addr).add (A.length*2)).block,((⟨gp,0,none⟩:Addr).add (A.length*2)).off+1,none⟩=some (.int .i64 (nx:Int)):=by
 obtain ⟨gp,cap,⟨cur⟩,h1,h2,h3,h4,h5⟩:=h.row (by simp)
 have hl:(A++(v,nx)::B).length=A.length+1+B.length:=by
  rw [List.length_append,List.length_cons]
  omega
 have h4:(A++(v,nx)::B).length*2<=cur.length:=h4
 refine ⟨gp,cap,cur,h1,h2,by omega,h3,?_,?_⟩
 ·rw [add_zero]
  refine Au h2 ?_
  rw [h5 _ (by omega),W0,List.getElem?_append_right (by rw [Ib];omega),Ib,Nat.sub_self]
  rfl
 ·rw [<- Ah0]
  refine Au h2 ?_
  rw [h5 _ (by omega),W0,List.getElem?_append_right (by rw [Ib];omega),Ib,Nat.add_sub_cancel_left]
  rfl
theorem SM.bump {cur:List Value}{nx':Nat}(h:SM c O0 w0 s (.slice (some ⟨gp,0,none⟩) m cap) (A++(v,nx)::B) w)(hb:w.heap[gp]?=some (.cells cur.toArray 288 (0,0)))(hp:Put w w1 gp (cur.set (A.length*2+1) (.int .i64 (nx':Int))) 288):SM c O0 w0 s (.slice (some ⟨gp,0,none⟩) m cap) (A++(v,nx')::B) w1:=by
 obtain ⟨O,vk,vn,h1,h2,h3⟩:=h.ex
 obtain ⟨fp,⟨e4,h4⟩,h5⟩:=h2.now
 have hgO:=(h5 gp (by rw [e4];simp [Value.ownBlock])).1
 have hge:w0.heap.size<=gp:=(h4.lt gp rfl).1
 have hk:Kept [gp] w w1:=Kept.put (Kept.refl _ _) hp (.inl (by simp))
 refine ⟨_,vk,vn,h1.keep50 hk (by simpa using fun _=>hgO),?_,h3.own50 hk (by simpa using hge) 50⟩
 refine ⟨[gp],by simpa using ⟨(A6 (Ae hb)).trans hgO,Ae hp.blk⟩,fun w' hw'=>⟨rfl,?_,.inr ?_⟩⟩
 ·simp [Ib]
 ·rcases h4.2 with ⟨h6,_⟩|⟨g',cap',cur',e6,h7,h8,h9,h10,h11,h12⟩
  ·cases h6
  ·injection e6 with e7 e8 e9
   injection e7 with e7
   injection e7 with e7 _ _
   subst e7 e9
   rw [hb] at h8
   injection h8 with h8
   injection h8 with h8 _ _
   subst h8
   refine ⟨gp,cap,(cur.set (A.length*2+1) (.int .i64 (nx':Int))).toArray,by rw [e8];simp,h7,by rw [hw' gp (by simp)];exact hp.blk,by simpa using h9,h10,by simpa using h11,?_⟩
   have hl:(A++(v,nx')::B).length=(A++(v,nx)::B).length:=by simp
   have h12:cur.take ((A++(v,nx)::B).length*2)=fv (A++(v,nx)::B):=h12
   show (cur.set (A.length*2+1) (.int .i64 (nx':Int))).take _=_
   rw [hl,List.take_set,h12]
   rw [W0,W0,List.set_append_right _ _ (by rw [Ib];omega),Ib,Nat.add_sub_cancel_left]
   rfl
end
end Go.Proofs.YtghmdfegfehhkaaGreatDoor
