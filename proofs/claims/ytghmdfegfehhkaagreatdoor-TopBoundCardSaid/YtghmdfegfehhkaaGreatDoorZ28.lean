/- Several texts of one claim in one file, made short: PW19 PV22 LP26 LP27 L1502 L1503 TP01. -/
import Derived.Test.YtghmdfegfehhkaaGreatDoorZ27
import Derived.Test.YtghmdfegfehhkaaGreatDoorZ24
import Derived.Test.YtghmdfegfehhkaaGreatDoorZ11
import Derived.Test.YtghmdfegfehhkaaGreatDoorZ15
import Derived.Test.YtghmdfegfehhkaaGreatDoorZ16
set_option maxRecDepth 100000
set_option maxHeartbeats 64000000
set_option linter.unusedVariables false
set_option linter.unusedSimpArgs false
namespace Go.Proofs.YtghmdfegfehhkaaGreatDoor
theorem Ae4 (l:Nat->Int):∀ {a b:Nat},a<=b->F7 l a<=F7 l b:=by
 intro a b h
 induction b with
 |zero=>rw [show a=0 by omega];exact Nat.le_refl _
 |succ b ih=>
  by_cases e:a=b+1
  ·rw [e];exact Nat.le_refl _
  ·have h1:=ih (by omega)
   have h2:F7 l b<=F7 l (b+1):=by
    show F7 l b<=(if l b=(F7 l b:Int) then F7 l b+1 else F7 l b)
    split<;>omega
   omega
theorem Acy {n:Nat}{wh:Nat->Int}{E:Nat->Nat->Prop}{Z:Nat->Prop}(h:Canon n wh E Z){v:Nat}(hv:v<n):wh v<(F7 wh n:Int):=by
 have h1:=(h.le v hv).2
 have h2:F7 wh (v+1)<=F7 wh n:=Ae4 wh hv
 have h3:F7 wh (v+1)=if wh v=(F7 wh v:Int) then F7 wh v+1 else F7 wh v:=rfl
 split at h3<;>omega
structure WOk (n:Nat)(xs:List Cell)(ys:List Con)(M:Mat)(wh:Nat->Int)(cnt:Nat)(less:Bool):Prop where
 rng:∀ v,v<n->-1<=wh v/\wh v<(cnt:Int)
 cnt:cnt<=n
 row:∀ v u,v<n->u<n->0<=wh v->wh v=wh u->∀ o,mg M v o=true↔mg M u o=true
 none:∀ v,v<n->wh v<0->∀ o,¬mg M v o=true
 loo:∀ v,v<n->Fd ⟨(n:Int),xs,ys⟩ v=true->0<=wh v
 all:less=false->∀ v,v<n->0<=wh v
section
variable {n cnt:Nat}{xs:List Cell}{ys:List Con}{M M':Mat}{wh:Nat->Int}{less:Bool}
theorem Wq {y:Con}(h:y∈Hv wh less ys):(∃ c∈ys,y=Fj wh c)/\(less=true->Dv y=false):=by
 have key:∀ (l:List Con) (out:List Con),y∈l.foldl (Dw wh less) out->y∈out\/((∃ c∈l,y=Fj wh c)/\(less=true->Dv y=false)):=by
  intro l
  induction l with
  |nil=>intro out h;exact .inl h
  |cons c l ih=>
   intro out h
   rcases ih _ h with h1|⟨⟨d,h1,h2⟩,h3⟩
   ·unfold Dw at h1
    split at h1
    ·exact .inl h1
    ·rename_i hc
     rcases List.mem_append.1 h1 with h1|h1
     ·exact .inl h1
     ·simp at h1
      refine .inr ⟨⟨c,by simp,h1⟩,fun hl=>Bool.eq_false_iff.2 fun he=>hc ?_⟩
      rw [hl,<- h1,he]
      rfl
   ·exact .inr ⟨⟨d,by simp [h1],h2⟩,h3⟩
 rcases key ys [] h with h|h
 ·cases h
 ·exact h
theorem Ajx {c:Con}(h:c∈ys):(less=true/\Dv (Fj wh c)=true)\/Fj wh c∈Hv wh less ys:=by
 have mono:∀ (l:List Con) (out:List Con) (y:Con),y∈out->y∈l.foldl (Dw wh less) out:=by
  intro l
  induction l with
  |nil=>intro out y h;exact h
  |cons d l ih=>
   intro out y h
   refine ih _ y ?_
   unfold Dw
   split
   ·exact h
   ·simp [h]
 have key:∀ (l:List Con) (out:List Con),c∈l->(less=true/\Dv (Fj wh c)=true)\/Fj wh c∈l.foldl (Dw wh less) out:=by
  intro l
  induction l with
  |nil=>intro out h;cases h
  |cons d l ih=>
   intro out h
   rcases List.mem_cons.1 h with rfl|h
   ·by_cases hc:(less&&(Dv (Fj wh c)||inC out (Fj wh c)))=true
    ·simp only [Bool.and_eq_true,Bool.or_eq_true] at hc
     rcases hc.2 with h1|h1
     ·exact .inl ⟨hc.1,h1⟩
     ·exact .inr (mono l _ _ (by unfold Dw;split;exact inC_iff.1 h1;simp))
    ·refine .inr (mono l _ _ ?_)
     unfold Dw
     rw [if_neg hc]
     simp
   ·exact ih _ h
 exact key ys [] h
theorem Dx (h:WOk n xs ys M wh cnt less){x:Int}(h0:0<=x):atF wh x=wh x.toNat:=if_neg (by omega)
theorem Uf {x:Int}(h:0<=atF wh x):0<=x/\atF wh x=wh x.toNat:=by
 unfold atF at h ⊢
 split at h
 ·omega
 ·rename_i h1
  rw [if_neg h1]
  exact ⟨by omega,rfl⟩
theorem R8 (hr:Ba ⟨n,xs,ys⟩=true)(h:WOk n xs ys M wh cnt less):Ba ⟨(cnt:Int),xs.map (L9 wh),Hv wh less ys⟩=true:=by
 obtain ⟨hn,hnx,hny⟩:=Gx hr
 have hP:=D4 hr
 have hX:=Ea hr
 have hlen:=Vp wh less ys
 have hcn:=h.cnt
 have atr:∀ x:Int,-1<=x->x<(n:Int)->-1<=atF wh x/\(atF wh x<(cnt:Int)\/atF wh x=-1):=fun x h1 h2=>by
  by_cases h0:x<0
  ·have e:atF wh x=-1:=if_pos h0
   omega
  ·have:=h.rng x.toNat (by omega)
   rw [Dx h (by omega)]
   omega
 have hr0:=hr
 simp only [Ba,Hl,Bool.and_eq_true,decide_eq_true_eq,List.all_eq_true] at hr0
 unfold Ba Hl
 simp only [Bool.and_eq_true,decide_eq_true_eq,List.all_eq_true]
 refine ⟨⟨⟨⟨⟨by omega,by omega⟩,by rw [List.length_map];omega⟩,by omega⟩,fun c hc=>?_⟩,fun y hy=>?_⟩
 ·obtain ⟨x,hx,rfl⟩:=List.mem_map.1 hc
  obtain ⟨h1,h2,h3⟩:=hX x hx
  have h4:=hr0.1.2 x hx
  simp only [Ee,Ff,Bool.and_eq_true,Bool.or_eq_true,decide_eq_true_eq,List.all_eq_true] at h4
  unfold Ee Ff L9
  simp only [Bool.and_eq_true,Bool.or_eq_true,decide_eq_true_eq,List.all_eq_true,List.length_map]
  have hw:=h.loo x.v.toNat (by omega) (Ez hx (.inl (by omega)))
  have hw2:=h.rng x.v.toNat (by omega)
  rw [Dx h h1.1]
  refine ⟨⟨⟨⟨hw,hw2.2⟩,h2⟩,h4.1.2⟩,fun z hz=>?_⟩
  obtain ⟨q,hq,rfl⟩:=List.mem_map.1 hz
  have hq2:=h3 q hq
  have hw:=h.loo q.toNat (by omega) (Ez hx (.inr (by rw [show ((q.toNat:Nat):Int)=q by omega];exact hq)))
  have hw2:=h.rng q.toNat (by omega)
  rw [Dx h hq2.1]
  exact ⟨hw,hw2.2⟩
 ·obtain ⟨⟨c,hcm,rfl⟩,he⟩:=Wq hy
  obtain ⟨hk,ha,hb,hl,hargs,h5⟩:=hP c hcm
  have h4:=hr0.2 c hcm
  simp only [B4,Ff,Bool.and_eq_true,Bool.or_eq_true,decide_eq_true_eq,List.all_eq_true] at h4
  have hA:=atr c.a ha.1 ha.2
  have hab:(¬c.k=5->0<=atF wh c.a)/\(¬c.k=1->0<=atF wh c.b):=by
   cases hls:less with
   |false=>
    refine ⟨fun h5'=>?_,fun h1'=>?_⟩
    ·rw [Dx h (h5 h5').1];exact h.all hls _ (by omega)
    ·have:=hb.2.2 h1'
     rw [Dx h hb.1];exact h.all hls _ (by omega)
   |true=>
    have he:=he hls
    unfold Dv Fj at he
    simp only at he
    by_cases k1:c.k=1
    ·rw [if_pos k1] at he
     rw [decide_eq_false_iff_not] at he
     exact ⟨fun _=>by omega,fun h=>absurd k1 h⟩
    ·rw [if_neg k1] at he
     by_cases k5:c.k=5
     ·rw [if_pos k5,if_neg k1,decide_eq_false_iff_not] at he
      exact ⟨fun h=>absurd k5 h,fun _=>by omega⟩
     ·rw [if_neg k5,if_neg k1] at he
      simp only [Bool.or_eq_false_iff,decide_eq_false_iff_not] at he
      exact ⟨fun _=>by omega,fun _=>by omega⟩
  unfold B4 Ff Fj
  simp only [Bool.and_eq_true,Bool.or_eq_true,decide_eq_true_eq,List.all_eq_true,List.length_map]
  refine ⟨⟨⟨⟨⟨⟨hk.1,hk.2⟩,?_⟩,?_⟩,hl⟩,h4.1.2⟩,fun z hz=>?_⟩
  ·by_cases k5:c.k=5
   ·rw [if_pos k5];omega
   ·rw [if_neg k5];have:=hab.1 k5;omega
  ·by_cases k1:c.k=1
   ·rw [if_pos k1,if_pos k1];have:=hb.2.1 k1;omega
   ·rw [if_neg k1,if_neg k1]
    have h1:=hb.2.2 k1
    have h2:=atr c.b (by omega) h1
    have h3:=hab.2 k1
    omega
  ·obtain ⟨q,hq,rfl⟩:=List.mem_map.1 hz
   have:=hargs q hq
   have:=atr q this.1 this.2
   omega
theorem An2 {p:Nat}(hp:p<xs.length):(xs.map (L9 wh))[p]! = L9 wh xs[p]! := by
 rw [getElem!_pos _ p (by simpa using hp),getElem!_pos _ p hp]
 simp
theorem Ro {l:List Int}{k:Nat}(hk:k<l.length):(l.map (atF wh))[k]! = atF wh l[k]! := by
 rw [getElem!_pos _ k (by simpa using hk),getElem!_pos _ k hk]
 simp
theorem Ac2 (hr:Ba ⟨n,xs,ys⟩=true)(h:IsLeast ⟨(n:Int),xs,ys⟩ M)(hw:WOk n xs ys M wh cnt less)(h':IsLeast ⟨(cnt:Int),xs.map (L9 wh),Hv wh less ys⟩ M'){v o:Nat}(hv:v<n)(h0:0<=wh v)(hm:mg M' (wh v).toNat o=true):mg M v o=true:=by
 have hc:=closed_con.1 h.closed
 have hP:=D4 hr
 have hX:=Ea hr
 have dn:∀ (a:Nat) (o:Nat),a<n->0<=wh a->mg (N5 cnt xs.length fun w o=>∃ u,u<n/\wh u=(w:Int)/\mg M u o=true) (wh a).toNat o=true->mg M a o=true:=fun a o ha h0 hm=>by
  obtain ⟨_,_,u,hu,e,hm⟩:=mg_mk.1 hm
  exact (hw.row a u ha hu h0 (by omega) o).2 hm
 have up:∀ (a:Nat) (o:Nat),a<n->0<=wh a->mg M a o=true->mg (N5 cnt xs.length fun w o=>∃ u,u<n/\wh u=(w:Int)/\mg M u o=true) (wh a).toNat o=true:=fun a o ha h0 hm=>by
  have:=hw.rng a ha
  exact mg_mk.2 ⟨by omega,(Wt h hm).2,a,ha,by omega,hm⟩
 have nn:∀ (a o:Nat),a<n->mg M a o=true->0<=wh a:=fun a o ha hm=>Int.not_lt.1 fun hl=>hw.none a ha hl o hm
 have hcl:Do ⟨(cnt:Int),xs.map (L9 wh),Hv wh less ys⟩ (N5 cnt xs.length fun w o=>∃ u,u<n/\wh u=(w:Int)/\mg M u o=true):=closed_con.2 fun y hy=>by
  obtain ⟨⟨c,hcm,rfl⟩,he⟩:=Wq hy
  obtain ⟨hk,ha,hb,hl,hargs,h5⟩:=hP c hcm
  obtain ⟨r1,r2,r3⟩:=hc c hcm
  refine ⟨fun k1=>?_,fun k2=>?_,fun k1 k2 p hp hs=>?_⟩
  ·have k1:c.k=1:=k1
   have ha0:=(h5 (by omega)).1
   have hm:=r1 k1
   have e1:(Fj wh c).a=wh c.a.toNat:=Dx hw ha0
   have e2:(Fj wh c).b=c.b:=if_pos k1
   rw [e1,e2]
   exact up _ _ (by omega) (nn _ _ (by omega) hm) hm
  ·have k2:c.k=2:=k2
   have ha0:=(h5 (by omega)).1
   have hb2:=hb.2.2 (by omega)
   have e1:(Fj wh c).a=wh c.a.toNat:=Dx hw ha0
   have e2:(Fj wh c).b=wh c.b.toNat:=(if_neg (by omega:¬ c.k=1)).trans (Dx hw hb.1)
   rw [e1,e2]
   intro q1 q2 o ho
   have hm:=r2 k2 ha0 hb.1 o (dn _ _ (by omega) q2 ho)
   exact up _ _ (by omega) (nn _ _ (by omega) hm) hm
  ·have k1:¬ c.k=1:=k1
   have k2:¬ c.k=2:=k2
   have hp:p<xs.length:=by simpa using hp
   have hb2:=hb.2.2 k1
   have hxv:=(hX _ (E7 hp)).1
   have e2:(Fj wh c).b=wh c.b.toNat:=(if_neg k1).trans (Dx hw hb.1)
   have hxl:=hw.loo (xs[p]!).v.toNat (by omega) (Ez (E7 hp) (.inl (by omega)))
   have ex:(L9 wh xs[p]!).v=wh (xs[p]!).v.toNat:=Dx hw hxv.1
   rw [An2 hp]
   have hsrc:mg M (Cs c) p=true:=by
    unfold Cs at hs ⊢
    by_cases k4:c.k=4
    ·have ha0:=(h5 (by omega)).1
     rw [if_pos (show (Fj wh c).k=4 from k4),show (Fj wh c).a=wh c.a.toNat from Dx hw ha0] at hs
     rw [if_pos k4]
     obtain ⟨q1,_,u,hu,e,hm⟩:=mg_mk.1 hs
     by_cases h0:0<=wh c.a.toNat
     ·exact dn _ _ (by omega) h0 hs
     ·have h3:=hw.rng c.a.toNat (by omega)
      exfalso
      cases hls:less with
      |false=>exact h0 (hw.all hls _ (by omega))
      |true=>
       have he:=he hls
       unfold Dv at he
       rw [if_neg (show ¬ (Fj wh c).k=1 from k1),if_neg (show ¬ (Fj wh c).k=5 from fun e=>by have:c.k=5:=e;omega)] at he
       simp only [Bool.or_eq_false_iff,decide_eq_false_iff_not] at he
       have h6:=he.1.1
       rw [show (Fj wh c).a=wh c.a.toNat from Dx hw ha0] at h6
       omega
    ·rw [if_neg (show ¬ (Fj wh c).k=4 from k4),e2] at hs
     rw [if_neg k4]
     by_cases h0:0<=wh c.b.toNat
     ·exact dn _ _ (by omega) h0 hs
     ·have h3:=hw.rng c.b.toNat (by omega)
      exfalso
      cases hls:less with
      |false=>exact h0 (hw.all hls _ (by omega))
      |true=>
       have he:=he hls
       unfold Dv at he
       rw [if_neg (show ¬ (Fj wh c).k=1 from k1),e2] at he
       split at he
       ·rw [decide_eq_false_iff_not] at he
        omega
       ·simp only [Bool.or_eq_false_iff,decide_eq_false_iff_not] at he
        omega
   obtain ⟨o3,o4,o5⟩:=r3 k1 k2 p hp hsrc
   refine ⟨fun k3 hfn=>?_,fun k4 hfn=>?_,fun k5 hfn=>⟨?_,fun k hk1 hk2=>?_⟩⟩
   ·have k3:c.k=3:=k3
    have ha0:=(h5 (by omega)).1
    rw [show (Fj wh c).a=wh c.a.toNat from Dx hw ha0,ex]
    intro q1 q2 o ho
    have hm:=o3 k3 hfn ha0 hxv.1 o (dn _ _ (by omega) q2 ho)
    exact up _ _ (by omega) (nn _ _ (by omega) hm) hm
   ·have k4:c.k=4:=k4
    rw [ex,e2]
    intro q1 q2 o ho
    have hm:=o4 k4 hfn hxv.1 hb.1 o (dn _ _ (by omega) q2 ho)
    exact up _ _ (by omega) q1 hm
   ·have k5:c.k=5:=k5
    rw [ex]
    intro q1 q2 o ho
    obtain ⟨ha0,ea⟩:=Uf (wh:=wh) (x:=c.a) q1
    have hm:=(o5 k5 hfn).1 ha0 hxv.1 o (dn _ _ (by omega) q2 ho)
    rw [show (Fj wh c).a=wh c.a.toNat from ea]
    exact up _ _ (by omega) (nn _ _ (by omega) hm) hm
   ·have k5:c.k=5:=k5
    have hk1:k<(xs[p]!).args.length:=by simpa [L9] using hk1
    have hk2:k<c.args.length:=by simpa [Fj] using hk2
    rw [show (L9 wh xs[p]!).args[k]! = atF wh (xs[p]!).args[k]! from Ro hk1,show (Fj wh c).args[k]! = atF wh c.args[k]! from Ro hk2]
    intro q1 q2 o ho
    obtain ⟨t0,et⟩:=Uf q1
    obtain ⟨f0,ef⟩:=Uf q2
    have ht:=(hX _ (E7 hp)).2.2 _ (Hn hk1)
    have hf:=hargs _ (Hn hk2)
    rw [ef] at ho q2
    rw [et] at q1 ⊢
    have hm:=(o5 k5 hfn).2 k hk1 hk2 t0 f0 o (dn _ _ (by omega) q2 ho)
    exact up _ _ (by omega) q1 hm
 exact dn v o hv h0 (h'.least _ hcl _ _ hm)
theorem Ak2 (hr:Ba ⟨n,xs,ys⟩=true)(h:IsLeast ⟨(n:Int),xs,ys⟩ M)(hw:WOk n xs ys M wh cnt less)(h':IsLeast ⟨(cnt:Int),xs.map (L9 wh),Hv wh less ys⟩ M'){v o:Nat}(hm:mg M v o=true):0<=wh v/\mg M' (wh v).toNat o=true:=by
 have hc:=closed_con.1 h.closed
 have hc':=closed_con.1 h'.closed
 have hP:=D4 hr
 have hX:=Ea hr
 have nn:∀ (a o:Nat),a<n->mg M a o=true->0<=wh a:=fun a o ha hm=>Int.not_lt.1 fun hl=>hw.none a ha hl o hm
 have dn:∀ (a o:Nat),mg (N5 n xs.length fun v o=>0<=wh v/\mg M' (wh v).toNat o=true) a o=true->a<n/\0<=wh a/\mg M' (wh a).toNat o=true/\mg M a o=true:=fun a o hm=>by
  obtain ⟨h1,h2,h3,h4⟩:=mg_mk.1 hm
  exact ⟨h1,h3,h4,Ac2 hr h hw h' h1 h3 h4⟩
 have mk:∀ (a o:Nat),a<n->0<=wh a->mg M' (wh a).toNat o=true->mg (N5 n xs.length fun v o=>0<=wh v/\mg M' (wh v).toNat o=true) a o=true:=fun a o ha h0 hm=>mg_mk.2 ⟨ha,(Wt h (Ac2 hr h hw h' ha h0 hm)).2,h0,hm⟩
 have hcl:Do ⟨(n:Int),xs,ys⟩ (N5 n xs.length fun v o=>0<=wh v/\mg M' (wh v).toNat o=true):=closed_con.2 fun c hcm=>by
  obtain ⟨hk,ha,hb,hl,hargs,h5⟩:=hP c hcm
  obtain ⟨r1,r2,r3⟩:=hc c hcm
  have hkept:=Ajx (wh:=wh) (less:=less) hcm
  refine ⟨fun k1=>?_,fun k2=>?_,fun k1 k2 p hp hs=>?_⟩
  ·have ha0:=(h5 (by omega)).1
   have hm:=r1 k1
   have hwa:=nn _ _ (by omega) hm
   have e1:(Fj wh c).a=wh c.a.toNat:=Dx hw ha0
   have e2:(Fj wh c).b=c.b:=if_pos k1
   rcases hkept with ⟨_,he⟩|hin
   ·unfold Dv at he
    rw [if_pos (show (Fj wh c).k=1 from k1),e1,decide_eq_true_eq] at he
    omega
   ·have:=(hc' _ hin).1 k1
    rw [e1,e2] at this
    exact mk _ _ (by omega) hwa this
  ·have ha0:=(h5 (by omega)).1
   have hb2:=hb.2.2 (by omega)
   have e1:(Fj wh c).a=wh c.a.toNat:=Dx hw ha0
   have e2:(Fj wh c).b=wh c.b.toNat:=(if_neg (by omega:¬ c.k=1)).trans (Dx hw hb.1)
   intro q1 q2 o ho
   obtain ⟨h1,h2,h3,h4⟩:=dn _ _ ho
   have hm:=r2 k2 ha0 hb.1 o h4
   have hwa:=nn _ _ (by omega) hm
   rcases hkept with ⟨_,he⟩|hin
   ·unfold Dv at he
    rw [if_neg (show ¬ (Fj wh c).k=1 from by show ¬ c.k=1;omega),if_neg (show ¬ (Fj wh c).k=5 from by show ¬ c.k=5;omega),e1,e2] at he
    simp only [Bool.or_eq_true,Bool.and_eq_true,decide_eq_true_eq] at he
    have e3:wh c.a.toNat=wh c.b.toNat:=by omega
    exact mk _ _ (by omega) hwa (by rw [e3];exact h3)
   ·have:=(hc' _ hin).2.1 k2
    rw [e1,e2] at this
    exact mk _ _ (by omega) hwa (this hwa h2 o h3)
  ·have hb2:=hb.2.2 k1
   have hxv:=(hX _ (E7 hp)).1
   have hxl:=hw.loo (xs[p]!).v.toNat (by omega) (Ez (E7 hp) (.inl (by omega)))
   have ex:(L9 wh xs[p]!).v=wh (xs[p]!).v.toNat:=Dx hw hxv.1
   have e2:(Fj wh c).b=wh c.b.toNat:=(if_neg k1).trans (Dx hw hb.1)
   obtain ⟨s1,s2,s3,s4⟩:=dn _ _ hs
   obtain ⟨o3,o4,o5⟩:=r3 k1 k2 p hp s4
   have hobj:Fj wh c∈Hv wh less ys->Am1 (Fj wh c) (L9 wh xs[p]!) M':=fun hin=>by
    have hp':p<(xs.map (L9 wh)).length:=by simpa using hp
    have:=(hc' _ hin).2.2 k1 k2 p hp' (by
     unfold Cs at s2 s3 ⊢
     by_cases k4:c.k=4
     ·have ha0:=(h5 (by omega)).1
      rw [if_pos k4] at s2 s3
      rw [if_pos (show (Fj wh c).k=4 from k4),show (Fj wh c).a=wh c.a.toNat from Dx hw ha0]
      exact s3
     ·rw [if_neg k4] at s2 s3
      rw [if_neg (show ¬ (Fj wh c).k=4 from k4),e2]
      exact s3)
    rwa [An2 hp] at this
   refine ⟨fun k3 hfn=>?_,fun k4 hfn=>?_,fun k5 hfn=>⟨?_,fun k hk1 hk2=>?_⟩⟩
   ·have ha0:=(h5 (by omega)).1
    have e1:(Fj wh c).a=wh c.a.toNat:=Dx hw ha0
    intro q1 q2 o ho
    obtain ⟨h1,h2,h3,h4⟩:=dn _ _ ho
    have hm:=o3 k3 hfn ha0 hxv.1 o h4
    have hwa:=nn _ _ (by omega) hm
    rcases hkept with ⟨_,he⟩|hin
    ·unfold Dv at he
     rw [if_neg (show ¬ (Fj wh c).k=1 from k1),if_neg (show ¬ (Fj wh c).k=5 from by show ¬ c.k=5;omega),e1,e2] at he
     simp only [Bool.or_eq_true,Bool.and_eq_true,decide_eq_true_eq] at he
     have hsb:Cs c=c.b.toNat:=by unfold Cs;rw [if_neg (by omega)]
     rw [hsb] at s2
     rcases he with (he|he)|⟨he,_⟩
     ·omega
     ·omega
     ·exact absurd (show c.k=2 from he) k2
    ·have:=(hobj hin).1 k3 hfn
     rw [e1,ex] at this
     exact mk _ _ (by omega) hwa (this hwa h2 o h3)
   ·have ha0:=(h5 (by omega)).1
    have e1:(Fj wh c).a=wh c.a.toNat:=Dx hw ha0
    intro q1 q2 o ho
    obtain ⟨h1,h2,h3,h4⟩:=dn _ _ ho
    rcases hkept with ⟨_,he⟩|hin
    ·unfold Dv at he
     rw [if_neg (show ¬ (Fj wh c).k=1 from k1),if_neg (show ¬ (Fj wh c).k=5 from by show ¬ c.k=5;omega),e1,e2] at he
     simp only [Bool.or_eq_true,Bool.and_eq_true,decide_eq_true_eq] at he
     have hsb:Cs c=c.a.toNat:=by unfold Cs;rw [if_pos k4]
     rw [hsb] at s2
     rcases he with (he|he)|⟨he,_⟩
     ·omega
     ·omega
     ·exact absurd (show c.k=2 from he) k2
    ·have:=(hobj hin).2.1 k4 hfn
     rw [e2,ex] at this
     exact mk _ _ (by omega) hxl (this hxl h2 o h3)
   ·have hin:Fj wh c∈Hv wh less ys:=by
     rcases hkept with ⟨_,he⟩|hin
     ·exfalso
      unfold Dv at he
      rw [if_neg (show ¬ (Fj wh c).k=1 from k1),if_pos (show (Fj wh c).k=5 from k5),e2,decide_eq_true_eq] at he
      have hsb:Cs c=c.b.toNat:=by unfold Cs;rw [if_neg (by omega)]
      rw [hsb] at s2
      omega
     ·exact hin
    intro q1 q2 o ho
    obtain ⟨h1,h2,h3,h4⟩:=dn _ _ ho
    have hm:=(o5 k5 hfn).1 q1 hxv.1 o h4
    have hwa:=nn _ _ (by omega) hm
    have:=((hobj hin).2.2 k5 hfn).1
    rw [show (Fj wh c).a=wh c.a.toNat from Dx hw q1,ex] at this
    exact mk _ _ (by omega) hwa (this hwa h2 o h3)
   ·have hin:Fj wh c∈Hv wh less ys:=by
     rcases hkept with ⟨_,he⟩|hin
     ·exfalso
      unfold Dv at he
      rw [if_neg (show ¬ (Fj wh c).k=1 from k1),if_pos (show (Fj wh c).k=5 from k5),e2,decide_eq_true_eq] at he
      have hsb:Cs c=c.b.toNat:=by unfold Cs;rw [if_neg (by omega)]
      rw [hsb] at s2
      omega
     ·exact hin
    intro q1 q2 o ho
    obtain ⟨h1,h2,h3,h4⟩:=dn _ _ ho
    have ht:=(hX _ (E7 hp)).2.2 _ (Hn hk1)
    have hf:=hargs _ (Hn hk2)
    have hwt:=hw.loo (xs[p]!).args[k]!.toNat (by omega) (Ez (E7 hp) (.inr (by rw [show (((xs[p]!).args[k]!.toNat:Nat):Int)=(xs[p]!).args[k]! by omega];exact Hn hk1)))
    have:=((hobj hin).2.2 k5 hfn).2 k (by simpa [L9] using hk1) (by simpa [Fj] using hk2)
    rw [show (L9 wh xs[p]!).args[k]! = atF wh (xs[p]!).args[k]! from Ro hk1,show (Fj wh c).args[k]! = atF wh c.args[k]! from Ro hk2,Dx hw ht.1,Dx hw q2] at this
    exact mk _ _ (by omega) hwt (this hwt h2 o h3)
 exact (mg_mk.1 (h.least _ hcl v o hm)).2.2
theorem Aa4 (hr:Ba ⟨n,xs,ys⟩=true)(h:IsLeast ⟨(n:Int),xs,ys⟩ M)(hw:WOk n xs ys M wh cnt less)(h':IsLeast ⟨(cnt:Int),xs.map (L9 wh),Hv wh less ys⟩ M'){v:Nat}(hv:v<n)(o:Nat):mg M v o=true↔0<=wh v/\mg M' (wh v).toNat o=true:=
 ⟨Ak2 hr h hw h',fun ⟨h0,hm⟩=>Ac2 hr h hw h' hv h0 hm⟩
theorem Ady {lab:Nat->Int}{mode:Int}(hr:Ba ⟨n,xs,ys⟩=true)(h:IsLeast ⟨(n:Int),xs,ys⟩ M)(hcan:Canon n wh (fun v u=>Pj lab v=Pj lab u) (fun v=>lab v<0))(hL:LabM n xs ys mode lab):WOk n xs ys M wh (F7 wh n) (decide (¬mode=0)):=by
 have hG:GOk n (gInto n xs ys) (gBases n xs ys) (gLoose n xs ys):=gok hr
 have hni:=hG.ni
 have hz:∀ v,v<n->(lab v<0->SrcZ n xs.length ⟨n,xs,ys⟩ v):=fun v hv hneg=>by
  by_cases m1:mode=1
  ·obtain ⟨kn,of,hK,hlab⟩:=hL.ovs m1
   have hge:=((Ju hG hK kn.length (Nat.le_refl _)).lab _ (hK.at_ v (by omega)).1).1
   have hge:-1<=gl n xs ys kn of v:=hge
   have e:=hlab v hv
   have:=(Ak4 hG hK xs.length (v:=v) (by omega)).1 (show gl n xs ys kn of v=-1 by omega)
   exact fun j hj=>this j ((Ml hr hv).2 hj)
  ·by_cases m2:mode=2
   ·have hc2:=hL.hu m2
    exact (hc2.none v hv).1 (by have:=(hc2.le v hv).1;omega)
   ·have:=hL.plain m1 m2 v hv
    omega
 have hs:∀ v u,v<n->u<n->¬lab v<0->¬lab u<0->lab v=lab u->SrcE n xs.length ⟨n,xs,ys⟩ v u:=fun v u hv hu h1 h2 e=>by
  by_cases m1:mode=1
  ·obtain ⟨kn,of,hK,hlab⟩:=hL.ovs m1
   have:=Ai0 hG hK xs.length (v:=v) (u:=u) (by omega) (by omega) (by rw [show lv n (gInto n xs ys) (gBases n xs ys) (gLoose n xs ys) kn of v=lab v from (hlab v hv).symm,show lv n (gInto n xs ys) (gBases n xs ys) (gLoose n xs ys) kn of u=lab u from (hlab u hu).symm,e])
   exact fun j=>by rw [<- Ml hr hv,<- Ml hr hu];exact this j
  ·by_cases m2:mode=2
   ·exact ((hL.hu m2).same v u hv hu).1 e
   ·have e1:=hL.plain m1 m2 v hv
    have e2:=hL.plain m1 m2 u hu
    have:v=u:=by omega
    subst this
    exact fun j=>Iff.rfl
 have hle:∀ v,F7 wh v<=v:=Nn wh
 refine ⟨fun v hv=>⟨(hcan.le v hv).1,Acy hcan hv⟩,hle n,fun v u hv hu h0 e o=>?_,fun v hv hneg o=>?_,fun v hv hloo=>?_,fun hless v hv=>?_⟩
 ·have hk:=(hcan.same v u hv hu).1 e
  have nv:¬ lab v<0:=fun hl=>by have:=(hcan.none v hv).2 hl;omega
  have nu:¬ lab u<0:=fun hl=>by have:=(hcan.none u hu).2 hl;omega
  have hk:Pj lab v=Pj lab u:=hk
  unfold Pj at hk
  rw [if_neg nv,if_neg nu] at hk
  exact Aey hr h hv hu (hs v u hv hu nv nu hk) o
 ·have hl:=(hcan.none v hv).1 (by have:=(hcan.le v hv).1;omega)
  exact Ag6 hr h (hz v hv hl) o
 ·apply Int.not_lt.1
  intro hneg
  have hl:=(hcan.none v hv).1 (by have:=(hcan.le v hv).1;omega)
  exact hz v hv hl _ (.seed (.inr ⟨rfl,hloo⟩))
 ·have m0:mode=0:=by simpa using hless
  have e:=hL.plain (by omega) (by omega) v hv
  apply Int.not_lt.1
  intro hneg
  have hl:=(hcan.none v hv).1 (by have:=(hcan.le v hv).1;omega)
  omega
end
open Go.RowKit
theorem Akz {n n2 C:Nat}{M M2:Mat}(h:Shape n C M)(h2:Shape n2 C M2){v w:Nat}(hv:v<n)(hw:w<n2)(e:∀ o,mg M v o=true↔mg M2 w o=true):M[v]! = M2[w]! := by
 have h1:=h.cols v hv
 have h3:=h2.cols w hw
 refine List.ext_getElem (by omega) fun k h4 h5=>?_
 have:=e k
 unfold mg at this
 rw [getElem!_pos _ k h4,getElem!_pos _ k h5] at this
 exact Bool.eq_iff_iff.2 this
theorem Ue {r:List Bool}(h:∀ j:Nat,¬r[j]! = true):Fw r=[]:=by
 unfold Fw Pg
 rw [List.map_eq_nil_iff,List.filter_eq_nil_iff]
 exact fun j _=>h j
theorem Uu {n C:Nat}{M:Mat}(h:Shape n C M){v:Nat}(hv:v<n):(Df M)[v]! = Fw M[v]! := by
 have hl:=h.rows
 rw [getElem!_pos _ v (by simp [Df];omega),getElem!_pos M v (by omega)]
 simp [Df]
theorem Uo {n C:Nat}{M:Mat}(h:Shape n C M):(Df M).length=n:=by
 have:=h.rows
 simp [Df,this]
theorem Ky {n:Nat}{xs:List Cell}{ys:List Con}(hr:Ba ⟨n,xs,ys⟩=true):∃ M,IsLeast ⟨(n:Int),xs,ys⟩ M:=by
 have hP:=D4 hr
 have hX:=Ea hr
 have dn:∀ v o,mg (N5 n xs.length fun v o=>∀ N,Do ⟨(n:Int),xs,ys⟩ N->mg N v o=true) v o=true->o<xs.length/\∀ N,Do ⟨(n:Int),xs,ys⟩ N->mg N v o=true:=fun v o h=>⟨(mg_mk.1 h).2.1,(mg_mk.1 h).2.2⟩
 refine ⟨N5 n xs.length fun v o=>∀ N,Do ⟨(n:Int),xs,ys⟩ N->mg N v o=true,?_,?_,fun N hN v o hm=>(mg_mk.1 hm).2.2 N hN⟩
 ·refine ⟨by simp [N5],fun i hi=>?_⟩
  rw [getElem!_pos _ i (by simpa [N5] using hi)]
  simp [N5]
 ·refine closed_con.2 fun c hcm=>?_
  obtain ⟨hk,ha,hb,hl,hargs,h5⟩:=hP c hcm
  refine ⟨fun k1=>?_,fun k2 q1 q2 o ho=>?_,fun k1 k2 p hp hs=>?_⟩
  ·have:=(h5 (by omega)).1
   have:=hb.2.1 k1
   exact mg_mk.2 ⟨by omega,by omega,fun N hN=>(closed_con.1 hN c hcm).1 k1⟩
  ·obtain ⟨h1,h2⟩:=dn _ _ ho
   exact mg_mk.2 ⟨by omega,h1,fun N hN=>(closed_con.1 hN c hcm).2.1 k2 q1 q2 o (h2 N hN)⟩
  ·obtain ⟨_,hsN⟩:=dn _ _ hs
   have hxv:=(hX _ (E7 hp)).1
   have hr3:=fun N hN=>(closed_con.1 hN c hcm).2.2 k1 k2 p hp (hsN N hN)
   refine ⟨fun k3 hfn q1 q2 o ho=>?_,fun k4 hfn q1 q2 o ho=>?_,fun k5 hfn=>⟨fun q1 q2 o ho=>?_,fun k hk1 hk2 q1 q2 o ho=>?_⟩⟩
   ·obtain ⟨h1,h2⟩:=dn _ _ ho
    exact mg_mk.2 ⟨by omega,h1,fun N hN=>(hr3 N hN).1 k3 hfn q1 q2 o (h2 N hN)⟩
   ·obtain ⟨h1,h2⟩:=dn _ _ ho
    exact mg_mk.2 ⟨by omega,h1,fun N hN=>(hr3 N hN).2.1 k4 hfn q1 q2 o (h2 N hN)⟩
   ·obtain ⟨h1,h2⟩:=dn _ _ ho
    exact mg_mk.2 ⟨by omega,h1,fun N hN=>((hr3 N hN).2.2 k5 hfn).1 q1 q2 o (h2 N hN)⟩
   ·obtain ⟨h1,h2⟩:=dn _ _ ho
    have:=(hX _ (E7 hp)).2.2 _ (Hn hk1)
    exact mg_mk.2 ⟨by omega,h1,fun N hN=>((hr3 N hN).2.2 k5 hfn).2 k hk1 hk2 q1 q2 o (h2 N hN)⟩
theorem Uw (r:List Bool):(Fw r).length<=r.length:=by
 unfold Fw Pg
 rw [List.length_map]
 exact Nat.le_trans (List.length_filter_le _ _) (by simp)
theorem Ru {n cnt:Nat}{xs:List Cell}{ys:List Con}{M M':Mat}{wh:Nat->Int}{less:Bool}(hr:Ba ⟨n,xs,ys⟩=true)(h:IsLeast ⟨(n:Int),xs,ys⟩ M)(hw:WOk n xs ys M wh cnt less)(h':IsLeast ⟨(cnt:Int),xs.map (L9 wh),Hv wh less ys⟩ M') :
  ((List.range n).map wh).map (Hm (Df M'))=Df M:=by
 have hS1:Shape n xs.length M:=by simpa using h.sh
 have hS2:Shape cnt xs.length M':=by simpa using h'.sh
 have h1:=Uo hS1
 have h2:=Uo hS2
 refine List.ext_getElem (by simp [h1]) fun v hv1 hv2=>?_
 have hv:v<n:=by simpa using hv1
 have hp:=Uu hS1 hv
 rw [getElem!_pos _ v hv2] at hp
 rw [hp]
 have hsv:=fun o=>Aa4 hr h hw h' hv o
 have hrv:=hw.rng v hv
 simp only [List.getElem_map,List.getElem_range]
 unfold Hm
 by_cases h0:wh v<0
 ·rw [if_neg (by omega)]
  refine (Ue fun j hj=>?_).symm
  have hj:mg M v j=true:=hj
  have:=(hsv j).1 hj
  omega
 ·obtain ⟨q,hq⟩:=Int.eq_ofNat_of_zero_le (show 0<=wh v by omega)
  have hqc:q<cnt:=by omega
  rw [if_pos (by rw [h2];omega),hq,Int.toNat_natCast,Uu hS2 hqc]
  rw [Akz hS1 hS2 hv hqc fun o=>?_]
  have:=hsv o
  rw [hq,Int.toNat_natCast] at this
  exact this.trans ⟨fun h=>h.2,fun h=>⟨by omega,h⟩⟩
theorem Aiq (n:Nat)(xs:List Cell)(ys:List Con)(A1 A2:Option Addr)(c1 c2:Nat)(mode:Int)(w:World)(hright:Ba ⟨n,xs,ys⟩=true)(hmode:0<=mode/\mode<=2)(hr1:RCells w A1 xs)(hr2:RCons w A2 ys)(hT:Tab w) :
  Calls Tryz.prog 49 #[.agg #[.int .i64 n,.slice A1 xs.length c1,.slice A2 ys.length c2],.int .u8 mode] w fun e w'=>∃ M g,e=.returned (.tuple #[.slice (some ⟨g,0,none⟩) n n,.int .i64 0])/\IsLeast ⟨(n:Int),xs,ys⟩ M/\RRows w' (some ⟨g,0,none⟩) (Df M)/\(w.heap.size<=g/\∃ vs,XM w.heap.size g w' vs (Df M))/\Below w.heap.size w w':=by
 refine A9 (args:=[.agg #[.int .i64 n,.slice A1 xs.length c1,.slice A2 ys.length c2],.int .u8 mode]) Aa Tryz.func49 rfl Tryz.ntmps49 rfl ?_;conv=>whnf
 refine Ci rfl rfl rfl rfl rfl rfl ?_
 intro g2 w1 hn1
 have hb2:=hn1.blk
 have hB1:=hn1.below
 have hr1:=hr1.up Cd hB1
 have hr2:=hr2.up Ck hB1
 have hT:=hT.up hB1
 clear hn1
 refine Ab Aa ?_
 conv=>whnf
 (repeat' ((first|refine C6 Aa hb2 rfl rfl rfl rfl rfl rfl (Ab Aa ?_)|fail)<;>conv=>whnf))
 refine Bv Be9 (Be8 n xs ys A1 A2 c1 c2 mode w1 hright hmode hr1 hr2) rfl rfl rfl rfl rfl rfl rfl ?_
 rintro _ w3 ⟨gw,wh,lab,H,B,D1,d1,D2,d2,rfl,hA,hcan,hLM,hB3⟩
 refine ⟨_,rfl,Ab Aa ?_⟩
 conv=>whnf
 skip
 refine Bm Aa rfl rfl rfl rfl rfl rfl ?_
 intro g6 w4 hn4
 refine Ab Aa ?_
 conv=>whnf
 refine Di Aa hn4.blk rfl rfl rfl rfl rfl (by simp [Value.oneCell']) rfl rfl ?_
 intro w5 hp5
 have hB35:Below w3.heap.size w3 w5:=hp5.below hn4.below (by have:=hn4.at_;omega) (by have:=hn4.size;omega)
 have hbt:=hp5.blk
 have hA:=hA.up hB35
 obtain ⟨ht1,ht2⟩:=hA.rows
 have hB15:=Ax hB3 hB35
 have hT:=hT.up hB15
 obtain ⟨M,hIL⟩:=Ky hright
 have hW:=Ady hright hIL hcan hLM
 have hsr:=R8 hright hW
 have hnn:=Gx hright
 have hri:=Af1 (by omega) hA.wr fun v hv=>by have:=hW.rng v hv;have:=hW.cnt;omega
 have hrn:∀ v,v<n->-1<=wh v:=fun v hv=>(hW.rng v hv).1
 clear hp5 hn4 hB3 hB35 hr1 hr2 hA
 refine Ab Aa ?_
 conv=>whnf
 (repeat' ((first|refine C6 Aa hbt rfl rfl rfl rfl rfl rfl (Ab Aa ?_)|fail)<;>conv=>whnf))
 have hl:=Oe (F7 wh n) (xs.map (L9 wh)) (Hv wh (decide (¬mode=0)) ys) D1 D2 d1 d2 w5 ht1 ht2 hsr hT
 rw [List.length_map] at hl
 refine Bv Ba7 hl rfl rfl rfl rfl rfl rfl rfl ?_
 rintro _ w6 ⟨M',Ap,cap,k,rfl,hIL',hrr,hcap,hk,hB6⟩
 have he:=Ru hright hIL hW hIL'
 have hS2:Shape (F7 wh n) xs.length M':=by simpa using hIL'.sh
 have hpl:=Uo hS2
 have hex:=Sp (Df M') ((List.range n).map wh) Ap (some ⟨gw,0,none⟩) cap n w6 hrr (hri.up (Bj _) hB6) (by rw [hpl];have:=hW.cnt;omega) (by simp;omega) (fun i hi=>by
  rw [Uu hS2 (by omega)]
  have:=Uw M'[i]!
  have:=hS2.cols i (by omega)
  omega)
 rw [hpl,List.length_map,List.length_range,he] at hex
 refine ⟨_,rfl,Ab Aa ?_⟩
 conv=>whnf
 skip
 refine Bv Blz hex rfl rfl rfl rfl rfl rfl rfl ?_
 rintro _ w7 ⟨g,rfl,hR,⟨hg,vs,hXM⟩,hB7⟩
 refine ⟨_,rfl,Ab Aa ?_⟩
 conv=>whnf
 skip
 refine Yp rfl rfl rfl ?_
 have hB16:=Ax (Ax hB1 hB15) hB6
 have hsz:=hB16.size
 exact ⟨M,g,rfl,hIL,hR,⟨by omega,vs,hXM.blk,hXM.len,fun i hi=>⟨(hXM.row i hi).1.lower hsz,(hXM.row i hi).2⟩⟩,Ax (Ax hB1 hB15) (Ax hB6 hB7)⟩
def goX:List Cell:=[⟨false,0,[]⟩,⟨true,1,[]⟩,⟨false,2,[]⟩]
def goY:List Con:=[⟨1,0,2,[]⟩]
def goP (v o:Nat):Prop:=v=0/\o=2
theorem Aa2:IsLeast ⟨((3:Nat):Int),goX,goY⟩ (N5 3 3 goP):=by
 have g:∀ v o,mg (N5 3 3 goP) v o=true↔goP v o:=fun v o=>by
  rw [mg_mk]
  exact ⟨fun h=>h.2.2,fun h=>⟨by unfold goP at h;omega,by unfold goP at h;omega,h⟩⟩
 refine ⟨⟨by simp [N5],fun i hi=>by rw [getElem!_pos _ i (by simpa [N5] using hi)];simp [N5,goX]⟩,closed_con.2 fun c hc=>?_,fun N hN v o hm=>?_⟩
 ·simp only [goY,List.mem_cons,List.not_mem_nil,or_false] at hc
  subst hc
  exact ⟨fun _=>(g _ _).2 ⟨rfl,rfl⟩,fun h=>absurd (show (1:Int)=2 from h) (by decide),fun h=>absurd rfl h⟩
 ·have hN:=closed_con.1 hN
  obtain ⟨rfl,rfl⟩:=(g v o).1 hm
  exact (hN ⟨1,0,2,[]⟩ (by simp [goY])).1 rfl
theorem At6:Df (N5 3 3 goP)=[[2],[],[]]:=by
 have h0:∀ v,Fw ((List.range 3).map fun o=>@decide (goP v o) (Classical.propDecidable _))=if v=0 then [2] else []:=fun v=>by
  by_cases hv:v=0
  ·subst hv
   simp [goP,Fw,Pg,List.range_succ]
  ·simp [goP,hv,Fw,Pg,List.range_succ]
 unfold Df N5
 rw [List.map_map]
 have:(Fw ∘ fun v=>(List.range 3).map fun o=>@decide (goP v o) (Classical.propDecidable _))=fun v=>if v=0 then [2] else []:=funext h0
 rw [this]
 rfl
section
variable {w0 w:World}{n:Nat}{F:Fm}{L L' L1:List Res}{gX cX gY cY:Nat}
theorem Am3 (hw:SL w0 w L)(hm:Has L (Ow 99 3 ⟨some ⟨gX,0,none⟩,3,cX⟩ [.bool false,.int .i64 0,.slice none 0 0,.bool true,.int .i64 1,.slice none 0 0,.bool false,.int .i64 2,.slice none 0 0])):RCells w (some ⟨gX,0,none⟩) goX:=by
 obtain ⟨A,c,e,_,h⟩:=Dp (d:=I5) (xs:=goX) (hw.own hm) rfl ⟨rfl,fun i hi=>by
  have hi:i<3:=hi
  have:i=0\/i=1\/i=2:=by omega
  rcases this with rfl|rfl|rfl<;>exact ⟨none,0,rfl,Nat.le_refl _,RowR.nil ..,by decide,by decide⟩⟩
 injection e with e1 _ _
 rw [show some (⟨gX,0,none⟩:Addr)=A from e1]
 exact h
theorem Ak5 (hw:SL w0 w L)(hm:Has L (Ow 77 4 ⟨some ⟨gY,0,none⟩,1,cY⟩ [.int .u8 1,.int .i64 0,.int .i64 2,.slice none 0 0])):RCons w (some ⟨gY,0,none⟩) goY:=by
 obtain ⟨A,c,e,_,h⟩:=Dp (d:=Rr) (xs:=goY) (hw.own hm) rfl ⟨rfl,fun i hi=>by
  have hi:i<1:=hi
  have:i=0:=by omega
  subst this
  exact ⟨none,0,rfl,Nat.le_refl _,RowR.nil ..,by decide,by decide,by decide,by decide⟩⟩
 injection e with e1 _ _
 rw [show some (⟨gY,0,none⟩:Addr)=A from e1]
 exact h
theorem Bn7 (hT:Tab w0):CS w0 49 [.agg #[.int .i64 3,.slice (some ⟨gX,0,none⟩) 3 cX,.slice (some ⟨gY,0,none⟩) 1 cY],.int .u8 2]
  (Ow 99 3 ⟨some ⟨gX,0,none⟩,3,cX⟩ [.bool false,.int .i64 0,.slice none 0 0,.bool true,.int .i64 1,.slice none 0 0,.bool false,.int .i64 2,.slice none 0 0]::Ow 77 4 ⟨some ⟨gY,0,none⟩,1,cY⟩ [.int .u8 1,.int .i64 0,.int .i64 2,.slice none 0 0]::L)
  (fun y:Nat×(Option Addr×Nat)×Value×Value=>.tuple #[.slice (some ⟨y.1,0,none⟩) 3 3,.int .i64 0]) (fun y=>Bk y.1 [.slice y.2.1.1 1 y.2.1.2,y.2.2.1,y.2.2.2] 27::L) (fun _=>True):=.mk fun w hw=>by
 refine (Aiq 3 goX goY _ _ cX cY 2 w (by decide) (by decide) (Am3 hw .here) (Ak5 hw (.there .here)) (hT.up hw.bel)).mono ?_
 rintro e w' ⟨M,g,rfl,hIL,hR,⟨hg,vs,hXM⟩,hB⟩
 have hM:=hIL.unique Aa2
 subst hM
 rw [At6] at hXM
 have hl:vs.length=3:=hXM.len
 match vs,hl,hXM with
 |[v0,v1,v2],_,hXM=>
  obtain ⟨A,c,hv,_,_⟩:=(hXM.row 0 (by decide)).1.row
  have hv:v0=.slice A 1 c:=hv
  subst hv
  exact ⟨(g,(A,c),v1,v2),rfl,hw.tail.tail.add hB (Bk_P.2 hXM.blk) (fun b hb=>by rw [Bk_fp.1 hb];exact hg),trivial⟩
theorem Aj9:CS w0 52 [.int .i64 0] L (fun _:Unit=>Yw) (fun _=>L) (fun _=>True):=by
 refine Ai (args:=[.int .i64 0]) Tryz.func52 rfl Tryz.ntmps52 rfl ?_;conv=>whnf
 intro g1
 conv=>whnf
 (repeat' ((first|refine Cy ?_|fail)<;>conv=>whnf))
 exact f1 () trivial
theorem Bh4:CS w0 22 [] L (fun _:Unit=>.agg #[.int .i64 16384,.int .i64 16384,.int .i64 131072]) (fun _=>L) (fun _=>True):=by
 refine Ai (args:=[]) Tryz.func22 rfl Tryz.ntmps22 rfl ?_;conv=>whnf
 intro g1
 conv=>whnf
 (repeat' ((first|refine Cy ?_|fail)<;>conv=>whnf))
 exact f1 () trivial
theorem Av8 {z:MZ}(hT:Tab w0)(hz:z.Ok):CS w0 18 [z.v,.int .u8 2,.agg #[.int .i64 16384,.int .i64 16384,.int .i64 131072]] (z.fG 102 103 104 1 0 2 L)
  (fun y:(Nat×(Option Addr×Nat)×Value×Value)×Nat×Nat=>.tuple #[.agg #[.slice (some ⟨y.1.1,0,none⟩) 3 3,.slice none 0 0,.slice (some ⟨y.2.1,0,none⟩) 1 y.2.2],Yw])
  (fun y=>Bk y.1.1 [.slice y.1.2.1.1 1 y.1.2.1.2,y.1.2.2.1,y.1.2.2.2] 27::L) (fun _=>True):=by
 obtain ⟨st,gl,⟨fa,fm,fc⟩,si,gR,cR,gE,cE⟩:=z
 have h3:fm=1:=hz.fn
 subst h3
 refine Ai (args:=[.agg #[st.v,gl.v,.slice fa 1 fc,.slice (some ⟨gE,0,none⟩) 1 cE],.int .u8 2,.agg #[.int .i64 16384,.int .i64 16384,.int .i64 131072]]) Tryz.func18 rfl Tryz.ntmps18 rfl ?_;conv=>whnf
 intro g3
 conv=>whnf
 skip
 intro g5
 conv=>whnf
 skip
 intro g6
 conv=>whnf
 intro g7
 conv=>whnf
 (repeat' ((first|refine rB ?_|refine rA ?_|fail)<;>conv=>whnf))
 refine cC fn9 (Aw8 (z:=⟨st,gl,⟨fa,1,fc⟩,si,gR,cR,gE,cE⟩) hz) ?_
 rintro ⟨⟨gX,cX⟩,⟨gY,cY⟩⟩ -
 conv=>whnf
 skip
 intro g8
 conv=>whnf
 skip
 intro g9
 conv=>whnf
 (repeat' ((first|refine rB ?_|refine rA ?_|refine Cy ?_|fail)<;>conv=>whnf))
 refine cC Bm2 (Bn7 (gX:=gX) (cX:=cX) (gY:=gY) (cY:=cY) hT) ?_
 rintro ⟨gq,⟨Aq,cq⟩,v1,v2⟩ -
 conv=>whnf
 (repeat' ((first|refine rA ?_|fail)<;>conv=>whnf))
 refine cC Bp0 (Al4 (z:=⟨st,gl,⟨fa,1,fc⟩,si,gR,cR,gE,cE⟩) (A:=some ⟨gq,0,none⟩) (m:=3) (c:=3) hz rfl) ?_
 rintro ⟨⟩ -
 unfold MZ.fG
 dsimp only
 conv=>whnf
 (repeat' ((first|refine rB ?_|fail)<;>conv=>whnf))
 refine cC Bm9 (Alq (gE:=gE) (cE:=cE)) ?_
 rintro ⟨gr,cr⟩ -
 conv=>whnf
 (repeat' ((first|(refine cC Biz Aj9 ?_;rintro ⟨⟩ -)|refine Cy ?_|fail)<;>conv=>whnf))
 exact f2 ((gq,(Aq,cq),v1,v2),gr,cr) trivial
end
section
variable {w0 w:World}{n:Nat}{F:Fm}{L L' L1:List Res}
theorem rXA {Kq:Value->Prop}{dst:Option Nat}{ty:TypeId}{pos:String}{after:Array Edge}{guard:Option (Nat×Bool)}(e s len:Nat){t:TypeId}{x ix:Operand}{g i:Nat}{ki:IntKind}(k:Kq (.pointer (some ⟨g,i*s,none⟩)))(hx:ev F x=.pointer (some ⟨g,0,none⟩):=by exact rfl)(hi:ev F ix=.int ki i:=by exact rfl)(h1:Ah3 tab t e s len=true:=by exact rfl)(hl:i<len:=by decide):QuS w0 L F ⟨dst,.indexAddr t x ix,ty,pos,after,guard⟩ Kq:=by
 refine .val (fun w hw=>?_) k
 unfold Ah3 at h1
 split at h1
 ·rename_i l e' sz by_ z i2 e1 e2
  simp only [Bool.and_eq_true] at h1
  have h2:=Nat.eq_of_beq_eq_true h1.1.1
  have h3:=Nat.eq_of_beq_eq_true h1.1.2
  have h4:=Nat.eq_of_beq_eq_true h1.2
  subst h2 h3 h4
  have hu:=Lt Aa e1
  have hs:=Fa (w:=w) Aa e2
  simp [execOp,hx,hi,Instr.indexAt,asIntOf,B3 hu,hs,hl,Instr.sureAddr,add_zero]
 ·cases h1
variable {K:Value->List Res->Prop}
theorem Bi8 {dst:Option Nat}{ty:TypeId}{pos:String}{after:Array Edge}{guard:Option (Nat×Bool)}{t:TypeId}{parts:Array (Nat×Operand)}{l e s:Nat}{i i2:TI}{z cs:List Value}(kk:K (.agg cs.toArray) L)(h1:tab t=some i)(hd:i.desc=.array l e)(hz:i.zero.cells=z.toArray)(h2:tab e=some i2)
  (hs:i2.size=s) (hc:Yn F (fun j=>some (j*s,s)) parts.toList z=some cs:=by exact rfl):EvS w0 L F ⟨dst,.build t parts,ty,pos,after,guard⟩ K:=⟨fun w hw=>.inl (by
 refine ⟨.agg cs.toArray,w,L,?_,hw,kk⟩
 obtain ⟨j,hj,hjz,_,_⟩:=Tv Aa h1
 have hu:=Lt Aa h1
 have hsz:=Fa (w:=w) Aa h2
 rw [hd] at hu
 have hf:=K7 hc
 rw [hs] at hsz
 have hp:(parts.map fun p=>(p.1,ev F p.2)).toList=parts.toList.map fun p=>(p.1,ev F p.2):=by simp
 simp [execOp,Instr.build,zeroValue,typeInfo,hj,hjz,hz,B3 hu,hsz,hp,hf])⟩
theorem At2 {gB:Nat}:CS w0 53 [.slice (some ⟨gB,0,none⟩) 53 53,.int .u8 0] (TX gB gp::L) (fun y:MZ=>.tuple #[y.v,Yw]) (fun y=>y.fG 102 103 104 1 0 2 L) MZ.Ok:=by
 refine Ai (args:=[.slice (some ⟨gB,0,none⟩) 53 53,.int .u8 0]) Tryz.func53 rfl Tryz.ntmps53 rfl ?_;conv=>whnf
 intro g4
 conv=>whnf
 intro g5
 conv=>whnf
 refine Bi8 ?_ rfl rfl rfl rfl rfl
 conv=>whnf
 skip
 intro g6
 conv=>whnf
 (repeat' ((first|refine rXA 199 1 2 (i:=0) ?_|refine rB ?_|refine wI (by simp only [Cj];omega) ?_|refine Cy ?_|fail)<;>conv=>whnf))
 refine cCF Bek (first:=[]) (args:=[.slice (some ⟨gB,0,none⟩) 53 53]) (caps:=[]) (Bmx (gB:=gB)) ?_
 rintro ⟨st,gl,fn,si,gR,cR,gE,cE⟩ hz
 conv=>whnf
 (repeat' ((first|refine Cy ?_|fail)<;>conv=>whnf))
 exact f2 ⟨st,gl,fn,si,gR,cR,gE,cE⟩ hz
theorem Ba6 {gB:Nat}(hT:Tab w0):CS w0 19 [.slice (some ⟨gB,0,none⟩) 53 53,.int .u8 0,.int .u8 2,.agg #[.int .i64 16384,.int .i64 16384,.int .i64 131072]] (TX gB gp::L)
  (fun y:(Nat×(Option Addr×Nat)×Value×Value)×Nat×Nat=>.tuple #[.agg #[.slice (some ⟨y.1.1,0,none⟩) 3 3,.slice none 0 0,.slice (some ⟨y.2.1,0,none⟩) 1 y.2.2],Yw])
  (fun y=>Bk y.1.1 [.slice y.1.2.1.1 1 y.1.2.1.2,y.1.2.2.1,y.1.2.2.2] 27::L) (fun _=>True):=by
 refine Ai (args:=[.slice (some ⟨gB,0,none⟩) 53 53,.int .u8 0,.int .u8 2,.agg #[.int .i64 16384,.int .i64 16384,.int .i64 131072]]) Tryz.func19 rfl Tryz.ntmps19 rfl ?_;conv=>whnf
 intro g7
 conv=>whnf
 skip
 intro g8
 conv=>whnf
 intro g9
 conv=>whnf
 (repeat' ((first|(refine cC Bo6 (At2 (gB:=gB)) ?_;rintro ⟨st,gl,fn,si,gR,cR,gE,cE⟩ hz)|refine rB ?_|fail)<;>conv=>whnf))
 intro g10
 conv=>whnf
 skip
 intro g11
 conv=>whnf
 (repeat' ((first|(refine cC Bi2 (Av8 (z:=⟨st,gl,fn,si,gR,cR,gE,cE⟩) hT hz) ?_;rintro ⟨⟨gq,⟨Aq,cq⟩,v1,v2⟩,gr,cr⟩ -)|refine rB ?_|refine rA ?_|refine Cy ?_|fail)<;>conv=>whnf))
 exact f2 ((gq,(Aq,cq),v1,v2),gr,cr) trivial
theorem Bcz (hT:Tab w0):CS w0 7 [] L (fun _:Unit=>.bool true) (fun _=>L) (fun _=>True):=by
 refine Ai (args:=[]) Tryz.func7 rfl Tryz.ntmps7 rfl ?_;conv=>whnf
 (repeat' ((first|(refine Kv ?_;intro gB)|refine Bd6 gp ?_ Tryz.underlying59 Tryz.underlying5 rfl|(refine cC Bp7 Bh4 ?_;rintro ⟨⟩ -)|(refine cC Bn0 (Ba6 (gB:=gB) hT) ?_;rintro ⟨⟨gq,⟨Aq,cq⟩,v1,v2⟩,gr,cr⟩ -)|fail)<;>conv=>whnf))
 intro g1
 conv=>whnf
 intro g2
 conv=>whnf
 (repeat' ((first|refine Ds (i:=0) (len:=3) ?_|refine rB ?_|refine Cy ?_|fail)<;>conv=>whnf))
 exact f1 () trivial
end
theorem An1 (w:World)(hT:Tab w):Calls Tryz.prog 7 #[] w fun e w'=>e=.returned (.bool true)/\Below w.heap.size w w':=
 ((Bcz (L:=[]) hT).go w (SL.start w)).mono fun e w' ⟨_,h1,h2,_⟩=>⟨h1,h2.bel⟩
theorem Sa (v c:Nat)(hv:v<=16384)(hc:c<=16384)(w:World):Calls Tryz.prog 15 #[.int .i64 (v:Int),.int .i64 (c:Int)] w fun e w'=>e=.returned (.int .i64 ((v:Int)*((c:Int)+1)+(v:Int)*(v:Int)))/\Below w.heap.size w w':=
 (Uy v c hv hc w).mono fun e w' ⟨h1,h2⟩=>⟨h1,h2▸Below.refl _ _⟩
theorem Sw (d:Draft)(A:Option Addr)(c:Nat)(mode:Int)(w:World)(hT:Tab w)(h:RActs w A d.acts)(hk:(0<=d.vars/\d.vars<=255)/\0<=d.cells/\d.cells<=255)(hm:0<=mode/\mode<=255) :
  Calls Tryz.prog 4 #[.agg #[.int .u8 d.vars,.int .u8 d.cells,.slice A d.acts.length c],.int .u8 mode] w fun e w'=>e=.returned (.bool true)/\Below w.heap.size w w':=by
 refine A9 (args:=[.agg #[.int .u8 d.vars,.int .u8 d.cells,.slice A d.acts.length c],.int .u8 mode]) Aa Tryz.func4 rfl Tryz.ntmps4 rfl ?_;conv=>whnf
 refine Ci rfl rfl rfl rfl rfl rfl ?_
 intro g1 w1 hn1
 refine Ab Aa ?_
 conv=>whnf
 refine Bv fn7 (An1 _ (hT.up hn1.below)) rfl rfl rfl rfl rfl rfl rfl ?_
 rintro _ w2 ⟨rfl,hB2⟩
 have hb:=Ac hB2 hn1.blk
 have hB:=Ax hn1.below hB2
 have hT2:=hT.up hB
 refine ⟨_,rfl,Ab Aa ?_⟩
 conv=>whnf
 by_cases hbig:40<d.acts.length
 ·(repeat' ((first|refine Aj Aa hb rfl rfl rfl rfl rfl rfl rfl (Ab Aa ?_)|(refine Ag (by first|assumption|omega) ?_)|fail)<;>conv=>whnf))
  refine Bv fn7 (An1 _ hT2) rfl rfl rfl rfl rfl rfl rfl ?_
  rintro _ w3 ⟨rfl,hB3⟩
  refine ⟨_,rfl,Ab Aa ?_⟩
  conv=>whnf
  (repeat' (first|refine Cg rfl rfl ?_|fail))
  exact ⟨rfl,Ax hB hB3⟩
 (repeat' ((first|refine Aj Aa hb rfl rfl rfl rfl rfl rfl rfl (Ab Aa ?_)|refine C6 Aa hb rfl rfl rfl rfl rfl rfl (Ab Aa ?_)|(refine Ah (by first|assumption|omega) ?_)|fail)<;>conv=>whnf))
 refine Bv Bm0 (Ajy d A c w2 (h.up Pv hB) hk.1 hk.2) rfl rfl rfl rfl rfl rfl rfl ?_
 rintro _ w3 ⟨s,va,vb',bs,cs,rfl,hB3,hM⟩
 have hright:=hM.right
 have hvars:=hM.vars
 obtain ⟨A1,c1,rfl,_,hr1⟩:=hM.cells.row
 obtain ⟨A2,c2,rfl,_,hr2⟩:=hM.cons.row
 have hB03:=Ax hB hB3
 have hT3:=hT2.up hB3
 clear hM hb hB2 hn1
 obtain ⟨vars,xs,ys⟩:=s
 simp only at hright hvars hr1 hr2
 obtain ⟨n,rfl⟩:∃ n:Nat,vars=n:=⟨vars.toNat,by omega⟩
 have hn12:n<=12:=by omega
 refine ⟨_,rfl,Ab Aa ?_⟩
 conv=>whnf
 refine Bm Aa rfl rfl rfl rfl rfl rfl ?_
 intro g3 w4 hn4
 refine Ab Aa ?_
 conv=>whnf
 refine Di Aa hn4.blk rfl rfl rfl rfl rfl (by simp [Value.oneCell']) rfl rfl ?_
 intro w5 hp5
 have hB5:Below w3.heap.size w3 w5:=hp5.below hn4.below (by have:=hn4.at_;omega) (by have:=hn4.size;omega)
 have hb3:w5.heap[g3]?=some (.cells #[.int .i64 n,.slice A1 xs.length c1,.slice A2 ys.length c2] 35 (0,0)):=hp5.blk
 have hs1:=hr1.up Cd hB5
 have hs2:=hr2.up Ck hB5
 have hT5:=hT3.up hB5
 have hB05:=Ax hB03 hB5
 have hnn:=Gx hright
 clear hp5 hn4 hB03 hB5 hB3 hr1 hr2 hbig
 refine Ab Aa ?_
 conv=>whnf
 (repeat' ((first|refine C6 Aa hb3 rfl rfl rfl rfl rfl rfl (Ab Aa ?_)|refine Fv rfl rfl rfl rfl rfl rfl (by omega) (by omega) (fun r hr hr0 hr1 hr2=>Ab Aa ?_)|fail)<;>conv=>whnf))
 refine Bv Be9 (Be8 n xs ys A1 A2 c1 c2 r w5 hright ⟨by omega,by omega⟩ hs1 hs2) rfl rfl rfl rfl rfl rfl rfl ?_
 rintro _ w6 ⟨gw,wh,lab,H,B,D1,d1,D2,d2,rfl,hA,hcan,hLM,hB6⟩
 refine ⟨_,rfl,Ab Aa ?_⟩
 conv=>whnf
 skip
 refine Bm Aa rfl rfl rfl rfl rfl rfl ?_
 intro g6 w7 hn7
 refine Ab Aa ?_
 conv=>whnf
 refine Di Aa hn7.blk rfl rfl rfl rfl rfl (by simp [Value.oneCell']) rfl rfl ?_
 intro w8 hp8
 have hB68:Below w6.heap.size w6 w8:=hp8.below hn7.below (by have:=hn7.at_;omega) (by have:=hn7.size;omega)
 have hbt:=hp8.blk
 have hA:=hA.up hB68
 obtain ⟨ht1,ht2⟩:=hA.rows
 have hB58:=Ax hB6 hB68
 have hb3:=Ac hB58 hb3
 have hT8:=hT5.up hB58
 have hB08:=Ax hB05 hB58
 clear hp8 hn7 hB6 hB68 hB58 hA
 obtain ⟨M,hIL⟩:=Ky hright
 have hW:=Ady hright hIL hcan hLM
 have hsr:=R8 hright hW
 have hcn:=hW.cnt
 refine Ab Aa ?_
 conv=>whnf
 (repeat' ((first|refine C6 Aa hbt rfl rfl rfl rfl rfl rfl (Ab Aa ?_)|fail)<;>conv=>whnf))
 have hl:=Oe (F7 wh n) (xs.map (L9 wh)) (Hv wh (decide (¬r=0)) ys) D1 D2 d1 d2 w8 ht1 ht2 hsr hT8
 rw [List.length_map] at hl
 refine Bv Ba7 hl rfl rfl rfl rfl rfl rfl rfl ?_
 rintro _ w9 ⟨M',Ap,cap,k,rfl,hIL',hrr,hcap,hk',hB9⟩
 have hb3:=Ac hB9 hb3
 have hx:xs.length<=16384:=by omega
 have hm1:(0:Int)<=(n:Int)*((xs.length:Int)+1)/\(n:Int)*((xs.length:Int)+1)<=16384*16385:=Fs ⟨by omega,by omega⟩ ⟨by omega,by omega⟩
 have hm2:(0:Int)<=(n:Int)*(n:Int)/\(n:Int)*(n:Int)<=16384*16384:=Fs ⟨by omega,by omega⟩ ⟨by omega,by omega⟩
 have hkk:(k:Int)<=(n:Int)*((xs.length:Int)+1):=by
  have h1:F7 wh n*xs.length<=n*(xs.length+1):=Nat.mul_le_mul (by omega) (by omega)
  have h2:k<=n*(xs.length+1):=by omega
  have h3:((k:Nat):Int)<=((n*(xs.length+1):Nat):Int):=Int.ofNat_le.2 h2
  simpa using h3
 refine ⟨_,rfl,Ab Aa ?_⟩
 conv=>whnf
 skip
 refine Fo Aa mixed (by kernel_rfl) ?_;conv=>whnf
 (repeat' ((first|refine Bg Aa hb3 rfl rfl rfl rfl rfl rfl rfl (Ad Aa ?_)|refine Bh5 Bn6 (fun w _=>Sa n xs.length (by omega) (by omega) w) rfl rfl rfl rfl rfl rfl rfl (Ad Aa ?_)|refine D7 rfl rfl rfl rfl rfl rfl (by omega) (by omega) (Ad Aa ?_)|refine Ko rfl rfl rfl rfl rfl rfl (by omega) (by omega) (Ad Aa ?_)|refine Ag (by first|assumption|omega) ?_|fail)<;>conv=>whnf))
 intro w10 hB10
 conv=>whnf
 (repeat' (first|refine Cg rfl rfl ?_|fail))
 exact ⟨by simp,Ax hB08 (Ax hB9 hB10)⟩
end Go.Proofs.YtghmdfegfehhkaaGreatDoor
