/- Several texts of one claim in one file, made short: OP17 OL17 PA17 PB17. -/
import Derived.Test.YtghmdfegfehhkaaGreatDoorZ21
import Derived.Test.YtghmdfegfehhkaaGreatDoorZ14
import Derived.Test.YtghmdfegfehhkaaGreatDoorZ17
import Derived.Test.YtghmdfegfehhkaaGreatDoorZ16
set_option maxRecDepth 100000
set_option maxHeartbeats 64000000
set_option linter.unusedVariables false
set_option linter.unusedSimpArgs false
namespace Go.Proofs.YtghmdfegfehhkaaGreatDoor
def Ay (of:Nat->Nat)(lab:Nat->Int)(k:Nat)(S:List Int)(x:Int):List Int:=if of x.toNat≠k/\lab (of x.toNat)≠-1 then addI S (lab (of x.toNat)) else S
def Ia (into:List (List Int))(of:Nat->Nat)(lab:Nat->Int)(k:Nat)(S:List Int)(v:Nat):List Int:=(into[v]!).foldl (Ay of lab k) S
def G1 (bases:List (List Int))(vars:Nat)(W:List Int)(v:Nat):List Int:=if v<vars then (bases[v]!).foldl addI W else W
def If (lo:List Bool)(b:Bool)(v:Nat):Bool:=b||lo[v]!
structure LabS where
 lab:Nat->Int
 nx:Nat
 ob:Int->Option Nat
section
variable (vars:Nat)(into bases:List (List Int))(lo:List Bool)(kn:List (List Nat))(of:Nat->Nat)
def Gm (lab:Nat->Int)(k:Nat):List Int:=(kn[k]!).foldl (Ia into of lab k) []
def J4 (k:Nat):List Int:=(kn[k]!).foldl (G1 bases vars) []
def Jf (k:Nat):Bool:=(kn[k]!).foldl (If lo) false
def Zi (s:LabS)(k:Nat):Int×Nat×(Int->Option Nat):=Dq (Gm into kn of s.lab k) (J4 vars bases kn k) (Jf lo kn k) s.ob s.nx
def D8:Nat->LabS
 |0=>⟨fun _=>0,0,fun _=>none⟩
 |k+1=>let s:=D8 k;let r:=Zi vars into bases lo kn of s k;⟨Bf s.lab k r.1,r.2.1,r.2.2⟩
end
structure LOk (k:Nat)(s:LabS):Prop where
 lab:∀ j,j<k->-1<=s.lab j/\s.lab j<s.nx
 ob:∀ x m,s.ob x=some m->m<s.nx
 nx:s.nx<=k
theorem Ie {L:List Int}(h:L.Nodup)(x:Int):(addI L x).Nodup:=by
 unfold addI
 split
 ·exact h
 ·rename_i hx
  rw [List.nodup_append]
  exact ⟨h,by simp,fun a ha c hc e=>by simp at hc;subst hc;exact hx (e▸ha)⟩
theorem L4 {p:Int->Prop}{L:List Int}{x:Int}(h:∀ y∈L,p y)(hx:p x):∀ y∈addI L x,p y:=fun y hy=>by
 rcases addI_mem.1 hy with h1|rfl
 ·exact h y h1
 ·exact hx
theorem Fx {L:List Int}{b:Nat}(h:L.Nodup)(hb:∀ x∈L,0<=x/\x<(b:Int)):L.length<=b:=by
 have:=Ew (n:=b) (l:=L.map Int.toNat) (by
  rw [List.nodup_iff_pairwise_ne,List.pairwise_map]
  rw [List.nodup_iff_pairwise_ne] at h
  exact h.imp_of_mem fun {x y} hx hy hne e=>hne (by have:=hb x hx;have:=hb y hy;omega)) (fun v hv=>by
  obtain ⟨x,hx,rfl⟩:=List.mem_map.1 hv
  have:=hb x hx
  omega)
 simpa using this
theorem H8 {α β:Type}{p:α->Prop}{f:α->β->α}(l:List β)(a:α)(ha:p a)(hf:∀ a b,b∈l->p a->p (f a b)):p (l.foldl f a):=by
 induction l generalizing a with
 |nil=>exact ha
 |cons b r ih=>exact ih (f a b) (hf a b (by simp) ha) fun a c hc hp=>hf a c (by simp [hc]) hp
def Sq (W:List Int):Prop:=W.Nodup/\∀ x∈W,0<=x/\x<16384
theorem Xe {vars:Nat}{bases:List (List Int)}{W:List Int}{v:Nat}(hb:∀ v,v<vars->∀ x∈bases[v]!,0<=x/\x<16384)(h:Sq W):Sq (G1 bases vars W v):=by
 unfold G1
 split
 ·rename_i hv
  exact H8 _ _ h fun W x hx hW=>⟨Ie hW.1 x,L4 hW.2 (hb v hv x hx)⟩
 ·exact h
def Hc (m:Nat)(S:List Int):Prop:=S.Nodup/\∀ x∈S,0<=x/\x<(m:Int)
theorem Ji {of:Nat->Nat}{lab:Nat->Int}{k m:Nat}{S:List Int}{x:Int}(hl:∀ j,j<k->-1<=lab j/\lab j<m)(ho:of x.toNat<=k)(h:Hc m S):Hc m (Ay of lab k S x):=by
 unfold Ay
 split
 ·rename_i hc
  have:=hl _ (Nat.lt_of_le_of_ne ho hc.1)
  exact ⟨Ie h.1 _,L4 h.2 ⟨by omega,by omega⟩⟩
 ·exact h
theorem S9 {into:List (List Int)}{of:Nat->Nat}{lab:Nat->Int}{k m:Nat}{S:List Int}{v:Nat}(hl:∀ j,j<k->-1<=lab j/\lab j<m)(ho:∀ x∈into[v]!,of x.toNat<=k)(h:Hc m S):Hc m (Ia into of lab k S v):=
 H8 _ _ h fun S x hx hS=>Ji hl (ho x hx) hS
theorem Xv {S W:List Int}{b:Bool}{f:Int->Option Nat}{m:Nat}(hS:∀ x∈S,0<=x/\x<(m:Int))(hf:∀ x q,f x=some q->q<m) :
  (-1<=(Dq S W b f m).1/\(Dq S W b f m).1<((Dq S W b f m).2.1:Int))/\(m<=(Dq S W b f m).2.1/\(Dq S W b f m).2.1<=m+1)/\∀ x q,(Dq S W b f m).2.2 x=some q->q<(Dq S W b f m).2.1:=by
 unfold Dq
 split
 ·refine ⟨⟨?_,?_⟩,⟨?_,?_⟩,?_⟩
  ·simp only;omega
  ·simp only;omega
  ·simp only;omega
  ·simp only;omega
  ·intro x q h
   have:=hf x q h
   simp only;omega
 ·cases S with
  |cons x r=>
   have:=hS x (by simp)
   refine ⟨⟨?_,?_⟩,⟨?_,?_⟩,fun x q h=>hf x q h⟩<;>simp only [Fe]<;>omega
  |nil=>
   cases W with
   |nil=>refine ⟨⟨?_,?_⟩,⟨?_,?_⟩,fun x q h=>hf x q h⟩<;>simp only [Fe]<;>omega
   |cons o r=>
    cases hq:f o with
    |some q=>
     have:=hf o q hq
     have e:Fe [] (o::r) f m=((q:Int),m,f):=by simp only [Fe,hq]
     rw [e]
     refine ⟨⟨?_,?_⟩,⟨?_,?_⟩,fun x q h=>hf x q h⟩<;>simp only<;>omega
    |none=>
     have e:Fe [] (o::r) f m=((m:Int),m+1,Po f o m):=by simp only [Fe,hq]
     rw [e]
     refine ⟨⟨?_,?_⟩,⟨?_,?_⟩,fun x q h=>?_⟩
     ·simp only;omega
     ·simp only;omega
     ·simp only;omega
     ·simp only;omega
     ·simp only at h ⊢
      unfold Po at h
      split at h
      ·injection h with h;omega
      ·have:=hf x q h;omega
section
variable {vars:Nat}{into bases:List (List Int)}{lo:List Bool}{kn:List (List Nat)}{of:Nat->Nat}
theorem Oh (hG:GOk vars into bases lo)(hK:KnOk into kn of){s:LabS}{k:Nat}(hk:k<kn.length)(h:LOk k s):Hc s.nx (Gm into kn of s.lab k):=
 H8 _ _ ⟨.nil,by simp⟩ fun S v hv hS=>S9 h.lab (hK.down hG.ri hk hv).2 hS
theorem Ju (hG:GOk vars into bases lo)(hK:KnOk into kn of):∀ k,k<=kn.length->LOk k (D8 vars into bases lo kn of k)
 |0,_=>⟨fun j hj=>absurd hj (Nat.not_lt_zero j),fun x m h=>by (cases h),Nat.le_refl _⟩
 |k+1,hk=>by
  have ih:=Ju hG hK k (by omega)
  have h1:=Oh hG hK (by omega:k<kn.length) ih
  obtain ⟨h2,h3,h4⟩:=Xv (W:=J4 vars bases kn k) (b:=Jf lo kn k) h1.2 ih.ob
  refine ⟨fun j hj=>?_,h4,?_⟩
  ·show -1<=Bf _ k _ j/\Bf _ k _ j<_
   by_cases e:j=k
   ·subst e
    rw [D3]
    exact h2
   ·rw [C1 _ _ e]
    have:=ih.lab j (by omega)
    have h5:(D8 vars into bases lo kn of k).nx<=(D8 vars into bases lo kn of (k+1)).nx:=h3.1
    omega
  ·have h5:(D8 vars into bases lo kn of (k+1)).nx<=(D8 vars into bases lo kn of k).nx+1:=h3.2
   have:=ih.nx
   omega
end
end Go.Proofs.YtghmdfegfehhkaaGreatDoor
namespace Go.Proofs.YtghmdfegfehhkaaGreatDoor
section
variable {vars:Nat}{into bases:List (List Int)}{lo:List Bool}{kn:List (List Nat)}{of:Nat->Nat}
def Lf (vars:Nat)(into bases:List (List Int))(lo:List Bool)(kn:List (List Nat))(of:Nat->Nat):Nat->Int:=(D8 vars into bases lo kn of kn.length).lab
theorem Sf {j k:Nat}(hj:j<k):∀ d,(D8 vars into bases lo kn of (k+d)).lab j=(D8 vars into bases lo kn of k).lab j
 |0=>rfl
 |d+1=>by
  have ih:=Sf hj d
  refine Eq.trans ?_ ih
  show Bf (D8 vars into bases lo kn of (k+d)).lab (k+d) _ j=_
  exact C1 _ _ (by omega)
theorem V6 {j k:Nat}(hj:j<k)(hk:k<=kn.length):(D8 vars into bases lo kn of k).lab j=Lf vars into bases lo kn of j:=by
 obtain ⟨d,hd⟩:∃ d,kn.length=k+d:=⟨kn.length - k,by omega⟩
 unfold Lf
 rw [hd]
 exact (Sf hj d).symm
theorem J8:∀ (l:List Int) (S:List Int) (y:Int),y∈l.foldl addI S↔y∈S\/y∈l
 |[],S,y=>by simp
 |x::l,S,y=>by
  rw [List.foldl_cons,J8 l,addI_mem,List.mem_cons]
  exact or_assoc
theorem Qu {lab:Nat->Int}{k v:Nat}:∀ (l:List Int) (S:List Int) (y:Int),y∈l.foldl (Ay of lab k) S↔y∈S\/∃ x∈l,of x.toNat≠k/\lab (of x.toNat)≠-1/\y=lab (of x.toNat)
 |[],S,y=>by simp
 |x::l,S,y=>by
  rw [List.foldl_cons,Qu (v:=v) l]
  unfold Ay
  by_cases hc:of x.toNat≠k/\lab (of x.toNat)≠-1
  ·rw [if_pos hc,addI_mem]
   constructor
   ·rintro ((h|h)|⟨z,hz,h⟩)
    ·exact .inl h
    ·exact .inr ⟨x,by simp,hc.1,hc.2,h⟩
    ·exact .inr ⟨z,by simp [hz],h⟩
   ·rintro (h|⟨z,hz,h⟩)
    ·exact .inl (.inl h)
    ·rcases List.mem_cons.1 hz with rfl|hz
     ·exact .inl (.inr h.2.2)
     ·exact .inr ⟨z,hz,h⟩
  ·rw [if_neg hc]
   constructor
   ·rintro (h|⟨z,hz,h⟩)
    ·exact .inl h
    ·exact .inr ⟨z,by simp [hz],h⟩
   ·rintro (h|⟨z,hz,h⟩)
    ·exact .inl h
    ·rcases List.mem_cons.1 hz with rfl|hz
     ·exact absurd ⟨h.1,h.2.1⟩ hc
     ·exact .inr ⟨z,hz,h⟩
theorem Mh {α:Type}{f:List Int->α->List Int}{p:α->Int->Prop}(hf:∀ S v y,y∈f S v↔y∈S\/p v y):∀ (l:List α) (S:List Int) (y:Int),y∈l.foldl f S↔y∈S\/∃ v∈l,p v y
 |[],S,y=>by simp
 |v::l,S,y=>by
  rw [List.foldl_cons,Mh hf l,hf]
  constructor
  ·rintro ((h|h)|⟨z,hz,h⟩)
   ·exact .inl h
   ·exact .inr ⟨v,by simp,h⟩
   ·exact .inr ⟨z,by simp [hz],h⟩
  ·rintro (h|⟨z,hz,h⟩)
   ·exact .inl (.inl h)
   ·rcases List.mem_cons.1 hz with rfl|hz
    ·exact .inl (.inr h)
    ·exact .inr ⟨z,hz,h⟩
theorem Qt {lab:Nat->Int}{k:Nat}{y:Int}:y∈Gm into kn of lab k↔∃ v∈kn[k]!,∃ x∈into[v]!,of x.toNat≠k/\lab (of x.toNat)≠-1/\y=lab (of x.toNat):=by
 unfold Gm
 rw [Mh (p:=fun v y=>∃ x∈into[v]!,of x.toNat≠k/\lab (of x.toNat)≠-1/\y=lab (of x.toNat)) (f:=Ia into of lab k) (fun S v y=>Qu (v:=v) into[v]! S y)]
 simp
theorem Sz {k:Nat}{y:Int}:y∈J4 vars bases kn k↔∃ v∈kn[k]!,v<vars/\y∈bases[v]! := by
 unfold J4
 rw [Mh (p:=fun v y=>v<vars/\y∈bases[v]!) (f:=G1 bases vars) (fun S v y=>by
  unfold G1
  split
  ·rename_i h
   rw [J8]
   simp [h]
  ·rename_i h
   simp [h])]
 simp
theorem Sg {k:Nat}:Jf lo kn k=true↔∃ v∈kn[k]!,lo[v]! = true:=by
 have key:∀ (l:List Nat) (b:Bool),l.foldl (If lo) b=true↔b=true\/∃ v∈l,lo[v]! = true:=by
  intro l
  induction l with
  |nil=>intro b;simp
  |cons v l ih=>
   intro b
   rw [List.foldl_cons,ih]
   unfold If
   rw [Bool.or_eq_true]
   constructor
   ·rintro ((h|h)|⟨z,hz,h⟩)
    ·exact .inl h
    ·exact .inr ⟨v,by simp,h⟩
    ·exact .inr ⟨z,by simp [hz],h⟩
   ·rintro (h|⟨z,hz,h⟩)
    ·exact .inl (.inl h)
    ·rcases List.mem_cons.1 hz with rfl|hz
     ·exact .inl (.inr h)
     ·exact .inr ⟨z,hz,h⟩
 unfold Jf
 rw [key]
 simp
structure One (into:List (List Int))(kn:List (List Nat))(of:Nat->Nat)(v:Nat):Prop where
 lt:v<into.length
 kn:kn[of v]! = [v]
theorem KnOk.single (hK:KnOk into kn of)(ha:∀ u v,u<into.length->v<into.length->Rg into u v->Rg into v u->u=v){v:Nat}(hv:v<into.length):One into kn of v:=by
 obtain ⟨h1,h2⟩:=hK.at_ v hv
 obtain ⟨_,h4,h5⟩:=hK.kn _ h1
 refine ⟨hv,Wk h4 (by simp) fun x=>?_⟩
 constructor
 ·intro hx
  obtain ⟨h6,h7⟩:=h5 x hx
  have:=(hK.scc x v h6 hv).1 h7
  rw [ha x v h6 hv this.1 this.2]
  simp
 ·intro hx
  simp at hx
  rw [hx]
  exact h2
section
variable {v:Nat}
abbrev lv (vars:Nat)(into bases:List (List Int))(lo:List Bool)(kn:List (List Nat))(of:Nat->Nat)(v:Nat):Int:=Lf vars into bases lo kn of (of v)
theorem One.own (h:One into kn of v)(hv:v<vars)(y:Int):y∈J4 vars bases kn (of v)↔y∈bases[v]! := by
 rw [Sz,h.kn]
 simp [hv]
theorem One.loo (h:One into kn of v):Jf lo kn (of v)=lo[v]! := by
 have:=Sg (lo:=lo) (kn:=kn) (k:=of v)
 rw [h.kn] at this
 cases hb:Jf lo kn (of v) with
 |true=>
  have:=this.1 hb
  simpa using this
 |false=>
  cases hb2:lo[v]! with
  |false=>rfl
  |true=>exact absurd (this.2 ⟨v,by simp,hb2⟩) (by rw [hb];simp)
theorem One.seen (hG:GOk vars into bases lo)(hK:KnOk into kn of)(h:One into kn of v)(y:Int):y∈Gm into kn of (D8 vars into bases lo kn of (of v)).lab (of v)↔∃ x∈into[v]!,of x.toNat≠of v/\lv vars into bases lo kn of x.toNat≠-1/\y=lv vars into bases lo kn of x.toNat:=by
 have hk:=(hK.at_ v h.lt).1
 rw [Qt,h.kn]
 have hd:=hK.down hG.ri hk (v:=v) (by rw [h.kn];simp)
 constructor
 ·rintro ⟨u,hu,x,hx,h1,h2,h3⟩
  simp at hu
  subst hu
  have e:=V6 (vars:=vars) (into:=into) (bases:=bases) (lo:=lo) (kn:=kn) (of:=of) (Nat.lt_of_le_of_ne (hd.2 x hx) h1) (Nat.le_of_lt hk)
  rw [e] at h2 h3
  exact ⟨x,hx,h1,h2,h3⟩
 ·rintro ⟨x,hx,h1,h2,h3⟩
  have e:=V6 (vars:=vars) (into:=into) (bases:=bases) (lo:=lo) (kn:=kn) (of:=of) (Nat.lt_of_le_of_ne (hd.2 x hx) h1) (Nat.le_of_lt hk)
  exact ⟨v,by simp,x,hx,h1,by rw [e];exact h2,by rw [e];exact h3⟩
end
end
end Go.Proofs.YtghmdfegfehhkaaGreatDoor
namespace Go.Proofs.YtghmdfegfehhkaaGreatDoor
section
variable {vars nc:Nat}{into bases:List (List Int)}{lo:List Bool}{kn:List (List Nat)}{of:Nat->Nat}
structure DOk (vars nc:Nat)(into bases:List (List Int))(lo:List Bool)(kn:List (List Nat))(k:Nat)(s:LabS)(D:Nat->Nat->Prop):Prop where
 no:∀ p,p<k->s.lab p=-1->∀ v∈kn[p]!,∀ j,¬GS vars nc into bases lo v j
 pos:∀ p,p<k->s.lab p≠-1->∀ v∈kn[p]!,∃ j,GS vars nc into bases lo v j
 so:∀ p m,p<k->s.lab p=((m:Nat):Int)->∀ v∈kn[p]!,∀ j,GS vars nc into bases lo v j↔D m j
 ob:∀ o m,s.ob o=some m->∀ j:Nat,D m j↔(j:Int)=o
theorem Adz (hG:GOk vars into bases lo)(hK:KnOk into kn of){k:Nat}(hk:k<kn.length){D:Nat->Nat->Prop}(h:DOk vars nc into bases lo kn k (D8 vars into bases lo kn of k) D):∃ D',DOk vars nc into bases lo kn (k+1) (D8 vars into bases lo kn of (k+1)) D':=by
 have hLO:=Ju hG hK k (Nat.le_of_lt hk)
 have hcase:D8 vars into bases lo kn of (k+1)=⟨Bf (D8 vars into bases lo kn of k).lab k (Zi vars into bases lo kn of (D8 vars into bases lo kn of k) k).1,(Zi vars into bases lo kn of (D8 vars into bases lo kn of k) k).2.1,(Zi vars into bases lo kn of (D8 vars into bases lo kn of k) k).2.2⟩:=rfl
 rw [hcase]
 obtain ⟨s,hs⟩:∃ s,s=D8 vars into bases lo kn of k:=⟨_,rfl⟩
 unfold Zi
 have hS0:∀ y,y∈Gm into kn of s.lab k↔_:=fun y=>Qt
 have hSP:=Oh hG hK hk hLO
 have hW0:∀ y,y∈J4 vars bases kn k↔_:=fun y=>Sz
 have hL0:Jf lo kn k=true↔_:=Sg
 rw [<- hs] at hLO h hSP ⊢
 have hgs:∀ v∈kn[k]!,∀ j,GS vars nc into bases lo v j↔(∃ w∈kn[k]!,lo[w]! = true/\j=nc+w)\/((j:Int)∈J4 vars bases kn k)\/∃ m:Nat,(m:Int)∈Gm into kn of s.lab k/\D m j:=fun v hv j=>by
  rw [Nq hG.ri hK hk hv,hW0]
  refine or_congr Iff.rfl (or_congr Iff.rfl ?_)
  constructor
  ·rintro ⟨w,hw,x,hx,h1,h2⟩
   obtain ⟨hwl,hd⟩:=hK.down hG.ri hk hw
   have hle:=Nat.lt_of_le_of_ne (hd x hx) h1
   have hxl:x.toNat<into.length:=by have:=hG.ri w hwl x hx;omega
   have hxm:=(hK.at_ x.toNat hxl).2
   have hlb:=hLO.lab _ hle
   by_cases hn:s.lab (of x.toNat)=-1
   ·exact absurd h2 (h.no _ hle hn _ hxm j)
   ·obtain ⟨m,hm⟩:=Int.eq_ofNat_of_zero_le (show 0<=s.lab (of x.toNat) by omega)
    refine ⟨m,(hS0 _).2 ⟨w,hw,x,hx,h1,hn,hm.symm⟩,?_⟩
    exact (h.so _ m hle hm _ hxm j).1 h2
  ·rintro ⟨m,hm,hD⟩
   obtain ⟨w,hw,x,hx,h1,h2,h3⟩:=(hS0 _).1 hm
   obtain ⟨hwl,hd⟩:=hK.down hG.ri hk hw
   have hle:=Nat.lt_of_le_of_ne (hd x hx) h1
   have hxl:x.toNat<into.length:=by have:=hG.ri w hwl x hx;omega
   exact ⟨w,hw,x,hx,h1,(h.so _ m hle h3.symm _ (hK.at_ x.toNat hxl).2 j).2 hD⟩
 have hne:∀ y∈Gm into kn of s.lab k,∃ m:Nat,y=(m:Int)/\m<s.nx/\∃ j,D m j:=fun y hy=>by
  have hb:=hSP.2 y hy
  obtain ⟨m,rfl⟩:=Int.eq_ofNat_of_zero_le hb.1
  refine ⟨m,rfl,by omega,?_⟩
  obtain ⟨w,hw,x,hx,h1,h2,h3⟩:=(hS0 _).1 hy
  obtain ⟨hwl,hd⟩:=hK.down hG.ri hk hw
  have hle:=Nat.lt_of_le_of_ne (hd x hx) h1
  have hxl:x.toNat<into.length:=by have:=hG.ri w hwl x hx;omega
  obtain ⟨j,hj⟩:=h.pos _ hle h2 _ (hK.at_ x.toNat hxl).2
  exact ⟨j,(h.so _ m hle h3.symm _ (hK.at_ x.toNat hxl).2 j).1 hj⟩
 have hWP:∀ y∈J4 vars bases kn k,0<=y:=fun y hy=>by
  obtain ⟨w,hw,h1,h2⟩:=(hW0 y).1 hy
  exact (hG.rb w (by rw [hG.nb];exact h1) y h2).1
 have own:∀ (X:Nat->Prop) (f':Int->Option Nat),(∀ v∈kn[k]!,∀ j,GS vars nc into bases lo v j↔X j)->(∃ j,X j)->(∀ o m,f' o=some m->s.ob o=some m\/(m=s.nx/\∀ j:Nat,X j↔(j:Int)=o))->∃ D',DOk vars nc into bases lo kn (k+1) ⟨Bf s.lab k (s.nx:Int),s.nx+1,f'⟩ D':=fun X f' hX hXn hf=>by
  refine ⟨fun m=>if m=s.nx then X else D m,fun p hp hl v hv j=>?_,fun p hp hl v hv=>?_,fun p m hp hl v hv j=>?_,fun o m hom j=>?_⟩
  ·by_cases e:p=k
   ·subst e
    have hl:Bf s.lab p (s.nx:Int) p=-1:=hl
    rw [D3] at hl
    omega
   ·have hl:Bf s.lab k (s.nx:Int) p=-1:=hl
    rw [C1 _ _ e] at hl
    exact h.no p (by omega) hl v hv j
  ·by_cases e:p=k
   ·subst e
    obtain ⟨j,hj⟩:=hXn
    exact ⟨j,(hX v hv j).2 hj⟩
   ·have hl:Bf s.lab k (s.nx:Int) p≠-1:=hl
    rw [C1 _ _ e] at hl
    exact h.pos p (by omega) hl v hv
  ·by_cases e:p=k
   ·subst e
    have hl:Bf s.lab p (s.nx:Int) p=(m:Int):=hl
    rw [D3] at hl
    have hm:m=s.nx:=by omega
    rw [if_pos hm]
    exact hX v hv j
   ·have hl:Bf s.lab k (s.nx:Int) p=(m:Int):=hl
    rw [C1 _ _ e] at hl
    have hb:=hLO.lab p (by omega)
    rw [if_neg (by omega)]
    exact h.so p m (by omega) hl v hv j
  ·rcases hf o m hom with h1|⟨h1,h2⟩
   ·have hb:=hLO.ob o m h1
    rw [if_neg (by omega)]
    exact h.ob o m h1 j
   ·rw [if_pos h1]
    exact h2 j
 have old:∀ (l:Int) (m':Nat),(l=-1->∀ v∈kn[k]!,∀ j,¬GS vars nc into bases lo v j)->(∀ m:Nat,l=(m:Int)->(∃ j,D m j)/\∀ v∈kn[k]!,∀ j,GS vars nc into bases lo v j↔D m j)->-1<=l->∃ D',DOk vars nc into bases lo kn (k+1) ⟨Bf s.lab k l,m',s.ob⟩ D':=fun l m' h1 h2 h3=>by
  refine ⟨D,fun p hp hl v hv j=>?_,fun p hp hl v hv=>?_,fun p m hp hl v hv j=>?_,h.ob⟩
  ·have hl:Bf s.lab k l p=-1:=hl
   by_cases e:p=k
   ·subst e
    rw [D3] at hl
    exact h1 hl v hv j
   ·rw [C1 _ _ e] at hl
    exact h.no p (by omega) hl v hv j
  ·have hl:Bf s.lab k l p≠-1:=hl
   by_cases e:p=k
   ·subst e
    rw [D3] at hl
    obtain ⟨m,rfl⟩:=Int.eq_ofNat_of_zero_le (show 0<=l by omega)
    obtain ⟨⟨j,hj⟩,h5⟩:=h2 m rfl
    exact ⟨j,(h5 v hv j).2 hj⟩
   ·rw [C1 _ _ e] at hl
    exact h.pos p (by omega) hl v hv
  ·have hl:Bf s.lab k l p=(m:Int):=hl
   by_cases e:p=k
   ·subst e
    rw [D3] at hl
    exact (h2 m hl).2 v hv j
   ·rw [C1 _ _ e] at hl
    exact h.so p m (by omega) hl v hv j
 clear hcase hs hS0
 have hLn:Jf lo kn k=false->∀ w∈kn[k]!,¬lo[w]! = true:=fun hf w hw hl=>by
  rw [hL0.2 ⟨w,hw,hl⟩] at hf
  cases hf
 generalize J4 vars bases kn k=W at *
 generalize Gm into kn of s.lab k=S at *
 unfold Dq
 split
 ·rename_i hc
  refine own (fun j=>(∃ w∈kn[k]!,lo[w]! = true/\j=nc+w)\/((j:Int)∈W)\/∃ m:Nat,(m:Int)∈S/\D m j) s.ob hgs ?_ (fun o m h1=>.inl h1)
  have seenOne:1<=S.length->∃ j,(∃ w∈kn[k]!,lo[w]! = true/\j=nc+w)\/((j:Int)∈W)\/∃ m:Nat,(m:Int)∈S/\D m j:=fun hl=>by
   cases S with
   |nil=>simp at hl
   |cons y r=>
    obtain ⟨m,rfl,_,j,hj⟩:=hne y (by simp)
    exact ⟨j,.inr (.inr ⟨m,by simp,hj⟩)⟩
  have ownOne:1<=W.length->∃ j:Nat,(∃ w∈kn[k]!,lo[w]! = true/\j=nc+w)\/((j:Int)∈W)\/∃ m:Nat,(m:Int)∈S/\D m j:=fun hl=>by
   cases W with
   |nil=>simp at hl
   |cons y r=>
    obtain ⟨j,rfl⟩:=Int.eq_ofNat_of_zero_le (hWP y (by simp))
    exact ⟨j,.inr (.inl (by simp))⟩
  rcases hc with h1|h1|h1|h1
  ·obtain ⟨w,hw,h2⟩:=hL0.1 h1
   exact ⟨_,.inl ⟨w,hw,h2,rfl⟩⟩
  ·exact ownOne (by omega)
  ·exact seenOne (by omega)
  ·exact ownOne (by omega)
 ·rename_i hc
  have hl:Jf lo kn k=false:=by cases hb:Jf lo kn k with|false=>rfl|true=>exact absurd (.inl hb) hc
  have hno:=hLn hl
  have hW1:W.length<=1:=by apply Classical.byContradiction;intro hh;exact hc (.inr (.inl (by omega)))
  have hS1:S.length<=1:=by apply Classical.byContradiction;intro hh;exact hc (.inr (.inr (.inl (by omega))))
  have hWS:¬ (W.length=1/\S.length=1):=fun hh=>hc (.inr (.inr (.inr hh)))
  cases S with
  |cons y r=>
   have hr:r=[]:=List.eq_nil_of_length_eq_zero (by rw [List.length_cons] at hS1;omega)
   subst hr
   have hWe:W=[]:=List.eq_nil_of_length_eq_zero (by simp at hWS;omega)
   subst hWe
   obtain ⟨m,rfl,hm,hj⟩:=hne y (by simp)
   refine old (m:Int) s.nx (fun h=>by omega) (fun m2 h2=>?_) (by omega)
   have e:m2=m:=by omega
   subst e
   refine ⟨hj,fun v hv j=>?_⟩
   rw [hgs v hv j]
   constructor
   ·rintro (⟨w,hw,h1,_⟩|h1|⟨m3,h1,h2⟩)
    ·exact absurd h1 (hno w hw)
    ·cases h1
    ·simp at h1
     rw [<- show m3=m2 by omega]
     exact h2
   ·exact fun h=>.inr (.inr ⟨m2,by simp,h⟩)
  |nil=>
   cases W with
   |nil=>
    refine old (-1) s.nx (fun _ v hv j hj=>?_) (fun m hm=>by omega) (by omega)
    rcases (hgs v hv j).1 hj with ⟨w,hw,h1,_⟩|h1|⟨m3,h1,h2⟩
    ·exact absurd h1 (hno w hw)
    ·cases h1
    ·cases h1
   |cons o r=>
    have hr:r=[]:=List.eq_nil_of_length_eq_zero (by rw [List.length_cons] at hW1;omega)
    subst hr
    have hX:∀ v∈kn[k]!,∀ j:Nat,GS vars nc into bases lo v j↔(j:Int)=o:=fun v hv j=>by
     rw [hgs v hv j]
     constructor
     ·rintro (⟨w,hw,h1,_⟩|h1|⟨m3,h1,h2⟩)
      ·exact absurd h1 (hno w hw)
      ·simpa using h1
      ·cases h1
     ·exact fun h=>.inr (.inl (by simp [h]))
    obtain ⟨jo,hjo⟩:=Int.eq_ofNat_of_zero_le (hWP o (by simp))
    cases hq:s.ob o with
    |some q=>
     simp only [Fe,hq]
     have hD:=h.ob o q hq
     refine old (q:Int) s.nx (fun h=>by omega) (fun m2 h2=>?_) (by omega)
     have e:m2=q:=by omega
     subst e
     exact ⟨⟨jo,(hD jo).2 hjo.symm⟩,fun v hv j=>(hX v hv j).trans (hD j).symm⟩
    |none=>
     simp only [Fe,hq]
     refine own (fun j=>(j:Int)=o) _ hX ⟨jo,hjo.symm⟩ (fun x m hx=>?_)
     unfold Po at hx
     split at hx
     ·rename_i e
      injection hx with hx
      exact .inr ⟨hx.symm,fun j=>by rw [e]⟩
     ·exact .inl hx
theorem dok (hG:GOk vars into bases lo)(hK:KnOk into kn of)(nc:Nat):∀ k,k<=kn.length->∃ D,DOk vars nc into bases lo kn k (D8 vars into bases lo kn of k) D
 |0,_=>⟨fun _ _=>False,fun p hp=>absurd hp (Nat.not_lt_zero p),fun p hp=>absurd hp (Nat.not_lt_zero p),fun p m hp=>absurd hp (Nat.not_lt_zero p),fun o m h=>by cases h⟩
 |k+1,hk=>by
  obtain ⟨D,h⟩:=dok hG hK nc k (by omega)
  exact Adz hG hK (by omega) h
theorem Ak4 (hG:GOk vars into bases lo)(hK:KnOk into kn of)(nc:Nat){v:Nat}(hv:v<into.length):lv vars into bases lo kn of v=-1↔∀ j,¬GS vars nc into bases lo v j:=by
 obtain ⟨D,h⟩:=dok hG hK nc kn.length (Nat.le_refl _)
 obtain ⟨h1,h2⟩:=hK.at_ v hv
 constructor
 ·exact fun e j=>h.no _ h1 e v h2 j
 ·intro hn
  apply Classical.byContradiction
  intro e
  obtain ⟨j,hj⟩:=h.pos _ h1 e v h2
  exact hn j hj
theorem Ai0 (hG:GOk vars into bases lo)(hK:KnOk into kn of)(nc:Nat){v u:Nat}(hv:v<into.length)(hu:u<into.length)(e:lv vars into bases lo kn of v=lv vars into bases lo kn of u)(j:Nat):GS vars nc into bases lo v j↔GS vars nc into bases lo u j:=by
 obtain ⟨D,h⟩:=dok hG hK nc kn.length (Nat.le_refl _)
 obtain ⟨h1,h2⟩:=hK.at_ v hv
 obtain ⟨h3,h4⟩:=hK.at_ u hu
 have hl:=(Ju hG hK kn.length (Nat.le_refl _)).lab _ h1
 by_cases hn:lv vars into bases lo kn of v=-1
 ·exact ⟨fun h5=>absurd h5 (h.no _ h1 hn v h2 j),fun h5=>absurd h5 (h.no _ h3 (show lv vars into bases lo kn of u=-1 by rw [<- e];exact hn) u h4 j)⟩
 ·obtain ⟨m,hm⟩:=Int.eq_ofNat_of_zero_le (show 0<=lv vars into bases lo kn of v by
   have:lv vars into bases lo kn of v=(D8 vars into bases lo kn of kn.length).lab (of v):=rfl
   omega)
  exact (h.so _ m h1 hm v h2 j).trans (h.so _ m h3 (show lv vars into bases lo kn of u=(m:Int) by rw [<- e];exact hm) u h4 j).symm
end
end Go.Proofs.YtghmdfegfehhkaaGreatDoor
namespace Go.Proofs.YtghmdfegfehhkaaGreatDoor
section
variable {n:Nat}{xs:List Cell}{ys:List Con}
abbrev gl (n:Nat)(xs:List Cell)(ys:List Con)(kn:List (List Nat))(of:Nat->Nat)(v:Nat):Int:=lv n (gInto n xs ys) (gBases n xs ys) (gLoose n xs ys) kn of v
end
end Go.Proofs.YtghmdfegfehhkaaGreatDoor
