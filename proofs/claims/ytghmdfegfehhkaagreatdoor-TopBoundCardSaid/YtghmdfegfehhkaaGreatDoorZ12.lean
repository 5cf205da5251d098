/- Several texts of one claim in one file, made short: KT16 QR20 KS16 SRT KV16. -/
import Derived.Test.YtghmdfegfehhkaaGreatDoorZ5
import Derived.Test.YtghmdfegfehhkaaGreatDoorZ6
import Derived.Test.YtghmdfegfehhkaaGreatDoorZ4
import Derived.Shelf.Sort.Plain
import Derived.Shelf.Slices.In.SortNone
import Derived.Sort.OwnSortedInts
set_option maxRecDepth 100000
set_option maxHeartbeats 64000000
set_option linter.unusedVariables false
set_option linter.unusedSimpArgs false
namespace Go.Proofs.YtghmdfegfehhkaaGreatDoor
inductive Rch (E:Nat->Nat->Prop):Nat->Nat->Prop
 |refl (v:Nat):Rch E v v
 |step {v w u:Nat}:E v w->Rch E w u->Rch E v u
theorem Rch.trans {E:Nat->Nat->Prop}{a b c:Nat}(h:Rch E a b)(k:Rch E b c):Rch E a c:=by
 induction h with
 |refl=>exact k
 |step e _ ih=>exact .step e (ih k)
theorem Rch.one {E:Nat->Nat->Prop}{a b:Nat}(h:E a b):Rch E a b:=.step h (.refl b)
theorem Rch.closed {E:Nat->Nat->Prop}{P:Nat->Prop}(hP:∀ v w,P v->E v w->P w){a b:Nat}(h:Rch E a b):P a->P b:=by
 induction h with
 |refl=>exact id
 |step e _ ih=>exact fun p=>ih (hP _ _ p e)
def EdK (g:List (List Int))(v k w:Nat):Prop:=v<g.length/\w<g.length/\k<(g[v]!).length/\(g[v]!)[k]! = (w:Int)
def Ed (g:List (List Int))(v w:Nat):Prop:=∃ k,EdK g v k w
abbrev Rg (g:List (List Int)):=Rch (Ed g)
structure TS where
 idx:Nat->Nat
 low:Nat->Nat
 on:Nat->Bool
 stk:List Nat
 of:Nat->Nat
 cnt:Nat
 kn:List (List Nat)
 path:List (Nat×Nat)
def TS.pn (s:TS):List Nat:=s.path.map (·.1)
def TS.Pr (s:TS)(x k:Nat):Prop:=x∉s.pn\/∃ nx,(x,nx)∈s.path/\k<nx
def TS.Dn (s:TS)(v:Nat):Prop:=0<s.idx v/\v∉s.stk
structure TInv (g:List (List Int))(s:TS):Prop where
 le:∀ v,s.idx v<=s.cnt
 nod:∀ v,0<s.idx v->v<g.length
 stk:∀ x∈s.stk,0<s.idx x
 on:∀ x,s.on x=true↔x∈s.stk
 ord:s.stk.Pairwise fun a b=>s.idx a<s.idx b
 psub:s.pn.Sublist s.stk
 bot:∀ x∈s.stk,∃ p∈s.pn,s.idx p<=s.idx x
 dk:∀ v,s.Dn v->s.of v<s.kn.length/\v∈s.kn[s.of v]!
 kd:∀ k,k<s.kn.length->s.kn[k]! ≠ []/\(s.kn[k]!).Pairwise (·<·)/\∀ v∈s.kn[k]!,s.Dn v/\s.of v=k
 cl:∀ v w,s.Dn v->Ed g v w->s.Dn w/\s.of w<=s.of v
 scc:∀ v u,s.Dn v->s.Dn u->(s.of v=s.of u↔Rg g v u/\Rg g u v)
 pr:∀ x∈s.stk,∀ k w,s.Pr x k->EdK g x k w->0<s.idx w
 j1:∀ x∈s.stk,x∉s.pn->∃ y∈s.stk,s.idx y<s.idx x/\Rg g x y
 j2:∀ p∈s.pn,∀ x∈s.stk,s.idx p<=s.idx x->Rg g p x
 j3:∀ p∈s.pn,s.low p<=s.idx p/\∃ y∈s.stk,s.idx y=s.low p/\Rg g p y
 j4:∀ A v nx B,s.path=A++(v,nx)::B->∀ x∈s.stk,s.idx v<=s.idx x->(∀ b∈B,s.idx x<s.idx b.1)->∀ k w,s.Pr x k->EdK g x k w->w∈s.stk->s.low v<=s.idx w
section
variable {g:List (List Int)}{s:TS}
theorem TInv.pstk (h:TInv g s){v:Nat}(hv:v∈s.pn):v∈s.stk:=h.psub.subset hv
theorem TInv.inj (h:TInv g s){a b:Nat}(ha:a∈s.stk)(hb:b∈s.stk)(e:s.idx a=s.idx b):a=b:=by
 have key:∀ l:List Nat,l.Pairwise (fun a b=>s.idx a<s.idx b)->a∈l->b∈l->a=b:=by
  intro l
  induction l with
  |nil=>intro _ h;cases h
  |cons c r ih=>
   intro hp h1 h2
   rw [List.pairwise_cons] at hp
   rcases List.mem_cons.1 h1 with h3|h3
   ·rcases List.mem_cons.1 h2 with h4|h4
    ·rw [h3,h4]
    ·have:=hp.1 _ h4
     rw [h3] at e
     omega
   ·rcases List.mem_cons.1 h2 with h4|h4
    ·have:=hp.1 _ h3
     rw [h4] at e
     omega
    ·exact ih hp.2 h3 h4
 exact key _ h.ord ha hb
def TS.init:TS:=⟨fun _=>0,fun _=>0,fun _=>false,[],fun _=>0,0,[],[]⟩
theorem TInv.init (g:List (List Int)):TInv g TS.init where
 le:=fun _=>Nat.le_refl _
 nod:=fun _ h=>absurd h (Nat.lt_irrefl 0)
 stk:=fun _ h=>by cases h
 on:=fun _=>⟨fun h=>(by cases h),fun h=>(by cases h)⟩
 ord:=.nil
 psub:=.slnil
 bot:=fun _ h=>by cases h
 dk:=fun _ h=>absurd h.1 (Nat.lt_irrefl 0)
 kd:=fun _ h=>absurd h (Nat.not_lt_zero _)
 cl:=fun _ _ h=>absurd h.1 (Nat.lt_irrefl 0)
 scc:=fun _ _ h=>absurd h.1 (Nat.lt_irrefl 0)
 pr:=fun _ h=>by cases h
 j1:=fun _ h=>by cases h
 j2:=fun _ h=>by cases h
 j3:=fun _ h=>by cases h
 j4:=fun _ _ _ _ _ _ h=>by cases h
def Bf {α:Type}(f:Nat->α)(v:Nat)(x:α):Nat->α:=fun j=>if j=v then x else f j
theorem D3 {α:Type}(f:Nat->α)(v:Nat)(x:α):Bf f v x v=x:=if_pos rfl
theorem C1 {α:Type}(f:Nat->α){v j:Nat}(x:α)(h:j≠v):Bf f v x j=f j:=if_neg h
def TS.enter (s:TS)(v:Nat):TS:=⟨Bf s.idx v (s.cnt+1),Bf s.low v (s.cnt+1),Bf s.on v true,s.stk++[v],s.of,s.cnt+1,s.kn,s.path++[(v,0)]⟩
theorem TS.enter_pn (s:TS)(v:Nat):(s.enter v).pn=s.pn++[v]:=by simp [TS.enter,TS.pn]
theorem TInv.enter (h:TInv g s){v:Nat}(hv:v<g.length)(h0:s.idx v=0)(hp:∀ p∈s.pn,Rg g p v):TInv g (s.enter v):=by
 have hvs:v∉s.stk:=fun hh=>by have:=h.stk v hh;omega
 have hvp:v∉s.pn:=fun hh=>hvs (h.pstk hh)
 have ne:∀ x∈s.stk,x≠v:=fun x hx e=>hvs (e▸hx)
 have ix:∀ x,x≠v->(s.enter v).idx x=s.idx x:=fun x hx=>C1 _ _ hx
 have iv:(s.enter v).idx v=s.cnt+1:=D3 ..
 have lx:∀ x,x≠v->(s.enter v).low x=s.low x:=fun x hx=>C1 _ _ hx
 have lv:(s.enter v).low v=s.cnt+1:=D3 ..
 have ms:∀ x,x∈(s.enter v).stk↔x∈s.stk\/x=v:=fun x=>by simp [TS.enter]
 have mp:∀ x,x∈(s.enter v).pn↔x∈s.pn\/x=v:=fun x=>by rw [TS.enter_pn];simp
 have pos:∀ x,0<(s.enter v).idx x↔0<s.idx x\/x=v:=fun x=>by
  by_cases e:x=v
  ·subst e;rw [iv];simp
  ·rw [ix x e];simp [e]
 have dn:∀ x,(s.enter v).Dn x↔s.Dn x:=fun x=>by
  unfold TS.Dn
  rw [pos,ms]
  constructor
  ·rintro ⟨h1|h1,h2⟩
   ·exact ⟨h1,fun hh=>h2 (.inl hh)⟩
   ·exact absurd (.inr h1) h2
  ·rintro ⟨h1,h2⟩
   exact ⟨.inl h1,fun hh=>hh.elim h2 (fun e=>by subst e;omega)⟩
 have prx:∀ x k,x≠v->(s.enter v).Pr x k->s.Pr x k:=fun x k e hk=>by
  rcases hk with hk|⟨nx,h1,h2⟩
  ·exact .inl fun hh=>hk ((mp x).2 (.inl hh))
  ·refine .inr ⟨nx,?_,h2⟩
   have:(x,nx)∈s.path++[(v,0)]:=h1
   rcases List.mem_append.1 this with h3|h3
   ·exact h3
   ·simp at h3;exact absurd h3.1 e
 have prv:∀ k,¬(s.enter v).Pr v k:=fun k hk=>by
  rcases hk with hk|⟨nx,h1,h2⟩
  ·exact hk ((mp v).2 (.inr rfl))
  ·have:(v,nx)∈s.path++[(v,0)]:=h1
   rcases List.mem_append.1 this with h3|h3
   ·exact hvp (List.mem_map.2 ⟨_,h3,rfl⟩)
   ·simp at h3;omega
 have lt:∀ x∈s.stk,s.idx x<s.cnt+1:=fun x _=>by have:=h.le x;omega
 constructor
 ·intro x
  show (s.enter v).idx x<=s.cnt+1
  by_cases e:x=v
  ·subst e;rw [iv];omega
  ·rw [ix x e];have:=h.le x;omega
 ·intro x hx
  rcases (pos x).1 hx with hx|rfl
  ·exact h.nod x hx
  ·exact hv
 ·intro x hx
  exact (pos x).2 (((ms x).1 hx).imp (h.stk x) id)
 ·intro x
  rw [ms,<- h.on]
  show Bf s.on v true x=true↔_
  by_cases e:x=v
  ·subst e;rw [D3];simp
  ·rw [C1 _ _ e];simp [e]
 ·show (s.stk++[v]).Pairwise _
  rw [List.pairwise_append]
  refine ⟨h.ord.imp_of_mem fun ha hb hab=>by rw [ix _ (ne _ ha),ix _ (ne _ hb)];exact hab,List.pairwise_singleton _ _,fun a ha b hb=>?_⟩
  simp at hb
  subst hb
  rw [ix a (ne a ha),iv]
  exact lt a ha
 ·rw [TS.enter_pn]
  exact h.psub.append (List.Sublist.refl [v])
 ·intro x hx
  rcases (ms x).1 hx with hx'|rfl
  ·obtain ⟨p,hp1,hp2⟩:=h.bot x hx'
   exact ⟨p,(mp p).2 (.inl hp1),by rw [ix p (ne p (h.pstk hp1)),ix x (ne x hx')];exact hp2⟩
  ·exact ⟨x,(mp x).2 (.inr rfl),Nat.le_refl _⟩
 ·intro x hx
  exact h.dk x ((dn x).1 hx)
 ·intro k hk
  obtain ⟨h1,h2,h3⟩:=h.kd k hk
  exact ⟨h1,h2,fun x hx=>⟨(dn x).2 (h3 x hx).1,(h3 x hx).2⟩⟩
 ·intro x w hx he
  obtain ⟨h1,h2⟩:=h.cl x w ((dn x).1 hx) he
  exact ⟨(dn w).2 h1,h2⟩
 ·intro x u hx hu
  exact h.scc x u ((dn x).1 hx) ((dn u).1 hu)
 ·intro x hx k w hk he
  rcases (ms x).1 hx with hx'|rfl
  ·exact (pos w).2 (.inl (h.pr x hx' k w (prx x k (ne x hx') hk) he))
  ·exact absurd hk (prv k)
 ·intro x hx hxp
  rcases (ms x).1 hx with hx'|rfl
  ·obtain ⟨y,hy,h1,h2⟩:=h.j1 x hx' fun hh=>hxp ((mp x).2 (.inl hh))
   exact ⟨y,(ms y).2 (.inl hy),by rw [ix y (ne y hy),ix x (ne x hx')];exact h1,h2⟩
  ·exact absurd ((mp x).2 (.inr rfl)) hxp
 ·intro p hp' x hx hle
  rcases (mp p).1 hp' with hp1|rfl
  ·rcases (ms x).1 hx with hx'|rfl
   ·rw [ix p (ne p (h.pstk hp1)),ix x (ne x hx')] at hle
    exact h.j2 p hp1 x hx' hle
   ·exact hp p hp1
  ·rcases (ms x).1 hx with hx'|rfl
   ·rw [iv,ix x (ne x hx')] at hle
    have:=lt x hx'
    omega
   ·exact .refl _
 ·intro p hp'
  rcases (mp p).1 hp' with hp1|rfl
  ·obtain ⟨h1,y,hy,h2,h3⟩:=h.j3 p hp1
   have hpv:=ne p (h.pstk hp1)
   exact ⟨by rw [lx p hpv,ix p hpv];exact h1,y,(ms y).2 (.inl hy),by rw [ix y (ne y hy),lx p hpv];exact h2,h3⟩
  ·exact ⟨by rw [lv,iv];exact Nat.le_refl _,p,(ms p).2 (.inr rfl),by rw [iv,lv],.refl _⟩
 ·intro A u nx B hpath x hx hle hB k w hk he hw
  have hpath:s.path++[(v,0)]=A++(u,nx)::B:=hpath
  rcases (ms x).1 hx with hx'|rfl
  ·have hxv:=ne x hx'
   rw [ix x hxv] at hle hB
   have hk':=prx x k hxv hk
   have hu:u∈(s.enter v).pn:=List.mem_map.2 ⟨(u,nx),by show _∈s.path++[(v,0)];rw [hpath];simp,rfl⟩
   have huv:u≠v:=fun e=>by
    subst e
    rw [iv] at hle
    have:=lt x hx'
    omega
   have hus:u∈s.pn:=((mp u).1 hu).resolve_right huv
   rw [ix u huv] at hle
   rw [lx u huv]
   rcases List.eq_nil_or_concat B with rfl|⟨B',b,rfl⟩
   ·have:=congrArg List.getLast? hpath
    simp at this
    exact absurd this.1.symm huv
   ·have e2:s.path++[(v,0)]=(A++(u,nx)::B')++[b]:=by rw [hpath];simp
    have e3:=List.append_inj' e2 rfl
    rcases (ms w).1 hw with hw'|rfl
    ·rw [ix w (ne w hw')]
     refine h.j4 A u nx B' e3.1 x hx' hle (fun c hc=>?_) k w hk' he hw'
     have:=hB c (by simp [hc])
     have hcs:c.1∈s.stk:=h.pstk (List.mem_map.2 ⟨c,by rw [e3.1];simp [hc],rfl⟩)
     rwa [ix c.1 (ne _ hcs)] at this
    ·have:=h.pr x hx' k w hk' he
     omega
  ·exact absurd hk (prv k)
theorem TInv.pnd (h:TInv g s):s.pn.Pairwise fun a b=>s.idx a<s.idx b:=h.ord.sublist h.psub
theorem TInv.plt (h:TInv g s){A B:List (Nat×Nat)}{v nx:Nat}(hp:s.path=A++(v,nx)::B):(∀ a∈A,s.idx a.1<s.idx v)/\∀ b∈B,s.idx v<s.idx b.1:=by
 have:=h.pnd
 unfold TS.pn at this
 rw [hp,List.map_append,List.map_cons,List.pairwise_append,List.pairwise_cons] at this
 exact ⟨fun a ha=>this.2.2 a.1 (List.mem_map.2 ⟨a,ha,rfl⟩) v (by simp),fun b hb=>this.2.1.1 b.1 (List.mem_map.2 ⟨b,hb,rfl⟩)⟩
def TS.adv (s:TS)(A B:List (Nat×Nat))(v nx m:Nat):TS:={ s with path:=A++(v,nx+1)::B,low:=Bf s.low v m }
theorem TInv.adv (h:TInv g s){A B:List (Nat×Nat)}{v nx m:Nat}(hp:s.path=A++(v,nx)::B)(hm:m<=s.low v)(hmw:m=s.low v\/∃ w∈s.stk,EdK g v nx w/\m=s.idx w)(he:∀ w,EdK g v nx w->0<s.idx w/\(w∈s.stk->m<=s.idx w)):TInv g (s.adv A B v nx m):=by
 have hpn:(s.adv A B v nx m).pn=s.pn:=by simp [TS.adv,TS.pn,hp]
 have hvp:v∈s.pn:=by unfold TS.pn;rw [hp];simp
 have hvs:=h.pstk hvp
 obtain ⟨hA,hB⟩:=h.plt hp
 have lv:(s.adv A B v nx m).low v=m:=D3 ..
 have lx:∀ x,x≠v->(s.adv A B v nx m).low x=s.low x:=fun x hx=>C1 _ _ hx
 have prx:∀ x k,(s.adv A B v nx m).Pr x k->s.Pr x k\/(x=v/\k=nx):=fun x k hk=>by
  rcases hk with hk|⟨n1,h1,h2⟩
  ·rw [hpn] at hk
   exact .inl (.inl hk)
  ·have h1:(x,n1)∈A++(v,nx+1)::B:=h1
   rcases List.mem_append.1 h1 with h3|h3
   ·exact .inl (.inr ⟨n1,by rw [hp];exact List.mem_append.2 (.inl h3),h2⟩)
   ·rcases List.mem_cons.1 h3 with h4|h4
    ·injection h4 with h5 h6
     by_cases e:k=nx
     ·exact .inr ⟨h5,e⟩
     ·exact .inl (.inr ⟨nx,by rw [hp,h5];simp,by omega⟩)
    ·exact .inl (.inr ⟨n1,by rw [hp];simp [h4],h2⟩)
 refine { le:=h.le,nod:=h.nod,stk:=h.stk,on:=h.on,ord:=h.ord,psub:=hpn▸h.psub,bot:=fun x hx=>hpn▸h.bot x hx,dk:=h.dk,kd:=h.kd,cl:=h.cl,scc:=h.scc,pr:=?_,j1:=fun x hx hxp=>h.j1 x hx (hpn▸hxp),j2:=fun q hq=>h.j2 q (hpn▸hq),j3:=?_,j4:=?_ }
 ·intro x hx k w hk hw
  rcases prx x k hk with hk|⟨rfl,rfl⟩
  ·exact h.pr x hx k w hk hw
  ·exact (he w hw).1
 ·intro q hq
  rw [hpn] at hq
  obtain ⟨h1,y,hy,h2,h3⟩:=h.j3 q hq
  by_cases e:q=v
  ·subst e
   rw [lv]
   refine ⟨by show m<=s.idx q;omega,?_⟩
   rcases hmw with rfl|⟨w,hw,hw2,rfl⟩
   ·exact ⟨y,hy,h2,h3⟩
   ·exact ⟨w,hw,rfl,.one ⟨_,hw2⟩⟩
  ·rw [lx q e]
   exact ⟨h1,y,hy,h2,h3⟩
 ·intro A' u n1 B' hpath x hx hle hBx k w hk hw hws
  have hpath:A++(v,nx+1)::B=A'++(u,n1)::B':=hpath
  have hu:u∈s.pn:=by
   rw [<- hpn]
   exact List.mem_map.2 ⟨(u,n1),by show _∈A++(v,nx+1)::B;rw [hpath];simp,rfl⟩
  have old:∃ A0 n0 B0,s.path=A0++(u,n0)::B0/\(∀ b∈B0,∃ n2,(b.1,n2)∈B'):=by
   have hmap:∀ (l l':List (Nat×Nat)),l.map (·.1)=l'.map (·.1)->∀ C D u1 n1,l'=C++(u1,n1)::D->∃ C0 n0 D0,l=C0++(u1,n0)::D0/\D0.map (·.1)=D.map (·.1):=by
    intro l l' hl C D u1 n1 e
    subst e
    rw [List.map_append,List.map_cons] at hl
    obtain ⟨C0,D1,rfl,h2,h3⟩:=List.map_eq_append_iff.1 hl
    obtain ⟨c,D0,rfl,h4,h5⟩:=List.map_eq_cons_iff.1 h3
    have h4:c.1=u1:=h4
    exact ⟨C0,c.2,D0,by rw [<- h4],h5⟩
   obtain ⟨C0,n0,D0,e1,e2⟩:=hmap s.path (A++(v,nx+1)::B) (by rw [hp];simp) A' B' u n1 hpath
   refine ⟨C0,n0,D0,e1,fun b hb=>?_⟩
   have:b.1∈B'.map (·.1):=by rw [<- e2];exact List.mem_map.2 ⟨b,hb,rfl⟩
   obtain ⟨c,hc,e⟩:=List.mem_map.1 this
   exact ⟨c.2,by rw [<- e];exact hc⟩
  obtain ⟨A0,n0,B0,e1,e2⟩:=old
  have hB0:∀ b∈B0,s.idx x<s.idx b.1:=fun b hb=>by
   obtain ⟨n2,hn2⟩:=e2 b hb
   have:=hBx (b.1,n2) hn2
   exact this
  have hws:w∈s.stk:=hws
  have hx:x∈s.stk:=hx
  have hle:s.idx u<=s.idx x:=hle
  rcases prx x k hk with hk|⟨rfl,rfl⟩
  ·have h1:=h.j4 A0 u n0 B0 e1 x hx hle hB0 k w hk hw hws
   show (s.adv A B v nx m).low u<=s.idx w
   by_cases e:u=v
   ·subst e
    rw [lv]
    omega
   ·rw [lx u e]
    exact h1
  ·
   have huv:u=x:=by
    apply Classical.byContradiction
    intro hne
    have hlt:s.idx u<s.idx x:=Nat.lt_of_le_of_ne hle fun e=>hne (h.inj (h.pstk hu) hx e)
    have hxB:x∈B0.map (·.1):=by
     have hxp:x∈s.pn:=hvp
     unfold TS.pn at hxp
     rw [e1,List.map_append,List.map_cons] at hxp
     rcases List.mem_append.1 hxp with h3|h3
     ·obtain ⟨c,hc,e⟩:=List.mem_map.1 h3
      have:=(h.plt e1).1 c hc
      rw [e] at this
      omega
     ·rcases List.mem_cons.1 h3 with h4|h4
      ·exact absurd h4.symm hne
      ·exact h4
    obtain ⟨b,hb,e⟩:=List.mem_map.1 hxB
    have:=hB0 b hb
    rw [e] at this
    omega
   subst huv
   show (s.adv A B u k m).low u<=s.idx w
   rw [lv]
   exact (he w hw).2 hws
end
section
variable {g:List (List Int)}{s:TS}
def TS.pop (s:TS)(A:List (Nat×Nat))(u k m:Nat):TS:={ s with path:=A++[(u,k)],low:=Bf s.low u m }
theorem TInv.pop (h:TInv g s){A:List (Nat×Nat)}{u k v nx:Nat}(hp:s.path=A++[(u,k),(v,nx)])(hall:∀ k w,EdK g v k w->k<nx)(hne:s.low v≠s.idx v):TInv g (s.pop A u k (min (s.low u) (s.low v))):=by
 have hp2:s.path=(A++[(u,k)])++(v,nx)::[]:=by rw [hp];simp
 have hp3:s.path=A++(u,k)::[(v,nx)]:=hp
 have hpn:s.pn=(s.pop A u k (min (s.low u) (s.low v))).pn++[v]:=by simp [TS.pop,TS.pn,hp]
 have hup:u∈s.pn:=by unfold TS.pn;rw [hp];simp
 have hvp:v∈s.pn:=by unfold TS.pn;rw [hp];simp
 have huv:s.idx u<s.idx v:=(h.plt hp3).2 (v,nx) (by simp)
 obtain ⟨hlv,y,hy,hy2,hy3⟩:=h.j3 v hvp
 obtain ⟨hlu,z,hz,hz2,hz3⟩:=h.j3 u hup
 have hvs:=h.pstk hvp
 have mp:∀ x,x∈s.pn↔x∈(s.pop A u k (min (s.low u) (s.low v))).pn\/x=v:=fun x=>by rw [hpn];simp
 have lu:(s.pop A u k (min (s.low u) (s.low v))).low u=min (s.low u) (s.low v):=D3 ..
 have lx:∀ x,x≠u->(s.pop A u k (min (s.low u) (s.low v))).low x=s.low x:=fun x hx=>C1 _ _ hx
 have prx:∀ x j w,EdK g x j w->(s.pop A u k (min (s.low u) (s.low v))).Pr x j->s.Pr x j:=fun x j w he hk=>by
  by_cases e:x=v
  ·subst e
   exact .inr ⟨nx,by rw [hp];simp,hall j w he⟩
  ·rcases hk with hk|⟨n1,h1,h2⟩
   ·exact .inl fun hh=>((mp x).1 hh).elim hk e
   ·have h1:(x,n1)∈A++[(u,k)]:=h1
    exact .inr ⟨n1,by rw [hp2];exact List.mem_append.2 (.inl h1),h2⟩
 have low:∀ x∈s.stk,s.idx x<s.idx v->x≠v:=fun x _ hx e=>by subst e;omega
 refine { le:=h.le,nod:=h.nod,stk:=h.stk,on:=h.on,ord:=h.ord,psub:=?_,bot:=fun x hx=>?_,dk:=h.dk,kd:=h.kd,cl:=h.cl,scc:=h.scc,pr:=fun x hx j w hk he=>h.pr x hx j w (prx x j w he hk) he,j1:=fun x hx hxp=>?_,j2:=fun q hq=>h.j2 q ((mp q).2 (.inl hq)),j3:=fun q hq=>?_,j4:=?_ }
 ·have:=h.psub
  rw [hpn] at this
  exact (List.sublist_append_left _ _).trans this
 ·obtain ⟨q,hq,hq2⟩:=h.bot x hx
  rcases (mp q).1 hq with hq|rfl
  ·exact ⟨q,hq,hq2⟩
  ·exact ⟨u,by simp [TS.pop,TS.pn],by show s.idx u<=s.idx x;omega⟩
 ·by_cases e:x=v
  ·subst e
   exact ⟨y,hy,by show s.idx y<s.idx x;omega,hy3⟩
  ·exact h.j1 x hx fun hh=>((mp x).1 hh).elim hxp e
 ·by_cases e:q=u
  ·subst e
   rw [lu]
   refine ⟨by show _<=s.idx q;omega,?_⟩
   by_cases hc:s.low q<=s.low v
   ·exact ⟨z,hz,by rw [Nat.min_eq_left hc];exact hz2,hz3⟩
   ·exact ⟨y,hy,by rw [Nat.min_eq_right (by omega)];exact hy2,(h.j2 q hup v hvs (by omega)).trans hy3⟩
  ·rw [lx q e]
   exact h.j3 q ((mp q).2 (.inl hq))
 ·intro A' a n1 B' hpath x hx hle hBx j w hk he hws
  have hpath:A++[(u,k)]=A'++(a,n1)::B':=hpath
  have hx:x∈s.stk:=hx
  have hws:w∈s.stk:=hws
  have hle:s.idx a<=s.idx x:=hle
  have hk':=prx x j w he hk
  have hfull:s.path=A'++(a,n1)::(B'++[(v,nx)]):=by rw [hp2,hpath];simp
  by_cases hxv:s.idx x<s.idx v
  ·have h1:=h.j4 A' a n1 (B'++[(v,nx)]) hfull x hx hle (fun b hb=>by
    rcases List.mem_append.1 hb with hb|hb
    ·exact hBx b hb
    ·simp at hb;rw [hb];exact hxv) j w hk' he hws
   show (s.pop A u k (min (s.low u) (s.low v))).low a<=s.idx w
   by_cases e:a=u
   ·subst e;rw [lu];omega
   ·rw [lx a e];exact h1
  ·have h1:=h.j4 (A++[(u,k)]) v nx [] hp2 x hx (by omega) (fun b hb=>by cases hb) j w hk' he hws
   have hau:a=u:=by
    rcases List.eq_nil_or_concat B' with rfl|⟨B2,b,rfl⟩
    ·have:=congrArg List.getLast? hpath
     simp at this
     exact this.1.symm
    ·have e2:A++[(u,k)]=(A'++(a,n1)::B2)++[b]:=by rw [hpath];simp
     have e3:=List.append_inj' e2 rfl
     have e4:b=(u,k):=by have:=e3.2;simp at this;exact this.symm
     have:=hBx b (by simp)
     rw [e4] at this
     have this:s.idx x<s.idx u:=this
     omega
   subst hau
   show (s.pop A a k (min (s.low a) (s.low v))).low a<=s.idx w
   rw [lu]
   omega
def TS.leave (s:TS)(A:List (Nat×Nat))(L T l:List Nat):TS:=⟨s.idx,s.low,fun x=>s.on x&&!decide (x∈T),L,fun x=>if x∈T then s.kn.length else s.of x,s.cnt,s.kn++[l],A⟩
theorem TInv.leave (h:TInv g s){A:List (Nat×Nat)}{v nx:Nat}{L T l:List Nat}(hp:s.path=A++[(v,nx)])(hall:∀ k w,EdK g v k w->k<nx)(he:s.low v=s.idx v)(hs:s.stk=L++T)(hT:T.head?=some v)(hl:l.Pairwise (·<·))(hlT:∀ x,x∈l↔x∈T):TInv g (s.leave A L T l):=by
 have hp2:s.path=A++(v,nx)::[]:=hp
 have hvp:v∈s.pn:=by unfold TS.pn;rw [hp];simp
 have hvs:=h.pstk hvp
 have hvT:v∈T:=by cases T with
  |nil=>cases hT
  |cons a r=>simp at hT;simp [hT]
 have hord:=h.ord
 rw [hs,List.pairwise_append] at hord
 obtain ⟨oL,oT,oLT⟩:=hord
 have hTge:∀ x∈T,s.idx v<=s.idx x:=fun x hx=>by
  cases T with
  |nil=>cases hT
  |cons a r=>
   simp at hT
   subst hT
   rcases List.mem_cons.1 hx with e|hx
   ·rw [e];exact Nat.le_refl _
   ·exact Nat.le_of_lt ((List.pairwise_cons.1 oT).1 x hx)
 have hLlt:∀ x∈L,s.idx x<s.idx v:=fun x hx=>oLT x hx v hvT
 have mT:∀ x,x∈T↔x∈s.stk/\s.idx v<=s.idx x:=fun x=>by
  rw [hs,List.mem_append]
  constructor
  ·exact fun hx=>⟨.inr hx,hTge x hx⟩
  ·rintro ⟨hx|hx,h2⟩
   ·have:=hLlt x hx;omega
   ·exact hx
 have mL:∀ x,x∈L↔x∈s.stk/\x∉T:=fun x=>by
  constructor
  ·intro hx
   exact ⟨by rw [hs];exact List.mem_append.2 (.inl hx),fun hh=>by have:=hLlt x hx;have:=hTge x hh;omega⟩
  ·rintro ⟨hx,h2⟩
   rw [hs,List.mem_append] at hx
   exact hx.resolve_right h2
 have hpnA:s.pn=A.map (·.1)++[v]:=by simp [TS.pn,hp]
 have hA:∀ a∈A,s.idx a.1<s.idx v:=(h.plt hp2).1
 have hpnT:∀ x∈T,x∈s.pn->x=v:=fun x hx hxp=>by
  rw [hpnA] at hxp
  rcases List.mem_append.1 hxp with h1|h1
  ·obtain ⟨a,ha,e⟩:=List.mem_map.1 h1
   have:=hA a ha
   have:=hTge x hx
   rw [e] at *
   omega
  ·simpa using h1
 have prT:∀ x∈T,∀ j w,EdK g x j w->s.Pr x j:=fun x hx j w hj=>by
  by_cases e:x∈s.pn
  ·have:=hpnT x hx e
   subst this
   exact .inr ⟨nx,by rw [hp];simp,hall j w hj⟩
  ·exact .inl e
 have clT:∀ x∈T,∀ w,Ed g x w->w∈T\/s.Dn w:=fun x hx w ⟨j,hj⟩=>by
  have hxs:=((mT x).1 hx).1
  have hk:=prT x hx j w hj
  have h1:=h.pr x hxs j w hk hj
  by_cases hw:w∈s.stk
  ·refine .inl ((mT w).2 ⟨hw,?_⟩)
   have:=h.j4 A v nx [] hp2 x hxs (hTge x hx) (fun b hb=>by cases hb) j w hk hj hw
   omega
  ·exact .inr ⟨h1,hw⟩
 have dnT:∀ x∈T,¬s.Dn x:=fun x hx hh=>hh.2 ((mT x).1 hx).1
 have down:∀ x∈T,Rg g v x:=fun x hx=>h.j2 v hvp x ((mT x).1 hx).1 (hTge x hx)
 have clTD:∀ a b,(a∈T\/s.Dn a)->Ed g a b->(b∈T\/s.Dn b):=fun a b ha e=>ha.elim (fun ha=>clT a ha b e) fun ha=>.inr (h.cl a b ha e).1
 have up:∀ m x,x∈T->s.idx x=m->Rg g x v:=by
  intro m
  induction m using Nat.strongRecOn with
  |_ m ih=>
   intro x hx hm
   by_cases e:x∈s.pn
   ·rw [hpnT x hx e];exact .refl _
   ·obtain ⟨y,hy,h1,h2⟩:=h.j1 x ((mT x).1 hx).1 e
    have hyT:y∈T:=((h2.closed clTD) (.inl hx)).resolve_right fun hh=>hh.2 hy
    exact h2.trans (ih (s.idx y) (by omega) y hyT rfl)
 have clD:∀ a b,s.Dn a->Ed g a b->s.Dn b:=fun a b ha e=>(h.cl a b ha e).1
 have ofT:∀ x∈T,(s.leave A L T l).of x=s.kn.length:=fun x hx=>if_pos hx
 have ofD:∀ x,x∉T->(s.leave A L T l).of x=s.of x:=fun x hx=>if_neg hx
 have dn:∀ x,(s.leave A L T l).Dn x↔s.Dn x\/x∈T:=fun x=>by
  show 0<s.idx x/\x∉L↔_
  rw [mL]
  constructor
  ·rintro ⟨h1,h2⟩
   by_cases e:x∈s.stk
   ·exact .inr (Classical.byContradiction fun hh=>h2 ⟨e,hh⟩)
   ·exact .inl ⟨h1,e⟩
  ·rintro (h1|h1)
   ·exact ⟨h1.1,fun hh=>h1.2 hh.1⟩
   ·exact ⟨h.stk x ((mT x).1 h1).1,fun hh=>hh.2 h1⟩
 have mp:∀ x,x∈(s.leave A L T l).pn↔x∈s.pn/\x≠v:=fun x=>by
  show x∈A.map (·.1)↔_
  rw [hpnA]
  constructor
  ·intro hx
   refine ⟨by simp only [List.mem_append];exact .inl hx,fun e=>?_⟩
   obtain ⟨a,ha,e2⟩:=List.mem_map.1 hx
   have:=hA a ha
   rw [e2,e] at this
   omega
  ·rintro ⟨hx,h2⟩
   rcases List.mem_append.1 hx with h1|h1
   ·exact h1
   ·simp at h1;exact absurd h1 h2
 have knl:∀ k,k<s.kn.length->(s.leave A L T l).kn[k]! = s.kn[k]! := fun k hk=>by
  show (s.kn++[l])[k]! = _
  rw [getElem!_pos _ k (by simp;omega),getElem!_pos _ k hk,List.getElem_append_left hk]
 have kne:(s.leave A L T l).kn[s.kn.length]! = l:=by
  show (s.kn++[l])[s.kn.length]! = _
  rw [getElem!_pos _ _ (by simp)]
  simp
 have knL:(s.leave A L T l).kn.length=s.kn.length+1:=by simp [TS.leave]
 have pr2:∀ x∈L,∀ j,(s.leave A L T l).Pr x j->s.Pr x j:=fun x hx j hk=>by
  have hxv:x≠v:=fun e=>((mL x).1 hx).2 (e▸hvT)
  rcases hk with hk|⟨n1,h1,h2⟩
  ·exact .inl fun hh=>hk ((mp x).2 ⟨hh,hxv⟩)
  ·have h1:(x,n1)∈A:=h1
   exact .inr ⟨n1,by rw [hp];simp [h1],h2⟩
 refine { le:=h.le,nod:=h.nod,stk:=fun x hx=>h.stk x ((mL x).1 hx).1,on:=fun x=>?_,ord:=oL,psub:=?_,bot:=fun x hx=>?_,dk:=fun x hx=>?_,kd:=fun k hk=>?_,cl:=fun x w hx e=>?_,scc:=fun x u hx hu=>?_,pr:=fun x hx j w hk hj=>h.pr x ((mL x).1 hx).1 j w (pr2 x hx j hk) hj,j1:=fun x hx hxp=>?_,j2:=fun q hq x hx=>h.j2 q ((mp q).1 hq).1 x ((mL x).1 hx).1,j3:=fun q hq=>?_,j4:=?_ }
 ·show (s.on x&&!decide (x∈T))=true↔x∈L
  rw [mL,Bool.and_eq_true,h.on,Bool.not_eq_true',decide_eq_false_iff_not]
 ·show (A.map (·.1)).Sublist L
  have h1:=h.psub
  rw [hpnA,hs] at h1
  have h2:(A.map (·.1)).Sublist (L++T):=(List.sublist_append_left _ _).trans h1
  obtain ⟨l1,l2,e,s1,s2⟩:=List.sublist_append_iff.1 h2
  have:l2=[]:=by
   cases l2 with
   |nil=>rfl
   |cons c r=>
    have hc:c∈T:=s2.subset (by simp)
    have hcA:c∈A.map (·.1):=by rw [e];simp
    obtain ⟨a,ha,e2⟩:=List.mem_map.1 hcA
    have:=hA a ha
    have:=hTge c hc
    rw [e2] at *
    omega
  rw [e,this,List.append_nil]
  exact s1
 ·obtain ⟨q,hq,hq2⟩:=h.bot x ((mL x).1 hx).1
  refine ⟨q,(mp q).2 ⟨hq,fun e=>?_⟩,hq2⟩
  subst e
  have:=hLlt x hx
  omega
 ·by_cases e:x∈T
  ·rw [ofT x e,knL,kne]
   exact ⟨by omega,(hlT x).2 e⟩
  ·have hd:=((dn x).1 hx).resolve_right e
   obtain ⟨h1,h2⟩:=h.dk x hd
   rw [ofD x e,knL,knl _ h1]
   exact ⟨by omega,h2⟩
 ·rw [knL] at hk
  by_cases e:k<s.kn.length
  ·rw [knl k e]
   obtain ⟨h1,h2,h3⟩:=h.kd k e
   exact ⟨h1,h2,fun x hx=>⟨(dn x).2 (.inl (h3 x hx).1),by rw [ofD x fun hh=>dnT x hh (h3 x hx).1];exact (h3 x hx).2⟩⟩
  ·have e:k=s.kn.length:=by omega
   subst e
   rw [kne]
   refine ⟨fun e=>?_,hl,fun x hx=>⟨(dn x).2 (.inr ((hlT x).1 hx)),ofT x ((hlT x).1 hx)⟩⟩
   have:=(hlT v).2 hvT
   rw [e] at this
   cases this
 ·rcases (dn x).1 hx with hd|hd
  ·have:=h.cl x w hd e
   refine ⟨(dn w).2 (.inl this.1),?_⟩
   rw [ofD x fun hh=>dnT x hh hd,ofD w fun hh=>dnT w hh this.1]
   exact this.2
  ·rw [ofT x hd]
   rcases clT x hd w e with hw|hw
   ·exact ⟨(dn w).2 (.inr hw),by rw [ofT w hw];exact Nat.le_refl _⟩
   ·exact ⟨(dn w).2 (.inl hw),by rw [ofD w fun hh=>dnT w hh hw];exact Nat.le_of_lt (h.dk w hw).1⟩
 ·rcases (dn x).1 hx with hd|hd
  ·have hxT:x∉T:=fun hh=>dnT x hh hd
   rcases (dn u).1 hu with he'|he'
   ·rw [ofD x hxT,ofD u fun hh=>dnT u hh he']
    exact h.scc x u hd he'
   ·rw [ofD x hxT,ofT u he']
    constructor
    ·intro e
     have:=(h.dk x hd).1
     omega
    ·intro e
     exact absurd ((e.1.closed clD) hd) (dnT u he')
  ·rcases (dn u).1 hu with he'|he'
   ·rw [ofT x hd,ofD u fun hh=>dnT u hh he']
    constructor
    ·intro e
     have:=(h.dk u he').1
     omega
    ·intro e
     exact absurd ((e.2.closed clD) he') (dnT x hd)
   ·rw [ofT x hd,ofT u he']
    exact ⟨fun _=>⟨(up _ x hd rfl).trans (down u he'),(up _ u he' rfl).trans (down x hd)⟩,fun _=>rfl⟩
 ·have hxs:=((mL x).1 hx).1
  have hxv:x≠v:=fun e=>((mL x).1 hx).2 (e▸hvT)
  obtain ⟨y,hy,h1,h2⟩:=h.j1 x hxs fun hh=>hxp ((mp x).2 ⟨hh,hxv⟩)
  exact ⟨y,(mL y).2 ⟨hy,fun hh=>by have:=hLlt x hx;have:=hTge y hh;omega⟩,h1,h2⟩
 ·obtain ⟨hq1,hq2⟩:=(mp q).1 hq
  obtain ⟨h1,y,hy,h2,h3⟩:=h.j3 q hq1
  refine ⟨h1,y,(mL y).2 ⟨hy,fun hh=>?_⟩,h2,h3⟩
  have h4:=hTge y hh
  have hqA:q∈A.map (·.1):=hq
  obtain ⟨a,ha,e⟩:=List.mem_map.1 hqA
  have:=hA a ha
  rw [e] at this
  omega
 ·intro A' a n1 B' hpath x hx hle hBx j w hk hj hws
  have hpath:A=A'++(a,n1)::B':=hpath
  have hfull:s.path=A'++(a,n1)::(B'++[(v,nx)]):=by rw [hp,hpath];simp
  exact h.j4 A' a n1 (B'++[(v,nx)]) hfull x ((mL x).1 hx).1 hle (fun b hb=>by
   rcases List.mem_append.1 hb with hb|hb
   ·exact hBx b hb
   ·simp at hb
    rw [hb]
    exact hLlt x hx) j w (pr2 x hx j hk) hj ((mL w).1 hws).1
theorem TInv.last (h:TInv g s){v nx:Nat}(hp:s.path=[(v,nx)]):s.low v=s.idx v:=by
 have hvp:v∈s.pn:=by unfold TS.pn;rw [hp];simp
 obtain ⟨h1,y,hy,h2,_⟩:=h.j3 v hvp
 obtain ⟨q,hq,hq2⟩:=h.bot y hy
 unfold TS.pn at hq
 rw [hp] at hq
 simp at hq
 subst hq
 omega
theorem TInv.empty (h:TInv g s)(hp:s.path=[]):s.stk=[]:=by
 cases hs:s.stk with
 |nil=>rfl
 |cons a r=>
  obtain ⟨q,hq,_⟩:=h.bot a (by rw [hs];simp)
  unfold TS.pn at hq
  rw [hp] at hq
  cases hq
end
open Go.RowKit
def vi (xs:List Nat):List Value:=xs.map fun (x:Nat)=>Value.int .i64 (x:Int)
theorem R0 (xs:List Nat):(vi xs).length=xs.length:=by simp [vi]
theorem Wy (x:Nat)(ys:List Nat):vi (x::ys)=.int .i64 (x:Int)::vi ys:=rfl
structure QRow (base:Nat)(V:Value)(xs:List Nat)(fp:List Nat)(w:World):Prop where
 ex:(xs=[]/\fp=[]/\∃ A,V=.slice A 0 0)\/∃ (g:Nat) (pre post:List Value),fp=[g]/\V=.slice (some ⟨g,pre.length,none⟩) xs.length (xs.length+post.length)/\base<=g /\
  w.heap[g]?=some (.cells (pre++vi xs++post).toArray 3 (0,0))/\xs.length+post.length<=9223372036854775807
section
variable {base:Nat}{V:Value}{xs r fp:List Nat}{w w1:World}{x:Nat}
theorem QRow.keep (h:QRow base V xs fp w)(hb:∀ b∈fp,w1.heap[b]?=w.heap[b]?):QRow base V xs fp w1:=by
 rcases h.ex with h|⟨g,pre,post,h1,h2,h3,h4,h5⟩
 ·exact ⟨.inl h⟩
 ·exact ⟨.inr ⟨g,pre,post,h1,h2,h3,(hb g (by simp [h1])).trans h4,h5⟩⟩
theorem QRow.lt (h:QRow base V xs fp w):∀ b∈fp,base<=b/\b<w.heap.size:=by
 rcases h.ex with ⟨_,rfl,_⟩|⟨g,pre,post,rfl,h2,h3,h4,h5⟩
 ·simp
 ·intro b hb;simp at hb;subst hb;exact ⟨h3,Ae h4⟩
theorem QRow.form (h:QRow base V xs fp w):∃ A c,V=.slice A xs.length c/\xs.length<=c:=by
 rcases h.ex with ⟨rfl,_,A,rfl⟩|⟨g,pre,post,h1,h2,h3,h4,h5⟩
 ·exact ⟨A,0,rfl,by simp⟩
 ·exact ⟨_,_,h2,by omega⟩
theorem QRow.nil (A:Option Addr):QRow base (.slice A 0 0) [] [] w:=⟨.inl ⟨rfl,rfl,A,rfl⟩⟩
theorem QRow.head {A:Option Addr}{l c:Nat}(h:QRow base (.slice A l c) (x::r) fp w):∃ ad,A=some ad/\w.cell? (ad.add (0*1))=some (.int .i64 (x:Int)):=by
 rcases h.ex with ⟨h1,_⟩|⟨g,pre,post,h1,h2,h3,h4,h5⟩
 ·cases h1
 ·injection h2 with h2 _ _
  subst h2
  refine ⟨_,rfl,?_⟩
  show w.cell? ⟨g,pre.length,none⟩=_
  refine Au h4 ?_
  simp [Wy]
theorem QRow.tail {A:Option Addr}{l c:Nat}(h:QRow base (.slice A l c) (x::r) fp w):∃ fp',QRow base (.slice (K8 A 1 c 1) r.length (c - 1)) r fp' w/\∀ b∈fp',b∈fp:=by
 rcases h.ex with ⟨h1,_⟩|⟨g,pre,post,h1,h2,h3,h4,h5⟩
 ·cases h1
 ·injection h2 with h2 h6 h7
  subst h2 h7
  by_cases h0:(x::r).length+post.length=1
  ·have hr:r=[]:=by cases r with|nil=>rfl|cons=>simp at h0;omega
   subst hr
   have hp:post=[]:=by cases post with|nil=>rfl|cons=>simp at h0
   subst hp
   exact ⟨[],⟨.inl ⟨rfl,rfl,_,rfl⟩⟩,by simp⟩
  ·refine ⟨[g],⟨.inr ⟨g,pre++[.int .i64 (x:Int)],post,rfl,?_,h3,?_,?_⟩⟩,by simp [h1]⟩
   ·have hlt:1<(x::r).length+post.length:=by simp at h0 ⊢;omega
    rw [Hu hlt]
    simp
   ·rw [h4];simp [Wy]
   ·simp at h5 ⊢;omega
end
section
variable {P:Program}{T:Nat->Option TI}{n:Nat}{Q:Post}{F:Fm}{w:World}{ops:Array Oper}{rest:List Oper}{o:Oper}
theorem Ao8 {base b':Nat}{V:Value}{xs:List Nat}{m:Nat}(h:w.ownsRow b' 3 1 V m (vi xs))(hb:base<=b')(hm:m=xs.length):QRow base V xs V.ownBlock.toList w:=by
 subst hm
 rcases h.2 with ⟨rfl,h0⟩|⟨g,cap,cur,rfl,hbg,hg,hnc,hcm,hcs,htake⟩
 ·have:xs=[]:=List.eq_nil_of_length_eq_zero h0
  subst this
  exact ⟨.inl ⟨rfl,rfl,_,rfl⟩⟩
 ·refine ⟨.inr ⟨g,[],cur.toList.drop xs.length,rfl,?_,by omega,?_,?_⟩⟩
  ·have:xs.length+(cur.toList.drop xs.length).length=cap:=by simp;omega
   rw [this];rfl
  ·rw [hg]
   have e:vi xs=cur.toList.take xs.length:=by rw [Nat.mul_one] at htake;exact htake.symm
   rw [List.nil_append,e,List.take_append_drop]
  ·simp only [maxLen] at hcm
   simp;omega
theorem Aky (hT:TabOk P T)(hi8:I7 T 27 3 1 8=true){base:Nat}{V:Value}{xs fp:List Nat}{v:Nat}{c:Call}{x y:Operand}{g1 cc:Nat}{t':TypeId}
  (h:QRow base V xs fp w) (hb1:w.heap[g1]?=some (.cells #[.int .i64 (v:Int)] t' (0,0))) (hop:o.op=.call c) (hcal:c.callee=.builtin .append) (hargs:c.args.toList=[x,y]) (htys:c.argTypes.toList=[27,27])
  (hx:ev F x=V) (hy:ev F y=.slice (some ⟨g1,0,none⟩) 1 cc) (hl:xs.length<1099511627776) (hbase:base<=w.heap.size) :
  ∃ V' w1 fp',(execOp (ev F) o).run P w=.ok (.value V') w1/\QRow base V' (xs++[v]) fp' w1/\Kept fp w w1/\∀ b∈fp',b∈fp\/w.heap.size<=b:=by
 obtain ⟨hu,j,z,hj,hz,hs,hby,hzs⟩:=Eh hT hi8
 obtain ⟨callee,⟨args⟩,⟨tys⟩⟩:=c
 simp only at hcal hargs htys
 subst hcal hargs htys
 have hnews:∀ k u,([Value.int .i64 (v:Int)]:List Value)[k]?=some u->w.cell? ((⟨g1,0,none⟩:Addr).add k)=some u:=fun k u hu=>by
  rw [add_zero]
  refine Au hb1 ?_
  simpa using hu
 have hone:∀ u∈([Value.int .i64 (v:Int)]:List Value),u.oneCell'=true:=by simp [Value.oneCell']
 have hvi:vi xs++[Value.int .i64 (v:Int)]=vi (xs++[v]):=by simp [vi]
 have grow:∀ (b:Addr) (cap:Nat),V=.slice (some b) xs.length cap->cap<xs.length+1->(∀ k u,(vi xs)[k]?=some u->w.cell? (b.add k)=some u)->∃ V' w1 fp',(execOp (ev F) o).run P w=.ok (.value V') w1/\QRow base V' (xs++[v]) fp' w1/\Kept fp w w1/\∀ b∈fp',b∈fp\/w.heap.size<=b:=fun b cap hV hc holds=>by
  obtain ⟨V',w1,hr,ho,hg⟩:=run_append_arg_grows (P:=P) w 27 o.type 3 j z 1 8 hu hj hz hs hby hzs (by omega) b xs.length cap (vi xs) (by simp [R0]) holds ⟨g1,0,none⟩ 1 cc [Value.int .i64 (v:Int)] (by simp) hnews hc (by simp only [maxLen];omega) (by omega)
  rw [hvi] at ho
  refine ⟨V',w1,V'.ownBlock.toList,?_,Ao8 ho hbase (by simp),Kept.grown (row:=none) (Kept.refl _ _) hg nofun,fun b hb=>.inr ?_⟩
  ·rw [hV] at hx
   simp [execOp,hop,resolve,invoke,builtin,hx,hy,hr]
  ·exact (ho.lt b (Bi hb)).1
 rcases h.ex with ⟨rfl,rfl,A,hV⟩|⟨g,pre,post,hf,hV,h3,h4,h5⟩
 ·cases A with
  |some b=>exact grow b 0 hV (by simp) (by simp [vi])
  |none=>
   obtain ⟨V',w1,hr,ho,hg,_,hob⟩:=run_append_own_at (P:=P) w base 27 o.type 3 j z 1 8 hu hj hz hs hby hzs (by omega) (.slice none 0 0) 0 [] (F6 ..) ⟨g1,0,none⟩ 1 cc _ (by simp) hnews hone (by simp only [maxLen];omega) (by omega) hbase
   have e:([]:List Value)++[Value.int .i64 (v:Int)]=vi ([]++[v]):=by simp [vi]
   rw [e] at ho
   refine ⟨V',w1,V'.ownBlock.toList,?_,Ao8 ho (Nat.le_refl _) (by simp),Kept.grown (row:=none) (Kept.refl _ _) hg nofun,fun b hb=>.inr ?_⟩
   ·rw [hV] at hx
    simp [execOp,hop,resolve,invoke,builtin,hx,hy,hr]
   ·have hb':=Bi hb
    rcases hob with e|e
    ·rw [e] at hb';cases hb'
    ·rw [e] at hb';cases hb';exact Nat.le_refl _
 ·by_cases hp:post=[]
  ·refine grow _ _ hV (by simp [hp]) fun k u hu=>?_
   rw [Addr.add_lit]
   refine Au h4 ?_
   have hk:=(List.getElem?_eq_some_iff.1 hu).1
   simp only [List.getElem?_toArray]
   rw [List.append_assoc,List.getElem?_append_right (by omega),Nat.add_sub_cancel_left,List.getElem?_append_left hk]
   exact hu
  ·obtain ⟨p0,pr,rfl⟩:∃ p0 pr,post=p0::pr:=by cases post with|nil=>exact absurd rfl hp|cons a l=>exact ⟨a,l,rfl⟩
   have hf':=run_firstCells_some (P:=P) w j.size 1 ⟨g1,0,none⟩ 1 cc [Value.int .i64 (v:Int)] (by simp [hs]) hnews
   have hst:=run_storeCells_at P g (pre.length+xs.length) 3 [Value.int .i64 (v:Int)] 0 _ w h4 (by simp [R0];omega) hone
   have hroom:xs.length+1<=xs.length+(p0::pr).length:=by simp
   have hr:(Builtin.append_ #[27,27] o.type #[.slice (some ⟨g,pre.length,none⟩) xs.length (xs.length+(p0::pr).length),.slice (some ⟨g1,0,none⟩) 1 cc]).run P w=.ok (.slice (some ⟨g,pre.length,none⟩) (xs.length+1) (xs.length+(p0::pr).length)) (w.setRow g (pre++vi (xs++[v])++pr).toArray):=by
    have e:(((pre++vi xs++p0::pr).toArray.toList.take (pre.length+xs.length+0))++[Value.int .i64 (v:Int)]++(pre++vi xs++p0::pr).toArray.toList.drop (pre.length+xs.length+0+[Value.int .i64 (v:Int)].length))=pre++vi (xs++[v])++pr:=by
     have hl1:(pre++vi xs).length=pre.length+xs.length:=by simp [R0]
     have e1:pre++vi xs++p0::pr=(pre++vi xs)++([p0]++pr):=by simp
     rw [e1]
     simp only [Nat.add_zero]
     rw [<- hl1,List.take_left]
     have e2:(pre++vi xs).length+[Value.int .i64 (v:Int)].length=((pre++vi xs)++[p0]).length:=by simp;omega
     rw [e2,<- List.append_assoc (pre++vi xs),List.drop_left,<- hvi]
     simp
    rw [e] at hst
    rw [hs] at hf'
    simp [Builtin.append_,run_underlying hu,sizeOf,typeInfo,hj,hs,Builtin.lenOf,hf',Addr.add_lit,hst]
   have hpt:=Ic (cs:=pre++vi (xs++[v])++pr) h4
   have hq:QRow base (.slice (some ⟨g,pre.length,none⟩) (xs.length+1) (xs.length+(p0::pr).length)) (xs++[v]) [g] (w.setRow g (pre++vi (xs++[v])++pr).toArray):=⟨.inr ⟨g,pre,pr,rfl,by simp;omega,h3,hpt.blk,by simp at h5 ⊢;omega⟩⟩
   have hkp:Kept fp w (w.setRow g (pre++vi (xs++[v])++pr).toArray):=Kept.put (Kept.refl _ _) hpt (.inl (by simp [hf]))
   refine ⟨_,_,[g],?_,hq,hkp,fun b hb=>.inl (by rw [hf];exact hb)⟩
   rw [hV] at hx
   simp only [List.length_cons,List.append_assoc] at hr hx
   simp [execOp,hop,resolve,invoke,builtin,hx,hy,hr]
end
def AtF (O:Nat->Nat)(k:Nat)(w:World)(P:List Nat->World->Prop):Prop:=∃ fp:List Nat,(∀ b∈fp,O b=k/\b<w.heap.size)/\∀ w',(∀ b∈fp,w'.heap[b]?=w.heap[b]?)->P fp w'
def Cp (O:Nat->Nat)(s k:Nat):Nat->Nat:=fun b=>if b<s then O b else k
theorem A6 {O:Nat->Nat}{s k b:Nat}(h:b<s):Cp O s k b=O b:=if_pos h
theorem C3 {O:Nat->Nat}{s k b:Nat}(h:s<=b):Cp O s k b=k:=if_neg (by omega)
section
variable {O O1 O2:Nat->Nat}{k j:Nat}{w w1 w2:World}{P Q:List Nat->World->Prop}{f:Nat->List Nat->World->Prop}
theorem AtF.now (h:AtF O k w P):∃ fp,P fp w/\∀ b∈fp,O b=k/\b<w.heap.size:=let ⟨fp,h1,h2⟩:=h;⟨fp,h2 w fun _ _=>rfl,h1⟩
theorem AtF.imp (h:AtF O k w P)(hi:∀ fp w,P fp w->Q fp w):AtF O k w Q:=let ⟨fp,h1,h2⟩:=h;⟨fp,h1,fun w' hw=>hi _ _ (h2 w' hw)⟩
theorem AtF.keep (h:AtF O k w P)(hO:∀ b,b<w.heap.size->O1 b=O b)(hs:w.heap.size<=w1.heap.size)(hb:∀ b,b<w.heap.size->O b=k->w1.heap[b]?=w.heap[b]?):AtF O1 k w1 P:=by
 obtain ⟨fp,h1,h2⟩:=h
 exact ⟨fp,fun b hb'=>⟨by rw [hO b (h1 b hb').2];exact (h1 b hb').1,Nat.lt_of_lt_of_le (h1 b hb').2 hs⟩,fun w' hw=>h2 w' fun b hb'=>(hw b hb').trans (hb b (h1 b hb').2 (h1 b hb').1)⟩
theorem AtF.tr:AtF O k w fun _ _=>True:=⟨[],by simp,fun _ _=>trivial⟩
def All (O:Nat->Nat)(w:World)(f:Nat->List Nat->World->Prop):Prop:=∀ k,AtF O k w (f k)
def H9 (f:Nat->List Nat->World->Prop)(k:Nat)(P:List Nat->World->Prop):Nat->List Nat->World->Prop:=fun j=>if j=k then P else f j
structure Stp (O O1:Nat->Nat)(w w1:World):Prop where
 os:w1.os=w.os
 tape:w1.tape=w.tape
 output:w1.output=w.output
 size:w.heap.size<=w1.heap.size
 own:∀ b,b<w.heap.size->O1 b=O b
 fr:∀ b,b<w.heap.size->50<=O b->O b<100->w1.heap[b]?=w.heap[b]?
theorem Stp.refl (O:Nat->Nat)(w:World):Stp O O w w:=⟨rfl,rfl,rfl,Nat.le_refl _,fun _ _=>rfl,fun _ _ _ _=>rfl⟩
theorem Stp.trans (h:Stp O O1 w w1)(k:Stp O1 O2 w1 w2):Stp O O2 w w2:=
 ⟨k.os.trans h.os,k.tape.trans h.tape,k.output.trans h.output,Nat.le_trans h.size k.size,fun b hb=>(k.own b (Nat.lt_of_lt_of_le hb h.size)).trans (h.own b hb),
 fun b hb h1 h2=>(k.fr b (Nat.lt_of_lt_of_le hb h.size) (by rw [h.own b hb];exact h1) (by rw [h.own b hb];exact h2)).trans (h.fr b hb h1 h2)⟩
theorem Stp.up (hb:Below w.heap.size w w1)(k:Nat):Stp O (Cp O w.heap.size k) w w1:=⟨hb.os,hb.tape,hb.output,hb.size,fun _ h=>A6 h,fun b h _ _=>hb.block b h⟩
theorem Stp.kept {rb:List Nat}(hk:Kept rb w w1)(hr:∀ b∈rb,b<w.heap.size->O b=k)(h5:k<50\/100<=k)(k':Nat):Stp O (Cp O w.heap.size k') w w1:=
 ⟨hk.os,hk.tape,hk.output,hk.size,fun _ h=>A6 h,fun b h h1 h2=>hk.block b h fun hm=>by have:=hr b hm h;omega⟩
theorem Stp.below {base:Nat}(h:Stp O O1 w w1)(hl:∀ b,b<base->O b=99)(hb:base<=w.heap.size):Below base w w1:=
 ⟨h.os,h.tape,h.output,h.size,fun b hlt=>h.fr b (by omega) (by rw [hl b hlt];omega) (by rw [hl b hlt];omega)⟩
theorem Stp.low {base:Nat}(h:Stp O O1 w w1)(hl:∀ b,b<base->O b=99)(hb:base<=w.heap.size):∀ b,b<base->O1 b=99:=fun b hlt=>by rw [h.own b (by omega)];exact hl b hlt
theorem AtF.stp (h:AtF O k w P)(hs:Stp O O1 w w1)(h1:50<=k)(h2:k<100):AtF O1 k w1 P:=h.keep hs.own hs.size fun b hb e=>hs.fr b hb (by omega) (by omega)
theorem All.up (h:All O w f)(hb:Below w.heap.size w w1)(k:Nat):All (Cp O w.heap.size k) w1 f:=fun j=>(h j).keep (fun _=>A6) hb.size fun b hlt _=>hb.block b hlt
theorem All.put {rb fp:List Nat}(h:All O w f)(hk:Kept rb w w1)(hr:∀ b∈rb,b<w.heap.size->O b=k)(hfp:∀ b∈fp,(b<w.heap.size->O b=k)/\b<w1.heap.size)(hP:∀ w',(∀ b∈fp,w'.heap[b]?=w1.heap[b]?)->P fp w'):All (Cp O w.heap.size k) w1 (H9 f k P):=fun j=>by
 unfold H9
 split
 ·rename_i e
  subst e
  refine ⟨fp,fun b hb=>⟨?_,(hfp b hb).2⟩,hP⟩
  by_cases hlt:b<w.heap.size
  ·rw [A6 hlt];exact (hfp b hb).1 hlt
  ·rw [C3 (by omega)]
 ·rename_i e
  exact (h j).keep (fun _=>A6) hk.size fun b hb ho=>hk.block b hb fun hm=>e (by rw [<- ho];exact hr b hm hb)
theorem All.imp {f':Nat->List Nat->World->Prop}(h:All O w f)(hi:∀ j fp w,f j fp w->f' j fp w):All O w f':=fun j=>(h j).imp (hi j)
end
def fI (n:Nat)(f:Nat->Nat):List Value:=(List.range n).map fun v=>Value.int .i64 (f v:Int)
def fB (n:Nat)(f:Nat->Bool):List Value:=(List.range n).map fun v=>Value.bool (f v)
theorem Ox (n:Nat)(f:Nat->Nat):(fI n f).length=n:=by simp [fI]
theorem Aby (n:Nat)(f:Nat->Bool):(fB n f).length=n:=by simp [fB]
theorem Ub {n v:Nat}{f:Nat->Nat}(h:v<n):(fI n f)[v]?=some (.int .i64 (f v:Int)):=by simp [fI,h]
theorem Au2 {n v:Nat}{f:Nat->Bool}(h:v<n):(fB n f)[v]?=some (.bool (f v)):=by simp [fB,h]
theorem Ih {α:Type}(h:Nat->α)(n v:Nat)(x:α):((List.range n).map h).set v x=(List.range n).map (Bf h v x):=by
 apply List.ext_getElem?
 intro i
 rw [List.getElem?_set]
 by_cases e:v=i
 ·subst e
  by_cases hv:v<n
  ·simp [hv,Bf]
  ·simp [hv]
 ·by_cases hi:i<n
  ·rw [if_neg e]
   have:i≠v:=fun e2=>e e2.symm
   simp [hi,Bf,this]
  ·rw [if_neg e]
   simp [hi]
theorem Rq (n:Nat)(f:Nat->Nat)(v x:Nat):(fI n f).set v (.int .i64 (x:Int))=fI n (Bf f v x):=by
 unfold fI
 rw [Ih]
 congr 1
 funext j
 unfold Bf
 split<;>rfl
theorem Ae0 (n:Nat)(f:Nat->Bool)(v:Nat)(x:Bool):(fB n f).set v (.bool x)=fB n (Bf f v x):=by
 unfold fB
 rw [Ih]
 congr 1
 funext j
 unfold Bf
 split<;>rfl
structure KC where
 n:Nat
 A:Option Addr
 c:Nat
 gT:Nat
 gi:Nat
 gl:Nat
 gn:Nat
 go:Nat
 base:Nat
def Mo (c:KC)(s:TS)(vk vn:Value):List Value:=
 [.slice c.A c.n c.c,.slice (some ⟨c.gi,0,none⟩) c.n c.n,.slice (some ⟨c.gl,0,none⟩) c.n c.n,.slice (some ⟨c.gn,0,none⟩) c.n c.n,vk,.slice (some ⟨c.go,0,none⟩) c.n c.n,.int .i64 (s.cnt:Int),vn]
def Tm (kn:List (List Nat)):List (List Int):=kn.map fun l=>l.map fun (x:Nat)=>(x:Int)
def Wp (c:KC)(s:TS)(vk vn:Value):Nat->List Nat->World->Prop
 |0=>fun fp w=>fp=[c.gT]/\w.heap[c.gT]?=some (.cells (Mo c s vk vn).toArray 251 (0,0))
 |1=>fun fp w=>fp=[c.gi]/\w.heap[c.gi]?=some (.cells (fI c.n s.idx).toArray 3 (0,0))
 |2=>fun fp w=>fp=[c.gl]/\w.heap[c.gl]?=some (.cells (fI c.n s.low).toArray 3 (0,0))
 |3=>fun fp w=>fp=[c.gn]/\w.heap[c.gn]?=some (.cells (fB c.n s.on).toArray 4 (0,0))
 |4=>fun fp w=>fp=[c.go]/\w.heap[c.go]?=some (.cells (fI c.n s.of).toArray 3 (0,0))
 |5=>fun fp w=>fp=vk.ownBlock.toList/\w.ownsRow c.base 3 1 vk s.stk.length (vi s.stk)
 |6=>fun fp w=>∃ bs,fp=vn.ownBlock.toList++bs/\GRow 1 H5 27 c.base w vn (Tm s.kn) bs
 |_=>fun _ _=>True
structure KS (c:KC)(O:Nat->Nat)(w:World)(s:TS)(vk vn:Value):Prop where
 all:All O w (Wp c s vk vn)
 low:∀ b,b<c.base->O b=99
 sz:c.base<=w.heap.size
section
variable {c:KC}{O:Nat->Nat}{w w1:World}{s:TS}{vk vn:Value}
theorem KS.up (h:KS c O w s vk vn)(hb:Below w.heap.size w w1)(k:Nat):KS c (Cp O w.heap.size k) w1 s vk vn:=
 ⟨h.all.up hb k,fun b hlt=>by rw [A6 (by have:=h.sz;omega)];exact h.low b hlt,Nat.le_trans h.sz hb.size⟩
theorem KS.box (h:KS c O w s vk vn):w.heap[c.gT]?=some (.cells (Mo c s vk vn).toArray 251 (0,0))/\O c.gT=0:=by
 obtain ⟨fp,⟨e,h1⟩,h2⟩:=(h.all 0).now
 exact ⟨h1,(h2 c.gT (by rw [e];simp)).1⟩
theorem KS.bi (h:KS c O w s vk vn):w.heap[c.gi]?=some (.cells (fI c.n s.idx).toArray 3 (0,0))/\O c.gi=1:=by
 obtain ⟨fp,⟨e,h1⟩,h2⟩:=(h.all 1).now
 exact ⟨h1,(h2 c.gi (by rw [e];simp)).1⟩
theorem KS.bl (h:KS c O w s vk vn):w.heap[c.gl]?=some (.cells (fI c.n s.low).toArray 3 (0,0))/\O c.gl=2:=by
 obtain ⟨fp,⟨e,h1⟩,h2⟩:=(h.all 2).now
 exact ⟨h1,(h2 c.gl (by rw [e];simp)).1⟩
theorem KS.bn (h:KS c O w s vk vn):w.heap[c.gn]?=some (.cells (fB c.n s.on).toArray 4 (0,0))/\O c.gn=3:=by
 obtain ⟨fp,⟨e,h1⟩,h2⟩:=(h.all 3).now
 exact ⟨h1,(h2 c.gn (by rw [e];simp)).1⟩
theorem KS.bo (h:KS c O w s vk vn):w.heap[c.go]?=some (.cells (fI c.n s.of).toArray 3 (0,0))/\O c.go=4:=by
 obtain ⟨fp,⟨e,h1⟩,h2⟩:=(h.all 4).now
 exact ⟨h1,(h2 c.go (by rw [e];simp)).1⟩
theorem KS.stack (h:KS c O w s vk vn):w.ownsRow c.base 3 1 vk s.stk.length (vi s.stk)/\∀ b,vk.ownBlock=some b->O b=5:=by
 obtain ⟨fp,⟨e,h1⟩,h2⟩:=(h.all 5).now
 exact ⟨h1,fun b hb=>(h2 b (by rw [e,hb];simp)).1⟩
theorem KS.knots (h:KS c O w s vk vn):∃ bs,GRow 1 H5 27 c.base w vn (Tm s.kn) bs/\(∀ b,vn.ownBlock=some b->O b=6)/\∀ b∈bs,O b=6:=by
 obtain ⟨fp,⟨bs,e,h1⟩,h2⟩:=(h.all 6).now
 exact ⟨bs,h1,fun b hb=>(h2 b (by rw [e,hb];simp)).1,fun b hb=>(h2 b (by rw [e];simp [hb])).1⟩
theorem KS.next {O1:Nat->Nat}{s1:TS}{vk1 vn1:Value}(h:KS c O w s vk vn)(ha:All O1 w1 (Wp c s1 vk1 vn1))(hs:Stp O O1 w w1):KS c O1 w1 s1 vk1 vn1:=
 ⟨ha,hs.low h.low h.sz,Nat.le_trans h.sz hs.size⟩
end
section
variable {O O1:Nat->Nat}{k g:Nat}{w w1 w2:World}{P:List Nat->World->Prop}{f:Nat->List Nat->World->Prop}
structure KA (O:Nat->Nat)(w:World)(O1:Nat->Nat)(w1:World)(f:Nat->List Nat->World->Prop):Prop where
 all:All O1 w1 f
 stp:Stp O O1 w w1
theorem KA.start (h:All O w f):KA O w O w f:=⟨h,Stp.refl _ _⟩
theorem KA.up (h:KA O w O1 w1 f)(hb:Below w1.heap.size w1 w2)(k:Nat):KA O w (Cp O1 w1.heap.size k) w2 f:=⟨h.all.up hb k,h.stp.trans (Stp.up hb k)⟩
theorem KA.put {rb fp:List Nat}(h:KA O w O1 w1 f)(h5:k<50\/100<=k)(hk:Kept rb w1 w2)(hr:∀ b∈rb,b<w1.heap.size->O1 b=k)(hfp:∀ b∈fp,(b<w1.heap.size->O1 b=k)/\b<w2.heap.size)(hP:∀ w',(∀ b∈fp,w'.heap[b]?=w2.heap[b]?)->P fp w'):KA O w (Cp O1 w1.heap.size k) w2 (H9 f k P):=
 ⟨h.all.put hk hr hfp hP,h.stp.trans (Stp.kept hk hr h5 k)⟩
theorem KA.putB {cs:List Value}{t:TypeId}(h:KA O w O1 w1 f)(h5:k<50\/100<=k)(hp:Put w1 w2 g cs t)(hO:O1 g=k)(hP:∀ w',w'.heap[g]?=some (.cells cs.toArray t (0,0))->P [g] w'):KA O w (Cp O1 w1.heap.size k) w2 (H9 f k P):=
 h.put h5 (rb:=[g]) (fp:=[g]) (Kept.put (Kept.refl _ _) hp (.inl (by simp))) (by simpa using fun _=>hO) (by simpa using ⟨fun _=>hO,Ae hp.blk⟩) fun w' hw=>hP w' ((hw g (by simp)).trans hp.blk)
theorem KA.imp {f':Nat->List Nat->World->Prop}(h:KA O w O1 w1 f)(hi:∀ j fp w,f j fp w->f' j fp w):KA O w O1 w1 f':=⟨h.all.imp hi,h.stp⟩
end
end Go.Proofs.YtghmdfegfehhkaaGreatDoor
namespace Go.Proofs
open Go.Shelf
def Tryz.lays189_ren:Go.Shelf.Ren:=⟨fun|189=>215|125=>136|257=>234|128=>163|129=>164|294=>245|295=>246|296=>247|297=>248|298=>249|299=>250|216=>251|300=>252|301=>253|328=>263|329=>192|330=>193|331=>264|332=>265|215=>137|343=>271|n=>n,fun|28=>27|3=>3|46=>189|0=>0|51=>187|53=>177|4=>4|183=>255|182=>254|131=>156|5=>5|9=>9|218=>293|222=>278|228=>318|229=>298|n=>n,fun|n=>n⟩
theorem Tryz.lays189:Go.Proofs.Lays.n189 Tryz.prog Tryz.lays189_ren:={
 mixed:=by kernel_rfl
 f125:=Tryz.func136.trans (congrArg some (by kernel_rfl))
 f128:=Tryz.func163.trans (congrArg some (by kernel_rfl))
 f129:=Tryz.func164.trans (congrArg some (by kernel_rfl))
 f189:=Tryz.func215.trans (congrArg some (by kernel_rfl))
 f215:=Tryz.func137.trans (congrArg some (by kernel_rfl))
 f216:=Tryz.func251.trans (congrArg some (by kernel_rfl))
 f257:=Tryz.func234.trans (congrArg some (by kernel_rfl))
 f294:=Tryz.func245.trans (congrArg some (by kernel_rfl))
 f295:=Tryz.func246.trans (congrArg some (by kernel_rfl))
 f296:=Tryz.func247.trans (congrArg some (by kernel_rfl))
 f297:=Tryz.func248.trans (congrArg some (by kernel_rfl))
 f298:=Tryz.func249.trans (congrArg some (by kernel_rfl))
 f299:=Tryz.func250.trans (congrArg some (by kernel_rfl))
 f300:=Tryz.func252.trans (congrArg some (by kernel_rfl))
 f301:=Tryz.func253.trans (congrArg some (by kernel_rfl))
 f328:=Tryz.func263.trans (congrArg some (by kernel_rfl))
 f329:=Tryz.func192.trans (congrArg some (by kernel_rfl))
 f330:=Tryz.func193.trans (congrArg some (by kernel_rfl))
 f331:=Tryz.func264.trans (congrArg some (by kernel_rfl))
 f332:=Tryz.func265.trans (congrArg some (by kernel_rfl))
 f343:=Tryz.func271.trans (congrArg some (by kernel_rfl))
 t0:=Tryz.underlying0
 a0:=Tryz.isAgg0
 z0:=Tryz.sizeOf0
 v0:=Tryz.zeroValue0
 t3:=Tryz.underlying3
 a3:=Tryz.isAgg3
 z3:=Tryz.sizeOf3
 v3:=Tryz.zeroValue3
 t4:=Tryz.underlying4
 a4:=Tryz.isAgg4
 z4:=Tryz.sizeOf4
 v4:=Tryz.zeroValue4
 t5:=Tryz.underlying5
 a5:=Tryz.isAgg5
 z5:=Tryz.sizeOf5
 v5:=Tryz.zeroValue5
 t9:=Tryz.underlying9
 a9:=Tryz.isAgg9
 z9:=Tryz.sizeOf9
 v9:=Tryz.zeroValue9
 t28:=Tryz.underlying27
 a28:=Tryz.isAgg27
 z28:=Tryz.sizeOf27
 v28:=Tryz.zeroValue27
 t46:=Tryz.underlying189
 a46:=Tryz.isAgg189
 z46:=Tryz.sizeOf189
 v46:=Tryz.zeroValue189
 t51:=Tryz.underlying187
 a51:=Tryz.isAgg187
 z51:=Tryz.sizeOf187
 v51:=Tryz.zeroValue187
 t53:=Tryz.underlying177
 a53:=Tryz.isAgg177
 z53:=Tryz.sizeOf177
 v53:=Tryz.zeroValue177
 t131:=Tryz.underlying156
 a131:=Tryz.isAgg156
 z131:=Tryz.sizeOf156
 v131:=Tryz.zeroValue156
 t182:=Tryz.underlying254
 a182:=Tryz.isAgg254
 z182:=Tryz.sizeOf254
 v182:=Tryz.zeroValue254
 t183:=Tryz.underlying255
 a183:=Tryz.isAgg255
 z183:=Tryz.sizeOf255
 v183:=Tryz.zeroValue255
 t218:=Tryz.underlying293
 a218:=Tryz.isAgg293
 z218:=Tryz.sizeOf293
 v218:=Tryz.zeroValue293
 t222:=Tryz.underlying278
 a222:=Tryz.isAgg278
 z222:=Tryz.sizeOf278
 v222:=Tryz.zeroValue278
 t228:=Tryz.underlying318
 a228:=Tryz.isAgg318
 z228:=Tryz.sizeOf318
 v228:=Tryz.zeroValue318
 t229:=Tryz.underlying298
 a229:=Tryz.isAgg298
 z229:=Tryz.sizeOf298
 v229:=Tryz.zeroValue298 }
open Go.Sort Go.RowKit in
theorem Tryz.slices_Sort_int (blk off cap:Nat)(zs:List Int)(w:World)(hH:Holds (Value.int .i64) w blk off zs.toArray)(hblk:blk<w.heap.size)(hsz:zs.length<4611686018427387904) :
  Calls Tryz.prog 215 #[.slice (some ⟨blk,off,none⟩) zs.length cap] w fun e w'=>
   e=.returned (.tuple #[])/\∃ n os,w'=grow (putRow (Value.int .i64) (Sort.ahead w n) blk off (zs.mergeSort fun x y=>decide (x<=y)).toArray) os:=Any.slices_Sort_int Tryz.lays189 blk off cap zs w hH hblk hsz
theorem Tryz.slices_Sort_int_none (p:Option Addr)(cap:Nat)(w:World) :
  Calls Tryz.prog 215 #[.slice p 0 cap] w fun e w'=>e=.returned (.tuple #[])/\w'=w:=Any.slices_Sort_int_none Tryz.lays189 p cap w
end Go.Proofs
namespace Go.Proofs.YtghmdfegfehhkaaGreatDoor
open Go.RowKit
def srt (xs:List Int):List Int:=xs.mergeSort fun x y=>decide (x<=y)
theorem Am4 {w:World}{base:Nat}{v:Value}{xs:List Int}(h:w.ownsRow base 3 1 v xs.length (xs.map (Value.int .i64)))(hx:xs.length<4611686018427387904) :
  Calls Tryz.prog 215 #[v] w fun e w'=>e=.returned (.tuple #[])/\w.grownBy w' v.ownBlock/\w'.ownsRow base 3 1 v xs.length ((srt xs).map (Value.int .i64)):=by
 rcases h.2 with ⟨h0,h1⟩|⟨g,cap,cur,hv,hg,hb,hn,hcap,hs,htk⟩
 ·have hl:xs=[]:=List.length_eq_zero_iff.1 h1
  have hs:srt xs=xs:=by rw [hl];unfold srt;exact List.mergeSort_nil
  rw [hs,h0]
  rw [h0] at h
  refine (Tryz.slices_Sort_int_none none 0 w).mono ?_
  rintro e w' ⟨he,hw⟩
  rw [hw]
  exact ⟨he,Cn _ _,h⟩
 ·rw [hv]
  have hlt:g<w.heap.size:=(Array.getElem?_eq_some_iff.1 hb).1
  refine (Tryz.slices_Sort_int g 0 cap xs w (holds_of_blockI hb (by simpa using htk)) hlt hx).mono ?_
  rintro e w' ⟨he,n,os,rfl⟩
  have hlen:(srt xs).length=xs.length:=by unfold srt;exact List.length_mergeSort _
  exact ⟨he,grownBy_sortedI _,ownsRow_sortedI hlen hg hb hn hcap hs⟩
end Go.Proofs.YtghmdfegfehhkaaGreatDoor
namespace Go.Proofs.YtghmdfegfehhkaaGreatDoor
theorem An4 {α:Type}(f:Nat->α)(l:List Nat)(y:α):l.foldl (fun f x=>Bf f x y) f=fun x=>if x∈l then y else f x:=by
 induction l generalizing f with
 |nil=>funext x;simp
 |cons a r ih=>
  rw [List.foldl_cons,ih]
  funext x
  by_cases h1:x∈r
  ·simp [h1]
  ·by_cases h2:x=a
   ·subst h2;simp [h1,Bf]
   ·simp [h1,h2,Bf]
theorem Bkk (f:Nat->Bool)(l:List Nat):l.foldl (fun f x=>Bf f x false) f=fun x=>f x&&!decide (x∈l):=by
 rw [An4]
 funext x
 by_cases h:x∈l<;>simp [h]
theorem P1 {α:Type}(f:Nat->α)(l:List Nat)(y:α){i:Nat}(h:i<l.length):(l.take (i+1)).foldl (fun f x=>Bf f x y) f=Bf ((l.take i).foldl (fun f x=>Bf f x y) f) l[i]! y:=by
 rw [getElem!_pos l i h,List.take_succ_eq_append_getElem h,List.foldl_append]
 rfl
def Hf (l:List Nat):List Nat:=l.mergeSort fun x y=>decide (x<=y)
theorem Ae7 (l:List Nat):srt (l.map fun (x:Nat)=>(x:Int))=(Hf l).map fun (x:Nat)=>(x:Int):=by
 unfold srt Hf
 rw [List.map_mergeSort]
 intro a _ b _
 simp
theorem mem_nsrt {l:List Nat}{x:Nat}:x∈Hf l↔x∈l:=(List.mergeSort_perm l _).mem_iff
theorem Sx (l:List Nat):(Hf l).length=l.length:=List.length_mergeSort l
theorem Ak0 {l:List Nat}(h:l.Nodup):(Hf l).Pairwise (·<·):=by
 have h1:(Hf l).Pairwise fun a b=>decide (a<=b)=true:=List.pairwise_mergeSort (by simp;omega) (by simp;omega) l
 have h2:(Hf l).Nodup:=(List.mergeSort_perm l _).nodup_iff.2 h
 rw [List.nodup_iff_pairwise_ne] at h2
 exact (h1.and h2).imp fun {a b} hab=>by
  have:=of_decide_eq_true hab.1
  have:=hab.2
  omega
end Go.Proofs.YtghmdfegfehhkaaGreatDoor
