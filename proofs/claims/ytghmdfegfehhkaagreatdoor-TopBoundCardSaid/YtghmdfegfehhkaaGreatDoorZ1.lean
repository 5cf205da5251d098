/- Several texts of one claim in one file, made short: A0 A1 E0 TB. -/
import Derived.Test.YtghmdfegfehhkaaGreatDoorRows
import Derived.Below
import Derived.Deep.Draws
import Derived.OwnWalk
import Derived.Laws.MakeOwn
import Derived.Laws.OwnMore
import Derived.Maps.AppendAt
import Derived.Deep.AppendLies
import Derived.Deep.OwnRows
import Derived.Tactics
import Derived.Laws.Slices
import Derived.WalkKit
import Derived.KernelRfl
import Derived.RowKit3
import Derived.Deep.LoopGhost
import Derived.Deep.QuietTactic
import Derived.BigQuiet
import Derived.WideLaws
import Derived.Deep.DeepCutAuto
import Derived.Deep.CutBlock
import Derived.Deep.RegionHeld3
import Derived.Laws.Rows
import Derived.OrdersHeld
import Derived.RowKit
import Derived.Outline
import Derived.WalkSpells
import Derived.WalkLawsBesides
import Derived.ProofKit
import Derived.OpenShut
set_option maxRecDepth 100000
set_option maxHeartbeats 64000000
set_option linter.unusedVariables false
set_option linter.unusedSimpArgs false
namespace Go.Proofs.YtghmdfegfehhkaaGreatDoor
open Go.RowKit Go.ChangeShapes Go.WideShapes Go.ChangeAt
structure Kp (p:Prop):Prop where mk::(out:p)
theorem Pn {a b:Bool}(h:a=b):Ending.returned (.bool a)=.returned (.bool b):=by rw [h]
theorem Ax {a b c:World}(h:Below a.heap.size a b)(k:Below b.heap.size b c):Below a.heap.size a c:=h.trans (k.mono h.size)
theorem Bn {w w1:World}(h:Below w.heap.size w w1){a:Addr}{v:Value}(hc:w.cell? a=some v):w1.cell? a=some v:=(h.cell (World.block_lt_of_cell? w a hc)).trans hc
theorem Xp {w w1:World}(hb:∀ k,k<w.heap.size->w1.heap[k]?=w.heap[k]?){a:Addr}{v:Value}(h:w.cell? a=some v):w1.cell? a=some v:=
 (World.cell?_of_block (hb a.block (World.block_lt_of_cell? w a h))).trans h
theorem Mt (a:Addr)(n:Nat):(a.add n).block=a.block:=by unfold Addr.add;split<;>rfl
theorem Np (a:Addr)(m n:Nat):(a.add m).add n=a.add (m+n):=by
 unfold Addr.add
 by_cases hm:m=0
 ·subst hm;simp
 ·by_cases hn:n=0
  ·subst hn;simp [hm]
  ·simp [hm,hn];omega
theorem Xq (a:Addr)(m n:Nat)(hn:0<n):(⟨(a.add m).block,(a.add m).off+n,none⟩:Addr)=a.add (m+n):=by
 unfold Addr.add
 by_cases hm:m=0
 ·subst hm;simp [show n≠0 by omega]
 ·simp [hm];omega
theorem add_zero (g j:Nat):(⟨g,0,none⟩:Addr).add j=⟨g,j,none⟩:=by unfold Addr.add;split<;>simp_all
abbrev Dec (α:Type):=World->List Value->α->Prop
structure Stays {α:Type}(d:Dec α):Prop where
 go:∀ (w w1:World) (cs:List Value) (x:α),(∀ k,k<w.heap.size->w1.heap[k]?=w.heap[k]?)->d w cs x->d w1 cs x
def dI (k:IntKind):Dec Int:=fun _ cs x=>cs=[.int k x]/\k.min<=x/\x<=k.max
def dB:Dec Bool:=fun _ cs x=>cs=[.bool x]
def RowR {α:Type}[Inhabited α](sz:Nat)(d:Dec α)(w:World)(A:Option Addr)(xs:List α):Prop:=
 xs.length<=9223372036854775807/\∀ i,i<xs.length->∃ ad cs,A=some ad/\cs.length=sz/\(∀ j u,cs[j]?=some u->w.cell? (ad.add (i*sz+j))=some u)/\d w cs xs[i]!
def dS {α:Type}[Inhabited α](sz:Nat)(d:Dec α):Dec (List α):=fun w cs xs=>∃ A c,cs=[.slice A xs.length c]/\xs.length<=c/\RowR sz d w A xs
theorem Bj (k:IntKind):Stays (dI k):=⟨fun _ _ _ _ _ h=>h⟩
theorem K3:Stays dB:=⟨fun _ _ _ _ _ h=>h⟩
theorem RowR.stays {α:Type}[Inhabited α]{sz:Nat}{d:Dec α}(hd:Stays d){w w1:World}{A:Option Addr}{xs:List α}(hb:∀ k,k<w.heap.size->w1.heap[k]?=w.heap[k]?)(h:RowR sz d w A xs):RowR sz d w1 A xs:=
 ⟨h.1,fun i hi=>let ⟨ad,cs,e,l,hc,hk⟩:=h.2 i hi;⟨ad,cs,e,l,fun j u hu=>Xp hb (hc j u hu),hd.go _ _ _ _ hb hk⟩⟩
theorem Ah4 {α:Type}[Inhabited α]{sz:Nat}{d:Dec α}(hd:Stays d):Stays (dS sz d):=⟨fun _ _ _ _ hb ⟨A,c,e,l,h⟩=>⟨A,c,e,l,h.stays hd hb⟩⟩
theorem RowR.up {α:Type}[Inhabited α]{sz:Nat}{d:Dec α}(hd:Stays d){w w1:World}{A:Option Addr}{xs:List α}(h:RowR sz d w A xs)(hb:Below w.heap.size w w1):RowR sz d w1 A xs:=h.stays hd hb.block
theorem RowR.nil {α:Type}[Inhabited α](sz:Nat)(d:Dec α)(w:World)(A:Option Addr):RowR sz d w A []:=⟨by simp,fun i hi=>by simp at hi⟩
def Ft (ok:Nat->Prop)(w:World)(P:World->Prop):Prop:=∀ w',(∀ b,ok b->b<w.heap.size->w'.heap[b]?=w.heap[b]?)->P w'
theorem Ft.now {ok:Nat->Prop}{w:World}{P:World->Prop}(h:Ft ok w P):P w:=h w fun _ _ _=>rfl
theorem Ft.mono {ok ok':Nat->Prop}{w:World}{P:World->Prop}(h:Ft ok w P)(hk:∀ b,b<w.heap.size->ok b->ok' b):Ft ok' w P:=fun w' hw=>h w' fun b hb hl=>hw b (hk b hl hb) hl
theorem Ak9 {w w1:World}{k:Nat}(h:w1.heap[k]?=w.heap[k]?)(hlt:k<w.heap.size):k<w1.heap.size:=by
 rw [Array.getElem?_eq_getElem hlt] at h
 exact (Array.getElem?_eq_some_iff.1 h).1
theorem Ft.step {ok:Nat->Prop}{w w1:World}{P:World->Prop}(h:Ft ok w P)(hm:∀ b,ok b->b<w.heap.size->w1.heap[b]?=w.heap[b]?):Ft (fun b=>ok b/\b<w.heap.size) w1 P:=
 fun w' hw=>h w' fun b hb hl=>(hw b ⟨hb,hl⟩ (Ak9 (hm b hb hl) hl)).trans (hm b hb hl)
theorem Ft.imp {ok:Nat->Prop}{w:World}{P Q:World->Prop}(h:Ft ok w P)(hi:∀ w',P w'->Q w'):Ft ok w Q:=fun w' hw=>hi w' (h w' hw)
theorem Ft.up {ok:Nat->Prop}{w w1:World}{P:World->Prop}(h:Ft ok w P)(hb:Below w.heap.size w w1):Ft (fun b=>ok b/\b<w.heap.size) w1 P:=h.step fun b _ hl=>hb.block b hl
theorem Ft.grown {ok:Nat->Prop}{w w1:World}{P:World->Prop}{row:Option Nat}(h:Ft ok w P)(hg:w.grownBy w1 row)(hne:∀ b,ok b->b<w.heap.size->some b≠row):Ft (fun b=>ok b/\b<w.heap.size) w1 P:=h.step fun b hb hl=>hg.block b hl (hne b hb hl)
theorem Ft.of {α:Type}{d:Dec α}(hd:Stays d){w:World}{cs:List Value}{x:α}(h:d w cs x):Ft (fun _=>True) w (fun w=>d w cs x):=fun _ hw=>hd.go _ _ _ _ (fun k hk=>hw k trivial hk) h
def Elems {α:Type}[Inhabited α](sz:Nat)(d:Dec α)(w:World)(flat:List Value)(xs:List α):Prop:=
 flat.length=xs.length*sz/\∀ i,i<xs.length->d w ((flat.drop (i*sz)).take sz) xs[i]!
theorem Elems.nil {α:Type}[Inhabited α](sz:Nat)(d:Dec α)(w:World):Elems sz d w [] []:=⟨by simp,fun i hi=>by simp at hi⟩
theorem Elems.push {α:Type}[Inhabited α]{sz:Nat}{d:Dec α}{w:World}{flat cs:List Value}{xs:List α}{x:α}(h:Elems sz d w flat xs)(hc:cs.length=sz)(hx:d w cs x):Elems sz d w (flat++cs) (xs++[x]):=by
 refine ⟨by simp [h.1,hc,Nat.add_mul],fun i hi=>?_⟩
 simp only [List.length_append,List.length_singleton] at hi
 rcases Nat.lt_or_ge i xs.length with hl|hl
 ·have h1:i*sz+sz<=flat.length:=by rw [h.1,<- Nat.succ_mul];exact Nat.mul_le_mul_right _ hl
  have e1:((flat++cs).drop (i*sz)).take sz=(flat.drop (i*sz)).take sz:=by
   rw [List.drop_append_of_le_length (by omega),List.take_append_of_le_length (by simp;omega)]
  have e2:(xs++[x])[i]! = xs[i]! := by
   simp [List.getElem!_eq_getElem?_getD,List.getElem?_append_left hl]
  rw [e1,e2]
  exact h.2 i hl
 ·have:i=xs.length:=by omega
  subst this
  have e1:((flat++cs).drop (xs.length*sz)).take sz=cs:=by
   rw [<- h.1,List.drop_left,<- hc,List.take_length]
  have e2:(xs++[x])[xs.length]! = x:=by simp
  rw [e1,e2]
  exact hx
theorem Elems.stays {α:Type}[Inhabited α]{sz:Nat}{d:Dec α}(hd:Stays d){w w1:World}{flat:List Value}{xs:List α}(hb:∀ k,k<w.heap.size->w1.heap[k]?=w.heap[k]?)(h:Elems sz d w flat xs):Elems sz d w1 flat xs:=⟨h.1,fun i hi=>hd.go _ _ _ _ hb (h.2 i hi)⟩
theorem Dp {α:Type}[Inhabited α]{sz:Nat}{d:Dec α}{w:World}{base:Nat}{e:TypeId}{v:Value}{n:Nat}{flat:List Value}{xs:List α}(h:w.ownsRow base e sz v n flat)(hn:n=xs.length)(he:Elems sz d w flat xs) :
  ∃ A c,v=.slice A xs.length c/\xs.length<=c/\RowR sz d w A xs:=by
 subst hn
 rcases Nat.eq_zero_or_pos xs.length with h0|h0
 ·have hx:xs=[]:=List.eq_nil_of_length_eq_zero h0
  subst hx
  rcases h.2 with ⟨rfl,_⟩|⟨g,cap,cur,rfl,_⟩
  ·exact ⟨none,0,rfl,Nat.le_refl _,RowR.nil ..⟩
  ·exact ⟨_,cap,rfl,by simp,RowR.nil ..⟩
 ·obtain ⟨g,cap,rfl,hg,hc⟩:=h.form h0
  have hm:xs.length<=cap/\cap<=maxLen:=by
   rcases h.2 with ⟨e,_⟩|⟨g',cap',cur,e,_,_,h1,h2,_⟩
   ·cases e
   ·injection e with _ _ e3
    subst e3
    exact ⟨h1,h2⟩
  refine ⟨_,cap,rfl,hm.1,by have:=hm.2;simp only [maxLen] at this;omega,fun i hi=>⟨_,(flat.drop (i*sz)).take sz,rfl,?_,?_,he.2 i hi⟩⟩
  ·have h1:i*sz+sz<=flat.length:=by rw [he.1,<- Nat.succ_mul];exact Nat.mul_le_mul_right _ hi
   simp;omega
  ·intro j u hu
   refine h.cells (g:=g) rfl (i*sz+j) u ?_
   rw [List.getElem?_take] at hu
   split at hu
   ·rw [List.getElem?_drop] at hu;exact hu
   ·cases hu
section
variable {H:Type}{enc:TypeId×Value->H}{P:Program}{w:World}{base:Nat}{spare:Nat->Bool}{held:Bool}
def N7 {α:Type}(enc:TypeId×Value->H)(P:Program)(w:World)(base:Nat)(spare:Nat->Bool)(held:Bool)(t:TypeId)(d:Dec α):Prop:=
 ∀ {fuel:Nat} {cs:List Value} {x:DataW H×List MemPlace},DataW.trod enc P w base spare held fuel t cs=some x->∃ a,d w cs a
theorem Tf {k:IntKind}{n:Int}(h:(Lit.int k n).wf=true):k.min<=n/\n<=k.max:=by
 simp only [Lit.wf] at h
 simpa using h
theorem J2 {t:TypeId}{k:IntKind}(ht:P.underlying t=some (.int k)):N7 enc P w base spare held t (dI k):=fun h=>by
 obtain ⟨n,rfl,rfl,hw⟩:=DataW.trod_int ht h
 exact ⟨n,rfl,Tf hw⟩
theorem Aiz {α:Type}[Inhabited α]{t e:TypeId}{sz:Nat}{d:Dec α}(ht:P.underlying t=some (.slice e))(hs:P.cellsOf e=sz)(hd:N7 enc P w base spare held e d):N7 enc P w base spare held t (dS sz d):=fun {fuel cs x} h=>by
 rcases DataW.trod_slice ht h with ⟨rfl,rfl⟩|⟨a,len,cap,elems,rest,n,rfl,rfl,rfl,hb,hl,hm,hlen,hel,hsp,hns⟩
 ·exact ⟨[],none,0,rfl,Nat.le_refl _,RowR.nil ..⟩
 ·subst hs
  have key:∀ i,i<len->∃ cs x,cs.length=P.cellsOf e/\(∀ j u,cs[j]?=some u->w.cell? (a.add (i*P.cellsOf e+j))=some u)/\d w cs x:=fun i hi=>by
   have h1:=hel i hi
   rw [List.getElem?_eq_getElem (by omega)] at h1
   obtain ⟨cs',hc,ht'⟩:=Option.bind_eq_some_iff.1 h1
   obtain ⟨_,hcl,hat⟩:=World.cells?_some hc
   obtain ⟨x,hx⟩:=hd ht'
   refine ⟨cs',x,hcl,fun j u hu=>?_,hx⟩
   rw [<- Np,hat j (by have:=(List.getElem?_eq_some_iff.1 hu).1;omega),hu]
  have hpick:∃ f:Nat->α,∀ i,i<len->∃ cs,cs.length=P.cellsOf e/\(∀ j u,cs[j]?=some u->w.cell? (a.add (i*P.cellsOf e+j))=some u)/\d w cs (f i):=by
   classical
   refine ⟨fun i=>if hi:i<len then (key i hi).choose_spec.choose else default,fun i hi=>⟨(key i hi).choose,?_⟩⟩
   simp only [dif_pos hi]
   exact (key i hi).choose_spec.choose_spec
  obtain ⟨f,hf⟩:=hpick
  refine ⟨(List.range len).map f,some a,cap,by simp,by simpa using hl,by simp;simp only [maxLen] at hm;omega,fun i hi=>?_⟩
  simp only [List.length_map,List.length_range] at hi
  obtain ⟨cs,h1,h2,h3⟩:=hf i hi
  refine ⟨a,cs,rfl,h1,h2,?_⟩
  have:((List.range len).map f)[i]! = f i:=by simp [List.getElem!_eq_getElem?_getD,hi]
  rw [this]
  exact h3
theorem Qi {t:TypeId}{fs:Array Field}{fuel:Nat}{cs:List Value}{x:DataW H×List MemPlace}(ht:P.underlying t=some (.struct fs))(h:DataW.trod enc P w base spare held fuel t cs=some x) :
  cs.length=P.cellsOf t/\∃ n,∀ (i:Nat) (f:Field),fs[i]?=some f->∃ y,DataW.trod enc P w base spare held n f.type ((cs.drop f.offset).take (P.cellsOf f.type))=some y:=by
 obtain ⟨xs,n,_,_,hc,hl,hf⟩:=DataW.trod_struct ht h
 refine ⟨hc,n,fun i f hi=>?_⟩
 have hlt:i<xs.length:=by rw [hl];exact (Array.getElem?_eq_some_iff.1 hi).1
 exact ⟨xs[i],by rw [hf i f hi,List.getElem?_eq_getElem hlt]⟩
theorem Rp {t:TypeId}{v:Value}{d:DataW H}{ps:List MemPlace}{α:Type}{D:Dec α}(h:DataW.Trod enc P w base spare held t v d ps)(ho:N7 enc P w base spare held t D):∃ a,D w v.cells.toList a:=by
 obtain ⟨fuel,hf⟩:=h
 exact ho hf
end
end Go.Proofs.YtghmdfegfehhkaaGreatDoor
namespace Go.Proofs.YtghmdfegfehhkaaGreatDoor
open Go.RowKit Go.ChangeShapes Go.WideShapes Go.ChangeAt
structure Cell where
 fn:Bool
 v:Int
 args:List Int
deriving Inhabited
structure Con where
 k:Int
 a:Int
 b:Int
 args:List Int
deriving Inhabited
structure Sys where
 vars:Int
 cells:List Cell
 cons:List Con
deriving Inhabited
structure AAct where
 k:Int
 a:Int
 b:Int
 c:Int
deriving Inhabited
structure Draft where
 vars:Int
 cells:Int
 acts:List AAct
deriving Inhabited
abbrev RI:=RowR 1 (dI .i64)
def H5:Dec (List Int):=dS 1 (dI .i64)
def I5:Dec Cell:=fun w cs x=>∃ A c,cs=[.bool x.fn,.int .i64 x.v,.slice A x.args.length c]/\x.args.length<=c/\RI w A x.args/\IntKind.i64.min<=x.v/\x.v<=IntKind.i64.max
def Rr:Dec Con:=fun w cs x=>∃ A c,cs=[.int .u8 x.k,.int .i64 x.a,.int .i64 x.b,.slice A x.args.length c]/\x.args.length<=c/\RI w A x.args /\
 (IntKind.u8.min<=x.k/\x.k<=IntKind.u8.max)/\(IntKind.i64.min<=x.a/\x.a<=IntKind.i64.max)/\IntKind.i64.min<=x.b/\x.b<=IntKind.i64.max
abbrev RCells:=RowR 3 I5
abbrev RCons:=RowR 4 Rr
def As2:Dec AAct:=fun w cs x=>cs=[.int .u8 x.k,.int .u8 x.a,.int .u8 x.b,.int .u8 x.c]/\(0<=x.k/\x.k<=255)/\(0<=x.a/\x.a<=255)/\(0<=x.b/\x.b<=255)/\0<=x.c/\x.c<=255
abbrev RActs:=RowR 4 As2
def As0:Dec Draft:=fun w cs x=>∃ A c,cs=[.int .u8 x.vars,.int .u8 x.cells,.slice A x.acts.length c]/\RActs w A x.acts/\(0<=x.vars/\x.vars<=255)/\0<=x.cells/\x.cells<=255
abbrev RRows:=RowR 1 H5
theorem Bz:Stays H5:=Ah4 (Bj _)
theorem Cd:Stays I5:=⟨fun _ _ _ _ hb ⟨A,c,e,l,h,r⟩=>⟨A,c,e,l,h.stays (Bj _) hb,r⟩⟩
theorem Ck:Stays Rr:=⟨fun _ _ _ _ hb ⟨A,c,e,l,h,r⟩=>⟨A,c,e,l,h.stays (Bj _) hb,r⟩⟩
theorem Pv:Stays As2:=⟨fun _ _ _ _ _ h=>h⟩
section
variable {H:Type}{enc:TypeId×Value->H}{w:World}{base:Nat}{spare:Nat->Bool}{held:Bool}
theorem Av9 {l:List Value}(h:l.length=3):∃ a b c,l=[a,b,c]:=match l,h with|[a,b,c],_=>⟨a,b,c,rfl⟩
theorem Bl7 {l:List Value}(h:l.length=4):∃ a b c d,l=[a,b,c,d]:=match l,h with|[a,b,c,d],_=>⟨a,b,c,d,rfl⟩
theorem Xb:Tryz.prog.cellsOf 5=1:=by kernel_rfl
theorem Agk:Tryz.prog.cellsOf 47=1:=by kernel_rfl
theorem Sn:Tryz.prog.cellsOf 111=4:=by kernel_rfl
theorem Ux:Tryz.prog.cellsOf 49=3:=by kernel_rfl
theorem Xs:N7 enc Tryz.prog w base spare held 111 As2:=fun h=>by
 obtain ⟨hl,n,hf⟩:=Qi Tryz.underlying111 h
 rw [Sn] at hl
 obtain ⟨c0,c1,c2,c3,rfl⟩:=Bl7 hl
 obtain ⟨y0,e0⟩:=hf 0 _ rfl
 obtain ⟨y1,e1⟩:=hf 1 _ rfl
 obtain ⟨y2,e2⟩:=hf 2 _ rfl
 obtain ⟨y3,e3⟩:=hf 3 _ rfl
 simp [Xb] at e0 e1 e2 e3
 obtain ⟨x0,h0,r0⟩:=J2 Tryz.underlying5 e0
 obtain ⟨x1,h1,r1⟩:=J2 Tryz.underlying5 e1
 obtain ⟨x2,h2,r2⟩:=J2 Tryz.underlying5 e2
 obtain ⟨x3,h3,r3⟩:=J2 Tryz.underlying5 e3
 simp at h0 h1 h2 h3
 exact ⟨⟨x0,x1,x2,x3⟩,by simp [h0,h1,h2,h3],r0,r1,r2,r3⟩
theorem Sy:N7 enc Tryz.prog w base spare held 49 As0:=fun h=>by
 obtain ⟨hl,n,hf⟩:=Qi Tryz.underlying49 h
 rw [Ux] at hl
 obtain ⟨c0,c1,c2,rfl⟩:=Av9 hl
 obtain ⟨y0,e0⟩:=hf 0 _ rfl
 obtain ⟨y1,e1⟩:=hf 1 _ rfl
 obtain ⟨y2,e2⟩:=hf 2 _ rfl
 simp [Xb,Agk] at e0 e1 e2
 obtain ⟨x0,h0,r0⟩:=J2 Tryz.underlying5 e0
 obtain ⟨x1,h1,r1⟩:=J2 Tryz.underlying5 e1
 obtain ⟨x2,A,c,h2,r2⟩:=Aiz Tryz.underlying47 Sn Xs e2
 simp at h0 h1 h2
 exact ⟨⟨x0,x1,x2⟩,A,c,by simp [h0,h1,h2],r2.2,r0,r1⟩
end
section
variable {H:Type}{enc:TypeId×Value->H}{P:Program}
theorem Ps (hl:laidOutB P=true){W W':World}(hb:Below W.heap.size W W')(sp:Nat->Bool):∀ {ts:List TypeId} {vs:List Value} {ds:List (DataW H)} {ps:List MemPlace},
  (ts.all fun t=>P.readableRec t&&decide (t<P.types.size))=true->DataW.TrodAll enc P W 0 (fun _=>true) true ts vs ds ps->(∀ x∈ps,x.block<W.heap.size)->(∀ x∈ps,sp x.block=true)->DataW.TrodAll enc P W' 0 sp true ts vs ds ps:=by
 intro ts
 induction ts with
 |nil=>
  intro vs ds ps _ h _ _
  cases vs<;>cases ds<;>simp_all [DataW.TrodAll]
 |cons t ts ih=>
  intro vs ds ps hr h hlt hsp
  simp only [List.all_cons,Bool.and_eq_true,decide_eq_true_eq] at hr
  obtain ⟨v,vs',d,ds',p,q,rfl,rfl,rfl,h0,h1⟩:=trodAll_cons h
  refine ⟨p,q,WideElems.Trod_stays hl hr.1.1 hr.1.2 h0 (fun x hx=>hb.same (hlt x (by simp [hx]))) (fun x hx=>hsp x (by simp [hx])),ih (by simpa using hr.2) h1 (fun x hx=>hlt x (by simp [hx])) (fun x hx=>hsp x (by simp [hx])),rfl⟩
theorem Pl {f:Func}{s:ChangeSpec}{apart fresh handsOn again:Bool}{W W':World}{args:Array Value}{v:Value}{ds gs:List (DataW H)}{before pa pv:List MemPlace}
  (hW:DataW.Whole enc P f.params.toList s.vars apart W args.toList ds gs before)
  (hres:∀ (b:Nat) (sp:Nat->Bool) (hd:Bool),DataW.TrodAll enc P W' b sp hd f.resultTypes.toList (v.resultList f.resultTypes.size) (s.fn H (ds++gs)).results [])
  (hargs:∀ sp:Nat->Bool,(∀ p∈before,sp p.block=true)->DataW.TrodAll enc P W' 0 sp true f.params.toList args.toList (s.fn H (ds++gs)).args pa)
  (hvars:∀ sp:Nat->Bool,(∀ p∈before,sp p.block=true)->DataW.TrodVars enc P W' sp s.vars (s.fn H (ds++gs)).vars pv)
  (hps:before=pa++pv) (hb:Below W.heap.size W W')
  (hok:∀ (j:Nat) (t:TypeId) (r:Value),f.resultTypes[j]?=some t->(v.resultList f.resultTypes.size)[j]?=some r->Value.okWide P W' .any 0 t r) :
  s.post enc P f apart fresh handsOn again W args v W':=by
 have hlt:∀ p∈before,p.block<W.heap.size:=fun p hp=>hW.lt p hp
 have hold:∀ p∈before,(fun b=>decide (b<W.heap.size)) p.block=true:=fun p hp=>by simpa using hlt p hp
 refine ⟨ds,gs,before,[],pa,pv,hW,hres _ _ _,hargs _ hold,hvars _ hold,World.keptBut_mono (fun p hp=>⟨hp,?_⟩) (hb.frame (·∈before)),fun _=>?_⟩
 ·rw [hps,List.mem_append] at hp
  exact Or.inr hp
 ·obtain ⟨_,_,_,_,_,hz,hn⟩:=hW
  refine ⟨hok,_,_,([]++pa)++pv,⟨[]++pa,pv,trodAll_append (hargs _ (fun _ _=>rfl)) (hres _ _ _),hvars _ (fun _ _=>rfl),rfl,?_,?_⟩,?_⟩
  ·intro b off hp
   have hin:MemPlace.cell b off∈before:=by rw [hps];simpa using hp
   rw [hb.frozen (hlt _ hin)]
   exact hz b off hin
  ·intro ha
   have:=hn ha
   rw [hps] at this
   simpa using this
  ·intro p hp _
   rw [hps]
   simpa using hp
end
theorem own:ownKnob Tryz.prog.godebug=none:=by kernel_rfl
theorem Ai6:laidOutB Tryz.prog=true:=by kernel_rfl
open Go.RowKit
variable {ds:List Deferred}
theorem E5 {a b:Nat}(h:a≠b):Nat.beq a b=false:=by
 rw [<- Bool.not_eq_true]
 intro h'
 exact h (Nat.eq_of_beq_eq_true h')
theorem Ei (a:Nat):Nat.beq a a=true:=Nat.beq_refl a
theorem Nd {a b:Nat}(h:Nat.blt a b=true):a<b:=Nat.le_of_ble_eq_true h
abbrev Fm:=Nat->Value
def Bd (F:Fm)(d:Nat)(v:Value):Fm:=fun t=>bif Nat.beq t d then v else F t
def Pq (F:Fm):Option Nat->Value->Fm
 |some d,v=>Bd F d v
 |none,_=>F
structure Fr (ds:List Deferred)(a:Act)(n:Nat)(F:Fm):Prop where
 size:a.tmps.size=n
 defers:a.defers=ds
 get:∀ t,a.tmps.getD t undef=F t
def ev (F:Fm):Operand->Value
 |.tmp t=>F t
 |.const v=>v
 |.global g=>.pointer (some ⟨g,0,none⟩)
 |.func f=>.func (.func f) #[] #[]
theorem Fr.eval {a:Act}{n:Nat}{F:Fm}(h:Fr ds a n F):a.eval=ev F:=funext fun x=>by
 cases x<;>simp only [Act.eval,ev]
 exact h.get _
def Nx (n:Nat):Option Nat->Bool
 |none=>true
 |some d=>Nat.blt d n
theorem Fr.put {a:Act}{n:Nat}{F:Fm}(h:Fr ds a n F){d:Option Nat}(hd:Nx n d=true)(v:Value):Fr ds (a.put d v) n (Pq F d v):=by
 cases d with
 |none=>exact h
 |some d=>
  have hd':d<a.tmps.size:=by rw [h.size];exact Nd hd
  refine ⟨by simp [Act.put,h.size],h.defers,fun t=>?_⟩
  simp only [Act.put,Pq,Bd]
  by_cases e:t=d
  ·subst e
   rw [Ei]
   simp [Array.getD,hd']
  ·have:Nat.beq t d=false:=E5 e
   simp only [this,cond_false]
   rw [<- h.get t]
   simp [Array.getD_eq_getD_getElem?,Array.getElem?_setIfInBounds,Ne.symm e]
theorem Gz (F:Fm)(t:Nat)(v:Value)(h:F t=v):Bd F t v=F:=funext fun s=>by
 unfold Bd
 by_cases e:s=t
 ·subst e;rw [Ei];exact h.symm
 ·rw [E5 e];rfl
structure TI where
 desc:TypeDesc
 size:Nat
 bytes:Nat
 zero:Value
inductive TT where
 |leaf
 |node (l:TT) (t:Nat) (i:TI) (r:TT)
def Nu:TT->Nat->Option TI
 |.leaf,_=>none
 |.node l t i r,u=>bif Nat.beq u t then some i else bif Nat.blt u t then Nu l u else Nu r u
def Q1 (P:Program)(t:Nat)(i:TI):Prop:=P.underlying t=some i.desc/\(P.info? t).map (fun j=>(j.zero,j.size,j.bytes))=some (some i.zero,i.size,i.bytes)
structure TabOk (P:Program)(T:Nat->Option TI):Prop where
 ok:∀ t i,T t=some i->Q1 P t i
def Q5 (P:Program):TT->Prop
 |.leaf=>True
 |.node l t i r=>Q5 P l/\Q1 P t i/\Q5 P r
theorem Ph {P:Program}:∀ {l:TT},Q5 P l->∀ t i,Nu l t=some i->Q1 P t i
 |.leaf,_,t,i,h=>by simp [Nu] at h
 |.node l u j r,⟨h1,h2,h3⟩,t,i,h=>by
  simp only [Nu] at h
  by_cases e:t=u
  ·subst e
   rw [Ei] at h
   simp only [cond_true,Option.some.injEq] at h
   subst h
   exact h2
  ·rw [E5 e] at h
   simp only [cond_false] at h
   cases hb:Nat.blt t u
   ·rw [hb] at h;exact Ph h3 t i h
   ·rw [hb] at h;exact Ph h1 t i h
theorem Acq {P:Program}{l:TT}(h:Q5 P l):TabOk P (Nu l):=⟨Ph h⟩
structure Post where
 n:Fm->World->Prop
 r:Fm->World->Prop
 x:Nat->Fm->World->Prop
def Iz (ds:List Deferred)(n:Nat)(Q:Post):Exit->Act->World->Prop
 |.normal,a,w=>∃ F,Fr ds a n F/\Q.n F w
 |.ret,a,w=>∃ F,Fr ds a n F/\Q.r F w
 |.exit i,a,w=>∃ F,Fr ds a n F/\Q.x i F w
 |_,_,_=>False
def wc (P:Program)(n:Nat)(c:Code)(Q:Post)(F:Fm)(w:World):Prop:=∀ ds a,Fr ds a n F->c.wp P (Iz ds n Q) a w
def wl (P:Program)(n:Nat)(ops:Array Oper)(rest:List Oper)(Q:Post)(F:Fm)(w:World):Prop:=∀ ds a,Fr ds a n F->wpList P ops (Iz ds n Q) rest a w
def Post.seq (next:Fm->World->Prop)(Q:Post):Post:=⟨next,Q.r,Q.x⟩
def Post.blk (id:Nat)(Q:Post):Post:=⟨Q.n,Q.r,fun i F w=>bif Nat.beq i id then Q.n F w else Q.x i F w⟩
section rules
variable {P:Program}{n:Nat}{Q:Post}{F:Fm}{w:World}
theorem Xt {Q':Post}(hn:∀ F w,Q.n F w->Q'.n F w)(hr:∀ F w,Q.r F w->Q'.r F w)(hx:∀ i F w,Q.x i F w->Q'.x i F w):∀ e a w,Iz ds n Q e a w->Iz ds n Q' e a w:=by
 intro e a w h
 cases e<;>simp only [Iz] at h ⊢
 ·obtain ⟨F,h1,h2⟩:=h;exact ⟨F,h1,hn _ _ h2⟩
 ·obtain ⟨F,h1,h2⟩:=h;exact ⟨F,h1,hx _ _ _ h2⟩
 ·obtain ⟨F,h1,h2⟩:=h;exact ⟨F,h1,hr _ _ h2⟩
theorem F9 {c:Code}{Q':Post}(h:wc P n c Q F w)(hn:∀ F w,Q.n F w->Q'.n F w)(hr:∀ F w,Q.r F w->Q'.r F w)(hx:∀ i F w,Q.x i F w->Q'.x i F w):wc P n c Q' F w:=
 fun ds a ha=>wp_mono (h ds a ha) (Xt hn hr hx)
theorem Afy {x y:Code}(h:wc P n x (Q.seq (wc P n y Q)) F w):wc P n (.seq x y) Q F w:=fun ds a ha=>
 wp_seq (wp_mono (h ds a ha) (by
  intro e a w h
  cases e<;>simp only [Iz,Post.seq] at h<;>simp only [Exit.then]
  ·obtain ⟨F,h1,h2⟩:=h;exact h2 ds a h1
  ·exact h
  ·exact h))
theorem Vl (h:Q.n F w):wc P n .skip Q F w:=fun ds a ha=>wp_skip ⟨F,ha,h⟩
theorem Zd (h:Q.r F w):wc P n .ret Q F w:=fun ds a ha=>wp_ret ⟨F,ha,h⟩
theorem Vz {i:Nat}(h:Q.x i F w):wc P n (.exit i) Q F w:=fun ds a ha=>wp_exit ⟨F,ha,h⟩
theorem Ss {i:Nat}(h:Q.n F w):wc P n (.label i) Q F w:=fun ds a ha=>wp_label ⟨F,ha,h⟩
theorem Tp {id:Nat}{c:Code}(h:wc P n c (Q.blk id) F w):wc P n (.block id c) Q F w:=fun ds a ha=>
 wp_block (wp_mono (h ds a ha) (by
  intro e a w h
  cases e<;>simp only [Iz,Post.blk] at h<;>simp only [Exit.inBlock]
  ·exact h
  ·rename_i i
   obtain ⟨F,h1,h2⟩:=h
   by_cases e:i=id
   ·subst e;rw [Ei] at h2;simp only [if_true];exact ⟨F,h1,h2⟩
   ·rw [E5 e] at h2;simp only [e,if_false];exact ⟨F,h1,h2⟩
  ·exact h))
theorem An0 {c:Operand}{x y:Code}{b:Bool}(hc:ev F c=.bool b)(ht:b=true->wc P n x Q F w)(hf:b=false->wc P n y Q F w):wc P n (.cond c x y) Q F w:=fun ds a ha=>by
 have hc':a.eval c=.bool b:=by rw [ha.eval];exact hc
 exact wp_cond_split hc' (fun h=>ht h ds a ha) (fun h=>hf h ds a ha)
theorem Aa9 {c:Operand}{x y:Code}(hc:ev F c=.bool true)(ht:wc P n x Q F w):wc P n (.cond c x y) Q F w:=An0 hc (fun _=>ht) (fun h=>by cases h)
theorem Zm {c:Operand}{x y:Code}(hc:ev F c=.bool false)(hf:wc P n y Q F w):wc P n (.cond c x y) Q F w:=An0 hc (fun h=>by cases h) (fun _=>hf)
def holds (F:Fm):List (Nat×Value)->Prop
 |[]=>True
 |(t,v)::l=>F t=v/\holds F l
def Ng (F:Fm):List (Nat×Value)->Fm
 |[]=>F
 |(t,v)::l=>Bd (Ng F l) t v
theorem Ct {F:Fm}:∀ {l:List (Nat×Value)},holds F l->Ng F l=F
 |[],_=>rfl
 |(t,v)::l,⟨h,hl⟩=>by
  simp only [Ng]
  rw [Ct hl]
  exact Gz F t v h
theorem Xd {X:Type}(S:X->List (Nat×Value))(R:X->World->Prop)(m:X->Nat)(x0:X){body:Code}(hS:holds F (S x0))(hR:R x0 w)
  (round:∀ x G w,R x w->wc P n body (Q.seq fun F' w'=>∃ x',holds F' (S x')/\R x' w'/\m x'<m x) (Ng G (S x)) w):wc P n (.loop body) Q F w:=by
 intro ds a ha
 classical
 let I:Act->World->Nat->Prop:=fun a w d=>∃ x F,Fr ds a n F/\holds F (S x)/\R x w/\m x=d
 let μ:Act->World->Nat:=fun a w=>if h:∃ d,I a w d then h.choose else 0
 have least:∀ a w,(∃ d,I a w d)->∃ d,I a w d/\∀ d',I a w d'->d<=d':=by
  intro a w ⟨d,hd⟩
  induction d using Nat.strongRecOn with
  |_ d ih=>
   by_cases h:∃ d',I a w d'/\d'<d
   ·obtain ⟨d',h1,h2⟩:=h
    exact ih d' h2 h1
   ·exact ⟨d,hd,fun d' h1=>Nat.le_of_not_lt fun h2=>h ⟨d',h1,h2⟩⟩
 let ν:Act->World->Nat:=fun a w=>if h:∃ d,I a w d then (least a w h).choose else 0
 have hν:∀ a w (h:∃ d,I a w d),I a w (ν a w)/\∀ d',I a w d'->ν a w<=d':=by
  intro a w h
  have:ν a w=(least a w h).choose:=by simp only [ν];rw [dif_pos h]
  rw [this]
  exact (least a w h).choose_spec
 refine wp_loop (fun a w=>∃ d,I a w d) ν ⟨_,x0,F,ha,hS,hR,rfl⟩ ?_
 intro a w hI
 obtain ⟨⟨x,F,hF,hS,hR,hm⟩,_⟩:=hν a w hI
 have hr:=round x F w hR
 rw [Ct hS] at hr
 refine wp_mono (hr ds a hF) ?_
 intro e a' w' h
 cases e<;>simp only [Iz] at h<;>simp only [Exit.then]
 ·obtain ⟨F',h1,x',h2,h3,h4⟩:=h
  have hI':∃ d,I a' w' d:=⟨_,x',F',h1,h2,h3,rfl⟩
  exact ⟨hI',Nat.lt_of_le_of_lt ((hν a' w' hI').2 _ ⟨x',F',h1,h2,h3,rfl⟩) (by omega)⟩
 ·exact h
 ·exact h
def J6:Nat->List Value->Fm
 |_,[]=>fun _=>undef
 |k,v::l=>Bd (J6 (k+1) l) k v
theorem Jo:∀ (l:List Value) (k t:Nat),J6 k l t=if t<k then undef else l.getD (t - k) undef
 |[],k,t=>by simp [J6]
 |v::l,k,t=>by
  simp only [J6,Bd]
  by_cases e:t=k
  ·subst e;rw [Ei];simp
  ·have:Nat.beq t k=false:=E5 e
   simp only [this,cond_false]
   rw [Jo l (k+1) t]
   by_cases h:t<k
   ·rw [if_pos h,if_pos (by omega)]
   ·rw [if_neg h,if_neg (by omega)]
    obtain ⟨j,rfl⟩:∃ j,t=k+1+j:=⟨t - (k+1),by omega⟩
    simp [show k+1+j - k=j+1 by omega,show k+1+j - (k+1)=j by omega]
def Mz (P:Program)(fn:Func)(R:Ending->World->Prop)(F:Fm)(w:World):Prop:=∀ tmps:Array Value,(∀ t,tmps.getD t undef=F t)->∃ v,(results fn tmps).run P w=.ok v w/\R (.returned v) w
theorem Af2 {f:FuncId}{fn:Func}{c:Code}{args:List Value}{R:Ending->World->Prop}(m:Nat)(hf:P.funcs[f]?=some fn)(hb:fn.body=some c)(hm:fn.ntmps=m)(hn:Nat.ble args.length m=true)
  (h:wc P m c ⟨Mz P fn R,Mz P fn R,fun _ _ _=>False⟩ (J6 0 args) w):Calls P f args.toArray w R:=by
 subst hm
 refine calls_of_wp hf hb (wp_mono (h [] _ ⟨?_,rfl,fun t=>?_⟩) ?_)
 ·have:args.length<=fn.ntmps:=by simpa using hn
  simp;omega
 ·rw [Jo]
  simp only [Nat.not_lt_zero,if_false,Nat.sub_zero]
  rw [Array.getD_eq_getD_getElem?,Array.getElem?_append]
  by_cases ht:t<args.length
  ·simp [ht,List.getD_eq_getElem?_getD]
  ·simp [ht,List.getD_eq_getElem?_getD,Array.getElem?_replicate,List.getElem?_eq_none (Nat.le_of_not_lt ht)]
   split<;>rfl
 ·intro e a w h
  cases e<;>simp only [Iz] at h<;>simp only [bodyPost]
  ·obtain ⟨F,h1,h2⟩:=h;exact ⟨h1.defers,h2 _ h1.get⟩
  ·obtain ⟨F,h1,h2⟩:=h;exact h2
  ·obtain ⟨F,h1,h2⟩:=h;exact ⟨h1.defers,h2 _ h1.get⟩
theorem Bn5 {fn:Func}{R:Ending->World->Prop}{t:Tmp}(hr:fn.results=#[.tmp t]){v:Value}(hv:F t=v)(h:R (.returned v) w):Mz P fn R F w:=fun tmps ht=>by
 subst hv
 exact ⟨_,results_tmp hr tmps P w,by rw [ht];exact h⟩
variable {ops:Array Oper}{rest:List Oper}{o:Oper}
theorem Za {id:Nat}{l:List Oper}(h:wl P n l.toArray l Q F w):wc P n (.region id l.toArray false) Q F w:=fun ds a ha=>wp_region_lit (h ds a ha)
theorem N9 (h:Q.n F w):wl P n ops [] Q F w:=fun ds a ha=>wpList_nil ⟨F,ha,h⟩
theorem B9 {d:Nat}(hd:o.dst=some d)(hn:Nat.blt d n=true):Nx n o.dst=true:=by rw [hd];exact hn
theorem Bh {v:Value}{w1:World}{d:Nat}(hg:o.guard=none)(hd:o.dst=some d)(hn:Nat.blt d n=true)(hrun:(execOp (ev F) o).run P w=.ok (.value v) w1)(k:wl P n ops rest Q (Bd F d v) w1):wl P n ops (o::rest) Q F w:=
 fun ds a ha=>wpList_plain hg fun K hK=>by
  unfold Oper.wp
  rw [ha.eval,hrun]
  refine hK _ _ (k _ _ ?_)
  have:=ha.put (B9 hd hn) v
  rw [hd] at this ⊢
  exact this
theorem Ua {w1:World}(hg:o.guard=none)(hd:o.dst=none)(hrun:(execOp (ev F) o).run P w=.ok .skip w1)(k:wl P n ops rest Q F w1):wl P n ops (o::rest) Q F w:=
 fun ds a ha=>wpList_plain hg fun K hK=>by
  unfold Oper.wp
  rw [ha.eval,hrun]
  refine hK _ _ (k _ _ ?_)
  rw [hd]
  exact ha
theorem Z6 {f:FuncId}{args:Array Value}{R:Ending->World->Prop}{d:Nat}(hg:o.guard=none)(hd:o.dst=some d)(hn:Nat.blt d n=true)(hrun:(execOp (ev F) o).run P w=.ok (.enter f args) w)(hc:Calls P f args w R)
  (k:∀ e w1,R e w1->∃ v,e=.returned v/\wl P n ops rest Q (Bd F d v) w1):wl P n ops (o::rest) Q F w:=
 fun ds a ha=>wpList_plain hg fun K hK=>by
  unfold Oper.wp
  rw [ha.eval,hrun]
  refine hc.mono ?_
  intro e w1 hR
  obtain ⟨v,rfl,hv⟩:=k e w1 hR
  refine hK _ _ (hv _ _ ?_)
  have:=ha.put (B9 hd hn) v
  rw [hd] at this ⊢
  exact this
def Pk (o:Oper):Oper:={ o with guard:=none }
theorem Ab8 {j:Nat}{b:Bool}{oj:Oper}{t:Tmp}(hg:o.guard=some (j,b))(hj:ops[j]?=some oj)(ht:oj.dst=some t)(hb:F t=.bool b)(hn:Nat.blt t n=true)(k:wl P n ops (Pk o::rest) Q F w):wl P n ops (o::rest) Q F w:=fun ds a ha=>by
 have hlt:t<a.tmps.size:=by rw [ha.size];exact Nd hn
 have h1:=ha.get t
 rw [hb,Array.getD_eq_getD_getElem?,Array.getElem?_eq_getElem hlt] at h1
 have hw:Region.wanted o (yielded ops a.tmps)=true:=by
  simp only [Region.wanted,hg,yielded,hj,Option.bind_some,ht,Array.getElem?_eq_getElem hlt]
  simp at h1
  simp [h1]
 have hk:=k ds a ha
 unfold wpList at hk ⊢
 rw [if_pos hw]
 rw [if_pos (by simp [Region.wanted,Pk])] at hk
 exact hk
theorem Xc {j:Nat}{b c:Bool}{oj:Oper}{t:Tmp}(hg:o.guard=some (j,b))(hj:ops[j]?=some oj)(ht:oj.dst=some t)(hb:F t=.bool c)(hne:(c==b)=false)(hn:Nat.blt t n=true){d:Nat}(hd:o.dst=some d)(hdn:Nat.blt d n=true)(k:wl P n ops rest Q (Bd F d undef) w):wl P n ops (o::rest) Q F w:=fun ds a ha=>by
 have hlt:t<a.tmps.size:=by rw [ha.size];exact Nd hn
 have h1:=ha.get t
 rw [hb,Array.getD_eq_getD_getElem?,Array.getElem?_eq_getElem hlt] at h1
 have hw:Region.wanted o (yielded ops a.tmps)=false:=by
  simp only [Region.wanted,hg,yielded,hj,Option.bind_some,ht,Array.getElem?_eq_getElem hlt]
  simp at h1
  simp [h1]
  simpa using hne
 have hk:=k _ _ (by have:=ha.put (B9 hd hdn) undef;rw [hd] at this;exact this)
 rw [<- hd] at hk
 unfold wpList
 rw [hw]
 simpa using hk
theorem Ao9 {j:Nat}{b:Bool}{oj:Oper}{t:Tmp}(hg:o.guard=some (j,b))(hj:ops[j]?=some oj)(ht:oj.dst=some t)(hb:F t=undef)(hn:Nat.blt t n=true){d:Nat}(hd:o.dst=some d)(hdn:Nat.blt d n=true)(k:wl P n ops rest Q (Bd F d undef) w):wl P n ops (o::rest) Q F w:=fun ds a ha=>by
 have hlt:t<a.tmps.size:=by rw [ha.size];exact Nd hn
 have h1:=ha.get t
 rw [hb,Array.getD_eq_getD_getElem?,Array.getElem?_eq_getElem hlt] at h1
 have hw:Region.wanted o (yielded ops a.tmps)=false:=by
  simp only [Region.wanted,hg,yielded,hj,Option.bind_some,ht,Array.getElem?_eq_getElem hlt]
  simp at h1
  simp [h1,undef]
 have hk:=k _ _ (by have:=ha.put (B9 hd hdn) undef;rw [hd] at this;exact this)
 rw [<- hd] at hk
 unfold wpList
 rw [hw]
 simpa using hk
end rules
attribute [irreducible] wc wl Mz
end Go.Proofs.YtghmdfegfehhkaaGreatDoor
namespace Go.Proofs.YtghmdfegfehhkaaGreatDoor
def ti1:TI:=⟨(.func #[] #[] false),1,8,(.nilFunc)⟩
def ti2:TI:=⟨(.int .i64),1,8,(.int .i64 0)⟩
def ti3:TI:=⟨(.int .i64),1,8,(.int .i64 0)⟩
def ti4:TI:=⟨.bool,1,1,(.bool false)⟩
def ti5:TI:=⟨(.int .u8),1,1,(.int .u8 0)⟩
def ti6:TI:=⟨(.int .u8),1,1,(.int .u8 0)⟩
def ti9:TI:=⟨.string,1,16,(.string ByteArray.empty)⟩
def Biy:TI:=⟨.string,1,16,(.string ByteArray.empty)⟩
def Blq:TI:=⟨.string,1,16,(.string ByteArray.empty)⟩
def Bo8:TI:=⟨(.int .u64),1,8,(.int .u64 0)⟩
def Bk5:TI:=⟨(.pointer 355),1,8,(.pointer none)⟩
def Bk1:TI:=⟨(.pointer 358),1,8,(.pointer none)⟩
def Bj2:TI:=⟨(.pointer 366),1,8,(.pointer none)⟩
def Bl3:TI:=⟨(.slice 9),1,24,(.slice none 0 0)⟩
def Bmk:TI:=⟨(.slice 3),1,24,(.slice none 0 0)⟩
def Bix:TI:=⟨(.slice 83),1,24,(.slice none 0 0)⟩
def Bj1:TI:=⟨(.struct #[{ name:= "Strings",type:=26,offset:=0,embedded:=false,tag:= "",pkgPath:= "",byteOffset:=0 },{ name:= "Globals",type:=27,offset:=1,embedded:=false,tag:= "",pkgPath:= "",byteOffset:=24 },{ name:= "Funcs",type:=28,offset:=2,embedded:=false,tag:= "",pkgPath:= "",byteOffset:=48 },{ name:= "Entries",type:=27,offset:=3,embedded:=false,tag:= "",pkgPath:= "",byteOffset:=72 }]),4,96,(.agg #[.slice none 0 0,.slice none 0 0,.slice none 0 0,.slice none 0 0])⟩
def Bm6:TI:=⟨(.slice 99),1,24,(.slice none 0 0)⟩
def Bi1:TI:=⟨(.slice 77),1,24,(.slice none 0 0)⟩
def Boz:TI:=⟨(.struct #[{ name:= "Vars",type:=3,offset:=0,embedded:=false,tag:= "",pkgPath:= "",byteOffset:=0 },{ name:= "Cells",type:=32,offset:=1,embedded:=false,tag:= "",pkgPath:= "",byteOffset:=8 },{ name:= "Cons",type:=33,offset:=2,embedded:=false,tag:= "",pkgPath:= "",byteOffset:=32 }]),3,56,(.agg #[.int .i64 0,.slice none 0 0,.slice none 0 0])⟩
def Bok:TI:=⟨(.int .i64),1,8,(.int .i64 0)⟩
def Bky:TI:=⟨(.struct #[{ name:= "Err",type:=36,offset:=0,embedded:=false,tag:= "",pkgPath:= "",byteOffset:=0 },{ name:= "At",type:=3,offset:=1,embedded:=false,tag:= "",pkgPath:= "",byteOffset:=8 },{ name:= "Line",type:=3,offset:=2,embedded:=false,tag:= "",pkgPath:= "",byteOffset:=16 },{ name:= "Col",type:=3,offset:=3,embedded:=false,tag:= "",pkgPath:= "",byteOffset:=24 },{ name:= "Rule",type:=3,offset:=4,embedded:=false,tag:= "",pkgPath:= "",byteOffset:=32 },{ name:= "Func",type:=3,offset:=5,embedded:=false,tag:= "",pkgPath:= "",byteOffset:=40 },{ name:= "Stmt",type:=3,offset:=6,embedded:=false,tag:= "",pkgPath:= "",byteOffset:=48 }]),7,56,(.agg #[.int .i64 0,.int .i64 0,.int .i64 0,.int .i64 0,.int .i64 0,.int .i64 0,.int .i64 0])⟩
def Bik:TI:=⟨(.slice 27),1,24,(.slice none 0 0)⟩
def Bmy:TI:=⟨(.slice 111),1,24,(.slice none 0 0)⟩
def Biq:TI:=⟨(.struct #[{ name:= "Vars",type:=5,offset:=0,embedded:=false,tag:= "",pkgPath:= "",byteOffset:=0 },{ name:= "Cells",type:=5,offset:=1,embedded:=false,tag:= "",pkgPath:= "",byteOffset:=1 },{ name:= "Acts",type:=47,offset:=2,embedded:=false,tag:= "",pkgPath:= "",byteOffset:=8 }]),3,32,(.agg #[.int .u8 0,.int .u8 0,.slice none 0 0])⟩
def Bl0:TI:=⟨(.struct #[{ name:= "Vars",type:=3,offset:=0,embedded:=false,tag:= "",pkgPath:= "",byteOffset:=0 },{ name:= "Cells",type:=3,offset:=1,embedded:=false,tag:= "",pkgPath:= "",byteOffset:=8 },{ name:= "Cons",type:=3,offset:=2,embedded:=false,tag:= "",pkgPath:= "",byteOffset:=16 }]),3,24,(.agg #[.int .i64 0,.int .i64 0,.int .i64 0])⟩
def Bk3:TI:=⟨(.slice 5),1,24,(.slice none 0 0)⟩
def Bo1:TI:=⟨(.slice 194),1,24,(.slice none 0 0)⟩
def Bo5:TI:=⟨(.struct #[{ name:= "Points",type:=43,offset:=0,embedded:=false,tag:= "",pkgPath:= "",byteOffset:=0 },{ name:= "Edges",type:=62,offset:=1,embedded:=false,tag:= "",pkgPath:= "",byteOffset:=24 },{ name:= "Reach",type:=27,offset:=2,embedded:=false,tag:= "",pkgPath:= "",byteOffset:=48 }]),3,72,(.agg #[.slice none 0 0,.slice none 0 0,.slice none 0 0])⟩
def Bp2:TI:=⟨(.struct #[{ name:= "Kind",type:=5,offset:=0,embedded:=false,tag:= "",pkgPath:= "",byteOffset:=0 },{ name:= "A",type:=3,offset:=1,embedded:=false,tag:= "",pkgPath:= "",byteOffset:=8 },{ name:= "B",type:=3,offset:=2,embedded:=false,tag:= "",pkgPath:= "",byteOffset:=16 },{ name:= "Args",type:=27,offset:=3,embedded:=false,tag:= "",pkgPath:= "",byteOffset:=24 }]),4,48,(.agg #[.int .u8 0,.int .i64 0,.int .i64 0,.slice none 0 0])⟩
def Bi7:TI:=⟨(.slice 88),1,24,(.slice none 0 0)⟩
def Bm5:TI:=⟨(.struct #[{ name:= "Name",type:=3,offset:=0,embedded:=false,tag:= "",pkgPath:= "",byteOffset:=0 },{ name:= "Params",type:=3,offset:=1,embedded:=false,tag:= "",pkgPath:= "",byteOffset:=8 },{ name:= "Locals",type:=27,offset:=2,embedded:=false,tag:= "",pkgPath:= "",byteOffset:=16 },{ name:= "Sites",type:=27,offset:=3,embedded:=false,tag:= "",pkgPath:= "",byteOffset:=40 },{ name:= "Body",type:=81,offset:=4,embedded:=false,tag:= "",pkgPath:= "",byteOffset:=64 }]),5,88,(.agg #[.int .i64 0,.int .i64 0,.slice none 0 0,.slice none 0 0,.slice none 0 0])⟩
def Bhy:TI:=⟨(.struct #[{ name:= "Kind",type:=5,offset:=0,embedded:=false,tag:= "",pkgPath:= "",byteOffset:=0 },{ name:= "ID",type:=3,offset:=1,embedded:=false,tag:= "",pkgPath:= "",byteOffset:=8 }]),2,16,(.agg #[.int .u8 0,.int .i64 0])⟩
def Bm8:TI:=⟨(.slice 85),1,24,(.slice none 0 0)⟩
def Bnk:TI:=⟨(.struct #[{ name:= "Kind",type:=5,offset:=0,embedded:=false,tag:= "",pkgPath:= "",byteOffset:=0 },{ name:= "A",type:=85,offset:=1,embedded:=false,tag:= "",pkgPath:= "",byteOffset:=8 },{ name:= "B",type:=85,offset:=3,embedded:=false,tag:= "",pkgPath:= "",byteOffset:=24 },{ name:= "Args",type:=86,offset:=5,embedded:=false,tag:= "",pkgPath:= "",byteOffset:=40 },{ name:= "Body",type:=81,offset:=6,embedded:=false,tag:= "",pkgPath:= "",byteOffset:=64 }]),7,88,(.agg #[.int .u8 0,.int .u8 0,.int .i64 0,.int .u8 0,.int .i64 0,.slice none 0 0,.slice none 0 0])⟩
def Bl2:TI:=⟨(.struct #[{ name:= "m",type:=30,offset:=0,embedded:=false,tag:= "",pkgPath:= "weathervane/gen",byteOffset:=0 },{ name:= "vars",type:=27,offset:=4,embedded:=false,tag:= "",pkgPath:= "weathervane/gen",byteOffset:=96 },{ name:= "cells",type:=27,offset:=5,embedded:=false,tag:= "",pkgPath:= "weathervane/gen",byteOffset:=120 },{ name:= "last",type:=3,offset:=6,embedded:=false,tag:= "",pkgPath:= "weathervane/gen",byteOffset:=144 },{ name:= "all",type:=3,offset:=7,embedded:=false,tag:= "",pkgPath:= "weathervane/gen",byteOffset:=152 }]),8,160,(.agg #[.slice none 0 0,.slice none 0 0,.slice none 0 0,.slice none 0 0,.slice none 0 0,.slice none 0 0,.int .i64 0,.int .i64 0])⟩
def Bl4:TI:=⟨(.func #[] #[3] false),1,8,(.nilFunc)⟩
def Bm4:TI:=⟨(.struct #[{ name:= "Fun",type:=4,offset:=0,embedded:=false,tag:= "",pkgPath:= "",byteOffset:=0 },{ name:= "Var",type:=3,offset:=1,embedded:=false,tag:= "",pkgPath:= "",byteOffset:=8 },{ name:= "Args",type:=27,offset:=2,embedded:=false,tag:= "",pkgPath:= "",byteOffset:=16 }]),3,40,(.agg #[.bool false,.int .i64 0,.slice none 0 0])⟩
def Ayq:TI:=⟨(.slice 104),1,24,(.slice none 0 0)⟩
def Be0:TI:=⟨(.struct #[{ name:= "N",type:=3,offset:=0,embedded:=false,tag:= "",pkgPath:= "",byteOffset:=0 },{ name:= "Deep",type:=3,offset:=1,embedded:=false,tag:= "",pkgPath:= "",byteOffset:=8 },{ name:= "S",type:=88,offset:=2,embedded:=false,tag:= "",pkgPath:= "",byteOffset:=16 }]),9,104,(.agg #[.int .i64 0,.int .i64 0,.int .u8 0,.int .u8 0,.int .i64 0,.int .u8 0,.int .i64 0,.slice none 0 0,.slice none 0 0])⟩
def Ax5:TI:=⟨(.struct #[{ name:= "K",type:=5,offset:=0,embedded:=false,tag:= "",pkgPath:= "",byteOffset:=0 },{ name:= "A",type:=5,offset:=1,embedded:=false,tag:= "",pkgPath:= "",byteOffset:=1 },{ name:= "B",type:=5,offset:=2,embedded:=false,tag:= "",pkgPath:= "",byteOffset:=2 },{ name:= "C",type:=5,offset:=3,embedded:=false,tag:= "",pkgPath:= "",byteOffset:=3 }]),4,4,(.agg #[.int .u8 0,.int .u8 0,.int .u8 0,.int .u8 0])⟩
def Az2:TI:=⟨(.pointer 116),1,8,(.pointer none)⟩
def Bh0:TI:=⟨(.slice 4),1,24,(.slice none 0 0)⟩
def Be1:TI:=⟨(.slice 117),1,24,(.slice none 0 0)⟩
def Axz:TI:=⟨(.struct #[{ name:= "s",type:=35,offset:=0,embedded:=false,tag:= "",pkgPath:= "weathervane/solve",byteOffset:=0 },{ name:= "in",type:=114,offset:=3,embedded:=false,tag:= "",pkgPath:= "weathervane/solve",byteOffset:=56 },{ name:= "done",type:=114,offset:=4,embedded:=false,tag:= "",pkgPath:= "weathervane/solve",byteOffset:=80 },{ name:= "to",type:=114,offset:=5,embedded:=false,tag:= "",pkgPath:= "weathervane/solve",byteOffset:=104 },{ name:= "from",type:=43,offset:=6,embedded:=false,tag:= "",pkgPath:= "weathervane/solve",byteOffset:=128 },{ name:= "work",type:=27,offset:=7,embedded:=false,tag:= "",pkgPath:= "weathervane/solve",byteOffset:=152 },{ name:= "on",type:=113,offset:=8,embedded:=false,tag:= "",pkgPath:= "weathervane/solve",byteOffset:=176 },{ name:= "pops",type:=3,offset:=9,embedded:=false,tag:= "",pkgPath:= "weathervane/solve",byteOffset:=200 }]),10,208,(.agg #[.int .i64 0,.slice none 0 0,.slice none 0 0,.slice none 0 0,.slice none 0 0,.slice none 0 0,.slice none 0 0,.slice none 0 0,.slice none 0 0,.int .i64 0])⟩
def Bgq:TI:=⟨(.pointer 120),1,8,(.pointer none)⟩
def Aw2:TI:=⟨(.slice 179),1,24,(.slice none 0 0)⟩
def Bg4:TI:=⟨(.struct #[{ name:= "l",type:=118,offset:=0,embedded:=false,tag:= "",pkgPath:= "weathervane/pile",byteOffset:=0 }]),1,24,(.agg #[.slice none 0 0])⟩
def Azz:TI:=⟨(.func #[3] #[] false),1,8,(.nilFunc)⟩
def Bg7:TI:=⟨(.func #[3] #[3] false),1,8,(.nilFunc)⟩
def Aw3:TI:=⟨(.map 3 3),1,8,(.map none)⟩
def Bd7:TI:=⟨(.map 9 4),1,8,(.map none)⟩
def Bb2:TI:=⟨(.struct #[{ name:= "Vars",type:=3,offset:=0,embedded:=false,tag:= "",pkgPath:= "",byteOffset:=0 },{ name:= "Into",type:=43,offset:=1,embedded:=false,tag:= "",pkgPath:= "",byteOffset:=8 },{ name:= "Bases",type:=43,offset:=2,embedded:=false,tag:= "",pkgPath:= "",byteOffset:=32 },{ name:= "Loose",type:=113,offset:=3,embedded:=false,tag:= "",pkgPath:= "",byteOffset:=56 }]),4,80,(.agg #[.int .i64 0,.slice none 0 0,.slice none 0 0,.slice none 0 0])⟩
def Azy:TI:=⟨(.int .u64),1,8,(.int .u64 0)⟩
def Bc7:TI:=⟨(.struct #[{ name:= "at",type:=3,offset:=0,embedded:=false,tag:= "",pkgPath:= "weathervane/pile",byteOffset:=0 },{ name:= "w",type:=177,offset:=1,embedded:=false,tag:= "",pkgPath:= "weathervane/pile",byteOffset:=8 }]),2,16,(.agg #[.int .i64 0,.int .u64 0])⟩
def Ay0:TI:=⟨(.int .u32),1,4,(.int .u32 0)⟩
def Bdk:TI:=⟨(.int .u64),1,8,(.int .u64 0)⟩
def Axq:TI:=⟨(.struct #[{ name:= "Func",type:=3,offset:=0,embedded:=false,tag:= "",pkgPath:= "",byteOffset:=0 },{ name:= "Call",type:=3,offset:=1,embedded:=false,tag:= "",pkgPath:= "",byteOffset:=8 },{ name:= "To",type:=3,offset:=2,embedded:=false,tag:= "",pkgPath:= "",byteOffset:=16 }]),3,24,(.agg #[.int .i64 0,.int .i64 0,.int .i64 0])⟩
def Ay3:TI:=⟨(.func #[194,194] #[3] false),1,8,(.nilFunc)⟩
def Bf7:TI:=⟨(.func #[59] #[30,38] false),1,8,(.nilFunc)⟩
def Ba5:TI:=⟨(.array 2 199),2,16,(.agg #[.nilFunc,.nilFunc])⟩
def Bb5:TI:=⟨(.struct #[{ name:= "m",type:=30,offset:=0,embedded:=false,tag:= "",pkgPath:= "weathervane/rule",byteOffset:=0 }]),4,96,(.agg #[.slice none 0 0,.slice none 0 0,.slice none 0 0,.slice none 0 0])⟩
def Bf6:TI:=⟨(.map 3 4),1,8,(.map none)⟩
def Bh9:TI:=⟨(.map 9 3),1,8,(.map none)⟩
def Au6:TI:=⟨(.func #[179,3] #[3] false),1,8,(.nilFunc)⟩
def Az0:TI:=⟨(.array 64 5),64,64,(.agg #[.int .u8 0,.int .u8 0,.int .u8 0,.int .u8 0,.int .u8 0,.int .u8 0,.int .u8 0,.int .u8 0,.int .u8 0,.int .u8 0,.int .u8 0,.int .u8 0,.int .u8 0,.int .u8 0,.int .u8 0,.int .u8 0,.int .u8 0,.int .u8 0,.int .u8 0,.int .u8 0,.int .u8 0,.int .u8 0,.int .u8 0,.int .u8 0,.int .u8 0,.int .u8 0,.int .u8 0,.int .u8 0,.int .u8 0,.int .u8 0,.int .u8 0,.int .u8 0,.int .u8 0,.int .u8 0,.int .u8 0,.int .u8 0,.int .u8 0,.int .u8 0,.int .u8 0,.int .u8 0,.int .u8 0,.int .u8 0,.int .u8 0,.int .u8 0,.int .u8 0,.int .u8 0,.int .u8 0,.int .u8 0,.int .u8 0,.int .u8 0,.int .u8 0,.int .u8 0,.int .u8 0,.int .u8 0,.int .u8 0,.int .u8 0,.int .u8 0,.int .u8 0,.int .u8 0,.int .u8 0,.int .u8 0,.int .u8 0,.int .u8 0,.int .u8 0])⟩
def Bgx:TI:=⟨(.pointer 251),1,8,(.pointer none)⟩
def Ax3:TI:=⟨(.struct #[{ name:= "into",type:=43,offset:=0,embedded:=false,tag:= "",pkgPath:= "weathervane/knot",byteOffset:=0 },{ name:= "index",type:=27,offset:=1,embedded:=false,tag:= "",pkgPath:= "weathervane/knot",byteOffset:=24 },{ name:= "low",type:=27,offset:=2,embedded:=false,tag:= "",pkgPath:= "weathervane/knot",byteOffset:=48 },{ name:= "on",type:=113,offset:=3,embedded:=false,tag:= "",pkgPath:= "weathervane/knot",byteOffset:=72 },{ name:= "stack",type:=27,offset:=4,embedded:=false,tag:= "",pkgPath:= "weathervane/knot",byteOffset:=96 },{ name:= "of",type:=27,offset:=5,embedded:=false,tag:= "",pkgPath:= "weathervane/knot",byteOffset:=120 },{ name:= "n",type:=3,offset:=6,embedded:=false,tag:= "",pkgPath:= "weathervane/knot",byteOffset:=144 },{ name:= "knots",type:=43,offset:=7,embedded:=false,tag:= "",pkgPath:= "weathervane/knot",byteOffset:=152 }]),8,176,(.agg #[.slice none 0 0,.slice none 0 0,.slice none 0 0,.slice none 0 0,.slice none 0 0,.slice none 0 0,.int .i64 0,.slice none 0 0])⟩
def Ax0:TI:=⟨(.int .i64),1,8,(.int .i64 0)⟩
def Av2:TI:=⟨(.pointer 272),1,8,(.pointer none)⟩
def Bb7:TI:=⟨(.pointer 301),1,8,(.pointer none)⟩
def Ba1:TI:=⟨(.struct #[{ name:= "Kind",type:=5,offset:=0,embedded:=false,tag:= "",pkgPath:= "",byteOffset:=0 },{ name:= "Mark",type:=5,offset:=1,embedded:=false,tag:= "",pkgPath:= "",byteOffset:=1 },{ name:= "Text",type:=9,offset:=2,embedded:=false,tag:= "",pkgPath:= "",byteOffset:=8 },{ name:= "At",type:=3,offset:=3,embedded:=false,tag:= "",pkgPath:= "",byteOffset:=24 }]),4,32,(.agg #[.int .u8 0,.int .u8 0,.string ByteArray.empty,.int .i64 0])⟩
def Ay7:TI:=⟨(.struct #[{ name:= "l",type:=26,offset:=0,embedded:=false,tag:= "",pkgPath:= "weathervane/canon",byteOffset:=0 },{ name:= "seen",type:=217,offset:=1,embedded:=false,tag:= "",pkgPath:= "weathervane/canon",byteOffset:=24 }]),2,32,(.agg #[.slice none 0 0,.map none])⟩
def Av5:TI:=⟨(.slice 274),1,24,(.slice none 0 0)⟩
def Bfq:TI:=⟨(.struct #[{ name:= "p",type:=59,offset:=0,embedded:=false,tag:= "",pkgPath:= "weathervane/parse",byteOffset:=0 },{ name:= "x",type:=264,offset:=1,embedded:=false,tag:= "",pkgPath:= "weathervane/parse",byteOffset:=24 },{ name:= "t",type:=267,offset:=2,embedded:=false,tag:= "",pkgPath:= "weathervane/parse",byteOffset:=32 },{ name:= "m",type:=30,offset:=6,embedded:=false,tag:= "",pkgPath:= "weathervane/parse",byteOffset:=64 },{ name:= "s",type:=269,offset:=10,embedded:=false,tag:= "",pkgPath:= "weathervane/parse",byteOffset:=160 },{ name:= "uses",type:=270,offset:=12,embedded:=false,tag:= "",pkgPath:= "weathervane/parse",byteOffset:=192 },{ name:= "fs",type:=217,offset:=13,embedded:=false,tag:= "",pkgPath:= "weathervane/parse",byteOffset:=216 },{ name:= "gs",type:=217,offset:=14,embedded:=false,tag:= "",pkgPath:= "weathervane/parse",byteOffset:=224 },{ name:= "ls",type:=217,offset:=15,embedded:=false,tag:= "",pkgPath:= "weathervane/parse",byteOffset:=232 },{ name:= "hs",type:=217,offset:=16,embedded:=false,tag:= "",pkgPath:= "weathervane/parse",byteOffset:=240 }]),17,248,(.agg #[.slice none 0 0,.pointer none,.int .u8 0,.int .u8 0,.string ByteArray.empty,.int .i64 0,.slice none 0 0,.slice none 0 0,.slice none 0 0,.slice none 0 0,.slice none 0 0,.map none,.slice none 0 0,.map none,.map none,.map none,.map none])⟩
def Au5:TI:=⟨(.struct #[{ name:= "name",type:=9,offset:=0,embedded:=false,tag:= "",pkgPath:= "weathervane/parse",byteOffset:=0 },{ name:= "set",type:=122,offset:=1,embedded:=false,tag:= "",pkgPath:= "weathervane/parse",byteOffset:=16 }]),2,24,(.agg #[.string ByteArray.empty,.nilFunc])⟩
def Ay1:TI:=⟨(.pointer 3),1,8,(.pointer none)⟩
def Bfy:TI:=⟨(.func #[278] #[] false),1,8,(.nilFunc)⟩
def Bb1:TI:=⟨(.struct #[{ name:= "node",type:=3,offset:=0,embedded:=false,tag:= "",pkgPath:= "weathervane/knot",byteOffset:=0 },{ name:= "next",type:=3,offset:=1,embedded:=false,tag:= "",pkgPath:= "weathervane/knot",byteOffset:=8 }]),2,16,(.agg #[.int .i64 0,.int .i64 0])⟩
def Aux:TI:=⟨(.slice 288),1,24,(.slice none 0 0)⟩
def Bb8:TI:=⟨(.int .u64),1,8,(.int .u64 0)⟩
def Awy:TI:=⟨(.struct #[{ name:= "p",type:=59,offset:=0,embedded:=false,tag:= "",pkgPath:= "weathervane/lex",byteOffset:=0 },{ name:= "at",type:=3,offset:=1,embedded:=false,tag:= "",pkgPath:= "weathervane/lex",byteOffset:=24 }]),2,32,(.agg #[.slice none 0 0,.int .i64 0])⟩
def Ayz:TI:=⟨(.pointer 269),1,8,(.pointer none)⟩
def Bf3:TI:=⟨(.pointer 293),1,8,(.pointer none)⟩
def Az9:TI:=⟨(.pointer 81),1,8,(.pointer none)⟩
def Ayk:TI:=⟨(.int .u8),1,1,(.int .u8 0)⟩
def Bb0:TI:=⟨(.int .u8),1,1,(.int .u8 0)⟩
def Baz:TI:=⟨(.func #[367,367] #[4] false),1,8,(.nilFunc)⟩
def Bc8:TI:=⟨(.pointer 5),1,8,(.pointer none)⟩
def Av3:TI:=⟨(.int .i32),1,4,(.int .i32 0)⟩
def Bcq:TI:=⟨(.int .i32),1,4,(.int .i32 0)⟩
def Awq:TI:=⟨(.struct #[{ name:= "Size_",type:=12,offset:=0,embedded:=false,tag:= "",pkgPath:= "",byteOffset:=0 },{ name:= "PtrBytes",type:=12,offset:=1,embedded:=false,tag:= "",pkgPath:= "",byteOffset:=8 },{ name:= "Hash",type:=187,offset:=2,embedded:=false,tag:= "",pkgPath:= "",byteOffset:=16 },{ name:= "TFlag",type:=359,offset:=3,embedded:=false,tag:= "",pkgPath:= "",byteOffset:=20 },{ name:= "Align_",type:=5,offset:=4,embedded:=false,tag:= "",pkgPath:= "",byteOffset:=21 },{ name:= "FieldAlign_",type:=5,offset:=5,embedded:=false,tag:= "",pkgPath:= "",byteOffset:=22 },{ name:= "Kind_",type:=360,offset:=6,embedded:=false,tag:= "",pkgPath:= "",byteOffset:=23 },{ name:= "Equal",type:=361,offset:=7,embedded:=false,tag:= "",pkgPath:= "",byteOffset:=24 },{ name:= "GCData",type:=362,offset:=8,embedded:=false,tag:= "",pkgPath:= "",byteOffset:=32 },{ name:= "Str",type:=363,offset:=9,embedded:=false,tag:= "",pkgPath:= "",byteOffset:=40 },{ name:= "PtrToThis",type:=364,offset:=10,embedded:=false,tag:= "",pkgPath:= "",byteOffset:=44 }]),11,48,(.agg #[.int .u64 0,.int .u64 0,.int .u32 0,.int .u8 0,.int .u8 0,.int .u8 0,.int .u8 0,.nilFunc,.pointer none,.int .i32 0,.int .i32 0])⟩
def tab:Nat->Option TI:=Nu (.node (.node (.node (.node (.node (.node (.node .leaf 1 ti1 .leaf) 2 ti2 .leaf) 3 ti3 (.node (.node .leaf 4 ti4 .leaf) 5 ti5 .leaf)) 6 ti6 (.node (.node (.node .leaf 9 ti9 .leaf) 10 Biy .leaf) 11 Blq (.node (.node .leaf 12 Bo8 .leaf) 15 Bk5 .leaf))) 16 Bk1 (.node (.node (.node (.node .leaf 17 Bj2 .leaf) 26 Bl3 .leaf) 27 Bmk (.node (.node .leaf 28 Bix .leaf) 30 Bj1 .leaf)) 32 Bm6 (.node (.node (.node .leaf 33 Bi1 .leaf) 35 Boz .leaf) 36 Bok (.node (.node .leaf 38 Bky .leaf) 43 Bik .leaf)))) 47 Bmy (.node (.node (.node (.node (.node .leaf 49 Biq .leaf) 56 Bl0 .leaf) 59 Bk3 (.node (.node .leaf 62 Bo1 .leaf) 64 Bo5 .leaf)) 77 Bp2 (.node (.node (.node .leaf 81 Bi7 .leaf) 83 Bm5 .leaf) 85 Bhy (.node (.node .leaf 86 Bm8 .leaf) 88 Bnk .leaf))) 95 Bl2 (.node (.node (.node (.node .leaf 97 Bl4 .leaf) 99 Bm4 .leaf) 101 Ayq (.node (.node .leaf 104 Be0 .leaf) 111 Ax5 .leaf)) 112 Az2 (.node (.node (.node .leaf 113 Bh0 .leaf) 114 Be1 .leaf) 116 Axz (.node .leaf 117 Bgq .leaf))))) 118 Aw2 (.node (.node (.node (.node (.node (.node .leaf 120 Bg4 .leaf) 122 Azz .leaf) 149 Bg7 (.node (.node .leaf 155 Aw3 .leaf) 158 Bd7 .leaf)) 163 Bb2 (.node (.node (.node .leaf 177 Azy .leaf) 179 Bc7 .leaf) 187 Ay0 (.node (.node .leaf 189 Bdk .leaf) 194 Axq .leaf))) 197 Ay3 (.node (.node (.node (.node .leaf 199 Bf7 .leaf) 200 Ba5 .leaf) 207 Bb5 (.node (.node .leaf 214 Bf6 .leaf) 217 Bh9 .leaf)) 222 Au6 (.node (.node (.node .leaf 229 Az0 .leaf) 249 Bgx .leaf) 251 Ax3 (.node .leaf 254 Ax0 .leaf)))) 263 Av2 (.node (.node (.node (.node (.node .leaf 264 Bb7 .leaf) 267 Ba1 .leaf) 269 Ay7 (.node (.node .leaf 270 Av5 .leaf) 272 Bfq .leaf)) 274 Au5 (.node (.node (.node .leaf 278 Ay1 .leaf) 280 Bfy .leaf) 288 Bb1 (.node (.node .leaf 290 Aux .leaf) 293 Bb8 .leaf))) 301 Awy (.node (.node (.node (.node .leaf 307 Ayz .leaf) 318 Bf3 .leaf) 333 Az9 (.node (.node .leaf 359 Ayk .leaf) 360 Bb0 .leaf)) 361 Baz (.node (.node (.node .leaf 362 Bc8 .leaf) 363 Av3 .leaf) 364 Bcq (.node .leaf 366 Awq .leaf))))))
theorem Aa:TabOk Tryz.prog tab:=Acq ⟨⟨⟨⟨⟨⟨⟨trivial,⟨Tryz.underlying1,by kernel_rfl⟩,trivial⟩,⟨Tryz.underlying2,by kernel_rfl⟩,trivial⟩,⟨Tryz.underlying3,by kernel_rfl⟩,⟨⟨trivial,⟨Tryz.underlying4,by kernel_rfl⟩,trivial⟩,⟨Tryz.underlying5,by kernel_rfl⟩,trivial⟩⟩,⟨Tryz.underlying6,by kernel_rfl⟩,⟨⟨⟨trivial,⟨Tryz.underlying9,by kernel_rfl⟩,trivial⟩,⟨Tryz.underlying10,by kernel_rfl⟩,trivial⟩,⟨Tryz.underlying11,by kernel_rfl⟩,⟨⟨trivial,⟨Tryz.underlying12,by kernel_rfl⟩,trivial⟩,⟨Tryz.underlying15,by kernel_rfl⟩,trivial⟩⟩⟩,⟨Tryz.underlying16,by kernel_rfl⟩,⟨⟨⟨⟨trivial,⟨Tryz.underlying17,by kernel_rfl⟩,trivial⟩,⟨Tryz.underlying26,by kernel_rfl⟩,trivial⟩,⟨Tryz.underlying27,by kernel_rfl⟩,⟨⟨trivial,⟨Tryz.underlying28,by kernel_rfl⟩,trivial⟩,⟨Tryz.underlying30,by kernel_rfl⟩,trivial⟩⟩,⟨Tryz.underlying32,by kernel_rfl⟩,⟨⟨⟨trivial,⟨Tryz.underlying33,by kernel_rfl⟩,trivial⟩,⟨Tryz.underlying35,by kernel_rfl⟩,trivial⟩,⟨Tryz.underlying36,by kernel_rfl⟩,⟨⟨trivial,⟨Tryz.underlying38,by kernel_rfl⟩,trivial⟩,⟨Tryz.underlying43,by kernel_rfl⟩,trivial⟩⟩⟩⟩,⟨Tryz.underlying47,by kernel_rfl⟩,⟨⟨⟨⟨⟨trivial,⟨Tryz.underlying49,by kernel_rfl⟩,trivial⟩,⟨Tryz.underlying56,by kernel_rfl⟩,trivial⟩,⟨Tryz.underlying59,by kernel_rfl⟩,⟨⟨trivial,⟨Tryz.underlying62,by kernel_rfl⟩,trivial⟩,⟨Tryz.underlying64,by kernel_rfl⟩,trivial⟩⟩,⟨Tryz.underlying77,by kernel_rfl⟩,⟨⟨⟨trivial,⟨Tryz.underlying81,by kernel_rfl⟩,trivial⟩,⟨Tryz.underlying83,by kernel_rfl⟩,trivial⟩,⟨Tryz.underlying85,by kernel_rfl⟩,⟨⟨trivial,⟨Tryz.underlying86,by kernel_rfl⟩,trivial⟩,⟨Tryz.underlying88,by kernel_rfl⟩,trivial⟩⟩⟩,⟨Tryz.underlying95,by kernel_rfl⟩,⟨⟨⟨⟨trivial,⟨Tryz.underlying97,by kernel_rfl⟩,trivial⟩,⟨Tryz.underlying99,by kernel_rfl⟩,trivial⟩,⟨Tryz.underlying101,by kernel_rfl⟩,⟨⟨trivial,⟨Tryz.underlying104,by kernel_rfl⟩,trivial⟩,⟨Tryz.underlying111,by kernel_rfl⟩,trivial⟩⟩,⟨Tryz.underlying112,by kernel_rfl⟩,⟨⟨⟨trivial,⟨Tryz.underlying113,by kernel_rfl⟩,trivial⟩,⟨Tryz.underlying114,by kernel_rfl⟩,trivial⟩,⟨Tryz.underlying116,by kernel_rfl⟩,⟨trivial,⟨Tryz.underlying117,by kernel_rfl⟩,trivial⟩⟩⟩⟩⟩,⟨Tryz.underlying118,by kernel_rfl⟩,⟨⟨⟨⟨⟨⟨trivial,⟨Tryz.underlying120,by kernel_rfl⟩,trivial⟩,⟨Tryz.underlying122,by kernel_rfl⟩,trivial⟩,⟨Tryz.underlying149,by kernel_rfl⟩,⟨⟨trivial,⟨Tryz.underlying155,by kernel_rfl⟩,trivial⟩,⟨Tryz.underlying158,by kernel_rfl⟩,trivial⟩⟩,⟨Tryz.underlying163,by kernel_rfl⟩,⟨⟨⟨trivial,⟨Tryz.underlying177,by kernel_rfl⟩,trivial⟩,⟨Tryz.underlying179,by kernel_rfl⟩,trivial⟩,⟨Tryz.underlying187,by kernel_rfl⟩,⟨⟨trivial,⟨Tryz.underlying189,by kernel_rfl⟩,trivial⟩,⟨Tryz.underlying194,by kernel_rfl⟩,trivial⟩⟩⟩,⟨Tryz.underlying197,by kernel_rfl⟩,⟨⟨⟨⟨trivial,⟨Tryz.underlying199,by kernel_rfl⟩,trivial⟩,⟨Tryz.underlying200,by kernel_rfl⟩,trivial⟩,⟨Tryz.underlying207,by kernel_rfl⟩,⟨⟨trivial,⟨Tryz.underlying214,by kernel_rfl⟩,trivial⟩,⟨Tryz.underlying217,by kernel_rfl⟩,trivial⟩⟩,⟨Tryz.underlying222,by kernel_rfl⟩,⟨⟨⟨trivial,⟨Tryz.underlying229,by kernel_rfl⟩,trivial⟩,⟨Tryz.underlying249,by kernel_rfl⟩,trivial⟩,⟨Tryz.underlying251,by kernel_rfl⟩,⟨trivial,⟨Tryz.underlying254,by kernel_rfl⟩,trivial⟩⟩⟩⟩,⟨Tryz.underlying263,by kernel_rfl⟩,⟨⟨⟨⟨⟨trivial,⟨Tryz.underlying264,by kernel_rfl⟩,trivial⟩,⟨Tryz.underlying267,by kernel_rfl⟩,trivial⟩,⟨Tryz.underlying269,by kernel_rfl⟩,⟨⟨trivial,⟨Tryz.underlying270,by kernel_rfl⟩,trivial⟩,⟨Tryz.underlying272,by kernel_rfl⟩,trivial⟩⟩,⟨Tryz.underlying274,by kernel_rfl⟩,⟨⟨⟨trivial,⟨Tryz.underlying278,by kernel_rfl⟩,trivial⟩,⟨Tryz.underlying280,by kernel_rfl⟩,trivial⟩,⟨Tryz.underlying288,by kernel_rfl⟩,⟨⟨trivial,⟨Tryz.underlying290,by kernel_rfl⟩,trivial⟩,⟨Tryz.underlying293,by kernel_rfl⟩,trivial⟩⟩⟩,⟨Tryz.underlying301,by kernel_rfl⟩,⟨⟨⟨⟨trivial,⟨Tryz.underlying307,by kernel_rfl⟩,trivial⟩,⟨Tryz.underlying318,by kernel_rfl⟩,trivial⟩,⟨Tryz.underlying333,by kernel_rfl⟩,⟨⟨trivial,⟨Tryz.underlying359,by kernel_rfl⟩,trivial⟩,⟨Tryz.underlying360,by kernel_rfl⟩,trivial⟩⟩,⟨Tryz.underlying361,by kernel_rfl⟩,⟨⟨⟨trivial,⟨Tryz.underlying362,by kernel_rfl⟩,trivial⟩,⟨Tryz.underlying363,by kernel_rfl⟩,trivial⟩,⟨Tryz.underlying364,by kernel_rfl⟩,⟨trivial,⟨Tryz.underlying366,by kernel_rfl⟩,trivial⟩⟩⟩⟩⟩⟩
end Go.Proofs.YtghmdfegfehhkaaGreatDoor
