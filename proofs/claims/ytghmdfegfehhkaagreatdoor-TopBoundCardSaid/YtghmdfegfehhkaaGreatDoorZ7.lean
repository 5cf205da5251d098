/- Several texts of one claim in one file, made short: S2 EXE S3 S4 LX01 LX02 LX03. -/
import Derived.Test.YtghmdfegfehhkaaGreatDoorZ6
import Derived.LoopN
import Derived.Lib.Bytealg
import Derived.Laws.IdiomStrings
import Derived.Laws.Runes
import Derived.Laws.Strings3
import Derived.Laws.DeepStrings4
set_option maxRecDepth 100000
set_option maxHeartbeats 64000000
set_option linter.unusedVariables false
set_option linter.unusedSimpArgs false
namespace Go.Proofs.YtghmdfegfehhkaaGreatDoor
open Go.RowKit
variable {ds:List Deferred}
section
variable {w0 w:World}{n:Nat}{ops:Array Oper}{rest:List Oper}{o:Oper}{Q:PoS}{F:Fm}{L L' L1 Lr:List Res}
def Ah2 (tmps:Array Value):ResultVar->Sem Value
 |.tmp t=>pure (tmps.getD t undef)
 |.cell a t=>do loadVar t (<- asAddr (tmps.getD a undef))
theorem Ary {tmps:Array Value}(ht:∀ t,tmps.getD t undef=F t)(hw:SL w0 w L){r:ResultVar}{v:Value}(h:RV L F r v) :
  (Ah2 tmps r).run Tryz.prog w=.ok v w:=by
 unfold Ah2
 cases h with
 |tmp h=>
  rw [He] at h
  injection h with h
  simp only [ht,h,Sem.run_pure]
 |@agg a t g cs t' h hm h1=>
  have h2:=Fg (P:=Tryz.prog) (w:=w) Aa h1
  have h3:=B8 (P:=Tryz.prog) cs 0 #[] (Cr (hw.blk hm) cs 0 0 (by simp))
  simp only [ht,h]
  simp [asAddr,loadVar,h2,loadCells,h3]
 |@one a t g v t' h hm h1=>
  have h5:=C2 (P:=Tryz.prog) (w:=w) Aa h1 (a:=⟨g,0,none⟩) (v:=v) (Au (hw.blk hm) rfl)
  simp only [ht,h]
  simp [asAddr,h5]
inductive RVs (L:List Res)(F:Fm):List ResultVar->List Value->Prop
 |nil:RVs L F [] []
 |cons {r:ResultVar} {v:Value} {rs:List ResultVar} {vs:List Value}:RV L F r v->RVs L F rs vs->RVs L F (r::rs) (v::vs)
theorem Ajk {tmps:Array Value}(ht:∀ t,tmps.getD t undef=F t)(hw:SL w0 w L):∀ {rs:List ResultVar} {vs:List Value},RVs L F rs vs ->
  (rs.mapM (Ah2 tmps)).run Tryz.prog w=.ok vs w:=by
 intro rs vs h
 induction h with
 |nil=>simp
 |@cons r v rs vs h k ih=>
  have hd:=Ary ht hw h
  rw [List.mapM_cons]
  rw [Sem.run_bind]
  simp only [hd,Sem.run_bind,Sem.run_pure,Result.andThen_ok,ih]
theorem fS {X:Type}{val:X->Value}{Lx:X->List Res}{R:X->Prop}{fn:Func}(x:X)(h:R x){rs:List ResultVar}{vs:List Value}(hrs:fn.results=rs.toArray)
  (hr:RVs L F rs vs) (hv:val x=Bjz vs) (hL:Sub (Lx x) L):FinS w0 fn val Lx R F L:=.mk fun w hw=>by
 unfold Om Mz
 intro tmps ht
 refine ⟨val x,?_,x,rfl,hw.sub hL,h⟩
 have h1:=Ajk ht hw hr
 have h3:results fn tmps=(fn.results.mapM (Ah2 tmps)) >>= fun vs:Array Value=>pure (if h:vs.size=1 then vs[0] else .tuple vs):=by
  unfold results
  rfl
 rw [h3,Array.mapM_eq_mapM_toList,hrs]
 have h2:∀ (m:Sem (List Value)),m.run Tryz.prog w=.ok vs w->((List.toArray <$> m) >>= fun vs:Array Value=>pure (if h:vs.size=1 then vs[0] else .tuple vs):Sem Value).run Tryz.prog w=.ok (val x) w:=by
  intro m hm
  simp only [map_eq_pure_bind,Sem.run_bind,hm,Result.andThen_ok,Sem.run_pure]
  congr 1
  rw [hv]
  cases vs with
  |nil=>rfl
  |cons v l=>cases l<;>rfl
 exact h2 _ h1
theorem f0 {X:Type}{val:X->Value}{Lx:X->List Res}{R:X->Prop}{fn:Func}(x:X)(h:R x)(hr:fn.results=#[]:=by exact rfl)
  (hv:val x=.tuple #[]:=by exact rfl) (hL:Sub (Lx x) L:=by repeat' (first|exact Sub.refl|exact Sub.nil|(apply Sub.cons;· repeat' (first|exact Rem.here|apply Rem.there))|apply Sub.skip)):FinS w0 fn val Lx R F L:=fS x h hr (.nil) hv hL
theorem f1 {X:Type}{val:X->Value}{Lx:X->List Res}{R:X->Prop}{fn:Func}(x:X)(h:R x){r1:ResultVar}{v1:Value}(hr:fn.results=#[r1]:=by exact rfl)(h1:RV L F r1 v1:=by first|exact RV.tmp rfl|exact RV.agg rfl (by repeat' (first|exact Has.here|refine Has.there ?_)) (by exact rfl)|exact RV.one rfl (by repeat' (first|exact Has.here|refine Has.there ?_)) (by exact rfl))
  (hv:val x=v1:=by exact rfl) (hL:Sub (Lx x) L:=by repeat' (first|exact Sub.refl|exact Sub.nil|(apply Sub.cons;· repeat' (first|exact Rem.here|apply Rem.there))|apply Sub.skip)):FinS w0 fn val Lx R F L:=fS x h hr (.cons h1 (.nil)) hv hL
theorem f2 {X:Type}{val:X->Value}{Lx:X->List Res}{R:X->Prop}{fn:Func}(x:X)(h:R x){r1 r2:ResultVar}{v1 v2:Value}(hr:fn.results=#[r1,r2]:=by exact rfl)(h1:RV L F r1 v1:=by first|exact RV.tmp rfl|exact RV.agg rfl (by repeat' (first|exact Has.here|refine Has.there ?_)) (by exact rfl)|exact RV.one rfl (by repeat' (first|exact Has.here|refine Has.there ?_)) (by exact rfl))(h2:RV L F r2 v2:=by first|exact RV.tmp rfl|exact RV.agg rfl (by repeat' (first|exact Has.here|refine Has.there ?_)) (by exact rfl)|exact RV.one rfl (by repeat' (first|exact Has.here|refine Has.there ?_)) (by exact rfl))
  (hv:val x=.tuple #[v1,v2]:=by exact rfl) (hL:Sub (Lx x) L:=by repeat' (first|exact Sub.refl|exact Sub.nil|(apply Sub.cons;· repeat' (first|exact Rem.here|apply Rem.there))|apply Sub.skip)):FinS w0 fn val Lx R F L:=fS x h hr (.cons h1 (.cons h2 (.nil))) hv hL
theorem f3 {X:Type}{val:X->Value}{Lx:X->List Res}{R:X->Prop}{fn:Func}(x:X)(h:R x){r1 r2 r3:ResultVar}{v1 v2 v3:Value}(hr:fn.results=#[r1,r2,r3]:=by exact rfl)(h1:RV L F r1 v1:=by first|exact RV.tmp rfl|exact RV.agg rfl (by repeat' (first|exact Has.here|refine Has.there ?_)) (by exact rfl)|exact RV.one rfl (by repeat' (first|exact Has.here|refine Has.there ?_)) (by exact rfl))(h2:RV L F r2 v2:=by first|exact RV.tmp rfl|exact RV.agg rfl (by repeat' (first|exact Has.here|refine Has.there ?_)) (by exact rfl)|exact RV.one rfl (by repeat' (first|exact Has.here|refine Has.there ?_)) (by exact rfl))(h3:RV L F r3 v3:=by first|exact RV.tmp rfl|exact RV.agg rfl (by repeat' (first|exact Has.here|refine Has.there ?_)) (by exact rfl)|exact RV.one rfl (by repeat' (first|exact Has.here|refine Has.there ?_)) (by exact rfl))
  (hv:val x=.tuple #[v1,v2,v3]:=by exact rfl) (hL:Sub (Lx x) L:=by repeat' (first|exact Sub.refl|exact Sub.nil|(apply Sub.cons;· repeat' (first|exact Rem.here|apply Rem.there))|apply Sub.skip)):FinS w0 fn val Lx R F L:=fS x h hr (.cons h1 (.cons h2 (.cons h3 (.nil)))) hv hL
theorem f4 {X:Type}{val:X->Value}{Lx:X->List Res}{R:X->Prop}{fn:Func}(x:X)(h:R x){r1 r2 r3 r4:ResultVar}{v1 v2 v3 v4:Value}(hr:fn.results=#[r1,r2,r3,r4]:=by exact rfl)(h1:RV L F r1 v1:=by first|exact RV.tmp rfl|exact RV.agg rfl (by repeat' (first|exact Has.here|refine Has.there ?_)) (by exact rfl)|exact RV.one rfl (by repeat' (first|exact Has.here|refine Has.there ?_)) (by exact rfl))(h2:RV L F r2 v2:=by first|exact RV.tmp rfl|exact RV.agg rfl (by repeat' (first|exact Has.here|refine Has.there ?_)) (by exact rfl)|exact RV.one rfl (by repeat' (first|exact Has.here|refine Has.there ?_)) (by exact rfl))(h3:RV L F r3 v3:=by first|exact RV.tmp rfl|exact RV.agg rfl (by repeat' (first|exact Has.here|refine Has.there ?_)) (by exact rfl)|exact RV.one rfl (by repeat' (first|exact Has.here|refine Has.there ?_)) (by exact rfl))(h4:RV L F r4 v4:=by first|exact RV.tmp rfl|exact RV.agg rfl (by repeat' (first|exact Has.here|refine Has.there ?_)) (by exact rfl)|exact RV.one rfl (by repeat' (first|exact Has.here|refine Has.there ?_)) (by exact rfl))
  (hv:val x=.tuple #[v1,v2,v3,v4]:=by exact rfl) (hL:Sub (Lx x) L:=by repeat' (first|exact Sub.refl|exact Sub.nil|(apply Sub.cons;· repeat' (first|exact Rem.here|apply Rem.there))|apply Sub.skip)):FinS w0 fn val Lx R F L:=fS x h hr (.cons h1 (.cons h2 (.cons h3 (.cons h4 (.nil))))) hv hL
theorem Wv {X:Type}(S:X->List (Nat×Value))(Lx:X->List Res)(R:X->Prop)(m:X->Nat)(x0:X){body:Code}(hR:R x0)
  (round:∀ x G,R x->Hj w0 n body ⟨fun F' L'=>∃ x',holds F' (S x')/\Sub (Lx x') L'/\R x'/\m x'<m x,Q.r,Q.x⟩ (Ng G (S x)) (Lx x))
  (hS:holds F (S x0):=by repeat' (first|exact trivial|refine ⟨rfl,?_⟩))
  (hL:Sub (Lx x0) L:=by repeat' (first|exact Sub.refl|exact Sub.nil|(apply Sub.cons;· repeat' (first|exact Rem.here|apply Rem.there))|apply Sub.skip)):cS w0 n (.loop body) Q F L:=.mk fun w hw=>
 Xd S (fun x w=>R x/\SL w0 w (Lx x)) m x0 hS ⟨hR,hw.sub hL⟩ fun x G w ⟨h1,h2⟩=>
  F9 ((Kn (round x G h1)).go w h2) (fun F' w' ⟨L',h3,x',h4,h5,h6,h7⟩=>⟨x',h4,⟨h6,h3.sub h5⟩,h7⟩) (fun _ _ h=>h) (fun _ _ _ h=>h)
theorem rS {X:Type}{S:X->List (Nat×Value)}{Lx:X->List Res}{R:X->Prop}{m:X->Nat}{x:X}(x':X)(h:R x')(hm:m x'<m x)
  (hS:holds F (S x'):=by repeat' (first|exact trivial|refine ⟨rfl,?_⟩))
  (hL:Sub (Lx x') L:=by repeat' (first|exact Sub.refl|exact Sub.nil|(apply Sub.cons;· repeat' (first|exact Rem.here|apply Rem.there))|apply Sub.skip)):∃ x',holds F (S x')/\Sub (Lx x') L/\R x'/\m x'<m x:=⟨x',hS,hL,h,hm⟩
theorem Ys {X:Type}(S:X->List (Nat×Value))(Lx:X->List Res)(R:X->Prop){c:Code}(h:Hj w0 n c ⟨fun F' L'=>∃ x',holds F' (S x')/\Sub (Lx x') L'/\R x',Q.r,Q.x⟩ F L)(k:∀ x G,R x->Q.n (Ng G (S x)) (Lx x)):cS w0 n c Q F L:=.mk fun w hw=>
 F9 ((Kn h).go w hw) (fun F' w' ⟨L',h3,x',h4,h5,h6⟩=>⟨Lx x',h3.sub h5,by have:=k x' F' h6;rwa [Ct h4] at this⟩) (fun _ _ h=>h) (fun _ _ _ h=>h)
def wcR (n:Nat)(body:Code)(Q:Post):Nat->Fm->World->Prop
 |0,_,_=>False
 |k+1,F,w=>wc Tryz.prog n body (Q.seq (wcR n body Q k)) F w
theorem Ac3 {body:Code}{Q:Post}{k:Nat}{F:Fm}{w:World}(h:wcR n body Q k F w):wc Tryz.prog n (.loop body) Q F w:=by
 unfold wc
 intro ds a ha
 refine wp_loop_rounds k ?_
 induction k generalizing F w a with
 |zero=>exact h.elim
 |succ k ih=>
  unfold wcR wc at h
  exact wp_mono (h ds a ha) (by
   intro e a w h
   cases e<;>simp only [Iz,Post.seq] at h<;>simp only [Exit.then]
   ·obtain ⟨F,h1,h2⟩:=h;exact ih h2 a h1
   ·exact h
   ·exact h)
def uS (w0:World)(n:Nat)(body:Code)(Q:PoS)(k:Nat)(F:Fm)(L:List Res):Prop:=∀ w,SL w0 w L->wcR n body (Q.to w0) k F w
theorem Bo (k:Nat){body:Code}(h:uS w0 n body Q k F L):cS w0 n (.loop body) Q F L:=.mk fun w hw=>Ac3 (h w hw)
theorem Cl {k:Nat}{body:Code}(h:Hj w0 n body ⟨fun F L=>uS w0 n body Q k F L,Q.r,Q.x⟩ F L):uS w0 n body Q (k+1) F L:=fun w hw=>
 F9 ((Kn h).go w hw) (fun F' w' ⟨L',h3,h4⟩=>h4 w' h3) (fun _ _ h=>h) (fun _ _ _ h=>h)
theorem Av7 {X Y:Type}(id:Nat)(S:X->List (Nat×Value))(Lx:X->List Res)(R:X->Prop)(m:X->Nat)(Se:Y->List (Nat×Value))(Le:Y->List Res)(Re:Y->Prop)(x0:X){body:Code}(hR:R x0)
  (round:∀ x G,R x->Hj w0 n body ⟨fun F' L'=>∃ x',holds F' (S x')/\Sub (Lx x') L'/\R x'/\m x'<m x,fun _ _=>False,fun i F' L'=>i=id/\∃ y,holds F' (Se y)/\Sub (Le y) L'/\Re y⟩ (Ng G (S x)) (Lx x))
  (after:∀ y G,Re y->Q.x id (Ng G (Se y)) (Le y))
  (hS:holds F (S x0):=by repeat' (first|exact trivial|refine ⟨rfl,?_⟩))
  (hL:Sub (Lx x0) L:=by repeat' (first|exact Sub.refl|exact Sub.nil|(apply Sub.cons;· repeat' (first|exact Rem.here|apply Rem.there))|apply Sub.skip)):cS w0 n (.loop body) Q F L:=.mk fun w hw=>
 F9 ((Wv (Q:=⟨Q.n,fun _ _=>False,fun i F' L'=>i=id/\∃ y,holds F' (Se y)/\Sub (Le y) L'/\Re y⟩) S Lx R m x0 hR round hS hL).go w hw) (fun _ _ h=>h) (fun _ _ ⟨_,_,h⟩=>h.elim) fun i F' w' ⟨L',h1,h2,y,h3,h4,h5⟩=>by
  subst h2
  refine ⟨Le y,h1.sub h4,?_⟩
  have:=after y F' h5
  rwa [Ct h3] at this
theorem xS {Y:Type}{Se:Y->List (Nat×Value)}{Le:Y->List Res}{Re:Y->Prop}{i:Nat}(y:Y)(h:Re y)
  (hS:holds F (Se y):=by repeat' (first|exact trivial|refine ⟨rfl,?_⟩))
  (hL:Sub (Le y) L:=by repeat' (first|exact Sub.refl|exact Sub.nil|(apply Sub.cons;· repeat' (first|exact Rem.here|apply Rem.there))|apply Sub.skip)):i=i/\∃ y,holds F (Se y)/\Sub (Le y) L/\Re y:=⟨rfl,y,hS,hL,h⟩
variable {dst:Option Nat}{ty:TypeId}{pos:String}{after:Array Edge}{guard:Option (Nat×Bool)}{K:Value->List Res->Prop}{Kq:Value->Prop}
theorem cC {X:Type}{val:X->Value}{Lx:X->List Res}{R:X->Prop}{f:FuncId}{c:Call}{x:Operand}{args:List Value}{Lc:List Res}(hf:FnOk Tryz.prog f)(hc:CS w0 f args Lc val Lx R)(k:∀ x,R x->K (val x) (Lx x))
  (hcal:c.callee=.value x:=by exact rfl) (hx:ev F x=.func (.func f) #[] #[]:=by exact rfl) (hargs:c.args.toList.map (ev F)=args:=by exact rfl)
  (hL:Sub Lc L:=by repeat' (first|exact Sub.refl|exact Sub.nil|(apply Sub.cons;· repeat' (first|exact Rem.here|apply Rem.there))|apply Sub.skip)):EvS w0 L F ⟨dst,.call c,ty,pos,after,guard⟩ K:=⟨fun w hw=>.inr (.inl ⟨f,args.toArray,by
  have:c.args.map (ev F)=args.toArray:=Array.toList_inj.1 (by rw [Array.toList_map,hargs])
  simp [execOp,resolve,hcal,hx,Deferred.ofValue,this,invoke,C4 hf],(hc.go w (hw.sub hL)).mono fun e w' ⟨x,h1,h2,h3⟩=>⟨val x,Lx x,h1,h2,k x h3⟩⟩)⟩
theorem cCF {X:Type}{val:X->Value}{Lx:X->List Res}{R:X->Prop}{f:FuncId}{c:Call}{x:Operand}{first args caps:List Value}{Lc:List Res}(hf:FnOk Tryz.prog f)(hc:CS w0 f (first++args++caps) Lc val Lx R)(k:∀ x,R x->K (val x) (Lx x))
  (hcal:c.callee=.value x:=by exact rfl) (hx:ev F x=.func (.func f) first.toArray caps.toArray:=by exact rfl) (hargs:c.args.toList.map (ev F)=args:=by exact rfl)
  (hL:Sub Lc L:=by repeat' (first|exact Sub.refl|exact Sub.nil|(apply Sub.cons;· repeat' (first|exact Rem.here|apply Rem.there))|apply Sub.skip)):EvS w0 L F ⟨dst,.call c,ty,pos,after,guard⟩ K:=⟨fun w hw=>.inr (.inl ⟨f,(first++args++caps).toArray,by
  have:c.args.map (ev F)=args.toArray:=Array.toList_inj.1 (by rw [Array.toList_map,hargs])
  have e:(first++args++caps).toArray=first.toArray++args.toArray++caps.toArray:=by simp
  rw [e]
  simp [execOp,resolve,hcal,hx,Deferred.ofValue,this,invoke,C4 hf],(hc.go w (hw.sub hL)).mono fun e w' ⟨x,h1,h2,h3⟩=>⟨val x,Lx x,h1,h2,k x h3⟩⟩)⟩
theorem cQ {f:FuncId}{c:Call}{x:Operand}{args:List Value}{v:Value}(hf:FnOk Tryz.prog f)(hc:∀ w,SL w0 w L->Calls Tryz.prog f args.toArray w fun e w'=>e=.returned v/\Below w.heap.size w w')(k:Kq v)
  (hcal:c.callee=.value x:=by exact rfl) (hx:ev F x=.func (.func f) #[] #[]:=by exact rfl) (hargs:c.args.toList.map (ev F)=args:=by exact rfl):QuS w0 L F ⟨dst,.call c,ty,pos,after,guard⟩ Kq:=⟨v,fun w hw=>.inr ⟨f,args.toArray,by
  have:c.args.map (ev F)=args.toArray:=Array.toList_inj.1 (by rw [Array.toList_map,hargs])
  simp [execOp,resolve,hcal,hx,Deferred.ofValue,this,invoke,C4 hf],hc w hw⟩,k⟩
theorem cB {f:FuncId}{c:Call}{x:Operand}{args:List Value}{v:Value}(hf:FnOk Tryz.prog f)(hc:∀ w,SL w0 w L->Calls Tryz.prog f args.toArray w fun e w'=>e=.returned v/\Below w.heap.size w w')(k:K v L)
  (hcal:c.callee=.value x:=by exact rfl) (hx:ev F x=.func (.func f) #[] #[]:=by exact rfl) (hargs:c.args.toList.map (ev F)=args:=by exact rfl):EvS w0 L F ⟨dst,.call c,ty,pos,after,guard⟩ K:=QuS.toEv (cQ hf hc k hcal hx hargs)
theorem Je {w:World}{g:Nat}{cs:List Value}{t:TypeId}{fr:Nat×Nat}(hb:w.heap[g]?=some (.cells cs.toArray t fr))(off:Nat):∀ (vs:List Value) (i:Nat),(∀ j v,vs[j]?=some v->cs[off+i+j]?=some v)->Cw w ⟨g,off,none⟩ i vs
 |[],_,_=>trivial
 |v::vs,i,h=>⟨by
   rw [show (⟨g,off,none⟩:Addr).add i=⟨g,off+i,none⟩ by unfold Addr.add;split<;>simp_all]
   exact Au hb (by simpa using h 0 v rfl),Je hb off vs (i+1) fun j u hu=>by have:=h (j+1) u (by simpa using hu);rwa [show off+i+(j+1)=off+(i+1)+j by omega] at this⟩
theorem rB {t t':TypeId}{x:Operand}{g off:Nat}{cs:List Value}{v:Value}(k:Kq v)(hx:ev F x=.pointer (some ⟨g,off,none⟩):=by exact rfl)(h1:Lg tab t=true:=by exact rfl)
  (hm:Has L (Bk g cs t'):=by repeat' (first|exact Has.here|refine Has.there ?_)) (hv:cs[off]?=some v:=by exact rfl):QuS w0 L F ⟨dst,.load t x,ty,pos,after,guard⟩ Kq:=
 .val (fun w hw=>by simp [execOp,hx,Instr.loadAt,Instr.sureAddr,C2 Aa h1 (Au (hw.blk hm) (by simpa using hv))]) k
def szT (t:TypeId):Option Nat:=match tab t with
 |some i=>(match i.desc with|.struct _|.array _ _=>some i.size|_=>none)
 |none=>none
theorem Zu {t:TypeId}{m:Nat}(h:szT t=some m):Mr tab t m=true:=by
 unfold szT at h
 unfold Mr
 split at h
 ·rename_i i hi
  rw [hi]
  split at h
  ·simp at h;simp [*]
  ·simp at h;simp [*]
  ·cases h
 ·cases h
def Aj7 (cs:List Value)(off m:Nat):Option (List Value):=bif Nat.ble (off+m) cs.length then Pm ((cs.drop off).take m) else none
theorem Wg {cs vs:List Value}{off m:Nat}(h:Aj7 cs off m=some vs):vs.length=m/\∀ j v,vs[j]?=some v->cs[off+j]?=some v:=by
 unfold Aj7 at h
 cases hb:Nat.ble (off+m) cs.length with
 |false=>rw [hb] at h;cases h
 |true=>
  rw [hb] at h
  have hl:=Nat.le_of_ble_eq_true hb
  simp only [cond_true,Gc,Option.some.injEq] at h
  subst h
  refine ⟨by simp;omega,fun j v hv=>?_⟩
  rw [List.getElem?_take] at hv
  split at hv
  ·rwa [List.getElem?_drop] at hv
  ·cases hv
theorem rA {t t':TypeId}{x:Operand}{g off m:Nat}{cs vs:List Value}(k:Kq (.agg vs.toArray))(hx:ev F x=.pointer (some ⟨g,off,none⟩):=by exact rfl)(h1:szT t=some m:=by exact rfl)
  (hm:Has L (Bk g cs t'):=by repeat' (first|exact Has.here|refine Has.there ?_)) (hv:Aj7 cs off m=some vs:=by exact rfl):QuS w0 L F ⟨dst,.load t x,ty,pos,after,guard⟩ Kq:=by
 obtain ⟨rfl,hv2⟩:=Wg hv
 refine .val (fun w hw=>?_) k
 have h2:=Fg (P:=Tryz.prog) (w:=w) Aa (Zu h1)
 have h3:=B8 (P:=Tryz.prog) vs 0 #[] (Je (hw.blk hm) off vs 0 (by simpa using hv2))
 simp [execOp,hx,Instr.loadAt,Instr.sureAddr,loadVar,h2,loadCells,h3]
def Ir (t:TypeId):Option Nat:=match tab t with
 |some ⟨.slice e,_,_,_⟩=>(match tab e with|some i=>some i.size|none=>none)
 |_=>none
theorem Lj {t:TypeId}{s:Nat}(h:Ir t=some s):∃ e,Cq tab t e s=true:=by
 unfold Ir at h
 split at h
 ·rename_i e _ _ _ h1
  split at h
  ·rename_i i h2
   cases h
   exact ⟨e,by simp [Cq,h1,h2,Ei]⟩
  ·cases h
 ·cases h
theorem rX {t:TypeId}{x ix:Operand}{a:Addr}{len cap s i:Nat}{ki:IntKind}(k:Kq (.pointer (some (a.add (i*s)))))(hi:ev F ix=.int ki i:=by exact rfl)(hx:ev F x=.slice (some a) len cap:=by exact rfl)(h1:Ir t=some s:=by exact rfl)(hl:i<len:=by omega):QuS w0 L F ⟨dst,.indexAddr t x ix,ty,pos,after,guard⟩ Kq:=by
 obtain ⟨e,he⟩:=Lj h1
 exact .val (fun w hw=>Rx Aa e s rfl hx hi he hl) k
theorem Ds {t:TypeId}{x ix:Operand}{g off len cap s i:Nat}{ki:IntKind}(k:Kq (.pointer (some ⟨g,off+i*s,none⟩)))(hi:ev F ix=.int ki i:=by exact rfl)(hx:ev F x=.slice (some ⟨g,off,none⟩) len cap:=by exact rfl)(h1:Ir t=some s:=by exact rfl)(hl:i<len:=by omega):QuS w0 L F ⟨dst,.indexAddr t x ix,ty,pos,after,guard⟩ Kq:=by
 refine rX (a:=⟨g,off,none⟩) ?_ hi hx h1 hl
 rw [show (⟨g,off,none⟩:Addr).add (i*s)=⟨g,off+i*s,none⟩ by unfold Addr.add;split<;>simp_all]
 exact k
def Rb (v:Value):Option (List Value):=match v with
 |.agg cs=>Pm cs.toList
 |.tuple _=>none
 |v=>match Ul v with|some v=>some [v]|none=>none
theorem P8 {v:Value}{vs:List Value}(h:Rb v=some vs):v.cells=vs.toArray:=by
 unfold Rb at h
 split at h
 ·rename_i cs
  rw [Gc] at h
  cases h
  simp [Value.cells]
 ·cases h
 ·rename_i hna hnt
  rw [He] at h
  cases h
  cases v<;>first|rfl|exact (hna _ rfl).elim
def Ud (vs:List Value):Bool:=match vs with
 |[]=>true
 |v::vs=>v.oneCell'&&Ud vs
theorem L3:∀ {vs:List Value},Ud vs=true->∀ v∈vs,v.oneCell'=true
 |[],_,v,h=>by cases h
 |u::vs,h,v,hv=>by
  simp only [Ud,Bool.and_eq_true] at h
  rcases List.mem_cons.1 hv with rfl|hv
  ·exact h.1
  ·exact L3 h.2 v hv
def Ab2 (cs:List Value)(off:Nat)(vs:List Value):Option (List Value):=bif Nat.ble (off+vs.length) cs.length then Pm (cs.take off++vs++cs.drop (off+vs.length)) else none
theorem Cy {t t':TypeId}{x y:Operand}{g off:Nat}{cs cs' vs:List Value}(k:K undef (Bk g cs' t'::L1))(hx:ev F x=.pointer (some ⟨g,off,none⟩):=by exact rfl)(hy:Rb (ev F y)=some vs:=by exact rfl)(h1:P4 tab t vs.length=true:=by exact rfl)(ho:Ud vs=true:=by exact rfl)
  (hm:Rem L (Bk g cs t') L1:=by repeat' (first|exact Rem.here|apply Rem.there)) (hv:Ab2 cs off vs=some cs':=by exact rfl):EvS w0 L F ⟨none,.store t x y,ty,pos,after,guard⟩ K:=⟨fun w hw=>.inr (.inr (by
 unfold Ab2 at hv
 cases hb:Nat.ble (off+vs.length) cs.length with
 |false=>rw [hb] at hv;cases hv
 |true=>
  rw [hb] at hv
  have hl:=Nat.le_of_ble_eq_true hb
  simp only [cond_true,Gc,Option.some.injEq] at hv
  subst hv
  have hbk:=(hw.pull hm).blk .here
  have hst:=run_storeCells_at Tryz.prog g off t' vs 0 cs.toArray w hbk (by simpa using hl) (L3 ho)
  have hp:Put w (w.setRow g (cs.take off++vs++cs.drop (off+vs.length)).toArray) g (cs.take off++vs++cs.drop (off+vs.length)) t':=Ic hbk
  refine ⟨_,_,rfl,?_,(hw.pull hm).put hp,k⟩
  have h2:=Jr (P:=Tryz.prog) (w:=w) Aa h1
  have h3:=P8 hy
  have h4:(cs.take off++vs++cs.drop (off+vs.length)).toArray=(cs.take off).toArray++vs.toArray++(cs.drop (off+vs.length)).toArray:=by simp
  simp [execOp,hx,Instr.storeAt,Instr.sureAddr,storeVar,h2,h3,hst]))⟩
theorem Oo {f:FuncId}{args:List Value}{v:Value}(h:∀ w0,CS w0 f args [] (fun _:Unit=>v) (fun _=>[]) (fun _=>True))(w:World):Calls Tryz.prog f args.toArray w fun e w'=>e=.returned v/\Below w.heap.size w w':=
 ((h w).go w (SL.start w)).mono fun e w' ⟨_,h1,h2,_⟩=>⟨h1,h2.bel⟩
end
attribute [irreducible] uS
section
variable {P:Program}{ops:Array Oper}{md:Region.Mode}{C:World->Prop}
theorem Jj {listed:Array Bool}{j:Nat}(h:j∈Region.ready md ops listed):j<ops.size:=by
 obtain ⟨_,oj,hoj,_⟩:=mem_ready.1 h
 exact (Array.getElem?_eq_some_iff.1 hoj).1
theorem Vb {i:Nat}{oi:Oper}{v:Value}{L:Array Bool->(World->Prop)->Act->Prop}(hi:ops[i]?=some oi)(hsel:∀ (j:Nat) (o:Oper) cs b,ops[j]?=some o->o.op≠.select cs b)
  (hdone:∀ listed Φ a,L listed Φ a->Region.ready md ops listed=[]) :
  ∀ (f:Nat) (listed:Array Bool) (Φ:World->Prop) (a:Act),HeadInv md ops ops.size listed ->
   (∀ j oj,ops[j]?=some oj->j≠i->listed.getD j true=false->(∀ e∈oj.after,Region.binds md e=true->e.on≠i)->oi.apart ops oj=true) ->
   i∈Region.ready md ops listed->YieldsB P ops C oi v a ->
   wpX P md ops C ops.size L f (listed.setIfInBounds i true) Φ (a.put oi.dst v)->wpX P md ops C ops.size L (f+1) listed Φ a:=by
 intro f
 induction f with
 |zero=>
  intro listed Φ a inv _ hr hy H
  refine ⟨fun h=>(by rw [h] at hr;cases hr),fun j hj=>⟨Jj hj,?_⟩⟩
  by_cases hji:j=i
  ·subst hji;exact hy.xOp hi H
  ·have:=hdone _ _ _ H
   have h2:=ready_mono hj hji
   rw [this] at h2
   cases h2
 |succ f ih=>
  intro listed Φ a inv hfree hr hy H
  have hun:=(mem_ready.1 hr).1
  refine ⟨fun h=>(by rw [h] at hr;cases hr),fun j hj=>⟨Jj hj,?_⟩⟩
  have hjn:=Jj hj
  by_cases hji:j=i
  ·subst hji;exact hy.xOp hi H
  ·have h1:=(H.2 j (ready_mono hj hji)).2
   obtain ⟨hjun,oj,hoj,hall⟩:=mem_ready.1 hj
   have hnot:∀ e∈oj.after,Region.binds md e=true->e.on≠i:=fun e he hb heq=>by
    have h1:=hall e he hb
    rw [heq,getD_both hun] at h1
    cases h1
   have h2:=Wz hoj (hfree j oj hoj hji hjun hnot) (fun cs b=>hsel i oi cs b hi) (fun cs b=>hsel j oj cs b hoj) hy h1
   have hfree':∀ k ok,ops[k]?=some ok->k≠i->(listed.setIfInBounds j true).getD k true=false ->
     (∀ e∈ok.after,Region.binds md e=true->e.on≠i)->oi.apart ops ok=true:=fun k ok hk hki hun hno=>by
    refine hfree k ok hk hki ?_ hno
    by_cases hjk:j=k
    ·subst hjk;exact hjun
    ·rw [getD_set_ne true hjk] at hun;exact hun
   refine Tn (fun Φ' a' h3=>ih (listed.setIfInBounds j true) Φ' a' (inv.set hj hjn) hfree' (ready_mono hr (Ne.symm hji)) h3.1 ?_) h2
   rw [Array.setIfInBounds_comm _ _ hji]
   exact h3.2
def exE (md:Region.Mode)(ops:Array Oper):Nat->Array Bool->Bool
 |0,listed=>(Region.ready md ops listed).isEmpty
 |f+1,listed=>!(Region.ready md ops listed).isEmpty&&(Region.ready md ops listed).all fun i=>((ops[i]?).map fun o=>o.guard.isNone).getD false&&exE md ops f (listed.setIfInBounds i true)
theorem Ot {T:Act->World->Prop}:∀ (f:Nat) (listed:Array Bool) (Φ:World->Prop) (a:Act),exE md ops f listed=true->(∀ W,C W->Φ W->Yz P md ops C T f listed a W) ->
  wpX P md ops C ops.size (fun listed' Φ' a'=>Region.ready md ops listed'=[]/\∀ W,C W->Φ' W->T a' W) f listed Φ a
 |0,listed,Φ,a,hB,h=>⟨by simpa [exE] using hB,h⟩
 |f+1,listed,Φ,a,hB,h=>by
  simp only [exE,Bool.and_eq_true,Bool.not_eq_true',List.isEmpty_eq_false_iff,List.all_eq_true] at hB
  refine ⟨hB.1,fun i hi=>⟨Jj hi,?_⟩⟩
  obtain ⟨h2,h3⟩:=hB.2 i hi
  cases ho:ops[i]? with
  |none=>rw [ho] at h2;simp at h2
  |some o=>
   rw [ho] at h2
   have hg:o.guard=none:=by simpa using h2
   unfold Proofs.YtghmdfegfehhkaaGreatDoor.xOp
   simp only [ho]
   rw [if_pos (by simp [Region.wanted,hg])]
   refine .inr ⟨fun v W=>∃ w2,Below w2.heap.size w2 W/\∀ W',Below w2.heap.size w2 W'->C W'->Yz P md ops C T f (listed.setIfInBounds i true) (a.put o.dst v) W',fun v w w' ⟨w2,h1,h2⟩ hb=>⟨w2,Ax h1 hb,h2⟩,fun w hw hΦ=>?_,fun v=>Ot f _ _ _ h3 fun W hW ⟨w2,h1,h2⟩=>h2 W h1 hW⟩
   exact (h w hw hΦ i hi o ho).mono fun v w2 ⟨h4,h5⟩=>⟨h4,w2,Below.refl _ _,h5⟩
def Wx (md:Region.Mode)(ops:Array Oper)(f:Nat):List Nat->Array Bool->Bool
 |[],listed=>exE md ops f listed
 |k::qs,listed=>(Region.ready md ops listed).contains k&&Region.free md ops listed k&&Wx md ops f qs (listed.setIfInBounds k true)
theorem Qs {f:Nat}{T:Act->World->Prop}(hsel:Region.noSelect ops=true) :
  ∀ (qs:List Nat) (listed:Array Bool) (Φ:World->Prop) (a:Act),HeadInv md ops ops.size listed->Wx md ops f qs listed=true ->
  Fl P ops C (fun a'=>∀ W,C W->Φ W->Yz P md ops C T f (Gr qs listed) a' W) (Gq ops qs) a ->
  wpX P md ops C ops.size (fun listed' Φ' a'=>Region.ready md ops listed'=[]/\∀ W,C W->Φ' W->T a' W) (qs.length+f) listed Φ a
 |[],listed,Φ,a,inv,hB,h=>by
  rw [List.length_nil,Nat.zero_add]
  exact Ot f listed Φ a hB h
 |k::qs,listed,Φ,a,inv,hB,h=>by
  simp only [Wx,Bool.and_eq_true] at hB
  obtain ⟨⟨hr,hf⟩,hB'⟩:=hB
  have hr':k∈Region.ready md ops listed:=by simpa using hr
  have hkn:=Jj hr'
  obtain ⟨o,h0⟩:∃ o,ops[k]?=some o:=⟨ops[k],by simp⟩
  have e1:Gq ops (k::qs)=o::Gq ops qs:=by simp [Gq,h0]
  rw [e1] at h
  have key:∃ v,YieldsB P ops C o v a/\Fl P ops C (fun a'=>∀ W,C W->Φ W->Yz P md ops C T f (Gr (k::qs) listed) a' W) (Gq ops qs) (a.put o.dst v):=by
   unfold Fl at h
   by_cases hw:Region.wanted o (yielded ops a.tmps)=true
   ·rw [if_pos hw] at h
    obtain ⟨v,h1,h2⟩:=h
    exact ⟨v,.inl ⟨hw,h1⟩,h2⟩
   ·rw [if_neg hw] at h
    exact ⟨undef,.inr ⟨by simpa using hw,rfl⟩,h⟩
  obtain ⟨v,hy,hK⟩:=key
  have e:(k::qs).length+f=qs.length+f+1:=by simp;omega
  rw [e]
  exact Vb h0 (Region.noSelect_spec hsel) (fun listed' Φ' a' hL=>hL.1) (qs.length+f) listed Φ a inv (Region.free_spec h0 hf) hr' hy
   (Qs hsel qs _ Φ _ (inv.set hr' hkn) hB' hK)
def N4 (ops:Array Oper)(qs:List Nat)(f:Nat):Bool:=Region.noSelect ops&&decide (qs.length+f=ops.size)&&Wx .any ops f qs (Array.replicate ops.size false)
theorem Nf {id:Nat}{Q:Exit->Act->World->Prop}{a:Act}{w:World}{l:List Oper}(qs:List Nat)(f:Nat)(hC:Bu C)(hm:P.follows .mixedOrders=true)(hB:N4 l.toArray qs f=true)(hCw:C w)
  (h:Fl P l.toArray C (fun a'=>∀ W,C W->Below w.heap.size w W->Yz P .any l.toArray C (Q .normal) f (Gr qs (Array.replicate l.toArray.size false)) a' W) (Gq l.toArray qs) a):(Code.region id l.toArray true).wp P Q a w:=by
 simp only [N4,Bool.and_eq_true,decide_eq_true_eq] at hB
 obtain ⟨⟨hsel,hqf⟩,hperm⟩:=hB
 have inv0:HeadInv .any l.toArray l.toArray.size (Array.replicate l.toArray.size false):=
  ⟨by simp,fun j oj _ hl=>(by rw [getD_replicate_false] at hl;cases hl),fun t _ ht=>getD_in (by simpa using ht) (getD_replicate_false _ _)⟩
 have H:=Qs (P:=P) (C:=C) (md:=.any) (f:=f) (T:=Q .normal) hsel qs _ (fun W=>Below w.heap.size w W) a inv0 hperm h
 refine wp_region_any hm ?_
 have hst:Bu (fun W=>Below w.heap.size w W):=fun _ _ h h'=>Ax h h'
 have hΦ:Below w.heap.size w { w with drawn:=w.drawn+1 }:=⟨rfl,rfl,rfl,Nat.le_refl _,fun _ _=>rfl⟩
 have hw':C { w with drawn:=w.drawn+1 }:=hC _ _ hCw ⟨rfl,rfl,rfl,Nat.le_refl _,fun _ _=>rfl⟩
 have:=Km hC (Q':=Q) (g:=0) (L:=fun listed' Φ' a'=>Region.ready .any l.toArray listed'=[]/\∀ W,C W->Φ' W->Q .normal a' W) (fun listed Φ a' W hW hΦ hL=>⟨hL.1,hL.2 W hW hΦ⟩) _ _ (fun W=>Below w.heap.size w W) a _ hst hw' hΦ H
 rwa [Nat.add_zero,hqf] at this
end
variable {ds:List Deferred}
section
variable {w0 w:World}{n:Nat}{ops:Array Oper}{rest:List Oper}{o:Oper}{Q:PoS}{F:Fm}{L L' L1 Lr:List Res}{K:Fm->Prop}
theorem Mi:Bu (fun w=>SL w0 w L):=fun _ _ h h'=>h.up h'
theorem An7 (hg:o.guard=none)(hd:Nx n o.dst=true)(h:QuS w0 L F o (fun v=>wq Tryz.prog n ops (fun w=>SL w0 w L) rest K (Pq F o.dst v))):wq Tryz.prog n ops (fun w=>SL w0 w L) (o::rest) K F:=by
 obtain ⟨v,h1,h2⟩:=h.go
 refine ⟨fun ds a ha=>?_⟩
 unfold Fl
 rw [if_pos (by simp [Region.wanted,hg])]
 refine ⟨v,fun w' hw'=>?_,h2.go _ _ (ha.put hd v)⟩
 unfold Oper.quietAt
 rw [ha.eval]
 rcases h1 w' hw' with h3|⟨f,args,h3,h4⟩
 ·rw [h3]
  exact ⟨rfl,rfl⟩
 ·rw [h3]
  exact ⟨rfl,h4.mono fun _ _ h=>h⟩
theorem Gg:∀ {rest:List Oper} {F:Fm},M7 w0 n ops L rest K F->wq Tryz.prog n ops (fun w=>SL w0 w L) rest K F
 |[],F,h=>Ad0 h
 |o::rest,F,h=>by
  rw [Uk] at h
  unfold Aak at h
  split at h
  ·rename_i hg
   split at h
   ·exact h
   ·rename_i d hd
    cases hb:Nat.blt d n
    ·rw [hb] at h;exact h
    ·rw [hb] at h
     simp only [cond_true] at h
     obtain ⟨v,h1,h2⟩:=(Sh h).go
     exact An7 hg (B9 hd hb) ⟨v,h1,by rw [hd];exact Gg h2⟩
  ·rename_i j b hg
   split at h
   ·exact h
   ·rename_i oj hj
    split at h
    ·rename_i t d ht hd
     have ex:∀ {F':Fm},F'=F->Nat.blt d n=true->Qk w0 o F' L (fun v=>M7 w0 n ops L rest K (Bd F' d v))->wq Tryz.prog n ops (fun w=>SL w0 w L) (Pk o::rest) K F:=by
      intro F' e hb h2
      rw [<- e]
      obtain ⟨v,h1,h3⟩:=(Sh h2).go
      refine An7 (o:=Pk o) rfl (B9 hd hb) ⟨v,h1,?_⟩
      have e:(Pk o).dst=some d:=hd
      rw [e]
      exact Gg h3
     cases hbb:(Nat.blt t n&&Nat.blt d n) with
     |false=>rw [hbb] at h;exact h
     |true=>
      rw [hbb] at h
      simp only [Bool.and_eq_true] at hbb
      simp only [cond_true] at h
      split at h
      ·rename_i c hc
       have e:Bd F t (.bool c)=F:=Gz F t _ hc
       cases c with
       |true=>
        cases b with
        |true=>exact Ad7 hg hj ht hc hbb.1 (ex e hbb.2 h)
        |false=>exact Vg hg hj ht hc rfl hbb.1 hd hbb.2 (by have:=Gg h;rwa [e] at this)
       |false=>
        cases b with
        |false=>exact Ad7 hg hj ht hc hbb.1 (ex e hbb.2 h)
        |true=>exact Vg hg hj ht hc rfl hbb.1 hd hbb.2 (by have:=Gg h;rwa [e] at this)
      ·generalize hv:F t=v at h
       cases hu:runG.isUndef v
       ·rw [hu] at h;exact h
       ·rw [hu] at h
        have:v=undef:=by
         unfold runG.isUndef at hu
         split at hu
         ·rename_i vs;unfold undef;simp at hu;rw [hu]
         ·cases hu
        rw [this] at hv
        exact Amq hg hj ht hv hbb.1 hd hbb.2 (Gg h)
    ·exact h
theorem Ap7 {K:Fm->List Res->Prop}{K2:Fm->World->Prop}(hd:Nx n o.dst=true)(h:EvS w0 L F o (fun v L'=>K (Pq F o.dst v) L'))(hw:SL w0 w L)(k:∀ F' w' L',SL w0 w' L'->K F' L'->K2 F' w'):wb Tryz.prog n o F w K2:=by
 refine ⟨hd,?_⟩
 rcases h.go w hw with ⟨v,w1,L',h1,h2,h3⟩|⟨f,args,h1,h2⟩|⟨w1,L',h0,h1,h2,h3⟩
 ·exact .inl ⟨v,w1,h1,k _ _ _ h2 h3⟩
 ·exact .inr (.inl ⟨f,args,h1,h2.mono fun e w' ⟨v,L',h3,h4,h5⟩=>⟨v,h3,k _ _ _ h4 h5⟩⟩)
 ·exact .inr (.inr ⟨w1,h1,k _ _ _ h2 h3⟩)
theorem Ut {l:List Oper}{T':Fm->List Res->Prop}:∀ (f:Nat) (listed:List Bool) (F:Fm) (L:List Res) (w:World),SL w0 w L->exD w0 n l Lr T' f listed F L->Y5 Tryz.prog n l (fun w=>SL w0 w Lr) (fun F2 W=>∃ L2,SL w0 W L2/\T' F2 L2) f listed F w
 |0,listed,F,L,w,hw,h=>⟨L,hw,h⟩
 |f+1,listed,F,L,w,hw,h=>by
  rw [Acz] at h
  unfold Y5
  have key:∀ is:List Nat,Ts (Vf w0 n l Lr (exD w0 n l Lr T' f) listed F L) is->Ts (fun i=>opF Tryz.prog n l i F w fun F2 w2=>SL w0 w2 Lr/\∀ W',Below w2.heap.size w2 W'->SL w0 W' Lr->Y5 Tryz.prog n l (fun w=>SL w0 w Lr) (fun F2 W=>∃ L2,SL w0 W L2/\T' F2 L2) f (listed.set i true) F2 W') is:=by
   intro is
   induction is with
   |nil=>exact fun _=>trivial
   |cons i is ih=>
    rintro ⟨h1,h2⟩
    refine ⟨?_,ih h2⟩
    show opF _ _ _ _ _ _ _
    unfold opF
    unfold Vf at h1
    split
    ·rename_i o ho
     simp only [ho] at h1
     have fin:∀ F' w' L',SL w0 w' L'->SbK Lr L' (exD w0 n l Lr T' f (listed.set i true) F' L')->SL w0 w' Lr/\∀ W',Below w'.heap.size w' W'->SL w0 W' Lr->Y5 Tryz.prog n l (fun w=>SL w0 w Lr) (fun F2 W=>∃ L2,SL w0 W L2/\T' F2 L2) f (listed.set i true) F' W':=
      fun F' w' L' h3 h4=>⟨h3.sub h4.s,fun W' hW _=>Ut f _ _ _ _ (h3.up hW) h4.k⟩
     split at h1
     ·rename_i hd
      refine Ap7 (K:=fun F' L'=>SbK Lr L' (exD w0 n l Lr T' f (listed.set i true) F' L')) (by rw [hd];rfl) ?_ hw fin
      rw [hd]
      exact Kz h1
     ·rename_i d hd
      cases hb:Nat.blt d n
      ·rw [hb] at h1;exact h1.elim
      ·rw [hb] at h1
       refine Ap7 (K:=fun F' L'=>SbK Lr L' (exD w0 n l Lr T' f (listed.set i true) F' L')) (B9 hd hb) ?_ hw fin
       rw [hd]
       exact Kz h1
    ·trivial
  exact key _ h
theorem Eg {id:Nat}{l:List Oper}(qs:List Nat)(f m:Nat)(Lr:List Res)(hB:Ii l.toArray qs f m=true)
  (h:M7 w0 n l.toArray Lr (Pc l qs) (fun F'=>exD w0 n l Lr (fun F2 L2=>R5 w0 n l.toArray (l.drop m) Q F2 L2) f (F8 qs (List.replicate l.length false)) F' L) F) (hs:Sub Lr L:=by repeat' (first|exact Sub.refl|exact Sub.nil|(apply Sub.cons;· repeat' (first|exact Rem.here|apply Rem.there))|apply Sub.skip)):cS w0 n (.region id l.toArray true) Q F L:=.mk fun w hw=>by
 unfold wc
 intro ds a ha
 have hq:=(Gg h).go ds a ha
 rw [<- L6] at hq
 refine Ha qs f m Mi mixed hB (hw.sub hs) (Da ?_ hq)
 rintro a' ⟨F',h2,h3⟩ w1 hw1 hb1
 have:=Og (T':=wpList Tryz.prog l.toArray (Iz ds n (Q.to w0)) (l.drop m)) (T:=fun F2 W=>∃ L2,SL w0 W L2/\R5 w0 n l.toArray (l.drop m) Q F2 L2) (fun a F W ha h=>?_) _ _ _ _ _ h2 (Ut f _ _ _ _ (hw.up hb1) h3)
 ·rw [<- Gy] at this
  have e:(List.replicate l.length false).toArray=Array.replicate l.toArray.size false:=by simp
  rwa [e] at this
 ·obtain ⟨L2,hW,h4⟩:=h
  have:=(I2 h4).go W hW
  unfold wl at this
  exact this _ _ ha
theorem Ac8 {id:Nat}{l:List Oper}(qs:List Nat)(f:Nat)(Lr:List Res)(hB:N4 l.toArray qs f=true)
  (h:M7 w0 n l.toArray Lr (Pc l qs) (fun F'=>exD w0 n l Lr (fun F2 L2=>Q.n F2 L2) f (F8 qs (List.replicate l.length false)) F' L) F) (hs:Sub Lr L:=by repeat' (first|exact Sub.refl|exact Sub.nil|(apply Sub.cons;· repeat' (first|exact Rem.here|apply Rem.there))|apply Sub.skip)):cS w0 n (.region id l.toArray true) Q F L:=.mk fun w hw=>by
 unfold wc
 intro ds a ha
 have hq:=(Gg h).go ds a ha
 rw [<- L6] at hq
 refine Nf qs f Mi mixed hB (hw.sub hs) (Da ?_ hq)
 rintro a' ⟨F',h2,h3⟩ w1 hw1 hb1
 have:=Og (T':=Iz ds n (Q.to w0) .normal) (T:=fun F2 W=>∃ L2,SL w0 W L2/\Q.n F2 L2) (fun a F W ha h=>?_) _ _ _ _ _ h2 (Ut f _ _ _ _ (hw.up hb1) h3)
 ·rw [<- Gy] at this
  have e:(List.replicate l.length false).toArray=Array.replicate l.toArray.size false:=by simp
  rwa [e] at this
 ·exact ⟨F,ha,h⟩
theorem Bj3 {id:Nat}{l:List Oper}(m:Nat)(hB:Ii l.toArray (List.range m) 0 m=true)(h:M7 w0 n l.toArray L (Pc l (List.range m)) (fun F'=>R5 w0 n l.toArray (l.drop m) Q F' L) F):cS w0 n (.region id l.toArray true) Q F L:=
 Eg (List.range m) 0 m L hB h .refl
def Bfz (op:Op):Bool:=
 match op with
 |.store ..|.alloc ..|.box ..|.makeSlice ..|.mapUpdate ..|.buildSlice ..|.makeMap ..=>false
 |.call c=>(match c.callee with|.builtin .append|.builtin .copy|.builtin .delete=>false|_=>true)
 |_=>true
def Ao0:List Oper->Bool
 |[]=>true
 |o::l=>Bfz o.op&&Ao0 l
theorem Iw {id:Nat}{l:List Oper}(hc:Ao0 l=true)(hB:Region.lexB .any l.toArray=true)(h:M7 w0 n l.toArray L l (fun F'=>Q.n F' L) F):cS w0 n (.region id l.toArray true) Q F L:=.mk fun w hw=>by
 unfold wc
 intro ds a ha
 refine wp_region_quiet (C:=fun w=>SL w0 w L) mixed hB (hw.up ⟨rfl,rfl,rfl,Nat.le_refl _,fun _ _=>rfl⟩) ?_
 refine Il Mi (Da ?_ (by simpa using (Gg h).go ds a ha))
 rintro a' ⟨F',h2,h3⟩ w' hw'
 exact ⟨F',h2,L,hw',h3⟩
theorem Ay4 {p:Prop}{ip:Decidable p}{A B:Prop}(h:¬ p)(h1:A):gs (!decide p) A B:=by rw [decide_eq_false h];exact h1
theorem Avk {p:Prop}{ip:Decidable p}{A B:Prop}(h:p)(h1:B):gs (!decide p) A B:=by rw [decide_eq_true h];exact h1
theorem SL.split {r s u:Res}(h:SL w0 w (u::L))(h1:r.P w)(h2:s.P w)(hr:∀ b,r.fp b->u.fp b)(hs:∀ b,s.fp b->u.fp b)(hd:Apart r s):SL w0 w (r::s::L):=by
 have hd':=List.pairwise_cons.1 h.dis
 refine ⟨h.bel,fun t ht=>?_,fun t ht b hb=>?_,List.pairwise_cons.2 ⟨fun t ht=>?_,List.pairwise_cons.2 ⟨fun t ht b hb=>hd'.1 t ht b (hs b hb),hd'.2⟩⟩⟩
 ·rcases List.mem_cons.1 ht with rfl|ht
  ·exact h1
  ·rcases List.mem_cons.1 ht with rfl|ht
   ·exact h2
   ·exact h.res t (by simp [ht])
 ·rcases List.mem_cons.1 ht with rfl|ht
  ·exact h.ge u (by simp) b (hr b hb)
  ·rcases List.mem_cons.1 ht with rfl|ht
   ·exact h.ge u (by simp) b (hs b hb)
   ·exact h.ge t (by simp [ht]) b hb
 ·rcases List.mem_cons.1 ht with rfl|ht
  ·exact hd
  ·exact fun b hb=>hd'.1 t ht b (hr b hb)
theorem SL.join {r s u:Res}(h:SL w0 w (r::s::L))(h1:u.P w)(hu:∀ b,u.fp b->r.fp b\/s.fp b):SL w0 w (u::L):=
 h.two rfl rfl rfl (Nat.le_refl _) (fun _ _ _ _=>rfl) h1 fun b hb=>(hu b hb).elim .inl fun h=>.inr (.inl h)
theorem SL.imp {r u:Res}(h:SL w0 w (r::L))(h1:u.P w)(hu:∀ b,u.fp b->r.fp b):SL w0 w (u::L):=
 h.chg rfl rfl rfl (Nat.le_refl _) (fun _ _ _=>rfl) h1 fun b hb=>.inl (hu b hb)
end
def Zt (p:List UInt8):List Value:=p.map fun b=>.int .u8 (b.toNat:Int)
theorem Es {p:List UInt8}{i:Nat}(h:i<p.length):(Zt p)[i]?=some (.int .u8 (p[i]!.toNat:Int)):=by
 simp [Zt,h,getElem!_pos p i h]
def TX (g:Nat)(p:List UInt8):Res where
 fp b:=b=g
 P w:=∃ fz,w.heap[g]?=some (.cells (Zt p).toArray 5 fz)
 st w w' h k:=let ⟨fz,h⟩:=h;⟨fz,(k g rfl).trans h⟩
 lt w h b e:=by
  subst e
  obtain ⟨fz,h⟩:=h
  exact Ae h
theorem TX_P {g:Nat}{p:List UInt8}{w:World}:(TX g p).P w↔∃ fz,w.heap[g]?=some (.cells (Zt p).toArray 5 fz):=Iff.rfl
theorem TX_fp {g b:Nat}{p:List UInt8}:(TX g p).fp b↔b=g:=Iff.rfl
attribute [irreducible] TX
def Cf (l:List UInt8):ByteArray:=⟨l.toArray⟩
section
variable {w0 w:World}{n:Nat}{F:Fm}{L L' L1:List Res}{dst:Option Nat}{ty:TypeId}{pos:String}{after:Array Edge}{guard:Option (Nat×Bool)}{K:Value->List Res->Prop}{Kq:Value->Prop}
theorem rXz {t:TypeId}{x ix:Operand}{g len cap i:Nat}{ki:IntKind}(k:Kq (.pointer (some ⟨g,i,none⟩)))(hi:ev F ix=.int ki i:=by exact rfl)(hx:ev F x=.slice (some ⟨g,0,none⟩) len cap:=by exact rfl)(h1:Ir t=some 1:=by exact rfl)(hl:i<len:=by omega):QuS w0 L F ⟨dst,.indexAddr t x ix,ty,pos,after,guard⟩ Kq:=by
 refine rX (a:=⟨g,0,none⟩) ?_ hi hx h1 hl
 rw [Nat.mul_one,add_zero]
 exact k
theorem Ai3 {t:TypeId}{x y z:Operand}{A:Option Addr}{l c s i j:Nat}{ki kj:IntKind}(h1:Ir t=some s)(hx:ev F x=.slice A l c)(hy:ev F y=.int ki i)(hz:ev F z=.int kj j)(hij:i<=j)(hj:j<=c) :
  (execOp (ev F) ⟨dst,.slice t x (some y) (some z) none,ty,pos,after,guard⟩).run Tryz.prog w=.ok (.value (.slice (K8 A i c s) (j - i) (c - i))) w:=by
 obtain ⟨e,he'⟩:=Lj h1
 obtain ⟨hu,hs⟩:=Du (w:=w) Aa he'
 have he:Tryz.prog.elem t=e:=by simp [Program.elem,hu]
 have hr:=run_slice_lh (P:=Tryz.prog) (w:=w) t A l c (Jw hu) ki kj (i:Int) (j:Int) (by omega) (by omega) (by omega)
 rw [he,hs] at hr
 simp only [Result.andThen,sliced] at hr
 have hr2:=run_sliceAt_slice (P:=Tryz.prog) (w:=w) t (.slice A l c) (some (.int ki (i:Int))) (some (.int kj (j:Int))) none (Jw hu)
 rw [hr] at hr2
 simp [execOp,hx,hy,hz,hr2,K8]
theorem rCL {t:TypeId}{x y:Operand}{g off l c i:Nat}{ki:IntKind}(k:Kq (.slice (some ⟨g,off+i,none⟩) (l - i) (c - i)))(hy:ev F y=.int ki i:=by exact rfl)(hx:ev F x=.slice (some ⟨g,off,none⟩) l c:=by exact rfl)(h1:Ir t=some 1:=by exact rfl)(hi:i<=l:=by omega)(hc:i<c:=by omega):QuS w0 L F ⟨dst,.slice t x (some y) none none,ty,pos,after,guard⟩ Kq:=by
 obtain ⟨e,he⟩:=Lj h1
 refine .val (fun w _=>Kb Aa e 1 rfl hx hy he (by omega) (by omega)) ?_
 simp only [Int.toNat_natCast,Hu hc,Nat.mul_one]
 exact k
theorem Bk0 {t:TypeId}{x y:Operand}{g l c i:Nat}{ki:IntKind}(k:Kq (.slice (some ⟨g,i,none⟩) (l - i) (c - i)))(hy:ev F y=.int ki i:=by exact rfl)(hx:ev F x=.slice (some ⟨g,0,none⟩) l c:=by exact rfl)(h1:Ir t=some 1:=by exact rfl)(hi:i<=l:=by omega)(hc:i<c:=by omega):QuS w0 L F ⟨dst,.slice t x (some y) none none,ty,pos,after,guard⟩ Kq:=by
 refine rCL ?_ hy hx h1 hi hc
 rw [Nat.zero_add]
 exact k
theorem rX0 {t:TypeId}{x ix:Operand}{g off len cap s:Nat}{ki:IntKind}(k:Kq (.pointer (some ⟨g,off,none⟩)))(hi:ev F ix=.int ki 0:=by exact rfl)(hx:ev F x=.slice (some ⟨g,off,none⟩) len cap:=by exact rfl)(h1:Ir t=some s:=by exact rfl)(hl:0<len:=by omega):QuS w0 L F ⟨dst,.indexAddr t x ix,ty,pos,after,guard⟩ Kq:=by
 refine rX (a:=⟨g,off,none⟩) (i:=0) ?_ hi hx h1 hl
 rw [Nat.zero_mul,Mq]
 exact k
theorem rCH {t:TypeId}{x y:Operand}{A:Option Addr}{l c i s:Nat}{ki:IntKind}(k:Kq (.slice A i c))(hy:ev F y=.int ki i:=by exact rfl)(hx:ev F x=.slice A l c:=by exact rfl)(h1:Ir t=some s:=by exact rfl)(hc:i<=c:=by omega):QuS w0 L F ⟨dst,.slice t x none (some y) none,ty,pos,after,guard⟩ Kq:=by
 obtain ⟨e,he⟩:=Lj h1
 exact .val (fun w _=>Pa Aa e s rfl hx hy he (by omega) (by omega)) (by simpa using k)
theorem Bl1 {t:TypeId}{x y z:Operand}{g off l c i j:Nat}{ki kj:IntKind}(k:Kq (.slice (some ⟨g,off+i,none⟩) (j - i) (c - i)))(hy:ev F y=.int ki i:=by exact rfl)(hz:ev F z=.int kj j:=by exact rfl)(hx:ev F x=.slice (some ⟨g,off,none⟩) l c:=by exact rfl)(h1:Ir t=some 1:=by exact rfl)(hij:i<=j:=by omega)(hj:j<=c:=by omega)(hc:i<c:=by omega):QuS w0 L F ⟨dst,.slice t x (some y) (some z) none,ty,pos,after,guard⟩ Kq:=by
 refine .val (fun w _=>Ai3 h1 hx hy hz hij hj) ?_
 simp only [Hu hc,Nat.mul_one]
 exact k
theorem Ti {t:TypeId}{x y z:Operand}{g l c i j:Nat}{ki kj:IntKind}(k:Kq (.slice (some ⟨g,i,none⟩) (j - i) (c - i)))(hy:ev F y=.int ki i:=by exact rfl)(hz:ev F z=.int kj j:=by exact rfl)(hx:ev F x=.slice (some ⟨g,0,none⟩) l c:=by exact rfl)(h1:Ir t=some 1:=by exact rfl)(hij:i<=j:=by omega)(hj:j<=c:=by omega)(hc:i<c:=by omega):QuS w0 L F ⟨dst,.slice t x (some y) (some z) none,ty,pos,after,guard⟩ Kq:=by
 refine Bl1 ?_ hy hz hx h1 hij hj hc
 rw [Nat.zero_add]
 exact k
theorem rT {t:TypeId}{x:Operand}{g off:Nat}{p:List UInt8}{v:Value}(k:Kq v)(hx:ev F x=.pointer (some ⟨g,off,none⟩):=by exact rfl)(h1:Lg tab t=true:=by exact rfl)
  (hm:Has L (TX g p):=by repeat' (first|exact Has.here|refine Has.there ?_)) (hv:(Zt p)[off]?=some v:=by exact rfl):QuS w0 L F ⟨dst,.load t x,ty,pos,after,guard⟩ Kq:=
 .val (fun w hw=>by
  obtain ⟨fz,hb⟩:=TX_P.1 (hw.res _ hm.mem)
  simp [execOp,hx,Instr.loadAt,Instr.sureAddr,C2 Aa h1 (Au hb (by simpa using hv))]) k
theorem Bd6 {s e:TypeId}{x:Operand}{g len cap:Nat}{cs:List Value}{K:Value->List Res->Prop}(p:List UInt8)(kk:K (.slice (some ⟨g,0,none⟩) len cap) (TX g p::L1))(hs:Tryz.prog.underlying s=some (.slice e))(he:Tryz.prog.underlying e=some (.int .u8))(hcs:cs=Zt p)(hx:ev F x=.slice (some ⟨g,0,none⟩) len cap:=by exact rfl)
  (hm:Rem L (Bk g cs 5) L1:=by repeat' (first|exact Rem.here|apply Rem.there)):EvS w0 L F ⟨dst,.convert s s x,ty,pos,after,guard⟩ K:=⟨fun w hw=>.inl (by
 subst hcs
 have h1:=hw.pull hm
 have hb:=h1.blk .here
 have hlt:g<w.heap.size:=Ae hb
 have hsh:w.shape? g=some (5,(Zt p).toArray.size):=by simp [World.shape?,hb]
 refine ⟨_,w.freeze ⟨g,(Zt p).toArray.size,none⟩ 1,TX g p::L1,?_,h1.chg rfl rfl rfl (by simp [World.freeze]) (fun k hk hn=>?_) ?_ (fun b hb=>.inl (Bk_fp.2 (TX_fp.1 hb))),kk⟩
 ·simp [execOp,hx,convert,run_underlying hs,run_underlying he,markStringish,hsh]
 ·have:g≠k:=fun e=>hn (Bk_fp.2 e.symm)
  simp [World.freeze,Array.getElem?_modify,this]
 ·refine TX_P.2 ⟨((Zt p).toArray.size,(Zt p).toArray.size+1),?_⟩
  simp [World.freeze,Array.getElem?_modify,hb])⟩
def Ur (s t:TypeId):Bool:=match tab s,tab t with
 |some ⟨.slice e,_,_,_⟩,some ⟨.string,_,_,_⟩=>(match tab e with|some ⟨.int .u8,_,_,_⟩=>true|_=>false)
 |_,_=>false
theorem X9 {s t:TypeId}(h:Ur s t=true):∃ e,Tryz.prog.underlying s=some (.slice e)/\Tryz.prog.underlying e=some (.int .u8)/\Tryz.prog.underlying t=some .string:=by
 unfold Ur at h
 split at h
 ·rename_i e _ _ _ _ _ _ h1 h2
  split at h
  ·rename_i h3
   exact ⟨e,Lt Aa h1,Lt Aa h3,Lt Aa h2⟩
  ·cases h
 ·cases h
theorem rCv {s t:TypeId}{x:Operand}{g off len cap:Nat}{p:List UInt8}(k:Kq (.string (Cf ((p.drop off).take len))))(hx:ev F x=.slice (some ⟨g,off,none⟩) len cap:=by exact rfl)(h1:Ur s t=true:=by exact rfl)
  (hm:Has L (TX g p):=by repeat' (first|exact Has.here|refine Has.there ?_)) (hl:off+len<=p.length:=by omega):QuS w0 L F ⟨dst,.convert s t x,ty,pos,after,guard⟩ Kq:=by
 obtain ⟨e,hs,he,hd⟩:=X9 h1
 refine .val (fun w hw=>?_) k
 have hlen:((p.drop off).take len).length=len:=by simp;omega
 have h2:=run_convert_bytes_back (P:=Tryz.prog) w s t e ⟨g,off,none⟩ cap ((p.drop off).take len) hs he hd (fun j hj=>by
  rw [hlen] at hj
  obtain ⟨fz,hb⟩:=TX_P.1 (hw.res _ hm.mem)
  have e1:(⟨g,off,none⟩:Addr).add j=⟨g,off+j,none⟩:=by unfold Addr.add;split<;>simp_all
  rw [e1]
  refine Au hb ?_
  have h3:off+j<p.length:=by omega
  simp [Zt,h3])
 rw [hlen] at h2
 simp [execOp,hx,h2,Cf]
def Amy (s t:TypeId):Bool:=match tab s,tab t with
 |some _,some ⟨.string,_,_,_⟩=>true
 |_,_=>false
theorem Ax1 {s t:TypeId}{x:Operand}{k':IntKind}{c:Int}(k:Kq (.string (Utf8.encode c)))(hx:ev F x=.int k' c:=by exact rfl)(h1:Amy s t=true:=by exact rfl):QuS w0 L F ⟨dst,.convert s t x,ty,pos,after,guard⟩ Kq:=by
 unfold Amy at h1
 split at h1
 ·rename_i i _ _ _ h2 h3
  have hu:=Lt Aa h2
  refine .val (fun w hw=>?_) k
  have:=run_convert_int_string (P:=Tryz.prog) w s t k' c (by rw [hu];rfl) (Lt Aa h3)
  simp [execOp,hx,this]
 ·cases h1
theorem Bhz {c:Call}{x y:Operand}{ki:IntKind}{a b:Int}(k:Kq (.int ki (if b<a then b else a)))(hcal:c.callee=.builtin .min:=by exact rfl)(hargs:c.args.toList=[x,y]:=by exact rfl)(hx:ev F x=.int ki a:=by exact rfl)(hy:ev F y=.int ki b:=by exact rfl):QuS w0 L F ⟨dst,.call c,ty,pos,after,guard⟩ Kq:=by
 obtain ⟨callee,⟨args⟩,tys⟩:=c
 simp only at hcal hargs
 subst hcal hargs
 refine .val (fun w hw=>?_) k
 simp [execOp,resolve,invoke,builtin,hx,hy,Builtin.min_,Builtin.min2]
structure ExtS (f:FuncId)(e:Array Value->Sem Value):Prop where
 ok:∃ fn,Tryz.prog.funcs[f]?=some fn/\(fn.name == "runtime.NumGoroutine")=false/\fn.body.isNone=true/\Extern.findNext fn=none/\Extern.find fn=some e
theorem rCE {f:FuncId}{e:Array Value->Sem Value}{c:Call}{x:Operand}{args:List Value}{v:Value}(hf:ExtS f e)(he:∀ w,(e args.toArray).run Tryz.prog w=.ok v w)(k:Kq v)(hcal:c.callee=.value x:=by exact rfl)(hx:ev F x=.func (.func f) #[] #[]:=by exact rfl)(hargs:c.args.toList.map (ev F)=args:=by exact rfl):QuS w0 L F ⟨dst,.call c,ty,pos,after,guard⟩ Kq:=by
 refine .val (fun w hw=>?_) k
 have:c.args.map (ev F)=args.toArray:=Array.toList_inj.1 (by rw [Array.toList_map,hargs])
 obtain ⟨fn,h1,h2,h3,h4,h5⟩:=hf.ok
 have h2':¬ fn.name= "runtime.NumGoroutine" := by simpa using h2
 have h3':fn.body=none:=by simpa using h3
 simp [execOp,resolve,hcal,hx,Deferred.ofValue,this,invoke,callFunc,h1,h2',h3',h4,h5,he]
def Zf (t:TypeId):Bool:=match tab t with
 |some ⟨.string,_,_,_⟩=>true
 |_=>false
theorem S7 {t:TypeId}(h:Zf t=true):Tryz.prog.underlying t=some .string:=by
 unfold Zf at h
 split at h
 ·rename_i h1
  exact Lt Aa h1
 ·cases h
theorem rSH {t:TypeId}{x y:Operand}{s:ByteArray}{j:Nat}{kj:IntKind}(k:Kq (.string (s.extract 0 j)))(hx:ev F x=.string s:=by exact rfl)(hy:ev F y=.int kj j:=by exact rfl)(h1:Zf t=true:=by exact rfl)(hj:j<=s.size:=by omega):QuS w0 L F ⟨dst,.slice t x none (some y) none,ty,pos,after,guard⟩ Kq:=by
 refine .val (fun w hw=>?_) k
 have h2:=run_slice_string_to_if (P:=Tryz.prog) w t s kj (j:Int) (S7 h1)
 rw [if_pos ⟨by omega,by omega⟩,Int.toNat_natCast] at h2
 have h3:=run_sliceAt_string (P:=Tryz.prog) (w:=w) t (.string s) none (some (.int kj (j:Int))) none (S7 h1)
 simp [execOp,hx,hy,h3,h2]
theorem Ba4 {c:Call}{x y:Operand}{ki:IntKind}{a b:Nat}(k:Kq (.int ki ((min a b:Nat):Int)))(hcal:c.callee=.builtin .min:=by exact rfl)(hargs:c.args.toList=[x,y]:=by exact rfl)(hx:ev F x=.int ki a:=by exact rfl)(hy:ev F y=.int ki b:=by exact rfl):QuS w0 L F ⟨dst,.call c,ty,pos,after,guard⟩ Kq:=by
 refine Bhz ?_ hcal hargs hx hy
 rw [show (if (b:Int)<(a:Int) then (b:Int) else (a:Int))=((min a b:Nat):Int) by split<;>omega]
 exact k
theorem rPn {t yt:TypeId}{x:Operand}{A:Option Addr}(k:Kq (.bool A.isNone))(hx:ev F x=.pointer A:=by exact rfl)(h1:Pp tab t=true:=by exact rfl):QuS w0 L F ⟨dst,.binOp .eql t x (.const (.pointer none)) yt,ty,pos,after,guard⟩ Kq:=
 .val (fun w _=>T4 Aa rfl hx h1) k
theorem rPq {t yt:TypeId}{x:Operand}{A:Option Addr}(k:Kq (.bool (!A.isNone)))(hx:ev F x=.pointer A:=by exact rfl)(h1:Pp tab t=true:=by exact rfl):QuS w0 L F ⟨dst,.binOp .neq t x (.const (.pointer none)) yt,ty,pos,after,guard⟩ Kq:=
 .val (fun w _=>Rc Aa rfl hx h1) k
end
theorem Av4:ExtS 256 Extern.BytealgIndexByte.indexByte:=⟨⟨_,Tryz.func256,by kernel_rfl,by kernel_rfl,by rfl,by rfl⟩⟩
def isL (c:Int):Bool:=decide (97<=c/\c<=122\/65<=c/\c<=90\/c=95)
def isD (c:Int):Bool:=decide (48<=c/\c<=57)
section
variable {w0:World}{L:List Res}
theorem Aez (c:Int):CS w0 239 [.int .u8 c] L (fun _:Unit=>.bool (isL c)) (fun _=>L) (fun _=>True):=by
 refine Ai (args:=[.int .u8 c]) Tryz.func239 rfl Tryz.ntmps239 rfl ?_;conv=>whnf
 (repeat' (first|(refine J5 (fun hg=>?_) (fun hg=>?_)<;>conv=>whnf)|(refine f1 () trivial (hv:=congrArg Value.bool ?_);unfold isL;first|exact decide_eq_true (by omega)|exact decide_eq_false (by omega)|exact decide_eq_decide.2 (by omega))|fail))
theorem Wl (c:Int):CS w0 240 [.int .u8 c] L (fun _:Unit=>.bool (isD c)) (fun _=>L) (fun _=>True):=by
 refine Ai (args:=[.int .u8 c]) Tryz.func240 rfl Tryz.ntmps240 rfl ?_;conv=>whnf
 (repeat' (first|(refine J5 (fun hg=>?_) (fun hg=>?_)<;>conv=>whnf)|(refine f1 () trivial (hv:=congrArg Value.bool ?_);unfold isD;first|exact decide_eq_true (by omega)|exact decide_eq_false (by omega)|exact decide_eq_decide.2 (by omega))|fail))
theorem Sr (s:ByteArray)(c:Int):CS w0 237 [.string s,.int .u8 c] L (fun _:Unit=>.int .i64 (Lib.indexByte s.data.toList c.toNat.toUInt8)) (fun _=>L) (fun _=>True):=by
 refine Ai (args:=[.string s,.int .u8 c]) Tryz.func237 rfl Tryz.ntmps237 rfl ?_;conv=>whnf
 refine (rCE Av4 (fun w=>Lib.run_indexByteString s c w) ?_).toEv
 conv=>whnf
 exact f1 () trivial
theorem Gs (s:ByteArray)(c:Int):CS w0 218 [.string s,.int .u8 c] L (fun _:Unit=>.int .i64 (Lib.indexByte s.data.toList c.toNat.toUInt8)) (fun _=>L) (fun _=>True):=by
 refine Ai (args:=[.string s,.int .u8 c]) Tryz.func218 rfl Tryz.ntmps218 rfl ?_;conv=>whnf
 refine cC Az1 (Sr s c) ?_
 rintro ⟨⟩ -
 conv=>whnf
 exact f1 () trivial
def hpB (s q:ByteArray):Bool:=decide (q.size<=s.size/\s.extract 0 q.size=q)
theorem S8 (s q:ByteArray):CS w0 254 [.string s,.string q] L (fun _:Unit=>.bool (hpB s q)) (fun _=>L) (fun _=>True):=by
 refine Ai (args:=[.string s,.string q]) Tryz.func254 rfl Tryz.ntmps254 rfl ?_;conv=>whnf
 by_cases h:q.size<=s.size
 ·(repeat' ((first|refine rSH ?_|(refine Ag (by first|assumption|omega) ?_)|fail)<;>conv=>whnf))
  refine f1 () trivial (hv:=congrArg Value.bool ?_)
  exact decide_eq_decide.2 (by simp [h])
 ·(repeat' ((first|(refine Ah (by first|assumption|omega) ?_)|fail)<;>conv=>whnf))
  refine f1 () trivial (hv:=congrArg Value.bool ?_)
  exact decide_eq_false (fun h1=>h h1.1)
theorem Rm (s q:ByteArray):CS w0 235 [.string s,.string q] L (fun _:Unit=>.bool (hpB s q)) (fun _=>L) (fun _=>True):=by
 refine Ai (args:=[.string s,.string q]) Tryz.func235 rfl Tryz.ntmps235 rfl ?_;conv=>whnf
 refine cC Bh8 (S8 s q) ?_
 rintro ⟨⟩ -
 conv=>whnf
 exact f1 () trivial
end
def Ej (c:UInt8):Prop:=c=32\/c=9\/c=13\/c=10
theorem ix_ge {l:List UInt8}{c:UInt8}:0<=Lib.indexByte l c↔c∈l:=by
 induction l with
 |nil=>simp [Lib.indexByte]
 |cons b l ih=>
  unfold Lib.indexByte
  by_cases hb:b=c
  ·simp [hb]
  ·have h1:=Lib.indexByte_ge l c
   have h2:(b==c)=false:=by simpa using hb
   have h3:¬ c=b:=fun e=>hb e.symm
   by_cases h4:Lib.indexByte l c=-1
   ·simp [h2,h4,h3]
    intro h5
    have:=ih.2 h5
    omega
   ·have:(Lib.indexByte l c==-1)=false:=by simpa using h4
    simp only [h2,this,Bool.false_eq_true,if_false,List.mem_cons,h3,false_or]
    rw [<- ih]
    omega
theorem Nl (c:UInt8):((c.toNat:Int)).toNat.toUInt8=c:=by simp
section
variable {w0:World}{L:List Res}{gX gp:Nat}{p:List UInt8}
abbrev LX (gX gp:Nat)(p:List UInt8)(a:Nat):Res:=Bk gX [.slice (some ⟨gp,0,none⟩) p.length p.length,.int .i64 (a:Int)] 301
theorem Ajz (a b:Nat)(hp:p.length<=4611686018427387904)(hab:a<=b)(hb:b<=p.length)(hbl:∀ i,a<=i->i<b->Ej p[i]!)(he:b<p.length->¬Ej p[b]! /\ p[b]! ≠ 47) :
  CS w0 217 [.pointer (some ⟨gX,0,none⟩)] (LX gX gp p a::TX gp p::L) (fun _:Unit=>.int .i64 (-1)) (fun _=>LX gX gp p b::TX gp p::L) (fun _=>True):=by
 refine Ai (args:=[.pointer (some ⟨gX,0,none⟩)]) Tryz.func217 rfl Tryz.ntmps217 rfl ?_;conv=>whnf
 refine Wv (X:=Nat) (fun _=>[(0,.pointer (some ⟨gX,0,none⟩))]) (fun i=>LX gX gp p i::TX gp p::L) (fun i=>a<=i/\i<=b) (fun i=>p.length - i) a ⟨Nat.le_refl _,hab⟩ ?_
 rintro i G ⟨hai,hib⟩
 conv=>whnf
 (repeat' ((first|refine rB ?_|refine Iw rfl (by kernel_rfl) ?_|fail)<;>conv=>whnf))
 by_cases hlt:i<p.length
 ·(repeat' ((first|refine rT (p:=p) (v:=.int .u8 (p[i]!.toNat:Int)) ?_ (hv:=Es hlt)|(refine cC Wo (Gs _ _) ?_;rintro ⟨⟩ -)|refine rB ?_|refine Ag (by first|assumption|omega) ?_|refine rX0 ?_|refine Bk0 ?_|refine Iw rfl (by kernel_rfl) ?_|fail)<;>conv=>whnf))
  by_cases hlt2:i<b
  ·have h1:0<=Lib.indexByte [32,9,13,10] (p[i]!.toNat:Int).toNat.toUInt8:=ix_ge.2 (by rw [Nl];simpa [Ej] using hbl i hai hlt2)
   (repeat' ((first|refine rB ?_|refine wI (by simp only [Cj];omega) ?_|refine Ag (by first|assumption|omega) ?_|refine Cy ?_|fail)<;>conv=>whnf))
   exact rS (i+1) ⟨by omega,by omega⟩ (by omega)
  ·obtain rfl:i=b:=by omega
   obtain ⟨h2,h3⟩:=he hlt
   have h1:¬ 0<=Lib.indexByte [32,9,13,10] (p[i]!.toNat:Int).toNat.toUInt8:=fun h=>h2 (by have:=ix_ge.1 h;rw [Nl] at this;simpa [Ej] using this)
   have hpx:∀ c,hpB (Cf ((p.drop i).take (min 2 (p.length - i)))) ⟨#[47,c]⟩=false:=fun c=>by
    refine decide_eq_false fun h=>h3 ?_
    have h4:=congrArg (fun s:ByteArray=>s.data.toList[0]?) h.2
    have h5:(List.take 2 (List.take (min 2 (p.length - i)) (p.drop i)))[0]?=some 47:=by
     have e:(ByteArray.mk #[47,c]).size=2:=rfl
     rw [e] at h4
     simpa [Cf] using h4
    rw [List.getElem?_take_of_lt (by omega),List.getElem?_take_of_lt (by omega),List.getElem?_drop,Nat.add_zero,List.getElem?_eq_getElem hlt] at h5
    rw [getElem!_pos p i hlt]
    exact Option.some.inj h5
   (repeat' ((first|refine rCv ?_ (p:=p)|(refine cC Ayy (Rm _ _) ?_;rintro ⟨⟩ -;(try simp only [hpx]))|refine Ah (by first|assumption|omega) ?_|refine rCH ?_|refine Ba4 ?_|fail)<;>conv=>whnf))
   exact f1 () trivial
 ·(repeat' ((first|(refine Ah (by first|assumption|omega) ?_)|fail)<;>conv=>whnf))
  obtain rfl:i=b:=by omega
  exact f1 () trivial
end
def cI (c:UInt8):Int:=(c.toNat:Int)
def Yu (c:UInt8):Prop:=isL (c.toNat:Int)=true\/isD (c.toNat:Int)=true\/c=46
section
variable {w0:World}{L:List Res}{gX gp:Nat}{p:List UInt8}
theorem Ar6 (a b:Nat)(hp:p.length<=4611686018427387904)(hab:a<b)(hb:b<=p.length)(h0:isL (p[a]!.toNat:Int)=true)(hbl:∀ i,a<i->i<b->Yu p[i]!)(he:b<p.length->¬Yu p[b]!) :
  CS w0 219 [.pointer (some ⟨gX,0,none⟩)] (LX gX gp p a::TX gp p::L) (fun _:Unit=>.tuple #[.string (Cf ((p.drop a).take (b - a))),.int .i64 0]) (fun _=>LX gX gp p b::TX gp p::L) (fun _=>True):=by
 have ha:a<p.length:=by omega
 have h34:¬ (p[a]!.toNat:Int)=34:=fun h=>by rw [h] at h0;exact absurd h0 (by decide)
 refine Ai (args:=[.pointer (some ⟨gX,0,none⟩)]) Tryz.func219 rfl Tryz.ntmps219 rfl ?_;conv=>whnf
 (repeat' ((first|refine rT (p:=p) (v:=.int .u8 (p[a]!.toNat:Int)) ?_ (hv:=Es ha)|refine rB ?_|refine Ag (by first|assumption|omega) ?_|refine Ah (by first|assumption|omega) ?_|refine rXz ?_|refine Iw rfl (by kernel_rfl) ?_|fail)<;>conv=>whnf))
 refine Wv (X:=Nat) (fun _=>[(0,.pointer (some ⟨gX,0,none⟩)),(4,.int .i64 (a:Int))]) (fun i=>LX gX gp p i::TX gp p::L) (fun i=>a<=i/\i<=b) (fun i=>p.length - i) a ⟨Nat.le_refl _,by omega⟩ ?_
 rintro i G ⟨hai,hib⟩
 conv=>whnf
 (repeat' ((first|refine rB ?_|refine Iw rfl (by kernel_rfl) ?_|fail)<;>conv=>whnf))
 by_cases hlt:i<p.length
 ·(repeat' ((first|refine rT (p:=p) (v:=.int .u8 (p[i]!.toNat:Int)) ?_ (hv:=Es hlt)|refine cQ Ax4 (fun w _=>Oo (fun w0=>Aez (L:=[]) _) w) ?_|refine rB ?_|refine Ag (by first|assumption|omega) ?_|refine rXz ?_|fail)<;>conv=>whnf))
  by_cases hlt2:i<b
  ·cases hl:isL (p[i]!.toNat:Int) with
   |true=>
    (repeat' ((first|refine rB ?_|refine wI (by simp only [Cj];omega) ?_|refine Cy ?_|fail)<;>conv=>whnf))
    exact rS (i+1) ⟨by omega,by omega⟩ (by omega)
   |false=>
    have hai2:a<i:=by
     rcases Nat.lt_or_ge a i with h|h
     ·exact h
     ·obtain rfl:a=i:=by omega
      rw [h0] at hl;cases hl
    have hnm:=(hbl i hai2 hlt2).resolve_left (by rw [hl];simp)
    (repeat' ((first|refine rT (p:=p) (v:=.int .u8 (p[i]!.toNat:Int)) ?_ (hv:=Es hlt)|refine cQ Ap2 (fun w _=>Oo (fun w0=>Wl (L:=[]) _) w) ?_|refine rB ?_|refine Ag (by first|assumption|omega) ?_|refine rXz ?_|fail)<;>conv=>whnf))
    cases hd:isD (p[i]!.toNat:Int) with
    |true=>
     (repeat' ((first|refine rB ?_|refine wI (by simp only [Cj];omega) ?_|refine Cy ?_|fail)<;>conv=>whnf))
     exact rS (i+1) ⟨by omega,by omega⟩ (by omega)
    |false=>
     have h46:(p[i]!.toNat:Int)=46:=by rw [hnm.resolve_left (by rw [hd];simp)];rfl
     (repeat' ((first|refine rT (p:=p) (v:=.int .u8 (p[i]!.toNat:Int)) ?_ (hv:=Es hlt)|refine rB ?_|refine wI (by simp only [Cj];omega) ?_|refine Ag (by first|assumption|omega) ?_|refine Cy ?_|refine rXz ?_|fail)<;>conv=>whnf))
     exact rS (i+1) ⟨by omega,by omega⟩ (by omega)
  ·obtain rfl:i=b:=by omega
   have hn:=he hlt
   have hl:isL (p[i]!.toNat:Int)=false:=by
    cases h:isL (p[i]!.toNat:Int) with
    |false=>rfl
    |true=>exact (hn (.inl h)).elim
   have hd:isD (p[i]!.toNat:Int)=false:=by
    cases h:isD (p[i]!.toNat:Int) with
    |false=>rfl
    |true=>exact (hn (.inr (.inl h))).elim
   have h46:¬ (p[i]!.toNat:Int)=46:=fun h=>hn (.inr (.inr (UInt8.toNat_inj.1 (by show p[i]!.toNat=46;omega))))
   rw [hl]
   (repeat' ((first|refine rT (p:=p) (v:=.int .u8 (p[i]!.toNat:Int)) ?_ (hv:=Es hlt)|(refine cQ Ap2 (fun w _=>Oo (fun w0=>Wl (L:=[]) _) w) ?_;(try rw [hd]))|refine Ti ?_|refine rCv ?_ (p:=p)|refine rB ?_|refine Ag (by first|assumption|omega) ?_|refine Ah (by first|assumption|omega) ?_|refine rXz ?_|refine Iw rfl (by kernel_rfl) ?_|fail)<;>conv=>whnf))
   exact f2 () trivial
 ·(repeat' ((first|refine Ti ?_|refine rCv ?_ (p:=p)|refine rB ?_|refine Ah (by first|assumption|omega) ?_|refine Iw rfl (by kernel_rfl) ?_|fail)<;>conv=>whnf))
  obtain rfl:i=b:=by omega
  exact f2 () trivial
end
end Go.Proofs.YtghmdfegfehhkaaGreatDoor
