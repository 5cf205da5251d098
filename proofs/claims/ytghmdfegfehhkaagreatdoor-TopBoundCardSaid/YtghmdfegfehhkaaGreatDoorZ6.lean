/- Several texts of one claim in one file, made short: EX4 EY S0 S1. -/
import Derived.Test.YtghmdfegfehhkaaGreatDoorZ5
import Derived.Test.YtghmdfegfehhkaaGreatDoorZ4
import Derived.Laws.CopyRow
import Derived.Laws.Concat
import Derived.Laws.Strings2
set_option maxRecDepth 100000
set_option maxHeartbeats 64000000
set_option linter.unusedVariables false
set_option linter.unusedSimpArgs false
namespace Go.Proofs.YtghmdfegfehhkaaGreatDoor
open Go.RowKit
variable {ds:List Deferred}
abbrev Kr (w:World)(rb:List Nat):World->Prop:=fun w'=>Kept rb w w'
theorem Fu (w:World)(rb:List Nat):Bu (Kr w rb):=fun _ _ h h'=>h.up h'
def Wc (l:List Oper)(S:List (List Bool)):List (List Bool):=(S.flatMap fun st=>(Lv l st).map fun i=>st.set i true).eraseDups
def exL (l:List Oper)(oth:List Nat)(full:List Bool):Nat->List (List Bool)->Bool
 |0,S=>S.all fun st=>st==full
 |f+1,S=>(S.all fun st=>!(Lv l st).isEmpty&&(Lv l st).all fun i=>oth.contains i)&&exL l oth full f (Wc l S)
theorem Sb {l:List Oper}{oth:List Nat}{full:List Bool}{f:Nat}{S:List (List Bool)}(h:exL l oth full (f+1) S=true){st:List Bool}(hs:st∈S):(Lv l st).isEmpty=false/\(∀ i∈Lv l st,i∈oth/\st.set i true∈Wc l S)/\exL l oth full f (Wc l S)=true:=by
 simp only [exL,Bool.and_eq_true,List.all_eq_true,Bool.not_eq_true'] at h
 obtain ⟨h1,h2⟩:=h
 refine ⟨(h1 st hs).1,fun i hi=>⟨by simpa using (h1 st hs).2 i hi,?_⟩,h2⟩
 unfold Wc
 rw [List.mem_eraseDups]
 exact List.mem_flatMap.2 ⟨st,hs,List.mem_map.2 ⟨i,hi,rfl⟩⟩
def Ai9 (l:List Oper)(n:Nat)(oth:List Nat):Bool:=oth.all fun i=>decide (i<n)&&((l[i]?).map fun o=>o.guard.isNone).getD false
theorem N0 {l:List Oper}{oth:List Nat}{full:List Bool}{g n:Nat}(ho:Ai9 l n oth=true)(hs:Region.seqB .any l.toArray g n full.toArray=true):∀ (f:Nat) (S:List (List Bool)) (listed:List Bool),exL l oth full f S=true->listed∈S->exB .any l.toArray g n f listed.toArray=true
 |0,S,listed,h,hm=>by
  have e:listed=full:=by
   simp only [exL,List.all_eq_true] at h
   simpa using h listed hm
  subst e
  exact hs
 |f+1,S,listed,h,hm=>by
  obtain ⟨h1,h2,h3⟩:=Sb h hm
  simp only [exB,Ry,Bool.and_eq_true,List.all_eq_true]
  refine ⟨by rw [h1];rfl,fun i hi=>?_⟩
  obtain ⟨h4,h5⟩:=h2 i hi
  have ho':=ho
  simp only [Ai9,List.all_eq_true,Bool.and_eq_true] at ho'
  obtain ⟨h6,h7⟩:=ho' i h4
  have e:(listed.set i true).toArray=listed.toArray.setIfInBounds i true:=by simp
  rw [<- e]
  exact ⟨⟨h6,by simpa using h7⟩,N0 ho hs f _ _ h3 h5⟩
def Pt (l:List Oper)(n f:Nat)(oth:List Nat)(full:List Bool):List Nat->List Bool->Bool
 |[],listed=>exL l oth full f [listed]
 |k::qs,listed=>decide (k<n)&&(Lv l listed).contains k&&Region.free .any l.toArray listed.toArray k&&Pt l n f oth full qs (listed.set k true)
theorem Ix {l:List Oper}{oth:List Nat}{full:List Bool}{g n f:Nat}(ho:Ai9 l n oth=true)(hs:Region.seqB .any l.toArray g n full.toArray=true):∀ (qs:List Nat) (listed:List Bool),Pt l n f oth full qs listed=true->Qa .any l.toArray g n f qs listed.toArray=true
 |[],listed,h=>N0 ho hs f [listed] listed h (by simp)
 |k::qs,listed,h=>by
  simp only [Pt,Bool.and_eq_true] at h
  simp only [Qa,Ry,Bool.and_eq_true]
  have e:(listed.set k true).toArray=listed.toArray.setIfInBounds k true:=by simp
  rw [<- e]
  exact ⟨⟨⟨h.1.1.1,h.1.1.2⟩,h.1.2⟩,Ix ho hs qs _ h.2⟩
theorem Pe {l:List Oper}{oth:List Nat}{full:List Bool}{n f:Nat}:∀ (qs:List Nat) (listed:List Bool),Pt l n f oth full qs listed=true->exL l oth full f [F8 qs listed]=true
 |[],listed,h=>h
 |k::qs,listed,h=>by
  simp only [Pt,Bool.and_eq_true] at h
  exact Pe qs _ h.2
def Qx (n m:Nat):List Bool:=List.replicate n true++List.replicate (m - n) false
def Rz (l:List Oper)(qs oth:List Nat)(n:Nat):Bool:=
 Region.noSelect l.toArray&&decide (n<l.toArray.size)&&decide (qs.length+oth.length=n)&&Region.sinkB .any l.toArray n&&Region.chainB .any l.toArray n&&Ai9 l n oth&&Region.seqB .any l.toArray (l.length - n) n (Qx n l.length).toArray&&Pt l n oth.length oth (Qx n l.length) qs (List.replicate l.length false)
theorem T0 {l:List Oper}{qs oth:List Nat}{n:Nat}(h:Rz l qs oth n=true):Ii l.toArray qs oth.length n=true:=by
 simp only [Rz,Bool.and_eq_true] at h
 obtain ⟨⟨⟨⟨⟨⟨⟨h1,h2⟩,h3⟩,h4⟩,h5⟩,h6⟩,h7⟩,h8⟩:=h
 simp only [Ii,Bool.and_eq_true]
 refine ⟨⟨⟨⟨⟨h1,h2⟩,h3⟩,h4⟩,h5⟩,?_⟩
 have:=Ix (g:=l.length - n) h6 h7 qs _ h8
 have e:(List.replicate l.length false).toArray=Array.replicate l.toArray.size false:=by simp
 have e2:l.toArray.size - n=l.length - n:=by simp
 rw [e2,<- e]
 exact this
def Qw (o:Oper)(listed:List Bool):Bool:=o.after.toList.all fun e=>!Region.binds .any e||listed.getD e.on false
section
variable {P:Program}{T:Nat->Option TI}{n:Nat}{Q:Post}{F:Fm}{w:World}{C:World->Prop}
theorem Yc {l:List Oper}{listed:List Bool}{i:Nat}(h:i∈Lv l listed):listed.getD i true=false/\∃ o,l[i]?=some o/\Qw o listed=true:=by
 simp only [Lv,List.mem_filter,Bool.and_eq_true,Bool.not_eq_true'] at h
 refine ⟨h.2.1,?_⟩
 have h2:=h.2.2
 cases ho:l[i]? with
 |none=>rw [ho] at h2;cases h2
 |some o=>rw [ho] at h2;exact ⟨o,rfl,h2⟩
theorem Wd {l:List Oper}{oth:List Nat}{full:List Bool}{T':Fm->World->Prop}(J:List Bool->Fm->World->Prop)
  (step:∀ listed F W i o,J listed F W->C W->i∈oth->listed.getD i true=false->l[i]?=some o->Qw o listed=true->wb P n o F W fun F2 w2=>C w2/\∀ W',Below w2.heap.size w2 W'->C W'->J (listed.set i true) F2 W')
  (fin:∀ F W,J full F W->C W->T' F W):∀ (f:Nat) (S:List (List Bool)) (listed:List Bool) (F:Fm) (W:World),exL l oth full f S=true->listed∈S->J listed F W->C W->Y5 P n l C T' f listed F W
 |0,S,listed,F,W,h,hm,hJ,hC=>by
  have e:listed=full:=by
   simp only [exL,List.all_eq_true] at h
   simpa using h listed hm
  subst e
  exact fin F W hJ hC
 |f+1,S,listed,F,W,h,hm,hJ,hC=>by
  obtain ⟨_,hn,hx⟩:=Sb h hm
  unfold Y5
  have key:∀ L:List Nat,(∀ i∈L,i∈Lv l listed)->Ts (fun i=>opF P n l i F W fun F2 w2=>C w2/\∀ W',Below w2.heap.size w2 W'->C W'->Y5 P n l C T' f (listed.set i true) F2 W') L:=by
   intro L
   induction L with
   |nil=>exact fun _=>trivial
   |cons i L ih=>
    intro hL
    refine ⟨?_,ih fun j hj=>hL j (by simp [hj])⟩
    have hi:=hL i (by simp)
    obtain ⟨h1,h2⟩:=hn i hi
    obtain ⟨h3,o,h4,h5⟩:=Yc hi
    show opF P n l i F W _
    unfold opF
    rw [h4]
    have hw:=step listed F W i o hJ hC h1 h3 h4 h5
    have mono:∀ F2 w2,(C w2/\∀ W',Below w2.heap.size w2 W'->C W'->J (listed.set i true) F2 W')->(C w2/\∀ W',Below w2.heap.size w2 W'->C W'->Y5 P n l C T' f (listed.set i true) F2 W'):=fun F2 w2 hh=>⟨hh.1,fun W' hW' hC'=>Wd J step fin f _ _ _ _ hx h2 (hh.2 W' hW' hC') hC'⟩
    refine ⟨hw.dst,?_⟩
    rcases hw.go with ⟨v,w',a,b⟩|⟨fn,args,a,b⟩|⟨w',a,b⟩
    ·exact .inl ⟨v,w',a,mono _ _ b⟩
    ·exact .inr (.inl ⟨fn,args,a,b.mono fun e w' ⟨v,e1,e2⟩=>⟨v,e1,mono _ _ e2⟩⟩)
    ·exact .inr (.inr ⟨w',a,mono _ _ b⟩)
  exact key _ fun i hi=>hi
theorem Awx {id:Nat}{l:List Oper}(qs oth:List Nat)(m:Nat)(hC:Bu C)(hT:TabOk P T)(hm:P.follows .mixedOrders=true)(hB:Rz l qs oth m=true)(hCw:C w)
  (h:J3 P T n l.toArray C (Pc l qs) (fun F'=>∀ w1,C w1->Below w.heap.size w w1->∃ J:List Bool->Fm->World->Prop,J (F8 qs (List.replicate l.length false)) F' w1 /\
   (∀ listed F W i o,J listed F W->C W->i∈oth->listed.getD i true=false->l[i]?=some o->Qw o listed=true->wb P n o F W fun F2 w2=>C w2/\∀ W',Below w2.heap.size w2 W'->C W'->J (listed.set i true) F2 W') /\
   ∀ F2 W,J (Qx m l.length) F2 W->C W->runG P T n l.toArray (l.drop m) Q F2 W) F):wc P n (.region id l.toArray true) Q F w:=by
 have hB':=hB
 simp only [Rz,Bool.and_eq_true] at hB'
 have hleaf:=Pe qs _ hB'.2
 have mono:∀ (ds:List Deferred) a,Fl P l.toArray C (fun a'=>∃ F',Fr ds a' n F'/\(∀ w1,C w1->Below w.heap.size w w1->∃ J:List Bool->Fm->World->Prop,J (F8 qs (List.replicate l.length false)) F' w1 /\
   (∀ listed F W i o,J listed F W->C W->i∈oth->listed.getD i true=false->l[i]?=some o->Qw o listed=true->wb P n o F W fun F2 w2=>C w2/\∀ W',Below w2.heap.size w2 W'->C W'->J (listed.set i true) F2 W') /\
   ∀ F2 W,J (Qx m l.length) F2 W->C W->runG P T n l.toArray (l.drop m) Q F2 W)) (Pc l qs) a->Fl P l.toArray C (fun a'=>∃ F',Fr ds a' n F'/\(∀ w1,C w1->Below w.heap.size w w1->Y5 P n l C (fun F2 W=>runG P T n l.toArray (l.drop m) Q F2 W) oth.length (F8 qs (List.replicate l.length false)) F' w1)) (Pc l qs) a:=fun ds a ha=>
  Da (fun a' ⟨F',h1,h2⟩=>⟨F',h1,fun w1 h3 h4=>let ⟨J,j1,j2,j3⟩:=h2 w1 h3 h4;Wd J j2 j3 _ _ _ _ _ hleaf (by simp) j1 h3⟩) ha
 unfold wc
 intro ds a ha
 have hq:=mono ds a ((Ad hT h).go ds a ha)
 rw [<- L6] at hq
 refine Ha qs oth.length m hC hm (T0 hB) hCw (Da ?_ hq)
 rintro a' ⟨F',h2,h3⟩ w1 hw1 hb1
 have:=Og (T':=wpList P l.toArray (Iz ds n Q) (l.drop m)) (T:=fun F2 W=>runG P T n l.toArray (l.drop m) Q F2 W) (fun a F W ha h=>?_) _ _ _ _ _ h2 (h3 w1 hw1 hb1)
 ·rw [<- Gy] at this
  have e:(List.replicate l.length false).toArray=Array.replicate l.toArray.size false:=by simp
  rwa [e] at this
 ·have:=Ab hT h
  unfold wl at this
  exact this _ _ ha
theorem Rx (hT:TabOk P T)(e s:Nat){o:Oper}{t:TypeId}{x ix:Operand}{a:Addr}{len cap:Nat}{ki:IntKind}{i:Nat}(hop:o.op=.indexAddr t x ix)(hx:ev F x=.slice (some a) len cap)(hi:ev F ix=.int ki i)(h1:Cq T t e s=true)(hl:i<len):(execOp (ev F) o).run P w=.ok (.value (.pointer (some (a.add (i*s))))) w:=by
 obtain ⟨hu,hs⟩:=Du (w:=w) hT h1
 have h0:(0:Int)<=(i:Int):=by omega
 have h2:(i:Int)<(len:Int):=by omega
 simp [execOp,hop,hx,hi,Instr.indexAt,asIntOf,B3 hu,hs,h2]
 intro hc
 omega
theorem Apk (hT:TabOk P T){o:Oper}{K:Fm->World->Prop}{t t':TypeId}{x y:Operand}{i:TI}{g off:Nat}{cs:List Value}{v:Value}(hb:w.heap[g]?=some (.cells cs.toArray t' (0,0)))(hop:o.op=.store t x y)(hx:ev F x=.pointer (some ⟨g,off,none⟩))(hy:ev F y=v)
  (hi:T t=some i) (h1:i.size=1) (hv:v.oneCell'=true) (hoff:off<cs.length) (hd:o.dst=none)
  (k:∀ w1,Put w w1 g (cs.set off v) t'->K F w1):wb P n o F w K:=by
 refine ⟨by rw [hd];rfl,.inr (.inr ⟨w.setCell ⟨g,off,none⟩ v,?_,by rw [hd];exact k _ (Ja hb v)⟩)⟩
 have hs:=Fa (w:=w) hT hi
 rw [h1] at hs
 have hc:w.cell? ⟨g,off,none⟩=some cs[off]:=Au hb (by simp [hoff])
 have hf:w.frozen? ⟨g,off,none⟩=false:=by simp [World.frozen?,hb]
 cases v<;>simp_all [Value.oneCell',execOp,Instr.storeAt,Instr.sureAddr,storeVar,Value.cells,storeCells,store,Sem.run,Addr.add]<;>rfl
theorem Wh (hT:TabOk P T){o:Oper}{K:Fm->World->Prop}{t t':TypeId}{x y:Operand}{i:TI}{g j:Nat}{cs:List Value}{v:Value}(hb:w.heap[g]?=some (.cells cs.toArray t' (0,0)))(hop:o.op=.store t x y)(hx:ev F x=.pointer (some ((⟨g,0,none⟩:Addr).add j)))(hy:ev F y=v)
  (hi:T t=some i) (h1:i.size=1) (hv:v.oneCell'=true) (hoff:j<cs.length) (hd:o.dst=none)
  (k:∀ w1,Put w w1 g (cs.set j v) t'->K F w1):wb P n o F w K:=
 Apk (off:=j) hT hb hop (by rw [hx,add_zero]) hy hi h1 hv hoff hd k
end
section
variable {P:Program}{T:Nat->Option TI}{n:Nat}{Q:Post}{F:Fm}{w:World}{ops:Array Oper}{rest:List Oper}{o:Oper}
theorem Ic {g:Nat}{cur cs:List Value}{t:TypeId}(hb:w.heap[g]?=some (.cells cur.toArray t (0,0))):Put w (w.setRow g cs.toArray) g cs t:=
 ⟨by simp [World.setRow],setRow_heap w g cur.toArray _ t _ hb,⟨rfl,rfl,rfl,by simp [World.setRow],fun k _ hk=>setRow_other w g k _ (fun e=>hk (by simp [e]))⟩⟩
theorem Aj2 (hT:TabOk P T)(e b:Nat){t t2 t':TypeId}{c:Call}{x y:Operand}{g dl dc sl sc:Nat}{a:Addr}{cur:List Value}(cs:List Value)(hb:w.heap[g]?=some (.cells cur.toArray t' (0,0)))(hop:o.op=.call c)(hcal:c.callee=.builtin .copy)(hargs:c.args.toList=[x,y])(htys:c.argTypes.toList=[t,t2])
  (hx:ev F x=.slice (some ⟨g,0,none⟩) dl dc) (hy:ev F y=.slice (some a) sl sc) (h1:I7 T t e 1 b=true) (hg:o.guard=none) {d:Nat} (hd:o.dst=some d) (hn:Nat.blt d n=true)
  (hl:cs.length=min sl dl) (hsrc:∀ j v,cs[j]?=some v->w.cell? (a.add j)=some v) (hfit:cs.length<=cur.length) (hone:∀ v∈cs,v.oneCell'=true)
  (k:∀ w1,Put w w1 g (cs++cur.drop cs.length) t'->wl P n ops rest Q (Bd F d (goInt cs.length)) w1):wl P n ops (o::rest) Q F w:=by
 obtain ⟨hu,j,z,hj,hz,hs,hby,hzs⟩:=Eh hT h1
 obtain ⟨callee,⟨args⟩,⟨tys⟩⟩:=c
 simp only at hcal hargs htys
 subst hcal hargs htys
 have hr:=run_copy_row (P:=P) w t t2 o.type e g 0 dl dc a sl sc cur.toArray t' cs hu (by rw [hj];simp [hs]) hb hl hsrc (by simpa using hfit) hone
 refine Bh hg hd hn ?_ (k _ (Ic (cs:=cs++cur.drop cs.length) hb))
 simp at hr
 simp [execOp,hop,resolve,invoke,builtin,hx,hy,hr]
end
structure GMat (base g:Nat)(w:World)(vs:List Value)(M:List (List Int))(bl:List Nat):Prop where
 blk:w.heap[g]?=some (.cells vs.toArray 27 (0,0))
 len:vs.length=M.length
 hg:base<=g
 gb:g∉bl
 lt:∀ b∈bl,base<=b/\b<w.heap.size
 row:∀ i,i<M.length->GInts base w vs[i]! M[i]! /\ ∀ b,vs[i]!.ownBlock=some b->b∈bl
 ne:∀ i j,i<M.length->j<M.length->i≠j->∀ b,vs[i]!.ownBlock=some b->vs[j]!.ownBlock≠some b
section
variable {base g:Nat}{w w1 w2:World}{vs:List Value}{M:List (List Int)}{bl:List Nat}
theorem GMat.stays (h:GMat base g w vs M bl){row:Option Nat}(hg:w.grownBy w1 row)(h1:∀ b,row=some b->b≠g/\b∉bl):GMat base g w1 vs M bl:=by
 refine ⟨(hg.block g (Ae h.blk) (fun e=>(h1 g e.symm).1 rfl)).trans h.blk,h.len,h.hg,h.gb,fun b hb=>⟨(h.lt b hb).1,Nat.lt_of_lt_of_le (h.lt b hb).2 hg.size⟩,fun i hi=>⟨(h.row i hi).1.stays row hg (by simp) ?_,(h.row i hi).2⟩,h.ne⟩
 cases ho:vs[i]!.ownBlock with
 |none=>exact .inl rfl
 |some b=>exact .inr fun e=>(h1 b e.symm).2 ((h.row i hi).2 b ho)
theorem GMat.below (h:GMat base g w vs M bl)(hb:Below w.heap.size w w1):GMat base g w1 vs M bl:=h.stays (Ar (row:=none) hb) nofun
theorem Ek {α:Type}[Inhabited α](xs:List α)(i j:Nat)(x:α)(hj:j<xs.length):(xs.set i x)[j]! = if i=j then x else xs[j]! := by
 rw [getElem!_pos _ j (by simpa using hj),List.getElem_set]
 split
 ·rfl
 ·rw [getElem!_pos xs j hj]
theorem GMat.app (h:GMat base g w vs M bl){i:Nat}(hi:i<M.length){v':Value}{x:Int}(hv:GInts base w1 v' (M[i]! ++ [x]))(hgr:w.grownBy w1 vs[i]!.ownBlock)
  (hob:v'.ownBlock=vs[i]!.ownBlock\/∃ b,v'.ownBlock=some b/\w.heap.size<=b) (hp:Put w1 w2 g (vs.set i v') 27):GMat base g w2 (vs.set i v') (M.set i (M[i]! ++ [x])) (bl++v'.ownBlock.toList):=by
 have hgl:=Ae h.blk
 have hnew:∀ b,v'.ownBlock=some b->b∈bl\/w.heap.size<=b:=fun b e=>by
  rcases hob with e1|⟨b',e1,e2⟩
  ·exact .inl ((h.row i hi).2 b (by rw [<- e1];exact e))
  ·rw [e] at e1;cases e1;exact .inr e2
 have hng:∀ b,v'.ownBlock=some b->b≠g:=fun b e e'=>by
  subst e'
  rcases hnew b e with h1|h1
  ·exact h.gb h1
  ·omega
 have hgi:∀ b,vs[i]!.ownBlock=some b->b≠g:=fun b e e'=>h.gb (e'▸(h.row i hi).2 b e)
 refine ⟨hp.blk,by simp [h.len],h.hg,?_,?_,?_,?_⟩
 ·intro hm
  rcases List.mem_append.1 hm with hm|hm
  ·exact h.gb hm
  ·exact hng g (Bi hm) rfl
 ·intro b hb
  rcases List.mem_append.1 hb with hb|hb
  ·exact ⟨(h.lt b hb).1,by rw [hp.size];exact Nat.lt_of_lt_of_le (h.lt b hb).2 hgr.size⟩
  ·rw [hp.size];exact hv.olt b (Bi hb)
 ·intro j hj
  have hj':j<M.length:=by simpa using hj
  rw [Ek _ _ _ _ (by rw [h.len];exact hj'),Ek _ _ _ _ hj']
  by_cases e:i=j
  ·rw [if_pos e,if_pos e]
   exact ⟨hv.other hp.grown (by simp) (fun b hb=>hng b hb),fun b hb=>List.mem_append_right _ (by rw [hb];simp)⟩
  ·rw [if_neg e,if_neg e]
   refine ⟨((h.row j hj').1.stays _ hgr (by simp) ?_).other hp.grown (by simp) (fun b hb e'=>h.gb (e'▸(h.row j hj').2 b hb)),fun b hb=>List.mem_append_left _ ((h.row j hj').2 b hb)⟩
   cases ho:vs[j]!.ownBlock with
   |none=>exact .inl rfl
   |some b=>exact .inr fun e'=>h.ne j i hj' hi (fun q=>e q.symm) b ho e'.symm
 ·intro j k hj hk hjk b hb
  have hj':j<M.length:=by simpa using hj
  have hk':k<M.length:=by simpa using hk
  rw [Ek _ _ _ _ (by rw [h.len];exact hj')] at hb
  rw [Ek _ _ _ _ (by rw [h.len];exact hk')]
  have old:∀ l,l<M.length->vs[l]!.ownBlock=some b->b<w.heap.size:=fun l hl e=>(h.lt b ((h.row l hl).2 b e)).2
  by_cases e:i=j
  ·rw [if_pos e] at hb
   subst e
   rw [if_neg hjk]
   intro e2
   rcases hob with e1|⟨b',e1,e3⟩
   ·exact h.ne i k hi hk' hjk b (by rw [<- e1];exact hb) e2
   ·rw [hb] at e1;cases e1
    have:=old k hk' e2
    omega
  ·rw [if_neg e] at hb
   by_cases e5:i=k
   ·subst e5
    rw [if_pos rfl]
    intro e2
    rcases hob with e1|⟨b',e1,e3⟩
    ·exact h.ne j i hj' hi hjk b hb (by rw [<- e1];exact e2)
    ·rw [e2] at e1;cases e1
     have:=old j hj' hb
     omega
   ·rw [if_neg e5]
    exact h.ne j k hj' hk' hjk b hb
theorem GMat.init {n:Nat}(hb:w.heap[g]?=some (.cells (List.replicate n [Value.slice none 0 0]).flatten.toArray 27 (0,0)))(hg:base<=g):GMat base g w (List.replicate n (.slice none 0 0)) (List.replicate n []) []:=by
 have e:(List.replicate n [Value.slice none 0 0]).flatten=List.replicate n (.slice none 0 0):=by simp
 rw [e] at hb
 have hv:∀ i,i<n->(List.replicate n (Value.slice none 0 0))[i]! = .slice none 0 0:=fun i hi=>by rw [getElem!_pos _ i (by simpa using hi)];simp
 refine ⟨hb,by simp,hg,by simp,by simp,fun i hi=>?_,fun i j hi hj _ b hb=>?_⟩
 ·have hi':i<n:=by simpa using hi
  rw [hv i hi',getElem!_pos _ i hi]
  simp only [List.getElem_replicate]
  exact ⟨GRow.nil ..,by simp [Value.ownBlock]⟩
 ·rw [hv i (by simpa using hi)] at hb
  cases hb
theorem GMat.rowAt (h:GMat base g w vs M bl){i:Nat}(hi:i<M.length):∃ A c,vs[i]! = .slice A M[i]!.length c/\M[i]!.length<=c/\RI w A M[i]! := (h.row i hi).1.row
theorem GMat.cell (h:GMat base g w vs M bl){i:Nat}(hi:i<M.length):w.cell? ((⟨g,0,none⟩:Addr).add (i*1))=some vs[i]! := by
 rw [Nat.mul_one,add_zero]
 have hi':i<vs.length:=by rw [h.len];exact hi
 exact Au h.blk (by rw [getElem!_pos vs i hi'];simp [hi'])
theorem GMat.rows (h:GMat base g w vs M bl)(hm:M.length<=9223372036854775807):RRows w (some ⟨g,0,none⟩) M:=by
 refine Fq h.blk ⟨by rw [h.len];simp,fun i hi=>?_⟩ hm
 obtain ⟨A,c,e1,e2,e3⟩:=h.rowAt hi
 have hi':i<vs.length:=by rw [h.len];exact hi
 have e:(vs.drop (i*1)).take 1=[vs[i]!]:=by
  rw [Nat.mul_one,List.drop_eq_getElem_cons hi',getElem!_pos vs i hi']
  rfl
 rw [e,e1]
 exact ⟨A,c,rfl,e2,e3⟩
end
theorem Tj {w:World}{g:Nat}{xs:List Bool}{t:TypeId}(h:w.heap[g]?=some (.cells (vb xs).toArray t (0,0)))(hm:xs.length<=9223372036854775807):RowR 1 dB w (some ⟨g,0,none⟩) xs:=by
 refine Fq h ⟨by simp [vb],fun i hi=>?_⟩ hm
 have hi':i<(vb xs).length:=by simpa [vb] using hi
 have e:((vb xs).drop (i*1)).take 1=[.bool xs[i]!]:=by
  rw [Nat.mul_one,List.drop_eq_getElem_cons hi',getElem!_pos xs i hi]
  simp [vb]
 rw [e]
 rfl
structure Res where
 fp:Nat->Prop
 P:World->Prop
 st:∀ w w',P w->(∀ b,fp b->w'.heap[b]?=w.heap[b]?)->P w'
 lt:∀ w,P w->∀ b,fp b->b<w.heap.size
def Bk (g:Nat)(cs:List Value)(t:TypeId):Res where
 fp b:=b=g
 P w:=w.heap[g]?=some (.cells cs.toArray t (0,0))
 st w w' h k:=(k g rfl).trans h
 lt w h b e:=by subst e;exact Ae h
def B1 (g:Nat)(P:World->Prop)(st:∀ w w',P w->w'.heap[g]?=w.heap[g]?->P w')(lt:∀ w,P w->g<w.heap.size):Res where
 fp b:=b=g
 P:=P
 st w w' h k:=st w w' h (k g rfl)
 lt w h b e:=by subst e;exact lt w h
theorem Bk_P {g:Nat}{cs:List Value}{t:TypeId}{w:World}:(Bk g cs t).P w↔w.heap[g]?=some (.cells cs.toArray t (0,0)):=Iff.rfl
theorem Bk_fp {g b:Nat}{cs:List Value}{t:TypeId}:(Bk g cs t).fp b↔b=g:=Iff.rfl
attribute [irreducible] Bk
def Apart (r s:Res):Prop:=∀ b,r.fp b->¬s.fp b
theorem Apart.symm {r s:Res}(h:Apart r s):Apart s r:=fun b h1 h2=>h b h2 h1
structure SL (w0 w:World)(L:List Res):Prop where
 bel:Below w0.heap.size w0 w
 res:∀ r∈L,r.P w
 ge:∀ r∈L,∀ b,r.fp b->w0.heap.size<=b
 dis:L.Pairwise Apart
section
variable {w0 w w1:World}{L L' L1 R R':List Res}{r r':Res}
theorem SL.start (w:World):SL w w []:=⟨Below.refl _ _,by simp,by simp,.nil⟩
theorem SL.perm (h:SL w0 w L)(p:L.Perm L'):SL w0 w L':=
 ⟨h.bel,fun r hr=>h.res r (p.mem_iff.2 hr),fun r hr=>h.ge r (p.mem_iff.2 hr),(p.pairwise_iff (fun h=>Apart.symm h)).1 h.dis⟩
theorem SL.tail (h:SL w0 w (r::L)):SL w0 w L:=⟨h.bel,fun s hs=>h.res s (by simp [hs]),fun s hs=>h.ge s (by simp [hs]),(List.pairwise_cons.1 h.dis).2⟩
theorem SL.up (h:SL w0 w L)(hb:Below w.heap.size w w1):SL w0 w1 L:=
 ⟨Ax h.bel hb,fun r hr=>r.st w w1 (h.res r hr) fun b hf=>hb.block b (r.lt w (h.res r hr) b hf),h.ge,h.dis⟩
theorem SL.add (h:SL w0 w L)(hb:Below w.heap.size w w1)(hP:r.P w1)(hf:∀ b,r.fp b->w.heap.size<=b):SL w0 w1 (r::L):=by
 have h1:=h.up hb
 refine ⟨h1.bel,fun s hs=>?_,fun s hs b hb'=>?_,List.pairwise_cons.2 ⟨fun s hs b hb1 hb2=>?_,h1.dis⟩⟩
 ·rcases List.mem_cons.1 hs with rfl|hs
  ·exact hP
  ·exact h1.res s hs
 ·rcases List.mem_cons.1 hs with rfl|hs
  ·exact Nat.le_trans h.bel.size (hf b hb')
  ·exact h1.ge s hs b hb'
 ·have:=s.lt w (h.res s hs) b hb2
  have:=hf b hb1
  omega
theorem SL.new {g:Nat}{cs:List Value}{t:TypeId}(h:SL w0 w L)(hn:New w w1 g cs t):SL w0 w1 (Bk g cs t::L):=
 h.add hn.below (Bk_P.2 hn.blk) fun b hb=>by rw [Bk_fp.1 hb,hn.at_];exact Nat.le_refl _
theorem SL.chg (h:SL w0 w (r::L))(hos:w1.os=w.os)(ht:w1.tape=w.tape)(ho:w1.output=w.output)(hs:w.heap.size<=w1.heap.size)(hk:∀ k,k<w.heap.size->¬r.fp k->w1.heap[k]?=w.heap[k]?)
  (hP:r'.P w1) (hf:∀ b,r'.fp b->r.fp b\/w.heap.size<=b):SL w0 w1 (r'::L):=by
 have hd:=List.pairwise_cons.1 h.dis
 have hge:=h.ge r (by simp)
 have old:∀ s∈L,s.P w1:=fun s hs=>s.st w w1 (h.res s (by simp [hs])) fun b hb=>hk b (s.lt w (h.res s (by simp [hs])) b hb) fun hr=>hd.1 s hs b hr hb
 refine ⟨h.bel.trans ⟨hos,ht,ho,hs,fun k hk'=>hk k (Nat.lt_of_lt_of_le hk' h.bel.size) fun hr=>by have:=hge k hr;omega⟩,fun s hs'=>?_,fun s hs' b hb=>?_,List.pairwise_cons.2 ⟨fun s hs' b hb1 hb2=>?_,hd.2⟩⟩
 ·rcases List.mem_cons.1 hs' with rfl|hs'
  ·exact hP
  ·exact old s hs'
 ·rcases List.mem_cons.1 hs' with rfl|hs'
  ·exact (hf b hb).elim (hge b) fun h1=>Nat.le_trans h.bel.size h1
  ·exact h.ge s (by simp [hs']) b hb
 ·rcases hf b hb1 with h1|h1
  ·exact hd.1 s hs' b h1 hb2
  ·have:=s.lt w (h.res s (by simp [hs'])) b hb2
   omega
theorem SL.put {g:Nat}{cs cs':List Value}{t t':TypeId}(h:SL w0 w (Bk g cs t::L))(hp:Put w w1 g cs' t'):SL w0 w1 (Bk g cs' t'::L):=
 h.chg hp.grown.os hp.grown.tape hp.grown.output hp.grown.size (fun k hk hn=>hp.grown.block k hk fun e=>hn (Bk_fp.2 (by injection e))) (Bk_P.2 hp.blk) fun b hb=>.inl (Bk_fp.2 (Bk_fp.1 hb))
theorem SL.two {s:Res}(h:SL w0 w (r::s::L))(hos:w1.os=w.os)(ht:w1.tape=w.tape)(ho:w1.output=w.output)(hs:w.heap.size<=w1.heap.size)(hk:∀ k,k<w.heap.size->¬r.fp k->¬s.fp k->w1.heap[k]?=w.heap[k]?)
  (hP:r'.P w1) (hf:∀ b,r'.fp b->r.fp b\/s.fp b\/w.heap.size<=b):SL w0 w1 (r'::L):=by
 have hd:=List.pairwise_cons.1 h.dis
 have hd2:=List.pairwise_cons.1 hd.2
 let u:Res:=⟨fun b=>r.fp b\/s.fp b,fun w=>r.P w/\s.P w,fun w w' h k=>⟨r.st w w' h.1 fun b hb=>k b (.inl hb),s.st w w' h.2 fun b hb=>k b (.inr hb)⟩,fun w h b hb=>hb.elim (r.lt w h.1 b) (s.lt w h.2 b)⟩
 have hu:SL w0 w (u::L):=⟨h.bel,fun t ht=>by
   rcases List.mem_cons.1 ht with rfl|ht
   ·exact ⟨h.res r (by simp),h.res s (by simp)⟩
   ·exact h.res t (by simp [ht]),fun t ht b hb=>by
   rcases List.mem_cons.1 ht with rfl|ht
   ·exact hb.elim (h.ge r (by simp) b) (h.ge s (by simp) b)
   ·exact h.ge t (by simp [ht]) b hb,List.pairwise_cons.2 ⟨fun t ht b hb=>hb.elim (hd.1 t (by simp [ht]) b) (hd2.1 t ht b),hd2.2⟩⟩
 exact hu.chg hos ht ho hs (fun k hk' hn=>hk k hk' (fun h=>hn (.inl h)) fun h=>hn (.inr h)) hP fun b hb=>(hf b hb).elim (fun h=>.inl (.inl h)) fun h=>h.elim (fun h=>.inl (.inr h)) .inr
end
inductive Rem:List Res->Res->List Res->Prop
 |here {r:Res} {L:List Res}:Rem (r::L) r L
 |there {x r:Res} {L L':List Res}:Rem L r L'->Rem (x::L) r (x::L')
theorem Rem.perm {L L':List Res}{r:Res}(h:Rem L r L'):L.Perm (r::L'):=by
 induction h with
 |here=>exact .refl _
 |there _ ih=>exact (ih.cons _).trans (.swap ..)
theorem Rem.mem {L L':List Res}{r:Res}(h:Rem L r L'):r∈L:=h.perm.mem_iff.2 (by simp)
inductive Has:List Res->Res->Prop
 |here {r:Res} {L:List Res}:Has (r::L) r
 |there {x r:Res} {L:List Res}:Has L r->Has (x::L) r
theorem Has.mem {L:List Res}{r:Res}(h:Has L r):r∈L:=by
 induction h with
 |here=>simp
 |there _ ih=>simp [ih]
inductive Sub:List Res->List Res->Prop
 |refl {L:List Res}:Sub L L
 |nil {L:List Res}:Sub [] L
 |cons {L L' L1:List Res} {r:Res}:Rem L r L1->Sub L' L1->Sub (r::L') L
 |skip {L L':List Res} {x:Res}:Sub L' L->Sub L' (x::L)
theorem SL.sub {w0 w:World}{L L':List Res}(h:SL w0 w L)(hs:Sub L' L):SL w0 w L':=by
 have key:∀ (L' L:List Res),Sub L' L->∃ D,L.Perm (L'++D):=by
  intro L' L hs
  induction hs with
  |refl=>exact ⟨[],by simp⟩
  |@nil L=>exact ⟨L,by simp⟩
  |cons hr _ ih=>
   obtain ⟨D,hD⟩:=ih
   exact ⟨D,hr.perm.trans (hD.cons _)⟩
  |@skip _ _ x _ ih=>
   obtain ⟨D,hD⟩:=ih
   exact ⟨x::D,(hD.cons x).trans List.perm_middle.symm⟩
 obtain ⟨D,hD⟩:=key _ _ hs
 have h1:=h.perm hD
 exact ⟨h1.bel,fun r hr=>h1.res r (by simp [hr]),fun r hr=>h1.ge r (by simp [hr]),(List.pairwise_append.1 h1.dis).1⟩
section
variable {w0 w:World}{L L':List Res}{r:Res}
theorem SL.pull (h:SL w0 w L)(hr:Rem L r L'):SL w0 w (r::L'):=h.perm hr.perm
theorem SL.blk {g:Nat}{cs:List Value}{t:TypeId}(h:SL w0 w L)(hr:Has L (Bk g cs t)):w.heap[g]?=some (.cells cs.toArray t (0,0)):=Bk_P.1 (h.res _ hr.mem)
end
variable {ds:List Deferred}
structure PoS where
 n:Fm->List Res->Prop
 r:Fm->List Res->Prop
 x:Nat->Fm->List Res->Prop
def PoS.to (w0:World)(Q:PoS):Post:=⟨fun F w=>∃ L,SL w0 w L/\Q.n F L,fun F w=>∃ L,SL w0 w L/\Q.r F L,fun i F w=>∃ L,SL w0 w L/\Q.x i F L⟩
def cS (w0:World)(n:Nat)(c:Code)(Q:PoS)(F:Fm)(L:List Res):Prop:=∀ w,SL w0 w L->wc Tryz.prog n c (Q.to w0) F w
def lS (w0:World)(n:Nat)(ops:Array Oper)(rest:List Oper)(Q:PoS)(F:Fm)(L:List Res):Prop:=∀ w,SL w0 w L->wl Tryz.prog n ops rest (Q.to w0) F w
def exW (k:IntKind)(z:Int)(K:Int->Prop):Prop:=∃ v,v=k.wrap z/\K v
theorem wI {k:IntKind}{z:Int}{K:Int->Prop}(h:Cj k z)(h1:K z):exW k z K:=⟨z,(L8 h).symm,h1⟩
def Sd (F:Fm):List Operand->Option (List Value)
 |[]=>some []
 |x::l=>match Ul (ev F x),Sd F l with
  |some v,some vs=>some (v::vs)
  |_,_=>none
theorem N2 {F:Fm}:∀ (l:List Operand),Sd F l=some (l.map (ev F))
 |[]=>rfl
 |x::l=>by simp [Sd,He,N2 l]
def arO (op:Op)(F:Fm)(K:Value->Prop):Option Prop:=
 match op with
 |.makeFunc fn first caps=>match Sd F first.toList,Sd F caps.toList with
  |some fs,some cs=>some (K (.func fn fs.toArray cs.toArray))
  |_,_=>none
 |.convert s t x=>match ev F x,Nz tab s t with
  |.int _ a,some k=>some (exW k a fun z=>K (.int k z))
  |_,_=>none
 |.binOp .add _ x y _=>match ev F x,ev F y with
  |.int k a,.int k' b=>bif So k k' then some (exW k (a+b) fun z=>K (.int k z)) else none
  |.string a,.string b=>some (a.size+b.size<=9223372036854775807/\K (.string (a++b)))
  |_,_=>none
 |.binOp .sub _ x y _=>match ev F x,ev F y with
  |.int k a,.int k' b=>bif So k k' then some (exW k (a - b) fun z=>K (.int k z)) else none
  |_,_=>none
 |.binOp .mul _ x y _=>match ev F x,ev F y with
  |.int k a,.int k' b=>bif So k k' then some (exW k (a*b) fun z=>K (.int k z)) else none
  |_,_=>none
 |.binOp .rem _ x y _=>match ev F x,ev F y with
  |.int k a,.int k' b=>bif So k k' then some ((0<=a/\0<b)/\∀ r,r=a%b->0<=r->r<b->r<=a->K (.int k r)) else none
  |_,_=>none
 |.binOp .quo _ x y _=>match ev F x,ev F y with
  |.int k a,.int k' b=>bif So k k' then some ((0<=a/\0<b/\Cj k (a/b))/\K (.int k (a/b))) else none
  |_,_=>none
 |.binOp .eql _ x y _=>match ev F x,ev F y with
  |.string a,.string b=>some (K (.bool (decide (a=b))))
  |_,_=>none
 |.binOp .neq _ x y _=>match ev F x,ev F y with
  |.string a,.string b=>some (K (.bool (!decide (a=b))))
  |_,_=>none
 |.binOp .shr _ x y _=>match ev F x,ev F y with
  |.int k a,.int _ b=>some (0<=b/\K (.int k (a/2 ^ min b.toNat k.bits)))
  |_,_=>none
 |.binOp .shl _ x y _=>match ev F x,ev F y with
  |.int k a,.int _ b=>some (0<=b/\K (.int k (k.wrap (a*2 ^ min b.toNat k.bits))))
  |_,_=>none
 |.binOp .and _ x y _=>match ev F x,ev F y with
  |.int k a,.int k' b=>bif So k k' then some (K (.int k (bits .and k a b))) else none
  |_,_=>none
 |.binOp .or _ x y _=>match ev F x,ev F y with
  |.int k a,.int k' b=>bif So k k' then some (K (.int k (bits .or k a b))) else none
  |_,_=>none
 |.binOp .xor _ x y _=>match ev F x,ev F y with
  |.int k a,.int k' b=>bif So k k' then some (K (.int k (bits .xor k a b))) else none
  |_,_=>none
 |_=>none
def alO (op:Op)(F:Fm)(L:List Res)(K:Value->List Res->Prop):Option Prop:=
 match op with
 |.alloc t=>match tab t with
  |some i=>match Pm i.zero.cells.toList with
   |some cs=>some (∀ g,K (.pointer (some ⟨g,0,none⟩)) (Bk g cs t::L))
   |none=>none
  |none=>none
 |.box t x=>match ev F x with
  |.agg cs=>match Pm cs.toList with
   |some cs=>some (∀ g,K (.pointer (some ⟨g,0,none⟩)) (Bk g cs t::L))
   |none=>none
  |.tuple _=>none
  |v=>match Ul v with
   |some v=>some (∀ g,K (.pointer (some ⟨g,0,none⟩)) (Bk g [v] t::L))
   |none=>none
 |_=>none
def rdO (op:Op):Bool:=
 match op with
 |.load ..|.indexAddr ..|.slice ..|.lookup ..|.index ..|.field ..|.binOp ..=>true
 |.convert s t _=>!Nat.beq s t
 |.call c=>(match c.callee with|.builtin .len|.builtin .cap|.builtin .min|.builtin .max=>true|_=>false)
 |_=>false
structure QuS (w0:World)(L:List Res)(F:Fm)(o:Oper)(K:Value->Prop):Prop where
 go:∃ v,(∀ w,SL w0 w L->(execOp (ev F) o).run Tryz.prog w=.ok (.value v) w\/∃ f args,(execOp (ev F) o).run Tryz.prog w=.ok (.enter f args) w/\Calls Tryz.prog f args w fun e w'=>e=.returned v/\Below w.heap.size w w')/\K v
structure EvS (w0:World)(L:List Res)(F:Fm)(o:Oper)(K:Value->List Res->Prop):Prop where
 go:∀ w,SL w0 w L->(∃ v w1 L',(execOp (ev F) o).run Tryz.prog w=.ok (.value v) w1/\SL w0 w1 L'/\K v L') \/
  (∃ f args,(execOp (ev F) o).run Tryz.prog w=.ok (.enter f args) w/\Calls Tryz.prog f args w fun e w'=>∃ v L',e=.returned v/\SL w0 w' L'/\K v L') \/
  (∃ w1 L',o.dst=none/\(execOp (ev F) o).run Tryz.prog w=.ok .skip w1/\SL w0 w1 L'/\K undef L')
def Ln (w0:World)(o:Oper)(F:Fm)(L:List Res)(K:Value->List Res->Prop):Prop:=
 match Ca tab o.op F with
 |some v=>K v L
 |none=>match arO o.op F (fun v=>K v L) with
  |some p=>p
  |none=>match alO o.op F L K with
   |some p=>p
   |none=>bif rdO o.op then QuS w0 L F o (fun v=>K v L) else EvS w0 L F o K
def Qk (w0:World)(o:Oper)(F:Fm)(L:List Res)(K:Value->Prop):Prop:=
 match Ca tab o.op F with
 |some v=>K v
 |none=>match arO o.op F K with
  |some p=>p
  |none=>QuS w0 L F o K
def Zs (w0:World)(n:Nat)(ops:Array Oper)(o:Oper)(rest:List Oper)(ih:PoS->Fm->List Res->Prop):PoS->Fm->List Res->Prop:=fun Q F L=>
  match o.guard with
  |none=>match o.dst with
   |none=>Ln w0 o F L (fun _ L'=>ih Q F L')
   |some d=>bif Nat.blt d n then Ln w0 o F L (fun v L'=>ih Q (Bd F d v) L') else lS w0 n ops (o::rest) Q F L
  |some (j,b)=>match ops[j]? with
   |none=>lS w0 n ops (o::rest) Q F L
   |some oj=>match oj.dst,o.dst with
    |some t,some d=>bif Nat.blt t n&&Nat.blt d n then
      (match F t with
      |.bool c=>
       gs c
        (match b with
        |true=>Ln w0 o (Bd F t (.bool true)) L (fun v L'=>ih Q (Bd (Bd F t (.bool true)) d v) L')
        |false=>ih Q (Bd (Bd F t (.bool true)) d undef) L)
        (match b with
        |true=>ih Q (Bd (Bd F t (.bool false)) d undef) L
        |false=>Ln w0 o (Bd F t (.bool false)) L (fun v L'=>ih Q (Bd (Bd F t (.bool false)) d v) L'))
      |v=>gs (runG.isUndef v) (ih Q (Bd F d undef) L) (lS w0 n ops (o::rest) Q F L))
     else lS w0 n ops (o::rest) Q F L
    |_,_=>lS w0 n ops (o::rest) Q F L
noncomputable def R5 (w0:World)(n:Nat)(ops:Array Oper)(l:List Oper):PoS->Fm->List Res->Prop:=
 List.rec (motive:=fun _=>PoS->Fm->List Res->Prop) (fun Q F L=>Q.n F L) (fun o rest ih=>Zs w0 n ops o rest ih) l
theorem Xx (w0:World)(n:Nat)(ops:Array Oper)(o:Oper)(rest:List Oper)(Q:PoS)(F:Fm)(L:List Res):R5 w0 n ops (o::rest) Q F L=Zs w0 n ops o rest (R5 w0 n ops rest) Q F L:=rfl
def Bmz (rx ry:PoS->Fm->List Res->Prop):PoS->Fm->List Res->Prop:=fun Q F L=>rx ⟨fun F L=>ry Q F L,Q.r,Q.x⟩ F L
def Ac7 (w0:World)(n:Nat)(c:Operand)(x y:Code)(rx ry:PoS->Fm->List Res->Prop):PoS->Fm->List Res->Prop:=fun Q F L=>match ev F c with
  |.bool b=>gs b (rx Q F L) (ry Q F L)
  |_=>cS w0 n (.cond c x y) Q F L
def At3 (id:Nat)(rc:PoS->Fm->List Res->Prop):PoS->Fm->List Res->Prop:=fun Q F L=>rc ⟨Q.n,Q.r,fun i F L=>bif Nat.beq i id then Q.n F L else Q.x i F L⟩ F L
noncomputable def R1 (w0:World)(n id:Nat)(ops:Array Oper)(d:Bool):PoS->Fm->List Res->Prop:=fun Q F L=>match d with
  |false=>R5 w0 n ops ops.toList Q F L
  |true=>cS w0 n (.region id ops true) Q F L
noncomputable def Hj (w0:World)(n:Nat)(c:Code):PoS->Fm->List Res->Prop:=
 Code.rec (motive:=fun _=>PoS->Fm->List Res->Prop)
  (fun Q F L=>Q.n F L) (fun id ops d=>R1 w0 n id ops d) (fun _ _ rx ry=>Bmz rx ry) (fun c x y rx ry=>Ac7 w0 n c x y rx ry) (fun id _ rc=>At3 id rc)
  (fun b _=>cS w0 n (.loop b)) (fun f p a b _ _=>cS w0 n (.rangeFunc f p a b)) (fun i Q F L=>Q.x i F L) (fun b _=>cS w0 n (.scope b)) (fun _ Q F L=>Q.n F L) (fun l=>cS w0 n (.goto l)) (fun Q F L=>Q.r F L) (fun y=>cS w0 n (.refuse y)) c
def Aak (w0:World)(n:Nat)(ops:Array Oper)(L:List Res)(o:Oper)(rest:List Oper)(ih:(Fm->Prop)->Fm->Prop):(Fm->Prop)->Fm->Prop:=fun K F=>
  match o.guard with
  |none=>match o.dst with
   |none=>wq Tryz.prog n ops (fun w=>SL w0 w L) (o::rest) K F
   |some d=>bif Nat.blt d n then Qk w0 o F L (fun v=>ih K (Bd F d v)) else wq Tryz.prog n ops (fun w=>SL w0 w L) (o::rest) K F
  |some (j,b)=>match ops[j]? with
   |none=>wq Tryz.prog n ops (fun w=>SL w0 w L) (o::rest) K F
   |some oj=>match oj.dst,o.dst with
    |some t,some d=>bif Nat.blt t n&&Nat.blt d n then
      (match F t with
      |.bool c=>
       gs c
        (match b with
        |true=>Qk w0 o (Bd F t (.bool true)) L (fun v=>ih K (Bd (Bd F t (.bool true)) d v))
        |false=>ih K (Bd (Bd F t (.bool true)) d undef))
        (match b with
        |true=>ih K (Bd (Bd F t (.bool false)) d undef)
        |false=>Qk w0 o (Bd F t (.bool false)) L (fun v=>ih K (Bd (Bd F t (.bool false)) d v)))
      |v=>gs (runG.isUndef v) (ih K (Bd F d undef)) (wq Tryz.prog n ops (fun w=>SL w0 w L) (o::rest) K F))
     else wq Tryz.prog n ops (fun w=>SL w0 w L) (o::rest) K F
    |_,_=>wq Tryz.prog n ops (fun w=>SL w0 w L) (o::rest) K F
noncomputable def M7 (w0:World)(n:Nat)(ops:Array Oper)(L:List Res)(l:List Oper):(Fm->Prop)->Fm->Prop:=
 List.rec (motive:=fun _=>(Fm->Prop)->Fm->Prop) (fun K F=>K F) (fun o rest ih=>Aak w0 n ops L o rest ih) l
theorem Uk (w0:World)(n:Nat)(ops:Array Oper)(L:List Res)(o:Oper)(rest:List Oper)(K:Fm->Prop)(F:Fm):M7 w0 n ops L (o::rest) K F=Aak w0 n ops L o rest (M7 w0 n ops L rest) K F:=rfl
structure SbK (A B:List Res)(p:Prop):Prop where mk ::
 s:Sub A B
 k:p
def Vf (w0:World)(n:Nat)(l:List Oper)(Lr:List Res)(ih:List Bool->Fm->List Res->Prop)(listed:List Bool)(F:Fm)(L:List Res)(i:Nat):Prop:=match l[i]? with
  |some o=>match o.dst with
   |none=>Ln w0 o F L (fun v L'=>SbK Lr L' (ih (listed.set i true) F L'))
   |some d=>bif Nat.blt d n then Ln w0 o F L (fun v L'=>SbK Lr L' (ih (listed.set i true) (Bd F d v) L')) else False
  |none=>False
noncomputable def exD (w0:World)(n:Nat)(l:List Oper)(Lr:List Res)(T':Fm->List Res->Prop)(f:Nat):List Bool->Fm->List Res->Prop:=
 Nat.rec (motive:=fun _=>List Bool->Fm->List Res->Prop) (fun _ F L=>T' F L) (fun _ ih listed F L=>Ts (Vf w0 n l Lr ih listed F L) (Lv l listed)) f
theorem Acz (w0:World)(n:Nat)(l:List Oper)(Lr:List Res)(T':Fm->List Res->Prop)(f:Nat)(listed:List Bool)(F:Fm)(L:List Res):exD w0 n l Lr T' (f+1) listed F L=Ts (Vf w0 n l Lr (exD w0 n l Lr T' f) listed F L) (Lv l listed):=rfl
section
variable {w0 w:World}{n:Nat}{ops:Array Oper}{rest:List Oper}{o:Oper}{Q:PoS}{F:Fm}{L L' L1 Lr:List Res}
theorem Y9 (a b:ByteArray):(a.toList==b.toList)=decide (a=b):=by
 refine Bool.eq_iff_iff.2 ?_
 rw [beq_iff_eq,decide_eq_true_eq]
 refine ⟨fun h=>?_,fun h=>by rw [h]⟩
 rw [ByteArray.toList_eq,ByteArray.toList_eq] at h
 exact ByteArray.ext (Array.toList_inj.1 h)
theorem EvS.mono {K K':Value->List Res->Prop}(h:EvS w0 L F o K)(k:∀ v L,K v L->K' v L):EvS w0 L F o K':=⟨fun w hw=>by
 rcases h.go w hw with ⟨v,w1,L',h1,h2,h3⟩|⟨f,args,h1,h2⟩|⟨w1,L',h0,h1,h2,h3⟩
 ·exact .inl ⟨v,w1,L',h1,h2,k _ _ h3⟩
 ·exact .inr (.inl ⟨f,args,h1,h2.mono fun e w' ⟨v,L',h3,h4,h5⟩=>⟨v,L',h3,h4,k _ _ h5⟩⟩)
 ·exact .inr (.inr ⟨w1,L',h0,h1,h2,k _ _ h3⟩)⟩
theorem EvS.val {v:Value}{K:Value->List Res->Prop}(h:∀ w,SL w0 w L->(execOp (ev F) o).run Tryz.prog w=.ok (.value v) w)(k:K v L):EvS w0 L F o K:=⟨fun w hw=>.inl ⟨v,w,L,h w hw,hw,k⟩⟩
theorem QuS.toEv {K:Value->List Res->Prop}(h:QuS w0 L F o (fun v=>K v L)):EvS w0 L F o K:=by
 obtain ⟨v,h1,h2⟩:=h.go
 refine ⟨fun w hw=>?_⟩
 rcases h1 w hw with h3|⟨f,args,h3,h4⟩
 ·exact .inl ⟨v,w,L,h3,hw,h2⟩
 ·exact .inr (.inl ⟨f,args,h3,h4.mono fun e w' ⟨h5,h6⟩=>⟨v,L,h5,hw.up h6,h2⟩⟩)
theorem QuS.val {v:Value}{K:Value->Prop}(h:∀ w,SL w0 w L->(execOp (ev F) o).run Tryz.prog w=.ok (.value v) w)(k:K v):QuS w0 L F o K:=⟨v,fun w hw=>.inl (h w hw),k⟩
theorem Abx {K:Value->Prop}{p:Prop}(hp:arO o.op F K=some p)(h:p):∃ v,(∀ w,(execOp (ev F) o).run Tryz.prog w=.ok (.value v) w)/\K v:=by
 obtain ⟨dst,op,type,pos,after,guard⟩:=o
 simp only at hp
 unfold arO at hp
 split at hp
 case h_1 fn first caps=>
  rw [N2,N2] at hp
  simp only [Option.some.injEq] at hp
  subst hp
  exact ⟨_,fun w=>by simp [execOp,Instr.makeFunc,<- List.map_toArray],h⟩
 case h_2 s t x=>
  split at hp
  ·rename_i ki a k hx hk
   simp only [Option.some.injEq] at hp
   subst hp
   obtain ⟨v,rfl,hK⟩:=h
   exact ⟨_,fun w=>Jc Aa rfl hx (Jl hk),hK⟩
  ·cases hp
 case h_3=>
  split at hp
  ·rename_i k a k' b hx hy
   cases hk:So k k' with
   |false=>rw [hk] at hp;cases hp
   |true=>
    rw [hk] at hp
    have:=Mn hk
    subst this
    simp only [cond_true,Option.some.injEq] at hp
    subst hp
    obtain ⟨v,rfl,hK⟩:=h
    exact ⟨_,fun w=>by simp [execOp,hx,hy,eqGuard,binOp,Op.intArith],hK⟩
  ·rename_i a b hx hy
   simp only [Option.some.injEq] at hp
   subst hp
   exact ⟨_,fun w=>by
    have:=run_string_add_sum (P:=Tryz.prog) (w:=w) a b h.1
    simp [execOp,hx,hy,eqGuard,binOp_string_add,this],h.2⟩
  ·cases hp
 case h_6=>
  split at hp
  ·rename_i k a k' b hx hy
   cases hk:So k k' with
   |false=>rw [hk] at hp;cases hp
   |true=>
    rw [hk] at hp
    have:=Mn hk
    subst this
    simp only [cond_true,Option.some.injEq] at hp
    subst hp
    obtain ⟨⟨h0,h1⟩,hK⟩:=h
    have hf:=Fy h0 h1
    exact ⟨_,fun w=>Rh rfl hx hy h0 h1,hK _ rfl hf.1 hf.2.1 hf.2.2⟩
  ·cases hp
 case h_7=>
  split at hp
  ·rename_i k a k' b hx hy
   cases hk:So k k' with
   |false=>rw [hk] at hp;cases hp
   |true=>
    rw [hk] at hp
    have:=Mn hk
    subst this
    simp only [cond_true,Option.some.injEq] at hp
    subst hp
    exact ⟨_,fun w=>Q4 rfl hx hy h.1.1 h.1.2.1 h.1.2.2,h.2⟩
  ·cases hp
 case h_8=>
  split at hp
  ·rename_i a b hx hy
   simp only [Option.some.injEq] at hp
   subst hp
   rw [<- Y9] at h
   exact ⟨_,fun w=>by simp [execOp,hx,hy,eqGuard,binOp_string_eql],h⟩
  ·cases hp
 case h_9=>
  split at hp
  ·rename_i a b hx hy
   simp only [Option.some.injEq] at hp
   subst hp
   rw [<- Y9] at h
   exact ⟨_,fun w=>by simp [execOp,hx,hy,eqGuard,binOp_string_neq,bne],h⟩
  ·cases hp
 case h_10=>
  split at hp
  ·rename_i k a k2 b hx hy
   simp only [Option.some.injEq] at hp
   subst hp
   exact ⟨_,fun w=>Vx rfl hx hy h.1,h.2⟩
  ·cases hp
 case h_11=>
  split at hp
  ·rename_i k a k2 b hx hy
   simp only [Option.some.injEq] at hp
   subst hp
   exact ⟨_,fun w=>Xj rfl hx hy h.1,h.2⟩
  ·cases hp
 all_goals first
  |cases hp;done
  |(
   split at hp
   ·rename_i k a k' b hx hy
    cases hk:So k k' with
    |false=>rw [hk] at hp;cases hp
    |true=>
     rw [hk] at hp
     have:=Mn hk
     subst this
     simp only [cond_true,Option.some.injEq] at hp
     subst hp
     first
      |exact ⟨_,fun w=>Pd rfl hx hy rfl,h⟩
      |(
       obtain ⟨v,rfl,hK⟩:=h
       exact ⟨_,fun w=>by simp [execOp,hx,hy,eqGuard,binOp,Op.intArith],hK⟩)
   ·cases hp)
theorem At9 {K:Value->List Res->Prop}{p:Prop}(hp:alO o.op F L K=some p)(h:p):EvS w0 L F o K:=⟨fun w hw=>.inl (by
 obtain ⟨dst,op,type,pos,after,guard⟩:=o
 simp only at hp
 unfold alO at hp
 split at hp
 case h_1 t=>
  split at hp
  ·rename_i i hi
   rw [Gc] at hp
   simp only [Option.some.injEq] at hp
   subst hp
   obtain ⟨j,hj,hz,_,_⟩:=Tv Aa hi
   have hn:=Ce w i.zero.cells.toList t
   refine ⟨_,_,_,?_,hw.new hn,h _⟩
   simp [execOp,Instr.alloc,zeroValue,typeInfo,hj,hz,newVar,newRow,newObj,Sem.run]
  ·cases hp
 case h_2 t x=>
  split at hp
  ·rename_i cs hx
   rw [Gc] at hp
   simp only [Option.some.injEq] at hp
   subst hp
   refine ⟨_,_,_,?_,hw.new (Ce w cs.toList t),h _⟩
   simp [execOp,hx,Instr.box,newVar,newRow,newObj,Sem.run,Value.cells]
  ·cases hp
  ·rename_i v hna hnt
   rw [He] at hp
   simp only [Option.some.injEq] at hp
   subst hp
   have hc:(ev F x).cells=#[ev F x]:=by
    cases he:ev F x<;>first|rfl|exact (hna _ he).elim
   refine ⟨_,_,_,?_,hw.new (Ce w [ev F x] t),h _⟩
   simp [execOp,Instr.box,newVar,newRow,newObj,Sem.run,hc]
 ·cases hp)⟩
theorem Kz {K:Value->List Res->Prop}(h:Ln w0 o F L K):EvS w0 L F o K:=by
 unfold Ln at h
 split at h
 ·rename_i v hv
  exact .val (fun w _=>Kx Aa hv) h
 ·split at h
  ·rename_i p hp
   obtain ⟨v,h1,h2⟩:=Abx hp h
   exact .val (fun w _=>h1 w) h2
  ·split at h
   ·rename_i p hp
    exact At9 hp h
   ·cases hr:rdO o.op with
    |true=>rw [hr] at h;exact QuS.toEv h
    |false=>rw [hr] at h;exact h
theorem Sh {K:Value->Prop}(h:Qk w0 o F L K):QuS w0 L F o K:=by
 unfold Qk at h
 split at h
 ·rename_i v hv
  exact .val (fun w _=>Kx Aa hv) h
 ·split at h
  ·rename_i p hp
   obtain ⟨v,h1,h2⟩:=Abx hp h
   exact .val (fun w _=>h1 w) h2
  ·exact h
theorem Af3 (hg:o.guard=none)(hd:Nx n o.dst=true)(h:EvS w0 L F o (fun v L'=>lS w0 n ops rest Q (Pq F o.dst v) L')):lS w0 n ops (o::rest) Q F L:=fun w hw=>by
 unfold wl
 intro ds a ha
 refine wpList_plain hg fun K hK=>?_
 unfold Oper.wp
 rw [ha.eval]
 rcases h.go w hw with ⟨v,w1,L',h1,h2,h3⟩|⟨f,args,h1,h2⟩|⟨w1,L',h0,h1,h2,h3⟩
 ·rw [h1]
  have:=h3 w1 h2
  unfold wl at this
  exact hK _ _ (this _ _ (ha.put hd v))
 ·rw [h1]
  refine h2.mono ?_
  rintro e w' ⟨v,L',rfl,h4,h5⟩
  have:=h5 w' h4
  unfold wl at this
  exact hK _ _ (this _ _ (ha.put hd v))
 ·rw [h1]
  have:=h3 w1 h2
  unfold wl at this
  refine hK _ _ (this _ _ ?_)
  rw [h0]
  exact ha
theorem I2:∀ {rest:List Oper} {Q:PoS} {F:Fm} {L:List Res},R5 w0 n ops rest Q F L->lS w0 n ops rest Q F L
 |[],Q,F,L,h=>fun w hw=>N9 ⟨L,hw,h⟩
 |o::rest,Q,F,L,h=>by
  rw [Xx] at h
  unfold Zs at h
  split at h
  ·rename_i hg
   split at h
   ·rename_i hd
    refine Af3 hg (by rw [hd];rfl) ((Kz h).mono fun v L h=>?_)
    rw [hd]
    exact I2 h
   ·rename_i d hd
    cases hb:Nat.blt d n
    ·rw [hb] at h;exact h
    ·rw [hb] at h
     simp only [cond_true] at h
     refine Af3 hg (B9 hd hb) ((Kz h).mono fun v L h=>?_)
     rw [hd]
     exact I2 h
  ·rename_i j b hg
   split at h
   ·exact h
   ·rename_i oj hj
    split at h
    ·rename_i t d ht hd
     have ex:∀ {F':Fm},F'=F->Nat.blt d n=true->Ln w0 o F' L (fun v L'=>R5 w0 n ops rest Q (Bd F' d v) L')->lS w0 n ops (Pk o::rest) Q F L:=by
      intro F' e hb h2
      rw [<- e]
      refine Af3 rfl (B9 hd hb) ?_
      refine ⟨fun w hw=>?_⟩
      have:=((Kz h2).mono fun v L h=>I2 h).go w hw
      have e:(Pk o).dst=some d:=hd
      rw [e]
      rw [hd] at this
      exact this
     cases hbb:(Nat.blt t n&&Nat.blt d n) with
     |false=>rw [hbb] at h;exact h
     |true=>
      rw [hbb] at h
      simp only [Bool.and_eq_true] at hbb
      simp only [cond_true] at h
      split at h
      ·rename_i c hc
       have e:Bd F t (.bool c)=F:=Gz F t _ hc
       cases c with
       |true=>
        cases b with
        |true=>exact fun w hw=>Ab8 hg hj ht hc hbb.1 (ex e hbb.2 h w hw)
        |false=>exact fun w hw=>Xc hg hj ht hc rfl hbb.1 hd hbb.2 (by have:=I2 h w hw;rwa [e] at this)
       |false=>
        cases b with
        |false=>exact fun w hw=>Ab8 hg hj ht hc hbb.1 (ex e hbb.2 h w hw)
        |true=>exact fun w hw=>Xc hg hj ht hc rfl hbb.1 hd hbb.2 (by have:=I2 h w hw;rwa [e] at this)
      ·generalize hv:F t=v at h
       cases hu:runG.isUndef v
       ·rw [hu] at h;exact h
       ·rw [hu] at h
        have:v=undef:=by
         unfold runG.isUndef at hu
         split at hu
         ·rename_i vs;unfold undef;simp at hu;rw [hu]
         ·cases hu
        rw [this] at hv
        exact fun w hw=>Ao9 hg hj ht hv hbb.1 hd hbb.2 (I2 h w hw)
    ·exact h
theorem Kn:∀ {c:Code} {Q:PoS} {F:Fm} {L:List Res},Hj w0 n c Q F L->cS w0 n c Q F L:=by
 intro c
 induction c with
 |seq x y ihx ihy=>
  intro Q F L h w hw
  replace h:Hj w0 n x ⟨fun F L=>Hj w0 n y Q F L,Q.r,Q.x⟩ F L:=h
  exact Afy (F9 (ihx h w hw) (fun F w ⟨L,h1,h2⟩=>ihy h2 w h1) (fun _ _ h=>h) (fun _ _ _ h=>h))
 |cond c x y ihx ihy=>
  intro Q F L h
  replace h:Ac7 w0 n c x y (Hj w0 n x) (Hj w0 n y) Q F L:=h
  unfold Ac7 at h
  split at h
  ·rename_i b hb
   intro w hw
   cases b
   ·exact Zm hb (ihy h w hw)
   ·exact Aa9 hb (ihx h w hw)
  ·exact h
 |block id c ih=>
  intro Q F L h w hw
  replace h:Hj w0 n c ⟨Q.n,Q.r,fun i F L=>bif Nat.beq i id then Q.n F L else Q.x i F L⟩ F L:=h
  refine Tp (F9 (ih h w hw) (fun _ _ h=>h) (fun _ _ h=>h) fun i F w ⟨L,h1,h2⟩=>?_)
  show bif Nat.beq i id then _ else _
  simp only at h2
  cases hb:Nat.beq i id<;>rw [hb] at h2<;>exact ⟨L,h1,h2⟩
 |exit i=>intro Q F L h w hw;exact Vz ⟨L,hw,h⟩
 |ret=>intro Q F L h w hw;exact Zd ⟨L,hw,h⟩
 |skip=>intro Q F L h w hw;exact Vl ⟨L,hw,h⟩
 |label l=>intro Q F L h w hw;exact Ss ⟨L,hw,h⟩
 |region id ops d=>
  intro Q F L h
  replace h:R1 w0 n id ops d Q F L:=h
  unfold R1 at h
  cases d
  ·intro w hw
   have:wc Tryz.prog n (.region id ops.toList.toArray false) (Q.to w0) F w:=Za (I2 (by simpa using h) w hw)
   simpa using this
  ·exact h
 |_=>intro Q F L h;exact h
def CS {X:Type}(w0:World)(f:FuncId)(args:List Value)(L:List Res)(val:X->Value)(Lx:X->List Res)(R:X->Prop):Prop:=
 ∀ w,SL w0 w L->Calls Tryz.prog f args.toArray w fun e w'=>∃ x,e=.returned (val x)/\SL w0 w' (Lx x)/\R x
def FinS {X:Type}(w0:World)(fn:Func)(val:X->Value)(Lx:X->List Res)(R:X->Prop)(F:Fm)(L:List Res):Prop:=
 ∀ w,SL w0 w L->Om Tryz.prog fn (fun e w'=>∃ x,e=.returned (val x)/\SL w0 w' (Lx x)/\R x) F w
theorem Ai {X:Type}{val:X->Value}{Lx:X->List Res}{R:X->Prop}{f:FuncId}{fn:Func}{c:Code}{args:List Value}{m:Nat}(hf:Tryz.prog.funcs[f]?=some fn)(hb:fn.body=some c)(hm:fn.ntmps=m)(hn:Nat.ble args.length m=true)
  (h:Hj w0 m c ⟨FinS w0 fn val Lx R,FinS w0 fn val Lx R,fun _ _ _=>False⟩ (J6 0 args) L):CS w0 f args L val Lx R:=fun w hw=>
 Af2 m hf hb hm hn (F9 (Kn h w hw) (fun F w ⟨L,h1,h2⟩=>by have:=h2 w h1;unfold Om at this;exact this) (fun F w ⟨L,h1,h2⟩=>by have:=h2 w h1;unfold Om at this;exact this) (fun _ _ _ ⟨L,h1,h2⟩=>h2))
def Bjz:List Value->Value
 |[v]=>v
 |vs=>.tuple vs.toArray
inductive RV (L:List Res)(F:Fm):ResultVar->Value->Prop
 |tmp {t:Tmp} {v:Value} (h:Ul (F t)=some v):RV L F (.tmp t) v
 |agg {a:Tmp} {t:TypeId} {g:Nat} {cs:List Value} {t':TypeId} (h:F a=.pointer (some ⟨g,0,none⟩)) (hm:Has L (Bk g cs t')) (h1:Mr tab t cs.length=true):RV L F (.cell a t) (.agg cs.toArray)
 |one {a:Tmp} {t:TypeId} {g:Nat} {v:Value} {t':TypeId} (h:F a=.pointer (some ⟨g,0,none⟩)) (hm:Has L (Bk g [v] t')) (h1:Lg tab t=true):RV L F (.cell a t) v
theorem cS.mk {c:Code}(h:∀ w,SL w0 w L->wc Tryz.prog n c (Q.to w0) F w):cS w0 n c Q F L:=h
theorem cS.go {c:Code}(h:cS w0 n c Q F L):∀ w,SL w0 w L->wc Tryz.prog n c (Q.to w0) F w:=h
theorem lS.mk (h:∀ w,SL w0 w L->wl Tryz.prog n ops rest (Q.to w0) F w):lS w0 n ops rest Q F L:=h
theorem lS.go (h:lS w0 n ops rest Q F L):∀ w,SL w0 w L->wl Tryz.prog n ops rest (Q.to w0) F w:=h
section
variable {X:Type}{val:X->Value}{Lx:X->List Res}{R:X->Prop}{fn:Func}{f:FuncId}{args:List Value}
theorem FinS.mk (h:∀ w,SL w0 w L->Om Tryz.prog fn (fun e w'=>∃ x,e=.returned (val x)/\SL w0 w' (Lx x)/\R x) F w):FinS w0 fn val Lx R F L:=h
theorem CS.mk (h:∀ w,SL w0 w L->Calls Tryz.prog f args.toArray w fun e w'=>∃ x,e=.returned (val x)/\SL w0 w' (Lx x)/\R x):CS w0 f args L val Lx R:=h
theorem CS.go (h:CS w0 f args L val Lx R):∀ w,SL w0 w L->Calls Tryz.prog f args.toArray w fun e w'=>∃ x,e=.returned (val x)/\SL w0 w' (Lx x)/\R x:=h
end
end
attribute [irreducible] cS lS FinS CS
end Go.Proofs.YtghmdfegfehhkaaGreatDoor
