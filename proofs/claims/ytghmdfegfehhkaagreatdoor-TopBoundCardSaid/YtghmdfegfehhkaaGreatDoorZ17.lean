/- Several texts of one claim in one file, made short: PM EM F23 O23 R23 MX23 RMB KF16 PS12 PG17 PH18 HP18 EV17. -/
import Derived.Test.YtghmdfegfehhkaaGreatDoorZ6
import Derived.Test.YtghmdfegfehhkaaGreatDoorZ4
import Derived.Test.YtghmdfegfehhkaaGreatDoorZ13
import Derived.Test.YtghmdfegfehhkaaGreatDoorZ16
import Derived.Test.YtghmdfegfehhkaaGreatDoorZ14
import Derived.Test.YtghmdfegfehhkaaGreatDoorZ8
set_option maxRecDepth 100000
set_option maxHeartbeats 64000000
set_option linter.unusedVariables false
set_option linter.unusedSimpArgs false
namespace Go.Proofs.YtghmdfegfehhkaaGreatDoor
open Go.RowKit
abbrev Mat:=List (List Bool)
def mg (M:Mat)(i o:Nat):Bool:=(M[i]!)[o]!
structure Shape (n c:Nat)(M:Mat):Prop where
 rows:M.length=n
 cols:∀ i,i<n->M[i]!.length=c
def LeM (M N:Mat):Prop:=∀ i o,mg M i o=true->mg N i o=true
theorem LeM.refl (M:Mat):LeM M M:=fun _ _ h=>h
theorem LeM.trans {M N O:Mat}(h:LeM M N)(k:LeM N O):LeM M O:=fun i o g=>k i o (h i o g)
theorem Ka {n c:Nat}{M:Mat}(h:Shape n c M){i o:Nat}(hio:¬ (i<n/\o<c)):mg M i o=false:=by
 unfold mg
 by_cases hi:i<n
 ·have hl:=h.cols i hi
  rw [List.getElem!_eq_getElem?_getD,List.getElem?_eq_none (by omega)]
  rfl
 ·have:M[i]! = []:=by rw [List.getElem!_eq_getElem?_getD,List.getElem?_eq_none (by rw [h.rows];omega)];rfl
  rw [this]
  rfl
theorem Al7 {n c:Nat}{M N:Mat}(hM:Shape n c M)(hN:Shape n c N)(h:∀ i o,i<n->o<c->mg M i o=mg N i o):M=N:=by
 refine List.ext_getElem (by rw [hM.rows,hN.rows]) fun i h1 h2=>?_
 have hi:i<n:=by rw [<- hM.rows];exact h1
 have e1:M[i]! = M[i]:=getElem!_pos M i h1
 have e2:N[i]! = N[i]:=getElem!_pos N i h2
 have l1:=hM.cols i hi
 have l2:=hN.cols i hi
 rw [e1] at l1
 rw [e2] at l2
 refine List.ext_getElem (by rw [l1,l2]) fun o h3 h4=>?_
 have:=h i o hi (by rw [<- l1];exact h3)
 unfold mg at this
 rw [e1,e2,getElem!_pos _ o h3,getElem!_pos _ o h4] at this
 exact this
theorem Zx {n c:Nat}{M N:Mat}(hM:Shape n c M)(hN:Shape n c N)(h1:LeM M N)(h2:LeM N M):M=N:=
 Al7 hM hN fun i o _ _=>by
  cases h:mg M i o with
  |true=>exact (h1 i o h).symm
  |false=>
   cases k:mg N i o with
   |false=>rfl
   |true=>rw [h2 i o k] at h;cases h
def setT (M:Mat)(i o:Nat):Mat:=M.set i ((M[i]!).set o true)
theorem Kk {n c:Nat}{M:Mat}(h:Shape n c M){i o:Nat}(hi:i<n):Shape n c (setT M i o):=by
 refine ⟨by simp [setT,h.rows],fun j hj=>?_⟩
 unfold setT
 rw [Ek _ _ _ _ (by rw [h.rows];exact hj)]
 split
 ·rename_i e;subst e;rw [List.length_set];exact h.cols _ hi
 ·exact h.cols j hj
theorem Q9 {n c:Nat}{M:Mat}(h:Shape n c M){i o j q:Nat}(hi:i<n)(ho:o<c):mg (setT M i o) j q=if i=j/\o=q then true else mg M j q:=by
 by_cases hjq:j<n/\q<c
 ·unfold mg setT
  rw [Ek _ _ _ _ (by rw [h.rows];exact hjq.1)]
  by_cases e:i=j
  ·subst e
   rw [if_pos rfl]
   have hl:=h.cols i hi
   rw [getElem!_pos _ q (by rw [List.length_set,hl];exact hjq.2),List.getElem_set]
   by_cases e2:o=q
   ·simp [e2]
   ·rw [if_neg e2,if_neg (by simp [e2]),getElem!_pos _ q (by rw [hl];exact hjq.2)]
  ·rw [if_neg e,if_neg (by simp [e])]
 ·rw [Ka (Kk h hi) hjq,Ka h hjq,if_neg (by rintro ⟨rfl,rfl⟩;exact hjq ⟨hi,ho⟩)]
structure Tr (n c:Nat)(P:Mat->Prop)(Q:Prop)(M M':Mat)(b:Bool):Prop where
 sh:Shape n c M'
 le:LeM M M'
 least:∀ N,LeM M N->P N->LeM M' N
 no:b=false->M'=M/\Q
 yes:b=true->M'≠M
section
variable {n c:Nat}{P P2:Mat->Prop}{Q Q':Prop}{M M1 M2:Mat}{b b2:Bool}
theorem Tr.start (hs:Shape n c M)(hq:Q):Tr n c P Q M M false:=⟨hs,LeM.refl _,fun _ h _=>h,fun _=>⟨rfl,hq⟩,nofun⟩
theorem Tr.weak (h:Tr n c P Q M M1 b)(hQ:b=false->M1=M->Q->Q'):Tr n c P Q' M M1 b:=⟨h.sh,h.le,h.least,fun e=>⟨(h.no e).1,hQ e (h.no e).1 (h.no e).2⟩,h.yes⟩
theorem Tr.step (hM:Shape n c M)(h:Tr n c P Q M M1 b)(k:Tr n c P2 (P2 M1) M1 M2 b2)(hP:∀ N,LeM M1 N->P N->P2 N)(hQ:Q->P2 M->Q'):Tr n c P Q' M M2 (b||b2):=by
 refine ⟨k.sh,h.le.trans k.le,fun N hN hp=>?_,fun e=>?_,fun e he=>?_⟩
 ·have h1:=h.least N hN hp
  exact k.least N h1 (hP N h1 hp)
 ·simp only [Bool.or_eq_false_iff] at e
  obtain ⟨e1,q1⟩:=h.no e.1
  obtain ⟨e2,q2⟩:=k.no e.2
  subst e1
  exact ⟨e2,hQ q1 q2⟩
 ·subst he
  have e1:M1=M2:=Zx h.sh hM k.le h.le
  subst e1
  cases hb:b with
  |true=>exact h.yes hb rfl
  |false=>rw [hb,Bool.false_or] at e;exact k.yes e rfl
theorem Tr.one (hM:Shape n c M){i o:Nat}(hi:i<n)(ho:o<c)(hno:mg M i o=false)(hP:∀ N,LeM M N->P N->mg N i o=true):Tr n c P Q M (setT M i o) true:=by
 refine ⟨Kk hM hi,fun j q h=>by rw [Q9 hM hi ho];split<;>first|rfl|exact h,fun N hN hp j q h=>?_,nofun,fun _ e=>?_⟩
 ·rw [Q9 hM hi ho] at h
  split at h
  ·rename_i e
   obtain ⟨rfl,rfl⟩:=e
   exact hP N hN hp
  ·exact hN j q h
 ·have:=Q9 hM hi ho (j:=i) (q:=o)
  rw [e,if_pos ⟨rfl,rfl⟩,hno] at this
  cases this
theorem Tr.told (h:Tr n c P Q M M1 b)(hP:∀ N,LeM M N->P2 N->P N)(hQ:Q->Q'):Tr n c P2 Q' M M1 b:=⟨h.sh,h.le,fun N hN hp=>h.least N hN (hP N hN hp),fun e=>⟨(h.no e).1,hQ (h.no e).2⟩,h.yes⟩
end
def Ns (t f:Int)(N:Mat):Prop:=0<=t->0<=f->∀ o,mg N f.toNat o=true->mg N t.toNat o=true
def Am1 (c:Con)(x:Cell)(N:Mat):Prop:=
 (c.k=3->x.fn=false->Ns c.a x.v N)/\(c.k=4->x.fn=false->Ns x.v c.b N) /\
 (c.k=5->x.fn=true->Ns c.a x.v N/\∀ k,k<x.args.length->k<c.args.length->Ns x.args[k]! c.args[k]! N)
def Cs (c:Con):Nat:=(if c.k=4 then c.a else c.b).toNat
def Ao4 (xs:List Cell)(c:Con)(N:Mat):Prop:=
 (c.k=1->mg N c.a.toNat c.b.toNat=true)/\(c.k=2->Ns c.a c.b N)/\(¬c.k=1->¬c.k=2->∀ o,o<xs.length->mg N (Cs c) o=true->Am1 c xs[o]! N)
def Do (s:Sys)(N:Mat):Prop:=∀ i,i<s.cons.length->Ao4 s.cells s.cons[i]! N
structure IsLeast (s:Sys)(M:Mat):Prop where
 sh:Shape s.vars.toNat s.cells.length M
 closed:Do s M
 least:∀ N,Do s N->LeM M N
theorem IsLeast.unique {s:Sys}{M N:Mat}(h:IsLeast s M)(k:IsLeast s N):M=N:=Zx h.sh k.sh (h.least N k.closed) (k.least M h.closed)
def cnt (M:Mat):Nat:=(M.map fun r=>r.countP id).sum
theorem Asz {n c:Nat}{M:Mat}(h:Shape n c M):cnt M<=n*c:=by
 have:∀ l:Mat,(∀ r∈l,r.length=c)->(l.map fun r=>r.countP id).sum<=l.length*c:=by
  intro l
  induction l with
  |nil=>simp
  |cons r l ih=>
   intro hl
   have h1:=ih fun x hx=>hl x (by simp [hx])
   have h2:=List.countP_le_length (p:=id) (l:=r)
   rw [hl r (by simp)] at h2
   simp only [List.map_cons,List.sum_cons,List.length_cons,Nat.succ_mul]
   omega
 have h1:=this M fun r hr=>by
  obtain ⟨i,hi,e⟩:=List.getElem_of_mem hr
  have:=h.cols i (by rw [<- h.rows];exact hi)
  rwa [getElem!_pos M i hi,e] at this
 rw [h.rows] at h1
 exact h1
theorem Zk {n c:Nat}{M N:Mat}(hM:Shape n c M)(hN:Shape n c N)(h:LeM M N)(hne:N≠M):cnt M<cnt N:=by
 have row:∀ (a b:List Bool),a.length=b.length->(∀ o:Nat,a[o]! = true->b[o]! = true)->a.countP id<=b.countP id/\(a≠b->a.countP id<b.countP id):=by
  intro a
  induction a with
  |nil=>intro b hb _;have:b=[]:=List.eq_nil_of_length_eq_zero hb.symm;subst this;simp
  |cons x a ih=>
   intro b hb hle
   cases b with
   |nil=>simp at hb
   |cons y b=>
    have h1:=ih b (by simpa using hb) fun o ho=>by simpa using hle (o+1) (by simpa using ho)
    have h0:x=true->y=true:=by simpa using hle 0
    refine ⟨?_,fun hne=>?_⟩
    ·cases x<;>cases y<;>simp_all<;>omega
    ·by_cases e:a=b
     ·subst e
      cases x<;>cases y<;>simp_all
     ·have:=h1.2 e
      cases x<;>cases y<;>simp_all<;>omega
 have mat:∀ (k:Mat) (l:Mat),k.length=l.length->(∀ i,i<k.length->k[i]!.length=l[i]!.length)->(∀ i o,mg k i o=true->mg l i o=true)->cnt k<=cnt l/\(k≠l->cnt k<cnt l):=by
  intro k
  induction k with
  |nil=>intro l hl _ _;have:l=[]:=List.eq_nil_of_length_eq_zero hl.symm;subst this;simp
  |cons x k ih=>
   intro l hl hc hle
   cases l with
   |nil=>simp at hl
   |cons y l=>
    have h1:=ih l (by simpa using hl) (fun i hi=>by simpa using hc (i+1) (by simpa using hi)) fun i o ho=>by simpa [mg] using hle (i+1) o (by simpa [mg] using ho)
    have h0:=row x y (by simpa using hc 0 (by simp)) fun o ho=>by simpa [mg] using hle 0 o (by simpa [mg] using ho)
    have e1:cnt (x::k)=x.countP id+cnt k:=by simp [cnt]
    have e2:cnt (y::l)=y.countP id+cnt l:=by simp [cnt]
    rw [e1,e2]
    refine ⟨by omega,fun hne=>?_⟩
    by_cases e:x=y
    ·subst e
     have:=h1.2 (fun e=>hne (by rw [e]))
     omega
    ·have:=h0.2 e
     omega
 exact (mat M N (by rw [hM.rows,hN.rows]) (fun i hi=>by rw [hM.rows] at hi;rw [hM.cols i hi,hN.cols i hi]) h).2 fun e=>hne e.symm
structure Keeps (rb:List Nat)(w w':World):Prop where
 os:w'.os=w.os
 tape:w'.tape=w.tape
 output:w'.output=w.output
 size:w.heap.size<=w'.heap.size
 block:∀ k,k<w.heap.size->k∉rb->w'.heap[k]?=w.heap[k]?
section
variable {rb:List Nat}{w w1 w2:World}
theorem Keeps.of (h:Below w.heap.size w w1):Keeps rb w w1:=⟨h.os,h.tape,h.output,h.size,fun k hk _=>h.block k hk⟩
theorem Keeps.refl (rb:List Nat)(w:World):Keeps rb w w:=Keeps.of (Below.refl _ _)
theorem Keeps.trans (h:Keeps rb w w1)(k:Keeps rb w1 w2):Keeps rb w w2:=
 ⟨k.os.trans h.os,k.tape.trans h.tape,k.output.trans h.output,Nat.le_trans h.size k.size,fun i hi hn=>(k.block i (Nat.lt_of_lt_of_le hi h.size) hn).trans (h.block i hi hn)⟩
theorem Keeps.put (h:Keeps rb w w1){g:Nat}{cs:List Value}{t:TypeId}(hp:Put w1 w2 g cs t)(hg:g∈rb):Keeps rb w w2:=
 h.trans ⟨hp.grown.os,hp.grown.tape,hp.grown.output,hp.grown.size,fun k hk hn=>hp.grown.block k hk (by simp;intro e;subst e;exact hn hg)⟩
theorem Keeps.up (h:Keeps rb w w1)(k:Below w1.heap.size w1 w2):Keeps rb w w2:=h.trans (Keeps.of k)
theorem Keeps.blk (h:Keeps rb w w1){g:Nat}{o:Obj}(hb:w.heap[g]?=some o)(hn:g∉rb):w1.heap[g]?=some o:=(h.block g (Ae hb) hn).trans hb
theorem Keeps.below {w0:World}{B:Nat}(h:Keeps rb w w1)(hb:Below B w0 w)(hB:B<=w.heap.size)(hr:∀ k∈rb,B<=k):Below B w0 w1:=
 hb.trans ⟨h.os,h.tape,h.output,h.size,fun k hk=>h.block k (Nat.lt_of_lt_of_le hk hB) fun hm=>by have:=hr k hm;omega⟩
end
structure BMat (base:Nat)(w:World)(A:Option Addr)(M:Mat)(rb:List Nat)(n nc:Nat):Prop where
 sh:Shape n nc M
 len:rb.length=n
 cell:∀ i,i<n->∃ ad,A=some ad/\ad.block∉rb/\w.cell? (ad.add (i*1))=some (.slice (some ⟨rb[i]!,0,none⟩) nc nc)
 blk:∀ i,i<n->w.heap[rb[i]!]?=some (.cells (vb M[i]!).toArray 4 (0,0))
 ge:∀ k∈rb,base<=k/\k<w.heap.size
 inj:∀ i j,i<n->j<n->i≠j->rb[i]! ≠ rb[j]!
section
variable {base:Nat}{w w1:World}{A:Option Addr}{M:Mat}{rb:List Nat}{n nc:Nat}
theorem BMat.mem (h:BMat base w A M rb n nc){i:Nat}(hi:i<n):rb[i]! ∈ rb:=Cz (by rw [h.len];exact hi)
theorem BMat.up (h:BMat base w A M rb n nc)(hb:Below w.heap.size w w1):BMat base w1 A M rb n nc:=
 ⟨h.sh,h.len,fun i hi=>let ⟨ad,e,hn,hc⟩:=h.cell i hi;⟨ad,e,hn,Bn hb hc⟩,fun i hi=>Ac hb (h.blk i hi),fun k hk=>⟨(h.ge k hk).1,Nat.lt_of_lt_of_le (h.ge k hk).2 hb.size⟩,h.inj⟩
theorem BMat.cells (h:BMat base w A M rb n nc){i:Nat}(hi:i<n):∃ ad,A=some ad/\w.cell? (ad.add (i*1))=some (.slice (some ⟨rb[i]!,0,none⟩) nc nc):=let ⟨ad,e,_,hc⟩:=h.cell i hi;⟨ad,e,hc⟩
theorem BMat.bit (h:BMat base w A M rb n nc){i o:Nat}(hi:i<n)(ho:o<nc):w.cell? ((⟨rb[i]!,0,none⟩:Addr).add (o*1))=some (.bool (mg M i o)):=by
 rw [Nat.mul_one,add_zero]
 have hl:=h.sh.cols i hi
 refine Au (h.blk i hi) ?_
 have:=List.getElem?_map (f:=Value.bool) (l:=M[i]!) (i:=o)
 simp only [vb,List.getElem?_toArray,List.getElem?_map]
 rw [List.getElem?_eq_getElem (by rw [hl];exact ho)]
 unfold mg
 rw [getElem!_pos (M[i]!) o (by rw [hl];exact ho)]
 rfl
theorem BMat.put (h:BMat base w A M rb n nc){i o:Nat}(hi:i<n)(hp:Put w w1 rb[i]! ((vb M[i]!).set o (.bool true)) 4):BMat base w1 A (setT M i o) rb n nc:=by
 refine ⟨Kk h.sh hi,h.len,fun j hj=>?_,fun j hj=>?_,fun k hk=>⟨(h.ge k hk).1,by rw [hp.size];exact (h.ge k hk).2⟩,h.inj⟩
 ·obtain ⟨ad,e,hn,hc⟩:=h.cell j hj
  refine ⟨ad,e,hn,?_⟩
  refine (World.cell?_of_block ?_).trans hc
  rw [Mt]
  have hlt:=World.block_lt_of_cell? w _ hc
  rw [Mt] at hlt
  refine hp.grown.block _ hlt fun e2=>hn ?_
  have e3:ad.block=rb[i]! := by simpa using e2
  rw [e3]
  exact h.mem hi
 ·by_cases e:i=j
  ·subst e
   have e2:(vb M[i]!).set o (.bool true)=vb (setT M i o)[i]! := by
    unfold setT
    rw [Ek _ _ _ _ (by rw [h.sh.rows];exact hi),if_pos rfl]
    simp [vb,List.map_set]
   rw [<- e2]
   exact hp.blk
  ·have e2:(setT M i o)[j]! = M[j]! := by
    unfold setT
    rw [Ek _ _ _ _ (by rw [h.sh.rows];exact hj),if_neg e]
   rw [e2]
   exact hp.old (h.blk j hj) (fun e3=>h.inj j i hj hi (fun q=>e q.symm) e3)
end
section
variable {n nc:Nat}{tt fr:Int}{M M':Mat}{b:Bool}{k:Nat}
end
theorem Keeps.low {rb:List Nat}{w0 w w1:World}{base:Nat}{A:Option Addr}{M:Mat}{n nc:Nat}(h:Keeps rb w w1)(hM:BMat base w A M rb n nc)(hb:Below w0.heap.size w0 w)(h0:w0.heap.size<=base):Below w0.heap.size w0 w1:=
 h.below hb hb.size fun k hk=>Nat.le_trans h0 (hM.ge k hk).1
structure GoodC (n nc:Nat)(c:Con):Prop where
 k:1<=c.k/\c.k<=5
 a:c.a<n
 a0:c.k<5->0<=c.a
 b0:0<=c.b
 b1:c.k=1->c.b<nc
 b:2<=c.k->c.b<n
 args:∀ j,j<c.args.length->c.args[j]!<n
theorem Bax {n nc:Nat}{c:Con}(h:B4 n nc c=true):GoodC n nc c:=by
 simp only [B4,Bool.and_eq_true,decide_eq_true_eq,Ff,List.all_eq_true] at h
 obtain ⟨⟨⟨⟨⟨⟨h1,h2⟩,h3,h4⟩,h5,h6⟩,_⟩,_⟩,h7⟩:=h
 refine ⟨⟨h1,h2⟩,h4,fun hk=>by rw [if_neg (by omega)] at h3;exact h3,h5,fun hk=>by rw [if_pos hk] at h6;exact h6,fun hk=>by rw [if_neg (by omega)] at h6;exact h6,fun j hj=>(h7 _ (Cz hj)).2⟩
structure GoodX (n:Nat)(x:Cell):Prop where
 v0:0<=x.v
 v:x.v<n
 args0:∀ j,j<x.args.length->0<=x.args[j]!
 args:∀ j,j<x.args.length->x.args[j]!<n
theorem Ay2 {n:Nat}{x:Cell}(h:Ee n x=true):GoodX n x:=by
 simp only [Ee,Bool.and_eq_true,decide_eq_true_eq,Ff,List.all_eq_true] at h
 exact ⟨h.1.1.1.1,h.1.1.1.2,fun j hj=>(h.2 _ (Cz hj)).1,fun j hj=>(h.2 _ (Cz hj)).2⟩
def sl (nc b:Nat):Value:=.slice (some ⟨b,0,none⟩) nc nc
structure MS (base gm:Nat)(w:World)(rb:List Nat)(n nc:Nat)(M:Mat):Prop where
 out:w.heap[gm]?=some (.cells ((rb.map (sl nc))++List.replicate (n - rb.length) (Value.slice none 0 0)).toArray 113 (0,0))
 le:rb.length<=n
 sh:Shape rb.length nc M
 blk:∀ i,i<rb.length->w.heap[rb[i]!]?=some (.cells (vb M[i]!).toArray 4 (0,0))
 ge:∀ k∈rb,base<=k/\k<w.heap.size/\k≠gm
 inj:∀ i j,i<rb.length->j<rb.length->i≠j->rb[i]! ≠ rb[j]!
section
variable {base gm:Nat}{w w1 w2:World}{rb:List Nat}{n nc:Nat}{M:Mat}
theorem MS.up (h:MS base gm w rb n nc M)(hb:Below w.heap.size w w1):MS base gm w1 rb n nc M:=
 ⟨Ac hb h.out,h.le,h.sh,fun i hi=>Ac hb (h.blk i hi),fun k hk=>⟨(h.ge k hk).1,Nat.lt_of_lt_of_le (h.ge k hk).2.1 hb.size,(h.ge k hk).2.2⟩,h.inj⟩
theorem MS.cell (h:MS base gm w rb n nc M){i:Nat}(hi:i<rb.length):w.cell? ((⟨gm,0,none⟩:Addr).add (i*1))=some (sl nc rb[i]!):=by
 rw [Nat.mul_one,add_zero]
 refine Au h.out ?_
 rw [getElem!_pos rb i hi]
 simp [List.getElem?_append_left,hi]
theorem MS.bmat (h:MS base gm w rb n nc M)(hg:gm∉rb):BMat base w (some ⟨gm,0,none⟩) M rb rb.length nc:=
 ⟨h.sh,rfl,fun i hi=>⟨_,rfl,hg,h.cell hi⟩,h.blk,fun k hk=>⟨(h.ge k hk).1,(h.ge k hk).2.1⟩,h.inj⟩
theorem MS.notin (h:MS base gm w rb n nc M):gm∉rb:=fun hm=>(h.ge gm hm).2.2 rfl
theorem Ep {α:Type}[Inhabited α](xs:List α)(x:α){i:Nat}(hi:i<xs.length+1):(xs++[x])[i]! = if i<xs.length then xs[i]! else x:=by
 rw [getElem!_pos _ i (by simpa using hi),List.getElem_append]
 split
 ·rename_i h
  rw [getElem!_pos xs i h]
 ·simp
theorem MS.snoc (h:MS base gm w rb n nc M)(hlt:rb.length<n){gr:Nat}(hn:New w w1 gr (List.replicate nc [Value.bool false]).flatten 4)(hb:base<=w.heap.size)(hgm:gm<w.heap.size)
  (hp:Put w1 w2 gm (((rb.map (sl nc))++List.replicate (n - rb.length) (Value.slice none 0 0)).set rb.length (sl nc gr)) 113):MS base gm w2 (rb++[gr]) n nc (M++[List.replicate nc false]):=by
 have hgr:=hn.at_
 have hl:(rb++[gr]).length=rb.length+1:=by simp
 have hMl:M.length=rb.length:=h.sh.rows
 have e1:((rb.map (sl nc))++List.replicate (n - rb.length) (Value.slice none 0 0)).set rb.length (sl nc gr)=((rb++[gr]).map (sl nc))++List.replicate (n - (rb++[gr]).length) (Value.slice none 0 0):=by
  rw [List.set_append_right _ _ (by simp),hl]
  rw [show n - rb.length=(n - (rb.length+1))+1 by omega,List.replicate_succ]
  simp
 rw [e1] at hp
 have old:∀ i,i<rb.length->rb[i]!<w.heap.size/\rb[i]! ≠ gm:=fun i hi=>⟨(h.ge _ (Cz hi)).2.1,(h.ge _ (Cz hi)).2.2⟩
 refine ⟨hp.blk,by omega,⟨by simp [hMl],fun i hi=>?_⟩,fun i hi=>?_,fun k hk=>?_,fun i j hi hj hij=>?_⟩
 ·rw [Ep _ _ (by omega)]
  split
  ·rename_i hi';exact h.sh.cols i (by omega)
  ·simp
 ·rw [hl] at hi
  rw [Ep _ _ hi,Ep _ _ (by omega),hMl]
  by_cases hi':i<rb.length
  ·rw [if_pos hi',if_pos hi']
   exact hp.old (hn.old (h.blk i hi')) (old i hi').2
  ·rw [if_neg hi',if_neg hi']
   have e2:vb (List.replicate nc false)=(List.replicate nc [Value.bool false]).flatten:=by simp [vb]
   rw [e2]
   exact hp.old hn.blk (by omega)
 ·rw [hp.size,hn.size]
  rcases List.mem_append.1 hk with hk|hk
  ·have:=h.ge k hk;exact ⟨this.1,by omega,this.2.2⟩
  ·simp only [List.mem_singleton] at hk
   subst hk
   exact ⟨by omega,by omega,by omega⟩
 ·rw [hl] at hi hj
  rw [Ep _ _ hi,Ep _ _ hj]
  by_cases h1:i<rb.length<;>by_cases h2:j<rb.length
  ·rw [if_pos h1,if_pos h2];exact h.inj i j h1 h2 hij
  ·rw [if_pos h1,if_neg h2];have:=(old i h1).1;omega
  ·rw [if_neg h1,if_pos h2];have:=(old j h2).1;omega
  ·omega
theorem MS.put (h:MS base gm w rb n nc M){i o:Nat}(hi:i<rb.length)(hp:Put w w1 rb[i]! ((vb M[i]!).set o (.bool true)) 4):MS base gm w1 rb n nc (setT M i o):=by
 have hb:=(h.bmat h.notin).put hi hp
 exact ⟨hp.old h.out (fun e=>(h.ge _ (Cz hi)).2.2 e.symm),h.le,hb.sh,hb.blk,fun k hk=>⟨(h.ge k hk).1,by rw [hp.size];exact (h.ge k hk).2.1,(h.ge k hk).2.2⟩,h.inj⟩
end
def dSl (nc:Nat):Dec Nat:=fun _ cs b=>cs=[sl nc b]
structure RM (base:Nat)(w:World)(V:Value)(rb:List Nat)(nc:Nat)(M:Mat):Prop where
 row:GRow 1 (dSl nc) 113 base w V rb rb
 sh:Shape rb.length nc M
 blk:∀ i,i<rb.length->w.heap[rb[i]!]?=some (.cells (vb M[i]!).toArray 4 (0,0))
 inj:∀ i j,i<rb.length->j<rb.length->i≠j->rb[i]! ≠ rb[j]!
section
variable {base:Nat}{w w1:World}{V V':Value}{rb:List Nat}{nc:Nat}{M:Mat}
theorem RM.nil (base:Nat)(w:World)(nc:Nat):RM base w (.slice none 0 0) [] nc []:=⟨GRow.nil ..,⟨rfl,by simp⟩,by simp,by simp⟩
theorem RM.up (h:RM base w V rb nc M)(hb:Below w.heap.size w w1):RM base w1 V rb nc M:=
 ⟨h.row.below hb,h.sh,fun i hi=>Ac hb (h.blk i hi),h.inj⟩
theorem RM.lt (h:RM base w V rb nc M):∀ k∈rb,base<=k/\k<w.heap.size:=h.row.lt
theorem RM.bmat {A:Option Addr}{n c:Nat}(h:RM base w (.slice A n c) rb nc M):BMat base w A M rb rb.length nc:=by
 refine ⟨h.sh,rfl,fun i hi=>?_,h.blk,h.lt,h.inj⟩
 obtain ⟨_,_,hr⟩:=h.row.rowAt
 obtain ⟨ad,cs,e,_,hc,hd⟩:=Hb hr i hi
 subst e
 have hd:cs=[sl nc rb[i]!]:=hd
 subst hd
 refine ⟨ad,rfl,fun hm=>?_,hc.1⟩
 exact h.row.ne _ hm rfl
theorem RM.snoc {flat:List Value}{gr:Nat}{r:List Bool}(h:RM base w V rb nc M)(hflat:∀ w',(∀ b∈rb,w'.heap[b]?=w.heap[b]?)->Elems 1 (dSl nc) w' flat rb)
  (hown:w1.ownsRow base 113 1 V' (rb.length+1) (flat++[sl nc gr])) (hg:w.grownBy w1 V.ownBlock) (hob:V'.ownBlock=V.ownBlock\/V'.ownBlock=some w.heap.size)
  (hr:w.heap[gr]?=some (.cells (vb r).toArray 4 (0,0))) (hl:r.length=nc) (hb:base<=gr) (hne:some gr≠V.ownBlock) (hni:gr∉rb):RM base w1 V' (rb++[gr]) nc (M++[r]):=by
 have hlt:=Ae hr
 have hM:=h.sh.rows
 refine ⟨h.row.push hflat hown hg hob rfl (bs':=[gr]) (x:=gr) (fun _ _=>rfl) (by simp;exact ⟨hb,hlt⟩) (by simpa using hne),⟨by simp [hM],fun i hi=>?_⟩,fun i hi=>?_,fun i j hi hj hij=>?_⟩
 ·have hi:i<rb.length+1:=by simpa using hi
  rw [Ep _ _ (by omega)]
  split
  ·exact h.sh.cols i (by omega)
  ·exact hl
 ·have hi:i<rb.length+1:=by simpa using hi
  rw [Ep _ _ hi,Ep _ _ (by omega),hM]
  by_cases hi':i<rb.length
  ·rw [if_pos hi',if_pos hi']
   exact (hg.block _ (h.lt _ (Cz hi')).2 (h.row.ne _ (Cz hi'))).trans (h.blk i hi')
  ·rw [if_neg hi',if_neg hi']
   exact (hg.block _ hlt hne).trans hr
 ·have hi:i<rb.length+1:=by simpa using hi
  have hj:j<rb.length+1:=by simpa using hj
  rw [Ep _ _ hi,Ep _ _ hj]
  by_cases h1:i<rb.length<;>by_cases h2:j<rb.length
  ·rw [if_pos h1,if_pos h2];exact h.inj i j h1 h2 hij
  ·rw [if_pos h1,if_neg h2];exact fun e=>hni (e▸Cz h1)
  ·rw [if_neg h1,if_pos h2];exact fun e=>hni (e▸Cz h2)
  ·omega
end
end Go.Proofs.YtghmdfegfehhkaaGreatDoor
namespace Go.Proofs.YtghmdfegfehhkaaGreatDoor
inductive PathL (E:Nat->Nat->Prop):List Nat->Nat->Nat->Prop
 |one (v:Nat):PathL E [v] v v
 |cons {v w u:Nat} {p:List Nat}:E v w->PathL E p w u->PathL E (v::p) v u
theorem PathL.cut {E:Nat->Nat->Prop}{p:List Nat}{a u:Nat}(h:PathL E p a u):∀ {v:Nat},v∈p->∃ q,PathL E q v u/\q.Sublist p:=by
 induction h with
 |one x=>intro v hv;simp at hv;subst hv;exact ⟨[v],.one v,List.Sublist.refl _⟩
 |@cons b w u p e k ih=>
  intro v hv
  rcases List.mem_cons.1 hv with rfl|hv
  ·exact ⟨v::p,.cons e k,List.Sublist.refl _⟩
  ·obtain ⟨q,h1,h2⟩:=ih hv
   exact ⟨q,h1,h2.cons _⟩
theorem Rch.path {E:Nat->Nat->Prop}{a b:Nat}(h:Rch E a b):∃ p,PathL E p a b/\p.Nodup:=by
 induction h with
 |refl v=>exact ⟨[v],.one v,by simp⟩
 |@step v w u e _ ih=>
  obtain ⟨p,h1,h2⟩:=ih
  by_cases hv:v∈p
  ·obtain ⟨q,h3,h4⟩:=h1.cut hv
   exact ⟨q,h3,h2.sublist h4⟩
  ·exact ⟨v::p,.cons e h1,List.nodup_cons.2 ⟨hv,h2⟩⟩
theorem Ed.lt {g:List (List Int)}{v w:Nat}(h:Ed g v w):v<g.length/\w<g.length:=let ⟨_,h⟩:=h;⟨h.1,h.2.1⟩
theorem PathL.nodes {g:List (List Int)}{p:List Nat}{a b:Nat}(h:PathL (Ed g) p a b):b<g.length->∀ x∈p,x<g.length:=by
 induction h with
 |one v=>intro hb x hx;simp at hx;subst hx;exact hb
 |cons e _ ih=>
  intro hb x hx
  rcases List.mem_cons.1 hx with rfl|hx
  ·exact e.lt.1
  ·exact ih hb x hx
def Rnd (g:List (List Int))(M M':Mat)(m:Nat):Prop:=∀ v,v<m->∀ j w,EdK g v j w->∀ o,mg M w o=true->mg M' v o=true
def Far (g:List (List Int))(M:Mat)(i:Nat):Prop:=∀ p a b,PathL (Ed g) p a b->b<g.length->p.length<=i+1->mg M a b=true
theorem Far.next {g:List (List Int)}{M M':Mat}{i:Nat}(h:Far g M i)(hle:LeM M M')(hr:Rnd g M M' g.length):Far g M' (i+1):=by
 intro p a b hp hb hl
 cases hp with
 |one v=>exact hle _ _ (h [a] a a (.one a) hb (by simp))
 |@cons _ w _ q e k=>
  have h1:=h q w b k hb (by simpa using hl)
  obtain ⟨j,hj⟩:=e
  exact hr a hj.1 j w hj b h1
end Go.Proofs.YtghmdfegfehhkaaGreatDoor
namespace Go.Proofs.YtghmdfegfehhkaaGreatDoor
def CpE (s:Sys)(v u:Nat):Prop:=∃ c∈s.cons,c.k=2/\c.a=(v:Int)/\c.b=(u:Int)
def Aw9 (n c:Nat)(s:Sys)(v k:Nat):Prop:=∃ x∈s.cons,x.a=(v:Int)/\((x.k=1/\x.b=(k:Int))\/(x.k=3/\(k:Int)=c+n+x.b))
def Aj1 (n c:Nat)(s:Sys)(v k:Nat):Prop:=Aw9 n c s v k\/(k=c+v/\Fd s v=true)
def Src (n c:Nat)(s:Sys)(v k:Nat):Prop:=∃ u,Rch (CpE s) v u/\Aj1 n c s u k
theorem Src.seed {n c:Nat}{s:Sys}{v k:Nat}(h:Aj1 n c s v k):Src n c s v k:=⟨v,.refl v,h⟩
theorem Src.copy {n c:Nat}{s:Sys}{v u k:Nat}(h:CpE s v u)(h2:Src n c s u k):Src n c s v k:=by
 obtain ⟨x,h3,h4⟩:=h2
 exact ⟨x,.step h h3,h4⟩
def RdC (n c:Nat)(x:Con)(M M':Mat):Prop:=
 (x.k=1->mg M' x.a.toNat x.b.toNat=true)/\(x.k=3->mg M' x.a.toNat (c+n+x.b.toNat)=true)/\(x.k=2->∀ k,mg M x.b.toNat k=true->mg M' x.a.toNat k=true)
def RdK (n c:Nat)(s:Sys)(M M':Mat)(j:Nat):Prop:=∀ i,i<j->RdC n c s.cons[i]! M M'
theorem RdC.up {n c:Nat}{x:Con}{M M1 M2:Mat}(h:RdC n c x M M1)(hle:LeM M1 M2):RdC n c x M M2:=
 ⟨fun e=>hle _ _ (h.1 e),fun e=>hle _ _ (h.2.1 e),fun e k hk=>hle _ _ (h.2.2 e k hk)⟩
theorem RdK.next {n c:Nat}{s:Sys}{M M1 M2:Mat}{j:Nat}(h:RdK n c s M M1 j)(hle:LeM M1 M2)(hj:RdC n c s.cons[j]! M M2):RdK n c s M M2 (j+1):=fun i hi=>by
 by_cases e:i=j
 ·subst e
  exact hj
 ·exact (h i (by omega)).up hle
def FarS (n c:Nat)(s:Sys)(M:Mat)(r:Nat):Prop:=∀ p v u k,u<n->PathL (CpE s) p v u->Aj1 n c s u k->p.length<=r->mg M v k=true
theorem FarS.next {n c:Nat}{s:Sys}{M M':Mat}{r:Nat}(h:FarS n c s M r)(hb:∀ x∈s.cons,0<=x.b)(hl:∀ v:Nat,v<n->Fd s v=true->mg M v (c+v)=true)(hle:LeM M M')(hr:RdK n c s M M' s.cons.length):FarS n c s M' (r+1):=by
 have at_:∀ x∈s.cons,RdC n c x M M':=fun x hx=>by
  obtain ⟨i,hi,rfl⟩:=List.getElem_of_mem hx
  have:=hr i hi
  rwa [getElem!_pos _ i hi] at this
 intro p v u k hu hp hs hlen
 cases hp with
 |one=>
  rcases hs with ⟨x,hx,ha,hk⟩|⟨rfl,hlo⟩
  ·have hc:=at_ x hx
   rcases hk with ⟨h1,h2⟩|⟨h1,h2⟩
   ·have:=hc.1 h1
    rw [ha,h2] at this
    simpa using this
   ·have:=hc.2.1 h1
    rw [ha] at this
    have:=hb x hx
    have e:c+n+x.b.toNat=k:=by omega
    rename_i h3
    rw [e] at h3
    simpa using h3
  ·exact hle _ _ (hl v hu hlo)
 |@cons _ w _ q e k2=>
  obtain ⟨x,hx,h1,h2,h3⟩:=e
  have:=(at_ x hx).2.2 h1 k
  rw [h2,h3] at this
  simp only [Int.toNat_natCast] at this
  exact this (h q w u k hu k2 hs (by simpa using hlen))
end Go.Proofs.YtghmdfegfehhkaaGreatDoor
namespace Go.Proofs.YtghmdfegfehhkaaGreatDoor
def fZ (K:Nat)(f:Nat->Int):List Value:=(List.range K).map fun k=>Value.int .i64 (f k)
theorem Ij (K:Nat)(f:Nat->Int):(fZ K f).length=K:=by simp [fZ]
theorem Ab0 {K k:Nat}{f:Nat->Int}(h:k<K):(fZ K f)[k]?=some (.int .i64 (f k)):=by simp [fZ,h]
theorem Io (K:Nat)(f:Nat->Int)(k:Nat)(x:Int):(fZ K f).set k (.int .i64 x)=fZ K (Bf f k x):=by
 unfold fZ
 rw [Ih]
 congr 1
 funext j
 unfold Bf
 split<;>rfl
theorem Ls (n:Nat):(List.replicate n [Value.int .i64 0]).flatten=fZ n fun _=>0:=by
 induction n with
 |zero=>rfl
 |succ n ih=>
  have e:fZ (n+1) (fun _=>0)=fZ n (fun _=>0)++[Value.int .i64 0]:=by simp [fZ,List.range_succ]
  rw [e,<- ih,List.replicate_succ']
  simp
structure GOk (vars:Nat)(into bases:List (List Int))(lo:List Bool):Prop where
 ni:into.length=2*vars
 nb:bases.length=vars
 nl:lo.length=2*vars
 small:vars<=16384
 ri:∀ v,v<into.length->∀ x∈into[v]!,0<=x/\x<(into.length:Int)
 rb:∀ v,v<bases.length->∀ x∈bases[v]!,0<=x/\x<16384
theorem KnOk.down {into:List (List Int)}{kn:List (List Nat)}{of:Nat->Nat}(h:KnOk into kn of)(hri:∀ v,v<into.length->∀ x∈into[v]!,0<=x/\x<(into.length:Int)){k v:Nat}(hk:k<kn.length)(hv:v∈kn[k]!):v<into.length/\∀ x∈into[v]!,of x.toNat<=k:=by
 obtain ⟨h1,h2⟩:=(h.kn k hk).2.2 v hv
 refine ⟨h1,fun x hx=>?_⟩
 obtain ⟨h3,h4⟩:=hri v h1 x hx
 obtain ⟨j,hj,e⟩:=List.getElem_of_mem hx
 have he:Ed into v x.toNat:=⟨j,h1,by omega,hj,by rw [getElem!_pos _ j hj,e];omega⟩
 rw [<- h2]
 exact h.ord v x.toNat h1 (by omega) (.one he)
theorem Mf {p:Int->Prop}{M:List (List Int)}{a x:Int}(h:∀ v,v<M.length->∀ y∈M[v]!,p y)(hx:p x):∀ v,v<(Gp M a x).length->∀ y∈(Gp M a x)[v]!,p y:=fun v hv y hy=>by
 unfold Gp at hv hy
 have hv:v<M.length:=by simpa using hv
 rw [Ek _ _ _ _ hv] at hy
 split at hy
 ·rename_i e
  rcases List.mem_append.1 hy with h1|h1
  ·exact h v hv y (e▸h1)
  ·simp at h1;rw [h1];exact hx
 ·exact h v hv y hy
theorem Qr {n m:Nat}(hm:m<=16384):∀ (l:List Con) (p:List (List Int)×List (List Int)),(∀ c∈l,B4 (n:Int) m c=true)->(∀ v,v<p.1.length->∀ y∈p.1[v]!,0<=y/\y<2*(n:Int))->(∀ v,v<p.2.length->∀ y∈p.2[v]!,0<=y/\y<16384) ->
  (∀ v,v<(l.foldl (Cc n) p).1.length->∀ y∈(l.foldl (Cc n) p).1[v]!,0<=y/\y<2*(n:Int))/\∀ v,v<(l.foldl (Cc n) p).2.length->∀ y∈(l.foldl (Cc n) p).2[v]!,0<=y/\y<16384
 |[],p,_,h1,h2=>⟨h1,h2⟩
 |c::l,p,hc,h1,h2=>by
  have hck:=hc c (by simp)
  simp only [B4,Ff,Bool.and_eq_true,decide_eq_true_eq] at hck
  have hb:=hck.1.1.1.2
  refine Qr hm l (Cc n p c) (fun d hd=>hc d (by simp [hd])) ?_ ?_
  ·unfold Cc
   split
   ·exact h1
   ·split
    ·rename_i k1 k2
     rw [if_neg k1] at hb
     exact Mf h1 ⟨by omega,by omega⟩
    ·split
     ·rename_i k1 k2 k3
      rw [if_neg k1] at hb
      exact Mf h1 ⟨by omega,by omega⟩
     ·exact h1
  ·unfold Cc
   split
   ·rename_i k1
    rw [if_pos k1] at hb
    exact Mf h2 ⟨by omega,by omega⟩
   ·split
    ·exact h2
    ·split
     ·exact h2
     ·exact h2
theorem gok {n:Nat}{xs:List Cell}{ys:List Con}(hr:Ba ⟨n,xs,ys⟩=true):GOk n (El ⟨n,xs,ys⟩).1 (El ⟨n,xs,ys⟩).2 (B7 ⟨n,xs,ys⟩++List.replicate n true):=by
 simp only [Ba,Hl,Bool.and_eq_true,decide_eq_true_eq,List.all_eq_true] at hr
 have hl:=Hy (n:Int) ys (List.replicate (2*(n:Int).toNat) [],List.replicate (n:Int).toNat [])
 have h1:(El ⟨n,xs,ys⟩).1.length=2*n:=by
  have:(El ⟨n,xs,ys⟩).1.length=(List.replicate (2*(n:Int).toNat) ([]:List Int)).length:=hl.1
  rw [this]
  simp
 have h2:(El ⟨n,xs,ys⟩).2.length=n:=by
  have:(El ⟨n,xs,ys⟩).2.length=(List.replicate (n:Int).toNat ([]:List Int)).length:=hl.2
  rw [this]
  simp
 have h3:=Qr (n:=n) (m:=xs.length) (by omega) ys (List.replicate (2*(n:Int).toNat) [],List.replicate (n:Int).toNat []) hr.2 (fun v hv y hy=>by
  have hv:v<2*(n:Int).toNat:=by simpa using hv
  rw [getElem!_pos _ v (by simpa using hv)] at hy
  simp at hy) (fun v hv y hy=>by
  have hv:v<(n:Int).toNat:=by simpa using hv
  rw [getElem!_pos _ v (by simpa using hv)] at hy
  simp at hy)
 refine ⟨h1,h2,?_,by omega,fun v hv x hx=>?_,fun v hv x hx=>h3.2 v hv x hx⟩
 ·rw [List.length_append,Fz]
  simp
  omega
 ·have:=h3.1 v hv x hx
  rw [h1]
  omega
def GS (vars nc:Nat)(into bases:List (List Int))(lo:List Bool)(v k:Nat):Prop:=∃ u,Rg into v u/\((u<vars/\(k:Int)∈bases[u]!)\/(lo[u]! = true/\k=nc+u))
section
variable {vars nc:Nat}{into bases:List (List Int)}{lo:List Bool}{kn:List (List Nat)}{of:Nat->Nat}
theorem GS.rg {v u k:Nat}(h:Rg into v u)(g:GS vars nc into bases lo u k):GS vars nc into bases lo v k:=by
 obtain ⟨x,h1,h2⟩:=g
 exact ⟨x,h.trans h1,h2⟩
theorem Aq3 (hri:∀ v,v<into.length->∀ x∈into[v]!,0<=x/\x<(into.length:Int))(hK:KnOk into kn of){p v u:Nat}(h:Rg into v u):v<into.length->of v=p->of u≠p->∃ w∈kn[p]!,∃ x∈into[w]!,of x.toNat≠p/\Rg into x.toNat u:=by
 induction h with
 |refl v=>intro _ h1 h2;exact absurd h1 h2
 |@step v w u e r ih=>
  intro hv h1 h2
  obtain ⟨j,e1,e2,e3,e4⟩:=e
  by_cases hw:of w=p
  ·exact ih e2 hw h2
  ·refine ⟨v,by rw [<- h1];exact (hK.at_ v hv).2,(w:Int),by rw [<- e4,getElem!_pos _ j e3];exact List.getElem_mem e3,by rw [Int.toNat_natCast];exact hw,by rw [Int.toNat_natCast];exact r⟩
theorem Ae5 (hri:∀ v,v<into.length->∀ x∈into[v]!,0<=x/\x<(into.length:Int)){w:Nat}(hw:w<into.length){x:Int}(hx:x∈into[w]!):Ed into w x.toNat:=by
 obtain ⟨j,hj,e⟩:=List.getElem_of_mem hx
 have:=hri w hw x hx
 exact ⟨j,hw,by omega,hj,by rw [getElem!_pos _ j hj,e];omega⟩
theorem Nq (hri:∀ v,v<into.length->∀ x∈into[v]!,0<=x/\x<(into.length:Int))(hK:KnOk into kn of){p v k:Nat}(hp:p<kn.length)(hv:v∈kn[p]!):GS vars nc into bases lo v k ↔
  (∃ w∈kn[p]!,lo[w]! = true/\k=nc+w)\/(∃ w∈kn[p]!,w<vars/\(k:Int)∈bases[w]!)\/∃ w∈kn[p]!,∃ x∈into[w]!,of x.toNat≠p/\GS vars nc into bases lo x.toNat k:=by
 obtain ⟨hvl,hvp⟩:=(hK.kn p hp).2.2 v hv
 have hrg:∀ w∈kn[p]!,Rg into v w:=fun w hw=>by
  obtain ⟨h1,h2⟩:=(hK.kn p hp).2.2 w hw
  exact ((hK.scc v w hvl h1).1 (by rw [hvp,h2])).1
 constructor
 ·rintro ⟨u,h1,h2⟩
  have hul:u<into.length:=h1.closed (P:=fun x=>x<into.length) (fun a b _ e=>e.lt.2) hvl
  by_cases hu:of u=p
  ·have hm:u∈kn[p]! := by rw [<- hu];exact (hK.at_ u hul).2
   rcases h2 with h2|h2
   ·exact .inr (.inl ⟨u,hm,h2⟩)
   ·exact .inl ⟨u,hm,h2⟩
  ·obtain ⟨w,hw,x,hx,h3,h4⟩:=Aq3 hri hK h1 hvl hvp hu
   exact .inr (.inr ⟨w,hw,x,hx,h3,u,h4,h2⟩)
 ·rintro (⟨w,hw,h⟩|⟨w,hw,h⟩|⟨w,hw,x,hx,h3,h4⟩)
  ·exact ⟨w,hrg w hw,.inr h⟩
  ·exact ⟨w,hrg w hw,.inl h⟩
  ·have hwl:=((hK.kn p hp).2.2 w hw).1
   exact GS.rg ((hrg w hw).trans (.one (Ae5 hri hwl hx))) h4
end
theorem M0 {M:List (List Int)}{a x y:Int}{v:Nat}(hv:v<M.length):y∈(Gp M a x)[v]! ↔ y∈M[v]! \/ (a.toNat=v/\y=x):=by
 unfold Gp
 rw [Ek _ _ _ _ hv]
 split
 ·rename_i e
  subst e
  simp
 ·rename_i e
  constructor
  ·exact .inl
  ·rintro (h|⟨h,_⟩)
   ·exact h
   ·exact absurd h e
theorem Mx {n:Nat}{v:Nat}:∀ (l:List Con) (p:List (List Int)×List (List Int)),(∀ c∈l,¬c.k=5->0<=c.a) ->
  (v<p.1.length->∀ y,y∈(l.foldl (Cc n) p).1[v]! ↔ y∈p.1[v]! \/ ∃ c∈l,c.a=(v:Int)/\((c.k=2/\y=c.b)\/(c.k=3/\y=n+c.b))) /\
  (v<p.2.length->∀ y,y∈(l.foldl (Cc n) p).2[v]! ↔ y∈p.2[v]! \/ ∃ c∈l,c.a=(v:Int)/\c.k=1/\y=c.b)
 |[],p,_=>⟨fun _ y=>by simp,fun _ y=>by simp⟩
 |c::l,p,hc=>by
  have h5:=hc c (by simp)
  obtain ⟨i1,i2⟩:=Mx (n:=n) (v:=v) l (Cc n p c) (fun d hd=>hc d (by simp [hd]))
  have hlen:=Mm (n:Int) p c
  refine ⟨fun hv y=>?_,fun hv y=>?_⟩
  ·rw [List.foldl_cons,i1 (by rw [hlen.1];exact hv) y]
   have hst:y∈(Cc n p c).1[v]! ↔ y∈p.1[v]! \/ (c.a=(v:Int)/\((c.k=2/\y=c.b)\/(c.k=3/\y=n+c.b))):=by
    unfold Cc
    split
    ·rename_i k1
     constructor
     ·exact .inl
     ·rintro (h|⟨_,h⟩)
      ·exact h
      ·omega
    ·split
     ·rename_i k1 k2
      have:=h5 (by omega)
      simp only
      rw [M0 hv]
      refine or_congr Iff.rfl ⟨fun ⟨h1,h2⟩=>⟨by omega,.inl ⟨k2,h2⟩⟩,fun ⟨h1,h2⟩=>⟨by omega,?_⟩⟩
      omega
     ·split
      ·rename_i k1 k2 k3
       have:=h5 (by omega)
       simp only
       rw [M0 hv]
       refine or_congr Iff.rfl ⟨fun ⟨h1,h2⟩=>⟨by omega,.inr ⟨k3,h2⟩⟩,fun ⟨h1,h2⟩=>⟨by omega,?_⟩⟩
       omega
      ·rename_i k1 k2 k3
       constructor
       ·exact .inl
       ·rintro (h|⟨_,h⟩)
        ·exact h
        ·omega
   rw [hst]
   simp only [List.mem_cons,exists_eq_or_imp,or_assoc]
  ·rw [List.foldl_cons,i2 (by rw [hlen.2];exact hv) y]
   have hst:y∈(Cc n p c).2[v]! ↔ y∈p.2[v]! \/ (c.a=(v:Int)/\c.k=1/\y=c.b):=by
    unfold Cc
    split
    ·rename_i k1
     have:=h5 (by omega)
     simp only
     rw [M0 hv]
     exact or_congr Iff.rfl ⟨fun ⟨h1,h2⟩=>⟨by omega,k1,h2⟩,fun ⟨h1,_,h2⟩=>⟨by omega,h2⟩⟩
    ·rename_i k1
     have e:(if c.k=2 then (Gp p.1 c.a c.b,p.2) else if c.k=3 then (Gp p.1 c.a (n+c.b),p.2) else p).2=p.2:=by
      split
      ·rfl
      ·split<;>rfl
     rw [e]
     constructor
     ·exact .inl
     ·rintro (h|⟨_,h,_⟩)
      ·exact h
      ·omega
   rw [hst]
   simp only [List.mem_cons,exists_eq_or_imp,or_assoc]
section
variable {n:Nat}{xs:List Cell}{ys:List Con}
abbrev gInto (n:Nat)(xs:List Cell)(ys:List Con):List (List Int):=(El ⟨n,xs,ys⟩).1
abbrev gBases (n:Nat)(xs:List Cell)(ys:List Con):List (List Int):=(El ⟨n,xs,ys⟩).2
abbrev gLoose (n:Nat)(xs:List Cell)(ys:List Con):List Bool:=B7 ⟨n,xs,ys⟩++List.replicate n true
theorem I4 (hr:Ba ⟨n,xs,ys⟩=true):∀ c∈ys,0<=c.b/\(¬c.k=5->0<=c.a/\c.a<n)/\(c.k=1->c.b<(xs.length:Int))/\(¬c.k=1->c.b<n):=by
 simp only [Ba,Hl,Bool.and_eq_true,decide_eq_true_eq,List.all_eq_true] at hr
 intro c hc
 have:=hr.2 c hc
 simp only [B4,Ff,Bool.and_eq_true,decide_eq_true_eq] at this
 have ha:=this.1.1.1.1.2
 have hb:=this.1.1.1.2
 refine ⟨by omega,fun h5=>by rw [if_neg h5] at ha;omega,fun h1=>by rw [if_pos h1] at hb;omega,fun h1=>by rw [if_neg h1] at hb;omega⟩
theorem Vu {m v:Nat}(hv:v<m):(List.replicate m ([]:List Int))[v]! = []:=by
 rw [getElem!_pos _ v (by simpa using hv)]
 simp
theorem K9 (hr:Ba ⟨n,xs,ys⟩=true){v:Nat}(hv:v<2*n)(y:Int):y∈(gInto n xs ys)[v]! ↔ ∃ c∈ys,c.a=(v:Int)/\((c.k=2/\y=c.b)\/(c.k=3/\y=n+c.b)):=by
 have h:=(Mx (n:=n) (v:=v) ys (List.replicate (2*(n:Int).toNat) [],List.replicate (n:Int).toNat []) (fun c hc h5=>((I4 hr c hc).2.1 h5).1)).1 (by simpa using hv) y
 rw [show ((List.replicate (2*(n:Int).toNat) ([]:List Int),List.replicate (n:Int).toNat ([]:List Int)).1)[v]! = [] from Vu (by simpa using hv)] at h
 refine Iff.trans h ⟨fun q=>q.elim (fun q=>by cases q) id,.inr⟩
theorem Qc (hr:Ba ⟨n,xs,ys⟩=true){v:Nat}(hv:v<n)(y:Int):y∈(gBases n xs ys)[v]! ↔ ∃ c∈ys,c.a=(v:Int)/\c.k=1/\y=c.b:=by
 have h:=(Mx (n:=n) (v:=v) ys (List.replicate (2*(n:Int).toNat) [],List.replicate (n:Int).toNat []) (fun c hc h5=>((I4 hr c hc).2.1 h5).1)).2 (by simpa using hv) y
 rw [show ((List.replicate (2*(n:Int).toNat) ([]:List Int),List.replicate (n:Int).toNat ([]:List Int)).2)[v]! = [] from Vu (by simpa using hv)] at h
 refine Iff.trans h ⟨fun q=>q.elim (fun q=>by cases q) id,.inr⟩
theorem S2 {v:Nat}(hv:v<n):(gLoose n xs ys)[v]! = Fd ⟨n,xs,ys⟩ v:=by
 have hl:(B7 ⟨n,xs,ys⟩).length=n:=by rw [Fz];simp
 rw [getElem!_pos _ v (by simp [hl];omega),List.getElem_append_left (by omega),<- getElem!_pos _ v (by omega)]
 exact Va ⟨n,xs,ys⟩ (by simpa using hv)
theorem Ya {v:Nat}(hv:n<=v)(hv2:v<2*n):(gLoose n xs ys)[v]! = true:=by
 have hl:(B7 ⟨n,xs,ys⟩).length=n:=by rw [Fz];simp
 rw [getElem!_pos _ v (by simp [hl];omega),List.getElem_append_right (by omega)]
 simp
theorem Ml (hr:Ba ⟨n,xs,ys⟩=true){v k:Nat}(hv:v<n):GS n xs.length (gInto n xs ys) (gBases n xs ys) (gLoose n xs ys) v k↔Src n xs.length ⟨n,xs,ys⟩ v k:=by
 have hG:=gok hr
 have hni:=hG.ni
 have hcf:=I4 hr
 constructor
 ·rintro ⟨u,h1,h2⟩
  have main:∀ a b,Rg (gInto n xs ys) a b->a<n->((b<n/\(k:Int)∈(gBases n xs ys)[b]!)\/((gLoose n xs ys)[b]! = true/\k=xs.length+b))->Src n xs.length ⟨n,xs,ys⟩ a k:=by
   intro a b h
   induction h with
   |refl a=>
    intro ha hs
    rcases hs with ⟨_,h3⟩|⟨h3,h4⟩
    ·obtain ⟨c,hc,h5,h6,h7⟩:=(Qc hr ha _).1 h3
     exact .seed (.inl ⟨c,hc,h5,.inl ⟨h6,h7.symm⟩⟩)
    ·rw [S2 ha] at h3
     exact .seed (.inr ⟨h4,h3⟩)
   |@step a w b e r ih=>
    intro ha hs
    obtain ⟨j,e1,e2,e3,e4⟩:=e
    have hm:(w:Int)∈(gInto n xs ys)[a]! := by rw [<- e4,getElem!_pos _ j e3];exact List.getElem_mem e3
    obtain ⟨c,hc,h5,h6⟩:=(K9 hr (by omega) _).1 hm
    rcases h6 with ⟨k2,h7⟩|⟨k3,h7⟩
    ·have hw:w<n:=by have:=(hcf c hc).2.2.2 (by omega);omega
     exact .copy ⟨c,hc,k2,h5,h7.symm⟩ (ih hw hs)
    ·have hw:n<=w/\w<2*n:=by have:=hcf c hc;have:=this.2.2.2 (by omega);omega
     have hbw:b=w:=by
      cases r with
      |refl=>rfl
      |step e r=>
       obtain ⟨j,f1,f2,f3,f4⟩:=e
       exfalso
       have hm2:((gInto n xs ys)[w]!)[j]∈(gInto n xs ys)[w]! := List.getElem_mem f3
       obtain ⟨c2,hc2,h8,h9⟩:=(K9 hr (by omega) _).1 hm2
       have:=(hcf c2 hc2).2.1 (by omega)
       omega
     subst hbw
     rcases hs with ⟨h8,_⟩|⟨h8,h9⟩
     ·omega
     ·exact .seed (.inl ⟨c,hc,h5,.inr ⟨k3,by omega⟩⟩)
  exact main v u h1 hv h2
 ·rintro ⟨u,h1,h2⟩
  have hE:∀ a b,CpE ⟨n,xs,ys⟩ a b->Ed (gInto n xs ys) a b:=fun a b ⟨c,hc,k2,h3,h4⟩=>by
   have:=(hcf c hc).2.1 (by omega)
   have hb:=(hcf c hc).2.2.2 (by omega)
   have hm:(b:Int)∈(gInto n xs ys)[a]! := (K9 hr (by omega) _).2 ⟨c,hc,h3,.inl ⟨k2,h4.symm⟩⟩
   have:=Ae5 hG.ri (w:=a) (by omega) hm
   simpa using this
  have hrg:∀ a b,Rch (CpE ⟨n,xs,ys⟩) a b->a<n->Rg (gInto n xs ys) a b/\b<n:=by
   intro a b h
   induction h with
   |refl a=>exact fun ha=>⟨.refl a,ha⟩
   |@step a w b e _ ih=>
    intro ha
    have hw:w<n:=by
     obtain ⟨c,hc,k2,h3,h4⟩:=e
     have:=(hcf c hc).2.2.2 (by omega)
     omega
    exact ⟨.step (hE _ _ e) (ih hw).1,(ih hw).2⟩
  obtain ⟨h3,hu⟩:=hrg v u h1 hv
  rcases h2 with ⟨c,hc,h5,h6⟩|⟨h5,h6⟩
  ·rcases h6 with ⟨k1,h7⟩|⟨k3,h7⟩
   ·exact ⟨u,h3,.inl ⟨hu,(Qc hr hu _).2 ⟨c,hc,h5,k1,h7.symm⟩⟩⟩
   ·have hcc:=hcf c hc
    have hb:=hcc.2.2.2 (by omega)
    have hm:(n:Int)+c.b∈(gInto n xs ys)[u]! := (K9 hr (by omega) _).2 ⟨c,hc,h5,.inr ⟨k3,rfl⟩⟩
    have he:=Ae5 hG.ri (w:=u) (by omega) hm
    refine ⟨_,h3.trans (.one he),.inr ⟨Ya (by omega) (by omega),by omega⟩⟩
  ·exact ⟨u,h3,.inr ⟨by rw [S2 hu];exact h6,h5⟩⟩
end
end Go.Proofs.YtghmdfegfehhkaaGreatDoor
namespace Go.Proofs.YtghmdfegfehhkaaGreatDoor
section
variable {vars nc:Nat}{into bases:List (List Int)}{lo:List Bool}{kn:List (List Nat)}{of:Nat->Nat}
theorem GS.lt (hG:GOk vars into bases lo)(hnc:nc<=16384){v j:Nat}(hv:v<into.length)(h:GS vars nc into bases lo v j):j<65536:=by
 obtain ⟨u,h1,h2⟩:=h
 have hu:u<into.length:=h1.closed (P:=fun x=>x<into.length) (fun a b _ e=>e.lt.2) hv
 have hni:=hG.ni
 have hs:=hG.small
 rcases h2 with ⟨h3,h4⟩|⟨_,h4⟩
 ·have:=hG.rb u (by rw [hG.nb];exact h3) _ h4
  omega
 ·omega
end
theorem X6 {bs:List Blk}(h:WFB bs){q:Nat}(hm:∀ m,Aw bs m=true->m<64*q):bs.length<=q:=by
 have up:∀ i,i<bs.length->(i:Int)<=bs[i]!.a:=by
  intro i
  induction i with
  |zero=>intro hi;exact (h.rng _ (Bs hi)).1
  |succ i ih=>
   intro hi
   have h1:=ih (by omega)
   have h2:=h.up i (i+1) (by omega) hi
   omega
 rcases Nat.eq_zero_or_pos bs.length with h0|h0
 ·omega
 ·have hi:bs.length - 1<bs.length:=by omega
  have h1:=up _ hi
  have hr:=h.rng _ (Bs hi)
  obtain ⟨b,hb,ht⟩:=Lh hr.2.2.1 hr.2.2.2
  have hd:=J0 bs[bs.length - 1]!.a hr.1 b hb
  have h2:=h.at_ (n:=64*bs[bs.length - 1]!.a.toNat+b) hi hd.1.symm
  rw [hd.2,ht] at h2
  have:=hm _ h2
  omega
def F7 (l:Nat->Int):Nat->Nat
 |0=>0
 |v+1=>if l v=(F7 l v:Int) then F7 l v+1 else F7 l v
theorem Mg {l k:Nat->Int}:∀ {v:Nat},(∀ u,u<v->l u=k u)->F7 l v=F7 k v
 |0,_=>rfl
 |v+1,h=>by
  have h1:=Mg (v:=v) fun u hu=>h u (by omega)
  unfold F7
  rw [h1,h v (by omega)]
theorem Uz {l:Nat->Int}:∀ (v x:Nat),x<F7 l v->∃ u,u<v/\l u=(x:Int)
 |0,x,h=>by cases h
 |v+1,x,h=>by
  unfold F7 at h
  split at h
  ·rename_i e
   by_cases hx:x=F7 l v
   ·exact ⟨v,by omega,by rw [hx];exact e⟩
   ·obtain ⟨u,h1,h2⟩:=Uz (l:=l) v x (by omega)
    exact ⟨u,by omega,h2⟩
  ·obtain ⟨u,h1,h2⟩:=Uz (l:=l) v x h
   exact ⟨u,by omega,h2⟩
structure Canon (n:Nat)(l:Nat->Int)(E:Nat->Nat->Prop)(Z:Nat->Prop):Prop where
 none:∀ v,v<n->(l v=-1↔Z v)
 same:∀ v u,v<n->u<n->(l v=l u↔E v u)
 le:∀ v,v<n->-1<=l v/\l v<=(F7 l v:Int)
theorem Canon.unique {n:Nat}{l k:Nat->Int}{E:Nat->Nat->Prop}{Z:Nat->Prop}(h:Canon n l E Z)(h2:Canon n k E Z):∀ v,v<n->l v=k v:=by
 intro v
 induction v using Nat.strongRecOn with
 |ind v ih=>
  intro hv
  by_cases hz:Z v
  ·rw [(h.none v hv).2 hz,(h2.none v hv).2 hz]
  ·by_cases he:∃ u,u<v/\E v u
   ·obtain ⟨u,hu,he⟩:=he
    rw [(h.same v u hv (by omega)).2 he,(h2.same v u hv (by omega)).2 he]
    exact ih u hu (by omega)
   ·have key:∀ {m:Nat->Int},Canon n m E Z->m v=(F7 m v:Int):=fun {m} hm=>by
     have h3:=hm.le v hv
     have h4:m v≠-1:=fun e=>hz ((hm.none v hv).1 e)
     apply Classical.byContradiction
     intro hne
     obtain ⟨u,hu,e⟩:=Uz (l:=m) v (m v).toNat (by omega)
     exact he ⟨u,hu,(hm.same v u hv (by omega)).1 (by omega)⟩
    rw [key h,key h2,Mg fun u hu=>ih u hu (by omega)]
end Go.Proofs.YtghmdfegfehhkaaGreatDoor
namespace Go.Proofs.YtghmdfegfehhkaaGreatDoor
theorem Bjx {α:Type}[Inhabited α]{L:List α}{x:α}{i:Nat}(h:i<L.length):(L++[x])[i]! = L[i]! := by
 rw [getElem!_pos (L++[x]) i (by simp;omega),getElem!_pos L i h,List.getElem_append_left h]
theorem Bk4 {α:Type}[Inhabited α](L:List α)(x:α):(L++[x])[L.length]! = x:=by
 rw [getElem!_pos (L++[x]) L.length (by simp)]
 simp
theorem Fh {f:Nat->Int}{k:Nat}{x:Int}:Bf f k x k=x:=by simp [Bf]
theorem Er {f:Nat->Int}{k j:Nat}{x:Int}(h:j≠k):Bf f k x j=f j:=by simp [Bf,h]
theorem H4 {f:Nat->Int}{k v:Nat}{x:Int}(h:v<=k):F7 (Bf f k x) v=F7 f v:=Mg fun u hu=>Er (by omega)
structure LbI {β:Type}[Inhabited β](Z:Nat->Prop)(key:Nat->β)(v:Nat)(hl:Nat->Int)(L:List β):Prop where
 z:∀ u,u<v->Z u->hl u=-1
 k:∀ u,u<v->¬Z u->∃ i:Nat,i<L.length/\hl u=(i:Int)/\L[i]! = key u
 nd:L.Nodup
 nx:F7 hl v=L.length
 le:∀ u,u<v->hl u<=(F7 hl u:Int)
section
variable {β:Type}[Inhabited β]{Z:Nat->Prop}{key:Nat->β}{v:Nat}{hl:Nat->Int}{L:List β}
theorem LbI.start (hl:Nat->Int):LbI Z key 0 hl []:=⟨fun u h=>absurd h (Nat.not_lt_zero u),fun u h=>absurd h (Nat.not_lt_zero u),.nil,rfl,fun u h=>absurd h (Nat.not_lt_zero u)⟩
theorem LbI.len (h:LbI Z key v hl L):L.length<=v:=by
 rw [<- h.nx]
 clear h
 induction v with
 |zero=>simp [F7]
 |succ v ih=>unfold F7;split<;>omega
theorem LbI.zero (h:LbI Z key v hl L)(hz:Z v):LbI Z key (v+1) (Bf hl v (-1)) L:=by
 refine ⟨fun u hu hzu=>?_,fun u hu hn=>?_,h.nd,?_,fun u hu=>?_⟩
 ·by_cases e:u=v
  ·rw [e,Fh]
  ·rw [Er e];exact h.z u (by omega) hzu
 ·by_cases e:u=v
  ·exact absurd (e▸hz) hn
  ·rw [Er e];exact h.k u (by omega) hn
 ·unfold F7
  rw [H4 (Nat.le_refl _),Fh,if_neg (by omega)]
  exact h.nx
 ·rw [H4 (by omega)]
  by_cases e:u=v
  ·rw [e,Fh];omega
  ·rw [Er e];exact h.le u (by omega)
theorem LbI.old (h:LbI Z key v hl L)(hz:¬ Z v){i:Nat}(hi:i<L.length)(e0:L[i]! = key v):LbI Z key (v+1) (Bf hl v i) L:=by
 refine ⟨fun u hu hzu=>?_,fun u hu hn=>?_,h.nd,?_,fun u hu=>?_⟩
 ·by_cases e:u=v
  ·exact absurd (e▸hzu) hz
  ·rw [Er e];exact h.z u (by omega) hzu
 ·by_cases e:u=v
  ·rw [e,Fh];exact ⟨i,hi,rfl,e0⟩
  ·rw [Er e];exact h.k u (by omega) hn
 ·have:=h.nx
  unfold F7
  rw [H4 (Nat.le_refl _),Fh,if_neg (by omega)]
  exact h.nx
 ·rw [H4 (by omega)]
  by_cases e:u=v
  ·have:=h.nx
   rw [e,Fh];omega
  ·rw [Er e];exact h.le u (by omega)
theorem LbI.new (h:LbI Z key v hl L)(hz:¬ Z v)(hx:key v∉L):LbI Z key (v+1) (Bf hl v L.length) (L++[key v]):=by
 refine ⟨fun u hu hzu=>?_,fun u hu hn=>?_,?_,?_,fun u hu=>?_⟩
 ·by_cases e:u=v
  ·exact absurd (e▸hzu) hz
  ·rw [Er e];exact h.z u (by omega) hzu
 ·by_cases e:u=v
  ·rw [e,Fh];exact ⟨L.length,by simp,rfl,Bk4 _ _⟩
  ·rw [Er e]
   obtain ⟨i,h1,h2,h3⟩:=h.k u (by omega) hn
   exact ⟨i,by simp;omega,h2,by rw [Bjx h1];exact h3⟩
 ·rw [List.nodup_append]
  exact ⟨h.nd,by simp,fun a ha c hc e=>by simp at hc;subst hc;exact hx (e▸ha)⟩
 ·have:=h.nx
  unfold F7
  rw [H4 (Nat.le_refl _),Fh,if_pos (by omega),List.length_append]
  simp
  omega
 ·rw [H4 (by omega)]
  by_cases e:u=v
  ·have:=h.nx
   rw [e,Fh];omega
  ·rw [Er e];exact h.le u (by omega)
theorem LbI.done {E:Nat->Nat->Prop}(h:LbI Z key v hl L)(hE:∀ a b,a<v->b<v->(key a=key b↔E a b))(hZ:∀ a b,a<v->b<v->E a b->(Z a↔Z b))(hZ2:∀ a b,Z a->Z b->E a b):Canon v hl E Z:=by
 have neg:∀ u,u<v->(hl u=-1↔Z u):=fun u hu=>⟨fun e=>by
  apply Classical.byContradiction
  intro hn
  obtain ⟨i,_,h2,_⟩:=h.k u hu hn
  omega,h.z u hu⟩
 refine ⟨neg,fun a b ha hb=>?_,fun u hu=>⟨?_,h.le u hu⟩⟩
 ·by_cases za:Z a
  ·by_cases zb:Z b
   ·exact ⟨fun _=>hZ2 a b za zb,fun _=>by rw [h.z a ha za,h.z b hb zb]⟩
   ·refine ⟨fun e=>absurd ((neg b hb).1 (by rw [<- e];exact h.z a ha za)) zb,fun e=>absurd ((hZ a b ha hb e).1 za) zb⟩
  ·by_cases zb:Z b
   ·refine ⟨fun e=>absurd ((neg a ha).1 (by rw [e];exact h.z b hb zb)) za,fun e=>absurd ((hZ a b ha hb e).2 zb) za⟩
   ·obtain ⟨i,i1,i2,i3⟩:=h.k a ha za
    obtain ⟨j,j1,j2,j3⟩:=h.k b hb zb
    rw [<- hE a b ha hb,<- i3,<- j3,i2,j2]
    constructor
    ·intro e
     rw [show i=j by omega]
    ·intro e
     rw [getElem!_pos L i i1,getElem!_pos L j j1] at e
     have hnd:=List.pairwise_iff_getElem.1 h.nd
     rcases Nat.lt_trichotomy i j with q|q|q
     ·exact absurd e (hnd i j i1 j1 q)
     ·rw [q]
     ·exact absurd e.symm (hnd j i j1 i1 q)
 ·by_cases z:Z u
  ·rw [h.z u hu z];omega
  ·obtain ⟨i,_,h2,_⟩:=h.k u hu z
   omega
end
open Go.RowKit
section
variable {P:Program}{T:Nat->Option TI}{n:Nat}{Q:Post}{F:Fm}{w:World}{ops:Array Oper}{rest:List Oper}{o:Oper}
theorem M5 {t:TypeId}(hop:o.op=.makeMap t none)(hg:o.guard=none){d:Nat}(hd:o.dst=some d)(hn:Nat.blt d n=true)(k:∀ b w1,b=w.heap.size->w1=w.alloc (.map #[] 0)->Below w.heap.size w w1->wl P n ops rest Q (Bd F d (.map (some b))) w1):wl P n ops (o::rest) Q F w:=by
 refine Bh hg hd hn ?_ (k _ _ rfl rfl ?_)
 ·simp [execOp,hop,run_makeMap]
 ·have h:=World.grownBy_alloc w (.map #[] 0) none
  exact ⟨h.os,h.tape,h.output,h.size,fun j hj=>h.block j hj (by simp)⟩
theorem J7 {t:TypeId}{m x y:Operand}{b:Nat}{key val:Value}{R:World->Prop}(h:∃ w',(Instr.mapUpdate t (.map (some b)) key val).run P w=.ok () w'/\R w')(hop:o.op=.mapUpdate t m x y)(hm:ev F m=.map (some b))(hx:ev F x=key)(hy:ev F y=val)(hg:o.guard=none)(hd:o.dst=none)
  (k:∀ w',R w'->wl P n ops rest Q F w'):wl P n ops (o::rest) Q F w:=by
 obtain ⟨w',hr,hR⟩:=h
 refine Ua hg hd ?_ (k w' hR)
 simp [execOp,hop,hm,hx,hy,hr]
theorem Dz {t:TypeId}{c:Call}{x:Operand}{b:Nat}{v:Value}(h:∀ ty,(Builtin.len_ #[t] ty #[.map (some b)]).run P w=.ok v w)(hop:o.op=.call c)(hcal:c.callee=.builtin .len)(hargs:c.args.toList=[x])(htys:c.argTypes.toList=[t])(hx:ev F x=.map (some b))(hg:o.guard=none){d:Nat}(hd:o.dst=some d)(hn:Nat.blt d n=true)
  (k:wl P n ops rest Q (Bd F d v) w):wl P n ops (o::rest) Q F w:=by
 refine Bh hg hd hn ?_ k
 obtain ⟨callee,⟨args⟩,⟨tys⟩⟩:=c
 simp only at hcal hargs htys
 subst hcal hargs htys
 simp [execOp,hop,resolve,invoke,builtin,hx,h]
theorem U8 {t:TypeId}{m x:Operand}{b:Nat}{key v:Value}(h:(Instr.lookup t (.map (some b)) key true).run P w=.ok v w)(hop:o.op=.lookup t m x true)(hm:ev F m=.map (some b))(hx:ev F x=key)(hg:o.guard=none){d:Nat}(hd:o.dst=some d)(hn:Nat.blt d n=true)
  (k:wl P n ops rest Q (Bd F d v) w):wl P n ops (o::rest) Q F w:=by
 refine Bh hg hd hn ?_ k
 simp [execOp,hop,hm,hx,h]
theorem V7 {t:TypeId}{m:Operand}{b:Nat}{v:Value}{w1:World}(h:(Instr.range t (.map (some b))).run P w=.ok v w1)(hop:o.op=.range t m)(hm:ev F m=.map (some b))(hg:o.guard=none){d:Nat}(hd:o.dst=some d)(hn:Nat.blt d n=true)
  (k:wl P n ops rest Q (Bd F d v) w1):wl P n ops (o::rest) Q F w:=by
 refine Bh hg hd hn ?_ k
 simp [execOp,hop,hm,h]
theorem Ae8 {it:Operand}{a v:Value}{w1:World}(h:(Instr.next a false o.type).run P w=.ok v w1)(hop:o.op=.next it false)(hm:ev F it=a)(hg:o.guard=none){d:Nat}(hd:o.dst=some d)(hn:Nat.blt d n=true)
  (k:wl P n ops rest Q (Bd F d v) w1):wl P n ops (o::rest) Q F w:=by
 refine Bh hg hd hn ?_ k
 simp [execOp,hop,hm,h]
theorem Ab9 {it:Operand}{a v:Value}(h:(Instr.entry a).run P w=.ok v w)(hop:o.op=.entry it)(hm:ev F it=a)(hg:o.guard=none){d:Nat}(hd:o.dst=some d)(hn:Nat.blt d n=true)
  (k:wl P n ops rest Q (Bd F d v) w):wl P n ops (o::rest) Q F w:=by
 refine Bh hg hd hn ?_ k
 simp [execOp,hop,hm,h]
end
theorem C8 {P:Program}{n:Nat}{Q:Post}{F:Fm}{w:World}{X:Type}(id:Nat)(rr:Fm->World->Prop)(S:X->List (Nat×Value))(R:X->World->Prop){c:Code}(h:wc P n c ⟨fun _ _=>False,rr,fun i F' w'=>i=id/\∃ x,holds F' (S x)/\R x w'⟩ F w)(hr:∀ F w,rr F w->Q.r F w)(k:∀ x G w,R x w->Q.x id (Ng G (S x)) w):wc P n c Q F w:=
 F9 h (fun _ _ h=>h.elim) hr (fun i F' w' h=>by
  obtain ⟨rfl,x,h1,h2⟩:=h
  have:=k x F' w' h2
  rwa [Ct h1] at this)
theorem Fc:SetT Tryz.prog 214 3 4:=⟨Tryz.underlying214,Tryz.underlying3,Tryz.underlying4⟩
theorem P7:NumT Tryz.prog 155 3 3:=⟨Tryz.underlying155,Tryz.underlying3,Tryz.underlying3⟩
abbrev ISet:=SetM Tryz.prog 3 4
abbrev INum:=NumM Tryz.prog 3 3
theorem Aa0 (w:World):(zeroValue 3).run Tryz.prog w=.ok (.int .i64 0) w:=by kernel_rfl
end Go.Proofs.YtghmdfegfehhkaaGreatDoor
