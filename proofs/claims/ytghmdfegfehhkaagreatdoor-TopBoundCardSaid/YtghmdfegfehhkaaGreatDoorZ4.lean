/- Several texts of one claim in one file, made short: E9 E10 U0 PL03 PK03 PO03. -/
import Derived.Test.YtghmdfegfehhkaaGreatDoorZ3
import Derived.Laws.Slices
import Derived.Laws.CopyRow
import Derived.Laws.Bits64b
import Derived.Laws.Shifts
import Derived.Lib.AppendZerosOnto
import Derived.Lib.TrailingZeros
set_option maxRecDepth 100000
set_option maxHeartbeats 64000000
set_option linter.unusedVariables false
set_option linter.unusedSimpArgs false
namespace Go.Proofs.YtghmdfegfehhkaaGreatDoor
open Go.RowKit
theorem Mv {α:Type}[Inhabited α]{xs:List α}{i:Nat}(h:i<xs.length):xs.take (i+1)=xs.take i++[xs[i]!]:=by
 rw [getElem!_pos xs i h]
 simp
def Aeq {α:Type}(d:Dec α):Prop:=∀ w cs x,d w cs x->∀ u∈cs,u.oneCell'=true
theorem Afz (k:IntKind):Aeq (dI k):=fun w cs x h u hu=>by
 rw [h.1] at hu
 simp at hu
 subst hu
 rfl
theorem Aa6 {α:Type}[Inhabited α]{sz:Nat}{d:Dec α}{w:World}{ad:Addr}{xs:List α}(h:RowR sz d w (some ad) xs)(hd:Aeq d) :
  ∃ flat,(∀ j u,flat[j]?=some u->w.cell? (ad.add j)=some u)/\Elems sz d w flat xs/\∀ u∈flat,u.oneCell'=true:=by
 have key:∀ k,k<=xs.length->∃ flat,(∀ j u,flat[j]?=some u->w.cell? (ad.add j)=some u)/\Elems sz d w flat (xs.take k)/\∀ u∈flat,u.oneCell'=true:=by
  intro k
  induction k with
  |zero=>exact fun _=>⟨[],by simp,by simpa using Elems.nil ..,by simp⟩
  |succ k ih=>
   intro hk
   obtain ⟨flat,h1,h2,h3⟩:=ih (by omega)
   obtain ⟨ad',cs,e,hl,hc,hx⟩:=h.2 k (by omega)
   cases e
   refine ⟨flat++cs,fun j u hu=>?_,?_,?_⟩
   ·rcases Nat.lt_or_ge j flat.length with hj|hj
    ·rw [List.getElem?_append_left hj] at hu
     exact h1 j u hu
    ·rw [List.getElem?_append_right hj] at hu
     have hfl:=h2.1
     rw [List.length_take,Nat.min_eq_left (by omega)] at hfl
     have:=hc (j - flat.length) u hu
     rwa [show k*sz+(j - flat.length)=j by omega] at this
   ·rw [Mv (by omega)]
    exact h2.push hl hx
   ·intro u hu
    rcases List.mem_append.1 hu with hu|hu
    ·exact h3 u hu
    ·exact hd _ _ _ hx u hu
 obtain ⟨flat,h1,h2,h3⟩:=key xs.length (Nat.le_refl _)
 rw [List.take_length] at h2
 exact ⟨flat,h1,h2,h3⟩
section
variable {P:Program}{T:Nat->Option TI}{n:Nat}{Q:Post}{F:Fm}{w:World}{ops:Array Oper}{rest:List Oper}{o:Oper}{K:Fm->Prop}{C:World->Prop}
theorem Iv (base:Nat)(t ty e:TypeId)(i:TypeInfo)(size:Nat)(ht:P.underlying t=some (.slice e))(hi:P.info? e=some i)
  (v:Value) (n:Nat) (xs:List Value) (hown:w.ownsRow base e size v n xs) (cc:Nat) :
  (Builtin.append_ #[t,t] ty #[v,.slice none 0 cc]).run P w=.ok v w:=by
 rcases hown.2 with ⟨rfl,rfl⟩|⟨g,cap,cur,rfl,_,_,hnc,_⟩
 ·simp [Builtin.append_,run_underlying ht,sizeOf,typeInfo,hi,Builtin.lenOf,Builtin.firstCells]
 ·simp [Builtin.append_,run_underlying ht,sizeOf,typeInfo,hi,Builtin.lenOf,Builtin.firstCells,hnc,storeCells]
theorem Aj6 (hT:TabOk P T)(e s b:Nat){α:Type}[Inhabited α]{d:Dec α}{base len:Nat}{v:Value}{flat:List Value}{xs:List α}{B:Option Addr}{cc:Nat}{c:Call}{x y:Operand}{t:TypeId}
  (hown:w.ownsRow base e s v len flat) (hr:RowR s d w B xs) (hd1:Aeq d) (hop:o.op=.call c) (hcal:c.callee=.builtin .append) (hargs:c.args.toList=[x,y]) (htys:c.argTypes.toList=[t,t])
  (hx:ev F x=v) (hy:ev F y=.slice B xs.length cc) (h1:I7 T t e s b=true) (hs0:Nat.blt 0 s=true)
  (hbig:(len+xs.length)*b<=140737488355328) (h63:len+xs.length<=9223372036854775807) (hbase:base<=w.heap.size) :
  ∃ A cap w1 news,(execOp (ev F) o).run P w=.ok (.value (.slice A (len+xs.length) cap)) w1/\Elems s d w news xs/\w1.ownsRow base e s (.slice A (len+xs.length) cap) (len+xs.length) (flat++news)/\w.grownBy w1 v.ownBlock/\((Value.slice A (len+xs.length) cap).ownBlock=v.ownBlock\/(Value.slice A (len+xs.length) cap).ownBlock=some w.heap.size):=by
 obtain ⟨hu,j,z,hj,hz,hs,hby,hzs⟩:=Eh hT h1
 obtain ⟨callee,⟨args⟩,⟨tys⟩⟩:=c
 simp only at hcal hargs htys
 subst hcal hargs htys
 cases B with
 |none=>
  have hxs:xs=[]:=by
   cases xs with
   |nil=>rfl
   |cons a l=>obtain ⟨_,_,e,_⟩:=hr.2 0 (by simp);cases e
  subst hxs
  have hform:∃ A cap,v=.slice A len cap:=by
   rcases hown.2 with ⟨rfl,h0⟩|⟨g',cap,cur,rfl,_⟩
   ·exact ⟨none,0,by rw [h0]⟩
   ·exact ⟨_,cap,rfl⟩
  obtain ⟨A,cap,rfl⟩:=hform
  refine ⟨A,cap,w,[],?_,Elems.nil ..,by simpa using hown,Cn _ _,.inl rfl⟩
  have h:=Iv (P:=P) (w:=w) base t o.type e j s hu hj _ len flat hown cc
  simp [execOp,hop,resolve,invoke,builtin,hx,hy,h]
 |some ad=>
  obtain ⟨news,hn1,hn2,hn3⟩:=Aa6 hr hd1
  obtain ⟨v',w1,hr',h2,h3,_,h5⟩:=run_append_own_at (P:=P) w base t o.type e j z s b hu hj hz hs hby hzs (Nd hs0) v len flat hown ad xs.length cc news hn2.1 hn1 hn3 h63 hbig hbase
  have hform:∃ A cap,v'=.slice A (len+xs.length) cap:=by
   rcases h2.2 with ⟨rfl,h0⟩|⟨g',cap,cur,rfl,_⟩
   ·exact ⟨none,0,by rw [h0]⟩
   ·exact ⟨_,cap,rfl⟩
  obtain ⟨A,cap,rfl⟩:=hform
  refine ⟨A,cap,w1,news,?_,hn2,h2,h3,h5⟩
  simp [execOp,hop,resolve,invoke,builtin,hx,hy,hr']
theorem Q0 (hT:TabOk P T)(e s b:Nat){α:Type}[Inhabited α]{d:Dec α}{base len:Nat}{v:Value}{flat:List Value}{xs:List α}{B:Option Addr}{cc:Nat}{c:Call}{x y:Operand}{t:TypeId}
  (hown:w.ownsRow base e s v len flat) (hr:RowR s d w B xs) (hd1:Aeq d) (hop:o.op=.call c) (hcal:c.callee=.builtin .append) (hargs:c.args.toList=[x,y]) (htys:c.argTypes.toList=[t,t])
  (hx:ev F x=v) (hy:ev F y=.slice B xs.length cc) (h1:I7 T t e s b=true) (hs0:Nat.blt 0 s=true) (hg:o.guard=none) {dd:Nat} (hd:o.dst=some dd) (hn:Nat.blt dd n=true)
  (hbig:(len+xs.length)*b<=140737488355328) (h63:len+xs.length<=9223372036854775807) (hbase:base<=w.heap.size)
  (k:∀ A cap w1 news,Elems s d w news xs->w1.ownsRow base e s (.slice A (len+xs.length) cap) (len+xs.length) (flat++news)->w.grownBy w1 v.ownBlock->((Value.slice A (len+xs.length) cap).ownBlock=v.ownBlock\/(Value.slice A (len+xs.length) cap).ownBlock=some w.heap.size) ->
   wl P n ops rest Q (Bd F dd (.slice A (len+xs.length) cap)) w1):wl P n ops (o::rest) Q F w:=by
 obtain ⟨A,cap,w1,news,hr,h2,h3,h4,h5⟩:=Aj6 hT e s b hown hr hd1 hop hcal hargs htys hx hy h1 hs0 hbig h63 hbase
 exact Bh hg hd hn hr (k A cap w1 news h2 h3 h4 h5)
end
theorem Elems.put {α:Type}[Inhabited α]{sz:Nat}{d:Dec α}{w:World}{flat:List Value}{xs:List α}{i k:Nat}{u:Value}{x':α}(h:Elems sz d w flat xs)(hi:i<xs.length)(hk:k<sz)
  (hx:∀ cs,cs.length=sz->d w cs xs[i]! -> d w (cs.set k u) x'):Elems sz d w (flat.set (i*sz+k) u) (xs.set i x'):=by
 refine ⟨by simpa using h.1,fun j hj=>?_⟩
 have hj':j<xs.length:=by simpa using hj
 have hjl:j*sz+sz<=flat.length:=by rw [h.1,<- Nat.succ_mul];exact Nat.mul_le_mul_right _ hj'
 by_cases e:j=i
 ·subst e
  have e1:((flat.set (j*sz+k) u).drop (j*sz)).take sz=((flat.drop (j*sz)).take sz).set k u:=by
   rw [List.drop_set,if_neg (by omega),List.take_set]
   congr 1
   omega
  have e2:(xs.set j x')[j]! = x':=by rw [getElem!_pos (xs.set j x') j hj];simp
  rw [e1,e2]
  exact hx _ (by simp;omega) (h.2 j hj')
 ·have e1:((flat.set (i*sz+k) u).drop (j*sz)).take sz=(flat.drop (j*sz)).take sz:=by
   rw [List.drop_set]
   split
   ·rfl
   ·rename_i hlt
    rw [List.take_set,List.set_eq_of_length_le]
    rcases Nat.lt_or_ge i j with hl|hl
    ·have:(i+1)*sz<=j*sz:=Nat.mul_le_mul_right _ hl
     rw [Nat.succ_mul] at this
     omega
    ·have:(j+1)*sz<=i*sz:=Nat.mul_le_mul_right _ (by omega)
     rw [Nat.succ_mul] at this
     simp
     omega
  have e2:(xs.set i x')[j]! = xs[j]! := by rw [getElem!_pos (xs.set i x') j hj,getElem!_pos xs j hj',List.getElem_set_ne (by omega)]
  rw [e1,e2]
  exact h.2 j hj'
theorem GRow.cur {α:Type}[Inhabited α]{sz:Nat}{d:Dec α}{e:TypeId}{base:Nat}{w:World}{A:Option Addr}{n c:Nat}{xs:List α}{bs:List Nat}(h:GRow sz d e base w (.slice A n c) xs bs)(h0:0<xs.length) :
  ∃ (g:Nat) (cur:List Value),A=some ⟨g,0,none⟩/\base<=g/\w.heap[g]?=some (.cells cur.toArray e (0,0))/\xs.length*sz<=cur.length /\
   ∀ w1 i k u x' bs',i<xs.length->k<sz->Put w w1 g (cur.set (i*sz+k) u) e->(∀ w' cs,(∀ b∈bs',w'.heap[b]?=w.heap[b]?)->cs.length=sz->d w' cs xs[i]! -> d w' (cs.set k u) x')->(∀ b∈bs',(base<=b/\b<w.heap.size)/\b≠g)->GRow sz d e base w1 (.slice A n c) (xs.set i x') (bs++bs'):=by
 obtain ⟨flat,h1,h2⟩:=h.own
 rcases h1.2 with ⟨he,hz⟩|⟨g,cap,cur,hv,hbg,hg,hnc,hcm,hcs,htake⟩
 ·omega
 have hv':=hv
 injection hv' with e1 e2 e3
 subst e1 e2 e3
 have hcl:xs.length*sz<=cur.size:=by rw [hcs];exact Nat.mul_le_mul_right _ hnc
 refine ⟨g,cur.toList,rfl,hbg,by simpa using hg,by simpa using hcl,?_⟩
 intro w1 i k u x' bs' hi hk hp hx hbs
 have hbne:∀ b∈bs,b≠g:=fun b hb e=>h.ne b hb (by rw [e];rfl)
 have hall:∀ b∈bs++bs',(base<=b/\b<w.heap.size)/\b≠g:=fun b hb=>by
  rcases List.mem_append.1 hb with hb|hb
  ·exact ⟨h.lt b hb,hbne b hb⟩
  ·exact hbs b hb
 have same:∀ b∈bs++bs',w1.heap[b]?=w.heap[b]?:=fun b hb=>hp.grown.block b (hall b hb).1.2 (by simpa using (hall b hb).2)
 refine ⟨⟨flat.set (i*sz+k) u,⟨by simpa using h1.1,.inr ⟨g,c,(cur.toList.set (i*sz+k) u).toArray,by simp,hbg,hp.blk,by simpa using hnc,hcm,by simpa using hcs,?_⟩⟩,fun w' hw'=>?_⟩,fun b hb=>⟨(hall b hb).1.1,by rw [hp.size];exact (hall b hb).1.2⟩,fun b hb=>by simpa [Value.ownBlock] using (hall b hb).2⟩
 ·simp only [List.length_set]
  rw [<- htake,List.take_set]
 ·refine (h2 w' fun b hb=>(hw' b (by simp [hb])).trans (same b (by simp [hb]))).put hi hk fun cs hl hd=>hx w' cs (fun b hb=>(hw' b (by simp [hb])).trans (same b (by simp [hb]))) hl hd
theorem Mq (a:Addr):a.add 0=a:=by unfold Addr.add;simp
def K8 (A:Option Addr)(m c s:Nat):Option Addr:=if c=m then A else A.map (·.add (m*s))
section
variable {P:Program}{T:Nat->Option TI}{n:Nat}{F:Fm}{w:World}{ops:Array Oper}{rest:List Oper}{o:Oper}{K:Fm->Prop}{C:World->Prop}
theorem Jw {t e:Nat}(hu:P.underlying t=some (.slice e)):P.underlying t=some (.slice (P.elem t)):=by
 have:P.elem t=e:=by simp [Program.elem,hu]
 rw [this];exact hu
theorem Pa (hT:TabOk P T)(e s:Nat){t:TypeId}{x y:Operand}{A:Option Addr}{l c:Nat}{ki:IntKind}{h:Int}(hop:o.op=.slice t x none (some y) none)(hx:ev F x=.slice A l c)(hy:ev F y=.int ki h)(h1:Cq T t e s=true)(h0:0<=h)(hc:h<=c) :
  (execOp (ev F) o).run P w=.ok (.value (.slice A h.toNat c)) w:=by
 obtain ⟨hu,hs⟩:=Du (w:=w) hT h1
 have he:P.elem t=e:=by simp [Program.elem,hu]
 have hr:=run_slice_h (P:=P) (w:=w) t A l c (Jw hu) ki h h0 hc
 rw [he,hs] at hr
 have e1:sliced A 0 h.toNat c s=.slice A h.toNat c:=by
  unfold sliced
  cases A<;>simp [Mq]
 simp only [Result.andThen,e1] at hr
 have hr2:=run_sliceAt_slice (P:=P) (w:=w) t (.slice A l c) none (some (.int ki h)) none (Jw hu)
 rw [hr] at hr2
 simp [execOp,hop,hx,hy,hr2]
theorem Kb (hT:TabOk P T)(e s:Nat){t:TypeId}{x y:Operand}{A:Option Addr}{l c:Nat}{ki:IntKind}{h:Int}(hop:o.op=.slice t x (some y) none none)(hx:ev F x=.slice A l c)(hy:ev F y=.int ki h)(h1:Cq T t e s=true)(h0:0<=h)(hc:h<=l) :
  (execOp (ev F) o).run P w=.ok (.value (.slice (K8 A h.toNat c s) (l - h.toNat) (c - h.toNat))) w:=by
 obtain ⟨hu,hs⟩:=Du (w:=w) hT h1
 have he:P.elem t=e:=by simp [Program.elem,hu]
 have hr:=run_slice_l (P:=P) (w:=w) t A l c (Jw hu) ki h h0 hc
 rw [he,hs] at hr
 simp only [Result.andThen,sliced] at hr
 have hr2:=run_sliceAt_slice (P:=P) (w:=w) t (.slice A l c) (some (.int ki h)) none none (Jw hu)
 rw [hr] at hr2
 simp [execOp,hop,hx,hy,hr2,K8]
theorem Ar2 (hT:TabOk P T)(e s:Nat){t:TypeId}{x y:Operand}{A:Option Addr}{l c:Nat}{ki:IntKind}{h:Int}(hop:o.op=.slice t x (some y) none none)(hx:ev F x=.slice A l c)(hy:ev F y=.int ki h)(h1:Cq T t e s=true)(hg:o.guard=none){d:Nat}(hd:o.dst=some d)(hn:Nat.blt d n=true)(h0:0<=h)(hc:h<=l)
  (k:wq P n ops C rest K (Bd F d (.slice (K8 A h.toNat c s) (l - h.toNat) (c - h.toNat)))):wq P n ops C (o::rest) K F:=Ec hg hd hn (fun _ _=>Kb hT e s hop hx hy h1 h0 hc) k
end
theorem RowR.take {α:Type}[Inhabited α]{sz:Nat}{d:Dec α}{w:World}{A:Option Addr}{xs:List α}(h:RowR sz d w A xs)(k:Nat):RowR sz d w A (xs.take k):=by
 refine ⟨Nat.le_trans (by simp;omega) h.1,fun i hi=>?_⟩
 have hi':i<xs.length:=by simp at hi;omega
 obtain ⟨ad,cs,e1,e2,e3,e4⟩:=h.2 i hi'
 refine ⟨ad,cs,e1,e2,e3,?_⟩
 rw [getElem!_pos _ i hi,List.getElem_take]
 rwa [getElem!_pos xs i hi'] at e4
theorem RowR.drop {α:Type}[Inhabited α]{sz:Nat}{d:Dec α}{w:World}{A:Option Addr}{xs:List α}(h:RowR sz d w A xs)(m c:Nat)(hc:xs.length<=c):RowR sz d w (K8 A m c sz) (xs.drop m):=by
 refine ⟨Nat.le_trans (by simp) h.1,fun i hi=>?_⟩
 have hi':m+i<xs.length:=by simp at hi;omega
 obtain ⟨ad,cs,e1,e2,e3,e4⟩:=h.2 (m+i) hi'
 subst e1
 refine ⟨ad.add (m*sz),cs,by unfold K8;rw [if_neg (by omega)];rfl,e2,fun j u hu=>?_,?_⟩
 ·rw [Np,show m*sz+(i*sz+j)=(m+i)*sz+j by rw [Nat.add_mul];omega]
  exact e3 j u hu
 ·rw [getElem!_pos _ i hi,List.getElem_drop]
  rwa [getElem!_pos xs (m+i) hi'] at e4
section
variable {P:Program}{T:Nat->Option TI}{n:Nat}{Q:Post}{F:Fm}{w:World}{ops:Array Oper}{rest:List Oper}{o:Oper}{K:Fm->Prop}{C:World->Prop}
theorem Arz (hT:TabOk P T)(e s:Nat){t:TypeId}{x y:Operand}{A:Option Addr}{l c:Nat}{ki:IntKind}{h:Int}(hop:o.op=.slice t x none (some y) none)(hx:ev F x=.slice A l c)(hy:ev F y=.int ki h)(h1:Cq T t e s=true)(hg:o.guard=none){d:Nat}(hd:o.dst=some d)(hn:Nat.blt d n=true)(h0:0<=h)(hc:h<=c)
  (k:wl P n ops rest Q (Bd F d (.slice A h.toNat c)) w):wl P n ops (o::rest) Q F w:=Bh hg hd hn (Pa hT e s hop hx hy h1 h0 hc) k
theorem Aek (hT:TabOk P T)(e s:Nat){t:TypeId}{x y:Operand}{A:Option Addr}{l c:Nat}{ki:IntKind}{h:Int}(hop:o.op=.slice t x (some y) none none)(hx:ev F x=.slice A l c)(hy:ev F y=.int ki h)(h1:Cq T t e s=true)(hg:o.guard=none){d:Nat}(hd:o.dst=some d)(hn:Nat.blt d n=true)(h0:0<=h)(hc:h<=l)
  (k:wl P n ops rest Q (Bd F d (.slice (K8 A h.toNat c s) (l - h.toNat) (c - h.toNat))) w):wl P n ops (o::rest) Q F w:=Bh hg hd hn (Kb hT e s hop hx hy h1 h0 hc) k
theorem Vx {x y:Operand}{xt yt:TypeId}{k yk:IntKind}{a b:Int}(hop:o.op=.binOp .shr xt x y yt)(hx:ev F x=.int k a)(hy:ev F y=.int yk b)(h0:0<=b):(execOp (ev F) o).run P w=.ok (.value (.int k (a/2 ^ min b.toNat k.bits))) w:=by
 simp [execOp,hop,hx,hy,eqGuard,binOp,shift_shr_any k yk a b h0]
theorem Xj {x y:Operand}{xt yt:TypeId}{k yk:IntKind}{a b:Int}(hop:o.op=.binOp .shl xt x y yt)(hx:ev F x=.int k a)(hy:ev F y=.int yk b)(h0:0<=b):(execOp (ev F) o).run P w=.ok (.value (.int k (k.wrap (a*2 ^ min b.toNat k.bits)))) w:=by
 simp [execOp,hop,hx,hy,eqGuard,binOp,shift_shl_any k yk a b h0]
def Xf:BinOp->Bool
 |.and|.or|.xor|.andNot=>true
 |_=>false
theorem Pd {op:BinOp}{x y:Operand}{xt yt:TypeId}{k:IntKind}{a b:Int}(hop:o.op=.binOp op xt x y yt)(hx:ev F x=.int k a)(hy:ev F y=.int k b)(hb:Xf op=true):(execOp (ev F) o).run P w=.ok (.value (.int k (bits op k a b))) w:=by
 cases op<;>simp only [Xf,Bool.false_eq_true] at hb<;>simp [execOp,hop,hx,hy,eqGuard,binOp,intBits_and,intBits_or,intBits_xor,intBits_andNot]
theorem Gi {x y:Operand}{xt yt:TypeId}{k yk:IntKind}{a b r:Int}(hr:a/2 ^ min b.toNat k.bits=r)(hop:o.op=.binOp .shr xt x y yt)(hx:ev F x=.int k a)(hy:ev F y=.int yk b)(h0:0<=b)(hg:o.guard=none){d:Nat}(hd:o.dst=some d)(hn:Nat.blt d n=true)
  (kk:wl P n ops rest Q (Bd F d (.int k r)) w):wl P n ops (o::rest) Q F w:=Bh hg hd hn (by rw [Vx hop hx hy h0,hr]) kk
theorem Adk {x y:Operand}{xt yt:TypeId}{k yk:IntKind}{a b r:Int}(hr:k.wrap (a*2 ^ min b.toNat k.bits)=r)(hop:o.op=.binOp .shl xt x y yt)(hx:ev F x=.int k a)(hy:ev F y=.int yk b)(h0:0<=b)(hg:o.guard=none){d:Nat}(hd:o.dst=some d)(hn:Nat.blt d n=true)
  (kk:wl P n ops rest Q (Bd F d (.int k r)) w):wl P n ops (o::rest) Q F w:=Bh hg hd hn (by rw [Xj hop hx hy h0,hr]) kk
theorem Gk {op:BinOp}{x y:Operand}{xt yt:TypeId}{k:IntKind}{a b r:Int}(hr:bits op k a b=r)(hop:o.op=.binOp op xt x y yt)(hx:ev F x=.int k a)(hy:ev F y=.int k b)(hb:Xf op=true)(hg:o.guard=none){d:Nat}(hd:o.dst=some d)(hn:Nat.blt d n=true)
  (kk:wl P n ops rest Q (Bd F d (.int k r)) w):wl P n ops (o::rest) Q F w:=Bh hg hd hn (by rw [Pd hop hx hy hb,hr]) kk
theorem Am0 {x y:Operand}{xt yt:TypeId}{k:IntKind}{a b r:Int}(hr:k.wrap (a*b)=r)(hop:o.op=.binOp .mul xt x y yt)(hx:ev F x=.int k a)(hy:ev F y=.int k b)(hg:o.guard=none){d:Nat}(hd:o.dst=some d)(hn:Nat.blt d n=true)
  (kk:wl P n ops rest Q (Bd F d (.int k r)) w):wl P n ops (o::rest) Q F w:=Aly hop hx hy hg hd hn (by rw [hr];exact kk)
theorem Jp {x y:Operand}{xt yt:TypeId}{k:IntKind}{a b r:Int}(hr:k.wrap (a+b)=r)(hop:o.op=.binOp .add xt x y yt)(hx:ev F x=.int k a)(hy:ev F y=.int k b)(hg:o.guard=none){d:Nat}(hd:o.dst=some d)(hn:Nat.blt d n=true)
  (kk:wl P n ops rest Q (Bd F d (.int k r)) w):wl P n ops (o::rest) Q F w:=Akx hop hx hy hg hd hn (by rw [hr];exact kk)
theorem Am7 {x y:Operand}{xt yt:TypeId}{k:IntKind}{a b r:Int}(hr:k.wrap (a - b)=r)(hop:o.op=.binOp .sub xt x y yt)(hx:ev F x=.int k a)(hy:ev F y=.int k b)(hg:o.guard=none){d:Nat}(hd:o.dst=some d)(hn:Nat.blt d n=true)
  (kk:wl P n ops rest Q (Bd F d (.int k r)) w):wl P n ops (o::rest) Q F w:=Ai2 hop hx hy hg hd hn (by rw [hr];exact kk)
theorem Zo (hT:TabOk P T)(e s b:Nat){t t2 t':TypeId}{c:Call}{x y:Operand}{g off dl dc sl sc m:Nat}{a:Addr}{cur:List Value}(cs:List Value)(hb:w.heap[g]?=some (.cells cur.toArray t' (0,0)))(hop:o.op=.call c)(hcal:c.callee=.builtin .copy)(hargs:c.args.toList=[x,y])(htys:c.argTypes.toList=[t,t2])
  (hx:ev F x=.slice (some ⟨g,off,none⟩) dl dc) (hy:ev F y=.slice (some a) sl sc) (h1:I7 T t e s b=true) (hm:m=min sl dl)
  (hl:cs.length=m*s) (hsrc:∀ j v,cs[j]?=some v->w.cell? (a.add j)=some v) (hfit:off+cs.length<=cur.length) (hone:∀ v∈cs,v.oneCell'=true) :
  ∃ w1,(execOp (ev F) o).run P w=.ok (.value (goInt m)) w1/\Put w w1 g (cur.take off++cs++cur.drop (off+cs.length)) t':=by
 obtain ⟨hu,j,z,hj,hz,hs,hby,hzs⟩:=Eh hT h1
 obtain ⟨callee,⟨args⟩,⟨tys⟩⟩:=c
 simp only at hcal hargs htys
 subst hcal hargs htys
 have hl2:=run_loadCells_list (P:=P) w a cs hsrc
 have hst:=run_storeCells_at P g off t' cs 0 cur.toArray w hb (by simpa using hfit) hone
 rw [hl] at hl2
 have hmm:Nat.min sl dl=m:=hm.symm
 refine ⟨_,?_,⟨by simp [World.setRow],setRow_heap w g cur.toArray _ t' _ hb,⟨rfl,rfl,rfl,by simp [World.setRow],fun k _ hk=>setRow_other w g k _ (fun e=>hk (by simp [e]))⟩⟩⟩
 simp [execOp,hop,resolve,invoke,builtin,hx,hy,Builtin.copy_,run_underlying hu,Builtin.lenOf,Builtin.firstCells,sizeOf,typeInfo,hj,hs,hmm,hl2,hst]
theorem Xl (hT:TabOk P T)(e s b:Nat){t t2 t':TypeId}{c:Call}{x y:Operand}{g off dl dc sl sc m:Nat}{a:Addr}{cur:List Value}(cs:List Value)(hb:w.heap[g]?=some (.cells cur.toArray t' (0,0)))(hop:o.op=.call c)(hcal:c.callee=.builtin .copy)(hargs:c.args.toList=[x,y])(htys:c.argTypes.toList=[t,t2])
  (hx:ev F x=.slice (some ⟨g,off,none⟩) dl dc) (hy:ev F y=.slice (some a) sl sc) (h1:I7 T t e s b=true) (hm:m=min sl dl) (hg:o.guard=none) {d:Nat} (hd:o.dst=some d) (hn:Nat.blt d n=true)
  (hl:cs.length=m*s) (hsrc:∀ j v,cs[j]?=some v->w.cell? (a.add j)=some v) (hfit:off+cs.length<=cur.length) (hone:∀ v∈cs,v.oneCell'=true)
  (k:∀ w1,Put w w1 g (cur.take off++cs++cur.drop (off+cs.length)) t'->wl P n ops rest Q (Bd F d (goInt m)) w1):wl P n ops (o::rest) Q F w:=by
 obtain ⟨w1,hr,hp⟩:=Zo hT e s b cs hb hop hcal hargs htys hx hy h1 hm hl hsrc hfit hone
 exact Bh hg hd hn hr (k w1 hp)
end
def vb (xs:List Bool):List Value:=xs.map Value.bool
theorem Bl {α β:Type}[Inhabited α](f:β->α->β)(z:β){xs:List α}{i:Nat}(h:i<xs.length):(xs.take (i+1)).foldl f z=f ((xs.take i).foldl f z) xs[i]! := by
 have e:xs.take (i+1)=xs.take i++[xs[i]!]:=by
  rw [getElem!_pos xs i h]
  simp
 rw [e,List.foldl_append]
 rfl
theorem Lz {α β:Type}(f:β->α->β)(z:β){xs:List α}{i:Nat}(h:¬ i<xs.length):(xs.take i).foldl f z=xs.foldl f z:=by rw [List.take_of_length_le (by omega)]
theorem Jd {w w1:World}(h:w.grownBy w1 none):Below w.heap.size w w1:=⟨h.os,h.tape,h.output,h.size,fun k hk=>h.block k hk nofun⟩
theorem D5 {base:Nat}{w w1:World}{v v':Value}{ys:List Int}{flat:List Value}{y:Int}(h:GInts base w v ys)(hflat:∀ w',(∀ b∈([]:List Nat),w'.heap[b]?=w.heap[b]?)->Elems 1 (dI .i64) w' flat ys)(hown:w1.ownsRow base 3 1 v' (ys.length+1) (flat++[.int .i64 y]))(hg:w.grownBy w1 v.ownBlock)
  (hob:v'.ownBlock=v.ownBlock\/v'.ownBlock=some w.heap.size) (hy:-9223372036854775808<=y/\y<=9223372036854775807):GInts base w1 v' (ys++[y]):=by
 have:=h.push hflat hown hg hob rfl (bs':=[]) (x:=y) (fun w' _=>⟨rfl,hy⟩) (by simp) (by simp)
 simpa using this
theorem Bi {v:Value}{b:Nat}(h:b∈v.ownBlock.toList):v.ownBlock=some b:=by simpa using h
end Go.Proofs.YtghmdfegfehhkaaGreatDoor
namespace Go.Proofs.YtghmdfegfehhkaaGreatDoor
structure Blk where
 a:Int
 w:Nat
deriving Inhabited,DecidableEq
def Aw (bs:List Blk)(n:Nat):Bool:=bs.any fun b=>decide (b.a=((n/64:Nat):Int))&&b.w.testBit (n%64)
structure WFB (bs:List Blk):Prop where
 up:∀ i j,i<j->j<bs.length->bs[i]!.a<bs[j]!.a
 rng:∀ b∈bs,0<=b.a/\b.a<144115188075855872/\0<b.w/\b.w<18446744073709551616
theorem WFB.nil:WFB []:=⟨fun i j _ h=>by simp at h,by simp⟩
theorem Bs {bs:List Blk}{i:Nat}(h:i<bs.length):bs[i]! ∈ bs:=by rw [getElem!_pos bs i h];exact List.getElem_mem h
theorem Dj {bs:List Blk}{b:Blk}(h:b∈bs):∃ i,i<bs.length/\bs[i]! = b:=by
 obtain ⟨i,hi,e⟩:=List.getElem_of_mem h
 exact ⟨i,hi,by rw [getElem!_pos bs i hi];exact e⟩
theorem memB_iff {bs:List Blk}{n:Nat}:Aw bs n=true↔∃ b∈bs,b.a=((n/64:Nat):Int)/\b.w.testBit (n%64)=true:=by
 simp [Aw,List.any_eq_true]
theorem E9 (n:Nat):Aw [] n=false:=rfl
theorem Dr (xs ys:List Blk)(n:Nat):Aw (xs++ys) n=(Aw xs n||Aw ys n):=by simp [Aw]
theorem Hd (b:Blk)(n:Nat):Aw [b] n=(decide (b.a=((n/64:Nat):Int))&&b.w.testBit (n%64)):=by simp [Aw]
theorem WFB.inj {bs:List Blk}(h:WFB bs){i j:Nat}(hi:i<bs.length)(hj:j<bs.length)(e:bs[i]!.a=bs[j]!.a):i=j:=by
 rcases Nat.lt_trichotomy i j with h1|h1|h1
 ·have:=h.up i j h1 hj;omega
 ·exact h1
 ·have:=h.up j i h1 hi;omega
theorem WFB.at_ {bs:List Blk}(h:WFB bs){i n:Nat}(hi:i<bs.length)(e:bs[i]!.a=((n/64:Nat):Int)):Aw bs n=bs[i]!.w.testBit (n%64):=by
 rw [Bool.eq_iff_iff,memB_iff]
 refine ⟨fun ⟨b,hb,e2,hw⟩=>?_,fun hw=>⟨_,Bs hi,e,hw⟩⟩
 obtain ⟨j,hj,rfl⟩:=Dj hb
 rw [h.inj hi hj (e.trans e2.symm)]
 exact hw
theorem Qg {bs:List Blk}{n:Nat}(h:∀ i,i<bs.length->bs[i]!.a≠((n/64:Nat):Int)):Aw bs n=false:=by
 rw [Bool.eq_false_iff]
 intro hm
 obtain ⟨b,hb,e,_⟩:=memB_iff.1 hm
 obtain ⟨i,hi,rfl⟩:=Dj hb
 exact h i hi e
theorem Lh {w:Nat}(h0:0<w)(h1:w<18446744073709551616):∃ i,i<64/\w.testBit i=true:=by
 obtain ⟨i,hi⟩:=Nat.exists_testBit_of_ne_zero (by omega:w≠0)
 refine ⟨i,?_,hi⟩
 rcases Nat.lt_or_ge i 64 with h|h
 ·exact h
 ·have:w<2 ^ i:=Nat.lt_of_lt_of_le h1 (Nat.pow_le_pow_right (n:=2) (by omega) h)
  rw [Nat.testBit_lt_two_pow this] at hi
  cases hi
theorem Aay {w:Nat}(h1:w<18446744073709551616){i:Nat}(h:64<=i):w.testBit i=false:=
 Nat.testBit_lt_two_pow (Nat.lt_of_lt_of_le h1 (Nat.pow_le_pow_right (n:=2) (by omega) h))
theorem Qe:∀ {xs ys:List Blk},(∀ i j,i<j->j<xs.length->xs[i]!.a<xs[j]!.a)->(∀ i j,i<j->j<ys.length->ys[i]!.a<ys[j]!.a)->(∀ b,b∈xs↔b∈ys)->xs=ys
 |[],[],_,_,_=>rfl
 |[],y::ys,_,_,h=>by have:=(h y).2 (by simp);cases this
 |x::xs,[],_,_,h=>by have:=(h x).1 (by simp);cases this
 |x::xs,y::ys,h1,h2,h=>by
  have tail:∀ {z:Blk} {zs:List Blk},(∀ i j,i<j->j<(z::zs).length->(z::zs)[i]!.a<(z::zs)[j]!.a)->∀ b∈zs,z.a<b.a:=fun {z zs} hz b hb=>by
   obtain ⟨j,hj,rfl⟩:=Dj hb
   have:=hz 0 (j+1) (by omega) (by simpa using hj)
   simpa using this
  have e:x=y:=by
   have m1:=(h x).1 (by simp)
   have m2:=(h y).2 (by simp)
   rcases List.mem_cons.1 m1 with e|m1
   ·exact e
   ·rcases List.mem_cons.1 m2 with e|m2
    ·exact e.symm
    ·have:=tail h2 x m1;have:=tail h1 y m2;omega
  subst e
  have e2:xs=ys:=by
   refine Qe (fun i j hij hj=>by simpa using h1 (i+1) (j+1) (by omega) (by simpa using hj)) (fun i j hij hj=>by simpa using h2 (i+1) (j+1) (by omega) (by simpa using hj)) fun b=>⟨fun hb=>?_,fun hb=>?_⟩
   ·rcases List.mem_cons.1 ((h b).1 (by simp [hb])) with e|m
    ·subst e;have:=tail h1 b hb;omega
    ·exact m
   ·rcases List.mem_cons.1 ((h b).2 (by simp [hb])) with e|m
    ·subst e;have:=tail h2 b hb;omega
    ·exact m
  rw [e2]
theorem J0 (a:Int)(h:0<=a)(i:Nat)(hi:i<64):(((64*a.toNat+i)/64:Nat):Int)=a/\(64*a.toNat+i)%64=i:=by omega
theorem Ac5 {xs ys:List Blk}(hx:WFB xs)(hy:WFB ys)(h:∀ n,Aw xs n=Aw ys n):xs=ys:=by
 have half:∀ {xs ys:List Blk},WFB xs->WFB ys->(∀ n,Aw xs n=Aw ys n)->∀ b∈xs,b∈ys:=fun {xs ys} hx hy h b hb=>by
  have hr:=hx.rng b hb
  obtain ⟨i,hi,hw⟩:=Lh hr.2.2.1 hr.2.2.2
  have hn:=J0 b.a hr.1 i hi
  have hm:Aw xs (64*b.a.toNat+i)=true:=memB_iff.2 ⟨b,hb,hn.1.symm,by rw [hn.2];exact hw⟩
  rw [h] at hm
  obtain ⟨c,hc,e,_⟩:=memB_iff.1 hm
  rw [hn.1] at e
  have:b.w=c.w:=by
   refine Nat.eq_of_testBit_eq fun k=>?_
   rcases Nat.lt_or_ge k 64 with hk|hk
   ·have hn:=J0 b.a hr.1 k hk
    obtain ⟨p,hp,ep⟩:=Dj hb
    obtain ⟨q,hq,eq⟩:=Dj hc
    have h1:=hx.at_ hp (n:=64*b.a.toNat+k) (by rw [ep];exact hn.1.symm)
    have h2:=hy.at_ hq (n:=64*b.a.toNat+k) (by rw [eq,e];exact hn.1.symm)
    rw [ep,hn.2] at h1
    rw [eq,hn.2] at h2
    rw [<- h1,<- h2,h]
   ·rw [Aay hr.2.2.2 hk,Aay (hy.rng c hc).2.2.2 hk]
  have:b=c:=by cases b;cases c;simp_all
  rw [this]
  exact hc
 exact Qe hx.up hy.up fun b=>⟨half hx hy h b,half hy hx (fun n=>(h n).symm) b⟩
theorem Hw (xs:List Blk)(x:Blk){j:Nat}(h:j<xs.length+1):(xs++[x])[j]! = if j<xs.length then xs[j]! else x:=by
 rw [getElem!_pos (xs++[x]) j (by simpa using h),List.getElem_append]
 split
 ·rename_i h1;rw [getElem!_pos xs j h1]
 ·simp
theorem WFB.snoc {xs:List Blk}{x:Blk}(h:WFB xs)(hx:∀ i,i<xs.length->xs[i]!.a<x.a)(hr:0<=x.a/\x.a<144115188075855872/\0<x.w/\x.w<18446744073709551616):WFB (xs++[x]):=by
 refine ⟨fun i j hij hj=>?_,fun b hb=>?_⟩
 ·have hj':j<xs.length+1:=by simpa using hj
  rw [Hw _ _ (by omega),Hw _ _ hj',if_pos (by omega)]
  split
  ·exact h.up i j hij (by assumption)
  ·exact hx i (by omega)
 ·rcases List.mem_append.1 hb with hb|hb
  ·exact h.rng b hb
  ·rw [List.mem_singleton.1 hb];exact hr
theorem Na (k j:Nat):(2 ^ k).testBit j=decide (k=j):=by rw [Nat.testBit_two_pow]
theorem Xm {bs:List Blk}(h:WFB bs){i n:Nat}(hi:i<bs.length)(e:bs[i]!.a=((n/64:Nat):Int)) :
  WFB (bs.set i ⟨bs[i]!.a,bs[i]!.w ||| 2 ^ (n%64)⟩)/\∀ m,Aw (bs.set i ⟨bs[i]!.a,bs[i]!.w ||| 2 ^ (n%64)⟩) m=(Aw bs m||decide (m=n)):=by
 have gs:∀ j,j<bs.length->(bs.set i ⟨bs[i]!.a,bs[i]!.w ||| 2 ^ (n%64)⟩)[j]! = if i=j then ⟨bs[i]!.a,bs[i]!.w ||| 2 ^ (n%64)⟩ else bs[j]! := fun j hj=>by
  rw [getElem!_pos _ j (by simpa using hj),List.getElem_set]
  split
  ·rfl
  ·rw [getElem!_pos bs j hj]
 have ga:∀ j,j<bs.length->(bs.set i ⟨bs[i]!.a,bs[i]!.w ||| 2 ^ (n%64)⟩)[j]!.a=bs[j]!.a:=fun j hj=>by
  rw [gs j hj]
  split
  ·rename_i e;rw [e]
  ·rfl
 have hw:WFB (bs.set i ⟨bs[i]!.a,bs[i]!.w ||| 2 ^ (n%64)⟩):=by
  refine ⟨fun j k hjk hk=>?_,fun b hb=>?_⟩
  ·have hk':k<bs.length:=by simpa using hk
   rw [ga j (by omega),ga k hk']
   exact h.up j k hjk hk'
  ·obtain ⟨j,hj,rfl⟩:=Dj hb
   have hj':j<bs.length:=by simpa using hj
   rw [gs j hj']
   split
   ·have hr:=h.rng _ (Bs hi)
    have h1:bs[i]!.w ||| 2 ^ (n%64)<2 ^ 64:=Nat.or_lt_two_pow hr.2.2.2 (Nat.pow_lt_pow_right (by omega) (Nat.mod_lt _ (by omega)))
    have h2:bs[i]!.w<=bs[i]!.w ||| 2 ^ (n%64):=Nat.left_le_or
    exact ⟨hr.1,hr.2.1,by show 0<bs[i]!.w ||| _;omega,h1⟩
   ·exact h.rng _ (Bs hj')
 refine ⟨hw,fun m=>?_⟩
 by_cases hm:((m/64:Nat):Int)=((n/64:Nat):Int)
 ·have hl:i<(bs.set i ⟨bs[i]!.a,bs[i]!.w ||| 2 ^ (n%64)⟩).length:=by simpa using hi
  rw [hw.at_ hl (n:=m) (by rw [ga i hi,e,hm]),h.at_ hi (n:=m) (by rw [e,hm]),gs i hi,if_pos rfl]
  show (bs[i]!.w ||| 2 ^ (n%64)).testBit (m%64)=_
  rw [Nat.testBit_or,Na]
  congr 1
  rw [decide_eq_decide]
  omega
 ·have hd:decide (m=n)=false:=by rw [decide_eq_false_iff_not];intro e2;exact hm (by rw [e2])
  rw [hd,Bool.or_false,Bool.eq_iff_iff,memB_iff,memB_iff]
  constructor
  ·rintro ⟨b,hb,e1,e2⟩
   obtain ⟨j,hj,rfl⟩:=Dj hb
   have hj':j<bs.length:=by simpa using hj
   have hne:i≠j:=fun q=>by subst q;rw [ga i hi] at e1;exact hm (e1.symm.trans e)
   rw [gs j hj',if_neg hne] at e1 e2
   exact ⟨_,Bs hj',e1,e2⟩
  ·rintro ⟨b,hb,e1,e2⟩
   obtain ⟨j,hj,rfl⟩:=Dj hb
   have hne:i≠j:=fun q=>by subst q;exact hm (e1.symm.trans e)
   have:=gs j hj
   rw [if_neg hne] at this
   exact ⟨_,by rw [<- this];exact Bs (by simpa using hj),e1,e2⟩
theorem Tk (bs:List Blk)(i:Nat)(x:Blk)(hi:i<=bs.length){j:Nat}(hj:j<bs.length+1):(bs.take i++x::bs.drop i)[j]! = if j<i then bs[j]! else if j=i then x else bs[j - 1]! := by
 have hl:(bs.take i++x::bs.drop i).length=bs.length+1:=by simp;omega
 rw [getElem!_pos _ j (by rw [hl];exact hj),List.getElem_append]
 by_cases h:j<i
 ·rw [dif_pos (by simp;omega),if_pos h,getElem!_pos bs j (by omega)]
  simp
 ·rw [dif_neg (by simp;omega),if_neg h]
  by_cases e:j=i
  ·subst e
   simp [Nat.min_eq_left hi]
  ·rw [if_neg e,getElem!_pos bs (j - 1) (by omega)]
   have:j - (bs.take i).length=(j - i - 1)+1:=by simp;omega
   simp only [this,List.getElem_cons_succ,List.getElem_drop]
   congr 1
   omega
theorem Agq {bs:List Blk}(h:WFB bs){i n:Nat}(hi:i<=bs.length)(hlo:∀ j,j<i->bs[j]!.a<((n/64:Nat):Int))(hhi:∀ j,i<=j->j<bs.length->((n/64:Nat):Int)<bs[j]!.a)(hn:n<9223372036854775808) :
  WFB (bs.take i++⟨((n/64:Nat):Int),2 ^ (n%64)⟩::bs.drop i)/\(∀ m,Aw (bs.take i++⟨((n/64:Nat):Int),2 ^ (n%64)⟩::bs.drop i) m=(Aw bs m||decide (m=n)))/\Aw bs n=false:=by
 have g:=@Tk bs i ⟨((n/64:Nat):Int),2 ^ (n%64)⟩ hi
 have hl:(bs.take i++⟨((n/64:Nat):Int),2 ^ (n%64)⟩::bs.drop i).length=bs.length+1:=by simp;omega
 refine ⟨⟨fun j k hjk hk=>?_,fun b hb=>?_⟩,fun m=>?_,Qg fun j hj e=>?_⟩
 ·rw [hl] at hk
  rw [@g j (by omega),@g k hk]
  by_cases h1:k<i
  ·rw [if_pos h1,if_pos (by omega)]
   exact h.up j k hjk (by omega)
  ·rw [if_neg h1]
   by_cases h2:k=i
   ·rw [if_pos h2,if_pos (by omega)]
    exact hlo j (by omega)
   ·rw [if_neg h2]
    by_cases h3:j<i
    ·rw [if_pos h3]
     exact h.up j (k - 1) (by omega) (by omega)
    ·rw [if_neg h3]
     by_cases h4:j=i
     ·rw [if_pos h4]
      exact hhi (k - 1) (by omega) (by omega)
     ·rw [if_neg h4]
      exact h.up (j - 1) (k - 1) (by omega) (by omega)
 ·rcases List.mem_append.1 hb with hb|hb
  ·exact h.rng b (List.mem_of_mem_take hb)
  ·rcases List.mem_cons.1 hb with rfl|hb
   ·have h2:2 ^ (n%64)<2 ^ 64:=Nat.pow_lt_pow_right (by omega) (Nat.mod_lt _ (by omega))
    exact ⟨by show (0:Int)<=((n/64:Nat):Int);omega,by show ((n/64:Nat):Int)<_;omega,Nat.two_pow_pos _,h2⟩
   ·exact h.rng b (List.mem_of_mem_drop hb)
 ·have e:Aw bs m=(Aw (bs.take i) m||Aw (bs.drop i) m):=by rw [<- Dr,List.take_append_drop]
  have e2:(⟨((n/64:Nat):Int),2 ^ (n%64)⟩:Blk)::bs.drop i=[⟨((n/64:Nat):Int),2 ^ (n%64)⟩]++bs.drop i:=rfl
  rw [e2,Dr,Dr,Hd,e]
  have e3:(decide (((n/64:Nat):Int)=((m/64:Nat):Int))&&(2 ^ (n%64)).testBit (m%64))=decide (m=n):=by
   rw [Na,<- Bool.decide_and,decide_eq_decide]
   omega
  rw [e3]
  cases Aw (bs.take i) m<;>cases Aw (bs.drop i) m<;>simp
 ·rcases Nat.lt_or_ge j i with h1|h1
  ·have:=hlo j h1;omega
  ·have:=hhi j h1 hj;omega
end Go.Proofs.YtghmdfegfehhkaaGreatDoor
namespace Go.Proofs.YtghmdfegfehhkaaGreatDoor
def Db (w:Nat):List Nat:=(List.range 64).filter fun i=>w.testBit i
theorem Sk:Db 0=[]:=by simp [Db]
theorem mem_bitsOf {w i:Nat}:i∈Db w↔i<64/\w.testBit i=true:=by simp [Db]
theorem Hi (k m j:Nat):(2 ^ k*(2*m+1)).testBit j=if j<k then false else if j=k then true else m.testBit (j - k - 1):=by
 rw [Nat.mul_comm,Nat.testBit_mul_two_pow]
 by_cases h:j<k
 ·rw [if_pos h]
  have:decide (k<=j)=false:=by simp;omega
  rw [this];rfl
 ·rw [if_neg h]
  have:decide (k<=j)=true:=by simp;omega
  rw [this,Bool.true_and]
  by_cases e:j=k
  ·subst e;simp
  ·rw [if_neg e]
   obtain ⟨d,hd⟩:∃ d,j - k=d+1:=⟨j - k - 1,by omega⟩
   rw [hd,Nat.testBit_succ]
   have:(2*m+1)/2=m:=by omega
   rw [this]
   congr 1
theorem Wm (k m:Nat):(2 ^ k*(2*m+1)) &&& (2 ^ k*(2*m+1) - 1)=2 ^ k*(2*m):=by
 refine Nat.eq_of_testBit_eq fun j=>?_
 have hp:=Nat.two_pow_pos k
 have e:2 ^ k*(2*m+1) - 1=2 ^ k*(2*m)+(2 ^ k - 1):=by
  rw [Nat.mul_add,Nat.mul_one];omega
 rw [Nat.testBit_and,Hi,e,Nat.testBit_two_pow_mul_add _ (by omega),Nat.mul_comm (2 ^ k) (2*m),Nat.testBit_mul_two_pow]
 by_cases h:j<k
 ·rw [if_pos h]
  have:decide (k<=j)=false:=by simp;omega
  rw [this];simp
 ·rw [if_neg h,if_neg h]
  have:decide (k<=j)=true:=by simp;omega
  rw [this,Bool.true_and]
  by_cases e:j=k
  ·subst e;simp
  ·rw [if_neg e]
   obtain ⟨d,hd⟩:∃ d,j - k=d+1:=⟨j - k - 1,by omega⟩
   rw [hd,Nat.testBit_succ]
   have e2:(2*m)/2=m:=by omega
   rw [e2,show d+1 - 1=d from rfl]
   simp
theorem Jb {p q:Nat->Bool}:∀ {l:List Nat} {k:Nat},l.Pairwise (·<·)->k∈l->p k=true->(∀ j,j<k->p j=false)->(∀ j,q j=(p j&&decide (j≠k)))->l.filter p=k::l.filter q
 |[],k,_,hk,_,_,_=>by cases hk
 |a::l,k,hs,hk,h1,h2,h3=>by
  rcases List.mem_cons.1 hk with e|hk
  ·subst e
   have:l.filter p=l.filter q:=List.filter_congr fun x hx=>by
    have:=List.rel_of_pairwise_cons hs hx
    rw [h3]
    have:decide (x≠k)=true:=by simp;omega
    rw [this,Bool.and_true]
   have hq:q k=false:=by rw [h3];simp
   rw [List.filter_cons_of_pos h1,List.filter_cons_of_neg (by rw [hq];simp),this]
  ·have hlt:=List.rel_of_pairwise_cons hs hk
   have hp:=h2 a hlt
   have hq:q a=false:=by rw [h3,hp];rfl
   rw [List.filter_cons_of_neg (by rw [hp];simp),List.filter_cons_of_neg (by rw [hq];simp)]
   exact Jb (List.Pairwise.of_cons hs) hk h1 h2 h3
theorem R7 {w:Nat}(h0:w≠0)(h1:w<18446744073709551616):Db w=Lib.ctz 64 w::Db (w &&& (w - 1))/\Lib.ctz 64 w<64/\w &&& (w - 1)<w:=by
 obtain ⟨m,hm,hk⟩:=Lib.ctzFrom_spec 64 w (by omega) h1
 have hc:Lib.ctz 64 w=Lib.ctzFrom 64 w:=by unfold Lib.ctz;rw [if_neg h0]
 rw [hc]
 generalize Lib.ctzFrom 64 w=k at hm hk
 have hlt:w &&& (w - 1)<w:=by rw [hm,Wm,Nat.mul_add];have:=Nat.two_pow_pos k;omega
 refine ⟨?_,hk,hlt⟩
 unfold Db
 refine Jb (List.pairwise_lt_range) (by simpa using hk) ?_ ?_ ?_
 ·rw [hm,Hi];simp
 ·intro j hj;rw [hm,Hi,if_pos hj]
 ·intro j
  rw [hm,Wm,Hi,Nat.mul_comm (2 ^ k) (2*m),Nat.testBit_mul_two_pow]
  by_cases h:j<k
  ·rw [if_pos h]
   have:decide (k<=j)=false:=by simp;omega
   rw [this];rfl
  ·rw [if_neg h]
   have:decide (k<=j)=true:=by simp;omega
   rw [this,Bool.true_and]
   by_cases e:j=k
   ·subst e;simp
   ·rw [if_neg e]
    obtain ⟨d,hd⟩:∃ d,j - k=d+1:=⟨j - k - 1,by omega⟩
    rw [hd,Nat.testBit_succ]
    have e2:(2*m)/2=m:=by omega
    have e4:decide (j≠k)=true:=by simp [e]
    rw [e2,e4,Bool.and_true,show d+1 - 1=d from rfl]
def Ht (b:Blk):List Int:=(Db b.w).map fun (i:Nat)=>64*b.a+(i:Int)
def Br (bs:List Blk):List Int:=bs.flatMap Ht
theorem U7 (xs:List Blk)(x:Blk):Br (xs++[x])=Br xs++Ht x:=by simp [Br]
theorem F5 {bs:List Blk}(h:WFB bs){x:Int}:x∈Br bs↔0<=x/\Aw bs x.toNat=true:=by
 unfold Br
 rw [List.mem_flatMap,memB_iff]
 constructor
 ·rintro ⟨b,hb,hx⟩
  obtain ⟨i,hi,rfl⟩:=List.mem_map.1 hx
  have hi:=mem_bitsOf.1 hi
  have hr:=h.rng b hb
  have e:(64*b.a+(i:Int)).toNat=64*b.a.toNat+i:=by omega
  have hn:=J0 b.a hr.1 i hi.1
  refine ⟨by omega,b,hb,?_,?_⟩
  ·rw [e];exact hn.1.symm
  ·rw [e,hn.2];exact hi.2
 ·rintro ⟨h0,b,hb,e1,e2⟩
  refine ⟨b,hb,List.mem_map.2 ⟨x.toNat%64,mem_bitsOf.2 ⟨Nat.mod_lt _ (by omega),e2⟩,by omega⟩⟩
theorem Yr (b:Blk):(Ht b).Pairwise (·<·):=by
 unfold Ht Db
 refine List.Pairwise.map _ (fun a c h=>?_) ((List.pairwise_lt_range (n:=64)).filter _)
 show 64*b.a+(a:Int)<64*b.a+(c:Int)
 omega
theorem N8 {b:Blk}{x:Int}(h:x∈Ht b):64*b.a<=x/\x<64*b.a+64:=by
 obtain ⟨i,hi,rfl⟩:=List.mem_map.1 h
 have:=(mem_bitsOf.1 hi).1
 omega
theorem Ah7 {z:Blk}{zs:List Blk}(hz:∀ i j,i<j->j<(z::zs).length->(z::zs)[i]!.a<(z::zs)[j]!.a):(∀ b∈zs,z.a<b.a)/\∀ i j,i<j->j<zs.length->zs[i]!.a<zs[j]!.a:=by
 refine ⟨fun b hb=>?_,fun i j hij hj=>by simpa using hz (i+1) (j+1) (by omega) (by simpa using hj)⟩
 obtain ⟨j,hj,rfl⟩:=Dj hb
 simpa using hz 0 (j+1) (by omega) (by simpa using hj)
theorem Th:∀ {bs:List Blk},(∀ i j,i<j->j<bs.length->bs[i]!.a<bs[j]!.a)->(Br bs).Pairwise (·<·)
 |[],_=>List.Pairwise.nil
 |b::bs,h=>by
  obtain ⟨h1,h2⟩:=Ah7 h
  show (Ht b++Br bs).Pairwise (·<·)
  rw [List.pairwise_append]
  refine ⟨Yr b,Th h2,fun x hx y hy=>?_⟩
  obtain ⟨c,hc,hy⟩:=List.mem_flatMap.1 hy
  have:=h1 c hc
  have:=N8 hx
  have:=N8 hy
  omega
theorem Kl (w:Nat):(Db w).length<=64:=by
 have:=List.length_filter_le (fun i=>w.testBit i) (List.range 64)
 simpa [Db] using this
theorem Gv:∀ bs:List Blk,(Br bs).length<=64*bs.length
 |[]=>by simp [Br]
 |b::bs=>by
  have h1:=Gv bs
  have h2:=Kl b.w
  have e:(Br (b::bs)).length=(Db b.w).length+(Br bs).length:=by simp [Br,Ht]
  simp only [List.length_cons]
  omega
structure JInv (s t:List Blk)(i k:Nat)(out:List Blk)(more:Bool):Prop where
 wf:WFB out
 hi:i<=s.length
 hk:k<=t.length
 mem:∀ n,Aw out n=(Aw (s.take i) n||Aw (t.take k) n)
 lo:∀ j,j<out.length->(∀ p,i<=p->p<s.length->out[j]!.a<s[p]!.a)/\(∀ p,k<=p->p<t.length->out[j]!.a<t[p]!.a)
 len:out.length<=i+k
 more_:more=!decide (out=s.take i)
 st:∀ j,j<i->∀ p,k<=p->p<t.length->s[j]!.a<t[p]!.a
theorem JInv.start (s t:List Blk):JInv s t 0 0 [] false:=⟨WFB.nil,Nat.zero_le _,Nat.zero_le _,fun n=>rfl,fun j h=>by simp at h,by simp,by simp,fun j h=>by omega⟩
theorem Dk {bs:List Blk}{i:Nat}(h:i<bs.length):bs.take (i+1)=bs.take i++[bs[i]!]:=by
 rw [getElem!_pos bs i h];simp
theorem Ny {xs ys:List Blk}{x y:Blk}:xs++[x]=ys++[y]↔xs=ys/\x=y:=by
 constructor
 ·intro h
  have:=List.append_inj' h rfl
  exact ⟨this.1,by simpa using this.2⟩
 ·rintro ⟨rfl,rfl⟩;rfl
section
variable {s t out:List Blk}{i k:Nat}{more:Bool}
theorem JInv.left (hs:WFB s)(ht:WFB t)(h:JInv s t i k out more)(hi:i<s.length)(hk:k=t.length\/k<t.length/\s[i]!.a<t[k]!.a):JInv s t (i+1) k (out++[s[i]!]) more:=by
 have hlt:∀ p,k<=p->p<t.length->s[i]!.a<t[p]!.a:=fun p h1 h2=>by
  rcases hk with e|⟨h3,h4⟩
  ·omega
  ·rcases Nat.lt_or_ge k p with h5|h5
   ·have:=ht.up k p h5 h2;omega
   ·have:p=k:=by omega
    subst this;exact h4
 refine ⟨h.wf.snoc (fun j hj=>(h.lo j hj).1 i (Nat.le_refl _) hi) (hs.rng _ (Bs hi)),hi,h.hk,fun n=>?_,fun j hj=>?_,by have:=h.len;simp;omega,?_,fun j hj=>?_⟩
 ·rw [Dr,h.mem,Dk hi,Dr]
  cases Aw (s.take i) n<;>cases Aw (t.take k) n<;>simp
 ·have hj':j<out.length+1:=by simpa using hj
  rw [Hw _ _ hj']
  split
  ·exact ⟨fun p h1 h2=>(h.lo j (by assumption)).1 p (by omega) h2,(h.lo j (by assumption)).2⟩
  ·exact ⟨fun p h1 h2=>hs.up i p (by omega) h2,hlt⟩
 ·rw [h.more_,Dk hi]
  congr 1
  rw [decide_eq_decide,Ny]
  simp
 ·rcases Nat.lt_or_ge j i with h1|h1
  ·exact h.st j h1
  ·have:j=i:=by omega
   subst this;exact hlt
theorem JInv.right (hs:WFB s)(ht:WFB t)(h:JInv s t i k out more)(hk:k<t.length)(hi:i=s.length\/i<s.length/\t[k]!.a<s[i]!.a):JInv s t i (k+1) (out++[t[k]!]) true:=by
 have hlt:∀ p,i<=p->p<s.length->t[k]!.a<s[p]!.a:=fun p h1 h2=>by
  rcases hi with e|⟨h3,h4⟩
  ·omega
  ·rcases Nat.lt_or_ge i p with h5|h5
   ·have:=hs.up i p h5 h2;omega
   ·have:p=i:=by omega
    subst this;exact h4
 refine ⟨h.wf.snoc (fun j hj=>(h.lo j hj).2 k (Nat.le_refl _) hk) (ht.rng _ (Bs hk)),h.hi,hk,fun n=>?_,fun j hj=>?_,by have:=h.len;simp;omega,?_,fun j hj p h1 h2=>h.st j hj p (by omega) h2⟩
 ·rw [Dr,h.mem,Dk hk,Dr]
  cases Aw (s.take i) n<;>cases Aw (t.take k) n<;>simp
 ·have hj':j<out.length+1:=by simpa using hj
  rw [Hw _ _ hj']
  split
  ·exact ⟨(h.lo j (by assumption)).1,fun p h1 h2=>(h.lo j (by assumption)).2 p (by omega) h2⟩
  ·exact ⟨hlt,fun p h1 h2=>ht.up k p (by omega) h2⟩
 ·have hne:out++[t[k]!]≠s.take i:=by
   intro e
   have hm:t[k]! ∈ s.take i:=by rw [<- e];simp
   obtain ⟨j,hj,ej⟩:=List.getElem_of_mem hm
   have hj':j<i:=by simp at hj;omega
   have:=h.st j hj' k (Nat.le_refl _) hk
   rw [List.getElem_take] at ej
   rw [getElem!_pos s j (by have:=h.hi;omega),ej] at this
   omega
  rw [decide_eq_false hne];rfl
theorem JInv.both (hs:WFB s)(ht:WFB t)(h:JInv s t i k out more)(hi:i<s.length)(hk:k<t.length)(e:s[i]!.a=t[k]!.a) :
  JInv s t (i+1) (k+1) (out++[⟨s[i]!.a,s[i]!.w ||| t[k]!.w⟩]) (more||decide (s[i]!.w ||| t[k]!.w≠s[i]!.w)):=by
 have hr:=hs.rng _ (Bs hi)
 have hr2:=ht.rng _ (Bs hk)
 have h1:s[i]!.w ||| t[k]!.w<2 ^ 64:=Nat.or_lt_two_pow hr.2.2.2 hr2.2.2.2
 have h2:s[i]!.w<=s[i]!.w ||| t[k]!.w:=Nat.left_le_or
 refine ⟨h.wf.snoc (fun j hj=>(h.lo j hj).1 i (Nat.le_refl _) hi) ⟨hr.1,hr.2.1,by show 0<s[i]!.w ||| _;omega,h1⟩,hi,hk,fun n=>?_,fun j hj=>?_,by have:=h.len;simp;omega,?_,fun j hj p hp1 hp2=>?_⟩
 ·rw [Dr,h.mem,Dk hi,Dk hk,Dr,Dr,Hd,Hd,Hd]
  show (_||(decide (s[i]!.a=_)&&(s[i]!.w ||| t[k]!.w).testBit _))=_
  rw [<- e,Nat.testBit_or]
  cases Aw (s.take i) n<;>cases Aw (t.take k) n<;>cases decide (s[i]!.a=((n/64:Nat):Int))<;>simp
 ·have hj':j<out.length+1:=by simpa using hj
  rw [Hw _ _ hj']
  split
  ·exact ⟨fun p h1 h2=>(h.lo j (by assumption)).1 p (by omega) h2,fun p h1 h2=>(h.lo j (by assumption)).2 p (by omega) h2⟩
  ·exact ⟨fun p h1 h2=>hs.up i p (by omega) h2,fun p h1 h2=>by show s[i]!.a<_;rw [e];exact ht.up k p (by omega) h2⟩
 ·rw [h.more_,Dk hi]
  have:decide (out++[(⟨s[i]!.a,s[i]!.w ||| t[k]!.w⟩:Blk)]=s.take i++[s[i]!])=(decide (out=s.take i)&&decide (s[i]!.w ||| t[k]!.w=s[i]!.w)):=by
   rw [<- Bool.decide_and,decide_eq_decide,Ny]
   refine and_congr Iff.rfl ⟨fun q=>congrArg Blk.w q,fun q=>?_⟩
   rw [q]
  rw [this]
  cases decide (out=s.take i)<;>simp
 ·rcases Nat.lt_or_ge j i with h1|h1
  ·exact h.st j h1 p (by omega) hp2
  ·have:j=i:=by omega
   subst this
   rw [e]
   exact ht.up k p (by omega) hp2
theorem JInv.done (h:JInv s t s.length t.length out more):WFB out/\(∀ n,Aw out n=(Aw s n||Aw t n))/\more=!decide (out=s)/\out.length<=s.length+t.length:=by
 refine ⟨h.wf,fun n=>?_,?_,h.len⟩
 ·rw [h.mem,List.take_length,List.take_length]
 ·rw [h.more_,List.take_length]
end
structure LInv (s t:List Blk)(i:Nat)(out:List Blk):Prop where
 wf:WFB out
 mem:∀ n,Aw out n=(Aw (s.take i) n&&!Aw t n)
 lo:∀ j,j<out.length->∀ p,i<=p->p<s.length->out[j]!.a<s[p]!.a
 len:out.length<=i
theorem LInv.start (s t:List Blk):LInv s t 0 []:=⟨WFB.nil,fun n=>by simp [E9],fun j h=>by simp at h,by simp⟩
theorem LInv.step {s t out:List Blk}{i v:Nat}(hs:WFB s)(h:LInv s t i out)(hi:i<s.length)(hv:v<18446744073709551616)
  (hb:∀ n,s[i]!.a=((n/64:Nat):Int)->v.testBit (n%64)=(s[i]!.w.testBit (n%64)&&!Aw t n)):LInv s t (i+1) (if v=0 then out else out++[⟨s[i]!.a,v⟩]):=by
 have hr:=hs.rng _ (Bs hi)
 have key:∀ n,Aw [(⟨s[i]!.a,v⟩:Blk)] n=(Aw [s[i]!] n&&!Aw t n):=fun n=>by
  rw [Hd,Hd]
  by_cases e:s[i]!.a=((n/64:Nat):Int)
  ·rw [hb n e]
   cases s[i]!.w.testBit (n%64)<;>simp [e]
  ·rw [decide_eq_false e];rfl
 have hm:∀ n,(Aw out n||Aw [(⟨s[i]!.a,v⟩:Blk)] n)=(Aw (s.take (i+1)) n&&!Aw t n):=fun n=>by
  rw [h.mem,key,Dk hi,Dr]
  cases Aw (s.take i) n<;>cases Aw t n<;>simp
 by_cases h0:v=0
 ·rw [if_pos h0]
  subst h0
  refine ⟨h.wf,fun n=>?_,fun j hj p h1 h2=>h.lo j hj p (by omega) h2,by have:=h.len;omega⟩
  rw [<- hm,Hd]
  simp
 ·rw [if_neg h0]
  refine ⟨h.wf.snoc (fun j hj=>h.lo j hj i (Nat.le_refl _) hi) ⟨hr.1,hr.2.1,by show 0<v;omega,hv⟩,fun n=>?_,fun j hj p h1 h2=>?_,by have:=h.len;simp;omega⟩
  ·rw [Dr];exact hm n
  ·have hj':j<out.length+1:=by simpa using hj
   rw [Hw _ _ hj']
   split
   ·exact h.lo j (by assumption) p (by omega) h2
   ·exact hs.up i p (by omega) h2
theorem LInv.done {s t out:List Blk}(h:LInv s t s.length out):WFB out/\(∀ n,Aw out n=(Aw s n&&!Aw t n))/\out.length<=s.length:=by
 refine ⟨h.wf,fun n=>?_,h.len⟩
 rw [h.mem,List.take_length]
end Go.Proofs.YtghmdfegfehhkaaGreatDoor
namespace Go.Proofs.YtghmdfegfehhkaaGreatDoor
def pc:Nat->Nat->Nat
 |0,_=>0
 |f+1,x=>x%2+pc f (x/2)
theorem Vj:∀ (n w:Nat),((List.range n).filter fun i=>w.testBit i).length=pc n w
 |0,w=>rfl
 |n+1,w=>by
  have h:=Vj n (w/2)
  have e:(((List.range n).map Nat.succ).filter fun i=>w.testBit i).length=pc n (w/2):=by
   rw [List.filter_map,List.length_map,<- h]
   congr 1
   refine List.filter_congr fun x _=>?_
   simp [Nat.testBit_succ]
  rw [List.range_succ_eq_map]
  show _=w%2+pc n (w/2)
  by_cases h0:w.testBit 0=true
  ·rw [List.filter_cons_of_pos h0,List.length_cons,e]
   have:w%2=1:=by simpa [Nat.testBit_zero] using h0
   omega
  ·rw [List.filter_cons_of_neg h0,e]
   have:w%2≠1:=by simpa [Nat.testBit_zero] using h0
   omega
theorem Yg (w:Nat):(Db w).length=pc 64 w:=Vj 64 w
theorem Tq (m x:Nat):pc (m+8) x=pc 8 (x%256)+pc m (x/256):=by
 simp only [pc]
 have e:x/2/2/2/2/2/2/2/2=x/256:=by omega
 rw [e]
 omega
def rep (m:Nat):Nat->Nat
 |0=>0
 |n+1=>256*rep m n+m
theorem Zz (k a b m M:Nat)(ha:a<256)(hm:m<256)(hk:k<=8)(hmk:m<2 ^ (8 - k)):(256*b+a) >>> k &&& (256*M+m)=256*(b >>> k &&& M)+(a >>> k &&& m):=by
 have e8:(256:Nat)=2 ^ 8:=rfl
 have hA:a >>> k &&& m<2 ^ 8:=Nat.lt_of_le_of_lt Nat.and_le_right hm
 refine Nat.eq_of_testBit_eq fun j=>?_
 rw [e8,Nat.testBit_and,Nat.testBit_shiftRight,Nat.testBit_two_pow_mul_add _ ha,Nat.testBit_two_pow_mul_add _ hm,Nat.testBit_two_pow_mul_add _ hA,Nat.testBit_and,Nat.testBit_and,Nat.testBit_shiftRight,Nat.testBit_shiftRight]
 by_cases h:j<8
 ·rw [if_pos h,if_pos h]
  by_cases h2:k+j<8
  ·rw [if_pos h2]
  ·have:m.testBit j=false:=Nat.testBit_lt_two_pow (Nat.lt_of_lt_of_le hmk (Nat.pow_le_pow_right (by omega) (by omega)))
   rw [this];simp
 ·rw [if_neg h,if_neg h,if_neg (by omega)]
  congr 2
  omega
def F1 (m M x:Nat):Nat:=(x >>> m &&& M)+(x &&& M)
theorem Xi (k a b m M:Nat)(ha:a<256)(hm:m<256)(hk:k<=8)(hmk:m<2 ^ (8 - k)):F1 k (256*M+m) (256*b+a)=256*F1 k M b+F1 k m a:=by
 have h0:=Zz 0 a b m M ha hm (by omega) hm
 simp only [Nat.shiftRight_zero] at h0
 unfold F1
 rw [Zz k a b m M ha hm hk hmk,h0]
 omega
def F3 (M x:Nat):Nat:=(x >>> 4+x) &&& M
theorem Al3 (a b M:Nat)(ha:a<256)(h1:a%16+a/16<=15)(h2:b%16+a/16<=15):F3 (256*M+15) (256*b+a)=256*F3 M b+(a%16+a/16):=by
 have e:(256*b+a) >>> 4+(256*b+a)=256*(b >>> 4+b)+(16*(b%16+a/16)+(a%16+a/16)):=by
  simp only [Nat.shiftRight_eq_div_pow]
  omega
 have h0:=Zz 0 (16*(b%16+a/16)+(a%16+a/16)) (b >>> 4+b) 15 M (by omega) (by omega) (by omega) (by omega)
 simp only [Nat.shiftRight_zero] at h0
 unfold F3
 rw [e,h0]
 have:(16*(b%16+a/16)+(a%16+a/16)) &&& 15=a%16+a/16:=by
  rw [show (15:Nat)=2 ^ 4 - 1 from rfl,Nat.and_two_pow_sub_one_eq_mod]
  omega
 rw [this]
def F2 (y:Nat):Nat:=F1 2 51 (F1 1 85 y)
theorem Ad1:∀ y,y<256->F1 1 85 y<256/\F2 y<256/\F2 y%16<=4/\F2 y/16<=4/\F2 y%16+F2 y/16=pc 8 y:=by decide +kernel
def pcs:Nat->Nat->Nat
 |0,_=>0
 |n+1,x=>256*pcs n (x/256)+pc 8 (x%256)
theorem Bgk:∀ n x,x<256 ^ n->F3 (rep 15 n) (F1 2 (rep 51 n) (F1 1 (rep 85 n) x))=pcs n x/\F1 2 (rep 51 n) (F1 1 (rep 85 n) x)%16<=4
 |0,x,h=>by simp [F3,F1,rep,pcs]
 |n+1,x,h=>by
  obtain ⟨h1,h2⟩:=Bgk n (x/256) (by rw [Nat.pow_succ] at h;omega)
  have hx:x=256*(x/256)+x%256:=by omega
  have hb:=Ad1 (x%256) (Nat.mod_lt _ (by omega))
  have e1:F1 1 (rep 85 (n+1)) x=256*F1 1 (rep 85 n) (x/256)+F1 1 85 (x%256):=by
   conv=>lhs;rw [hx]
   exact Xi 1 _ _ 85 _ (Nat.mod_lt _ (by omega)) (by omega) (by omega) (by decide)
  have e2:F1 2 (rep 51 (n+1)) (F1 1 (rep 85 (n+1)) x)=256*F1 2 (rep 51 n) (F1 1 (rep 85 n) (x/256))+F2 (x%256):=by
   rw [e1]
   exact Xi 2 _ _ 51 _ hb.1 (by omega) (by omega) (by decide)
  rw [e2]
  refine ⟨?_,by omega⟩
  have e3:=Al3 (F2 (x%256)) (F1 2 (rep 51 n) (F1 1 (rep 85 n) (x/256))) (rep 15 n) hb.2.1 (by omega) (by omega)
  show F3 (256*rep 15 n+15) _=256*pcs n (x/256)+pc 8 (x%256)
  rw [e3,h1,hb.2.2.2.2]
theorem Jg:∀ y,y<256->pc 8 y<=8:=by decide +kernel
theorem sh1 {x y z p q:Nat}(e:x=256*y+p)(f:y=256*z+q):x+y=256*(y+z)+(p+q):=by omega
theorem bd1 {x y p B C:Nat}(e:x=256*y+p)(h:p<=8)(hy:y<=B)(hC:256*B+8=C):x<=C:=by omega
theorem dv1 {x y p:Nat}(e:x=256*y+p)(h:p<=8):x/256=y:=by omega
theorem dv2 {x y z p q:Nat}(e:x=256*y+p)(f:y=256*z+q)(h:p<=16)(k:q<=16):x/65536=z:=by omega
theorem sh2 {a b c d p q:Nat}(e:a=256*b+p)(f:c=256*d+q):a+c=256*(b+d)+(p+q):=by omega
theorem dv4 {a b c d e p q r s:Nat}(h1:a=256*b+p)(h2:b=256*c+q)(h3:c=256*d+r)(h4:d=256*e+s)(k1:p<=32)(k2:q<=32)(k3:r<=32)(k4:s<=32):a/4294967296=e:=by omega
theorem md4 {a b c d p q:Nat}(h1:a=256*b+p)(h2:c=256*d+q)(k1:p<=32)(k2:q<=32):(a+c)%128=p+q:=by omega
theorem bg1 {x a b c:Nat}(h1:a<=2260630401189896)(h2:b<=8830587504648)(h3:c<=34494482440)(h:x<=578721382704613384):x+a+(b+c)<9223372036854775808:=by omega
theorem bg2 {x a b c d e f g:Nat}(h1:a<=2260630401189896)(h2:b<=8830587504648)(h3:c<=34494482440)(h4:d<=134744072)(h5:e<=526344)(h6:f<=2056)(h7:g<=8)(h:x<=578721382704613384):x+a+(b+c)+(d+e+(f+g))<9223372036854775808:=by omega
theorem Bj7 {p0 p1 p2 p3 p4 p5 p6 p7 x y1 y2 y3 y4 y5 y6 y7:Nat}(e0:x=256*y1+p0)(e1:y1=256*y2+p1)(e2:y2=256*y3+p2)(e3:y3=256*y4+p3)(e4:y4=256*y5+p4)(e5:y5=256*y6+p5)(e6:y6=256*y7+p6)(e7:y7=p7)
  (h0:p0<=8) (h1:p1<=8) (h2:p2<=8) (h3:p3<=8) (h4:p4<=8) (h5:p5<=8) (h6:p6<=8) (h7:p7<=8) :
  ∃ x4 x5 x6,x4=x+x/256/\x5=x4+x4/65536/\x6=x5+x5/4294967296/\x4<9223372036854775808/\x5<9223372036854775808/\x6<9223372036854775808/\x6%128=p0+p1+p2+p3+p4+p5+p6+p7:=by
 have b7:y7<=8:=by rw [e7];exact h7
 have e7:y7=256*0+p7:=by rw [e7];simp
 have b6:=bd1 e6 h6 b7 rfl
 have b5:=bd1 e5 h5 b6 rfl
 have b4:=bd1 e4 h4 b5 rfl
 have b3:=bd1 e3 h3 b4 rfl
 have b2:=bd1 e2 h2 b3 rfl
 have b1:=bd1 e1 h1 b2 rfl
 have b0:=bd1 e0 h0 b1 rfl
 have f1:x/256=y1:=dv1 e0 h0
 have k0:=sh1 e0 e1
 have k1:=sh1 e1 e2
 have k2:=sh1 e2 e3
 have k3:=sh1 e3 e4
 have k4:=sh1 e4 e5
 have k5:=sh1 e5 e6
 have k6:=sh1 e6 e7
 have q:∀ {a b:Nat},a<=8->b<=8->a+b<=16:=fun h k=>Nat.add_le_add h k
 have q2:∀ {a b:Nat},a<=16->b<=16->a+b<=32:=fun h k=>Nat.add_le_add h k
 have f2:=dv2 k0 k1 (q h0 h1) (q h1 h2)
 have n0:=sh2 k0 k2
 have n1:=sh2 k1 k3
 have n2:=sh2 k2 k4
 have n3:=sh2 k3 k5
 have n4:=sh2 k4 k6
 have f3:=dv4 n0 n1 n2 n3 (q2 (q h0 h1) (q h2 h3)) (q2 (q h1 h2) (q h3 h4)) (q2 (q h2 h3) (q h4 h5)) (q2 (q h3 h4) (q h5 h6))
 have hz:x+y1<9223372036854775808:=Nat.lt_of_le_of_lt (Nat.add_le_add b0 b1) (by decide)
 have ym:y1<=2260630401189896/\y2<=8830587504648/\y3<=34494482440/\y4<=134744072/\y5<=526344/\x<=578721382704613384:=⟨b1,b2,b3,b4,b5,b0⟩
 refine ⟨x+y1,x+y1+(y2+y3),x+y1+(y2+y3)+(y4+y5+(y6+y7)),by rw [f1],by rw [f2],by rw [f3],hz,?_,?_,?_⟩
 ·exact bg1 ym.1 ym.2.1 ym.2.2.1 ym.2.2.2.2.2
 ·exact bg2 ym.1 ym.2.1 ym.2.2.1 ym.2.2.2.1 ym.2.2.2.2.1 b6 b7 ym.2.2.2.2.2
 ·rw [md4 n0 n4 (q2 (q h0 h1) (q h2 h3)) (q2 (q h4 h5) (q h6 h7))]
  simp only [Nat.add_assoc]
theorem Bl9:rep 85 8=6148914691236517205/\rep 51 8=3689348814741910323/\rep 15 8=1085102592571150095:=by decide +kernel
theorem Ax7 {x:Nat}(h:x<18446744073709551616):∃ x1 x2 x3 x4 x5 x6,x1=(x >>> 1 &&& 6148914691236517205)+(x &&& 6148914691236517205)/\x2=(x1 >>> 2 &&& 3689348814741910323)+(x1 &&& 3689348814741910323) /\
  x3=(x2 >>> 4+x2) &&& 1085102592571150095/\x4=x3+x3/256/\x5=x4+x4/65536/\x6=x5+x5/4294967296/\x1<18446744073709551616/\x2<9223372036854775808/\x2 >>> 4+x2<18446744073709551616/\x4<9223372036854775808/\x5<9223372036854775808/\x6<9223372036854775808/\x6%128=(Db x).length:=by
 obtain ⟨hs,_⟩:=Bgk 8 x h
 obtain ⟨r1,r2,r3⟩:=Bl9
 rw [r1,r2,r3] at hs
 have b0:=Jg (x%256) (Nat.mod_lt _ (by omega))
 have b1:=Jg (x/256%256) (Nat.mod_lt _ (by omega))
 have b2:=Jg (x/256/256%256) (Nat.mod_lt _ (by omega))
 have b3:=Jg (x/256/256/256%256) (Nat.mod_lt _ (by omega))
 have b4:=Jg (x/256/256/256/256%256) (Nat.mod_lt _ (by omega))
 have b5:=Jg (x/256/256/256/256/256%256) (Nat.mod_lt _ (by omega))
 have b6:=Jg (x/256/256/256/256/256/256%256) (Nat.mod_lt _ (by omega))
 have b7:=Jg (x/256/256/256/256/256/256/256%256) (Nat.mod_lt _ (by omega))
 have hl:(Db x).length=pc 8 (x%256)+pc 8 (x/256%256)+pc 8 (x/256/256%256)+pc 8 (x/256/256/256%256)+pc 8 (x/256/256/256/256%256)+pc 8 (x/256/256/256/256/256%256)+pc 8 (x/256/256/256/256/256/256%256)+pc 8 (x/256/256/256/256/256/256/256%256):=by
  have e1:pc 64 x=pc 8 (x%256)+pc 56 (x/256):=Tq 56 _
  have e2:pc 56 (x/256)=pc 8 (x/256%256)+pc 48 (x/256/256):=Tq 48 _
  have e3:pc 48 (x/256/256)=pc 8 (x/256/256%256)+pc 40 (x/256/256/256):=Tq 40 _
  have e4:pc 40 (x/256/256/256)=pc 8 (x/256/256/256%256)+pc 32 (x/256/256/256/256):=Tq 32 _
  have e5:pc 32 (x/256/256/256/256)=pc 8 (x/256/256/256/256%256)+pc 24 (x/256/256/256/256/256):=Tq 24 _
  have e6:pc 24 (x/256/256/256/256/256)=pc 8 (x/256/256/256/256/256%256)+pc 16 (x/256/256/256/256/256/256):=Tq 16 _
  have e7:pc 16 (x/256/256/256/256/256/256)=pc 8 (x/256/256/256/256/256/256%256)+pc 8 (x/256/256/256/256/256/256/256):=Tq 8 _
  have e8:pc 8 (x/256/256/256/256/256/256/256)=pc 8 (x/256/256/256/256/256/256/256%256):=Tq 0 _
  rw [Yg,e1,e2,e3,e4,e5,e6,e7,e8]
  simp only [Nat.add_assoc]
 have q:∀ n y,pcs (n+1) y=256*pcs n (y/256)+pc 8 (y%256):=fun _ _=>rfl
 obtain ⟨x4,x5,x6,e4,e5,e6,l4,l5,l6,e7⟩:=Bj7 (q 7 x) (q 6 _) (q 5 _) (q 4 _) (q 3 _) (q 2 _) (q 1 _) (by rw [q];simp only [pcs,Nat.mul_zero,Nat.zero_add]) b0 b1 b2 b3 b4 b5 b6 b7
 have m1:F1 1 6148914691236517205 x<=6148914691236517205+6148914691236517205:=Nat.add_le_add Nat.and_le_right Nat.and_le_right
 have m2:∀ y,F1 2 3689348814741910323 y<=3689348814741910323+3689348814741910323:=fun y=>Nat.add_le_add Nat.and_le_right Nat.and_le_right
 have m3:=m2 (F1 1 6148914691236517205 x)
 refine ⟨_,_,pcs 8 x,x4,x5,x6,rfl,rfl,hs.symm,e4,e5,e6,?_,?_,?_,l4,l5,l6,e7.trans hl.symm⟩
 ·show F1 1 6148914691236517205 x<_;omega
 ·show F1 2 3689348814741910323 (F1 1 6148914691236517205 x)<_;omega
 ·show F1 2 3689348814741910323 (F1 1 6148914691236517205 x) >>> 4+F1 2 3689348814741910323 (F1 1 6148914691236517205 x)<_
  rw [Nat.shiftRight_eq_div_pow]
  omega
def keyOf (b:Blk):List Nat:=(List.range 4).map (fun i=>b.a.toNat/2 ^ (8*i)%256)++(List.range 8).map fun i=>b.w/2 ^ (8*i)%256
def Ey (bs:List Blk):List Nat:=bs.flatMap keyOf
theorem H6 (b:Blk):(keyOf b).length=12:=by simp [keyOf]
theorem Ym {x y:Blk}(hx:0<=x.a/\x.a<4294967296/\x.w<18446744073709551616)(hy:0<=y.a/\y.a<4294967296/\y.w<18446744073709551616)(h:keyOf x=keyOf y):x=y:=by
 have:=List.append_inj h (by simp)
 obtain ⟨h1,h2⟩:=this
 simp only [List.range_succ,List.range_zero,List.map_append,List.map_nil,List.map_cons,List.nil_append,List.cons_append,List.cons.injEq,List.append_assoc,and_true] at h1 h2
 cases x;cases y
 simp only [Blk.mk.injEq] at *
 omega
theorem Su:∀ {xs ys:List Blk},(∀ b∈xs,0<=b.a/\b.a<4294967296/\b.w<18446744073709551616)->(∀ b∈ys,0<=b.a/\b.a<4294967296/\b.w<18446744073709551616)->Ey xs=Ey ys->xs=ys
 |[],[],_,_,_=>rfl
 |[],y::ys,_,_,h=>by
  have h:[]=keyOf y++Ey ys:=h
  have:=congrArg List.length h
  rw [List.length_append,H6] at this
  simp only [List.length_nil] at this
  omega
 |x::xs,[],_,_,h=>by
  have h:keyOf x++Ey xs=[]:=h
  have:=congrArg List.length h
  rw [List.length_append,H6] at this
  simp only [List.length_nil] at this
  omega
 |x::xs,y::ys,hx,hy,h=>by
  have h:keyOf x++Ey xs=keyOf y++Ey ys:=h
  obtain ⟨h1,h2⟩:=List.append_inj h (by rw [H6,H6])
  rw [Ym (hx x (by simp)) (hy y (by simp)) h1,Su (fun b hb=>hx b (by simp [hb])) (fun b hb=>hy b (by simp [hb])) h2]
end Go.Proofs.YtghmdfegfehhkaaGreatDoor
