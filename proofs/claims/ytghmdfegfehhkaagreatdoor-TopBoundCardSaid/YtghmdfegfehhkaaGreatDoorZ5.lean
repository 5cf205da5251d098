/- Several texts of one claim in one file, made short: EP F03 H03 H04 TG2 R0 EX EX2 EX3. -/
import Derived.Test.YtghmdfegfehhkaaGreatDoorZ4
import Derived.Lib.Overlaps
import Derived.Test.YtghmdfegfehhkaaGreatDoorRows
import Derived.ProofKit
import Derived.LaidMore
import Derived.Test.YtghmdfegfehhkaaGreatDoorZ1
set_option maxRecDepth 100000
set_option maxHeartbeats 64000000
set_option linter.unusedVariables false
set_option linter.unusedSimpArgs false
namespace Go.Proofs.YtghmdfegfehhkaaGreatDoor
open Go.RowKit
structure Kept (rb:List Nat)(w w':World):Prop where
 os:w'.os=w.os
 tape:w'.tape=w.tape
 output:w'.output=w.output
 size:w.heap.size<=w'.heap.size
 block:∀ k,k<w.heap.size->k∉rb->w'.heap[k]?=w.heap[k]?
section
variable {rb rb2:List Nat}{w w1 w2:World}
theorem Kept.of (h:Below w.heap.size w w1):Kept rb w w1:=⟨h.os,h.tape,h.output,h.size,fun k hk _=>h.block k hk⟩
theorem Kept.refl (rb:List Nat)(w:World):Kept rb w w:=Kept.of (Below.refl _ _)
theorem Kept.trans (h:Kept rb w w1)(k:Kept rb2 w1 w2)(hs:∀ b∈rb2,b∈rb\/w.heap.size<=b):Kept rb w w2:=
 ⟨k.os.trans h.os,k.tape.trans h.tape,k.output.trans h.output,Nat.le_trans h.size k.size,fun i hi hn=>(k.block i (Nat.lt_of_lt_of_le hi h.size) (fun hm=>(hs i hm).elim hn (fun h3=>by omega))).trans (h.block i hi hn)⟩
theorem Kept.up (h:Kept rb w w1)(k:Below w1.heap.size w1 w2):Kept rb w w2:=h.trans (Kept.of (rb:=[]) k) (by simp)
theorem Kept.put (h:Kept rb w w1){g:Nat}{cs:List Value}{t:TypeId}(hp:Put w1 w2 g cs t)(hg:g∈rb\/w.heap.size<=g):Kept rb w w2:=
 h.trans (rb2:=[g]) ⟨hp.grown.os,hp.grown.tape,hp.grown.output,hp.grown.size,fun k hk hn=>hp.grown.block k hk (by simp;intro e;subst e;exact hn (by simp))⟩ (by simpa using hg)
theorem Kept.grown {row:Option Nat}(h:Kept rb w w1)(hg:w1.grownBy w2 row)(hr:∀ g,row=some g->g∈rb\/w.heap.size<=g):Kept rb w w2:=
 h.trans (rb2:=row.toList) ⟨hg.os,hg.tape,hg.output,hg.size,fun k hk hn=>hg.block k hk (fun e=>hn (by simp [<- e]))⟩ (fun b hb=>hr b (by simpa using hb))
theorem Kept.blk (h:Kept rb w w1){g:Nat}{o:Obj}(hb:w.heap[g]?=some o)(hn:g∉rb):w1.heap[g]?=some o:=(h.block g (Ae hb) hn).trans hb
theorem Kept.below {w0:World}{B:Nat}(h:Kept rb w w1)(hb:Below B w0 w)(hB:B<=w.heap.size)(hr:∀ k∈rb,B<=k):Below B w0 w1:=
 hb.trans ⟨h.os,h.tape,h.output,h.size,fun k hk=>h.block k (Nat.lt_of_lt_of_le hk hB) fun hm=>by have:=hr k hm;omega⟩
theorem Kept.more (h:Kept rb w w1)(hs:∀ b∈rb,b∈rb2):Kept rb2 w w1:=⟨h.os,h.tape,h.output,h.size,fun k hk hn=>h.block k hk (fun hm=>hn (hs k hm))⟩
end
def K5:Dec Blk:=fun _ cs b=>cs=[.int .i64 b.a,.int .u64 (b.w:Int)]
theorem B5:Stays K5:=⟨fun _ _ _ _ _ h=>h⟩
def En (b:Blk):List Value:=[.int .i64 b.a,.int .u64 (b.w:Int)]
def Bq (bs:List Blk):List Value:=bs.flatMap En
theorem Ef (bs:List Blk):(Bq bs).length=bs.length*2:=by
 induction bs with
 |nil=>rfl
 |cons b bs ih=>
  have:(Bq (b::bs)).length=2+(Bq bs).length:=by simp [Bq,En];omega
  rw [this,ih,List.length_cons];omega
theorem H7 (xs ys:List Blk):Bq (xs++ys)=Bq xs++Bq ys:=by simp [Bq]
theorem P6 (b:Blk):Bq [b]=En b:=by simp [Bq]
theorem Ip (b:Blk)(bs:List Blk):Bq (b::bs)=En b++Bq bs:=by simp [Bq]
theorem U6 (bs:List Blk)(i:Nat)(hi:i<=bs.length):(Bq bs).take (i*2)=Bq (bs.take i):=by
 conv=>lhs;rw [<- List.take_append_drop i bs,H7]
 rw [List.take_append_of_le_length (by rw [Ef,List.length_take];omega),List.take_of_length_le (by rw [Ef,List.length_take];omega)]
theorem Oq (bs:List Blk)(i:Nat)(hi:i<=bs.length):(Bq bs).drop (i*2)=Bq (bs.drop i):=by
 conv=>lhs;rw [<- List.take_append_drop i bs,H7]
 have e:(Bq (bs.take i)).length=i*2:=by rw [Ef];simp;omega
 rw [<- e,List.drop_left]
theorem Aa5 (bs:List Blk)(i:Nat)(hi:i<bs.length):((Bq bs).drop (i*2)).take 2=En bs[i]! := by
 rw [Oq bs i (by omega),getElem!_pos bs i hi,List.drop_eq_getElem_cons hi,Ip]
 rfl
theorem Aq0 (w:World)(bs:List Blk):Elems 2 K5 w (Bq bs) bs:=⟨Ef bs,fun i hi=>Aa5 bs i hi⟩
theorem Qn {w:World}:∀ {bs:List Blk} {flat:List Value},Elems 2 K5 w flat bs->flat=Bq bs
 |[],flat,h=>by
  have:=h.1
  simp at this
  rw [this];rfl
 |b::bs,flat,h=>by
  have h0:=h.2 0 (by simp)
  simp only [Nat.zero_mul,List.drop_zero] at h0
  have h0:flat.take 2=En b:=by simpa [K5,En] using h0
  have ht:Elems 2 K5 w (flat.drop 2) bs:=by
   refine ⟨by have:=h.1;simp at this ⊢;omega,fun i hi=>?_⟩
   have:=h.2 (i+1) (by simpa using hi)
   rw [List.drop_drop]
   have e:2+i*2=(i+1)*2:=by omega
   rw [e]
   simpa using this
  rw [Ip,<- h0,<- Qn ht,List.take_append_drop]
theorem Baq (bs:List Blk):∀ u∈Bq bs,u.oneCell'=true:=by
 intro u hu
 obtain ⟨b,_,hb⟩:=List.mem_flatMap.1 hu
 simp [En] at hb
 rcases hb with rfl|rfl<;>rfl
theorem Ahx:Aeq K5:=fun w cs x h u hu=>by
 rw [show cs=En x from h] at hu
 simp [En] at hu
 rcases hu with rfl|rfl<;>rfl
abbrev ownsB (w:World)(base:Nat)(V:Value)(bs:List Blk):Prop:=w.ownsRow base 179 2 V bs.length (Bq bs)
theorem ownsB.row {w:World}{base:Nat}{V:Value}{bs:List Blk}(h:ownsB w base V bs):∃ A c,V=.slice A bs.length c/\bs.length<=c/\RowR 2 K5 w A bs:=Dp h rfl (Aq0 w bs)
theorem ownsB.rowAt {w:World}{base:Nat}{A:Option Addr}{n c:Nat}{bs:List Blk}(h:ownsB w base (.slice A n c) bs):n=bs.length/\bs.length<=c/\RowR 2 K5 w A bs:=by
 obtain ⟨A',c',e1,h1,h2⟩:=h.row
 injection e1 with e1 e2 e3
 subst e1 e2 e3
 exact ⟨rfl,h1,h2⟩
theorem ownsB.keep {w w1:World}{base:Nat}{V:Value}{bs:List Blk}(h:ownsB w base V bs)(hb:∀ b,V.ownBlock=some b->w1.heap[b]?=w.heap[b]?):ownsB w1 base V bs:=by
 refine ⟨h.1,h.2.imp id ?_⟩
 rintro ⟨g,cap,cur,h4,h5,h6,h7⟩
 refine ⟨g,cap,cur,h4,h5,?_,h7⟩
 rw [hb g (by rw [h4];rfl)]
 exact h6
theorem ownsB.lower {w:World}{base b':Nat}{V:Value}{bs:List Blk}(h:ownsB w base V bs)(hb:b'<=base):ownsB w b' V bs:=by
 refine ⟨h.1,h.2.imp id ?_⟩
 rintro ⟨g,cap,cur,h4,h5,h6⟩
 exact ⟨g,cap,cur,h4,Nat.le_trans hb h5,h6⟩
theorem E8 {w:World}{A:Option Addr}{bs:List Blk}(h:RowR 2 K5 w A bs)(i:Nat)(hi:i<bs.length):∃ ad,A=some ad/\Cw w (ad.add (i*2)) 0 [.int .i64 bs[i]!.a,.int .u64 (bs[i]!.w:Int)]:=by
 obtain ⟨ad,cs,e,_,hc,hd⟩:=Hb h i hi
 rw [show cs=_ from hd] at hc
 exact ⟨ad,e,hc⟩
structure PSet (base g:Nat)(w:World)(bs:List Blk)(fp:List Nat):Prop where
 ex:∃ V,w.heap[g]?=some (.cells #[V] 120 (0,0))/\ownsB w base V bs/\fp=g::V.ownBlock.toList/\V.ownBlock≠some g
 ge:base<=g
 wf:WFB bs
section
variable {base g:Nat}{w w1:World}{bs:List Blk}{fp:List Nat}
theorem PSet.lt (h:PSet base g w bs fp):∀ b∈fp,base<=b/\b<w.heap.size:=by
 obtain ⟨V,h1,h2,rfl,_⟩:=h.ex
 intro b hb
 rcases List.mem_cons.1 hb with rfl|hb
 ·exact ⟨h.ge,Ae h1⟩
 ·exact h2.lt b (Bi hb)
theorem PSet.keep (h:PSet base g w bs fp)(hb:∀ b∈fp,w1.heap[b]?=w.heap[b]?):PSet base g w1 bs fp:=by
 obtain ⟨V,h1,h2,rfl,h4⟩:=h.ex
 exact ⟨⟨V,(hb g (by simp)).trans h1,h2.keep (fun b e=>hb b (by simp [e])),rfl,h4⟩,h.ge,h.wf⟩
theorem PSet.up (h:PSet base g w bs fp)(hb:Below w.heap.size w w1):PSet base g w1 bs fp:=h.keep fun b hb'=>hb.block b (h.lt b hb').2
theorem PSet.kept {rb:List Nat}(h:PSet base g w bs fp)(hk:Kept rb w w1)(hd:∀ b∈fp,b∉rb):PSet base g w1 bs fp:=h.keep fun b hb'=>hk.block b (h.lt b hb').2 (hd b hb')
theorem PSet.lower {b':Nat}(h:PSet base g w bs fp)(hb:b'<=base):PSet b' g w bs fp:=by
 obtain ⟨V,h1,h2,h3,h4⟩:=h.ex
 exact ⟨⟨V,h1,h2.lower hb,h3,h4⟩,Nat.le_trans hb h.ge,h.wf⟩
end
section
variable {P:Program}{T:Nat->Option TI}{n:Nat}{Q:Post}{F:Fm}{w:World}{ops:Array Oper}{rest:List Oper}{o:Oper}{K:Fm->Prop}{C:World->Prop}
theorem Yp {fn:Func}{R:Ending->World->Prop}{s t:Tmp}{u v:Value}(hr:fn.results=#[.tmp s,.tmp t])(hu:Ul (F s)=some u)(hv:Ul (F t)=some v)(h:R (.returned (.tuple #[u,v])) w):Om P fn R F w:=by
 rw [He] at hu hv
 have hu:=Option.some.inj hu
 have hv:=Option.some.inj hv
 unfold Om Mz
 intro tmps ht
 refine ⟨.tuple #[u,v],?_,h⟩
 rw [results_tmp2 hr tmps P w,ht s,ht t,hu,hv]
def Ah3 (T:Nat->Option TI)(t e s len:Nat):Bool:=match T t,T e with
 |some ⟨.array l e',_,_,_⟩,some i=>Nat.beq e' e&&Nat.beq i.size s&&Nat.beq l len
 |_,_=>false
theorem Bg5 (hT:TabOk P T)(e s len:Nat){t:TypeId}{x ix:Operand}{a:Addr}{ki:IntKind}{i:Nat}(hop:o.op=.indexAddr t x ix)(hx:ev F x=.pointer (some a))(hi:ev F ix=.int ki i)(h1:Ah3 T t e s len=true)(hg:o.guard=none){d:Nat}(hd:o.dst=some d)(hn:Nat.blt d n=true)
  (hl:i<len) (k:wl P n ops rest Q (Bd F d (.pointer (some (a.add (i*s))))) w):wl P n ops (o::rest) Q F w:=by
 refine Bh hg hd hn ?_ k
 unfold Ah3 at h1
 split at h1
 ·rename_i l e' sz by_ z i2 e1 e2
  simp only [Bool.and_eq_true] at h1
  have h2:=Nat.eq_of_beq_eq_true h1.1.1
  have h3:=Nat.eq_of_beq_eq_true h1.1.2
  have h4:=Nat.eq_of_beq_eq_true h1.2
  subst h2 h3 h4
  have hu:=Lt hT e1
  have hs:=Fa (w:=w) hT e2
  simp [execOp,hop,hx,hi,Instr.indexAt,asIntOf,B3 hu,hs,hl,Instr.sureAddr]
 ·cases h1
theorem As7 (hT:TabOk P T)(e s b:Nat){t tn:TypeId}{kn:IntKind}{c:Call}{x y:Operand}{g sLen sCap m:Nat}{mi:Int}{i:TI}{olds z:List Value}{cur:List Value}{t':TypeId}(hop:o.op=.call c)(hcal:c.callee=.builtin .append)(hargs:c.args.toList=[x,y])(htys:c.argTypes.toList=[t,tn])
  (hx:ev F x=.slice (some ⟨g,0,none⟩) sLen sCap) (hmi:mi=(m:Int)) (hy:ev F y=.int .i64 mi) (h1:I7 T t e s b=true) (htn:P.underlying tn=some (.int kn)) (hi:T e=some i) (hz:i.zero.cells=z.toArray) (hs0:Nat.blt 0 s=true) (hg:o.guard=none) {d:Nat} (hd:o.dst=some d) (hn:Nat.blt d n=true)
  (hb:w.heap[g]?=some (.cells cur.toArray t' (0,0))) (hol:olds=cur.take (sLen*s)) (hl:sLen*s<=cur.length) (hm0:0<m) (hgr:sCap<sLen+m) (hbig:(sLen+m)*b<=140737488355328) (h63:sLen+m<=9223372036854775807)
  (k:∀ cap w1 more,New w w1 w.heap.size (olds++(List.replicate m z).flatten++more) e->sLen+m<=cap->cap<=maxLen->(olds++(List.replicate m z).flatten++more).length=cap*s->wl P n ops rest Q (Bd F d (.slice (some ⟨w.heap.size,0,none⟩) (sLen+m) cap)) w1):wl P n ops (o::rest) Q F w:=by
 subst hmi
 obtain ⟨hu,j,z',hj,hz',hs,hby,hzs⟩:=Eh hT h1
 obtain ⟨j2,hj2,hz2,_,_⟩:=Tv hT hi
 rw [hj] at hj2
 cases hj2
 rw [hz'] at hz2
 cases hz2
 obtain ⟨callee,⟨args⟩,⟨tys⟩⟩:=c
 simp only at hcal hargs htys
 subst hcal hargs htys
 have hlen:(cur.take (sLen*s)).length=sLen*s:=by simp;omega
 have hold:(Builtin.firstCells j.size sLen (.slice (some ⟨g,0,none⟩) sLen sCap)).run P w.drew=.ok olds.toArray w.drew:=by
  have:=run_loadCells_list (P:=P) w.drew ⟨g,0,none⟩ olds (fun q u hu=>by
   have e:w.drew.cell? ((⟨g,0,none⟩:Addr).add q)=w.cell? ((⟨g,0,none⟩:Addr).add q):=rfl
   rw [e,add_zero]
   refine Au hb ?_
   rw [hol] at hu
   rw [List.getElem?_take] at hu
   split at hu
   ·simpa using hu
   ·cases hu)
  rw [hol,hlen] at this
  simp only [Builtin.firstCells,hs,hol]
  exact this
 have hneed:sLen+m<=maxLen:=by simp only [maxLen];omega
 have hfit:Builtin.nextslicecap (sLen+m) sCap*j.bytes<=281474976710656:=growslice_fits hgr (by rw [hby];exact hbig)
 have hmb:m*j.bytes<=281474976710656:=by
  have:m*j.bytes<=(sLen+m)*b:=by rw [hby];exact Nat.mul_le_mul_right _ (by omega)
  omega
 have hr:=Lib.run_append_grow_zeros (P:=P) w t tn o.type e j i.zero .i64 kn hu htn hj hz' (some ⟨g,0,none⟩) sLen sCap olds hold m hm0 (by rw [hs];exact Nd hs0) hgr (by omega) hmb hfit
 have hzl:z.length=s:=by rw [hz] at hzs;simpa using hzs
 have hc:∀ q,Builtin.zeroCells i.zero.cells q=((List.replicate q z).flatten).toArray:=fun q=>by
  rw [<- Ge z q]
  unfold Builtin.zeroCells
  rw [hz]
  apply Array.ext'
  simp
 rw [hc,hc] at hr
 refine Bh hg hd hn (v:=.slice (some ⟨w.heap.size,0,none⟩) (sLen+m) (grownCap w (sLen+m) sCap e)) (w1:=w.drew.alloc (.cells (olds++(List.replicate m z).flatten++(List.replicate (grownCap w (sLen+m) sCap e - (sLen+m)) z).flatten).toArray e)) ?_ (k _ _ (List.replicate (grownCap w (sLen+m) sCap e - (sLen+m)) z).flatten ?_ (grownCap_ge ..) (grownCap_le_maxLen _ _ _ _ hneed) ?_)
 ·simp only [List.append_toArray] at hr
  simp [execOp,hop,resolve,invoke,builtin,hx,hy,hr]
 ·have hn2:=Ce w.drew (olds++(List.replicate m z).flatten++(List.replicate (grownCap w (sLen+m) sCap e - (sLen+m)) z).flatten) e
  exact ⟨hn2.at_,hn2.size,hn2.blk,⟨hn2.below.os,hn2.below.tape,hn2.below.output,hn2.below.size,hn2.below.block⟩⟩
 ·have hge:=grownCap_ge w (sLen+m) sCap e
  have:grownCap w (sLen+m) sCap e=sLen+m+(grownCap w (sLen+m) sCap e - (sLen+m)):=by omega
  rw [this]
  simp only [List.length_append,List.length_flatten,List.map_replicate,List.sum_replicate_nat,hol,hlen,hzl,Nat.add_mul,Nat.add_sub_cancel_left]
def Pp (T:Nat->Option TI)(t:Nat):Bool:=match T t with
 |some ⟨.pointer _,_,_,_⟩=>true
 |_=>false
theorem T4 (hT:TabOk P T){t:TypeId}{x:Operand}{yt:TypeId}{A:Option Addr}(hop:o.op=.binOp .eql t x (.const (.pointer none)) yt)(hx:ev F x=.pointer A)(h1:Pp T t=true):(execOp (ev F) o).run P w=.ok (.value (.bool A.isNone)) w:=by
 unfold Pp at h1
 split at h1
 ·rename_i e1
  have hu:=Lt hT e1
  have h2:(Op.equal t (.pointer A) (.pointer none)).run P w=.ok A.isNone w:=by
   unfold Op.equal Op.maxDepth
   rw [show (10000:Nat)=9999+1 from rfl]
   unfold Op.equalIn
   cases A<;>simp [B3 hu]
  have hy:ev F (.const (.pointer none))=.pointer none:=rfl
  simp [execOp,hop,hx,hy,eqGuard,binOp,h2]
 ·cases h1
theorem Bk8 (hT:TabOk P T){t:TypeId}{x:Operand}{yt:TypeId}(hop:o.op=.binOp .eql t x (.const (.pointer none)) yt)(hx:ev F x=.pointer none)(h1:Pp T t=true)(hg:o.guard=none){d:Nat}(hd:o.dst=some d)(hn:Nat.blt d n=true)
  (k:wl P n ops rest Q (Bd F d (.bool true)) w):wl P n ops (o::rest) Q F w:=Bh hg hd hn (T4 hT hop hx h1) k
theorem Kf (hT:TabOk P T){t:TypeId}{x:Operand}{yt:TypeId}{a:Addr}(hop:o.op=.binOp .eql t x (.const (.pointer none)) yt)(hx:ev F x=.pointer (some a))(h1:Pp T t=true)(hg:o.guard=none){d:Nat}(hd:o.dst=some d)(hn:Nat.blt d n=true)
  (k:wl P n ops rest Q (Bd F d (.bool false)) w):wl P n ops (o::rest) Q F w:=Bh hg hd hn (T4 hT hop hx h1) k
theorem Rc (hT:TabOk P T){t:TypeId}{x:Operand}{yt:TypeId}{A:Option Addr}(hop:o.op=.binOp .neq t x (.const (.pointer none)) yt)(hx:ev F x=.pointer A)(h1:Pp T t=true):(execOp (ev F) o).run P w=.ok (.value (.bool (!A.isNone))) w:=by
 unfold Pp at h1
 split at h1
 ·rename_i e1
  have hu:=Lt hT e1
  have h2:(Op.equal t (.pointer A) (.pointer none)).run P w=.ok A.isNone w:=by
   unfold Op.equal Op.maxDepth
   rw [show (10000:Nat)=9999+1 from rfl]
   unfold Op.equalIn
   cases A<;>simp [B3 hu]
  have hy:ev F (.const (.pointer none))=.pointer none:=rfl
  simp [execOp,hop,hx,hy,eqGuard,binOp,h2]
 ·cases h1
theorem Bk9 (hT:TabOk P T){t:TypeId}{x:Operand}{yt:TypeId}(hop:o.op=.binOp .neq t x (.const (.pointer none)) yt)(hx:ev F x=.pointer none)(h1:Pp T t=true)(hg:o.guard=none){d:Nat}(hd:o.dst=some d)(hn:Nat.blt d n=true)
  (k:wl P n ops rest Q (Bd F d (.bool false)) w):wl P n ops (o::rest) Q F w:=Bh hg hd hn (Rc hT hop hx h1) k
theorem Aty (hT:TabOk P T){t:TypeId}{x:Operand}{yt:TypeId}{a:Addr}(hop:o.op=.binOp .neq t x (.const (.pointer none)) yt)(hx:ev F x=.pointer (some a))(h1:Pp T t=true)(hg:o.guard=none){d:Nat}(hd:o.dst=some d)(hn:Nat.blt d n=true)
  (k:wl P n ops rest Q (Bd F d (.bool true)) w):wl P n ops (o::rest) Q F w:=Bh hg hd hn (Rc hT hop hx h1) k
theorem Aj8 (hT:TabOk P T)(e s:Nat){t:TypeId}{x:Operand}{yt:TypeId}{A:Option Addr}{l c:Nat}(hop:o.op=.binOp .eql t x (.const (.slice none 0 0)) yt)(hx:ev F x=.slice A l c)(h1:Cq T t e s=true)(hg:o.guard=none){d:Nat}(hd:o.dst=some d)(hn:Nat.blt d n=true)
  (k:wl P n ops rest Q (Bd F d (.bool A.isNone)) w):wl P n ops (o::rest) Q F w:=by
 refine Bh hg hd hn ?_ k
 obtain ⟨hu,_⟩:=Du (w:=w) hT h1
 have:(Op.equal t (.slice A l c) (.slice none 0 0)).run P w=.ok A.isNone w:=by
  unfold Op.equal Op.maxDepth
  rw [show (10000:Nat)=9999+1 from rfl]
  unfold Op.equalIn
  cases A<;>simp [B3 hu]
 have hy:ev F (.const (.slice none 0 0))=.slice none 0 0:=rfl
 simp [execOp,hop,hx,hy,eqGuard,binOp,this]
theorem Asy (hT:TabOk P T)(e s:Nat){c:Call}{x:Operand}{t:TypeId}{A:Option Addr}{l cp:Nat}(hop:o.op=.call c)(hcal:c.callee=.builtin .cap)(hargs:c.args.toList=[x])(htys:c.argTypes.toList=[t])(hx:ev F x=.slice A l cp)(h1:Cq T t e s=true)(hg:o.guard=none){d:Nat}(hd:o.dst=some d)(hn:Nat.blt d n=true)
  (k:wl P n ops rest Q (Bd F d (.int .i64 cp)) w):wl P n ops (o::rest) Q F w:=by
 refine Bh hg hd hn ?_ k
 obtain ⟨hu,_⟩:=Du (w:=w) hT h1
 obtain ⟨callee,⟨args⟩,⟨tys⟩⟩:=c
 simp only at hcal hargs htys
 subst hcal hargs htys
 simp [execOp,hop,resolve,invoke,builtin,hx,Builtin.cap_,B3 hu,goInt]
theorem K4 (hT:TabOk P T)(e s:Nat){t:TypeId}{x y:Operand}{A B:Option Addr}{l c l2 c2:Nat}{ki:IntKind}{h:Int}{hn':Nat}(hh:h=(hn':Int))(hB:K8 A hn' c s=B)(hl2:l2=l - hn')(hc2:c2=c - hn')(hc:hn'<=l)(hop:o.op=.slice t x (some y) none none)(hx:ev F x=.slice A l c)(hy:ev F y=.int ki h)(h1:Cq T t e s=true)(hg:o.guard=none){d:Nat}(hd:o.dst=some d)(hn:Nat.blt d n=true)
  (k:wl P n ops rest Q (Bd F d (.slice B l2 c2)) w):wl P n ops (o::rest) Q F w:=by
 subst hh hB hl2 hc2
 refine Aek hT e s hop hx hy h1 hg hd hn (by omega) (by omega) ?_
 simpa using k
theorem Nk (hT:TabOk P T)(e s:Nat){t:TypeId}{x y:Operand}{A B:Option Addr}{l c l2 c2:Nat}{ki:IntKind}{h:Int}{hn':Nat}(hh:h=(hn':Int))(hB:K8 A hn' c s=B)(hl2:l2=l - hn')(hc2:c2=c - hn')(hc:hn'<=l)(hop:o.op=.slice t x (some y) none none)(hx:ev F x=.slice A l c)(hy:ev F y=.int ki h)(h1:Cq T t e s=true)(hg:o.guard=none){d:Nat}(hd:o.dst=some d)(hn:Nat.blt d n=true)
  (k:wq P n ops C rest K (Bd F d (.slice B l2 c2))):wq P n ops C (o::rest) K F:=by
 subst hh hB hl2 hc2
 refine Ar2 hT e s hop hx hy h1 hg hd hn (by omega) (by omega) ?_
 simpa using k
theorem Nm (hT:TabOk P T)(e s:Nat){t:TypeId}{x y:Operand}{A:Option Addr}{l c:Nat}{ki:IntKind}{h:Int}{hn':Nat}(hh:h=(hn':Int))(hc:hn'<=c)(hop:o.op=.slice t x none (some y) none)(hx:ev F x=.slice A l c)(hy:ev F y=.int ki h)(h1:Cq T t e s=true)(hg:o.guard=none){d:Nat}(hd:o.dst=some d)(hn:Nat.blt d n=true)
  (k:wl P n ops rest Q (Bd F d (.slice A hn' c)) w):wl P n ops (o::rest) Q F w:=by
 subst hh
 refine Arz hT e s hop hx hy h1 hg hd hn (by omega) (by omega) ?_
 simpa using k
theorem Hu {g off i c s:Nat}(h:i<c):K8 (some ⟨g,off,none⟩) i c s=some ⟨g,off+i*s,none⟩:=by
 unfold K8
 rw [if_neg (by omega)]
 unfold Addr.add
 simp only [Option.map_some]
 split
 ·rename_i e;rw [e];rfl
 ·rfl
theorem As4 {f:FuncId}{c:Call}{x:Operand}{args:List Value}{v:Value}(he:(callFunc f args.toArray).run P w=.ok (.value v) w)(hop:o.op=.call c)(hcal:c.callee=.value x)(hx:ev F x=.func (.func f) #[] #[])(hargs:c.args.toList.map (ev F)=args)(hg:o.guard=none){d:Nat}(hd:o.dst=some d)(hn:Nat.blt d n=true)
  (k:wl P n ops rest Q (Bd F d v) w):wl P n ops (o::rest) Q F w:=by
 refine Bh hg hd hn ?_ k
 have:c.args.map (ev F)=args.toArray:=Array.toList_inj.1 (by rw [Array.toList_map,hargs])
 simp [execOp,hop,resolve,hcal,hx,Deferred.ofValue,this,invoke,he]
end
theorem Ay6 (a:Int)(w0:Nat)(t:Int)(ha:0<=a/\a<144115188075855872)(ht:0<=t/\t<144115188075855872)(w:World) :
  Calls Tryz.prog 127 #[.agg #[.int .i64 a,.int .u64 (w0:Int)],.int .i64 t] w fun e w'=>e=.returned (.int .i64 (a - t))/\Below w.heap.size w w':=by
 refine A9 (args:=[.agg #[.int .i64 a,.int .u64 (w0:Int)],.int .i64 t]) Aa Tryz.func127 rfl Tryz.ntmps127 rfl ?_;conv=>whnf
 refine Ci rfl rfl rfl rfl rfl rfl ?_
 intro g1 w1 hn1
 have hb:=hn1.blk
 refine Ab Aa ?_
 conv=>whnf
 (repeat' (first|refine Cg rfl rfl ?_|(first|refine Aj Aa hb rfl rfl rfl rfl rfl rfl rfl (Ab Aa ?_)|refine Jk rfl rfl rfl rfl rfl rfl (by omega) (by omega) (Ab Aa ?_)|fail)<;>conv=>whnf))
 exact ⟨rfl,hn1.below⟩
def Aw7 (bs:List Blk)(t:Int)(i:Nat)(ok:Bool):Prop:=i<=bs.length/\(∀ j,j<i->bs[j]!.a<t)/\(∀ j,i<=j->j<bs.length->t<=bs[j]!.a)/\ok=(decide (i<bs.length)&&decide (bs[i]!.a=t))
theorem Ah9 (bs:List Blk)(A:Option Addr)(c:Nat)(t:Int)(hr:∀ b∈bs,0<=b.a/\b.a<144115188075855872)(hs:∀ i j,i<j->j<bs.length->bs[i]!.a<bs[j]!.a)(ht:0<=t/\t<144115188075855872)(hl:bs.length<=4611686018427387904)(w:World)(h:RowR 2 K5 w A bs) :
  Calls Tryz.prog 126 #[.slice A bs.length c,.int .i64 t,.func (.func 127) #[] #[]] w fun e w'=>∃ (i:Nat) (ok:Bool),e=.returned (.tuple #[.int .i64 i,.bool ok])/\Aw7 bs t i ok/\Below w.heap.size w w':=by
 refine A9 (args:=[.slice A bs.length c,.int .i64 t,.func (.func 127) #[] #[]]) Aa Tryz.func126 rfl Tryz.ntmps126 rfl ?_;conv=>whnf
 skip
 refine Am Aa (X:=Nat×Nat) (fun x=>[(0,.slice A bs.length c),(1,.int .i64 t),(2,.func (.func 127) #[] #[]),(8,.int .i64 bs.length),(9,.int .i64 x.1),(10,.int .i64 x.2)])
  (fun x wr=>x.1<=x.2/\x.2<=bs.length/\(∀ j,j<x.1->bs[j]!.a<t)/\(∀ j,x.2<=j->j<bs.length->t<=bs[j]!.a)/\Below w.heap.size w wr) (fun x=>x.2 - x.1) (0,bs.length) ⟨rfl,rfl,rfl,rfl,rfl,rfl,trivial⟩ ⟨by omega,by omega,by omega,by omega,Below.refl _ _⟩ ?_
 intro ⟨lo,hi⟩ G wr ⟨h1,h2,h3,h4,hB⟩
 simp only at h1 h2 h3 h4
 dsimp only
 conv=>whnf
 have hlo:bs.length<=bs.length:=Nat.le_refl _
 have hr':=h.up B5 hB
 by_cases hlt:lo<hi
 ·obtain ⟨m,hm⟩:∃ m,m=(lo+hi)/2:=⟨_,rfl⟩
  have hmm:(lo:Int)+(hi:Int)=((lo+hi:Nat):Int):=by omega
  (repeat' ((first|refine Af rfl rfl rfl rfl rfl rfl (by omega) (by omega) (Ab Aa ?_)|refine Im Aa rfl rfl rfl (by simp only [Cj];omega) rfl rfl rfl (Ab Aa ?_)|refine Ag (by first|assumption|omega) ?_|fail)<;>conv=>whnf))
  refine Gi (r:=((m:Nat):Int)) (by simp [IntKind.bits];omega) rfl rfl rfl (by omega) rfl rfl rfl ?_
  refine Ab Aa ?_
  conv=>whnf
  obtain ⟨ad,rfl,hc⟩:=E8 hr' m (by omega)
  have hb:=hr _ (Bs (bs:=bs) (i:=m) (by omega))
  (repeat' ((first|refine Al Aa 179 2 rfl rfl rfl rfl rfl rfl rfl (by omega) (Ab Aa ?_)|refine E0 Aa hc rfl rfl rfl rfl rfl rfl (Ab Aa ?_)|(refine Im Aa rfl rfl rfl (by simp only [Cj];omega) rfl rfl rfl (Ab Aa ?_))|fail)<;>conv=>whnf))
  refine Bv Ap1 (Ay6 bs[m]!.a bs[m]!.w t hb ht wr) rfl rfl rfl rfl rfl rfl rfl ?_
  rintro _ w2 ⟨rfl,hB2⟩
  refine ⟨_,rfl,Ab Aa ?_⟩
  conv=>whnf
  by_cases hlt2:bs[m]!.a<t
  ·(repeat' ((first|refine Af rfl rfl rfl rfl rfl rfl (by omega) (by omega) (Ab Aa ?_)|refine Ag (by first|assumption|omega) ?_|fail)<;>conv=>whnf))
   refine ⟨(m+1,hi),⟨rfl,rfl,rfl,rfl,rfl,rfl,trivial⟩,⟨by simp only;omega,h2,fun j hj=>?_,h4,Ax hB hB2⟩,by simp only;omega⟩
   simp only at hj
   rcases Nat.lt_or_ge j m with h5|h5
   ·have:=hs j m h5 (by omega);omega
   ·have:j=m:=by omega
    subst this;exact hlt2
  ·(repeat' ((first|(refine Ah (by first|assumption|omega) ?_)|fail)<;>conv=>whnf))
   refine ⟨(lo,m),⟨rfl,rfl,rfl,rfl,rfl,rfl,trivial⟩,⟨by simp only;omega,by simp only;omega,h3,fun j hj hj2=>?_,Ax hB hB2⟩,by simp only;omega⟩
   simp only at hj
   rcases Nat.lt_or_ge m j with h5|h5
   ·have:=hs m j h5 hj2;omega
   ·have:j=m:=by omega
    subst this;omega
 ·have e:lo=hi:=by omega
  subst e
  by_cases hl2:lo<bs.length
  ·obtain ⟨ad,rfl,hc⟩:=E8 hr' lo hl2
   have hb:=hr _ (Bs (bs:=bs) (i:=lo) hl2)
   (repeat' ((first|refine Al Aa 179 2 rfl rfl rfl rfl rfl rfl rfl (by omega) (Ab Aa ?_)|refine E0 Aa hc rfl rfl rfl rfl rfl rfl (Ab Aa ?_)|refine Ag (by first|assumption|omega) ?_|refine Ah (by first|assumption|omega) ?_|fail)<;>conv=>whnf))
   refine Bv Ap1 (Ay6 bs[lo]!.a bs[lo]!.w t hb ht wr) rfl rfl rfl rfl rfl rfl rfl ?_
   rintro _ w2 ⟨rfl,hB2⟩
   refine ⟨_,rfl,Ab Aa ?_⟩
   conv=>whnf
   by_cases he:bs[lo]!.a=t
   ·skip
    refine Yp rfl rfl rfl ⟨lo,true,?_,⟨h2,h3,h4,?_⟩,Ax hB hB2⟩
    ·rw [decide_eq_true (by omega:bs[lo]!.a - t=0)]
    ·rw [decide_eq_true hl2,decide_eq_true he];rfl
   ·skip
    refine Yp rfl rfl rfl ⟨lo,false,?_,⟨h2,h3,h4,?_⟩,Ax hB hB2⟩
    ·rw [decide_eq_false (by omega:¬ bs[lo]!.a - t=0)]
    ·rw [decide_eq_true hl2,decide_eq_false he];rfl
  ·(repeat' ((first|(refine Ah (by first|assumption|omega) ?_)|fail)<;>conv=>whnf))
   refine Yp rfl rfl rfl ⟨lo,false,?_,⟨h2,h3,h4,?_⟩,hB⟩
   ·rfl
   ·rw [decide_eq_false hl2];rfl
theorem An6 {base g:Nat}{w:World}{bs:List Blk}{fp:List Nat}(hP:PSet base g w bs fp)(t:Int)(ht:0<=t/\t<144115188075855872)(hl:bs.length<=4611686018427387904) :
  Calls Tryz.prog 86 #[.pointer (some ⟨g,0,none⟩),.int .i64 t] w fun e w'=>∃ (i:Nat) (ok:Bool),e=.returned (.tuple #[.int .i64 i,.bool ok])/\Aw7 bs t i ok/\Below w.heap.size w w':=by
 obtain ⟨V,hb,ho,rfl,hne⟩:=hP.ex
 obtain ⟨A,c,rfl,hlc,hrow⟩:=ho.row
 refine A9 (args:=[.pointer (some ⟨g,0,none⟩),.int .i64 t]) Aa Tryz.func86 rfl Tryz.ntmps86 rfl ?_;conv=>whnf
 (repeat' ((first|refine Aj Aa hb rfl rfl rfl rfl rfl rfl rfl (Ab Aa ?_)|fail)<;>conv=>whnf))
 refine Bv Be7 (Ah9 bs A c t (fun b hb'=>⟨(hP.wf.rng b hb').1,(hP.wf.rng b hb').2.1⟩) hP.wf.up ht hl w hrow) rfl rfl rfl rfl rfl rfl rfl ?_
 rintro _ w2 ⟨i,ok,rfl,hf,hB2⟩
 refine ⟨_,rfl,Ab Aa ?_⟩
 conv=>whnf
 skip
 exact Yp rfl rfl rfl ⟨i,ok,rfl,hf,hB2⟩
theorem An9 {base g:Nat}{w:World}{bs:List Blk}{fp:List Nat}(hP:PSet base g w bs fp) :
  Calls Tryz.prog 131 #[.pointer (some ⟨g,0,none⟩)] w fun e w'=>∃ A c,e=.returned (.slice A bs.length c)/\w.heap[g]?=some (.cells #[.slice A bs.length c] 120 (0,0))/\bs.length<=c/\RowR 2 K5 w A bs/\Below w.heap.size w w':=by
 obtain ⟨V,hb,ho,rfl,hne⟩:=hP.ex
 obtain ⟨A,c,rfl,hlc,hrow⟩:=ho.row
 refine A9 (args:=[.pointer (some ⟨g,0,none⟩)]) Aa Tryz.func131 rfl Tryz.ntmps131 rfl ?_;conv=>whnf
 (repeat' (first|refine Cg rfl rfl ?_|(first|refine Aj Aa hb rfl rfl rfl rfl rfl rfl rfl (Ab Aa ?_)|refine Kf Aa rfl rfl rfl rfl rfl rfl (Ab Aa ?_)|fail)<;>conv=>whnf))
 exact ⟨A,c,rfl,hb,hlc,hrow,Below.refl _ _⟩
theorem Kt {w:World}{A:Option Addr}{bs:List Blk}(h:RowR 2 K5 w A bs)(i:Nat)(hi:i<bs.length):∃ ad,A=some ad/\w.cell? (ad.add (i*2))=some (.int .i64 bs[i]!.a)/\w.cell? ⟨(ad.add (i*2)).block,(ad.add (i*2)).off+1,none⟩=some (.int .u64 (bs[i]!.w:Int)):=by
 obtain ⟨ad,e,h1,h2,_⟩:=E8 h i hi
 refine ⟨ad,e,?_,?_⟩
 ·have:(ad.add (i*2)).add 0=ad.add (i*2):=Mq _
  rwa [this] at h1
 ·rw [Xq _ _ _ (by omega)]
  rwa [Np] at h2
theorem Ik (w:Nat)(b:Int)(k:Nat)(hb:b=k)(hk:k<64):(w:Int)/2 ^ min b.toNat IntKind.u64.bits=((w >>> k:Nat):Int):=by
 subst hb
 have:min ((k:Int)).toNat IntKind.u64.bits=k:=by simp [IntKind.bits];omega
 rw [this,Nat.shiftRight_eq_div_pow]
 simp
theorem Z8 (w k:Nat)(h:w<18446744073709551616):w >>> k<18446744073709551616:=by
 rw [Nat.shiftRight_eq_div_pow]
 exact Nat.lt_of_le_of_lt (Nat.div_le_self _ _) h
theorem Yi (a b:Nat)(bi:Int)(hb:bi=(b:Int))(h1:a<18446744073709551616)(h2:b<18446744073709551616):bits .and .u64 (a:Int) bi=((a &&& b:Nat):Int):=by
 subst hb
 exact bits_and_u64_nat a b h1 h2
theorem Yh {a b c:Nat}(hc:c=a+b)(h:c<18446744073709551616):IntKind.u64.wrap ((a:Int)+(b:Int))=(c:Int):=by
 rw [IntKind.wrap_u64];omega
theorem Zp (a b:Nat)(bi:Int)(hb:bi=(b:Int))(h1:a<9223372036854775808)(h2:b<9223372036854775808):bits .and .i64 (a:Int) bi=((a &&& b:Nat):Int):=by
 subst hb
 have hx:a &&& b<2 ^ 63:=Nat.and_lt_two_pow _ (by omega)
 have e1:(BitVec.ofInt 64 (a:Int)).toNat=a:=by
  rw [BitVec.ofInt_natCast,BitVec.toNat_ofNat];exact Nat.mod_eq_of_lt (by omega)
 have e2:(BitVec.ofInt 64 (b:Int)).toNat=b:=by
  rw [BitVec.ofInt_natCast,BitVec.toNat_ofNat];exact Nat.mod_eq_of_lt (by omega)
 show IntKind.i64.wrap ((BitVec.ofInt 64 (a:Int) &&& BitVec.ofInt 64 (b:Int)).toNat:Int)=_
 rw [BitVec.toNat_and,e1,e2,IntKind.wrap_i64]
 omega
theorem Bg3 (x:Nat)(hx:x<18446744073709551616)(w:World) :
  Calls Tryz.prog 153 #[.int .u64 (x:Int)] w fun e w'=>e=.returned (.int .i64 ((Db x).length:Nat))/\Below w.heap.size w w':=by
 obtain ⟨x1,x2,x3,x4,x5,x6,e1,e2,e3,e4,e5,e6,l1,l2,l3,l4,l5,l6,hf⟩:=Ax7 hx
 have q1:x >>> 1 &&& 6148914691236517205<18446744073709551616:=Nat.lt_of_le_of_lt Nat.and_le_right (by decide)
 have l3':x3<18446744073709551616:=by rw [e3];exact Nat.lt_of_le_of_lt Nat.and_le_right (by decide)
 refine A9 (args:=[.int .u64 (x:Int)]) Aa Tryz.func153 rfl Tryz.ntmps153 rfl ?_;conv=>whnf
 skip
 refine Gi (r:=((x >>> 1:Nat):Int)) (Ik x 1 1 rfl (by omega)) rfl rfl rfl (by omega) rfl rfl rfl (Ab Aa ?_);conv=>whnf
 refine Gk (r:=((x >>> 1 &&& 6148914691236517205:Nat):Int)) (Yi _ 6148914691236517205 6148914691236517205 rfl (Z8 _ _ hx) (by omega)) rfl rfl rfl rfl rfl rfl rfl (Ab Aa ?_);conv=>whnf
 skip
 refine Gk (r:=((x &&& 6148914691236517205:Nat):Int)) (Yi _ 6148914691236517205 6148914691236517205 rfl hx (by omega)) rfl rfl rfl rfl rfl rfl rfl (Ab Aa ?_);conv=>whnf
 refine Jp (r:=(x1:Int)) (Yh e1 l1) rfl rfl rfl rfl rfl rfl (Ab Aa ?_);conv=>whnf
 skip
 refine Gi (r:=((x1 >>> 2:Nat):Int)) (Ik x1 2 2 rfl (by omega)) rfl rfl rfl (by omega) rfl rfl rfl (Ab Aa ?_);conv=>whnf
 refine Gk (r:=((x1 >>> 2 &&& 3689348814741910323:Nat):Int)) (Yi _ 3689348814741910323 3689348814741910323 rfl (Z8 _ _ l1) (by omega)) rfl rfl rfl rfl rfl rfl rfl (Ab Aa ?_);conv=>whnf
 skip
 refine Gk (r:=((x1 &&& 3689348814741910323:Nat):Int)) (Yi _ 3689348814741910323 3689348814741910323 rfl l1 (by omega)) rfl rfl rfl rfl rfl rfl rfl (Ab Aa ?_);conv=>whnf
 refine Jp (r:=(x2:Int)) (Yh e2 (by omega)) rfl rfl rfl rfl rfl rfl (Ab Aa ?_);conv=>whnf
 skip
 refine Gi (r:=((x2 >>> 4:Nat):Int)) (Ik x2 4 4 rfl (by omega)) rfl rfl rfl (by omega) rfl rfl rfl (Ab Aa ?_);conv=>whnf
 skip
 refine Jp (r:=((x2 >>> 4+x2:Nat):Int)) (Yh rfl l3) rfl rfl rfl rfl rfl rfl (Ab Aa ?_);conv=>whnf
 refine Gk (r:=(x3:Int)) (by rw [Yi _ 1085102592571150095 1085102592571150095 rfl l3 (by omega),e3]) rfl rfl rfl rfl rfl rfl rfl (Ab Aa ?_);conv=>whnf
 skip
 refine Gi (r:=((x3/256:Nat):Int)) (by rw [Ik x3 8 8 rfl (by omega),Nat.shiftRight_eq_div_pow]) rfl rfl rfl (by omega) rfl rfl rfl (Ab Aa ?_);conv=>whnf
 refine Jp (r:=(x4:Int)) (Yh e4 (by omega)) rfl rfl rfl rfl rfl rfl (Ab Aa ?_);conv=>whnf
 skip
 refine Gi (r:=((x4/65536:Nat):Int)) (by rw [Ik x4 16 16 rfl (by omega),Nat.shiftRight_eq_div_pow]) rfl rfl rfl (by omega) rfl rfl rfl (Ab Aa ?_);conv=>whnf
 refine Jp (r:=(x5:Int)) (Yh e5 (by omega)) rfl rfl rfl rfl rfl rfl (Ab Aa ?_);conv=>whnf
 skip
 refine Gi (r:=((x5/4294967296:Nat):Int)) (by rw [Ik x5 32 32 rfl (by omega),Nat.shiftRight_eq_div_pow]) rfl rfl rfl (by omega) rfl rfl rfl (Ab Aa ?_);conv=>whnf
 refine Jp (r:=(x6:Int)) (Yh e6 (by omega)) rfl rfl rfl rfl rfl rfl (Ab Aa ?_);conv=>whnf
 (repeat' ((first|(refine Im Aa rfl rfl rfl (by simp only [Cj];omega) rfl rfl rfl (Ab Aa ?_))|fail)<;>conv=>whnf))
 refine Gk (r:=((Db x).length:Int)) (by rw [Zp _ 127 127 rfl l6 (by omega),show (127:Nat)=2 ^ 7 - 1 from rfl,Nat.and_two_pow_sub_one_eq_mod];exact congrArg _ hf) rfl rfl rfl rfl rfl rfl rfl (Ab Aa ?_);conv=>whnf
 (repeat' (first|refine Cg rfl rfl ?_|fail))
 exact ⟨rfl,Below.refl _ _⟩
def Tab (w:World):Prop:=∀ j,j<64->w.cell? ⟨0,j,none⟩=some (.int .u8 ((Lib.deBruijn64tab.getD j 0:Nat):Int))
theorem Tab.up {w w1:World}(h:Tab w)(hb:Below w.heap.size w w1):Tab w1:=fun j hj=>Bn hb (h j hj)
theorem Tab.kept {rb:List Nat}{w w1:World}(h:Tab w)(hk:Kept rb w w1)(h0:0∉rb):Tab w1:=fun j hj=>
 (World.cell?_of_block (hk.block _ (World.block_lt_of_cell? w _ (h j hj)) h0)).trans (h j hj)
theorem pTz (x:Nat)(hx:x<18446744073709551616)(hx0:x≠0)(w:World)(hT:Tab w) :
  Calls Tryz.prog 92 #[.int .u64 (x:Int)] w fun e w'=>e=.returned (.int .i64 (Lib.ctz 64 x:Nat))/\Below w.heap.size w w':=by
 obtain ⟨hlow,hk⟩:=Lib.lowest_bit 64 x hx0 hx
 obtain ⟨hi,htab⟩:=Lib.deBruijn64_at _ hk
 have hcell:=hT _ hi
 rw [htab] at hcell
 have hp:2 ^ Lib.ctz 64 x<18446744073709551616:=Nat.pow_lt_pow_right (a:=2) (by omega) hk
 generalize Lib.ctz 64 x=k at hlow hk hi hcell hp htab
 refine A9 (args:=[.int .u64 (x:Int)]) Aa Tryz.func92 rfl Tryz.ntmps92 rfl ?_;conv=>whnf
 (repeat' ((first|(refine Ah (by first|assumption|omega) ?_)|fail)<;>conv=>whnf))
 have hneg:IntKind.u64.wrap (0 - (x:Int))=((18446744073709551616 - x:Nat):Int):=by rw [IntKind.wrap_u64];omega
 refine Gk (op:=.and) (k:=.u64) (a:=(x:Int)) (b:=IntKind.u64.wrap (0 - (x:Int))) (r:=((2 ^ k:Nat):Int)) (by rw [hneg];exact (Yi x (18446744073709551616 - x) _ rfl hx (by omega)).trans (congrArg _ hlow)) rfl rfl rfl rfl rfl rfl rfl (Ab Aa ?_);conv=>whnf
 refine Am0 (k:=.u64) (a:=((2 ^ k:Nat):Int)) (b:=285870213051353865) (r:=((2 ^ k*285870213051353865%18446744073709551616:Nat):Int)) (by rw [IntKind.wrap_u64];omega) rfl rfl rfl rfl rfl rfl (Ab Aa ?_);conv=>whnf
 refine Gi (r:=((2 ^ k*285870213051353865%18446744073709551616/288230376151711744:Nat):Int)) (by rw [Ik _ 58 58 rfl (by omega),Nat.shiftRight_eq_div_pow]) rfl rfl rfl (by omega) rfl rfl rfl (Ab Aa ?_);conv=>whnf
 refine Bg5 Aa 5 1 64 rfl rfl rfl rfl rfl rfl rfl hi (Ab Aa ?_);conv=>whnf
 rw [<- Nat.mul_one (2 ^ k*285870213051353865%18446744073709551616/288230376151711744),<- add_zero] at hcell
 (repeat' (first|refine Cg rfl rfl ?_|(first|refine Az Aa rfl rfl rfl rfl rfl rfl hcell (Ab Aa ?_)|(refine Im Aa rfl rfl rfl (by simp only [Cj];omega) rfl rfl rfl (Ab Aa ?_))|fail)<;>conv=>whnf))
 exact ⟨rfl,Below.refl _ _⟩
end Go.Proofs.YtghmdfegfehhkaaGreatDoor
namespace Go.Proofs.YtghmdfegfehhkaaGreatDoor
open Go.ChangeShapes Go.WideShapes Go.ChangeAt Go.RowKit
abbrev laidTab {H:Type}:List (String×DataW H):=[("math/bits.deBruijn64tab",Rows.laid_math_bits_deBruijn64tab),("weathervane/sum.lines",Rows.laid_weathervane_sum_lines)]
theorem tabList {H:Type}:(Rows.laid_math_bits_deBruijn64tab:DataW H)=.agg (Lib.deBruijn64tab.map fun n=>.lit (.int .u8 (n:Nat))):=rfl
theorem R3 {W:World}(h:laidMetH Tryz.prog laidTab W):Tab W:=fun r hr=>by
 rw [MakeChecks.laidMetH_plain _ _ _ (by kernel_rfl)] at h
 obtain ⟨ps,⟨g,t,cs,fuel,p,q,hg,ht,hv,hd,_,_⟩,_,_⟩:=h
 obtain rfl:=Option.some.inj ((show Tryz.prog.globalNamed "math/bits.deBruijn64tab" = some 0 by kernel_rfl).symm.trans hg)
 obtain rfl:=Option.some.inj ((show (Tryz.prog.globals[0]?).map (·.type)=some 229 by kernel_rfl).symm.trans ht)
 obtain ⟨xs,m,_,ex,_,hl,hel⟩:=DataW.trod_array Tryz.underlying229 hd
 have c5:Tryz.prog.cellsOf 5=1:=by kernel_rfl
 have hE:=hel r hr
 rw [c5,Nat.mul_one,List.getElem?_eq_getElem (by omega)] at hE
 obtain ⟨z,e1,e2,_⟩:=DataW.trod_int Tryz.underlying5 hE
 have hlen:Lib.deBruijn64tab.length=64:=by decide
 have e3:(xs.map (·.1))=Lib.deBruijn64tab.map fun n=>.lit (.int .u8 (n:Nat)):=(DataW.agg.inj (tabList.symm.trans (Prod.mk.inj ex).1)).symm
 have e4:(xs.map (·.1))[r]?=(Lib.deBruijn64tab.map fun n=>(DataW.lit (.int .u8 (n:Nat)):DataW Unit))[r]?:=by rw [e3]
 rw [List.getElem?_map,List.getElem?_map,List.getElem?_eq_getElem (by omega:r<xs.length),List.getElem?_eq_getElem (by omega:r<Lib.deBruijn64tab.length),e2] at e4
 have hz:z=(Lib.deBruijn64tab.getD r 0:Nat):=by
  simp only [Option.map_some,Option.some.injEq,DataW.lit.injEq,Lit.int.injEq,true_and] at e4
  rw [e4,List.getD,List.getElem?_eq_getElem (by omega:r<Lib.deBruijn64tab.length)];rfl
 rw [World.var?_cell hg hv r,<- hz]
 have:cs.toList[r]?=some (.int .u8 z):=by
  have h0:((cs.toList.drop r).take 1)[0]?=some (.int .u8 z):=by rw [e1];rfl
  simpa using h0
 simpa using this
end Go.Proofs.YtghmdfegfehhkaaGreatDoor
namespace Go.Proofs.YtghmdfegfehhkaaGreatDoor
open Go.ChangeShapes Go.WideShapes Go.ChangeAt Go.RowKit
section
variable {H:Type}{enc:TypeId×Value->H}{W:World}{base:Nat}
theorem At4 {α:Type}{D:Dec α}{t:TypeId}{v:Value}{d:DataW H}{p:List MemPlace}(h:DataW.Trod enc Tryz.prog W 0 (fun _=>true) true t v d p)(ho:N7 enc Tryz.prog W 0 (fun _=>true) true t D):∃ a,D W v.cells.toList a:=Rp h ho
theorem Us {v:Value}{d:DataW H}{p:List MemPlace}(hv:Value.okWide Tryz.prog W .any base 49 v)(h:DataW.Trod enc Tryz.prog W 0 (fun _=>true) true 49 v d p) :
  ∃ (s:Draft) (A:Option Addr) (c:Nat),v=.agg #[.int .u8 s.vars,.int .u8 s.cells,.slice A s.acts.length c]/\RActs W A s.acts/\(0<=s.vars/\s.vars<=255)/\0<=s.cells/\s.cells<=255:=by
 obtain ⟨cs,rfl,_⟩:=okWide_struct Tryz.underlying49 hv
 obtain ⟨s,A,c,hc,h1,h2⟩:=At4 h Sy
 refine ⟨s,A,c,?_,h1,h2⟩
 simp only [Value.cells] at hc
 rw [<- hc]
end
open Go.RowKit
variable {ds:List Deferred}
section
variable {P:Program}{ops:Array Oper}{md:Region.Mode}{C:World->Prop}
def runsTo (P:Program)(o:Oper)(a:Act)(w:World)(R:Value->World->Prop):Prop:=
 (∃ v w',(execOp a.eval o).run P w=.ok (.value v) w'/\R v w') \/
 (∃ f args,(execOp a.eval o).run P w=.ok (.enter f args) w/\Calls P f args w fun e w'=>∃ v,e=.returned v/\R v w') \/
 (∃ w',(execOp a.eval o).run P w=.ok .skip w'/\R undef w')
theorem runsTo.mono {o:Oper}{a:Act}{w:World}{R R':Value->World->Prop}(h:runsTo P o a w R)(k:∀ v w',R v w'->R' v w'):runsTo P o a w R':=by
 rcases h with ⟨v,w',h1,h2⟩|⟨f,args,h1,h2⟩|⟨w',h1,h2⟩
 ·exact .inl ⟨v,w',h1,k _ _ h2⟩
 ·exact .inr (.inl ⟨f,args,h1,h2.mono fun e w' ⟨v,he,h3⟩=>⟨v,he,k _ _ h3⟩⟩)
 ·exact .inr (.inr ⟨w',h1,k _ _ h2⟩)
def xUp (P:Program)(C:World->Prop)(o:Oper)(a:Act)(Φ:World->Prop)(K:(World->Prop)->Act->Prop):Prop:=
 (∃ v,quB P o a C v/\K Φ (a.put o.dst v)) \/
 (∃ Ψ:Value->World->Prop,(∀ v,Bu (Ψ v))/\(∀ w,C w->Φ w->runsTo P o a w fun v w'=>C w'/\Ψ v w')/\∀ v,K (Ψ v) (a.put o.dst v))
def xOp (P:Program)(ops:Array Oper)(C:World->Prop)(i:Nat)(Φ:World->Prop)(K:(World->Prop)->Act->Prop)(a:Act):Prop:=
 match ops[i]? with
 |none=>K Φ a
 |some o=>if Region.wanted o (yielded ops a.tmps) then xUp P C o a Φ K else K Φ (a.put o.dst undef)
def wpX (P:Program)(md:Region.Mode)(ops:Array Oper)(C:World->Prop)(n:Nat)(L:Array Bool->(World->Prop)->Act->Prop):Nat->Array Bool->(World->Prop)->Act->Prop
 |0,listed,Φ,a=>L listed Φ a
 |f+1,listed,Φ,a=>Region.ready md ops listed≠[]/\∀ i∈Region.ready md ops listed,i<n/\xOp P ops C i Φ (fun Φ' a'=>wpX P md ops C n L f (listed.setIfInBounds i true) Φ' a') a
theorem Ab1 {o:Oper}{a:Act}{Φ:World->Prop}{K K':(World->Prop)->Act->Prop}(h:∀ Φ a,K Φ a->K' Φ a)(hh:xUp P C o a Φ K):xUp P C o a Φ K':=by
 rcases hh with ⟨v,h1,h2⟩|⟨Ψ,h1,h2,h3⟩
 ·exact .inl ⟨v,h1,h _ _ h2⟩
 ·exact .inr ⟨Ψ,h1,h2,fun v=>h _ _ (h3 v)⟩
theorem Tn {i:Nat}{a:Act}{Φ:World->Prop}{K K':(World->Prop)->Act->Prop}(h:∀ Φ a,K Φ a->K' Φ a)(hh:xOp P ops C i Φ K a):xOp P ops C i Φ K' a:=by
 unfold xOp at *
 split
 ·rename_i ho;simp only [ho] at hh;exact h _ _ hh
 ·rename_i o ho
  simp only [ho] at hh
  split
  ·rename_i hw;simp only [hw,if_true] at hh;exact Ab1 h hh
  ·rename_i hw;simp only [hw] at hh;exact h _ _ hh
theorem X8 (hC:Bu C){o:Oper}{a:Act}{Φ:World->Prop}{K:(World->Prop)->Act->Prop}{K':Act->World->Prop}{Q':Exit->Act->World->Prop}{w:World}(hw:C w)(hst:Bu Φ)(hΦ:Φ w)
  (h:∀ Φ a w',Bu Φ->C w'->Φ w'->K Φ a->K' a w') (hh:xUp P C o a Φ K):o.wp P a w K' Q':=by
 rcases hh with ⟨v,h1,h2⟩|⟨Ψ,h1,h2,h3⟩
 ·have h3:=h1 w hw
  unfold Oper.quietAt at h3
  unfold Oper.wp
  generalize (execOp a.eval o).run P w=r at *
  cases r with
  |ok n w'=>
   cases n<;>simp only [Oper.quietUpon] at h3<;>simp only [Oper.upon]
   case value u=>
    obtain ⟨e1,e2⟩:=h3
    rw [e1,e2]
    exact h _ _ _ hst hw hΦ h2
   case skip=>
    obtain ⟨e1,e2⟩:=h3
    rw [e1,<- e2]
    exact h _ _ _ hst hw hΦ h2
   case enter f args=>
    obtain ⟨e1,hc⟩:=h3
    rw [e1]
    exact hc.mono fun e w'' ⟨he,hw''⟩=>by subst he;exact h _ _ _ hst (hC _ _ hw hw'') (hst _ _ hΦ hw'') h2
  |halt x w'=>simp only [Oper.quietUpon] at h3
 ·rcases h2 w hw hΦ with ⟨v,w',h4,h5,h6⟩|⟨f,args,h4,h5⟩|⟨w',h4,h5,h6⟩
  ·unfold Oper.wp
   rw [h4]
   exact h _ _ _ (h1 v) h5 h6 (h3 v)
  ·unfold Oper.wp
   rw [h4]
   refine h5.mono fun e w'' ⟨v,he,h6,h7⟩=>?_
   subst he
   exact h _ _ _ (h1 v) h6 h7 (h3 v)
  ·unfold Oper.wp
   rw [h4]
   exact h _ _ _ (h1 undef) h5 h6 (h3 undef)
theorem S3 (hC:Bu C){i:Nat}{a:Act}{Φ:World->Prop}{K:(World->Prop)->Act->Prop}{K':Act->World->Prop}{Q':Exit->Act->World->Prop}{w:World}(hw:C w)(hst:Bu Φ)(hΦ:Φ w)
  (h:∀ Φ a w',Bu Φ->C w'->Φ w'->K Φ a->K' a w') (hh:xOp P ops C i Φ K a):wpOp P ops Q' i K' a w:=by
 unfold xOp at hh
 unfold wpOp
 split
 ·rename_i ho;simp only [ho] at hh;exact h _ _ _ hst hw hΦ hh
 ·rename_i o ho
  simp only [ho] at hh
  split
  ·rename_i hwn;simp only [hwn,if_true] at hh;exact .inl (X8 hC hw hst hΦ h hh)
  ·rename_i hwn;simp only [hwn] at hh;exact h _ _ _ hst hw hΦ hh
theorem Km (hC:Bu C){n g:Nat}{L:Array Bool->(World->Prop)->Act->Prop}{Q':Exit->Act->World->Prop}(hL:∀ listed Φ a w,C w->Φ w->L listed Φ a->wpAny P md ops Q' g listed a w) :
  ∀ (f:Nat) (listed:Array Bool) (Φ:World->Prop) (a:Act) (w:World),Bu Φ->C w->Φ w->wpX P md ops C n L f listed Φ a->wpAny P md ops Q' (f+g) listed a w
 |0,listed,Φ,a,w,_,hw,hΦ,h=>by rw [Nat.zero_add];exact hL _ _ _ _ hw hΦ h
 |f+1,listed,Φ,a,w,hst,hw,hΦ,h=>by
  rw [show f+1+g=(f+g)+1 by omega]
  exact ⟨fun h0=>absurd h0 h.1,fun i hi=>S3 hC hw hst hΦ (fun Φ' a' w' hst' hw' hΦ' h'=>Km hC hL f _ Φ' a' w' hst' hw' hΦ' h') (h.2 i hi).2⟩
theorem YieldsB.xOp {i:Nat}{o:Oper}{v:Value}{a:Act}(hi:ops[i]?=some o)(hy:YieldsB P ops C o v a){Φ:World->Prop}{K:(World->Prop)->Act->Prop}(h:K Φ (a.put o.dst v)):xOp P ops C i Φ K a:=by
 unfold Proofs.YtghmdfegfehhkaaGreatDoor.xOp
 simp only [hi]
 rcases hy with ⟨hw,hv⟩|⟨hw,rfl⟩
 ·simp only [hw,if_true];exact .inl ⟨v,hv,h⟩
 ·simp only [hw,Bool.false_eq_true,if_false];exact h
theorem Wz {j:Nat}{oi oj:Oper}{v:Value}(hj:ops[j]?=some oj)(hap:oi.apart ops oj=true)
  (hsi:∀ cs b,oi.op≠.select cs b) (hsj:∀ cs b,oj.op≠.select cs b) {Φ:World->Prop} {K:(World->Prop)->Act->Prop} {a:Act}
  (hy:YieldsB P ops C oi v a) (h:xOp P ops C j Φ K (a.put oi.dst v)) :
  xOp P ops C j Φ (fun Φ' a'=>YieldsB P ops C oi v a'/\K Φ' (a'.put oi.dst v)) a:=by
 obtain ⟨h1,h2,h3⟩:=Oper.apart_spec hap
 have keep:∀ (a:Act),YieldsB P ops C oi v a->∀ u,YieldsB P ops C oi v (a.put oj.dst u):=fun a hy u=>
  hy.of_same (execOp_put oi hsi a oj.dst u h3) (wanted_put oi a oj.dst u h3)
 unfold Proofs.YtghmdfegfehhkaaGreatDoor.xOp at *
 simp only [hj] at *
 rw [wanted_put oj a oi.dst v h1] at h
 split
 ·rename_i hw
  simp only [hw,if_true] at h
  rcases h with ⟨u,hu,hn⟩|⟨Ψ,g1,g2,g3⟩
  ·refine .inl ⟨u,fun w hw'=>?_,keep a hy u,by rw [<- Act.put_comm a v u h2];exact hn⟩
   have:=hu w hw'
   unfold Oper.quietAt at *
   rwa [execOp_put oj hsj a oi.dst v h1] at this
  ·refine .inr ⟨Ψ,g1,fun w hw' hΦ'=>?_,fun u=>⟨keep a hy u,by rw [<- Act.put_comm a v u h2];exact g3 u⟩⟩
   have:=g2 w hw' hΦ'
   unfold runsTo at *
   rwa [execOp_put oj hsj a oi.dst v h1] at this
 ·rename_i hw
  simp only [hw] at h
  exact ⟨keep a hy _,by rw [<- Act.put_comm a v undef h2];exact h⟩
theorem Yb {n i:Nat}{oi:Oper}{v:Value}{L:Array Bool->(World->Prop)->Act->Prop}(hi:ops[i]?=some oi)(hsel:∀ (j:Nat) (o:Oper) cs b,ops[j]?=some o->o.op≠.select cs b)
  (hs:Region.sinkB md ops n=true) (hc:Region.chainB md ops n=true) (hn:n<ops.size) (hin:i<n)
  (hdone:∀ listed Φ a,L listed Φ a->∀ j∈Region.ready md ops listed,n<=j) :
  ∀ (f:Nat) (listed:Array Bool) (Φ:World->Prop) (a:Act),HeadInv md ops n listed ->
   (∀ j oj,ops[j]?=some oj->j≠i->listed.getD j true=false->(∀ e∈oj.after,Region.binds md e=true->e.on≠i)->oi.apart ops oj=true) ->
   i∈Region.ready md ops listed->YieldsB P ops C oi v a ->
   wpX P md ops C n L f (listed.setIfInBounds i true) Φ (a.put oi.dst v)->wpX P md ops C n L (f+1) listed Φ a:=by
 intro f
 induction f with
 |zero=>
  intro listed Φ a inv _ hr hy H
  have hun:=(mem_ready.1 hr).1
  refine ⟨fun h=>(by rw [h] at hr;cases hr),fun j hj=>?_⟩
  have hjn:j<n:=by
   rcases Nat.lt_or_ge j n with h|h
   ·exact h
   ·exact absurd hj (tail_waits hs hc hn inv _ i rfl hin hun j h)
  refine ⟨hjn,?_⟩
  by_cases hji:j=i
  ·subst hji;exact hy.xOp hi H
  ·have:=hdone _ _ _ H j (ready_mono hj hji)
   omega
 |succ f ih=>
  intro listed Φ a inv hfree hr hy H
  have hun:=(mem_ready.1 hr).1
  refine ⟨fun h=>(by rw [h] at hr;cases hr),fun j hj=>?_⟩
  have hjn:j<n:=by
   rcases Nat.lt_or_ge j n with h|h
   ·exact h
   ·exact absurd hj (tail_waits hs hc hn inv _ i rfl hin hun j h)
  refine ⟨hjn,?_⟩
  by_cases hji:j=i
  ·subst hji;exact hy.xOp hi H
  ·have h1:=(H.2 j (ready_mono hj hji)).2
   obtain ⟨hjun,oj,hoj,hall⟩:=mem_ready.1 hj
   have hnot:∀ e∈oj.after,Region.binds md e=true->e.on≠i:=fun e he hb heq=>by
    have h1:=hall e he hb
    rw [heq,getD_both hun] at h1
    cases h1
   have h2:=Wz hoj (hfree j oj hoj hji hjun hnot) (fun cs b=>hsel i oi cs b hi) (fun cs b=>hsel j oj cs b hoj) hy h1
   have hfree':∀ k ok,ops[k]?=some ok->k≠i->(listed.setIfInBounds j true).getD k true=false ->
     (∀ e∈ok.after,Region.binds md e=true->e.on≠i)->oi.apart ops ok=true:=fun k ok hk hki hun hno=>by
    refine hfree k ok hk hki ?_ hno
    by_cases hjk:j=k
    ·subst hjk;exact hjun
    ·rw [getD_set_ne true hjk] at hun;exact hun
   refine Tn (fun Φ' a' h3=>ih (listed.setIfInBounds j true) Φ' a' (inv.set hj hjn) hfree' (ready_mono hr (Ne.symm hji)) h3.1 ?_) h2
   rw [Array.setIfInBounds_comm _ _ hji]
   exact h3.2
def exB (md:Region.Mode)(ops:Array Oper)(g n:Nat):Nat->Array Bool->Bool
 |0,listed=>Region.seqB md ops g n listed
 |f+1,listed=>!(Region.ready md ops listed).isEmpty&&(Region.ready md ops listed).all fun i=>decide (i<n)&&((ops[i]?).map fun o=>o.guard.isNone).getD false&&exB md ops g n f (listed.setIfInBounds i true)
def Yz (P:Program)(md:Region.Mode)(ops:Array Oper)(C:World->Prop)(T:Act->World->Prop):Nat->Array Bool->Act->World->Prop
 |0,_,a,W=>T a W
 |f+1,listed,a,W=>∀ i∈Region.ready md ops listed,∀ o,ops[i]?=some o->runsTo P o a W fun v w2=>C w2/\∀ W',Below w2.heap.size w2 W'->C W'->Yz P md ops C T f (listed.setIfInBounds i true) (a.put o.dst v) W'
theorem Py {g n:Nat}{T:Act->World->Prop}:∀ (f:Nat) (listed:Array Bool) (Φ:World->Prop) (a:Act),exB md ops g n f listed=true->(∀ W,C W->Φ W->Yz P md ops C T f listed a W) ->
  wpX P md ops C n (fun listed' Φ' a'=>Region.seqB md ops g n listed'=true/\∀ W,C W->Φ' W->T a' W) f listed Φ a
 |0,listed,Φ,a,hB,h=>⟨hB,h⟩
 |f+1,listed,Φ,a,hB,h=>by
  simp only [exB,Bool.and_eq_true,Bool.not_eq_true',List.isEmpty_eq_false_iff,List.all_eq_true,decide_eq_true_eq] at hB
  refine ⟨hB.1,fun i hi=>?_⟩
  obtain ⟨⟨h1,h2⟩,h3⟩:=hB.2 i hi
  refine ⟨h1,?_⟩
  cases ho:ops[i]? with
  |none=>rw [ho] at h2;simp at h2
  |some o=>
   rw [ho] at h2
   have hg:o.guard=none:=by simpa using h2
   unfold Proofs.YtghmdfegfehhkaaGreatDoor.xOp
   simp only [ho]
   rw [if_pos (by simp [Region.wanted,hg])]
   refine .inr ⟨fun v W=>∃ w2,Below w2.heap.size w2 W/\∀ W',Below w2.heap.size w2 W'->C W'->Yz P md ops C T f (listed.setIfInBounds i true) (a.put o.dst v) W',fun v w w' ⟨w2,h1,h2⟩ hb=>⟨w2,Ax h1 hb,h2⟩,fun w hw hΦ=>?_,fun v=>Py f _ _ _ h3 fun W hW ⟨w2,h1,h2⟩=>h2 W h1 hW⟩
   exact (h w hw hΦ i hi o ho).mono fun v w2 ⟨h4,h5⟩=>⟨h4,w2,Below.refl _ _,h5⟩
def Qa (md:Region.Mode)(ops:Array Oper)(g n f:Nat):List Nat->Array Bool->Bool
 |[],listed=>exB md ops g n f listed
 |k::qs,listed=>decide (k<n)&&(Region.ready md ops listed).contains k&&Region.free md ops listed k&&Qa md ops g n f qs (listed.setIfInBounds k true)
def Gr:List Nat->Array Bool->Array Bool
 |[],listed=>listed
 |k::qs,listed=>Gr qs (listed.setIfInBounds k true)
def Gq (ops:Array Oper):List Nat->List Oper
 |[]=>[]
 |k::qs=>match ops[k]? with
  |some o=>o::Gq ops qs
  |none=>Gq ops qs
theorem Td {n g f:Nat}{T:Act->World->Prop}(hsel:Region.noSelect ops=true)(hs:Region.sinkB md ops n=true)(hc:Region.chainB md ops n=true)(hn:n<ops.size) :
  ∀ (qs:List Nat) (listed:Array Bool) (Φ:World->Prop) (a:Act),HeadInv md ops n listed->Qa md ops g n f qs listed=true ->
  Fl P ops C (fun a'=>∀ W,C W->Φ W->Yz P md ops C T f (Gr qs listed) a' W) (Gq ops qs) a ->
  wpX P md ops C n (fun listed' Φ' a'=>Region.seqB md ops g n listed'=true/\∀ W,C W->Φ' W->T a' W) (qs.length+f) listed Φ a
 |[],listed,Φ,a,inv,hB,h=>by
  rw [List.length_nil,Nat.zero_add]
  exact Py f listed Φ a hB h
 |k::qs,listed,Φ,a,inv,hB,h=>by
  simp only [Qa,Bool.and_eq_true,decide_eq_true_eq] at hB
  obtain ⟨⟨⟨hkn,hr⟩,hf⟩,hB'⟩:=hB
  have hr':k∈Region.ready md ops listed:=by simpa using hr
  obtain ⟨o,h0⟩:∃ o,ops[k]?=some o:=⟨ops[k]'(by omega),by simp⟩
  have e1:Gq ops (k::qs)=o::Gq ops qs:=by simp [Gq,h0]
  rw [e1] at h
  have key:∃ v,YieldsB P ops C o v a/\Fl P ops C (fun a'=>∀ W,C W->Φ W->Yz P md ops C T f (Gr (k::qs) listed) a' W) (Gq ops qs) (a.put o.dst v):=by
   unfold Fl at h
   by_cases hw:Region.wanted o (yielded ops a.tmps)=true
   ·rw [if_pos hw] at h
    obtain ⟨v,h1,h2⟩:=h
    exact ⟨v,.inl ⟨hw,h1⟩,h2⟩
   ·rw [if_neg hw] at h
    exact ⟨undef,.inr ⟨by simpa using hw,rfl⟩,h⟩
  obtain ⟨v,hy,hK⟩:=key
  have e:(k::qs).length+f=qs.length+f+1:=by simp;omega
  rw [e]
  exact Yb h0 (Region.noSelect_spec hsel) hs hc hn hkn (fun listed' Φ' a' hL=>seqB_ready hL.1) (qs.length+f) listed Φ a inv (Region.free_spec h0 hf) hr' hy
   (Td hsel hs hc hn qs _ Φ _ (inv.set hr' hkn) hB' hK)
def Ii (ops:Array Oper)(qs:List Nat)(f n:Nat):Bool:=
 Region.noSelect ops&&decide (n<ops.size)&&decide (qs.length+f=n)&&Region.sinkB .any ops n&&Region.chainB .any ops n&&Qa .any ops (ops.size - n) n f qs (Array.replicate ops.size false)
theorem Ha {id:Nat}{Q:Exit->Act->World->Prop}{a:Act}{w:World}{l:List Oper}(qs:List Nat)(f n:Nat)(hC:Bu C)(hm:P.follows .mixedOrders=true)(hB:Ii l.toArray qs f n=true)(hCw:C w)
  (h:Fl P l.toArray C (fun a'=>∀ W,C W->Below w.heap.size w W->Yz P .any l.toArray C (wpList P l.toArray Q (l.drop n)) f (Gr qs (Array.replicate l.toArray.size false)) a' W) (Gq l.toArray qs) a):(Code.region id l.toArray true).wp P Q a w:=by
 simp only [Ii,Bool.and_eq_true,decide_eq_true_eq] at hB
 obtain ⟨⟨⟨⟨⟨hsel,hn⟩,hqf⟩,hs⟩,hc⟩,hperm⟩:=hB
 have hdl:(l.drop n).length=l.toArray.size - n:=by simp
 have inv0:HeadInv .any l.toArray n (Array.replicate l.toArray.size false):=
  ⟨by simp,fun j oj _ hl=>(by rw [getD_replicate_false] at hl;cases hl),fun t _ ht=>getD_in (by simpa using ht) (getD_replicate_false _ _)⟩
 have H:=Td (P:=P) (C:=C) (md:=.any) (g:=l.toArray.size - n) (T:=wpList P l.toArray Q (l.drop n)) hsel hs hc hn qs _ (fun W=>Below w.heap.size w W) a inv0 hperm h
 refine wp_region_any hm ?_
 have hst:Bu (fun W=>Below w.heap.size w W):=fun _ _ h h'=>Ax h h'
 have hΦ:Below w.heap.size w { w with drawn:=w.drawn+1 }:=⟨rfl,rfl,rfl,Nat.le_refl _,fun _ _=>rfl⟩
 have hw':C { w with drawn:=w.drawn+1 }:=hC _ _ hCw ⟨rfl,rfl,rfl,Nat.le_refl _,fun _ _=>rfl⟩
 have:=Km hC (Q':=Q) (g:=l.toArray.size - n) (L:=fun listed' Φ' a'=>Region.seqB .any l.toArray (l.toArray.size - n) n listed'=true/\∀ W,C W->Φ' W->wpList P l.toArray Q (l.drop n) a' W) (fun listed Φ a' W hW hΦ hL=>by
  have:=wpAny_of_seq (md:=.any) (Q':=Q) (l.drop n) n listed a' W (fun j=>by simp [List.getElem?_drop]) (by rw [hdl];exact hL.1) (hL.2 W hW hΦ)
  rwa [hdl] at this) _ _ (fun W=>Below w.heap.size w W) a _ hst hw' hΦ H
 have e:qs.length+f+(l.toArray.size - n)=l.toArray.size:=by omega
 rwa [e] at this
end
section
variable {P:Program}{T:Nat->Option TI}{n:Nat}{Q:Post}{F:Fm}{w:World}{ops:Array Oper}{rest:List Oper}{o:Oper}{K:Fm->World->Prop}{C:World->Prop}
structure wb (P:Program)(n:Nat)(o:Oper)(F:Fm)(w:World)(K:Fm->World->Prop):Prop where
 dst:Nx n o.dst=true
 go:(∃ v w',(execOp (ev F) o).run P w=.ok (.value v) w'/\K (Pq F o.dst v) w') \/
  (∃ f args,(execOp (ev F) o).run P w=.ok (.enter f args) w/\Calls P f args w fun e w'=>∃ v,e=.returned v/\K (Pq F o.dst v) w') \/
  (∃ w',(execOp (ev F) o).run P w=.ok .skip w'/\K (Pq F o.dst undef) w')
theorem wb.runs {a:Act}(h:wb P n o F w K)(ha:Fr ds a n F):runsTo P o a w fun v w'=>K (Pq F o.dst v) w':=by
 unfold runsTo
 rw [ha.eval]
 exact h.go
theorem Hh (h:wa P n o F w K):wb P n o F w K:=let ⟨v,w2,h1,h2,h3⟩:=h.go;⟨h2,.inl ⟨v,w2,h1,h3⟩⟩
theorem Uq (hT:TabOk P T){v:Value}(h:Ca T o.op F=some v){d:Nat}(hd:o.dst=some d)(hn:Nat.blt d n=true)(k:K (Bd F d v) w):wb P n o F w K:=
 ⟨B9 hd hn,.inl ⟨v,w,Kx hT h,by rw [hd];exact k⟩⟩
theorem N6 {v:Value}{w1:World}{d:Nat}(hd:o.dst=some d)(hn:Nat.blt d n=true)(hrun:(execOp (ev F) o).run P w=.ok (.value v) w1)(k:K (Bd F d v) w1):wb P n o F w K:=
 ⟨B9 hd hn,.inl ⟨v,w1,hrun,by rw [hd];exact k⟩⟩
theorem L7 (hT:TabOk P T)(e s b:Nat){t:TypeId}{x y:Operand}{m:Nat}{i:TI}{z:List Value}(hop:o.op=.makeSlice t x y)(hx:ev F x=.int .i64 m)(hy:ev F y=.int .i64 m)(h1:I7 T t e s b=true)(hi:T e=some i)(hz:i.zero.cells=z.toArray){d:Nat}(hd:o.dst=some d)(hn:Nat.blt d n=true)
  (hbig:b*m<=281474976710656) (h63:m<=9223372036854775807)
  (k:∀ g w1,New w w1 g (List.replicate m z).flatten e->K (Bd F d (.slice (some ⟨g,0,none⟩) m m)) w1):wb P n o F w K:=by
 obtain ⟨hu,j,z',hj,hz',hs,hby,hzs⟩:=Eh hT h1
 obtain ⟨j2,hj2,hz2,_,_⟩:=Tv hT hi
 rw [hj] at hj2
 cases hj2
 rw [hz'] at hz2
 cases hz2
 refine N6 hd hn ?_ (k _ _ (Ce w _ e))
 have hbi:((j.bytes:Int)*(m:Int))<=281474976710656:=by rw [hby,<- Int.natCast_mul];omega
 have hr:=run_make (P:=P) w t e j i.zero hu hj hz' .i64 .i64 m m (by omega) (by omega) hbi (by omega)
 simp only [Int.toNat_natCast] at hr
 have hc:madeCells i.zero.cells (m*j.size)=((List.replicate m z).flatten).toArray:=by
  rw [<- Ge z m]
  have hzl:z.length=s:=by rw [hz] at hzs;simpa using hzs
  unfold madeCells
  rw [hz,hs,hzl]
  apply Array.ext'
  simp [hzl]
 rw [hc] at hr
 simp [execOp,hop,hx,hy,hr]
theorem Ag3 {f:FuncId}{c:Call}{x:Operand}{args:List Value}{R:Ending->World->Prop}(hf:FnOk P f)(hc:Calls P f args.toArray w R)(hop:o.op=.call c)(hcal:c.callee=.value x)(hx:ev F x=.func (.func f) #[] #[])(hargs:c.args.toList.map (ev F)=args){d:Nat}(hd:o.dst=some d)(hn:Nat.blt d n=true)
  (k:∀ e w1,R e w1->∃ v,e=.returned v/\K (Bd F d v) w1):wb P n o F w K:=by
 refine ⟨B9 hd hn,.inr (.inl ⟨f,args.toArray,?_,hc.mono fun e w' h=>by rw [hd];exact k e w' h⟩)⟩
 have:c.args.map (ev F)=args.toArray:=Array.toList_inj.1 (by rw [Array.toList_map,hargs])
 simp [execOp,hop,resolve,hcal,hx,Deferred.ofValue,this,invoke,C4 hf]
def Ts (p:Nat->Prop):List Nat->Prop
 |[]=>True
 |i::l=>p i/\Ts p l
theorem Sv {p:Nat->Prop}:∀ {l:List Nat},Ts p l->∀ i∈l,p i
 |[],_,i,h=>by cases h
 |j::l,⟨h1,h2⟩,i,h=>by
  rcases List.mem_cons.1 h with rfl|h
  ·exact h1
  ·exact Sv h2 i h
def Lv (l:List Oper)(listed:List Bool):List Nat:=
 (List.range l.length).filter fun i=>!(listed.getD i true)&&match l[i]? with
  |some o=>o.after.toList.all fun e=>!Region.binds .any e||listed.getD e.on false
  |none=>false
theorem Ry (l:List Oper)(listed:List Bool):Region.ready .any l.toArray listed.toArray=Lv l listed:=by
 unfold Region.ready Lv
 have e1:l.toArray.size=l.length:=by simp
 rw [e1]
 congr 1
 funext i
 have e2:∀ (d:Bool) (k:Nat),listed.toArray.getD k d=listed.getD k d:=fun d k=>by simp [Array.getD_eq_getD_getElem?,List.getD_eq_getElem?_getD]
 rw [e2]
 congr 1
 have e3:l.toArray[i]?=l[i]?:=by simp
 rw [e3]
 cases l[i]? with
 |none=>rfl
 |some o=>
  simp only [Option.map_some,Option.getD_some]
  rw [<- Array.all_toList]
  congr 1
  funext e
  rw [e2]
def F8:List Nat->List Bool->List Bool
 |[],listed=>listed
 |k::qs,listed=>F8 qs (listed.set k true)
theorem Gy:∀ (qs:List Nat) (listed:List Bool),Gr qs listed.toArray=(F8 qs listed).toArray
 |[],_=>rfl
 |k::qs,listed=>by
  simp only [Gr,F8]
  rw [<- Gy qs]
  congr 1
  simp
def opF (P:Program)(n:Nat)(l:List Oper)(i:Nat)(F:Fm)(w:World)(K:Fm->World->Prop):Prop:=
 match l[i]? with
 |some o=>wb P n o F w K
 |none=>True
def Y5 (P:Program)(n:Nat)(l:List Oper)(C:World->Prop)(T:Fm->World->Prop):Nat->List Bool->Fm->World->Prop
 |0,_,F,W=>T F W
 |f+1,listed,F,W=>Ts (fun i=>opF P n l i F W fun F2 w2=>C w2/\∀ W',Below w2.heap.size w2 W'->C W'->Y5 P n l C T f (listed.set i true) F2 W') (Lv l listed)
theorem Og {l:List Oper}{T:Fm->World->Prop}{T':Act->World->Prop}(hT':∀ a F W,Fr ds a n F->T F W->T' a W):∀ (f:Nat) (listed:List Bool) (a:Act) (F:Fm) (W:World),Fr ds a n F->Y5 P n l C T f listed F W->Yz P .any l.toArray C T' f listed.toArray a W
 |0,_,a,F,W,ha,h=>hT' a F W ha h
 |f+1,listed,a,F,W,ha,h=>fun i hi o ho=>by
  rw [Ry] at hi
  have h1:=Sv h i hi
  unfold opF at h1
  have ho':l[i]?=some o:=by simpa using ho
  rw [ho'] at h1
  refine (h1.runs ha).mono fun v w2 ⟨h3,h4⟩=>⟨h3,fun W' hW' hC'=>?_⟩
  have:=Og hT' f _ _ _ W' (ha.put h1.dst v) (h4 W' hW' hC')
  have e:(listed.set i true).toArray=listed.toArray.setIfInBounds i true:=by simp
  rwa [e] at this
def Pc (l:List Oper):List Nat->List Oper
 |[]=>[]
 |k::qs=>match l[k]? with
  |some o=>o::Pc l qs
  |none=>Pc l qs
theorem L6 (l:List Oper):∀ qs,Gq l.toArray qs=Pc l qs
 |[]=>rfl
 |k::qs=>by
  have e3:l.toArray[k]?=l[k]?:=by simp
  simp only [Gq,Pc,e3,L6 l qs]
theorem Em {id:Nat}{l:List Oper}(qs:List Nat)(f m:Nat)(hC:Bu C)(hT:TabOk P T)(hm:P.follows .mixedOrders=true)(hB:Ii l.toArray qs f m=true)(hCw:C w)
  (h:J3 P T n l.toArray C (Pc l qs) (fun F'=>∀ w1,C w1->Below w.heap.size w w1->Y5 P n l C (fun F2 W=>runG P T n l.toArray (l.drop m) Q F2 W) f (F8 qs (List.replicate l.length false)) F' w1) F):wc P n (.region id l.toArray true) Q F w:=by
 unfold wc
 intro ds a ha
 have hq:=(Ad hT h).go ds a ha
 rw [<- L6] at hq
 refine Ha qs f m hC hm hB hCw (Da ?_ hq)
 rintro a' ⟨F',h2,h3⟩ w1 hw1 hb1
 have:=Og (T':=wpList P l.toArray (Iz ds n Q) (l.drop m)) (T:=fun F2 W=>runG P T n l.toArray (l.drop m) Q F2 W) (fun a F W ha h=>?_) _ _ _ _ _ h2 (h3 w1 hw1 hb1)
 ·rw [<- Gy] at this
  have e:(List.replicate l.length false).toArray=Array.replicate l.toArray.size false:=by simp
  rwa [e] at this
 ·have:=Ab hT h
  unfold wl at this
  exact this _ _ ha
theorem Jv {X:Type}(S:X->List (Nat×Value))(R:X->World->Prop){c:Code}(h:wc P n c ⟨fun F' w'=>∃ x',holds F' (S x')/\R x' w',fun _ _=>False,fun _ _ _=>False⟩ F w)(k:∀ x G w,R x w->Q.n (Ng G (S x)) w):wc P n c Q F w:=
 F9 h (fun F' w' ⟨x',h1,h2⟩=>by have:=k x' F' w' h2;rwa [Ct h1] at this) (fun _ _ h=>h.elim) (fun _ _ _ h=>h.elim)
end
variable {ds:List Deferred}
section
variable {P:Program}{ops:Array Oper}{md:Region.Mode}{C:World->Prop}
end
section
variable {P:Program}{T:Nat->Option TI}{n:Nat}{Q:Post}{F:Fm}{w:World}{ops:Array Oper}{o:Oper}{C:World->Prop}
end
structure LRow {α:Type}[Inhabited α](sz:Nat)(d:Dec α)(e:TypeId)(base:Nat)(w0 w:World)(v:Value)(xs:List α):Prop where
 own:∃ flat,w.ownsRow base e sz v xs.length flat/\∀ w',Below w0.heap.size w0 w'->Elems sz d w' flat xs
section
variable {α:Type}[Inhabited α]{sz:Nat}{d:Dec α}{e:TypeId}{base:Nat}{w0 w w1:World}{v v':Value}{xs:List α}
theorem LRow.nil (sz:Nat)(d:Dec α)(e:TypeId)(base:Nat)(w0 w:World):LRow sz d e base w0 w (.slice none 0 0) ([]:List α):=⟨[],F6 ..,fun _ _=>Elems.nil ..⟩
theorem LRow.up (h:LRow sz d e base w0 w v xs)(hb:Below w.heap.size w w1):LRow sz d e base w0 w1 v xs:=by
 obtain ⟨flat,h1,h2⟩:=h.own
 exact ⟨flat,h1.kept (Ar hb) (Classical.em _),h2⟩
theorem LRow.row (h:LRow sz d e base w0 w v xs)(hb:Below w0.heap.size w0 w):∃ A c,v=.slice A xs.length c/\xs.length<=c/\RowR sz d w A xs:=by
 obtain ⟨flat,h1,h2⟩:=h.own
 exact Dp h1 rfl (h2 w hb)
theorem LRow.rowAt {A:Option Addr}{n c:Nat}(h:LRow sz d e base w0 w (.slice A n c) xs)(hb:Below w0.heap.size w0 w):RowR sz d w A xs:=by
 obtain ⟨A',c',e1,_,h2⟩:=h.row hb
 injection e1 with e1 _ _
 subst e1
 exact h2
end
section
variable {P:Program}{T:Nat->Option TI}{n:Nat}{F:Fm}{w:World}{o:Oper}{K:Fm->World->Prop}
theorem Bhx (hT:TabOk P T){t:TypeId}{x:Operand}{a:Addr}{v:Value}(hop:o.op=.load t x)(hx:ev F x=.pointer (some a))(h1:Lg T t=true){d:Nat}(hd:o.dst=some d)(hn:Nat.blt d n=true)(hc:w.cell? a=some v)(k:K (Bd F d v) w):wb P n o F w K:=
 N6 hd hn (by simp [execOp,hop,hx,Instr.loadAt,Instr.sureAddr,C2 hT h1 hc]) k
end
end Go.Proofs.YtghmdfegfehhkaaGreatDoor
