/- Several texts of one claim in one file, made short: SJ20 SP20 SF20 SG20 SO20. -/
import Derived.Test.YtghmdfegfehhkaaGreatDoorZ24
import Derived.Test.YtghmdfegfehhkaaGreatDoorZ6
import Derived.Test.YtghmdfegfehhkaaGreatDoorZ19
import Derived.Test.YtghmdfegfehhkaaGreatDoorZ18
import Derived.Test.YtghmdfegfehhkaaGreatDoorZ17
set_option maxRecDepth 100000
set_option maxHeartbeats 64000000
set_option linter.unusedVariables false
set_option linter.unusedSimpArgs false
namespace Go.Proofs.YtghmdfegfehhkaaGreatDoor
open Go.RowKit
def vsM (m:Mem)(a:Nat):Value:=if a=0 then m.Vi else if a=1 then m.Vd else m.Vt
def gsM (m:Mem)(a:Nat):Nat->Nat:=if a=0 then m.gi else if a=1 then m.gd else m.gt
def Nh (c:Cx)(m:Mem)(a:Nat):CP:=⟨6+8*a,8+8*a,9+8*a,10+8*a,35+8*a,37+8*a,38+8*a,39+8*a,1+a,100+4*m.k+a,90+a,vsM m a,gsM m a,m.k,c.base⟩
def Sc (k:Nat):List Nat:=[0,1,2,3,90,91,92,100+4*k,100+4*k+1,100+4*k+2]
def wrS:List Nat:=[35,37,38,39,43,45,46,47,51,53,54,55,56,57,58,59]
def Yj (c:Cx)(cs:List Value):List Nat->World->Prop:=fun fp w=>fp=[c.gx]/\w.heap[c.gx]?=some (.cells cs.toArray 116 (0,0))
def bL (listed:List Bool):Nat->Bool:=fun i=>listed.getD i false
theorem I1 {listed:List Bool}{j:Nat}(hj:j<listed.length)(i:Nat):bL (listed.set j true) i=(bL listed i||decide (i=j)):=by
 unfold bL
 simp only [List.getD_eq_getElem?_getD,List.getElem?_set]
 by_cases e:j=i
 ·subst e;simp [hj]
 ·rw [if_neg e];simp [Ne.symm e]
theorem Ho {listed:List Bool}{i:Nat}(h:listed.getD i true=false):bL listed i=false:=by
 unfold bL
 rw [List.getD_eq_getElem?_getD] at h ⊢
 cases e:listed[i]? with
 |none=>rfl
 |some b=>rw [e] at h;exact h
theorem Ch {o:Oper}{listed:List Bool}(h:Qw o listed=true)(j:Nat)(hj:(o.after.toList.any fun e=>Region.binds .any e&&e.on==j)=true):bL listed j=true:=by
 unfold Qw at h
 rw [List.all_eq_true] at h
 rw [List.any_eq_true] at hj
 obtain ⟨e,he,h2⟩:=hj
 simp only [Bool.and_eq_true,beq_iff_eq] at h2
 have:=h e he
 rw [h2.1,Bool.not_true,Bool.false_or,h2.2] at this
 exact this
structure JJ (c:Cx)(m:Mem)(O1:Nat->Nat)(w1:World)(F0:Fm)(listed:List Bool)(F:Fm)(W:World):Prop where
 len:listed.length=36
 ex:∃ O,Stp O1 O w1 W/\(∀ k,k∉Sc m.k->AtF O k W (Hx c m k))/\(∀ a,a<3->ChOk (Nh c m a) (bL listed) O F W) /\
  (bL listed 29=false->AtF O 0 W (Yj c (Dm c m)))/\(bL listed 29=true->bL listed 32=false->AtF O 0 W (Yj c ((Dm c m).set 3 (F 39))))/\(bL listed 32=true->AtF O 0 W (Yj c (((Dm c m).set 3 (F 39)).set 4 (F 47))))
 d29:bL listed 29=true->bL listed 10=true/\bL listed 18=true/\bL listed 26=true
 d32:bL listed 32=true->bL listed 29=true
 fix:∀ t,t∉wrS->F t=F0 t
 q27:bL listed 27=true->F 56=C5 c.gx
 q28:bL listed 28=true->F 57=.pointer (some ⟨c.gx,3,none⟩)
 q30:bL listed 30=true->F 58=C5 c.gx
 q31:bL listed 31=true->F 59=.pointer (some ⟨c.gx,4,none⟩)
section
variable {c:Cx}{m:Mem}{O1:Nat->Nat}{w1 W W':World}{F0 F F':Fm}{listed:List Bool}
theorem JJ.up (h:JJ c m O1 w1 F0 listed F W)(hb:Below W.heap.size W W'):JJ c m O1 w1 F0 listed F W':=by
 obtain ⟨O,s,r,ch,b1,b2,b3⟩:=h.ex
 exact ⟨h.len,⟨Cp O W.heap.size 97,s.trans (Stp.up hb 97),fun k hk=>(r k hk).up hb _,fun a ha=>(ch a ha).up hb _,fun e=>(b1 e).up hb _,fun e e2=>(b2 e e2).up hb _,fun e=>(b3 e).up hb _⟩,h.d29,h.d32,h.fix,h.q27,h.q28,h.q30,h.q31⟩
theorem Q7 (F:Fm)(s:Nat)(v:Value):Bd F s v s=v:=by simp [Bd]
theorem Gj (F:Fm){s t:Nat}(v:Value)(h:t≠s):Bd F s v t=F t:=by simp only [Bd,E5 h,cond_false]
theorem Eo {a:Nat}(h:a<3):a=0\/a=1\/a=2:=by omega
theorem JJ.other (h:JJ c m O1 w1 F0 listed F W){a i s:Nat}{v:Value}(ha:a<3)(hi:i=6+8*a\/i=8+8*a\/i=9+8*a\/i=10+8*a)(hs:s=35+8*a\/s=37+8*a\/s=38+8*a\/s=39+8*a)(hsi:s=39+8*a->i=10+8*a)(hnot:bL listed (10+8*a)=false)
  {O O':Nat->Nat} (hO:∃ w2,w2=W/\(Stp O1 O w1 w2/\(∀ k,k∉Sc m.k->AtF O k w2 (Hx c m k))/\(∀ a,a<3->ChOk (Nh c m a) (bL listed) O F w2) /\
  (bL listed 29=false->AtF O 0 w2 (Yj c (Dm c m)))/\(bL listed 29=true->bL listed 32=false->AtF O 0 w2 (Yj c ((Dm c m).set 3 (F 39))))/\(bL listed 32=true->AtF O 0 w2 (Yj c (((Dm c m).set 3 (F 39)).set 4 (F 47))))))
  (hst:Stp O O' W W') (hA:∀ k P,k≠1+a->k≠100+4*m.k+a->k≠90+a->AtF O k W P->AtF O' k W' P) (hch:ChOk (Nh c m a) (bL (listed.set i true)) O' (Bd F s v) W'):JJ c m O1 w1 F0 (listed.set i true) (Bd F s v) W':=by
 obtain ⟨w2,rfl,s1,r,ch,b1,b2,b3⟩:=hO
 have hlen:=h.len
 have hil:i<listed.length:=by rw [hlen];omega
 have hbs:=I1 (listed:=listed) hil
 have same:∀ j,j≠i->bL (listed.set i true) j=bL listed j:=fun j hj=>by rw [hbs];simp [hj]
 have n29:bL listed 29=false:=by
  cases q:bL listed 29 with
  |false=>rfl
  |true=>
   obtain ⟨q1,q2,q3⟩:=h.d29 q
   rcases Eo ha with rfl|rfl|rfl
   ·rw [q1] at hnot;cases hnot
   ·rw [q2] at hnot;cases hnot
   ·rw [q3] at hnot;cases hnot
 have n32:bL listed 32=false:=by
  cases q:bL listed 32 with
  |false=>rfl
  |true=>rw [h.d32 q] at n29;cases n29
 have e29:=same 29 (by omega)
 have e32:=same 32 (by omega)
 have hsw:s∈wrS:=by
  rcases Eo ha with rfl|rfl|rfl<;>rcases hs with rfl|rfl|rfl|rfl<;>decide
 refine ⟨by simp [hlen],⟨O',s1.trans hst,fun k hk=>hA k _ ?_ ?_ ?_ (r k hk),fun a' ha'=>?_,fun e=>hA 0 _ (by omega) (by omega) (by omega) (b1 n29),fun e=>?_,fun e=>?_⟩,fun e=>?_,fun e=>?_,fun t ht=>?_,fun e=>?_,fun e=>?_,fun e=>?_,fun e=>?_⟩
 ·intro e;apply hk;subst e;rcases Eo ha with rfl|rfl|rfl<;>simp [Sc]
 ·intro e;apply hk;subst e;rcases Eo ha with rfl|rfl|rfl<;>simp [Sc]
 ·intro e;apply hk;subst e;rcases Eo ha with rfl|rfl|rfl<;>simp [Sc]
 ·by_cases haa:a'=a
  ·subst haa;exact hch
  ·refine (ch a' ha').fr (fun j hj=>same j (by simp only [Nh] at hj;omega)) (fun t ht=>Gj F v (by simp only [Nh] at ht;omega)) fun k P hk=>hA k P (by simp only [Nh] at hk;omega) (by simp only [Nh] at hk;omega) (by simp only [Nh] at hk;omega)
 ·rw [e29,n29] at e;cases e
 ·rw [e32,n32] at e;cases e
 ·rw [e29,n29] at e;cases e
 ·rw [e32,n32] at e;cases e
 ·rw [Gj F v (fun e=>ht (by rw [e];exact hsw))];exact h.fix t ht
 ·rw [Gj F v (by omega)];exact h.q27 (by rw [<- same 27 (by omega)];exact e)
 ·rw [Gj F v (by omega)];exact h.q28 (by rw [<- same 28 (by omega)];exact e)
 ·rw [Gj F v (by omega)];exact h.q30 (by rw [<- same 30 (by omega)];exact e)
 ·rw [Gj F v (by omega)];exact h.q31 (by rw [<- same 31 (by omega)];exact e)
theorem Ar7 {n:Nat}{o:Oper}{K:Fm->World->Prop}{t:TypeId}{x:Operand}{v:Value}{cs:List Value}(hop:o.op=.box t x)(hx:ev F x=v)(hv:v.cells=cs.toArray){d:Nat}(hd:o.dst=some d)(hn:Nat.blt d n=true)
  (k:∀ g w1,New W w1 g cs t->K (Bd F d (.pointer (some ⟨g,0,none⟩))) w1):wb Tryz.prog n o F W K:=by
 refine N6 hd hn ?_ (k _ _ (Ce W cs t))
 simp [execOp,hop,Instr.box,newVar,newRow,newObj,Sem.run,hx,hv]
section
variable {a:Nat}{o:Oper}{rb:List Nat}{wr:World}
theorem JJ.ap_no (h:JJ c m O1 w1 F0 listed F W)(ha:a<3)(hno:bL listed (6+8*a)=false\/bL listed (8+8*a)=false\/bL listed (9+8*a)=false\/bL listed (10+8*a)=false):bL listed (10+8*a)=false:=by
 obtain ⟨O,s,r,ch,_⟩:=h.ex
 have hc:=ch a ha
 cases q:bL listed (10+8*a) with
 |false=>rfl
 |true=>
  have q1:=hc.al q
  have q2:=hc.asb q
  have q3:=hc.sb q2
  simp only [Nh] at q1 q2 q3
  rcases hno with e|e|e|e
  ·rw [e] at q1;cases q1
  ·rw [e] at q3;cases q3
  ·rw [e] at q2;cases q2
  ·rw [e] at q;cases q
theorem JJ.no29 (h:JJ c m O1 w1 F0 listed F W)(ha:a<3)(hno:bL listed (10+8*a)=false):bL listed 29=false:=by
 cases q:bL listed 29 with
 |false=>rfl
 |true=>
  obtain ⟨q1,q2,q3⟩:=h.d29 q
  rcases Eo ha with rfl|rfl|rfl
  ·rw [q1] at hno;cases hno
  ·rw [q2] at hno;cases hno
  ·rw [q3] at hno;cases hno
theorem Ag9 (c:Cx)(m:Mem)(ha:a<3):(Dm c m).toArray[3+a]?=some (vsM m a):=by
 rcases Eo ha with rfl|rfl|rfl<;>rfl
theorem JJ.wload (h:JJ c m O1 w1 F0 listed F W)(hC:Kr wr rb W)(ha:a<3)(hno:bL listed (6+8*a)=false)(hop:o.op=.load 114 (.tmp (34+8*a)))(hd:o.dst=some (35+8*a))(hF:F0 (34+8*a)=.pointer (some ⟨c.gx,3+a,none⟩)) :
  wb Tryz.prog 200 o F W fun F2 w2=>Kr wr rb w2/\∀ W',Below w2.heap.size w2 W'->Kr wr rb W'->JJ c m O1 w1 F0 (listed.set (6+8*a) true) F2 W':=by
 have n10:=h.ap_no ha (.inl hno)
 have n29:=h.no29 ha n10
 obtain ⟨O,s,r,ch,b1,b2,b3⟩:=h.ex
 obtain ⟨f0,⟨_,hbx⟩,_⟩:=(b1 n29).now
 refine Bhx Aa hop (a:=⟨c.gx,3+a,none⟩) ((h.fix (34+8*a) (by rcases Eo ha with rfl|rfl|rfl<;>decide)).trans hF) (by rfl) hd (by rcases Eo ha with rfl|rfl|rfl<;>rfl) (v:=vsM m a) (Au hbx (Ag9 c m ha)) ⟨hC,fun W' hB _=>JJ.up (W:=W) ?_ hB⟩
 refine h.other ha (.inl rfl) (.inl rfl) (by omega) n10 ⟨W,rfl,s,r,ch,b1,b2,b3⟩ (Stp.refl O W) (fun _ _ _ _ _ x=>x) ?_
 exact (ch a ha).load (by simp only [Nh];omega) (by simp only [Nh];omega) (fun i=>by rw [I1 (by rw [h.len];omega)];rfl) rfl
theorem JJ.wbox (h:JJ c m O1 w1 F0 listed F W)(hC:Kr wr rb W)(hbase:c.base<=W.heap.size)(ha:a<3)(hno:bL listed (8+8*a)=false)(hop:o.op=.box 120 (.tmp (36+8*a)))(hd:o.dst=some (37+8*a))(hF:F0 (36+8*a)=.agg #[.slice none 0 0]) :
  wb Tryz.prog 200 o F W fun F2 w2=>Kr wr rb w2/\∀ W',Below w2.heap.size w2 W'->Kr wr rb W'->JJ c m O1 w1 F0 (listed.set (8+8*a) true) F2 W':=by
 have n10:=h.ap_no ha (.inr (.inl hno))
 obtain ⟨O,s,r,ch,b1,b2,b3⟩:=h.ex
 refine Ar7 hop ((h.fix (36+8*a) (by rcases Eo ha with rfl|rfl|rfl<;>decide)).trans hF) (cs:=[.slice none 0 0]) rfl hd (by rcases Eo ha with rfl|rfl|rfl<;>rfl) ?_
 intro g w2 hn
 refine ⟨hC.up hn.below,fun W' hB _=>JJ.up (W:=w2) ?_ hB⟩
 refine h.other ha (.inr (.inl rfl)) (.inr (.inl rfl)) (by omega) n10 ⟨W,rfl,s,r,ch,b1,b2,b3⟩ (Stp.up hn.below (100+4*m.k+a)) (fun _ _ _ _ _ x=>x.up hn.below _) ?_
 exact (ch a ha).box hn (by simpa [Nh] using hbase) hno (by simp only [Nh];omega) (by simp only [Nh];omega) (fun i=>by rw [I1 (by rw [h.len];omega)];rfl) rfl
theorem JJ.wone (h:JJ c m O1 w1 F0 listed F W)(hC:Kr wr rb W)(ha:a<3)(hno:bL listed (9+8*a)=false)(hyes:bL listed (8+8*a)=true)(hop:o.op=.buildSlice 114 1 #[(0,.tmp (37+8*a))])(hd:o.dst=some (38+8*a)) :
  wb Tryz.prog 200 o F W fun F2 w2=>Kr wr rb w2/\∀ W',Below w2.heap.size w2 W'->Kr wr rb W'->JJ c m O1 w1 F0 (listed.set (9+8*a) true) F2 W':=by
 have n10:=h.ap_no ha (.inr (.inr (.inl hno)))
 obtain ⟨O,s,r,ch,b1,b2,b3⟩:=h.ex
 obtain ⟨gs,hgs,_⟩:=(ch a ha).x hyes
 have hgs':F (37+8*a)=C5 gs:=hgs
 refine Hh (Gf Aa 117 1 hop (by rfl) rfl rfl rfl rfl (cs:=[C5 gs]) ?_ hd (by rcases Eo ha with rfl|rfl|rfl<;>rfl) ?_)
 ·show Yn F _ [(0,.tmp (37+8*a))] _=_
  unfold Yn
  rw [show ev F (.tmp (37+8*a))=C5 gs from hgs']
  rfl
 intro g w2 hn
 refine ⟨hC.up hn.below,fun W' hB _=>JJ.up (W:=w2) ?_ hB⟩
 refine h.other ha (.inr (.inr (.inl rfl))) (.inr (.inr (.inl rfl))) (by omega) n10 ⟨W,rfl,s,r,ch,b1,b2,b3⟩ (Stp.up hn.below (90+a)) (fun _ _ _ _ _ x=>x.up hn.below _) ?_
 exact (ch a ha).one hgs hn hyes hno (by simp only [Nh];omega) (by simp only [Nh];omega) (fun i=>by rw [I1 (by rw [h.len];omega)];rfl) rfl
theorem JJ.wapp (h:JJ c m O1 w1 F0 listed F W)(hC:Kr wr rb W)(hbase:c.base<=W.heap.size)(ha:a<3)(hno:bL listed (10+8*a)=false)(hy1:bL listed (6+8*a)=true)(hy2:bL listed (9+8*a)=true)
  (hV:∀ x∈(vsM m a).ownBlock.toList,O1 x=1+a/\x<w1.heap.size) (hrb:∀ x∈(vsM m a).ownBlock.toList,x∈rb) (hk:m.k<=16384)
  (hop:o.op=.call { callee:=.builtin .append,args:=#[.tmp (35+8*a),.tmp (38+8*a)],argTypes:=#[114,114] }) (hd:o.dst=some (39+8*a)) :
  wb Tryz.prog 200 o F W fun F2 w2=>Kr wr rb w2/\∀ W',Below w2.heap.size w2 W'->Kr wr rb W'->JJ c m O1 w1 F0 (listed.set (10+8*a) true) F2 W':=by
 obtain ⟨O,s,r,ch,b1,b2,b3⟩:=h.ex
 have hc:=ch a ha
 obtain ⟨gs,hgs,_,hx,_⟩:=hc.x (hc.sb hy2)
 obtain ⟨hh,hss,htm⟩:=hx hy2 hno
 obtain ⟨ft,⟨_,hbt⟩,_⟩:=htm.now
 obtain ⟨fr,⟨_,hrow⟩,_⟩:=(hc.r hno).now
 have hl:F (35+8*a)=vsM m a:=hc.l hy1
 have hs':F (38+8*a)=.slice (some ⟨hh,0,none⟩) 1 1:=hss
 have hrow:W.ownsRow c.base 117 1 (vsM m a) m.k (K1 m.k (gsM m a)):=hrow
 refine Hh (Qm Aa 117 1 8 hrow (news:=[C5 gs]) hbt hop rfl rfl rfl hl hs' (by rfl) rfl hd (by rcases Eo ha with rfl|rfl|rfl<;>rfl) rfl (by simp [C5,Value.oneCell']) (by omega) (by omega) hbase ?_)
 intro A cap w2 hown hg hob
 have hkept:Kept (vsM m a).ownBlock.toList W w2:=Kept.grown (Kept.refl _ _) hg fun g e=>.inl (by rw [e];simp)
 refine ⟨hC.trans hkept fun x hx=>.inl (hrb x hx),fun W' hB _=>JJ.up (W:=w2) ?_ hB⟩
 have hO:∀ x∈(vsM m a).ownBlock.toList,O x=1+a/\x<W.heap.size:=fun x hx=>⟨(s.own x (hV x hx).2).trans (hV x hx).1,Nat.lt_of_lt_of_le (hV x hx).2 s.size⟩
 refine h.other ha (.inr (.inr (.inr rfl))) (.inr (.inr (.inr rfl))) (fun _=>rfl) hno ⟨W,rfl,s,r,ch,b1,b2,b3⟩ (Stp.kept hkept (k:=1+a) (fun x hx _=>(hO x hx).1) (.inl (by omega)) (1+a)) (fun k P n1 _ _ x=>x.keep (fun _=>A6) hkept.size fun y hy ho=>hkept.block y hy fun hm=>n1 (by rw [<- ho];exact (hO y hm).1)) ?_
 exact hc.app hgs hown hg hob hO (by simp only [Nh];omega) hy2 hno (by simp only [Nh];omega) (by simp only [Nh];omega) hy1 (fun i=>by rw [I1 (by rw [h.len];omega)];rfl) rfl
theorem JJ.note (h:JJ c m O1 w1 F0 listed F W){i s:Nat}{v:Value}(hi:i=27/\s=56/\v=C5 c.gx\/i=28/\s=57/\v=.pointer (some ⟨c.gx,3,none⟩)\/i=30/\s=58/\v=C5 c.gx\/i=31/\s=59/\v=.pointer (some ⟨c.gx,4,none⟩)):JJ c m O1 w1 F0 (listed.set i true) (Bd F s v) W:=by
 have hlen:=h.len
 have hb:=I1 (listed:=listed) (j:=i) (by omega)
 have same:∀ j,j≠i->bL (listed.set i true) j=bL listed j:=fun j hj=>by rw [hb];simp [hj]
 have hs:s∈wrS:=by rcases hi with ⟨_,rfl,_⟩|⟨_,rfl,_⟩|⟨_,rfl,_⟩|⟨_,rfl,_⟩<;>decide
 have hF:∀ t,t<56->Bd F s v t=F t:=fun t ht=>Gj F v (by omega)
 have s29:=same 29 (by omega)
 have s32:=same 32 (by omega)
 have s10:=same 10 (by omega)
 have s18:=same 18 (by omega)
 have s26:=same 26 (by omega)
 obtain ⟨O,st,r,ch,b1,b2,b3⟩:=h.ex
 refine ⟨by simp [hlen],⟨O,st,r,fun a ha=>(ch a ha).fr (fun j hj=>same j (by simp only [Nh] at hj;omega)) (fun t ht=>hF t (by simp only [Nh] at ht;omega)) fun _ _ _ x=>x,fun e=>b1 (by rw [<- s29];exact e),fun e e2=>?_,fun e=>?_⟩,fun e=>?_,fun e=>?_,fun t ht=>?_,fun e=>?_,fun e=>?_,fun e=>?_,fun e=>?_⟩
 ·rw [hF 39 (by omega)];exact b2 (by rw [<- s29];exact e) (by rw [<- s32];exact e2)
 ·rw [hF 39 (by omega),hF 47 (by omega)];exact b3 (by rw [<- s32];exact e)
 ·rw [s10,s18,s26];exact h.d29 (by rw [<- s29];exact e)
 ·rw [s29];exact h.d32 (by rw [<- s32];exact e)
 ·rw [Gj F v (fun e=>ht (by rw [e];exact hs))];exact h.fix t ht
 ·by_cases q:i=27
  ·have:s=56/\v=C5 c.gx:=by rcases hi with ⟨_,a⟩|⟨q2,_⟩|⟨q2,_⟩|⟨q2,_⟩<;>first|exact a|omega
   rw [this.1,this.2,Q7]
  ·rw [Gj F v (by omega)];exact h.q27 (by rw [<- same 27 (fun e=>q e.symm)];exact e)
 ·by_cases q:i=28
  ·have:s=57/\v=.pointer (some ⟨c.gx,3,none⟩):=by rcases hi with ⟨q2,_⟩|⟨_,a⟩|⟨q2,_⟩|⟨q2,_⟩<;>first|exact a|omega
   rw [this.1,this.2,Q7]
  ·rw [Gj F v (by omega)];exact h.q28 (by rw [<- same 28 (fun e=>q e.symm)];exact e)
 ·by_cases q:i=30
  ·have:s=58/\v=C5 c.gx:=by rcases hi with ⟨q2,_⟩|⟨q2,_⟩|⟨_,a⟩|⟨q2,_⟩<;>first|exact a|omega
   rw [this.1,this.2,Q7]
  ·rw [Gj F v (by omega)];exact h.q30 (by rw [<- same 30 (fun e=>q e.symm)];exact e)
 ·by_cases q:i=31
  ·have:s=59/\v=.pointer (some ⟨c.gx,4,none⟩):=by rcases hi with ⟨q2,_⟩|⟨q2,_⟩|⟨q2,_⟩|⟨_,a⟩<;>first|exact a|omega
   rw [this.1,this.2,Q7]
  ·rw [Gj F v (by omega)];exact h.q31 (by rw [<- same 31 (fun e=>q e.symm)];exact e)
theorem JJ.wnote (h:JJ c m O1 w1 F0 listed F W)(hC:Kr wr rb W){i s:Nat}{v:Value}(hi:i=27/\s=56/\v=C5 c.gx\/i=28/\s=57/\v=.pointer (some ⟨c.gx,3,none⟩)\/i=30/\s=58/\v=C5 c.gx\/i=31/\s=59/\v=.pointer (some ⟨c.gx,4,none⟩))(hd:o.dst=some s)(hp:Ca tab o.op F=some v) :
  wb Tryz.prog 200 o F W fun F2 w2=>Kr wr rb w2/\∀ W',Below w2.heap.size w2 W'->Kr wr rb W'->JJ c m O1 w1 F0 (listed.set i true) F2 W':=
 Uq Aa hp hd (by rcases hi with ⟨_,rfl,_⟩|⟨_,rfl,_⟩|⟨_,rfl,_⟩|⟨_,rfl,_⟩<;>rfl) ⟨hC,fun W' hB _=>JJ.up (h.note hi) hB⟩
theorem AtF.put {O:Nat->Nat}{P:List Nat->World->Prop}{k k0 g:Nat}{cs:List Value}{t:TypeId}(h:AtF O k W P)(hp:Put W W' g cs t)(hO:O g=k0)(hne:k≠k0):AtF (Cp O W.heap.size k0) k W' P:=
 h.keep (fun _=>A6) hp.grown.size fun b hb ho=>hp.grown.block b hb fun e=>hne (by rw [<- ho,<- hO];congr 1;simpa using e)
theorem JJ.w29 (h:JJ c m O1 w1 F0 listed F W)(hC:Kr wr rb W)(hrb:c.gx∈rb)(hno:bL listed 29=false)(hy:bL listed 28=true/\bL listed 10=true/\bL listed 18=true/\bL listed 26=true)(hop:o.op=.store 114 (.tmp 57) (.tmp 39))(hd:o.dst=none) :
  wb Tryz.prog 200 o F W fun F2 w2=>Kr wr rb w2/\∀ W',Below w2.heap.size w2 W'->Kr wr rb W'->JJ c m O1 w1 F0 (listed.set 29 true) F2 W':=by
 have hlen:=h.len
 have hb:=I1 (listed:=listed) (j:=29) (by omega)
 have same:∀ j,j≠29->bL (listed.set 29 true) j=bL listed j:=fun j hj=>by rw [hb];simp [hj]
 obtain ⟨O,st,r,ch,b1,b2,b3⟩:=h.ex
 obtain ⟨f0,⟨hf0,hbx⟩,hO⟩:=(b1 hno).now
 subst hf0
 have hO0:=(hO _ (List.mem_singleton.2 rfl)).1
 have hc:=ch 0 (by omega)
 obtain ⟨gs,_,_,_,hx⟩:=hc.x (hc.sb (hc.asb hy.2.1))
 obtain ⟨A,cp,hA,_⟩:=hx hy.2.1
 have hA:F 39=.slice A (m.k+1) cp:=hA
 have n32:bL listed 32=false:=by
  cases q:bL listed 32 with
  |false=>rfl
  |true=>rw [h.d32 q] at hno;cases hno
 refine Apk (off:=3) (v:=F 39) Aa hbx hop (h.q28 hy.1) rfl rfl rfl (by rw [hA];rfl) (by simp [Dm]) hd ?_
 intro w2 hp
 refine ⟨hC.put hp (.inl hrb),fun W' hB _=>JJ.up (W:=w2) ?_ hB⟩
 have s32:=same 32 (by omega)
 refine ⟨by simp [hlen],⟨Cp O W.heap.size 0,st.trans (Stp.kept (rb:=[c.gx]) (Kept.put (Kept.refl _ _) hp (.inl (by simp))) (k:=0) (by simpa using fun _=>hO0) (.inl (by omega)) 0),fun k hk=>(r k hk).put hp hO0 (fun e=>hk (by rw [e];simp [Sc])),fun a ha=>(ch a ha).fr (fun j hj=>same j (by simp only [Nh] at hj;omega)) (fun _ _=>rfl) fun k P hk x=>x.put hp hO0 (by simp only [Nh] at hk;omega),fun e=>?_,fun _ _=>?_,fun e=>?_⟩,fun _=>?_,fun e=>?_,h.fix,fun e=>h.q27 (by rw [<- same 27 (by omega)];exact e),fun e=>h.q28 (by rw [<- same 28 (by omega)];exact e),fun e=>h.q30 (by rw [<- same 30 (by omega)];exact e),fun e=>h.q31 (by rw [<- same 31 (by omega)];exact e)⟩
 ·rw [hb] at e;simp at e
 ·exact ⟨[c.gx],by simpa using ⟨(A6 (Ae hbx)).trans hO0,Ae hp.blk⟩,fun w' hw'=>⟨rfl,(hw' _ (by simp)).trans hp.blk⟩⟩
 ·rw [s32,n32] at e;cases e
 ·rw [same 10 (by omega),same 18 (by omega),same 26 (by omega)];exact hy.2
 ·rw [s32,n32] at e;cases e
theorem JJ.w32 (h:JJ c m O1 w1 F0 listed F W)(hC:Kr wr rb W)(hrb:c.gx∈rb)(hno:bL listed 32=false)(hy:bL listed 31=true/\bL listed 29=true)(hop:o.op=.store 114 (.tmp 59) (.tmp 47))(hd:o.dst=none) :
  wb Tryz.prog 200 o F W fun F2 w2=>Kr wr rb w2/\∀ W',Below w2.heap.size w2 W'->Kr wr rb W'->JJ c m O1 w1 F0 (listed.set 32 true) F2 W':=by
 have hlen:=h.len
 have hb:=I1 (listed:=listed) (j:=32) (by omega)
 have same:∀ j,j≠32->bL (listed.set 32 true) j=bL listed j:=fun j hj=>by rw [hb];simp [hj]
 have hd29:=h.d29 hy.2
 obtain ⟨O,st,r,ch,b1,b2,b3⟩:=h.ex
 obtain ⟨f0,⟨hf0,hbx⟩,hO⟩:=(b2 hy.2 hno).now
 subst hf0
 have hO0:=(hO _ (List.mem_singleton.2 rfl)).1
 have hc:=ch 1 (by omega)
 obtain ⟨gs,_,_,_,hx⟩:=hc.x (hc.sb (hc.asb hd29.2.1))
 obtain ⟨A,cp,hA,_⟩:=hx hd29.2.1
 have hA:F 47=.slice A (m.k+1) cp:=hA
 refine Apk (off:=4) (v:=F 47) Aa hbx hop (h.q31 hy.1) rfl rfl rfl (by rw [hA];rfl) (by simp [Dm]) hd ?_
 intro w2 hp
 refine ⟨hC.put hp (.inl hrb),fun W' hB _=>JJ.up (W:=w2) ?_ hB⟩
 have s29:=same 29 (by omega)
 refine ⟨by simp [hlen],⟨Cp O W.heap.size 0,st.trans (Stp.kept (rb:=[c.gx]) (Kept.put (Kept.refl _ _) hp (.inl (by simp))) (k:=0) (by simpa using fun _=>hO0) (.inl (by omega)) 0),fun k hk=>(r k hk).put hp hO0 (fun e=>hk (by rw [e];simp [Sc])),fun a ha=>(ch a ha).fr (fun j hj=>same j (by simp only [Nh] at hj;omega)) (fun _ _=>rfl) fun k P hk x=>x.put hp hO0 (by simp only [Nh] at hk;omega),fun e=>?_,fun _ e=>?_,fun _=>?_⟩,fun _=>?_,fun e=>?_,h.fix,fun e=>h.q27 (by rw [<- same 27 (by omega)];exact e),fun e=>h.q28 (by rw [<- same 28 (by omega)];exact e),fun e=>h.q30 (by rw [<- same 30 (by omega)];exact e),fun e=>h.q31 (by rw [<- same 31 (by omega)];exact e)⟩
 ·rw [s29,hy.2] at e;cases e
 ·rw [hb] at e;simp at e
 ·exact ⟨[c.gx],by simpa using ⟨(A6 (Ae hbx)).trans hO0,Ae hp.blk⟩,fun w' hw'=>⟨rfl,(hw' _ (by simp)).trans hp.blk⟩⟩
 ·rw [same 10 (by omega),same 18 (by omega),same 26 (by omega)];exact hd29
 ·rw [s29];exact hy.2
theorem JJ.fin (h:JJ c m O1 w1 F0 (Qx 33 36) F W)(hbi:m.bi=fun _=>[])(hbd:m.bd=fun _=>[])(hbt:m.bt=fun _=>[]):W.heap[c.gx]?=some (.cells (((Dm c m).set 3 (F 39)).set 4 (F 47)).toArray 116 (0,0))/\(∃ A cp,F 55=.slice A (m.k+1) cp)/\(∀ t,t∉wrS->F t=F0 t) /\
  ∀ W2,Put W W2 c.gx ((((Dm c m).set 3 (F 39)).set 4 (F 47)).set 5 (F 55)) 116->∃ O' m',All O' W2 (Hx c m')/\Stp O1 O' w1 W2/\m'={ m with k:=m.k+1,gi:=m'.gi,gd:=m'.gd,gt:=m'.gt,Vi:=F 39,Vd:=F 47,Vt:=F 55 }:=by
 have hf:∀ i,i<33->bL (Qx 33 36) i=true:=by decide
 obtain ⟨O,st,r,ch,b1,b2,b3⟩:=h.ex
 obtain ⟨f0,⟨hf0,hbx⟩,hO⟩:=(b3 (hf 32 (by omega))).now
 subst hf0
 have hO0:=(hO _ (List.mem_singleton.2 rfl)).1
 obtain ⟨g1,_,p1,_,x1⟩:=(ch 0 (by omega)).x (hf 8 (by omega))
 obtain ⟨g2,_,p2,_,x2⟩:=(ch 1 (by omega)).x (hf 16 (by omega))
 obtain ⟨g3,_,p3,_,x3⟩:=(ch 2 (by omega)).x (hf 24 (by omega))
 obtain ⟨A1,c1,y1,z1⟩:=x1 (hf 10 (by omega))
 obtain ⟨A2,c2,y2,z2⟩:=x2 (hf 18 (by omega))
 obtain ⟨A3,c3,y3,z3⟩:=x3 (hf 26 (by omega))
 have y1:F 39=.slice A1 (m.k+1) c1:=y1
 have y2:F 47=.slice A2 (m.k+1) c2:=y2
 have y3:F 55=.slice A3 (m.k+1) c3:=y3
 refine ⟨hbx,⟨A3,c3,y3⟩,h.fix,fun W2 hp=>⟨Cp O W.heap.size 0,{ m with k:=m.k+1,gi:=Bp m.gi m.k g1,gd:=Bp m.gd m.k g2,gt:=Bp m.gt m.k g3,Vi:=F 39,Vd:=F 47,Vt:=F 55 },fun k=>?_,st.trans (Stp.kept (rb:=[c.gx]) (Kept.put (Kept.refl _ _) hp (.inl (by simp))) (k:=0) (by simpa using fun _=>hO0) (.inl (by omega)) 0),rfl⟩⟩
 have up:∀ k P,k≠0->AtF O k W P->AtF (Cp O W.heap.size 0) k W2 P:=fun k P hk x=>x.put hp hO0 hk
 by_cases k0:k=0
 ·subst k0
  exact ⟨[c.gx],by simpa using ⟨(A6 (Ae hbx)).trans hO0,Ae hp.blk⟩,fun w' hw'=>⟨rfl,(hw' _ (by simp)).trans hp.blk⟩⟩
 by_cases k1:k=1
 ·subst k1;refine (up 1 _ (by omega) z1).imp fun fp w' hh=>?_
  show rowP c.base (m.k+1) (F 39) (Bp m.gi m.k g1) fp w'
  rw [y1];exact hh
 by_cases k2:k=2
 ·subst k2;refine (up 2 _ (by omega) z2).imp fun fp w' hh=>?_
  show rowP c.base (m.k+1) (F 47) (Bp m.gd m.k g2) fp w'
  rw [y2];exact hh
 by_cases k3:k=3
 ·subst k3;refine (up 3 _ (by omega) z3).imp fun fp w' hh=>?_
  show rowP c.base (m.k+1) (F 55) (Bp m.gt m.k g3) fp w'
  rw [y3];exact hh
 by_cases s1:k=100+4*m.k
 ·subst s1
  rw [show 100+4*m.k=100+4*m.k+0 from rfl,E4 m.k 0 (by omega)]
  refine (up (100+4*m.k) _ (by omega) p1).imp fun fp w' hh=>⟨fun _ _=>?_,fun e=>absurd e (by omega),fun e=>absurd e (by omega),fun e=>absurd e (by omega)⟩
  show PSet c.base (Bp m.gi m.k g1 m.k) w' (m.bi m.k) fp
  rw [E6,hbi];exact hh
 by_cases s2:k=100+4*m.k+1
 ·subst s2
  rw [E4 m.k 1 (by omega)]
  refine (up (100+4*m.k+1) _ (by omega) p2).imp fun fp w' hh=>⟨fun e=>absurd e (by omega),fun _ _=>?_,fun e=>absurd e (by omega),fun e=>absurd e (by omega)⟩
  show PSet c.base (Bp m.gd m.k g2 m.k) w' (m.bd m.k) fp
  rw [E6,hbd];exact hh
 by_cases s3:k=100+4*m.k+2
 ·subst s3
  rw [E4 m.k 2 (by omega)]
  refine (up (100+4*m.k+2) _ (by omega) p3).imp fun fp w' hh=>⟨fun e=>absurd e (by omega),fun e=>absurd e (by omega),fun _ _=>?_,fun e=>absurd e (by omega)⟩
  show PSet c.base (Bp m.gt m.k g3 m.k) w' (m.bt m.k) fp
  rw [E6,hbt];exact hh
 by_cases tk:k=90\/k=91\/k=92
 ·rw [Xz (by omega) (by omega)];exact AtF.tr
 refine (up k _ k0 (r k ?_)).imp fun fp w' hh=>?_
 ·simp only [Sc,List.mem_cons,List.not_mem_nil,or_false];omega
 match k with
 |4=>exact hh
 |5=>exact hh
 |6=>exact hh
 |j+7=>
  intro hj
  have hh:J9 c m ((j - 93)/4) ((j - 93)%4) fp w':=hh hj
  refine ⟨fun e hv=>?_,fun e hv=>?_,fun e hv=>?_,hh.2.2.2⟩
  ·have hne:(j - 93)/4≠m.k:=by omega
   have hv:(j - 93)/4<m.k:=by have:(j - 93)/4<m.k+1:=hv;omega
   show PSet c.base (Bp m.gi m.k g1 _) w' (m.bi _) fp
   rw [Ga _ _ hne];exact hh.1 e hv
  ·have hne:(j - 93)/4≠m.k:=by omega
   have hv:(j - 93)/4<m.k:=by have:(j - 93)/4<m.k+1:=hv;omega
   show PSet c.base (Bp m.gd m.k g2 _) w' (m.bd _) fp
   rw [Ga _ _ hne];exact hh.2.1 e hv
  ·have hne:(j - 93)/4≠m.k:=by omega
   have hv:(j - 93)/4<m.k:=by have:(j - 93)/4<m.k+1:=hv;omega
   show PSet c.base (Bp m.gt m.k g3 _) w' (m.bt _) fp
   rw [Ga _ _ hne];exact hh.2.2.1 e hv
theorem JJ.start {O:Nat->Nat}{w:World}{F:Fm}{L:List Bool}(h:All O w (Hx c m))(hl:L.length=36)(hb:∀ i∈[6,8,9,10,14,16,17,18,22,24,25,26,27,28,29,30,31,32],bL L i=false):JJ c m O w F L F w:=by
 have no:∀ {p:Prop} i,i∈[6,8,9,10,14,16,17,18,22,24,25,26,27,28,29,30,31,32]->bL L i=true->p:=fun i hi e=>by rw [hb i hi] at e;cases e
 refine ⟨hl,⟨O,Stp.refl _ _,fun k _=>h k,fun a ha=>?_,fun _=>h 0,no 29 (by decide),no 32 (by decide)⟩,no 29 (by decide),no 32 (by decide),fun _ _=>rfl,no 27 (by decide),no 28 (by decide),no 30 (by decide),no 31 (by decide)⟩
 rcases Eo ha with rfl|rfl|rfl
 ·exact ⟨no 6 (by decide),fun _=>h 1,no 8 (by decide),no 9 (by decide),no 10 (by decide),no 10 (by decide)⟩
 ·exact ⟨no 14 (by decide),fun _=>h 2,no 16 (by decide),no 17 (by decide),no 18 (by decide),no 18 (by decide)⟩
 ·exact ⟨no 22 (by decide),fun _=>h 3,no 24 (by decide),no 25 (by decide),no 26 (by decide),no 26 (by decide)⟩
end
end
def Abk (wk:List Nat)(v:Nat):List Nat:=if v∈wk then wk else wk++[v]
theorem M6:∀ {n:Nat} {l:List Nat},l.Nodup->(∀ v∈l,v<n)->l.length<=n
 |0,l,_,h=>by cases l with|nil=>simp|cons a l=>have:=h a (by simp);omega
 |n+1,l,hn,h=>by
  have h1:=M6 (n:=n) (l:=l.erase n) (hn.erase n) fun v hv=>by
   have h2:=h v (List.mem_of_mem_erase hv)
   have:v≠n:=fun e=>by subst e;exact (List.Nodup.not_mem_erase hn) hv
   omega
  by_cases hm:n∈l
  ·rw [List.length_erase_of_mem hm] at h1;omega
  ·rw [List.erase_of_not_mem hm] at h1;omega
theorem Ao6 {c:Cx}{O:Nat->Nat}{w:World}{m:Mem}(h:SV c O w m)(v:Nat)(hv:v<c.n) :
  Calls Tryz.prog 40 #[.pointer (some ⟨c.gx,0,none⟩),.int .i64 (v:Int)] w fun e w'=>e=.returned (.tuple #[])/\∃ O' V',SV c O' w' { m with wk:=Abk m.wk v,Vw:=V' }/\Stp O O' w w':=by
 obtain ⟨hb,hbO⟩:=h.box
 obtain ⟨hon,honO⟩:=h.onB
 obtain ⟨fq,hq,hqO⟩:=h.queue
 obtain ⟨A,cap,hVw,_⟩:=hq.form
 obtain ⟨row,hrow⟩:=hq.one
 have hl:=M6 h.nd h.wl
 have hn:=h.hn
 have hbs:=h.sz
 have hqlt:=hq.lt
 have hcell:w.cell? ((⟨m.go,0,none⟩:Addr).add (v*1))=some (.bool (decide (v∈m.wk))):=by
  rw [Nat.mul_one,add_zero]
  exact Au hon (by simpa using Akq (wk:=m.wk) hv)
 have hgo:c.gx≠m.go:=fun e=>by rw [e,honO] at hbO;cases hbO
 have hb':=hb
 unfold Dm at hb'
 rw [hVw] at hb' hq
 refine A9 (args:=[.pointer (some ⟨c.gx,0,none⟩),.int .i64 (v:Int)]) Aa Tryz.func40 rfl Tryz.ntmps40 rfl ?_;conv=>whnf
 (repeat' ((first|refine Aj Aa hb' rfl rfl rfl rfl rfl rfl rfl (Ab Aa ?_)|refine Az Aa rfl rfl rfl rfl rfl rfl hcell (Ab Aa ?_)|refine Al Aa 4 1 rfl rfl rfl rfl rfl rfl rfl (by omega) (Ab Aa ?_)|refine Bd3 (fun hg=>?_) (fun hg=>?_)|fail)<;>conv=>whnf))
 rotate_left
 ·refine Hr rfl ⟨rfl,O,m.Vw,?_,Stp.refl _ _⟩
  have e:Abk m.wk v=m.wk:=if_pos (by assumption)
  rw [e]
  exact h
 have hm:¬ v∈m.wk:=by assumption
 have hgq:c.gx∉fq:=fun hm=>by have:=hqO _ hm;rw [hbO] at this;cases this
 have hoq:m.go∉fq:=fun hm=>by have:=hqO _ hm;rw [honO] at this;cases this
 have hbC:∀ w',Kr w (fq++[m.go]) w'->w'.heap[c.gx]?=_:=fun w' h'=>h'.blk hb' (by simp [hgq,hgo])
 refine Em [0,1,2,3,4,5,6,7,8,9,10] 4 15 (Fu _ (fq++[m.go])) Aa mixed (by kernel_rfl) (Kept.refl _ _) ?_;(conv=>whnf)
 (repeat' ((first|refine D6 Aa hbC rfl rfl rfl rfl rfl rfl rfl (Ad Aa ?_)|fail)<;>conv=>whnf))
 intro W hC hBW
 conv=>whnf
 refine And.intro ?_ True.intro
 conv=>whnf
 refine Hh (Gf Aa 3 1 rfl rfl rfl rfl rfl rfl rfl rfl rfl ?_)
 intro g1 W1 hn1
 refine ⟨hC.up hn1.below,fun W2 hB2 hC2=>?_⟩
 have hB:=Ax (Ax hBW hn1.below) hB2
 have hb1:=Ac hB2 hn1.blk
 have h2:=h.up hB 97
 clear hC hn1
 conv=>whnf
 refine And.intro ?_ True.intro
 conv=>whnf
 have hq2:=hq.keep (w1:=W2) fun b hb=>hB.block b (hqlt b hb).2
 refine Hh (Ark hq2 hb1 rfl rfl rfl rfl rfl rfl rfl rfl (by omega) h2.sz ?_)
 intro A3 cap3 W3 fp3 hq3 hk3 hf3
 refine ⟨(hC2.trans hk3 (by intro b hb;exact .inl (List.mem_append_left _ hb))),fun W4 hB4 hC4=>?_⟩
 conv=>whnf
 refine And.intro ?_ True.intro
 conv=>whnf
 refine N6 rfl rfl (Rx Aa 4 1 (i:=v) rfl rfl rfl rfl hv) ?_
 refine ⟨hC4,fun W5 hB5 hC5=>?_⟩
 conv=>whnf
 refine And.intro ?_ True.intro
 conv=>whnf
 have hB5':Below W3.heap.size W3 W5:=Ax hB4 hB5
 have hon5:W5.heap[m.go]?=some (.cells (S4 c.n m.wk).toArray 4 (0,0)):=by
  refine (hB5'.block m.go ?_).trans ((hk3.block m.go (by have:=Ae hon;have:=hB.size;omega) hoq).trans (Ac hB hon))
  have:=Ae hon;have:=hB.size;have:=hk3.size;omega
 refine Wh (v:=.bool true) Aa hon5 rfl rfl rfl rfl rfl (by simp [Value.oneCell']) (by rw [Vk];omega) rfl ?_
 intro W6 hp6
 refine ⟨hC5.put hp6 (.inl (by simp)),fun W7 hB7 hC7=>?_⟩
 conv=>whnf
 refine Dd (off:=7) Aa (hbC _ hC7) rfl rfl rfl rfl rfl rfl (by simp) rfl rfl ?_
 intro W8 hp8
 refine Ab Aa ?_
 conv=>whnf
 have hgoS:m.go<w.heap.size:=Ae hon
 have hgxS:c.gx<w.heap.size:=Ae hb
 have a0:=(AS.start h.all).up hB 97
 have a3:=a0.put (k:=5) (.inl (by omega)) hk3 (fun b hb _=>(a0.stp.own b (hqlt b hb).2).trans (hqO b hb)) (fp:=fp3) (fun b hb=>⟨fun hlt=>by
  rcases hf3 b hb with h3|h3
  ·exact (a0.stp.own b (hqlt b h3).2).trans (hqO b h3)
  ·omega,(hq3.lt b hb).2⟩) (P:=QRow c.base (.slice A3 (m.wk.length+1) cap3) (m.wk++[v])) (fun w' hw'=>hq3.keep hw')
 have a5:=a3.up hB5' 97
 have a6:=a5.putB (k:=6) (.inl (by omega)) hp6 ((a5.stp.own _ hgoS).trans honO) (P:=fun fp w=>fp=[m.go]/\w.heap[m.go]?=some (.cells (S4 c.n (m.wk++[v])).toArray 4 (0,0))) (fun w' hw'=>⟨rfl,by rw [hw',Nat.mul_one,Ahk]⟩)
 have a7:=a6.up hB7 97
 have a8:=a7.putB (k:=0) (.inl (by omega)) hp8 ((a7.stp.own _ hgxS).trans hbO) (P:=fun fp w=>fp=[c.gx]/\w.heap[c.gx]?=some (.cells (Dm c { m with wk:=m.wk++[v],Vw:=.slice A3 (m.wk.length+1) cap3 }).toArray 116 (0,0))) (fun w' hw'=>⟨rfl,hw'⟩)
 have e:Abk m.wk v=m.wk++[v]:=if_neg hm
 refine Hr rfl ⟨rfl,_,.slice A3 (m.wk.length+1) cap3,?_,a8.stp⟩
 rw [e]
 refine ⟨a8.all.imp fun j fp w' hj=>?_,a8.stp.low h.low h.sz,Nat.le_trans h.sz a8.stp.size,h.hk,?_,?_,h.hn,h.hx⟩
 ·unfold H9 at hj
  split at hj
  ·rename_i e0;subst e0;exact hj
  split at hj
  ·rename_i e0;subst e0;exact hj
  split at hj
  ·rename_i e0;subst e0;exact hj
  rename_i n0 n6 n5
  exact Jq (m:=m) j hj rfl (fun e=>absurd e n0) (fun _=>⟨rfl,rfl⟩) (fun _=>⟨rfl,rfl⟩) (fun _=>⟨rfl,rfl⟩) (fun _=>⟨rfl,rfl⟩) (fun e=>absurd e n5) (fun e=>absurd e n6) (fun _ _=>⟨rfl,rfl⟩) (fun _ _=>⟨rfl,rfl⟩) (fun _ _=>⟨rfl,rfl⟩) (fun _ _=>⟨rfl,rfl⟩)
 ·rw [List.nodup_append]
  refine ⟨h.nd,by simp,fun a ha b hb e'=>?_⟩
  simp at hb
  subst hb
  subst e'
  exact hm ha
 ·intro x hx
  rcases List.mem_append.1 hx with hx|hx
  ·exact h.wl x hx
  ·simp at hx;subst hx;exact hv
theorem Gt {bs:List Blk}(hw:WFB bs){N:Nat}(h:∀ o,Aw bs o=true->o<N):bs.length<=N:=by
 have key:∀ i,i<bs.length->(i:Int)<=bs[i]!.a:=by
  intro i
  induction i with
  |zero=>intro hi;exact (hw.rng _ (Bs hi)).1
  |succ i ih=>
   intro hi
   have h1:=ih (by omega)
   have h2:=hw.up i (i+1) (by omega) hi
   omega
 rcases Nat.eq_zero_or_pos bs.length with h0|h0
 ·omega
 ·have h1:=key (bs.length - 1) (by omega)
  have hm:=Bs (bs:=bs) (i:=bs.length - 1) (by omega)
  have hr:=hw.rng _ hm
  obtain ⟨j,hj,hb⟩:=Lh hr.2.2.1 hr.2.2.2
  have hn:=J0 bs[bs.length - 1]!.a hr.1 j hj
  have:=h (64*bs[bs.length - 1]!.a.toNat+j) (memB_iff.2 ⟨_,hm,hn.1.symm,by rw [hn.2];exact hb⟩)
  omega
structure SR (c:Cx)(O:Nat->Nat)(w:World)(m:Mem)(w':World)(R:St->St->Prop):Prop where
 ex:∃ O' m',SV c O' w' m'/\Stp O O' w w'/\R m.st m'.st/\m'.fr=m.fr/\m'.Vr=m.Vr
theorem SV.joined {c:Cx}{O O1:Nat->Nat}{w w1 w2:World}{m:Mem}{v:Nat}{bs':List Blk}{fp fp':List Nat}{rb:List Nat}(h:SV c O w1 m)(hv:v<c.n)(hk:Kept rb w1 w2)(hrb:∀ b∈rb,O b=100+4*v)
  (hP:PSet c.base (m.gi v) w2 bs' fp') (hnew:∀ b∈fp',O b=100+4*v\/w1.heap.size<=b):∃ O2,SV c O2 w2 { m with bi:=Bp m.bi v bs' }/\Stp O O2 w1 w2:=by
 have a:=(AS.start h.all).put (k:=100+4*v) (P:=J9 c { m with bi:=Bp m.bi v bs' } v 0) (.inr (by omega)) hk (fun b hb _=>hrb b hb) (fp:=fp') (fun b hb=>⟨fun hlt=>(hnew b hb).elim id (fun h3=>by omega),(hP.lt b hb).2⟩) (fun w' hw'=>by
  refine ⟨fun _ _=>?_,fun e=>absurd e (by omega),fun e=>absurd e (by omega),fun e=>absurd e (by omega)⟩
  show PSet c.base (m.gi v) w' (Bp m.bi v bs' v) fp'
  rw [E6]
  exact hP.keep hw')
 refine ⟨_,⟨a.all.imp fun j fp w' hj=>?_,a.stp.low h.low h.sz,Nat.le_trans h.sz a.stp.size,h.hk,h.nd,h.wl,h.hn,h.hx⟩,a.stp⟩
 unfold H9 at hj
 split at hj
 ·rename_i e
  subst e
  have:=E4 (c:=c) (m:={ m with bi:=Bp m.bi v bs' }) v 0 (by omega)
  rw [Nat.add_zero] at this
  rw [this]
  exact hj
 rename_i ne
 refine Jq (m:=m) j hj rfl (fun _=>rfl) (fun _=>⟨rfl,rfl⟩) (fun _=>⟨rfl,rfl⟩) (fun _=>⟨rfl,rfl⟩) (fun _=>⟨rfl,rfl⟩) (fun _=>⟨rfl,rfl⟩) (fun _=>⟨rfl,rfl⟩) (fun x e=>⟨rfl,Ga _ _ (fun e2=>ne (by subst e2;exact e))⟩) (fun _ _=>⟨rfl,rfl⟩) (fun _ _=>⟨rfl,rfl⟩) (fun _ _=>⟨rfl,rfl⟩)
theorem Aox {c:Cx}{O:Nat->Nat}{w:World}{m:Mem}(h:SV c O w m)(hd:Dom c.n c.xs.length m.st)(v:Nat)(hv:v<c.n){b2 g2:Nat}{l:List Blk}{f2:List Nat}(hQ:PSet b2 g2 w l f2)(hl:∀ o,Aw l o=true->o<c.xs.length) :
  Calls Tryz.prog 91 #[.pointer (some ⟨c.gx,0,none⟩),.int .i64 (v:Int),.pointer (some ⟨g2,0,none⟩)] w fun e w'=>e=.returned (.tuple #[])/\SR c O w m w' (FlowR v (Aw l)):=by
 obtain ⟨hb,hbO⟩:=h.box
 obtain ⟨hri,hriO⟩:=h.rowI
 obtain ⟨gr,cap,cur,hVi,_,hrb,hcell,_,_⟩:=hri.form hv
 obtain ⟨fi,hP,hPO⟩:=h.setI hv
 have hb':=hb
 unfold Dm at hb'
 rw [hVi] at hb'
 have hl1:=Gt hP.wf (fun o ho=>(hd.inn v o ho).2)
 have hl2:=Gt hQ.wf hl
 have hx:=h.hx
 have hc:=hcell v hv
 unfold C5 at hc
 refine A9 (args:=[.pointer (some ⟨c.gx,0,none⟩),.int .i64 (v:Int),.pointer (some ⟨g2,0,none⟩)]) Aa Tryz.func91 rfl Tryz.ntmps91 rfl ?_;conv=>whnf
 (repeat' ((first|refine Aj Aa hb' rfl rfl rfl rfl rfl rfl rfl (Ab Aa ?_)|refine Az Aa rfl rfl rfl rfl rfl rfl hc (Ab Aa ?_)|refine Al Aa 117 1 rfl rfl rfl rfl rfl rfl rfl (by omega) (Ab Aa ?_)|fail)<;>conv=>whnf))
 refine Bv Af0 (Ap3 hP hQ (by omega) (by omega) h.sz) rfl rfl rfl rfl rfl rfl rfl ?_
 rintro _ w1 ⟨bs',fp',hJ⟩
 rw [hJ.ret]
 refine ⟨_,rfl,Ab Aa ?_⟩
 conv=>whnf
 have hgO:O (m.gi v)=100+4*v:=hPO _ (by obtain ⟨V,_,_,e,_⟩:=hP.ex;rw [e];simp)
 obtain ⟨O2,h2,s2⟩:=h.joined (O1:=O) (w:=w) (fp:=fi) hv hJ.kept (by simpa using hgO) hJ.set (fun b hb=>(hJ.new b hb).elim (fun e=>.inl (by rw [e];exact hgO)) .inr)
 have hinn:∀ x o,Aw (Bp m.bi v bs' x) o=(Aw (m.bi x) o||(decide (x=v)&&Aw l o)):=fun x o=>by
  unfold Bp
  by_cases e:x=v
  ·subst e;rw [if_pos rfl,hJ.mem];simp
  ·rw [if_neg e];simp [e]
 have hset:Aw (Bp m.bi v bs' v)=Aw bs':=by rw [E6]
 (repeat' ((first|refine Bd3 (fun hg=>?_) (fun hg=>?_)|fail)<;>conv=>whnf))
 rotate_left
 ·have he:bs'=m.bi v:=by assumption
  refine Hr rfl ⟨rfl,⟨O2,_,h2,s2,⟨fun x o=>hinn x o,rfl,rfl,rfl,.inl ⟨rfl,.inl ?_⟩⟩,rfl,rfl⟩⟩
  funext o
  show Aw (Bp m.bi v bs' v) o=Aw (m.bi v) o
  rw [hset,he]
 ·have he:¬ bs'=m.bi v:=by assumption
  refine Bv Bbk (Ao6 h2 v hv) rfl rfl rfl rfl rfl rfl rfl ?_
  rintro _ w3 ⟨rfl,O3,V3,h3,s3⟩
  refine ⟨_,rfl,Ab Aa ?_⟩
  conv=>whnf
  refine Hr rfl ⟨rfl,⟨O3,_,h3,s2.trans s3,⟨fun x o=>hinn x o,rfl,rfl,rfl,?_⟩,rfl,rfl⟩⟩
  by_cases hm:v∈m.wk
  ·exact .inl ⟨if_pos hm,.inr hm⟩
  ·refine .inr ⟨if_neg hm,?_⟩
   apply Classical.byContradiction
   intro hno
   refine he (Ac5 hJ.set.wf hP.wf fun o=>?_)
   rw [hJ.mem]
   cases h1:Aw (m.bi v) o with
   |true=>rfl
   |false=>
    cases h4:Aw l o with
    |false=>rfl
    |true=>exact absurd ⟨o,h1,h4⟩ hno
theorem SV.toAdded {c:Cx}{O:Nat->Nat}{w1 w2:World}{m:Mem}{v:Nat}{bs':List Blk}{fp':List Nat}{rb:List Nat}(h:SV c O w1 m)(hv:v<c.n)(hk:Kept rb w1 w2)(hrb:∀ b∈rb,O b=100+4*v+2)
  (hP:PSet c.base (m.gt v) w2 bs' fp') (hnew:∀ b∈fp',O b=100+4*v+2\/w1.heap.size<=b):∃ O2,SV c O2 w2 { m with bt:=Bp m.bt v bs' }/\Stp O O2 w1 w2:=by
 have a:=(AS.start h.all).put (k:=100+4*v+2) (P:=J9 c { m with bt:=Bp m.bt v bs' } v 2) (.inr (by omega)) hk (fun b hb _=>hrb b hb) (fp:=fp') (fun b hb=>⟨fun hlt=>(hnew b hb).elim id (fun h3=>by omega),(hP.lt b hb).2⟩) (fun w' hw'=>by
  refine ⟨fun e=>absurd e (by omega),fun e=>absurd e (by omega),fun _ _=>?_,fun e=>absurd e (by omega)⟩
  show PSet c.base (m.gt v) w' (Bp m.bt v bs' v) fp'
  rw [E6]
  exact hP.keep hw')
 refine ⟨_,⟨a.all.imp fun j fp w' hj=>?_,a.stp.low h.low h.sz,Nat.le_trans h.sz a.stp.size,h.hk,h.nd,h.wl,h.hn,h.hx⟩,a.stp⟩
 unfold H9 at hj
 split at hj
 ·rename_i e
  subst e
  rw [E4 (c:=c) (m:={ m with bt:=Bp m.bt v bs' }) v 2 (by omega)]
  exact hj
 rename_i ne
 refine Jq (m:=m) j hj rfl (fun _=>rfl) (fun _=>⟨rfl,rfl⟩) (fun _=>⟨rfl,rfl⟩) (fun _=>⟨rfl,rfl⟩) (fun _=>⟨rfl,rfl⟩) (fun _=>⟨rfl,rfl⟩) (fun _=>⟨rfl,rfl⟩) (fun _ _=>⟨rfl,rfl⟩) (fun _ _=>⟨rfl,rfl⟩) (fun x e=>⟨rfl,Ga _ _ (fun e2=>ne (by subst e2;exact e))⟩) (fun _ _=>⟨rfl,rfl⟩)
structure EdgeQ (n nc:Nat)(a b:Int)(s t:St):Prop where
 grow:Grow n nc s t
 dom:Dom n nc t
 there:edgeE t a b
 sound:∀ S,Sound S s->(0<=a->0<=b->∀ N,Do S N->∀ o,mg N a.toNat o=true->mg N b.toNat o=true)->Sound S t
theorem EdgeQ.none {n nc:Nat}{a b:Int}{s:St}(hd:Dom n nc s)(h:edgeE s a b):EdgeQ n nc a b s s:=⟨Grow.refl _,hd,h,fun _ hs _=>hs⟩
theorem EdgeR.q {n nc a b:Nat}{s t:St}(h:EdgeR a b s t)(ha:a<n)(hb:b<n)(hd:Dom n nc s):EdgeQ n nc a b s t:=
 ⟨h.grow ha hb hd,h.dom hd ha hb,fun _ _=>h.there.imp (fun e=>by rw [e]) id,fun S hs hf=>h.sound hs (hf (by omega) (by omega))⟩
theorem Ac1 {s t:St}(h1:s.inn=t.inn)(h2:s.don=t.don)(h3:s.too=t.too)(h4:s.work=t.work)(h5:s.pops=t.pops):s=t:=by
 cases s;cases t;simp_all
theorem Wn {c:Cx}{O:Nat->Nat}{w:World}{m:Mem}(h:SV c O w m)(hd:Dom c.n c.xs.length m.st)(a b:Int)(ha:-9223372036854775808<=a/\a<c.n)(hb:-9223372036854775808<=b/\b<c.n) :
  Calls Tryz.prog 132 #[.pointer (some ⟨c.gx,0,none⟩),.int .i64 a,.int .i64 b] w fun e w'=>e=.returned (.tuple #[])/\SR c O w m w' (EdgeQ c.n c.xs.length a b):=by
 have stay:¬ (0<=a/\0<=b/\a≠b)->SR c O w m w (EdgeQ c.n c.xs.length a b):=fun hno=>⟨O,m,h,Stp.refl _ _,EdgeQ.none hd (fun h0 h1=>.inl (by
  apply Classical.byContradiction
  intro e
  exact hno ⟨h0,h1,e⟩)),rfl,rfl⟩
 by_cases h0:a<0
 ·refine A9 (args:=[.pointer (some ⟨c.gx,0,none⟩),.int .i64 a,.int .i64 b]) Aa Tryz.func132 rfl Tryz.ntmps132 rfl ?_;conv=>whnf
  (repeat' ((first|(refine Ag (by first|assumption|omega) ?_)|fail)<;>conv=>whnf))
  exact Hr rfl ⟨rfl,stay (by omega)⟩
 by_cases h1:b<0
 ·refine A9 (args:=[.pointer (some ⟨c.gx,0,none⟩),.int .i64 a,.int .i64 b]) Aa Tryz.func132 rfl Tryz.ntmps132 rfl ?_;conv=>whnf
  (repeat' ((first|refine Ag (by first|assumption|omega) ?_|refine Ah (by first|assumption|omega) ?_|fail)<;>conv=>whnf))
  exact Hr rfl ⟨rfl,stay (by omega)⟩
 by_cases h2:a=b
 ·refine A9 (args:=[.pointer (some ⟨c.gx,0,none⟩),.int .i64 a,.int .i64 b]) Aa Tryz.func132 rfl Tryz.ntmps132 rfl ?_;conv=>whnf
  (repeat' ((first|refine Ag (by first|assumption|omega) ?_|refine Ah (by first|assumption|omega) ?_|fail)<;>conv=>whnf))
  exact Hr rfl ⟨rfl,stay (by omega)⟩
 obtain ⟨u,rfl⟩:∃ u:Nat,a=u:=⟨a.toNat,by omega⟩
 obtain ⟨v,rfl⟩:∃ v:Nat,b=v:=⟨b.toNat,by omega⟩
 clear stay
 have hu:u<c.n:=by omega
 have hv:v<c.n:=by omega
 have huv:u≠v:=by omega
 obtain ⟨hbx,hbO⟩:=h.box
 obtain ⟨hrt,_⟩:=h.rowT
 obtain ⟨g3,cap3,cur3,hVt,_,_,hcell3,_,_⟩:=hrt.form hu
 obtain ⟨ft,hT,hTO⟩:=h.setT hu
 have hb':=hbx
 unfold Dm at hb'
 rw [hVt] at hb'
 have hl1:=Gt hT.wf (fun o ho=>(hd.too u o ho).2)
 have hn:=h.hn
 have hc3:=hcell3 u hu
 unfold C5 at hc3
 refine A9 (args:=[.pointer (some ⟨c.gx,0,none⟩),.int .i64 (u:Int),.int .i64 (v:Int)]) Aa Tryz.func132 rfl Tryz.ntmps132 rfl ?_;conv=>whnf
 (repeat' ((first|refine Aj Aa hb' rfl rfl rfl rfl rfl rfl rfl (Ab Aa ?_)|refine Az Aa rfl rfl rfl rfl rfl rfl hc3 (Ab Aa ?_)|refine Al Aa 117 1 rfl rfl rfl rfl rfl rfl rfl (by omega) (Ab Aa ?_)|(refine Ah (by first|assumption|omega) ?_)|fail)<;>conv=>whnf))
 refine Bv Y7 (Ag7 hT (v:Int) (by omega) (by omega) h.sz) rfl rfl rfl rfl rfl rfl rfl ?_
 rintro _ w1 ⟨bs',fp',hA⟩
 have hret:=hA.ret
 rw [decide_eq_true (by omega:(0:Int)<=(v:Int)),Bool.true_and,Int.toNat_natCast] at hret
 rw [hret]
 refine ⟨_,rfl,Ab Aa ?_⟩
 conv=>whnf
 obtain ⟨O2,h2,s2⟩:=h.toAdded hu hA.kept hTO hA.set (fun b hb=>(hA.new b hb).elim (fun e=>.inl (hTO b e)) .inr)
 have htoo:∀ x y,Aw (Bp m.bt u bs' x) y=(Aw (m.bt x) y||(decide (x=u)&&decide (y=v))):=fun x y=>by
  unfold Bp
  by_cases e:x=u
  ·subst e;rw [if_pos rfl,hA.mem];simp [show ((v:Int)=(y:Int))↔(y=v) by omega]
  ·rw [if_neg e];simp [e]
 (repeat' ((first|refine Nc (fun hg=>?_) (fun hg=>?_)|fail)<;>conv=>whnf))
 ·have hin:Aw (m.bt u) v=true:=by
   cases hq:Aw (m.bt u) v with
   |true=>rfl
   |false=>simp [hq] at *
  have hst:({ m with bt:=Bp m.bt u bs' }:Mem).st=m.st:=Ac1 rfl rfl (by
   funext x y
   show Aw (Bp m.bt u bs' x) y=Aw (m.bt x) y
   rw [htoo]
   by_cases e:x=u/\y=v
   ·obtain ⟨rfl,rfl⟩:=e
    simp [hin]
   ·simp only [Bool.or_eq_left_iff_imp,Bool.and_eq_true,decide_eq_true_eq]
    exact fun e2=>absurd e2 e) rfl rfl
  refine Hr rfl ⟨rfl,O2,_,h2,s2,?_,rfl,rfl⟩
  rw [hst]
  exact EdgeQ.none hd fun _ _=>.inr (by show Aw (m.bt (u:Int).toNat) (v:Int).toNat=true;simpa using hin)
 ·have hd2:Dom c.n c.xs.length ({ m with bt:=Bp m.bt u bs' }:Mem).st:=by
   refine ⟨hd.inn,hd.don,fun x y e=>?_,hd.work⟩
   have e:Aw (Bp m.bt u bs' x) y=true:=e
   rw [htoo] at e
   simp only [Bool.or_eq_true,Bool.and_eq_true,decide_eq_true_eq] at e
   rcases e with e|⟨rfl,rfl⟩
   ·exact hd.too x y e
   ·exact ⟨hu,hv⟩
  obtain ⟨hbx2,hbO2⟩:=h2.box
  obtain ⟨hri,_⟩:=h2.rowI
  obtain ⟨g1,cap1,cur1,hVi,_,_,hcell1,_,_⟩:=hri.form hu
  obtain ⟨fi,hI,hIO⟩:=h2.setI hu
  have hb2:=hbx2
  unfold Dm at hb2
  rw [hVi,hVt] at hb2
  have hc1:=hcell1 u hu
  unfold C5 at hc1
  (repeat' ((first|refine Aj Aa hb2 rfl rfl rfl rfl rfl rfl rfl (Ab Aa ?_)|refine Az Aa rfl rfl rfl rfl rfl rfl hc1 (Ab Aa ?_)|refine Al Aa 117 1 rfl rfl rfl rfl rfl rfl rfl (by omega) (Ab Aa ?_)|fail)<;>conv=>whnf))
  refine Bv Bc1 (Aox h2 hd2 v hv hI (fun o ho=>(hd.inn u o ho).2)) rfl rfl rfl rfl rfl rfl rfl ?_
  rintro _ w3 ⟨rfl,O3,m3,h3,s3,hF,e1,e2⟩
  refine ⟨_,rfl,Ab Aa ?_⟩
  conv=>whnf
  refine Hr rfl ⟨rfl,O3,m3,h3,s2.trans s3,?_,e1,e2⟩
  have hR:EdgeR u v m.st m3.st:=by
   refine ⟨fun x o=>?_,hF.don,fun x y=>?_,hF.pops,hF.work⟩
   ·rw [hF.inn]
    show (Aw (m.bi x) o||(decide (x=v)&&Aw (m.bi u) o))=(Aw (m.bi x) o||(decide (x=v)&&Aw (m.bi u) o&&!decide (u=v)))
    simp [huv]
   ·rw [hF.too]
    show Aw (Bp m.bt u bs' x) y=(Aw (m.bt x) y||(decide (x=u)&&decide (y=v)&&!decide (u=v)))
    rw [htoo]
    simp [huv]
  exact hR.q hu hv hd
structure ObjQ (n nc:Nat)(con:Con)(x:Cell)(P:St->Prop)(s t:St):Prop where
 grow:Grow n nc s t
 dom:Dom n nc t
 there:P t
 sound:∀ S,Sound S s->(∀ N,Do S N->Am1 con x N)->Sound S t
theorem ObjQ.start {n nc:Nat}{con:Con}{x:Cell}{P:St->Prop}{s:St}(hd:Dom n nc s)(h:P s):ObjQ n nc con x P s s:=⟨Grow.refl _,hd,h,fun _ hs _=>hs⟩
theorem ObjQ.weak {n nc:Nat}{con:Con}{x:Cell}{P P':St->Prop}{s t:St}(h:ObjQ n nc con x P s t)(hp:P t->P' t):ObjQ n nc con x P' s t:=⟨h.grow,h.dom,hp h.there,h.sound⟩
theorem ObjQ.step {n nc:Nat}{con:Con}{x:Cell}{P P':St->Prop}{s t u:St}{a b:Int}(h:ObjQ n nc con x P s t)(k:EdgeQ n nc a b t u)(hp:P t->(∀ x y,t.too x y=true->u.too x y=true)->edgeE u a b->P' u)(hv:∀ N,Am1 con x N->Ns b a N):ObjQ n nc con x P' s u:=
 ⟨h.grow.trans k.grow,k.dom,hp h.there k.grow.too k.there,fun S hs hN=>k.sound S (h.sound S hs hN) fun h0 h1 N hcl o ho=>hv N (hN N hcl) h1 h0 o ho⟩
theorem Ak8 {c:Cx}{O:Nat->Nat}{w0 w:World}{m:Mem}(h:SV c O w m)(hd:Dom c.n c.xs.length m.st)(con:Con)(x:Cell)(B D:Option Addr)(bc dc:Nat)(hw:Below w0.heap.size w0 w)(hw0:w0.heap.size=c.base)
  (hB:RI w0 B con.args) (hD:RI w0 D x.args) (hca:-9223372036854775808<=con.a/\con.a<c.n) (hcb0:-9223372036854775808<=con.b) (hcb:con.k=4->con.b<c.n) (hxv:-9223372036854775808<=x.v/\x.v<c.n) (hxa:∀ j,j<x.args.length->x.args[j]!<c.n) (hcargs:∀ j,j<con.args.length->con.args[j]!<c.n) :
  Calls Tryz.prog 90 #[.pointer (some ⟨c.gx,0,none⟩),.agg #[.int .u8 con.k,.int .i64 con.a,.int .i64 con.b,.slice B con.args.length bc],.agg #[.bool x.fn,.int .i64 x.v,.slice D x.args.length dc]] w fun e w'=>e=.returned (.tuple #[])/\SR c O w m w' (ObjQ c.n c.xs.length con x fun t=>objE t con x):=by
 have hbl:=hB.1
 have hdl:=hD.1
 refine A9 (args:=[.pointer (some ⟨c.gx,0,none⟩),.agg #[.int .u8 con.k,.int .i64 con.a,.int .i64 con.b,.slice B con.args.length bc],.agg #[.bool x.fn,.int .i64 x.v,.slice D x.args.length dc]]) Aa Tryz.func90 rfl Tryz.ntmps90 rfl ?_;conv=>whnf
 refine Ci rfl rfl rfl rfl rfl rfl ?_
 intro g1 w1 hn1
 refine Ab Aa ?_
 conv=>whnf
 refine Ci rfl rfl rfl rfl rfl rfl ?_
 intro g2 w2 hn2
 have hb1:=hn2.old hn1.blk
 have hb2:=hn2.blk
 have hB2:=hn2.up hn1.below
 have h2:=h.up hB2 97
 have s2:Stp O (Cp O w.heap.size 97) w w2:=Stp.up hB2 97
 have hO1:Cp O w.heap.size 97 g1=97:=C3 (by have:=hn1.at_;omega)
 have hO2:Cp O w.heap.size 97 g2=97:=C3 (by have:=hn2.at_;have:=hn1.size;omega)
 have hw2:=Ax hw hB2
 generalize Cp O w.heap.size 97=Oz at h2 s2 hO1 hO2
 clear hn1 hn2
 refine Ab Aa ?_
 conv=>whnf
 (repeat' ((first|refine Aj Aa hb1 rfl rfl rfl rfl rfl rfl rfl (Ab Aa ?_)|refine Aj Aa hb2 rfl rfl rfl rfl rfl rfl rfl (Ab Aa ?_)|refine Ah (by first|assumption|omega) ?_|refine J5 (fun hg=>?_) (fun hg=>?_)|refine Nc (fun hg=>?_) (fun hg=>?_)|refine Un (fun hg=>?_) (fun hg=>?_)|fail)<;>conv=>whnf))
 ·have hk:con.k=3:=by assumption
  have hfn:x.fn=false:=by assumption
  skip
  refine Bv Vv (Wn h2 hd x.v con.a hxv hca) rfl rfl rfl rfl rfl rfl rfl ?_
  rintro _ w3 ⟨rfl,O3,m3,h3,s3,hE,e1,e2⟩
  refine ⟨_,rfl,Ab Aa ?_⟩
  conv=>whnf
  exact Hr rfl ⟨rfl,O3,m3,h3,s2.trans s3,(ObjQ.start (P:=fun _=>True) hd trivial).step hE (fun _ _ q=>⟨fun h1 _=>by first|exact q|(exfalso;omega),fun h1 _=>by first|exact q|(exfalso;omega),fun h1 _=>by first|exact q|(exfalso;omega)⟩) (fun N hN=>hN.1 hk hfn),e1,e2⟩
 ·exact Hr rfl ⟨rfl,Oz,m,h2,s2,ObjQ.start hd ⟨fun h1 h3=>by first|(exfalso;omega)|(rw [hg] at h3;cases h3),fun h1 h3=>by first|(exfalso;omega)|(rw [hg] at h3;cases h3),fun h1 h3=>by first|(exfalso;omega)|(rw [hg] at h3;cases h3)⟩,rfl,rfl⟩
 ·have hk:con.k=4:=by assumption
  have hfn:x.fn=false:=by assumption
  skip
  refine Bv Vv (Wn h2 hd con.b x.v ⟨hcb0,hcb hk⟩ hxv) rfl rfl rfl rfl rfl rfl rfl ?_
  rintro _ w3 ⟨rfl,O3,m3,h3,s3,hE,e1,e2⟩
  refine ⟨_,rfl,Ab Aa ?_⟩
  conv=>whnf
  exact Hr rfl ⟨rfl,O3,m3,h3,s2.trans s3,(ObjQ.start (P:=fun _=>True) hd trivial).step hE (fun _ _ q=>⟨fun h1 _=>by first|exact q|(exfalso;omega),fun h1 _=>by first|exact q|(exfalso;omega),fun h1 _=>by first|exact q|(exfalso;omega)⟩) (fun N hN=>hN.2.1 hk hfn),e1,e2⟩
 ·exact Hr rfl ⟨rfl,Oz,m,h2,s2,ObjQ.start hd ⟨fun h1 h3=>by first|(exfalso;omega)|(rw [hg] at h3;cases h3),fun h1 h3=>by first|(exfalso;omega)|(rw [hg] at h3;cases h3),fun h1 h3=>by first|(exfalso;omega)|(rw [hg] at h3;cases h3)⟩,rfl,rfl⟩
 ·have hk5:con.k=5:=by assumption
  have hfn:x.fn=true:=by assumption
  refine Am Aa (X:=Nat×(Nat->Nat)×Mem) (fun y=>[(0,.pointer (some ⟨c.gx,0,none⟩)),(4,.pointer (some ⟨g1,0,none⟩)),(5,.pointer (some ⟨g2,0,none⟩)),(47,.slice D x.args.length dc),(48,.int .i64 x.args.length),(49,.int .i64 y.1)])
   (fun y wr=>y.1<=x.args.length/\SV c y.2.1 wr y.2.2/\Stp Oz y.2.1 w2 wr/\ObjQ c.n c.xs.length con x (fun t=>∀ k,k<y.1->k<x.args.length->k<con.args.length->edgeE t con.args[k]! x.args[k]!) m.st y.2.2.st/\y.2.2.fr=m.fr/\y.2.2.Vr=m.Vr) (fun y=>x.args.length - y.1) (0,Oz,m) ⟨rfl,rfl,rfl,rfl,rfl,rfl,trivial⟩ ⟨by simp,h2,Stp.refl _ _,ObjQ.start hd (fun k hk=>by simp at hk),rfl,rfl⟩ ?_
  rintro ⟨j,Oj,mj⟩ G wr ⟨hj,hj2,sj,hQ,e1,e2⟩
  simp only at hj hj2 sj hQ e1 e2
  conv=>whnf
  have hb1r:wr.heap[g1]?=_:=(sj.fr g1 (Ae hb1) (by omega) (by omega)).trans hb1
  have hb2r:wr.heap[g2]?=_:=(sj.fr g2 (Ae hb2) (by omega) (by omega)).trans hb2
  have hwr:Below w0.heap.size w0 wr:=hw2.trans (by rw [hw0];exact sj.below h2.low h2.sz)
  have hdj:=hQ.dom
  by_cases hjl:j<x.args.length
  ·obtain ⟨p,ad,hp,rfl,f0,hpr⟩:=Dy (hD.up (Bj _) hwr) j hjl
   have hpn:=hxa j hjl
   rw [hp.out] at hpn
   by_cases hjc:j<con.args.length
   ·obtain ⟨q,ad2,hq,rfl,f1,hqr⟩:=Dy (hB.up (Bj _) hwr) j hjc
    have hqn:=hcargs j hjc
    rw [hq.out] at hqn
    (repeat' ((first|refine Aj Aa hb1r rfl rfl rfl rfl rfl rfl rfl (Ab Aa ?_)|refine Az Aa rfl rfl rfl rfl rfl rfl f0 (Ab Aa ?_)|refine Az Aa rfl rfl rfl rfl rfl rfl f1 (Ab Aa ?_)|refine Al Aa 3 1 rfl rfl rfl rfl rfl rfl rfl (by omega) (Ab Aa ?_)|(refine Ag (by first|assumption|omega) ?_)|fail)<;>conv=>whnf))
    refine Bv Vv (Wn hj2 hdj q p ⟨hqr.1,hqn⟩ ⟨hpr.1,hpn⟩) rfl rfl rfl rfl rfl rfl rfl ?_
    rintro _ w4 ⟨rfl,O4,m4,h4,s4,hE,e3,e4⟩
    refine ⟨_,rfl,Ab Aa ?_⟩
    conv=>whnf
    (repeat' ((first|refine Af rfl rfl rfl rfl rfl rfl (by omega) (by omega) (Ab Aa ?_)|fail)<;>conv=>whnf))
    refine ⟨(j+1,O4,m4),⟨rfl,rfl,rfl,rfl,rfl,rfl,trivial⟩,⟨by simp only;omega,h4,sj.trans s4,hQ.step hE (fun hp2 hup he k hk hk1 hk2=>?_) (fun N hN=>by have:=(hN.2.2 hk5 hfn).2 j hjl hjc;rwa [hp.out,hq.out] at this),e3.trans e1,e4.trans e2⟩,by simp only;omega⟩
    rcases Nat.lt_or_ge k j with hkj|hkj
    ·exact (hp2 k hkj hk1 hk2).up hup
    ·have:k=j:=by omega
     subst this
     rw [hp.out,hq.out]
     exact he
   ·(repeat' ((first|refine Aj Aa hb1r rfl rfl rfl rfl rfl rfl rfl (Ab Aa ?_)|refine Az Aa rfl rfl rfl rfl rfl rfl f0 (Ab Aa ?_)|refine Al Aa 3 1 rfl rfl rfl rfl rfl rfl rfl (by omega) (Ab Aa ?_)|refine Af rfl rfl rfl rfl rfl rfl (by omega) (by omega) (Ab Aa ?_)|refine Ag (by first|assumption|omega) ?_|refine Ah (by first|assumption|omega) ?_|fail)<;>conv=>whnf))
    refine ⟨(j+1,Oj,mj),⟨rfl,rfl,rfl,rfl,rfl,rfl,trivial⟩,⟨by simp only;omega,hj2,sj,hQ.weak fun hp2 k hk hk1 hk2=>hp2 k (by simp only at hk;omega) hk1 hk2,e1,e2⟩,by simp only;omega⟩
  ·(repeat' ((first|refine Aj Aa hb1r rfl rfl rfl rfl rfl rfl rfl (Ab Aa ?_)|refine Aj Aa hb2r rfl rfl rfl rfl rfl rfl rfl (Ab Aa ?_)|(refine Ah (by first|assumption|omega) ?_)|fail)<;>conv=>whnf))
   refine Bv Vv (Wn hj2 hdj x.v con.a hxv hca) rfl rfl rfl rfl rfl rfl rfl ?_
   rintro _ w4 ⟨rfl,O4,m4,h4,s4,hE,e3,e4⟩
   refine ⟨_,rfl,Ab Aa ?_⟩
   conv=>whnf
   exact Hr rfl ⟨rfl,O4,m4,h4,s2.trans (sj.trans s4),hQ.step hE (fun hp2 hup he=>⟨fun h1=>by omega,fun h1=>by omega,fun _ _=>⟨he,fun k hk1 hk2=>(hp2 k (by omega) hk1 hk2).up hup⟩⟩) (fun N hN=>(hN.2.2 hk5 hfn).1),e3.trans e1,e4.trans e2⟩
 ·exact Hr rfl ⟨rfl,Oz,m,h2,s2,ObjQ.start hd ⟨fun h1 h3=>by first|(exfalso;omega)|(rw [hg] at h3;cases h3),fun h1 h3=>by first|(exfalso;omega)|(rw [hg] at h3;cases h3),fun h1 h3=>by first|(exfalso;omega)|(rw [hg] at h3;cases h3)⟩,rfl,rfl⟩
 ·exact Hr rfl ⟨rfl,Oz,m,h2,s2,ObjQ.start hd ⟨fun h1 h3=>by first|(exfalso;omega)|(rw [hg] at h3;cases h3),fun h1 h3=>by first|(exfalso;omega)|(rw [hg] at h3;cases h3),fun h1 h3=>by first|(exfalso;omega)|(rw [hg] at h3;cases h3)⟩,rfl,rfl⟩
end Go.Proofs.YtghmdfegfehhkaaGreatDoor
