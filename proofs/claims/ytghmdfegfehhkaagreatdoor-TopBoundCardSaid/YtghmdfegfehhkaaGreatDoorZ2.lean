/- Several texts of one claim in one file, made short: E1 E2 TF EQ. -/
import Derived.Test.YtghmdfegfehhkaaGreatDoorZ1
import Derived.Laws.Tables
import Derived.StillTail
import Derived.Deep.Quiet
set_option maxRecDepth 100000
set_option maxHeartbeats 64000000
set_option linter.unusedVariables false
set_option linter.unusedSimpArgs false
namespace Go.Proofs.YtghmdfegfehhkaaGreatDoor
open Go.RowKit
def Ul:Value->Option Value
 |.bool b=>some (.bool b)
 |.int k n=>some (.int k n)
 |.float k b=>some (.float k b)
 |.complex k x y=>some (.complex k x y)
 |.string s=>some (.string s)
 |.pointer a=>some (.pointer a)
 |.slice a n c=>some (.slice a n c)
 |.map r=>some (.map r)
 |.chan r=>some (.chan r)
 |.func f a c=>some (.func f a c)
 |.nilFunc=>some .nilFunc
 |.iface t v=>some (.iface t v)
 |.nilIface=>some .nilIface
 |.agg cs=>some (.agg cs)
 |.tuple vs=>some (.tuple vs)
theorem He (v:Value):Ul v=some v:=by cases v<;>rfl
def So:IntKind->IntKind->Bool
 |.i8,.i8|.i16,.i16|.i32,.i32|.i64,.i64|.u8,.u8|.u16,.u16|.u32,.u32|.u64,.u64=>true
 |_,_=>false
theorem Mn {a b:IntKind}(h:So a b=true):a=b:=by cases a<;>cases b<;>first|rfl|cases h
def Am9 (op:BinOp)(k:IntKind)(a b:Int):Option Value:=
 match op with
 |.eql=>some (.bool (decide (a=b)))
 |.neq=>some (.bool (decide (¬a=b)))
 |.lss=>some (.bool (decide (a<b)))
 |.leq=>some (.bool (decide (a<=b)))
 |.gtr=>some (.bool (decide (b<a)))
 |.geq=>some (.bool (decide (b<=a)))
 |_=>none
def Aq5 (a:Addr)(o:Nat):Addr:=bif Nat.beq o 0 then a else a.add o
theorem Al2 (a:Addr)(o:Nat):Aq5 a o=a.add o:=by
 unfold Aq5
 by_cases h:o=0
 ·subst h;rw [Ei];simp [Addr.add]
 ·rw [E5 h];rfl
def Ex (cs:List Value):Nat->List Value->List Value
 |_,[]=>cs
 |k,v::vs=>Ex (cs.set k v) (k+1) vs
def Pm:List Value->Option (List Value)
 |[]=>some []
 |v::l=>match Pm l with
  |some l'=>some (v::l')
  |none=>none
theorem Gc:∀ l:List Value,Pm l=some l
 |[]=>rfl
 |v::l=>by simp [Pm,Gc l]
def Yn (F:Fm)(place:Nat->Option (Nat×Nat)):List (Nat×Operand)->List Value->Option (List Value)
 |[],cs=>Pm cs
 |(i,x)::ps,cs=>match place i with
  |none=>none
  |some (off,size)=>match ev F x with
   |.agg vs=>bif Nat.beq vs.toList.length size&&Nat.ble (off+size) cs.length then Yn F place ps (Ex cs off vs.toList) else none
   |.tuple _=>none
   |v=>bif Nat.beq size 1&&Nat.ble (off+1) cs.length then (match Ul v with|some v=>Yn F place ps (cs.set off v)|none=>none) else none
def Lm (T:Nat->Option TI):List Field->Option (List (Nat×Nat))
 |[]=>some []
 |f::fs=>match T f.type with
  |some ti=>match Lm T fs with
   |some l=>some ((f.offset,ti.size)::l)
   |none=>none
  |none=>none
def Ca (T:Nat->Option TI)(op:Op)(F:Fm):Option Value:=
 match op with
 |.move x|.assign x=>Ul (ev F x)
 |.pick c a b=>match ev F c with|.bool true=>Ul (ev F a)|.bool false=>Ul (ev F b)|_=>none
 |.binOp op xt x y _=>match ev F x,ev F y with
  |.int k a,.int k' b=>bif So k k' then Am9 op k a b else none
  |.bool a,.bool b=>match op,T xt with
   |.eql,some ⟨.bool,_,_,_⟩=>some (.bool (a==b))
   |.neq,some ⟨.bool,_,_,_⟩=>some (.bool (!(a==b)))
   |_,_=>none
  |_,_=>none
 |.unOp .not _ x=>match ev F x with|.bool b=>some (.bool (!b))|_=>none
 |.unOp .neg _ x=>match ev F x with|.int k a=>some (.int k (k.wrap (0 - a)))|_=>none
 |.fieldAddr s x f=>match T s,ev F x with
  |some ⟨.struct fs,_,_,_⟩,.pointer (some a)=>match fs[f]? with
   |some fl=>match T fl.type with
    |some ⟨_,(_+1),_,_⟩=>some (.pointer (some (Aq5 a fl.offset)))
    |_=>none
   |none=>none
  |_,_=>none
 |.field s x f=>match T s,ev F x with
  |some ⟨.struct fs,_,_,_⟩,.agg cs=>match fs[f]? with
   |some fl=>match T fl.type with
    |some ⟨.struct _,_,_,_⟩=>none
    |some ⟨.array _ _,_,_,_⟩=>none
    |some _=>cs[fl.offset]?
    |none=>none
   |none=>none
  |_,_=>none
 |.nilCheck x=>match ev F x with|.pointer (some a)=>some (.pointer (some a))|_=>none
 |.extract x i=>match ev F x with|.tuple vs=>vs[i]?|_=>none
 |.build t parts=>match T t with
  |some ⟨.struct fs,_,_,.agg z⟩=>match Lm T fs.toList with
   |some pl=>match Yn F (fun i=>pl[i]?) parts.toList z.toList with
    |some cs=>some (.agg cs.toArray)
    |none=>none
   |none=>none
  |_=>none
 |.call c=>match c.callee,c.args.toList,c.argTypes.toList with
  |.builtin .len,[x],[t]=>match T t,ev F x with
   |some ⟨.slice _,_,_,_⟩,.slice _ n _=>some (.int .i64 n)
   |some ⟨.string,_,_,_⟩,.string s=>some (.int .i64 s.size)
   |_,_=>none
  |_,_,_=>none
 |_=>none
section
variable {P:Program}{T:Nat->Option TI}{n:Nat}{Q:Post}{F:Fm}{w:World}{ops:Array Oper}{rest:List Oper}{o:Oper}
theorem Lt (hT:TabOk P T){t:Nat}{i:TI}(h:T t=some i):P.underlying t=some i.desc:=(hT.ok t i h).1
theorem Tv (hT:TabOk P T){t:Nat}{i:TI}(h:T t=some i):∃ j,P.info? t=some j/\j.zero=some i.zero/\j.size=i.size/\j.bytes=i.bytes:=by
 obtain ⟨j,hj,e⟩:=Option.map_eq_some_iff.1 (hT.ok t i h).2
 simp only [Prod.mk.injEq] at e
 exact ⟨j,hj,e.1,e.2.1,e.2.2⟩
theorem B3 {t:Nat}{d:TypeDesc}(h:P.underlying t=some d):(underlying t).run P w=.ok d w:=run_underlying h w
theorem Fa (hT:TabOk P T){t:Nat}{i:TI}(h:T t=some i):(sizeOf t).run P w=.ok i.size w:=by
 obtain ⟨j,hj,_,e,_⟩:=Tv hT h
 simp [sizeOf,typeInfo,hj,e]
theorem L5:∀ (vs:List Value) (cs:List Value) (off k:Nat),((vs.zipIdx k).foldl (fun (a:Array Value) (p:Value×Nat)=>a.setIfInBounds (off+p.2) p.1) cs.toArray)=(Ex cs (off+k) vs).toArray
 |[],cs,off,k=>by simp [Ex]
 |v::vs,cs,off,k=>by
  simp only [List.zipIdx_cons,List.foldl_cons,Ex]
  have:cs.toArray.setIfInBounds (off+k) v=(cs.set (off+k) v).toArray:=by simp
  rw [this,L5 vs _ off (k+1)]
  rfl
theorem K7 {place:Nat->Option (Nat×Nat)}:∀ {ps:List (Nat×Operand)} {cs r:List Value},Yn F place ps cs=some r->Instr.fill place cs.toArray (ps.map fun p=>(p.1,ev F p.2))=some r.toArray
 |[],cs,r,h=>by
  simp only [Yn,Gc,Option.some.injEq] at h
  subst h
  rfl
 |(i,x)::ps,cs,r,h=>by
  unfold Yn at h
  split at h
  ·cases h
  ·rename_i off size hp
   simp only [List.map_cons,Instr.fill,hp]
   split at h
   ·rename_i vs hv
    cases hb:(Nat.beq vs.toList.length size&&Nat.ble (off+size) cs.length) with
    |false=>rw [hb] at h;cases h
    |true=>
     rw [hb] at h
     simp only [Bool.and_eq_true] at hb
     have h1:=Nat.eq_of_beq_eq_true hb.1
     have h2:=Nat.le_of_ble_eq_true hb.2
     have hsz:vs.size=size:=by rw [<- h1];simp
     have hcond:¬ ((decide ((Value.agg vs).cells.size≠size)||decide (off+(Value.agg vs).cells.size>cs.toArray.size))=true):=by simp [Value.cells,hsz];omega
     rw [hv,if_neg hcond]
     have e:vs.zipIdx.foldl (fun (a:Array Value) (p:Value×Nat)=>a.setIfInBounds (off+p.2) p.1) cs.toArray=(Ex cs off vs.toList).toArray:=by
      have:=L5 vs.toList cs off 0
      rw [<- Array.foldl_toList,Array.toList_zipIdx]
      exact this
     have:=K7 h
     rw [<- this]
     congr 1
   ·cases h
   ·rename_i v hna hnt
    cases hb:(Nat.beq size 1&&Nat.ble (off+1) cs.length) with
    |false=>rw [hb] at h;cases h
    |true=>
     rw [hb] at h
     simp only [Bool.and_eq_true] at hb
     have h1:=Nat.eq_of_beq_eq_true hb.1
     have h2:=Nat.le_of_ble_eq_true hb.2
     simp only [cond_true,He] at h
     have hc:(ev F x).cells=#[ev F x]:=by
      cases he:ev F x<;>first|rfl|exact (hna _ he).elim
     have hcond:¬ ((decide ((ev F x).cells.size≠size)||decide (off+(ev F x).cells.size>cs.toArray.size))=true):=by rw [hc];simp [h1];omega
     rw [if_neg hcond,hc]
     have:=K7 h
     rw [<- this]
     congr 1
     simp
theorem Kx (hT:TabOk P T){v:Value}(h:Ca T o.op F=some v):(execOp (ev F) o).run P w=.ok (.value v) w:=by
 obtain ⟨dst,op,type,pos,after,guard⟩:=o
 simp only at h
 cases op
 case move x=>simp [Ca,He] at h;subst h;rfl
 case assign x=>simp [Ca,He] at h;subst h;rfl
 case pick c a b=>
  simp only [Ca] at h
  split at h<;>simp [He] at h
  ·rename_i e;subst h;simp [execOp,e,asBool]
  ·rename_i e;subst h;simp [execOp,e,asBool]
 case binOp op xt x y yt=>
  simp only [Ca] at h
  split at h
  ·rename_i k a k' b ex ey
   cases hk:So k k' with
   |false=>rw [hk] at h;simp at h
   |true=>
    rw [hk] at h
    have:=Mn hk
    subst this
    simp only [cond_true] at h
    simp only [execOp,ex,ey]
    cases op<;>simp only [Am9,Option.some.injEq] at h<;>first|(cases h;done)|(subst h;simp [eqGuard,binOp,Op.intArith,Op.intCmp];done)|(subst h;simp [eqGuard,binOp,Op.intArith,Op.intCmp];rfl)
  ·rename_i a b ex ey
   simp only [execOp,ex,ey]
   split at h<;>simp at h
   ·rename_i hb
    subst h
    have hu:=Lt hT hb
    simp [eqGuard,binOp,Op.equal,Op.maxDepth]
    unfold Op.equalIn
    simp [B3 hu]
   ·rename_i hb
    subst h
    have hu:=Lt hT hb
    simp [eqGuard,binOp,Op.equal,Op.maxDepth]
    unfold Op.equalIn
    simp [B3 hu]
  ·simp at h
 case unOp op xt x=>
  cases op<;>simp only [Ca] at h<;>try (simp at h;done)
  ·split at h<;>simp at h
   rename_i e
   subst h
   simp [execOp,e,Op.unary,Op.intArith]
  ·split at h<;>simp at h
   rename_i e
   subst h
   simp [execOp,e,Op.unary]
 case fieldAddr s x f=>
  simp only [Ca] at h
  split at h<;>try (simp at h;done)
  rename_i e1 e2
  split at h<;>try (simp at h;done)
  rename_i e3
  split at h<;>try (simp at h;done)
  rename_i e4
  simp at h
  subst h
  have hu:=Lt hT e1
  have hs:=Fa (w:=w) hT e4
  simp [execOp,Instr.fieldAt,B3 hu,e3,e2,Instr.sureAddr,fieldPlace,hs,Al2]
 case field s x f=>
  simp only [Ca] at h
  split at h<;>try (simp at h;done)
  rename_i e1 e2
  split at h<;>try (simp at h;done)
  rename_i fl e3
  split at h<;>try (simp at h;done)
  rename_i i hn1 hn2 e4
  have hu:=Lt hT e1
  have hv:=Lt hT e4
  have ha:(isAgg fl.type).run P w=.ok false w:=by
   unfold isAgg
   simp only [Sem.run_bind,B3 hv,Result.andThen_ok]
   obtain ⟨d,s,b,z⟩:=i
   cases d<;>first|rfl|exact (hn1 _ _ _ _ rfl).elim|exact (hn2 _ _ _ _ _ rfl).elim
  simp [execOp,Instr.field,B3 hu,e3,e2,asAgg,part,ha,h]
 case nilCheck x=>
  simp only [Ca] at h
  split at h<;>simp at h
  rename_i e
  subst h
  simp [execOp,e]
 case extract x i=>
  simp only [Ca] at h
  split at h<;>first|(cases h;done)|skip
  rename_i e
  simp [execOp,Instr.extract,e,h]
 case build t parts=>
  simp only [Ca] at h
  split at h<;>try (simp at h;done)
  rename_i fs sz by_ z e1
  split at h<;>try (simp at h;done)
  rename_i pl e3
  split at h<;>try (simp at h;done)
  rename_i cs e2
  simp only [Option.some.injEq] at h
  subst h
  have hu:=Lt hT e1
  obtain ⟨j,hj,hz,_,_⟩:=Tv hT e1
  have hf:=K7 e2
  have hpl:∀ (l:List Field) (pl:List (Nat×Nat)),Lm T l=some pl->l.mapM (fun f=>(P.info? f.type).map fun i=>(f.offset,i.size))=some pl:=by
   intro l
   induction l with
   |nil=>intro pl h;simp [Lm] at h;subst h;simp
   |cons f l ih=>
    intro pl h
    unfold Lm at h
    split at h<;>try (simp at h;done)
    rename_i ti h1
    split at h<;>try (simp at h;done)
    rename_i l' h2
    simp only [Option.some.injEq] at h
    subst h
    obtain ⟨i,hi,_,hs,_⟩:=Tv hT h1
    simp [List.mapM_cons,hi,ih l' h2,hs]
  have hbuilt:P.built t (parts.map fun (i,x)=>(i,ev F x)).toList=some cs.toArray:=by
   unfold Program.built
   simp only [hj,hu,hz,hpl _ _ e3]
   simp only [Value.cells]
   have:(parts.map fun (i,x)=>(i,ev F x)).toList=parts.toList.map fun p=>(p.1,ev F p.2):=by simp
   rw [this]
   simpa using hf
  simp [execOp,run_build w t _ _ hbuilt]
 case call c=>
  simp only [Ca] at h
  obtain ⟨callee,args,types⟩:=c
  split at h<;>try (simp at h;done)
  rename_i x t e1 e2 e3
  obtain ⟨args⟩:=args
  obtain ⟨types⟩:=types
  subst e1 e2 e3
  split at h<;>simp at h
  ·rename_i e4 e5
   subst h
   have hu:=Lt hT e4
   simp [execOp,resolve,invoke,builtin,Builtin.len_,B3 hu,e5,goInt]
  ·rename_i e4 e5
   subst h
   have hu:=Lt hT e4
   simp [execOp,resolve,invoke,builtin,Builtin.len_,B3 hu,e5,goInt]
 all_goals simp [Ca] at h
theorem Alz (hT:TabOk P T){v:Value}(h:Ca T o.op F=some v)(hg:o.guard=none){d:Nat}(hd:o.dst=some d)(hn:Nat.blt d n=true)(k:wl P n ops rest Q (Bd F d v) w):wl P n ops (o::rest) Q F w:=Bh hg hd hn (Kx hT h) k
theorem Jt {a:Int}(h1:-9223372036854775808<=a)(h2:a<=9223372036854775807):IntKind.i64.wrap a=a:=IntWalk.i64_in a ⟨by omega,by omega⟩
theorem Af {x y:Operand}{xt yt:TypeId}{a b:Int}(hop:o.op=.binOp .add xt x y yt)(hx:ev F x=.int .i64 a)(hy:ev F y=.int .i64 b)(hg:o.guard=none){d:Nat}(hd:o.dst=some d)(hn:Nat.blt d n=true)
  (h1:-9223372036854775808<=a+b) (h2:a+b<=9223372036854775807) (k:wl P n ops rest Q (Bd F d (.int .i64 (a+b))) w):wl P n ops (o::rest) Q F w:=
 Bh hg hd hn (by simp [execOp,hop,hx,hy,eqGuard,binOp,Op.intArith,Jt h1 h2]) k
theorem Jk {x y:Operand}{xt yt:TypeId}{a b:Int}(hop:o.op=.binOp .sub xt x y yt)(hx:ev F x=.int .i64 a)(hy:ev F y=.int .i64 b)(hg:o.guard=none){d:Nat}(hd:o.dst=some d)(hn:Nat.blt d n=true)
  (h1:-9223372036854775808<=a - b) (h2:a - b<=9223372036854775807) (k:wl P n ops rest Q (Bd F d (.int .i64 (a - b))) w):wl P n ops (o::rest) Q F w:=
 Bh hg hd hn (by simp [execOp,hop,hx,hy,eqGuard,binOp,Op.intArith,Jt h1 h2]) k
theorem U0 {x y:Operand}{xt yt:TypeId}{a b:Int}(hop:o.op=.binOp .mul xt x y yt)(hx:ev F x=.int .i64 a)(hy:ev F y=.int .i64 b)(hg:o.guard=none){d:Nat}(hd:o.dst=some d)(hn:Nat.blt d n=true)
  (h1:-9223372036854775808<=a*b) (h2:a*b<=9223372036854775807) (k:wl P n ops rest Q (Bd F d (.int .i64 (a*b))) w):wl P n ops (o::rest) Q F w:=
 Bh hg hd hn (by simp [execOp,hop,hx,hy,eqGuard,binOp,Op.intArith,Jt h1 h2]) k
theorem Akx {x y:Operand}{xt yt:TypeId}{ki:IntKind}{a b:Int}(hop:o.op=.binOp .add xt x y yt)(hx:ev F x=.int ki a)(hy:ev F y=.int ki b)(hg:o.guard=none){d:Nat}(hd:o.dst=some d)(hn:Nat.blt d n=true)
  (k:wl P n ops rest Q (Bd F d (.int ki (ki.wrap (a+b)))) w):wl P n ops (o::rest) Q F w:=
 Bh hg hd hn (by simp [execOp,hop,hx,hy,eqGuard,binOp,Op.intArith]) k
theorem Ai2 {x y:Operand}{xt yt:TypeId}{ki:IntKind}{a b:Int}(hop:o.op=.binOp .sub xt x y yt)(hx:ev F x=.int ki a)(hy:ev F y=.int ki b)(hg:o.guard=none){d:Nat}(hd:o.dst=some d)(hn:Nat.blt d n=true)
  (k:wl P n ops rest Q (Bd F d (.int ki (ki.wrap (a - b)))) w):wl P n ops (o::rest) Q F w:=
 Bh hg hd hn (by simp [execOp,hop,hx,hy,eqGuard,binOp,Op.intArith]) k
theorem Aly {x y:Operand}{xt yt:TypeId}{ki:IntKind}{a b:Int}(hop:o.op=.binOp .mul xt x y yt)(hx:ev F x=.int ki a)(hy:ev F y=.int ki b)(hg:o.guard=none){d:Nat}(hd:o.dst=some d)(hn:Nat.blt d n=true)
  (k:wl P n ops rest Q (Bd F d (.int ki (ki.wrap (a*b)))) w):wl P n ops (o::rest) Q F w:=
 Bh hg hd hn (by simp [execOp,hop,hx,hy,eqGuard,binOp,Op.intArith]) k
theorem Ad2 (hT:TabOk P T){t:Nat}{i:TI}(h:T t=some i)(ha:(match i.desc with|.struct _|.array _ _=>true|_=>false)=false):(isAgg t).run P w=.ok false w:=by
 have hu:=Lt hT h
 unfold isAgg
 simp only [Sem.run_bind,B3 hu,Result.andThen_ok]
 obtain ⟨d,s,b,z⟩:=i
 cases d<;>first|rfl|cases ha
theorem Ye (hT:TabOk P T){t:Nat}{i:TI}(h:T t=some i)(ha:(match i.desc with|.struct _|.array _ _=>true|_=>false)=true):(isAgg t).run P w=.ok true w:=by
 have hu:=Lt hT h
 unfold isAgg
 simp only [Sem.run_bind,B3 hu,Result.andThen_ok]
 obtain ⟨d,s,b,z⟩:=i
 cases d<;>first|rfl|cases ha
def Lg (T:Nat->Option TI)(t:Nat):Bool:=match T t with
 |some i=>(match i.desc with|.struct _|.array _ _=>false|_=>true)
 |none=>false
theorem Up (hT:TabOk P T){t:Nat}(h:Lg T t=true):(isAgg t).run P w=.ok false w:=by
 unfold Lg at h
 split at h
 ·rename_i i hi
  refine Ad2 hT hi ?_
  split at h<;>simp_all
 ·cases h
theorem C2 (hT:TabOk P T){t:Nat}{a:Addr}{v:Value}(h1:Lg T t=true)(hc:w.cell? a=some v):(loadVar t a).run P w=.ok v w:=by
 simp only [loadVar,Sem.run_bind,Up hT h1,Result.andThen_ok]
 simp [load,Sem.run,hc]
theorem Az (hT:TabOk P T){t:TypeId}{x:Operand}{a:Addr}{v:Value}(hop:o.op=.load t x)(hx:ev F x=.pointer (some a))(h1:Lg T t=true)(hg:o.guard=none){d:Nat}(hd:o.dst=some d)(hn:Nat.blt d n=true)
  (hc:w.cell? a=some v) (k:wl P n ops rest Q (Bd F d v) w):wl P n ops (o::rest) Q F w:=
 Bh hg hd hn (by simp [execOp,hop,hx,Instr.loadAt,Instr.sureAddr,C2 hT h1 hc]) k
theorem Au {g off:Nat}{cs:Array Value}{t:TypeId}{fr:Nat×Nat}{v:Value}(h:w.heap[g]?=some (.cells cs t fr))(hv:cs[off]?=some v):w.cell? ⟨g,off,none⟩=some v:=by
 simp [World.cell?,h,hv]
theorem Aj (hT:TabOk P T){t t':TypeId}{x:Operand}{g off:Nat}{cs:Array Value}{fr:Nat×Nat}{v:Value}(hb:w.heap[g]?=some (.cells cs t' fr))(hop:o.op=.load t x)(hx:ev F x=.pointer (some ⟨g,off,none⟩))(h1:Lg T t=true)(hg:o.guard=none){d:Nat}(hd:o.dst=some d)(hn:Nat.blt d n=true)
  (hv:cs[off]?=some v) (k:wl P n ops rest Q (Bd F d v) w):wl P n ops (o::rest) Q F w:=Az hT hop hx h1 hg hd hn (Au hb hv) k
def Cw (w:World)(a:Addr):Nat->List Value->Prop
 |_,[]=>True
 |i,v::vs=>w.cell? (a.add i)=some v/\Cw w a (i+1) vs
theorem B8 {a:Addr}:∀ (vs:List Value) (i:Nat) (acc:Array Value),Cw w a i vs->(loadCellsFrom a i vs.length acc).run P w=.ok (acc++vs.toArray) w
 |[],i,acc,_=>by simp [loadCellsFrom]
 |v::vs,i,acc,⟨h,hs⟩=>by
  have:=B8 vs (i+1) (acc.push v) hs
  simp only [List.length_cons,loadCellsFrom,Sem.run_bind,load,Sem.run,h,Result.andThen_ok]
  rw [this]
  simp
def Mr (T:Nat->Option TI)(t m:Nat):Bool:=match T t with
 |some i=>Nat.beq i.size m&&(match i.desc with|.struct _|.array _ _=>true|_=>false)
 |none=>false
theorem Fg (hT:TabOk P T){t m:Nat}(h:Mr T t m=true):(isAgg t).run P w=.ok true w/\(sizeOf t).run P w=.ok m w:=by
 unfold Mr at h
 split at h
 ·rename_i i hi
  simp only [Bool.and_eq_true] at h
  have:=Nat.eq_of_beq_eq_true h.1
  exact ⟨Ye hT hi h.2,by rw [Fa hT hi,this]⟩
 ·cases h
theorem E0 (hT:TabOk P T){t:TypeId}{x:Operand}{a:Addr}{vs:List Value}(hc:Cw w a 0 vs)(hop:o.op=.load t x)(hx:ev F x=.pointer (some a))(h1:Mr T t vs.length=true)(hg:o.guard=none){d:Nat}(hd:o.dst=some d)(hn:Nat.blt d n=true)
  (k:wl P n ops rest Q (Bd F d (.agg vs.toArray)) w):wl P n ops (o::rest) Q F w:=by
 refine Bh hg hd hn ?_ k
 have h2:=Fg (P:=P) (w:=w) hT h1
 have h3:=B8 (P:=P) vs 0 #[] hc
 simp [execOp,hop,hx,Instr.loadAt,Instr.sureAddr,loadVar,h2,loadCells,h3]
theorem Cr {g:Nat}{cs:Array Value}{t:TypeId}{fr:Nat×Nat}(h:w.heap[g]?=some (.cells cs t fr)):∀ (vs:List Value) (off i:Nat),(∀ j,j<vs.length->cs[off+i+j]?=vs[j]?)->Cw w ⟨g,off,none⟩ i vs
 |[],_,_,_=>trivial
 |v::vs,off,i,hv=>by
  refine ⟨?_,Cr h vs off (i+1) fun j hj=>?_⟩
  ·have:(⟨g,off,none⟩:Addr).add i=⟨g,off+i,none⟩:=by unfold Addr.add;split<;>simp_all
   rw [this]
   exact Au h (by simpa using hv 0 (by simp))
  ·have:=hv (j+1) (by simp;omega)
   simpa [Nat.add_assoc,Nat.add_comm 1 j] using this
theorem C6 (hT:TabOk P T){t t':TypeId}{x:Operand}{g:Nat}{cs:List Value}{fr:Nat×Nat}(hb:w.heap[g]?=some (.cells cs.toArray t' fr))(hop:o.op=.load t x)(hx:ev F x=.pointer (some ⟨g,0,none⟩))(h1:Mr T t cs.length=true)(hg:o.guard=none){d:Nat}(hd:o.dst=some d)(hn:Nat.blt d n=true)
  (k:wl P n ops rest Q (Bd F d (.agg cs.toArray)) w):wl P n ops (o::rest) Q F w:=E0 hT (Cr hb cs 0 0 (by simp)) hop hx h1 hg hd hn k
structure New (w w1:World)(g:Nat)(cs:List Value)(t:TypeId):Prop where
 at_:g=w.heap.size
 size:w1.heap.size=w.heap.size+1
 blk:w1.heap[g]?=some (.cells cs.toArray t (0,0))
 below:Below w.heap.size w w1
theorem Ce (w:World)(cs:List Value)(t:TypeId):New w (w.alloc (.cells cs.toArray t)) w.heap.size cs t:=⟨rfl,by simp,heap_alloc_new w _,(Below.refl _ _).alloc (Nat.le_refl _) _⟩
theorem New.old {w1:World}{g:Nat}{cs:List Value}{t:TypeId}(h:New w w1 g cs t){k:Nat}{o:Obj}(hk:w.heap[k]?=some o):w1.heap[k]?=some o:=by
 rw [h.below.block k (Array.getElem?_eq_some_iff.1 hk).1];exact hk
theorem Ci {t:TypeId}{x:Operand}{v:Value}{cs:List Value}(hop:o.op=.box t x)(hx:ev F x=v)(hv:v.cells=cs.toArray)(hg:o.guard=none){d:Nat}(hd:o.dst=some d)(hn:Nat.blt d n=true)
  (k:∀ g w1,New w w1 g cs t->wl P n ops rest Q (Bd F d (.pointer (some ⟨g,0,none⟩))) w1):wl P n ops (o::rest) Q F w:=
 Bh hg hd hn (by simp [execOp,hop,hx,Instr.box,newVar,newRow,newObj,Sem.run,hv]) (k _ _ (Ce w cs t))
theorem Bm (hT:TabOk P T){t:TypeId}{i:TI}{cs:List Value}(hop:o.op=.alloc t)(hi:T t=some i)(hv:i.zero.cells=cs.toArray)(hg:o.guard=none){d:Nat}(hd:o.dst=some d)(hn:Nat.blt d n=true)
  (k:∀ g w1,New w w1 g cs t->wl P n ops rest Q (Bd F d (.pointer (some ⟨g,0,none⟩))) w1):wl P n ops (o::rest) Q F w:=by
 obtain ⟨j,hj,hz,_,_⟩:=Tv hT hi
 refine Bh hg hd hn ?_ (k _ _ (Ce w cs t))
 simp [execOp,hop,Instr.alloc,zeroValue,typeInfo,hj,hz,newVar,newRow,newObj,Sem.run,hv]
structure Put (w w1:World)(g:Nat)(cs:List Value)(t:TypeId):Prop where
 size:w1.heap.size=w.heap.size
 blk:w1.heap[g]?=some (.cells cs.toArray t (0,0))
 grown:w.grownBy w1 (some g)
theorem Put.old {w1:World}{g:Nat}{cs:List Value}{t:TypeId}(h:Put w w1 g cs t){k:Nat}{o:Obj}(hk:w.heap[k]?=some o)(hne:k≠g):w1.heap[k]?=some o:=by
 rw [h.grown.block k (Array.getElem?_eq_some_iff.1 hk).1 (by simpa using hne)];exact hk
theorem Put.below {w0 w1:World}{g B:Nat}{cs:List Value}{t:TypeId}(h:Put w w1 g cs t)(hb:Below B w0 w)(hg:B<=g)(hB:B<=w.heap.size):Below B w0 w1:=
 hb.grown h.grown hB (fun k hk=>by cases hk;exact hg)
theorem Ja {g off:Nat}{cs:List Value}{t:TypeId}(hb:w.heap[g]?=some (.cells cs.toArray t (0,0)))(v:Value):Put w (w.setCell ⟨g,off,none⟩ v) g (cs.set off v) t:=by
 refine ⟨by simp [World.setCell],?_,⟨rfl,rfl,rfl,by simp [World.setCell],fun k hk hne=>Below.heap_setCell w _ v k (by simpa using hne)⟩⟩
 simp [World.setCell,Array.getElem?_modify,hb]
theorem Dd (hT:TabOk P T){t t':TypeId}{x y:Operand}{i:TI}{g off:Nat}{cs:List Value}{v:Value}(hb:w.heap[g]?=some (.cells cs.toArray t' (0,0)))(hop:o.op=.store t x y)(hx:ev F x=.pointer (some ⟨g,off,none⟩))(hy:ev F y=v)
  (hi:T t=some i) (h1:i.size=1) (hv:v.oneCell'=true) (hoff:off<cs.length) (hg:o.guard=none) (hd:o.dst=none)
  (k:∀ w1,Put w w1 g (cs.set off v) t'->wl P n ops rest Q F w1):wl P n ops (o::rest) Q F w:=by
 refine Ua hg hd ?_ (k _ (Ja hb v))
 have hs:=Fa (w:=w) hT hi
 rw [h1] at hs
 have hc:w.cell? ⟨g,off,none⟩=some cs[off]:=Au hb (by simp [hoff])
 have hf:w.frozen? ⟨g,off,none⟩=false:=by simp [World.frozen?,hb]
 cases v<;>simp_all [Value.oneCell',execOp,Instr.storeAt,Instr.sureAddr,storeVar,Value.cells,storeCells,store,Sem.run,Addr.add]<;>rfl
end
section
variable {P:Program}{T:Nat->Option TI}{n:Nat}{Q:Post}{F:Fm}{w:World}{ops:Array Oper}{rest:List Oper}{o:Oper}
def PN (Q:Post)(F:Fm)(w:World):Prop:=Q.n F w
def PX (Q:Post)(i:Nat)(F:Fm)(w:World):Prop:=Q.x i F w
def Bm7 (Q:Post)(F:Fm)(w:World):Prop:=Q.r F w
def Cq (T:Nat->Option TI)(t e s:Nat):Bool:=match T t,T e with
 |some ⟨.slice e',_,_,_⟩,some i=>Nat.beq e' e&&Nat.beq i.size s
 |_,_=>false
theorem Du (hT:TabOk P T){t e s:Nat}(h:Cq T t e s=true):P.underlying t=some (.slice e)/\(sizeOf e).run P w=.ok s w:=by
 unfold Cq at h
 split at h
 ·rename_i e1 e2
  simp only [Bool.and_eq_true] at h
  have h1:=Nat.eq_of_beq_eq_true h.1
  have h2:=Nat.eq_of_beq_eq_true h.2
  subst h1 h2
  exact ⟨Lt hT e1,Fa hT e2⟩
 ·cases h
theorem Ni (hT:TabOk P T)(e s:Nat){t:TypeId}{x ix:Operand}{a:Addr}{len cap:Nat}{ki:IntKind}{i:Int}(hop:o.op=.indexAddr t x ix)(hx:ev F x=.slice (some a) len cap)(hi:ev F ix=.int ki i)(h1:Cq T t e s=true)(hg:o.guard=none){d:Nat}(hd:o.dst=some d)(hn:Nat.blt d n=true)
  (h0:0<=i) (hl:i<len) (k:wl P n ops rest Q (Bd F d (.pointer (some (a.add (i.toNat*s))))) w):wl P n ops (o::rest) Q F w:=by
 refine Bh hg hd hn ?_ k
 obtain ⟨hu,hs⟩:=Du (w:=w) hT h1
 simp [execOp,hop,hx,hi,Instr.indexAt,asIntOf,B3 hu,hs,h0,hl]
theorem Al (hT:TabOk P T)(e s:Nat){t:TypeId}{x ix:Operand}{a:Addr}{len cap:Nat}{ki:IntKind}{i:Nat}(hop:o.op=.indexAddr t x ix)(hx:ev F x=.slice (some a) len cap)(hi:ev F ix=.int ki i)(h1:Cq T t e s=true)(hg:o.guard=none){d:Nat}(hd:o.dst=some d)(hn:Nat.blt d n=true)
  (hl:i<len) (k:wl P n ops rest Q (Bd F d (.pointer (some (a.add (i*s))))) w):wl P n ops (o::rest) Q F w:=
 Ni hT e s hop hx hi h1 hg hd hn (by omega) (by omega) (by simpa using k)
structure FnOk (P:Program)(f:FuncId):Prop where
 ok:∃ fn,P.funcs[f]?=some fn/\(fn.name == "runtime.NumGoroutine")=false/\fn.body.isNone=false
theorem C4 {f:FuncId}(h:FnOk P f)(args:Array Value):(callFunc f args).run P w=.ok (.enter f args) w:=by
 obtain ⟨fn,h1,h2,h3⟩:=h.ok
 have h2':¬ fn.name= "runtime.NumGoroutine" := by simpa using h2
 have h3':¬ fn.body=none:=by intro e;rw [e] at h3;cases h3
 simp [callFunc,h1,h2',h3']
theorem Bv {f:FuncId}{c:Call}{x:Operand}{args:List Value}{R:Ending->World->Prop}(hf:FnOk P f)(hc:Calls P f args.toArray w R)(hop:o.op=.call c)(hcal:c.callee=.value x)(hx:ev F x=.func (.func f) #[] #[])(hargs:c.args.toList.map (ev F)=args)(hg:o.guard=none){d:Nat}(hd:o.dst=some d)(hn:Nat.blt d n=true)
  (k:∀ e w1,R e w1->∃ v,e=.returned v/\wl P n ops rest Q (Bd F d v) w1):wl P n ops (o::rest) Q F w:=by
 refine Z6 hg hd hn ?_ hc k
 have:c.args.map (ev F)=args.toArray:=Array.toList_inj.1 (by rw [Array.toList_map,hargs])
 simp [execOp,hop,resolve,hcal,hx,Deferred.ofValue,this,invoke,C4 hf]
theorem Ge (z:List Value):∀ len:Nat,(List.range (len*z.length)).map (fun i=>z[i%z.length]!)=(List.replicate len z).flatten
 |0=>by simp
 |len+1=>by
  rw [Nat.succ_mul,Nat.add_comm,List.range_add,List.map_append,List.map_map,List.replicate_succ,List.flatten_cons,<- Ge z len]
  congr 1
  ·apply List.ext_getElem
   ·simp
   ·intro i h1 h2
    simp only [List.length_map,List.length_range] at h1
    simp [Nat.mod_eq_of_lt h1,h1]
  ·apply List.map_congr_left
   intro i _
   simp
theorem T7 (hT:TabOk P T)(e s:Nat){t:TypeId}{len:Nat}{parts:Array (Nat×Operand)}{i:TI}{z cs:List Value}(hop:o.op=.buildSlice t len parts)(h1:Cq T t e s=true)(hi:T e=some i)(hz:i.zero.cells=z.toArray)(hzl:Nat.beq z.length s=true)(hlen:Nat.ble (len*s) 16777216=true)
  (hc:Yn F (fun i=>some (i*s,s)) parts.toList (List.replicate len z).flatten=some cs):(execOp (ev F) o).run P w=.ok (.value (.slice (some ⟨w.heap.size,0,none⟩) len len)) (w.alloc (.cells cs.toArray e)):=by
 obtain ⟨hu,hs⟩:=Du (w:=w) hT h1
 obtain ⟨j,hj,hjz,_,_⟩:=Tv hT hi
 have hl:=Nat.le_of_ble_eq_true hlen
 have hzl':=Nat.eq_of_beq_eq_true hzl
 have hf:=K7 hc
 have hparts:(parts.map fun (i,x)=>(i,ev F x)).toList=parts.toList.map fun p=>(p.1,ev F p.2):=by simp
 have hstart:∀ zz:Array Value,zz=z.toArray->((Array.range (len*s)).map (fun x=>zz[x%zz.size]!))=((List.replicate len z).flatten).toArray:=by
  rintro zz rfl
  rw [<- Ge z len,hzl']
  apply Array.ext'
  simp [hzl']
 simp only [execOp,hop,Instr.buildSlice,Sem.run_bind,B3 hu,hs,Result.andThen_ok]
 rw [if_neg (by omega)]
 by_cases h0:len*s=0
 ·have hst:((Array.range (len*s)).map (fun x=>(#[]:Array Value)[x%(#[]:Array Value).size]!))=((List.replicate len z).flatten).toArray:=by
   rw [<- Ge z len,hzl',h0];simp
  rw [if_pos h0]
  simp only [Sem.run_bind,Sem.run_pure,Result.andThen_ok]
  rw [hst,hparts,hf]
  simp [newRow,newObj,Sem.run]
 ·rw [if_neg h0]
  have hzv:(zeroValue e).run P w=.ok i.zero w:=by simp [zeroValue,typeInfo,hj,hjz]
  simp only [Sem.run_bind,hzv,Result.andThen_ok,Sem.run_pure]
  rw [hstart _ hz,hparts,hf]
  simp [newRow,newObj,Sem.run]
theorem C7 (hT:TabOk P T)(e s:Nat){t:TypeId}{len:Nat}{parts:Array (Nat×Operand)}{i:TI}{z cs:List Value}(hop:o.op=.buildSlice t len parts)(h1:Cq T t e s=true)(hi:T e=some i)(hz:i.zero.cells=z.toArray)(hzl:Nat.beq z.length s=true)(hlen:Nat.ble (len*s) 16777216=true)
  (hc:Yn F (fun i=>some (i*s,s)) parts.toList (List.replicate len z).flatten=some cs) (hg:o.guard=none) {d:Nat} (hd:o.dst=some d) (hn:Nat.blt d n=true)
  (k:∀ g w1,New w w1 g cs e->wl P n ops rest Q (Bd F d (.slice (some ⟨g,0,none⟩) len len)) w1):wl P n ops (o::rest) Q F w:=
 Bh hg hd hn (T7 hT e s hop h1 hi hz hzl hlen hc) (k _ _ (Ce w cs e))
theorem Rk {t:TypeId}:∀ (vs cs:List Value) (g i:Nat) (w:World),w.heap[g]?=some (.cells cs.toArray t (0,0))->i+vs.length<=cs.length->(∀ v∈vs,v.oneCell'=true) ->
  ∃ w1,(storeCells ⟨g,0,none⟩ vs i).run P w=.ok () w1/\Put w w1 g (Ex cs i vs) t
 |[],cs,g,i,w,hb,_,_=>⟨w,by simp [storeCells],rfl,by simpa [Ex] using hb,⟨rfl,rfl,rfl,Nat.le_refl _,fun _ _ _=>rfl⟩⟩
 |v::vs,cs,g,i,w,hb,hl,h1=>by
  simp only [List.length_cons] at hl
  have hp:=Ja (off:=i) hb v
  obtain ⟨w1,hr,hp1⟩:=Rk vs (cs.set i v) g (i+1) _ hp.blk (by simp;omega) (fun u hu=>h1 u (by simp [hu]))
  have hc:w.cell? ⟨g,i,none⟩=some cs[i]:=Au hb (by simp [show i<cs.length by omega])
  have hf:w.frozen? ⟨g,i,none⟩=false:=by simp [World.frozen?,hb]
  have ha:(⟨g,0,none⟩:Addr).add i=⟨g,i,none⟩:=add_zero g i
  refine ⟨w1,?_,hp1.size.trans hp.size,by simpa [Ex] using hp1.blk,⟨hp1.grown.os.trans hp.grown.os,hp1.grown.tape.trans hp.grown.tape,hp1.grown.output.trans hp.grown.output,Nat.le_trans hp.grown.size hp1.grown.size,fun k hk hne=>(hp1.grown.block k (Nat.lt_of_lt_of_le hk hp.grown.size) hne).trans (hp.grown.block k hk hne)⟩⟩
  simp only [storeCells,Sem.run_bind,ha]
  rw [run_store P w _ v .plain (h1 v (by simp)),hc]
  simp only [hf,Bool.false_eq_true,if_false,Result.andThen_ok]
  exact hr
def P4 (T:Nat->Option TI)(t m:Nat):Bool:=match T t with|some i=>Nat.beq i.size m|none=>false
theorem Jr (hT:TabOk P T){t m:Nat}(h:P4 T t m=true):(sizeOf t).run P w=.ok m w:=by
 unfold P4 at h
 split at h
 ·rename_i i hi
  rw [Fa hT hi,Nat.eq_of_beq_eq_true h]
 ·cases h
theorem Di (hT:TabOk P T){t t':TypeId}{x y:Operand}{g:Nat}{cs vs:List Value}(hb:w.heap[g]?=some (.cells cs.toArray t' (0,0)))(hop:o.op=.store t x y)(hx:ev F x=.pointer (some ⟨g,0,none⟩))(hy:ev F y=.agg vs.toArray)
  (hs:P4 T t vs.length=true) (hl:vs.length=cs.length) (hv:∀ v∈vs,v.oneCell'=true) (hg:o.guard=none) (hd:o.dst=none)
  (k:∀ w1,Put w w1 g vs t'->wl P n ops rest Q F w1):wl P n ops (o::rest) Q F w:=by
 obtain ⟨w1,hr,hp⟩:=Rk (P:=P) vs cs g 0 w hb (by omega) hv
 have key:∀ (vs cs pre:List Value),vs.length=cs.length->Ex (pre++cs) pre.length vs=pre++vs:=by
  intro vs
  induction vs with
  |nil=>intro cs pre h;have:cs=[]:=List.eq_nil_of_length_eq_zero h.symm;simp [Ex,this]
  |cons v vs ih=>
   intro cs pre h
   cases cs with
   |nil=>simp at h
   |cons c cs=>
    simp only [Ex]
    have e1:(pre++c::cs).set pre.length v=(pre++[v])++cs:=by simp
    rw [e1]
    have:=ih cs (pre++[v]) (by simpa using h)
    simp only [List.length_append,List.length_singleton] at this
    rw [this];simp
 have e:=key vs cs [] hl
 simp only [List.nil_append,List.length_nil] at e
 rw [e] at hp
 refine Ua hg hd ?_ (k w1 hp)
 simp [execOp,hop,hx,hy,Instr.storeAt,Instr.sureAddr,storeVar,Value.cells,Jr hT hs,hr]
end
attribute [irreducible] Bm7 PN PX
end Go.Proofs.YtghmdfegfehhkaaGreatDoor
namespace Go.Proofs.YtghmdfegfehhkaaGreatDoor
theorem fn7:FnOk Tryz.prog 7:=⟨Tryz.f7,Tryz.func7,by kernel_rfl,by kernel_rfl⟩
theorem fn9:FnOk Tryz.prog 9:=⟨Tryz.f9,Tryz.func9,by kernel_rfl,by kernel_rfl⟩
theorem Be9:FnOk Tryz.prog 10:=⟨Tryz.f10,Tryz.func10,by kernel_rfl,by kernel_rfl⟩
theorem Bm0:FnOk Tryz.prog 13:=⟨Tryz.f13,Tryz.func13,by kernel_rfl,by kernel_rfl⟩
theorem Ba7:FnOk Tryz.prog 14:=⟨Tryz.f14,Tryz.func14,by kernel_rfl,by kernel_rfl⟩
theorem Bn6:FnOk Tryz.prog 15:=⟨Tryz.f15,Tryz.func15,by kernel_rfl,by kernel_rfl⟩
theorem Bi2:FnOk Tryz.prog 18:=⟨Tryz.f18,Tryz.func18,by kernel_rfl,by kernel_rfl⟩
theorem Bn0:FnOk Tryz.prog 19:=⟨Tryz.f19,Tryz.func19,by kernel_rfl,by kernel_rfl⟩
theorem Bp7:FnOk Tryz.prog 22:=⟨Tryz.f22,Tryz.func22,by kernel_rfl,by kernel_rfl⟩
theorem Bi3:FnOk Tryz.prog 28:=⟨Tryz.f28,Tryz.func28,by kernel_rfl,by kernel_rfl⟩
theorem Bd5:FnOk Tryz.prog 29:=⟨Tryz.f29,Tryz.func29,by kernel_rfl,by kernel_rfl⟩
theorem Bnx:FnOk Tryz.prog 30:=⟨Tryz.f30,Tryz.func30,by kernel_rfl,by kernel_rfl⟩
theorem Bnq:FnOk Tryz.prog 31:=⟨Tryz.f31,Tryz.func31,by kernel_rfl,by kernel_rfl⟩
theorem Bgy:FnOk Tryz.prog 32:=⟨Tryz.f32,Tryz.func32,by kernel_rfl,by kernel_rfl⟩
theorem Alx:FnOk Tryz.prog 33:=⟨Tryz.f33,Tryz.func33,by kernel_rfl,by kernel_rfl⟩
theorem Bn1:FnOk Tryz.prog 34:=⟨Tryz.f34,Tryz.func34,by kernel_rfl,by kernel_rfl⟩
theorem Atk:FnOk Tryz.prog 35:=⟨Tryz.f35,Tryz.func35,by kernel_rfl,by kernel_rfl⟩
theorem Bjk:FnOk Tryz.prog 36:=⟨Tryz.f36,Tryz.func36,by kernel_rfl,by kernel_rfl⟩
theorem Bl5:FnOk Tryz.prog 37:=⟨Tryz.f37,Tryz.func37,by kernel_rfl,by kernel_rfl⟩
theorem Y7:FnOk Tryz.prog 39:=⟨Tryz.f39,Tryz.func39,by kernel_rfl,by kernel_rfl⟩
theorem Bbk:FnOk Tryz.prog 40:=⟨Tryz.f40,Tryz.func40,by kernel_rfl,by kernel_rfl⟩
theorem Bp6:FnOk Tryz.prog 41:=⟨Tryz.f41,Tryz.func41,by kernel_rfl,by kernel_rfl⟩
theorem Ap9:FnOk Tryz.prog 42:=⟨Tryz.f42,Tryz.func42,by kernel_rfl,by kernel_rfl⟩
theorem Bm2:FnOk Tryz.prog 49:=⟨Tryz.f49,Tryz.func49,by kernel_rfl,by kernel_rfl⟩
theorem Bp0:FnOk Tryz.prog 50:=⟨Tryz.f50,Tryz.func50,by kernel_rfl,by kernel_rfl⟩
theorem Bm9:FnOk Tryz.prog 51:=⟨Tryz.f51,Tryz.func51,by kernel_rfl,by kernel_rfl⟩
theorem Biz:FnOk Tryz.prog 52:=⟨Tryz.f52,Tryz.func52,by kernel_rfl,by kernel_rfl⟩
theorem Bo6:FnOk Tryz.prog 53:=⟨Tryz.f53,Tryz.func53,by kernel_rfl,by kernel_rfl⟩
theorem Awk:FnOk Tryz.prog 62:=⟨Tryz.f62,Tryz.func62,by kernel_rfl,by kernel_rfl⟩
theorem Bj0:FnOk Tryz.prog 63:=⟨Tryz.f63,Tryz.func63,by kernel_rfl,by kernel_rfl⟩
theorem Ax2:FnOk Tryz.prog 65:=⟨Tryz.f65,Tryz.func65,by kernel_rfl,by kernel_rfl⟩
theorem Au9:FnOk Tryz.prog 66:=⟨Tryz.f66,Tryz.func66,by kernel_rfl,by kernel_rfl⟩
theorem Bd8:FnOk Tryz.prog 67:=⟨Tryz.f67,Tryz.func67,by kernel_rfl,by kernel_rfl⟩
theorem Boy:FnOk Tryz.prog 68:=⟨Tryz.f68,Tryz.func68,by kernel_rfl,by kernel_rfl⟩
theorem Bdz:FnOk Tryz.prog 69:=⟨Tryz.f69,Tryz.func69,by kernel_rfl,by kernel_rfl⟩
theorem Bi6:FnOk Tryz.prog 70:=⟨Tryz.f70,Tryz.func70,by kernel_rfl,by kernel_rfl⟩
theorem Bk2:FnOk Tryz.prog 72:=⟨Tryz.f72,Tryz.func72,by kernel_rfl,by kernel_rfl⟩
theorem Box:FnOk Tryz.prog 73:=⟨Tryz.f73,Tryz.func73,by kernel_rfl,by kernel_rfl⟩
theorem Aj0:FnOk Tryz.prog 74:=⟨Tryz.f74,Tryz.func74,by kernel_rfl,by kernel_rfl⟩
theorem Ba8:FnOk Tryz.prog 75:=⟨Tryz.f75,Tryz.func75,by kernel_rfl,by kernel_rfl⟩
theorem Bp5:FnOk Tryz.prog 76:=⟨Tryz.f76,Tryz.func76,by kernel_rfl,by kernel_rfl⟩
theorem Bm1:FnOk Tryz.prog 77:=⟨Tryz.f77,Tryz.func77,by kernel_rfl,by kernel_rfl⟩
theorem Bp4:FnOk Tryz.prog 78:=⟨Tryz.f78,Tryz.func78,by kernel_rfl,by kernel_rfl⟩
theorem Aw4:FnOk Tryz.prog 79:=⟨Tryz.f79,Tryz.func79,by kernel_rfl,by kernel_rfl⟩
theorem Bm3:FnOk Tryz.prog 80:=⟨Tryz.f80,Tryz.func80,by kernel_rfl,by kernel_rfl⟩
theorem Aw6:FnOk Tryz.prog 86:=⟨Tryz.f86,Tryz.func86,by kernel_rfl,by kernel_rfl⟩
theorem Bj4:FnOk Tryz.prog 87:=⟨Tryz.f87,Tryz.func87,by kernel_rfl,by kernel_rfl⟩
theorem Bn3:FnOk Tryz.prog 88:=⟨Tryz.f88,Tryz.func88,by kernel_rfl,by kernel_rfl⟩
theorem Bo3:FnOk Tryz.prog 89:=⟨Tryz.f89,Tryz.func89,by kernel_rfl,by kernel_rfl⟩
theorem Bl6:FnOk Tryz.prog 90:=⟨Tryz.f90,Tryz.func90,by kernel_rfl,by kernel_rfl⟩
theorem Bc1:FnOk Tryz.prog 91:=⟨Tryz.f91,Tryz.func91,by kernel_rfl,by kernel_rfl⟩
theorem Bj8:FnOk Tryz.prog 92:=⟨Tryz.f92,Tryz.func92,by kernel_rfl,by kernel_rfl⟩
theorem Blz:FnOk Tryz.prog 96:=⟨Tryz.f96,Tryz.func96,by kernel_rfl,by kernel_rfl⟩
theorem Boq:FnOk Tryz.prog 97:=⟨Tryz.f97,Tryz.func97,by kernel_rfl,by kernel_rfl⟩
theorem Bj5:FnOk Tryz.prog 99:=⟨Tryz.f99,Tryz.func99,by kernel_rfl,by kernel_rfl⟩
theorem Avy:FnOk Tryz.prog 103:=⟨Tryz.f103,Tryz.func103,by kernel_rfl,by kernel_rfl⟩
theorem Axx:FnOk Tryz.prog 104:=⟨Tryz.f104,Tryz.func104,by kernel_rfl,by kernel_rfl⟩
theorem Bek:FnOk Tryz.prog 105:=⟨Tryz.f105,Tryz.func105,by kernel_rfl,by kernel_rfl⟩
theorem Ba3:FnOk Tryz.prog 113:=⟨Tryz.f113,Tryz.func113,by kernel_rfl,by kernel_rfl⟩
theorem Bdq:FnOk Tryz.prog 114:=⟨Tryz.f114,Tryz.func114,by kernel_rfl,by kernel_rfl⟩
theorem Bg6:FnOk Tryz.prog 115:=⟨Tryz.f115,Tryz.func115,by kernel_rfl,by kernel_rfl⟩
theorem Amz:FnOk Tryz.prog 116:=⟨Tryz.f116,Tryz.func116,by kernel_rfl,by kernel_rfl⟩
theorem Ql:FnOk Tryz.prog 117:=⟨Tryz.f117,Tryz.func117,by kernel_rfl,by kernel_rfl⟩
theorem An8:FnOk Tryz.prog 118:=⟨Tryz.f118,Tryz.func118,by kernel_rfl,by kernel_rfl⟩
theorem Tg:FnOk Tryz.prog 119:=⟨Tryz.f119,Tryz.func119,by kernel_rfl,by kernel_rfl⟩
theorem Bb9:FnOk Tryz.prog 120:=⟨Tryz.f120,Tryz.func120,by kernel_rfl,by kernel_rfl⟩
theorem Bbx:FnOk Tryz.prog 121:=⟨Tryz.f121,Tryz.func121,by kernel_rfl,by kernel_rfl⟩
theorem Awz:FnOk Tryz.prog 122:=⟨Tryz.f122,Tryz.func122,by kernel_rfl,by kernel_rfl⟩
theorem Be2:FnOk Tryz.prog 123:=⟨Tryz.f123,Tryz.func123,by kernel_rfl,by kernel_rfl⟩
theorem Bc0:FnOk Tryz.prog 124:=⟨Tryz.f124,Tryz.func124,by kernel_rfl,by kernel_rfl⟩
theorem Be7:FnOk Tryz.prog 126:=⟨Tryz.f126,Tryz.func126,by kernel_rfl,by kernel_rfl⟩
theorem Ap1:FnOk Tryz.prog 127:=⟨Tryz.f127,Tryz.func127,by kernel_rfl,by kernel_rfl⟩
theorem Be4:FnOk Tryz.prog 130:=⟨Tryz.f130,Tryz.func130,by kernel_rfl,by kernel_rfl⟩
theorem Am8:FnOk Tryz.prog 131:=⟨Tryz.f131,Tryz.func131,by kernel_rfl,by kernel_rfl⟩
theorem Vv:FnOk Tryz.prog 132:=⟨Tryz.f132,Tryz.func132,by kernel_rfl,by kernel_rfl⟩
theorem Af0:FnOk Tryz.prog 133:=⟨Tryz.f133,Tryz.func133,by kernel_rfl,by kernel_rfl⟩
theorem Be6:FnOk Tryz.prog 135:=⟨Tryz.f135,Tryz.func135,by kernel_rfl,by kernel_rfl⟩
theorem Amx:FnOk Tryz.prog 136:=⟨Tryz.f136,Tryz.func136,by kernel_rfl,by kernel_rfl⟩
theorem Bd1:FnOk Tryz.prog 138:=⟨Tryz.f138,Tryz.func138,by kernel_rfl,by kernel_rfl⟩
theorem Bdy:FnOk Tryz.prog 139:=⟨Tryz.f139,Tryz.func139,by kernel_rfl,by kernel_rfl⟩
theorem Xa:FnOk Tryz.prog 146:=⟨Tryz.f146,Tryz.func146,by kernel_rfl,by kernel_rfl⟩
theorem Bck:FnOk Tryz.prog 147:=⟨Tryz.f147,Tryz.func147,by kernel_rfl,by kernel_rfl⟩
theorem Azq:FnOk Tryz.prog 148:=⟨Tryz.f148,Tryz.func148,by kernel_rfl,by kernel_rfl⟩
theorem Ap4:FnOk Tryz.prog 149:=⟨Tryz.f149,Tryz.func149,by kernel_rfl,by kernel_rfl⟩
theorem Az3:FnOk Tryz.prog 150:=⟨Tryz.f150,Tryz.func150,by kernel_rfl,by kernel_rfl⟩
theorem Abz:FnOk Tryz.prog 151:=⟨Tryz.f151,Tryz.func151,by kernel_rfl,by kernel_rfl⟩
theorem Aw1:FnOk Tryz.prog 152:=⟨Tryz.f152,Tryz.func152,by kernel_rfl,by kernel_rfl⟩
theorem Ax9:FnOk Tryz.prog 153:=⟨Tryz.f153,Tryz.func153,by kernel_rfl,by kernel_rfl⟩
theorem Az5:FnOk Tryz.prog 155:=⟨Tryz.f155,Tryz.func155,by kernel_rfl,by kernel_rfl⟩
theorem Ao5:FnOk Tryz.prog 164:=⟨Tryz.f164,Tryz.func164,by kernel_rfl,by kernel_rfl⟩
theorem Amk:FnOk Tryz.prog 167:=⟨Tryz.f167,Tryz.func167,by kernel_rfl,by kernel_rfl⟩
theorem Bc5:FnOk Tryz.prog 168:=⟨Tryz.f168,Tryz.func168,by kernel_rfl,by kernel_rfl⟩
theorem Kw:FnOk Tryz.prog 169:=⟨Tryz.f169,Tryz.func169,by kernel_rfl,by kernel_rfl⟩
theorem Zy:FnOk Tryz.prog 170:=⟨Tryz.f170,Tryz.func170,by kernel_rfl,by kernel_rfl⟩
theorem Bak:FnOk Tryz.prog 171:=⟨Tryz.f171,Tryz.func171,by kernel_rfl,by kernel_rfl⟩
theorem Bf2:FnOk Tryz.prog 172:=⟨Tryz.f172,Tryz.func172,by kernel_rfl,by kernel_rfl⟩
theorem Avz:FnOk Tryz.prog 173:=⟨Tryz.f173,Tryz.func173,by kernel_rfl,by kernel_rfl⟩
theorem Az7:FnOk Tryz.prog 174:=⟨Tryz.f174,Tryz.func174,by kernel_rfl,by kernel_rfl⟩
theorem Ag1:FnOk Tryz.prog 175:=⟨Tryz.f175,Tryz.func175,by kernel_rfl,by kernel_rfl⟩
theorem Zl:FnOk Tryz.prog 176:=⟨Tryz.f176,Tryz.func176,by kernel_rfl,by kernel_rfl⟩
theorem Bc2:FnOk Tryz.prog 177:=⟨Tryz.f177,Tryz.func177,by kernel_rfl,by kernel_rfl⟩
theorem Beq:FnOk Tryz.prog 186:=⟨Tryz.f186,Tryz.func186,by kernel_rfl,by kernel_rfl⟩
theorem Az8:FnOk Tryz.prog 187:=⟨Tryz.f187,Tryz.func187,by kernel_rfl,by kernel_rfl⟩
theorem An3:FnOk Tryz.prog 188:=⟨Tryz.f188,Tryz.func188,by kernel_rfl,by kernel_rfl⟩
theorem Ap5:FnOk Tryz.prog 189:=⟨Tryz.f189,Tryz.func189,by kernel_rfl,by kernel_rfl⟩
theorem Axy:FnOk Tryz.prog 197:=⟨Tryz.f197,Tryz.func197,by kernel_rfl,by kernel_rfl⟩
theorem Zq:FnOk Tryz.prog 198:=⟨Tryz.f198,Tryz.func198,by kernel_rfl,by kernel_rfl⟩
theorem Qz:FnOk Tryz.prog 199:=⟨Tryz.f199,Tryz.func199,by kernel_rfl,by kernel_rfl⟩
theorem Oa:FnOk Tryz.prog 200:=⟨Tryz.f200,Tryz.func200,by kernel_rfl,by kernel_rfl⟩
theorem Ay5:FnOk Tryz.prog 201:=⟨Tryz.f201,Tryz.func201,by kernel_rfl,by kernel_rfl⟩
theorem Bey:FnOk Tryz.prog 202:=⟨Tryz.f202,Tryz.func202,by kernel_rfl,by kernel_rfl⟩
theorem Ap0:FnOk Tryz.prog 203:=⟨Tryz.f203,Tryz.func203,by kernel_rfl,by kernel_rfl⟩
theorem Vc:FnOk Tryz.prog 204:=⟨Tryz.f204,Tryz.func204,by kernel_rfl,by kernel_rfl⟩
theorem Bf8:FnOk Tryz.prog 205:=⟨Tryz.f205,Tryz.func205,by kernel_rfl,by kernel_rfl⟩
theorem Ao7:FnOk Tryz.prog 206:=⟨Tryz.f206,Tryz.func206,by kernel_rfl,by kernel_rfl⟩
theorem Bd0:FnOk Tryz.prog 207:=⟨Tryz.f207,Tryz.func207,by kernel_rfl,by kernel_rfl⟩
theorem Nb:FnOk Tryz.prog 208:=⟨Tryz.f208,Tryz.func208,by kernel_rfl,by kernel_rfl⟩
theorem Bp8:FnOk Tryz.prog 209:=⟨Tryz.f209,Tryz.func209,by kernel_rfl,by kernel_rfl⟩
theorem Bb6:FnOk Tryz.prog 215:=⟨Tryz.f215,Tryz.func215,by kernel_rfl,by kernel_rfl⟩
theorem Aw0:FnOk Tryz.prog 217:=⟨Tryz.f217,Tryz.func217,by kernel_rfl,by kernel_rfl⟩
theorem Wo:FnOk Tryz.prog 218:=⟨Tryz.f218,Tryz.func218,by kernel_rfl,by kernel_rfl⟩
theorem Azx:FnOk Tryz.prog 219:=⟨Tryz.f219,Tryz.func219,by kernel_rfl,by kernel_rfl⟩
theorem Pf:FnOk Tryz.prog 220:=⟨Tryz.f220,Tryz.func220,by kernel_rfl,by kernel_rfl⟩
theorem Bc9:FnOk Tryz.prog 221:=⟨Tryz.f221,Tryz.func221,by kernel_rfl,by kernel_rfl⟩
theorem Bg0:FnOk Tryz.prog 222:=⟨Tryz.f222,Tryz.func222,by kernel_rfl,by kernel_rfl⟩
theorem Aoz:FnOk Tryz.prog 223:=⟨Tryz.f223,Tryz.func223,by kernel_rfl,by kernel_rfl⟩
theorem Bcx:FnOk Tryz.prog 224:=⟨Tryz.f224,Tryz.func224,by kernel_rfl,by kernel_rfl⟩
theorem Bdx:FnOk Tryz.prog 225:=⟨Tryz.f225,Tryz.func225,by kernel_rfl,by kernel_rfl⟩
theorem Bd2:FnOk Tryz.prog 233:=⟨Tryz.f233,Tryz.func233,by kernel_rfl,by kernel_rfl⟩
theorem Ayy:FnOk Tryz.prog 235:=⟨Tryz.f235,Tryz.func235,by kernel_rfl,by kernel_rfl⟩
theorem Az1:FnOk Tryz.prog 237:=⟨Tryz.f237,Tryz.func237,by kernel_rfl,by kernel_rfl⟩
theorem Ax4:FnOk Tryz.prog 239:=⟨Tryz.f239,Tryz.func239,by kernel_rfl,by kernel_rfl⟩
theorem Ap2:FnOk Tryz.prog 240:=⟨Tryz.f240,Tryz.func240,by kernel_rfl,by kernel_rfl⟩
theorem Bgz:FnOk Tryz.prog 241:=⟨Tryz.f241,Tryz.func241,by kernel_rfl,by kernel_rfl⟩
theorem Bh8:FnOk Tryz.prog 254:=⟨Tryz.f254,Tryz.func254,by kernel_rfl,by kernel_rfl⟩
theorem Bfk:FnOk Tryz.prog 258:=⟨Tryz.f258,Tryz.func258,by kernel_rfl,by kernel_rfl⟩
theorem Au7:FnOk Tryz.prog 261:=⟨Tryz.f261,Tryz.func261,by kernel_rfl,by kernel_rfl⟩
theorem An5:FnOk Tryz.prog 269:=⟨Tryz.f269,Tryz.func269,by kernel_rfl,by kernel_rfl⟩
open Go.RowKit
def Bu (Φ:World->Prop):Prop:=∀ w w',Φ w->Below w.heap.size w w'->Φ w'
def quB (P:Program)(o:Oper)(a:Act)(C:World->Prop)(v:Value):Prop:=∀ w,C w->o.quietAt P a (fun w'=>Below w.heap.size w w') w v
def Fl (P:Program)(ops:Array Oper)(C:World->Prop)(Q:Act->Prop):List Oper->Act->Prop
 |[],a=>Q a
 |o::rest,a=>if Region.wanted o (yielded ops a.tmps) then ∃ v,quB P o a C v/\Fl P ops C Q rest (a.put o.dst v) else Fl P ops C Q rest (a.put o.dst undef)
theorem Xw {P:Program}{o:Oper}{a:Act}{C:World->Prop}(hC:Bu C){v:Value}(h:quB P o a C v)(w:World)(hw:C w):o.quietAt P a C w v:=by
 have h1:=h w hw
 unfold Oper.quietAt at *
 generalize (execOp a.eval o).run P w=r at *
 cases r with
 |ok n w'=>
  cases n<;>simp only [Oper.quietUpon] at h1 ⊢<;>first|exact h1|exact ⟨h1.1,h1.2.mono fun e w'' ⟨h2,h3⟩=>⟨h2,hC _ _ hw h3⟩⟩
 |halt x w'=>exact h1
theorem Il {P:Program}{ops:Array Oper}{C:World->Prop}(hC:Bu C){Q:Act->Prop}:∀ {rest:List Oper} {a:Act},Fl P ops C Q rest a->wpQuiet P ops C Q rest a
 |[],a,h=>h
 |o::rest,a,h=>by
  unfold Fl at h
  unfold wpQuiet
  split
  ·rename_i hw
   rw [if_pos hw] at h
   obtain ⟨v,h1,h2⟩:=h
   exact ⟨v,fun w hw=>Xw hC h1 w hw,Il hC h2⟩
  ·rename_i hw
   rw [if_neg hw] at h
   exact Il hC h
theorem Da {P:Program}{ops:Array Oper}{C:World->Prop}{K K':Act->Prop}(hk:∀ a,K a->K' a):∀ {rest:List Oper} {a:Act},Fl P ops C K rest a->Fl P ops C K' rest a
 |[],a,h=>hk _ h
 |o::rest,a,h=>by
  unfold Fl at h ⊢
  split
  ·rename_i hw
   rw [if_pos hw] at h
   obtain ⟨v,h1,h2⟩:=h
   exact ⟨v,h1,Da hk h2⟩
  ·rename_i hw
   rw [if_neg hw] at h
   exact Da hk h
section
variable {P:Program}{ops:Array Oper}{md:Region.Mode}{C:World->Prop}
def hUp (P:Program)(C:World->Prop)(o:Oper)(a:Act)(Φ:World->Prop)(K:(World->Prop)->Act->Prop):Prop:=
 (∃ v,quB P o a C v/\K Φ (a.put o.dst v)) \/
 (∃ Ψ:Value->World->Prop,(∀ v,Bu (Ψ v))/\(∀ w,C w->Φ w->∃ v w',(execOp a.eval o).run P w=.ok (.value v) w'/\C w'/\Ψ v w')/\∀ v,K (Ψ v) (a.put o.dst v))
def hOp (P:Program)(ops:Array Oper)(C:World->Prop)(i:Nat)(Φ:World->Prop)(K:(World->Prop)->Act->Prop)(a:Act):Prop:=
 match ops[i]? with
 |none=>K Φ a
 |some o=>if Region.wanted o (yielded ops a.tmps) then hUp P C o a Φ K else K Φ (a.put o.dst undef)
def wpH (P:Program)(md:Region.Mode)(ops:Array Oper)(C:World->Prop)(n:Nat)(L:Array Bool->(World->Prop)->Act->Prop):Nat->Array Bool->(World->Prop)->Act->Prop
 |0,listed,Φ,a=>L listed Φ a
 |f+1,listed,Φ,a=>Region.ready md ops listed≠[]/\∀ i∈Region.ready md ops listed,i<n/\hOp P ops C i Φ (fun Φ' a'=>wpH P md ops C n L f (listed.setIfInBounds i true) Φ' a') a
theorem Ac6 {o:Oper}{a:Act}{Φ:World->Prop}{K K':(World->Prop)->Act->Prop}(h:∀ Φ a,K Φ a->K' Φ a)(hh:hUp P C o a Φ K):hUp P C o a Φ K':=by
 rcases hh with ⟨v,h1,h2⟩|⟨Ψ,h1,h2,h3⟩
 ·exact .inl ⟨v,h1,h _ _ h2⟩
 ·exact .inr ⟨Ψ,h1,h2,fun v=>h _ _ (h3 v)⟩
theorem Zw {i:Nat}{a:Act}{Φ:World->Prop}{K K':(World->Prop)->Act->Prop}(h:∀ Φ a,K Φ a->K' Φ a)(hh:hOp P ops C i Φ K a):hOp P ops C i Φ K' a:=by
 unfold hOp at *
 split
 ·rename_i ho;simp only [ho] at hh;exact h _ _ hh
 ·rename_i o ho
  simp only [ho] at hh
  split
  ·rename_i hw;simp only [hw,if_true] at hh;exact Ac6 h hh
  ·rename_i hw;simp only [hw] at hh;exact h _ _ hh
theorem X7 (hC:Bu C){o:Oper}{a:Act}{Φ:World->Prop}{K:(World->Prop)->Act->Prop}{K':Act->World->Prop}{Q':Exit->Act->World->Prop}{w:World}(hw:C w)(hst:Bu Φ)(hΦ:Φ w)
  (h:∀ Φ a w',Bu Φ->C w'->Φ w'->K Φ a->K' a w') (hh:hUp P C o a Φ K):o.wp P a w K' Q':=by
 rcases hh with ⟨v,h1,h2⟩|⟨Ψ,h1,h2,h3⟩
 ·have h3:=h1 w hw
  unfold Oper.quietAt at h3
  unfold Oper.wp
  generalize (execOp a.eval o).run P w=r at *
  cases r with
  |ok n w'=>
   cases n<;>simp only [Oper.quietUpon] at h3<;>simp only [Oper.upon]
   case value u=>
    obtain ⟨e1,e2⟩:=h3
    rw [e1,e2]
    exact h _ _ _ hst hw hΦ h2
   case skip=>
    obtain ⟨e1,e2⟩:=h3
    rw [e1,<- e2]
    exact h _ _ _ hst hw hΦ h2
   case enter f args=>
    obtain ⟨e1,hc⟩:=h3
    rw [e1]
    exact hc.mono fun e w'' ⟨he,hw''⟩=>by subst he;exact h _ _ _ hst (hC _ _ hw hw'') (hst _ _ hΦ hw'') h2
  |halt x w'=>simp only [Oper.quietUpon] at h3
 ·obtain ⟨v,w',h4,h5,h6⟩:=h2 w hw hΦ
  unfold Oper.wp
  rw [h4]
  exact h _ _ _ (h1 v) h5 h6 (h3 v)
theorem S5 (hC:Bu C){i:Nat}{a:Act}{Φ:World->Prop}{K:(World->Prop)->Act->Prop}{K':Act->World->Prop}{Q':Exit->Act->World->Prop}{w:World}(hw:C w)(hst:Bu Φ)(hΦ:Φ w)
  (h:∀ Φ a w',Bu Φ->C w'->Φ w'->K Φ a->K' a w') (hh:hOp P ops C i Φ K a):wpOp P ops Q' i K' a w:=by
 unfold hOp at hh
 unfold wpOp
 split
 ·rename_i ho;simp only [ho] at hh;exact h _ _ _ hst hw hΦ hh
 ·rename_i o ho
  simp only [ho] at hh
  split
  ·rename_i hwn;simp only [hwn,if_true] at hh;exact .inl (X7 hC hw hst hΦ h hh)
  ·rename_i hwn;simp only [hwn] at hh;exact h _ _ _ hst hw hΦ hh
theorem N3 (hC:Bu C){n g:Nat}{L:Array Bool->(World->Prop)->Act->Prop}{Q':Exit->Act->World->Prop}(hL:∀ listed Φ a w,C w->Φ w->L listed Φ a->wpAny P md ops Q' g listed a w) :
  ∀ (f:Nat) (listed:Array Bool) (Φ:World->Prop) (a:Act) (w:World),Bu Φ->C w->Φ w->wpH P md ops C n L f listed Φ a->wpAny P md ops Q' (f+g) listed a w
 |0,listed,Φ,a,w,_,hw,hΦ,h=>by rw [Nat.zero_add];exact hL _ _ _ _ hw hΦ h
 |f+1,listed,Φ,a,w,hst,hw,hΦ,h=>by
  rw [show f+1+g=(f+g)+1 by omega]
  exact ⟨fun h0=>absurd h0 h.1,fun i hi=>S5 hC hw hst hΦ (fun Φ' a' w' hst' hw' hΦ' h'=>N3 hC hL f _ Φ' a' w' hst' hw' hΦ' h') (h.2 i hi).2⟩
def YieldsB (P:Program)(ops:Array Oper)(C:World->Prop)(o:Oper)(v:Value)(a:Act):Prop:=
 (Region.wanted o (yielded ops a.tmps)=true/\quB P o a C v)\/(Region.wanted o (yielded ops a.tmps)=false/\v=undef)
theorem YieldsB.hOp {i:Nat}{o:Oper}{v:Value}{a:Act}(hi:ops[i]?=some o)(hy:YieldsB P ops C o v a){Φ:World->Prop}{K:(World->Prop)->Act->Prop}(h:K Φ (a.put o.dst v)):hOp P ops C i Φ K a:=by
 unfold Proofs.YtghmdfegfehhkaaGreatDoor.hOp
 simp only [hi]
 rcases hy with ⟨hw,hv⟩|⟨hw,rfl⟩
 ·simp only [hw,if_true];exact .inl ⟨v,hv,h⟩
 ·simp only [hw,Bool.false_eq_true,if_false];exact h
theorem YieldsB.of_same {o:Oper}{v:Value}{a a':Act}(hy:YieldsB P ops C o v a)(he:execOp a'.eval o=execOp a.eval o)
  (hw:Region.wanted o (yielded ops a'.tmps)=Region.wanted o (yielded ops a.tmps)):YieldsB P ops C o v a':=by
 unfold YieldsB quB Oper.quietAt at *
 rw [he,hw]
 exact hy
theorem Ak6 {j:Nat}{oi oj:Oper}{v:Value}(hj:ops[j]?=some oj)(hap:oi.apart ops oj=true)
  (hsi:∀ cs b,oi.op≠.select cs b) (hsj:∀ cs b,oj.op≠.select cs b) {Φ:World->Prop} {K:(World->Prop)->Act->Prop} {a:Act}
  (hy:YieldsB P ops C oi v a) (h:hOp P ops C j Φ K (a.put oi.dst v)) :
  hOp P ops C j Φ (fun Φ' a'=>YieldsB P ops C oi v a'/\K Φ' (a'.put oi.dst v)) a:=by
 obtain ⟨h1,h2,h3⟩:=Oper.apart_spec hap
 have keep:∀ (a:Act),YieldsB P ops C oi v a->∀ u,YieldsB P ops C oi v (a.put oj.dst u):=fun a hy u=>
  hy.of_same (execOp_put oi hsi a oj.dst u h3) (wanted_put oi a oj.dst u h3)
 unfold Proofs.YtghmdfegfehhkaaGreatDoor.hOp at *
 simp only [hj] at *
 rw [wanted_put oj a oi.dst v h1] at h
 split
 ·rename_i hw
  simp only [hw,if_true] at h
  rcases h with ⟨u,hu,hn⟩|⟨Ψ,g1,g2,g3⟩
  ·refine .inl ⟨u,fun w hw'=>?_,keep a hy u,by rw [<- Act.put_comm a v u h2];exact hn⟩
   have:=hu w hw'
   unfold Oper.quietAt at *
   rwa [execOp_put oj hsj a oi.dst v h1] at this
  ·refine .inr ⟨Ψ,g1,fun w hw' hΦ'=>?_,fun u=>⟨keep a hy u,by rw [<- Act.put_comm a v u h2];exact g3 u⟩⟩
   have:=g2 w hw' hΦ'
   rwa [execOp_put oj hsj a oi.dst v h1] at this
 ·rename_i hw
  simp only [hw] at h
  exact ⟨keep a hy _,by rw [<- Act.put_comm a v undef h2];exact h⟩
theorem X0 {n i:Nat}{oi:Oper}{v:Value}{L:Array Bool->(World->Prop)->Act->Prop}(hi:ops[i]?=some oi)(hsel:∀ (j:Nat) (o:Oper) cs b,ops[j]?=some o->o.op≠.select cs b)
  (hs:Region.sinkB md ops n=true) (hc:Region.chainB md ops n=true) (hn:n<ops.size) (hin:i<n)
  (hdone:∀ listed Φ a,L listed Φ a->∀ j∈Region.ready md ops listed,n<=j) :
  ∀ (f:Nat) (listed:Array Bool) (Φ:World->Prop) (a:Act),HeadInv md ops n listed ->
   (∀ j oj,ops[j]?=some oj->j≠i->listed.getD j true=false->(∀ e∈oj.after,Region.binds md e=true->e.on≠i)->oi.apart ops oj=true) ->
   i∈Region.ready md ops listed->YieldsB P ops C oi v a ->
   wpH P md ops C n L f (listed.setIfInBounds i true) Φ (a.put oi.dst v)->wpH P md ops C n L (f+1) listed Φ a:=by
 intro f
 induction f with
 |zero=>
  intro listed Φ a inv _ hr hy H
  have hun:=(mem_ready.1 hr).1
  refine ⟨fun h=>(by rw [h] at hr;cases hr),fun j hj=>?_⟩
  have hjn:j<n:=by
   rcases Nat.lt_or_ge j n with h|h
   ·exact h
   ·exact absurd hj (tail_waits hs hc hn inv _ i rfl hin hun j h)
  refine ⟨hjn,?_⟩
  by_cases hji:j=i
  ·subst hji;exact hy.hOp hi H
  ·have:=hdone _ _ _ H j (ready_mono hj hji)
   omega
 |succ f ih=>
  intro listed Φ a inv hfree hr hy H
  have hun:=(mem_ready.1 hr).1
  refine ⟨fun h=>(by rw [h] at hr;cases hr),fun j hj=>?_⟩
  have hjn:j<n:=by
   rcases Nat.lt_or_ge j n with h|h
   ·exact h
   ·exact absurd hj (tail_waits hs hc hn inv _ i rfl hin hun j h)
  refine ⟨hjn,?_⟩
  by_cases hji:j=i
  ·subst hji;exact hy.hOp hi H
  ·have h1:=(H.2 j (ready_mono hj hji)).2
   obtain ⟨hjun,oj,hoj,hall⟩:=mem_ready.1 hj
   have hnot:∀ e∈oj.after,Region.binds md e=true->e.on≠i:=fun e he hb heq=>by
    have h1:=hall e he hb
    rw [heq,getD_both hun] at h1
    cases h1
   have h2:=Ak6 hoj (hfree j oj hoj hji hjun hnot) (fun cs b=>hsel i oi cs b hi) (fun cs b=>hsel j oj cs b hoj) hy h1
   have hfree':∀ k ok,ops[k]?=some ok->k≠i->(listed.setIfInBounds j true).getD k true=false ->
     (∀ e∈ok.after,Region.binds md e=true->e.on≠i)->oi.apart ops ok=true:=fun k ok hk hki hun hno=>by
    refine hfree k ok hk hki ?_ hno
    by_cases hjk:j=k
    ·subst hjk;exact hjun
    ·rw [getD_set_ne true hjk] at hun;exact hun
   refine Zw (fun Φ' a' h3=>ih (listed.setIfInBounds j true) Φ' a' (inv.set hj hjn) hfree' (ready_mono hr (Ne.symm hji)) h3.1 ?_) h2
   rw [Array.setIfInBounds_comm _ _ hji]
   exact h3.2
def wpT (P:Program)(C:World->Prop)(Lq:(World->Prop)->Act->Prop):List Oper->(World->Prop)->Act->Prop
 |[],Φ,a=>Lq Φ a
 |o::c,Φ,a=>o.guard=none/\∃ Ψ:Value->World->Prop,(∀ v,Bu (Ψ v))/\(∀ w,C w->Φ w->∃ v w',(execOp a.eval o).run P w=.ok (.value v) w'/\C w'/\Ψ v w')/\∀ v,wpT P C Lq c (Ψ v) (a.put o.dst v)
def Aa7 (md:Region.Mode)(ops:Array Oper)(m n:Nat):Bool:=
 Region.noSelect ops&&decide (n<ops.size)&&decide (m<=n)&&Region.sinkB md ops n&&Region.chainB md ops n&&Region.lexHead md ops (ops.size - m) m 0 (Array.replicate ops.size false)
theorem Qq {n g:Nat}{Lq:(World->Prop)->Act->Prop} :
  ∀ (c:List Oper) (k:Nat) (listed:Array Bool) (Φ:World->Prop) (a:Act),(∀ j,j<c.length->c[j]?=ops[k+j]?)->k+c.length=n->Region.seqB md ops (g+c.length) k listed=true->wpT P C Lq c Φ a ->
  wpH P md ops C n (fun listed' Φ' a'=>Region.seqB md ops g n listed'=true/\Lq Φ' a') c.length listed Φ a
 |[],k,listed,Φ,a,_,hk,hB,h=>by
  have:k=n:=by simpa using hk
  subst this
  exact ⟨by simpa using hB,h⟩
 |o::c,k,listed,Φ,a,hl,hk,hB,h=>by
  have h0:ops[k]?=some o:=by simpa using (hl 0 (by simp)).symm
  obtain ⟨hgd,Ψ,h1,h2,h3⟩:=h
  simp only [List.length_cons] at hB hk
  rw [<- Nat.add_assoc] at hB
  simp only [Region.seqB,Bool.and_eq_true,decide_eq_true_eq] at hB
  refine ⟨fun h0=>(by rw [hB.1] at h0;cases h0),fun i hi=>?_⟩
  rw [hB.1] at hi
  have hik:i=k:=by simpa using hi
  subst hik
  refine ⟨by omega,?_⟩
  unfold Proofs.YtghmdfegfehhkaaGreatDoor.hOp
  simp only [h0]
  rw [if_pos (by simp [Region.wanted,hgd])]
  exact .inr ⟨Ψ,h1,h2,fun v=>Qq c (i+1) _ (Ψ v) _ (fun j hj=>by have:=hl (j+1) (by simp;omega);simpa [Nat.add_assoc,Nat.add_comm 1 j] using this) (by omega) hB.2 (h3 v)⟩
theorem Wi {n g:Nat}{Lq:(World->Prop)->Act->Prop}(c:List Oper)(hsel:Region.noSelect ops=true)(hs:Region.sinkB md ops n=true)(hc:Region.chainB md ops n=true)(hn:n<ops.size) :
  ∀ (l:List Oper) (k:Nat) (listed:Array Bool) (Φ:World->Prop) (a:Act),(∀ j,j<l.length->l[j]?=ops[k+j]?)->(∀ j,j<c.length->c[j]?=ops[k+l.length+j]?)->k+l.length+c.length=n->HeadInv md ops n listed ->
  Region.lexHead md ops (g+c.length) l.length k listed=true->Fl P ops C (fun a'=>wpT P C Lq c Φ a') l a ->
  wpH P md ops C n (fun listed' Φ' a'=>Region.seqB md ops g n listed'=true/\Lq Φ' a') (l.length+c.length) listed Φ a
 |[],k,listed,Φ,a,_,hcl,hk,inv,hB,h=>by
  simp only [List.length_nil,Nat.zero_add,Nat.add_zero] at hk hcl ⊢
  exact Qq c k listed Φ a hcl hk (by simpa [Region.lexHead] using hB) h
 |o::l,k,listed,Φ,a,hl,hcl,hk,inv,hB,h=>by
  have h0:ops[k]?=some o:=by simpa using (hl 0 (by simp)).symm
  simp only [List.length_cons,Region.lexHead,Bool.and_eq_true] at hB
  obtain ⟨⟨hr,hf⟩,hB'⟩:=hB
  simp only [List.length_cons] at hk hcl
  have hkn:k<n:=by omega
  have hr':k∈Region.ready md ops listed:=by simpa using hr
  have key:∃ v,YieldsB P ops C o v a/\Fl P ops C (fun a'=>wpT P C Lq c Φ a') l (a.put o.dst v):=by
   unfold Fl at h
   by_cases hw:Region.wanted o (yielded ops a.tmps)=true
   ·rw [if_pos hw] at h
    obtain ⟨v,h1,h2⟩:=h
    exact ⟨v,.inl ⟨hw,h1⟩,h2⟩
   ·rw [if_neg hw] at h
    exact ⟨undef,.inr ⟨by simpa using hw,rfl⟩,h⟩
  obtain ⟨v,hy,hK⟩:=key
  have e:(o::l).length+c.length=l.length+c.length+1:=by simp;omega
  rw [e]
  exact X0 h0 (Region.noSelect_spec hsel) hs hc hn hkn (fun listed' Φ' a' hL=>seqB_ready hL.1) (l.length+c.length) listed Φ a inv (Region.free_spec h0 hf) hr' hy
   (Wi c hsel hs hc hn l (k+1) _ Φ _ (fun j hj=>by have:=hl (j+1) (by simp;omega);simpa [Nat.add_assoc,Nat.add_comm 1 j] using this) (fun j hj=>by have:=hcl j hj;rw [this];congr 1;omega) (by omega) (inv.set hr' hkn) hB' hK)
def Ov (P:Program)(C:World->Prop)(T:Act->World->Prop):List Oper->Act->World->Prop
 |[],a,W=>T a W
 |o::c,a,W=>∃ v w2,(execOp a.eval o).run P W=.ok (.value v) w2/\C w2/\∀ W',Below w2.heap.size w2 W'->C W'->Ov P C T c (a.put o.dst v) W'
theorem L0 {T:Act->World->Prop}:∀ (c:List Oper) (Φ:World->Prop) (a:Act),c.all (fun o=>o.guard.isNone)=true->(∀ W,C W->Φ W->Ov P C T c a W)->wpT P C (fun Φ a=>∀ W,C W->Φ W->T a W) c Φ a
 |[],Φ,a,_,h=>h
 |o::c,Φ,a,hg,h=>by
  simp only [List.all_cons,Bool.and_eq_true] at hg
  refine ⟨by simpa using hg.1,fun v W=>∃ w2,Below w2.heap.size w2 W/\∀ W',Below w2.heap.size w2 W'->C W'->Ov P C T c (a.put o.dst v) W',fun v w w' ⟨w2,h1,h2⟩ hb=>⟨w2,Ax h1 hb,h2⟩,fun w hw hΦ=>?_,fun v=>L0 c _ _ hg.2 fun W hW ⟨w2,h1,h2⟩=>h2 W h1 hW⟩
  obtain ⟨v,w2,h1,h2,h3⟩:=h w hw hΦ
  exact ⟨v,w2,h1,h2,w2,Below.refl _ _,h3⟩
theorem Ob {id:Nat}{Q:Exit->Act->World->Prop}{a:Act}{w:World}{l:List Oper}(m n:Nat)(hC:Bu C)(hm:P.follows .mixedOrders=true)(hB:Aa7 .any l.toArray m n=true)(hgd:((l.drop m).take (n - m)).all (fun o=>o.guard.isNone)=true)(hCw:C w)
  (h:Fl P l.toArray C (fun a'=>∀ W,C W->Below w.heap.size w W->Ov P C (wpList P l.toArray Q (l.drop n)) ((l.drop m).take (n - m)) a' W) (l.take m) a):(Code.region id l.toArray true).wp P Q a w:=by
 simp only [Aa7,Bool.and_eq_true,decide_eq_true_eq] at hB
 obtain ⟨⟨⟨⟨⟨hsel,hn⟩,hmn⟩,hs⟩,hc⟩,hlex⟩:=hB
 have hn':n<l.length:=by simpa using hn
 have htl:(l.take m).length=m:=by simp;omega
 have hcl:((l.drop m).take (n - m)).length=n - m:=by simp;omega
 have hdl:(l.drop n).length=l.toArray.size - n:=by simp
 have inv0:HeadInv .any l.toArray n (Array.replicate l.toArray.size false):=
  ⟨by simp,fun j oj _ hl=>(by rw [getD_replicate_false] at hl;cases hl),fun t _ ht=>getD_in (by simpa using ht) (getD_replicate_false _ _)⟩
 have hg:l.toArray.size - m=(l.toArray.size - n)+((l.drop m).take (n - m)).length:=by rw [hcl];simp;omega
 have H:=Wi (P:=P) (C:=C) (md:=.any) (g:=l.toArray.size - n) (Lq:=fun Φ a'=>∀ W,C W->Φ W->wpList P l.toArray Q (l.drop n) a' W) ((l.drop m).take (n - m)) hsel hs hc hn (l.take m) 0 _ (fun W=>Below w.heap.size w W) a (fun j hj=>by
  have hj':j<m:=by rw [htl] at hj;exact hj
  simp [hj']) (fun j hj=>by
  rw [hcl] at hj
  rw [htl,List.getElem?_take,if_pos hj,List.getElem?_drop]
  simp) (by rw [htl,hcl];omega) inv0 (by rw [htl,<- hg];exact hlex) (Da (fun a' h=>L0 _ _ _ hgd fun W hW hb=>h W hW hb) h)
 refine wp_region_any hm ?_
 have hst:Bu (fun W=>Below w.heap.size w W):=fun _ _ h h'=>Ax h h'
 have hΦ:Below w.heap.size w { w with drawn:=w.drawn+1 }:=⟨rfl,rfl,rfl,Nat.le_refl _,fun _ _=>rfl⟩
 have hw':C { w with drawn:=w.drawn+1 }:=hC _ _ hCw ⟨rfl,rfl,rfl,Nat.le_refl _,fun _ _=>rfl⟩
 have:=N3 hC (Q':=Q) (g:=l.toArray.size - n) (L:=fun listed' Φ' a'=>Region.seqB .any l.toArray (l.toArray.size - n) n listed'=true/\∀ W,C W->Φ' W->wpList P l.toArray Q (l.drop n) a' W) (fun listed Φ a' W hW hΦ hL=>by
  have:=wpAny_of_seq (md:=.any) (Q':=Q) (l.drop n) n listed a' W (fun j=>by simp [List.getElem?_drop]) (by rw [hdl];exact hL.1) (hL.2 W hW hΦ)
  rwa [hdl] at this) _ _ (fun W=>Below w.heap.size w W) a _ hst hw' hΦ H
 have e:(l.take m).length+((l.drop m).take (n - m)).length+(l.toArray.size - n)=l.toArray.size:=by rw [htl,hcl];simp;omega
 rwa [e] at this
end
end Go.Proofs.YtghmdfegfehhkaaGreatDoor
