/- Several texts of one claim in one file, made short: I03 A03 H05 OF03. -/
import Derived.Test.YtghmdfegfehhkaaGreatDoorZ5
set_option maxRecDepth 100000
set_option maxHeartbeats 64000000
set_option linter.unusedVariables false
set_option linter.unusedSimpArgs false
namespace Go.Proofs.YtghmdfegfehhkaaGreatDoor
open Go.RowKit
theorem Yd {L p m q:List Value}{o1 o2:Nat}(h2:o2=o1+m.length)(hp:L.take o1=p)(hL:o2+q.length<=L.length) :
  (((L.take o1++m++L.drop (o1+m.length)).take o2++q++(L.take o1++m++L.drop (o1+m.length)).drop (o2+q.length)).take (o2+q.length)=p++m++q) /\
  ((L.take o1++m++L.drop (o1+m.length)).take o2++q++(L.take o1++m++L.drop (o1+m.length)).drop (o2+q.length)).length=L.length:=by
 subst h2
 have l1:(L.take o1).length=o1:=by simp;omega
 have e1:(L.take o1++m++L.drop (o1+m.length)).take (o1+m.length)=L.take o1++m:=by
  rw [List.take_append_of_le_length (by simp;omega),List.take_of_length_le (by simp;omega)]
 rw [e1]
 refine ⟨?_,?_⟩
 ·rw [List.take_append_of_le_length (by simp;omega),List.take_of_length_le (by simp;omega),hp]
 ·simp;omega
theorem Ui {L p m q:List Value}{o1 o2:Nat}(h2:o2=o1+m.length)(hp:L.take o1=p)(hL:o2+q.length<=L.length) :
  (((L.take o2++q++L.drop (o2+q.length)).take o1++m++(L.take o2++q++L.drop (o2+q.length)).drop (o1+m.length)).take (o2+q.length)=p++m++q) /\
  ((L.take o2++q++L.drop (o2+q.length)).take o1++m++(L.take o2++q++L.drop (o2+q.length)).drop (o1+m.length)).length=L.length:=by
 subst h2
 have l1:(L.take (o1+m.length)).length=o1+m.length:=by simp;omega
 have e1:(L.take (o1+m.length)++q++L.drop (o1+m.length+q.length)).take o1=p:=by
  rw [List.append_assoc,List.take_append_of_le_length (by omega),List.take_take,Nat.min_eq_left (by omega),hp]
 have lp:p.length=o1:=by rw [<- hp];simp;omega
 have e2:(L.take (o1+m.length)++q++L.drop (o1+m.length+q.length)).drop (o1+m.length)=q++L.drop (o1+m.length+q.length):=by
  rw [List.append_assoc,List.drop_append_of_le_length (by omega),List.drop_of_length_le (by omega)]
  rfl
 rw [e1,e2]
 refine ⟨?_,?_⟩
 ·rw [<- List.append_assoc,List.take_append_of_le_length (by simp;omega),List.take_of_length_le (by simp;omega)]
 ·simp;omega
theorem Ah5 {base:Nat}{w:World}{V:Value}{bs:List Blk}(x:Blk)(ho:ownsB w base V bs)(i gv cv:Nat)(hi:i<=bs.length)(hv:w.heap[gv]?=some (.cells (En x).toArray 179 (0,0)))(hne:V.ownBlock≠some gv)(hl:bs.length<1099511627776)(hbase:base<=w.heap.size) :
  Calls Tryz.prog 87 #[V,.int .i64 i,.slice (some ⟨gv,0,none⟩) 1 cv] w fun e w'=>∃ V',e=.returned V'/\ownsB w' base V' (bs.take i++x::bs.drop i)/\Kept V.ownBlock.toList w w'/\(V'.ownBlock=V.ownBlock\/∃ b,V'.ownBlock=some b/\w.heap.size<=b):=by
 obtain ⟨A,c,rfl,hlc,hrow⟩:=ho.row
 refine A9 (args:=[.slice A bs.length c,.int .i64 i,.slice (some ⟨gv,0,none⟩) 1 cv]) Aa Tryz.func87 rfl Tryz.ntmps87 rfl ?_;conv=>whnf
 skip
 refine Aek Aa 179 2 rfl rfl rfl rfl rfl rfl rfl (by omega) (by omega) (Ab Aa ?_);conv=>whnf
 by_cases hin:i=bs.length
 ·(repeat' ((first|(refine Ag (by first|assumption|omega) ?_)|fail)<;>conv=>whnf))
  refine Cu Aa 179 2 16 ho hv rfl rfl rfl rfl rfl rfl rfl rfl rfl rfl rfl rfl (by simp [En,Value.oneCell']) (by omega) (by omega) (by omega) ?_
  intro A7 cap7 U4 hown hgr hob
  refine Ab Aa ?_
  conv=>whnf
  (repeat' (first|refine Cg rfl rfl ?_|fail))
  have hnew:Bq bs++En x=Bq (bs.take i++x::bs.drop i):=by
   rw [hin,List.take_length,List.drop_length,H7,P6]
  have hln:(bs.take i++x::bs.drop i).length=bs.length+1:=by rw [hin,List.take_length,List.drop_length];simp
  refine ⟨_,rfl,?_,(Kept.refl _ _).grown hgr (fun g e=>.inl (by rw [e];simp)),?_⟩
  ·show World.ownsRow _ _ _ _ _ _ _
   rw [hln,<- hnew]
   exact hown
  ·rcases hob with h1|h1
   ·exact .inl h1
   ·exact .inr ⟨_,h1,Nat.le_refl _⟩
 ·have hlt:i<bs.length:=by omega
  have hln:(bs.take i++x::bs.drop i).length=bs.length+1:=by simp;omega
  obtain ⟨hfl,⟨_,h0⟩|⟨gb,cap,cur,e1,hgb,hcur,hncap,hcapm,hcs,htake⟩⟩:=ho
  ·omega
  simp only [Value.slice.injEq,true_and] at e1
  obtain ⟨rfl,rfl⟩:=e1
  obtain ⟨cur,rfl⟩:∃ l:List Value,cur=l.toArray:=⟨cur.toList,by simp⟩
  simp only [List.size_toArray] at hcs htake
  have hgv:gv≠gb:=fun e=>hne (by rw [e];rfl)
  have hsrc:∀ j v,(Bq (bs.drop i))[j]?=some v->w.cell? ((⟨gb,i*2,none⟩:Addr).add j)=some v:=fun j v hv'=>by
   rw [<- Oq bs i hi,List.getElem?_drop,<- htake,List.getElem?_take] at hv'
   split at hv'
   ·have e:(⟨gb,i*2,none⟩:Addr).add j=⟨gb,i*2+j,none⟩:=by unfold Addr.add;split<;>simp_all
    rw [e]
    exact Au hcur (by simpa using hv')
   ·cases hv'
  have hsrcx:∀ {W:World},W.heap[gv]?=some (.cells (En x).toArray 179 (0,0))->∀ j v,(En x)[j]?=some v->W.cell? ((⟨gv,0,none⟩:Addr).add j)=some v:=fun hW j v hv'=>by
   rw [add_zero]
   exact Au hW (by simpa using hv')
  have honex:∀ v∈En x,v.oneCell'=true:=by simp [En,Value.oneCell']
  have hdl:(Bq (bs.drop i)).length=(bs.length - i)*2:=by rw [Ef];simp
  have hfin:Bq (bs.take i++x::bs.drop i)=Bq (bs.take i)++En x++Bq (bs.drop i):=by rw [H7,Ip,List.append_assoc]
  have htl:(Bq (bs.take i)).length=i*2:=by rw [Ef];simp;omega
  have htk2:cur.take (i*2)=Bq (bs.take i):=by
   rw [<- U6 bs i hi,<- htake,List.take_take,Nat.min_eq_left (by omega)]
  (repeat' ((first|refine Af rfl rfl rfl rfl rfl rfl (by omega) (by omega) (Ab Aa ?_)|refine Ah (by first|assumption|omega) ?_|fail)<;>conv=>whnf))
  refine Asy Aa 179 2 rfl rfl rfl rfl rfl rfl rfl rfl rfl (Ab Aa ?_);conv=>whnf
  by_cases hg:c<bs.length+1
  ·(repeat' ((first|(refine Ag (by first|assumption|omega) ?_)|fail)<;>conv=>whnf))
   refine Nm Aa 179 2 rfl (by omega) rfl rfl rfl rfl rfl rfl rfl (Ab Aa ?_);conv=>whnf
   (repeat' ((first|refine Af rfl rfl rfl rfl rfl rfl (by omega) (by omega) (Ab Aa ?_)|refine Jk rfl rfl rfl rfl rfl rfl (by omega) (by omega) (Ab Aa ?_)|fail)<;>conv=>whnf))
   refine As7 Aa 179 2 16 (m:=bs.length+1 - i) rfl rfl rfl rfl rfl (by omega) rfl rfl Tryz.underlying3 rfl rfl rfl rfl rfl rfl hcur rfl (by omega) (by omega) (by omega) (by omega) (by omega) ?_
   intro cap2 w1 more hn1 hc1 hc2 hc3
   refine Ab Aa ?_
   conv=>whnf
   have hge:i<cap2:=by omega
   generalize hL:cur.take (i*2)++(List.replicate (bs.length+1 - i) [Value.int .i64 0,Value.int .u64 0]).flatten++more=L at hn1 hc3
   have hLt:L.take (0+i*2)=Bq (bs.take i):=by
    rw [<- hL,List.append_assoc,List.take_append_of_le_length (by rw [List.length_take];omega),List.take_take,Nat.zero_add,Nat.min_self,htk2]
   have hb1:=hn1.blk
   skip
   refine K4 Aa 179 2 (hn':=i) rfl (Hu (by omega)) rfl rfl (by omega) rfl rfl rfl rfl rfl rfl rfl (Ab Aa ?_);conv=>whnf
   skip
   refine Xl Aa 179 2 16 (m:=1) (En x) hb1 rfl rfl rfl rfl rfl rfl rfl (by omega) rfl rfl rfl rfl (hsrcx (hn1.old hv)) (by simp [En];omega) honex ?_
   intro w2 hp2
   refine Ab Aa ?_
   conv=>whnf
   refine Gl 8 8 (Be _) Aa mixed (by kernel_rfl) rfl (Below.refl _ _) ?_;conv=>whnf
   (repeat' (first|(refine Nk Aa 179 2 (hn':=i+1) (by omega) (Hu (by omega)) rfl rfl (by omega) rfl rfl rfl rfl rfl rfl rfl (Ad Aa ?_);(conv=>whnf))|(refine Nk Aa 179 2 (hn':=i) rfl (Hu (by omega)) rfl rfl (by omega) rfl rfl rfl rfl rfl rfl rfl (Ad Aa ?_);(conv=>whnf))|(first|refine D7 rfl rfl rfl rfl rfl rfl (by omega) (by omega) (Ad Aa ?_)|fail)<;>conv=>whnf))
   intro w3 _ hB3
   conv=>whnf
   have hgbl:=Ae hcur
   have hcur2:w2.heap[gb]?=some (.cells cur.toArray 179 (0,0)):=hp2.old (hn1.old hcur) (by omega)
   have hB03:Below w.heap.size w w3:=Ax (hp2.below hn1.below (Nat.le_refl _) (by have:=hn1.size;omega)) hB3
   refine Xl Aa 179 2 16 (m:=bs.length - i) (Bq (bs.drop i)) (Ac hB3 hp2.blk) rfl rfl rfl rfl rfl rfl rfl (by omega) rfl rfl rfl hdl (fun j v hv'=>by rw [Nat.zero_add];exact Bn hB03 (hsrc j v hv')) (by simp [En,hdl];omega) (Baq _) ?_
   intro w4 hp4
   refine Ab Aa ?_
   conv=>whnf
   (repeat' (first|refine Cg rfl rfl ?_|fail))
   obtain ⟨k1,k2⟩:=Yd (L:=L) (m:=En x) (q:=Bq (bs.drop i)) (o1:=0+i*2) (o2:=0+(i+1)*2) (by simp [En];omega) hLt (by rw [hdl];omega)
   have hk4:Kept [] w w4:=(Kept.of hB03).put hp4 (.inr (Nat.le_refl _))
   refine ⟨_,rfl,⟨Ef _,.inr ⟨w.heap.size,cap2,_,?_,hbase,hp4.blk,by omega,hc2,by simpa using k2.trans hc3,?_⟩⟩,hk4.more (by simp),.inr ⟨w.heap.size,rfl,Nat.le_refl _⟩⟩
   ·rw [hln,show i+(bs.length+1 - i)=bs.length+1 by omega]
   ·have e:(bs.take i++x::bs.drop i).length*2=0+(i+1)*2+(Bq (bs.drop i)).length:=by rw [hdl,hln];omega
    rw [e,hfin]
    exact k1
  ·(repeat' ((first|refine Af rfl rfl rfl rfl rfl rfl (by omega) (by omega) (Ab Aa ?_)|refine Ah (by first|assumption|omega) ?_|fail)<;>conv=>whnf))
   refine Nm Aa 179 2 (hn':=bs.length+1) (by omega) (by omega) rfl rfl rfl rfl rfl rfl rfl (Ab Aa ?_);conv=>whnf
   (repeat' ((first|refine Af rfl rfl rfl rfl rfl rfl (by omega) (by omega) (Ab Aa ?_)|fail)<;>conv=>whnf))
   refine K4 Aa 179 2 (hn':=i+1) (by omega) (Hu (by omega)) rfl rfl (by omega) rfl rfl rfl rfl rfl rfl rfl (Ab Aa ?_);conv=>whnf
   have hov:(callFunc 128 [Value.slice (some ⟨gv,0,none⟩) 1 cv,Value.slice (some ⟨gb,0+(i+1)*2,none⟩) (bs.length+1 - (i+1)) (c - (i+1))].toArray).run Tryz.prog w=.ok (.value (.bool false)) w:=by
    rw [run_callFunc_extern Tryz.func128 (by kernel_rfl) (by kernel_rfl) (by kernel_rfl) (e:=Extern.SlicesOverlaps.overlaps #[118,118] #[4]) (by kernel_rfl)]
    have:=Lib.run_overlaps_apart (P:=Tryz.prog) w 118 4 179 Tryz.underlying118 2 (fun w=>(Du (w:=w) Aa (t:=118) (e:=179) (s:=2) rfl).2)
     ⟨gv,0,none⟩ ⟨gb,0+(i+1)*2,none⟩ 1 cv (bs.length+1 - (i+1)) (c - (i+1)) hgv 179 179 (En x).length cur.length (by simp [World.shape?,hv]) (by simp [World.shape?,hcur]) (by omega) (by simp [World.frozen?,hv]) (by simp [World.frozen?,hv])
    show ((Extern.SlicesOverlaps.overlaps #[118,118] #[4] #[Value.slice (some ⟨gv,0,none⟩) 1 cv,Value.slice (some ⟨gb,0+(i+1)*2,none⟩) (bs.length+1 - (i+1)) (c - (i+1))]).run Tryz.prog w).andThen _=_
    rw [this]
    rfl
   refine As4 hov rfl rfl rfl rfl rfl rfl rfl (Ab Aa ?_);conv=>whnf
   skip
   refine Gl 8 8 (Be _) Aa mixed (by kernel_rfl) rfl (Below.refl _ _) ?_;conv=>whnf
   (repeat' (first|(refine Nk Aa 179 2 (hn':=i+1) (by omega) (Hu (by omega)) rfl rfl (by omega) rfl rfl rfl rfl rfl rfl rfl (Ad Aa ?_);(conv=>whnf))|(refine Nk Aa 179 2 (hn':=i) rfl (Hu (by omega)) rfl rfl (by omega) rfl rfl rfl rfl rfl rfl rfl (Ad Aa ?_);(conv=>whnf))|(first|refine D7 rfl rfl rfl rfl rfl rfl (by omega) (by omega) (Ad Aa ?_)|fail)<;>conv=>whnf))
   intro w3 _ hB3
   conv=>whnf
   refine Xl Aa 179 2 16 (m:=bs.length - i) (Bq (bs.drop i)) (Ac hB3 hcur) rfl rfl rfl rfl rfl rfl rfl (by omega) rfl rfl rfl hdl (fun j v hv'=>by rw [Nat.zero_add];exact Bn hB3 (hsrc j v hv')) (by rw [hdl];omega) (Baq _) ?_
   intro w4 hp4
   refine Ab Aa ?_
   conv=>whnf
   skip
   refine K4 Aa 179 2 (hn':=i) rfl (Hu (by omega)) rfl rfl (by omega) rfl rfl rfl rfl rfl rfl rfl (Ab Aa ?_);conv=>whnf
   skip
   refine Xl Aa 179 2 16 (m:=1) (En x) hp4.blk rfl rfl rfl rfl rfl rfl rfl (by omega) rfl rfl rfl rfl (hsrcx (hp4.old (Ac hB3 hv) hgv)) (by simp [En,hdl];omega) honex ?_
   intro w5 hp5
   refine Ab Aa ?_
   conv=>whnf
   (repeat' (first|refine Cg rfl rfl ?_|fail))
   obtain ⟨k1,k2⟩:=Ui (L:=cur) (p:=Bq (bs.take i)) (m:=En x) (q:=Bq (bs.drop i)) (o1:=0+i*2) (o2:=0+(i+1)*2) (by simp [En];omega) (by rw [Nat.zero_add];exact htk2) (by rw [hdl];omega)
   have hk5:Kept [gb] w w5:=((Kept.of hB3).put hp4 (.inl (by simp))).put hp5 (.inl (by simp))
   refine ⟨_,rfl,⟨Ef _,.inr ⟨gb,c,_,?_,hgb,hp5.blk,by omega,hcapm,by simpa using k2.trans hcs,?_⟩⟩,hk5,.inl rfl⟩
   ·rw [hln]
   ·have e:(bs.take i++x::bs.drop i).length*2=0+(i+1)*2+(Bq (bs.drop i)).length:=by rw [hdl,hln];omega
    rw [e,hfin]
    exact k1
set_option linter.unnecessarySimpa false
theorem Ad8 (g j k:Nat):(⟨((⟨g,0,none⟩:Addr).add j).block,((⟨g,0,none⟩:Addr).add j).off+k,none⟩:Addr)=⟨g,j+k,none⟩:=by rw [add_zero]
theorem Qo:∀ (bs:List Blk) (i w:Nat),i<bs.length->(Bq bs).set (i*2+1) (.int .u64 (w:Int))=Bq (bs.set i ⟨bs[i]!.a,w⟩)
 |[],i,w,h=>by simp at h
 |b::bs,0,w,h=>by simp [Bq,En]
 |b::bs,i+1,w,h=>by
  have e:(i+1)*2+1=(i*2+1)+2:=by omega
  have ih:=Qo bs i w (by simpa using h)
  rw [e,Ip]
  show ([Value.int .i64 b.a,Value.int .u64 (b.w:Int)]++Bq bs).set (i*2+1+2) _=_
  simp only [List.cons_append,List.nil_append,List.set_cons_succ]
  rw [ih]
  simp [Bq,En]
theorem Ai8 (bs:List Blk)(i:Nat)(x y:Blk)(hi:i<=bs.length):(bs.take i++x::bs.drop i).set i y=bs.take i++y::bs.drop i:=by
 have hl:(bs.take i).length=i:=by simp;omega
 rw [List.set_append]
 rw [if_neg (by omega),hl]
 simp
theorem Pz {base g0:Nat}{w w1:World}{bs:List Blk}{c i v:Nat}{cur:List Value}(ho:ownsB w base (.slice (some ⟨g0,0,none⟩) bs.length c) bs)(hcur:w.heap[g0]?=some (.cells cur.toArray 179 (0,0)))(hi:i<bs.length)
  (hp:Put w w1 g0 (cur.set (i*2+1) (.int .u64 (v:Int))) 179):ownsB w1 base (.slice (some ⟨g0,0,none⟩) (bs.set i ⟨bs[i]!.a,v⟩).length c) (bs.set i ⟨bs[i]!.a,v⟩):=by
 obtain ⟨hfl,⟨h0,_⟩|⟨gb,cap,cur2,e1,hgb,hcur2,hncap,hcapm,hcs,htake⟩⟩:=ho
 ·cases h0
 ·simp only [Value.slice.injEq,Option.some.injEq,Addr.mk.injEq,and_true,true_and] at e1
  obtain ⟨rfl,rfl⟩:=e1
  rw [hcur] at hcur2
  simp only [Option.some.injEq,Obj.cells.injEq,and_true,true_and] at hcur2
  subst hcur2
  refine ⟨Ef _,.inr ⟨g0,c,_,by simp,hgb,hp.blk,by simpa using hncap,hcapm,by simpa using hcs,?_⟩⟩
  rw [<- Qo bs i v hi]
  have htake:cur.take (bs.length*2)=Bq bs:=by simpa using htake
  rw [<- htake]
  simp [List.take_set]
theorem ownsB.blkform {w:World}{base:Nat}{A:Option Addr}{c:Nat}{bs:List Blk}(ho:ownsB w base (.slice A bs.length c) bs)(h:0<bs.length):∃ (gb:Nat) (cur:List Value),A=some ⟨gb,0,none⟩/\w.heap[gb]?=some (.cells cur.toArray 179 (0,0))/\cur.length=c*2/\bs.length<=c:=by
 obtain ⟨hfl,⟨h9,h8⟩|⟨gb,cap,cur,e1,hgb,hcur,hncap,hcapm,hcs,htake⟩⟩:=ho
 ·omega
 ·obtain ⟨cur,rfl⟩:∃ l:List Value,cur=l.toArray:=⟨cur.toList,by simp⟩
  simp only [Value.slice.injEq,true_and] at e1
  obtain ⟨rfl,rfl⟩:=e1
  exact ⟨gb,cur,rfl,hcur,by simpa using hcs,hncap⟩
theorem Zn {P:Program}{T:Nat->Option TI}{n:Nat}{Q:Post}{F:Fm}{w:World}{ops:Array Oper}{rest:List Oper}{o:Oper}(hT:TabOk P T)(k:Nat){t t':TypeId}{x y:Operand}{i:TI}{g j:Nat}{cs:List Value}{v:Value}(hb:w.heap[g]?=some (.cells cs.toArray t' (0,0)))(hop:o.op=.store t x y)(hx:ev F x=.pointer (some ⟨((⟨g,0,none⟩:Addr).add j).block,((⟨g,0,none⟩:Addr).add j).off+k,none⟩))(hy:ev F y=v)
  (hi:T t=some i) (h1:i.size=1) (hv:v.oneCell'=true) (hoff:j+k<cs.length) (hg:o.guard=none) (hd:o.dst=none)
  (kk:∀ w1,Put w w1 g (cs.set (j+k) v) t'->wl P n ops rest Q F w1):wl P n ops (o::rest) Q F w:=
 Dd (off:=j+k) hT hb hop (by rw [hx,Ad8]) hy hi h1 hv hoff hg hd kk
theorem Wj (n k:Nat)(b:Int)(hb:b=k)(hk:k<64):IntKind.u64.wrap (1*2 ^ min b.toNat IntKind.u64.bits)=((2 ^ k:Nat):Int):=by
 subst hb
 have e:min ((k:Int)).toNat IntKind.u64.bits=k:=by simp [IntKind.bits];omega
 have h:2 ^ k<18446744073709551616:=Nat.pow_lt_pow_right (a:=2) (by omega) hk
 have e2:(1:Int)*2 ^ k=((2 ^ k:Nat):Int):=by simp
 rw [e,e2]
 generalize 2 ^ k=p at h ⊢
 rw [IntKind.wrap_u64]
 omega
theorem V9 (w k:Nat):decide (((w &&& 2 ^ k:Nat):Int)=0)=!w.testBit k:=by
 have h:w &&& 2 ^ k=if w.testBit k then 2 ^ k else 0:=by
  refine Nat.eq_of_testBit_eq fun j=>?_
  rw [Nat.testBit_and,Nat.testBit_two_pow]
  by_cases e:k=j
  ·subst e;cases hw:w.testBit k<;>simp [hw,Nat.testBit_two_pow]
  ·split<;>simp [e,Nat.testBit_two_pow]
 have hp:=Nat.two_pow_pos k
 rw [h]
 cases w.testBit k
 ·rfl
 ·have:¬ (((if true=true then 2 ^ k else 0:Nat):Int)=0):=by rw [if_pos rfl];omega
  rw [decide_eq_false this];rfl
structure AddR (base g:Nat)(w:World)(bs:List Blk)(fp:List Nat)(n:Int)(e:Ending)(w':World)(bs':List Blk)(fp':List Nat):Prop where
 ret:e=.returned (.bool (decide (0<=n)&&!Aw bs n.toNat))
 set:PSet base g w' bs' fp'
 kept:Kept fp w w'
 new:∀ b∈fp',b∈fp\/w.heap.size<=b
 mem:∀ m:Nat,Aw bs' m=(Aw bs m||decide (n=m))
 len:bs'.length<=bs.length+1
theorem Ag7 {base g:Nat}{w:World}{bs:List Blk}{fp:List Nat}(hP:PSet base g w bs fp)(n:Int)(hn:n<=9223372036854775807)(hl:bs.length<1099511627776)(hbase:base<=w.heap.size) :
  Calls Tryz.prog 39 #[.pointer (some ⟨g,0,none⟩),.int .i64 n] w fun e w'=>∃ bs' fp',AddR base g w bs fp n e w' bs' fp':=by
 obtain ⟨V,hb,ho,hfp,hne⟩:=hP.ex
 obtain ⟨A,c,rfl,hlc,hrow⟩:=ho.row
 refine A9 (args:=[.pointer (some ⟨g,0,none⟩),.int .i64 n]) Aa Tryz.func39 rfl Tryz.ntmps39 rfl ?_;conv=>whnf
 by_cases h0:n<0
 ·(repeat' (first|refine Cg rfl rfl ?_|(first|refine Kf Aa rfl rfl rfl rfl rfl rfl (Ab Aa ?_)|refine Fv rfl rfl rfl rfl rfl rfl (by omega) (by omega) (fun r hr hr0 hr1 hr2=>Ab Aa ?_)|refine Ke rfl rfl rfl rfl rfl rfl (by omega) (by omega) (by simp only [Cj];omega) (Ab Aa ?_)|refine Ag (by first|assumption|omega) ?_|fail)<;>conv=>whnf))
  exact ⟨bs,fp,⟨by rw [decide_eq_false (by omega:¬ 0<=n)];rfl,hP,Kept.refl _ _,fun b hb=>.inl hb,fun m=>by rw [decide_eq_false (by omega:¬ n=m),Bool.or_false],by omega⟩⟩
 obtain ⟨m,rfl⟩:∃ m:Nat,n=m:=⟨n.toNat,by omega⟩
 (repeat' ((first|refine Kf Aa rfl rfl rfl rfl rfl rfl (Ab Aa ?_)|refine Fv rfl rfl rfl rfl rfl rfl (by omega) (by omega) (fun r hr hr0 hr1 hr2=>Ab Aa ?_)|refine Ke rfl rfl rfl rfl rfl rfl (by omega) (by omega) (by simp only [Cj];omega) (Ab Aa ?_)|refine Ag (by first|assumption|omega) ?_|fail)<;>conv=>whnf))
 refine Bv Aw6 (An6 hP ((m:Int)/64) (by omega) (by omega)) rfl rfl rfl rfl rfl rfl rfl ?_
 rintro _ w2 ⟨i,ok,rfl,hf,hB⟩
 refine ⟨_,rfl,Ab Aa ?_⟩
 conv=>whnf
 obtain ⟨hi,hlo,hhi,hok⟩:=hf
 have hb2:=Ac hB hb
 have ho2:ownsB w2 base (.slice A bs.length c) bs:=ho.keep fun b e=>hB.block b (ho.lt b e).2
 have hpow:2 ^ (m%64)<18446744073709551616:=Nat.pow_lt_pow_right (a:=2) (by omega) (Nat.mod_lt _ (by omega))
 cases ok
 ·have hhi2:∀ j,i<=j->j<bs.length->((m/64:Nat):Int)<bs[j]!.a:=fun j h1 h2=>by
   have h3:=hhi j h1 h2
   rcases Nat.lt_or_ge i j with h4|h4
   ·have:=hhi i (Nat.le_refl _) (by omega)
    have:=hP.wf.up i j h4 h2
    omega
   ·have:j=i:=by omega
    subst this
    rw [decide_eq_true h2] at hok
    have h4:¬ bs[j]!.a=(m:Int)/64:=by simpa using hok.symm
    omega
  (repeat' ((first|refine Aj Aa hb2 rfl rfl rfl rfl rfl rfl rfl (Ab Aa ?_)|refine Fv rfl rfl rfl rfl rfl rfl (by omega) (by omega) (fun r hr hr0 hr1 hr2=>Ab Aa ?_)|refine Ke rfl rfl rfl rfl rfl rfl (by omega) (by omega) (by simp only [Cj];omega) (Ab Aa ?_)|refine Ag (by first|assumption|omega) ?_|fail)<;>conv=>whnf))
  refine C7 Aa 179 2 rfl rfl rfl rfl rfl rfl rfl rfl rfl rfl ?_
  intro gv w3 hn3
  refine Ab Aa ?_
  conv=>whnf
  have hvb:w3.heap[gv]?=some (.cells (En ⟨((m/64:Nat):Int),0⟩).toArray 179 (0,0)):=hn3.blk
  have ho3:ownsB w3 base (.slice A bs.length c) bs:=ho2.keep fun b e=>hn3.below.block b (ho2.lt b e).2
  refine Bv Bj4 (Ah5 ⟨((m/64:Nat):Int),0⟩ ho3 i gv 1 hi hvb (fun e=>by have:=(ho2.lt gv e).2;have:=hn3.at_;omega) hl (by have:=hB.size;have:=hn3.size;omega)) rfl rfl rfl rfl rfl rfl rfl ?_
  rintro _ w4 ⟨V4,rfl,ho4,hk4,hob4⟩
  obtain ⟨A4,c4,rfl,hlc4,_⟩:=ho4.row
  refine ⟨_,rfl,Ab Aa ?_⟩
  conv=>whnf
  have hn32:=hn3.size
  have hBs:=hB.size
  have hB3:Below w.heap.size w w3:=Ax hB hn3.below
  have hg4:w4.heap[g]?=some (.cells #[.slice A bs.length c] 120 (0,0)):=hk4.blk (hn3.old hb2) (by simp;exact fun e=>hne e)
  skip
  refine Dd (off:=0) Aa hg4 rfl rfl rfl rfl rfl rfl (by simp) rfl rfl ?_
  intro w5 hp5
  refine Ab Aa ?_
  conv=>whnf
  have hln:(bs.take i++(⟨((m/64:Nat):Int),0⟩:Blk)::bs.drop i).length=bs.length+1:=by simp;omega
  have hgl:=Ae hb
  have hne5:(Value.slice A4 (bs.take i++(⟨((m/64:Nat):Int),0⟩:Blk)::bs.drop i).length c4).ownBlock≠some g:=fun e=>by
   rcases hob4 with h1|⟨b,h1,h2⟩
   ·exact hne (h1.symm.trans e)
   ·rw [e] at h1;cases h1;omega
  have hb5:w5.heap[g]?=some (.cells #[.slice A4 (bs.take i++(⟨((m/64:Nat):Int),0⟩:Blk)::bs.drop i).length c4] 120 (0,0)):=hp5.blk
  have ho5:=ho4.keep (w1:=w5) fun b e=>hp5.grown.block b (ho4.lt b e).2 (fun e2=>hne5 (by rw [e,e2]))
  have hk5:Kept fp w w5:=((Kept.of hB3).trans hk4 (fun b hb'=>.inl (by rw [hfp];exact List.mem_cons_of_mem _ hb'))).put hp5 (.inl (by rw [hfp];simp))
  have hnew5:∀ b,(Value.slice A4 (bs.take i++(⟨((m/64:Nat):Int),0⟩:Blk)::bs.drop i).length c4).ownBlock=some b->b∈fp\/w.heap.size<=b:=fun b e=>by
   rcases hob4 with h1|⟨b',h1,h2⟩
   ·exact .inl (by rw [hfp,<- h1,e];simp)
   ·rw [e] at h1;cases h1;exact .inr (by omega)
  have hi5:i<(bs.take i++(⟨((m/64:Nat):Int),0⟩:Blk)::bs.drop i).length:=by omega
  have hlen5:(bs.take i++(⟨((m/64:Nat):Int),0⟩:Blk)::bs.drop i).length<=bs.length+1:=by omega
  have hx:(bs.take i++(⟨((m/64:Nat):Int),0⟩:Blk)::bs.drop i)[i]! = ⟨((m/64:Nat):Int),0⟩:=by rw [Tk _ _ _ hi (by omega),if_neg (by omega),if_pos rfl]
  have hadd:=Agq hP.wf hi (n:=m) (fun j hj=>by have:=hlo j hj;omega) hhi2 (by omega)
  have hres5:WFB ((bs.take i++(⟨((m/64:Nat):Int),0⟩:Blk)::bs.drop i).set i ⟨(bs.take i++(⟨((m/64:Nat):Int),0⟩:Blk)::bs.drop i)[i]!.a,(bs.take i++(⟨((m/64:Nat):Int),0⟩:Blk)::bs.drop i)[i]!.w ||| 2 ^ (m%64)⟩)/\∀ k,Aw ((bs.take i++(⟨((m/64:Nat):Int),0⟩:Blk)::bs.drop i).set i ⟨(bs.take i++(⟨((m/64:Nat):Int),0⟩:Blk)::bs.drop i)[i]!.a,(bs.take i++(⟨((m/64:Nat):Int),0⟩:Blk)::bs.drop i)[i]!.w ||| 2 ^ (m%64)⟩) k=(Aw bs k||decide (k=m)):=by
   rw [hx,Ai8 _ _ _ _ hi]
   simp only [Nat.zero_or]
   exact ⟨hadd.1,hadd.2.1⟩
  have hw5:(bs.take i++(⟨((m/64:Nat):Int),0⟩:Blk)::bs.drop i)[i]!.w<18446744073709551616:=by rw [hx];exact (by decide:(0:Nat)<18446744073709551616)
  have hold5:(bs.take i++(⟨((m/64:Nat):Int),0⟩:Blk)::bs.drop i)[i]!.w.testBit (m%64)=Aw bs m:=by
   rw [hx,hadd.2.2]
   exact Nat.zero_testBit _
  generalize bs.take i++(⟨((m/64:Nat):Int),0⟩:Blk)::bs.drop i=bs1 at hb5 ho5 hne5 hnew5 hi5 hlen5 hres5 hw5 hold5
  clear hadd hx hln hlc4 hp5 ho4 hk4 hob4 hg4 hvb ho3 hn3 hhi2 hhi hlo hok ho2 hb2 hB hB3 hn32 hBs
  (repeat' ((first|refine Fv rfl rfl rfl rfl rfl rfl (by omega) (by omega) (fun r hr hr0 hr1 hr2=>Ab Aa ?_)|refine Ke rfl rfl rfl rfl rfl rfl (by omega) (by omega) (by simp only [Cj];omega) (Ab Aa ?_)|refine Ag (by first|assumption|omega) ?_|fail)<;>conv=>whnf))
  have hform:=ownsB.blkform ho5 (by omega)
  obtain ⟨gb,cur,rfl,hcur,hcl,hbc⟩:=hform
  obtain ⟨_,hc5,hrow5⟩:=ownsB.rowAt ho5
  obtain ⟨ad,e,_,hc⟩:=Kt hrow5 i hi5
  cases e
  refine Adk (r:=((2 ^ (m%64):Nat):Int)) (Wj 0 (m%64) _ (by omega) (by omega)) rfl rfl rfl (by omega) rfl rfl rfl (Ab Aa ?_);conv=>whnf
  (repeat' ((first|refine Aj Aa hb5 rfl rfl rfl rfl rfl rfl rfl (Ab Aa ?_)|refine Az Aa rfl rfl rfl rfl rfl rfl hc (Ab Aa ?_)|refine Al Aa 179 2 rfl rfl rfl rfl rfl rfl rfl (by omega) (Ab Aa ?_)|fail)<;>conv=>whnf))
  refine Gk (r:=((_ ||| 2 ^ (m%64):Nat):Int)) (bits_or_u64_nat _ _ hw5 hpow) rfl rfl rfl rfl rfl rfl rfl (Ab Aa ?_);conv=>whnf
  (repeat' ((first|refine Al Aa 179 2 rfl rfl rfl rfl rfl rfl rfl (by omega) (Ab Aa ?_)|fail)<;>conv=>whnf))
  refine Zn Aa 1 hcur rfl rfl rfl rfl rfl rfl (by omega) rfl rfl ?_
  intro w6 hp6
  refine Ab Aa ?_
  conv=>whnf
  skip
  refine Gk (r:=((_ &&& 2 ^ (m%64):Nat):Int)) (bits_and_u64_nat _ _ hw5 hpow) rfl rfl rfl rfl rfl rfl rfl (Ab Aa ?_);conv=>whnf
  (repeat' (first|refine Cg rfl rfl ?_|fail))
  have ho6:=Pz ho5 hcur hi5 hp6
  have hgb5:gb≠g:=fun e=>hne5 (by rw [e];rfl)
  refine ⟨_,g::[gb],⟨?_,⟨⟨_,?_,ho6,rfl,hne5⟩,hP.ge,hres5.1⟩,hk5.put hp6 (hnew5 gb rfl),?_,fun k=>?_,by simpa using hlen5⟩⟩
  ·rw [V9,hold5]
   simp
  ·have:=hp6.old hb5 (fun e=>hgb5 e.symm)
   simpa using this
  ·intro b hb'
   rcases List.mem_cons.1 hb' with rfl|hb'
   ·exact .inl (by rw [hfp];simp)
   ·rw [List.mem_singleton.1 hb']
    exact hnew5 gb rfl
  ·rw [hres5.2 k]
   congr 1
   rw [decide_eq_decide]
   omega
 ·have hok:=hok.symm
  rw [Bool.and_eq_true,decide_eq_true_eq,decide_eq_true_eq] at hok
  obtain ⟨hi5,he⟩:=hok
  have hrg:=hP.wf.rng _ (Bs hi5)
  have hres5:=Xm hP.wf hi5 (n:=m) (by omega)
  have hold5:bs[i]!.w.testBit (m%64)=Aw bs m:=(hP.wf.at_ hi5 (by omega)).symm
  have hk5:Kept fp w w2:=Kept.of hB
  have hnew5:∀ b,(Value.slice A bs.length c).ownBlock=some b->b∈fp\/w.heap.size<=b:=fun b e=>.inl (by rw [hfp];simp [e])
  have hlen5:bs.length<=bs.length+1:=by omega
  have hw5:=hrg.2.2.2
  have hb5:=hb2
  have ho5:=ho2
  have hne5:=hne
  (repeat' ((first|refine Fv rfl rfl rfl rfl rfl rfl (by omega) (by omega) (fun r hr hr0 hr1 hr2=>Ab Aa ?_)|refine Ke rfl rfl rfl rfl rfl rfl (by omega) (by omega) (by simp only [Cj];omega) (Ab Aa ?_)|refine Ag (by first|assumption|omega) ?_|fail)<;>conv=>whnf))
  have hform:=ownsB.blkform ho5 (by omega)
  obtain ⟨gb,cur,rfl,hcur,hcl,hbc⟩:=hform
  obtain ⟨_,hc5,hrow5⟩:=ownsB.rowAt ho5
  obtain ⟨ad,e,_,hc⟩:=Kt hrow5 i hi5
  cases e
  refine Adk (r:=((2 ^ (m%64):Nat):Int)) (Wj 0 (m%64) _ (by omega) (by omega)) rfl rfl rfl (by omega) rfl rfl rfl (Ab Aa ?_);conv=>whnf
  (repeat' ((first|refine Aj Aa hb5 rfl rfl rfl rfl rfl rfl rfl (Ab Aa ?_)|refine Az Aa rfl rfl rfl rfl rfl rfl hc (Ab Aa ?_)|refine Al Aa 179 2 rfl rfl rfl rfl rfl rfl rfl (by omega) (Ab Aa ?_)|fail)<;>conv=>whnf))
  refine Gk (r:=((_ ||| 2 ^ (m%64):Nat):Int)) (bits_or_u64_nat _ _ hw5 hpow) rfl rfl rfl rfl rfl rfl rfl (Ab Aa ?_);conv=>whnf
  (repeat' ((first|refine Al Aa 179 2 rfl rfl rfl rfl rfl rfl rfl (by omega) (Ab Aa ?_)|fail)<;>conv=>whnf))
  refine Zn Aa 1 hcur rfl rfl rfl rfl rfl rfl (by omega) rfl rfl ?_
  intro w6 hp6
  refine Ab Aa ?_
  conv=>whnf
  skip
  refine Gk (r:=((_ &&& 2 ^ (m%64):Nat):Int)) (bits_and_u64_nat _ _ hw5 hpow) rfl rfl rfl rfl rfl rfl rfl (Ab Aa ?_);conv=>whnf
  (repeat' (first|refine Cg rfl rfl ?_|fail))
  have ho6:=Pz ho5 hcur hi5 hp6
  have hgb5:gb≠g:=fun e=>hne5 (by rw [e];rfl)
  refine ⟨_,g::[gb],⟨?_,⟨⟨_,?_,ho6,rfl,hne5⟩,hP.ge,hres5.1⟩,hk5.put hp6 (hnew5 gb rfl),?_,fun k=>?_,by simpa using hlen5⟩⟩
  ·rw [V9,hold5]
   simp
  ·have:=hp6.old hb5 (fun e=>hgb5 e.symm)
   simpa using this
  ·intro b hb'
   rcases List.mem_cons.1 hb' with rfl|hb'
   ·exact .inl (by rw [hfp];simp)
   ·rw [List.mem_singleton.1 hb']
    exact hnew5 gb rfl
  ·rw [hres5.2 k]
   congr 1
   rw [decide_eq_decide]
   omega
theorem Nt {bs:List Blk}{i:Nat}(hi:i<bs.length):Br (bs.take (i+1))=Br (bs.take i)++Ht bs[i]! := by
 rw [Dk hi,U7]
theorem Tz (b:Blk):(Ht b).length=(Db b.w).length:=by simp [Ht]
theorem Bmq {base g:Nat}{w:World}{bs:List Blk}{fp:List Nat}(hP:PSet base g w bs fp)(hl:bs.length<=1099511627776) :
  Calls Tryz.prog 123 #[.pointer (some ⟨g,0,none⟩)] w fun e w'=>e=.returned (.int .i64 ((Br bs).length:Nat))/\Below w.heap.size w w':=by
 obtain ⟨V,hb,ho,hfp,hne⟩:=hP.ex
 obtain ⟨A,c,rfl,hlc,hrow⟩:=ho.row
 refine A9 (args:=[.pointer (some ⟨g,0,none⟩)]) Aa Tryz.func123 rfl Tryz.ntmps123 rfl ?_;conv=>whnf
 (repeat' ((first|refine Aj Aa hb rfl rfl rfl rfl rfl rfl rfl (Ab Aa ?_)|refine Kf Aa rfl rfl rfl rfl rfl rfl (Ab Aa ?_)|fail)<;>conv=>whnf))
 refine Am Aa (X:=Nat) (fun i=>[(3,.int .i64 ((Br (bs.take i)).length:Nat)),(11,.slice A bs.length c),(12,.int .i64 bs.length),(13,.int .i64 i)])
  (fun i wr=>i<=bs.length/\Below w.heap.size w wr) (fun i=>bs.length - i) 0 ⟨rfl,rfl,rfl,rfl,trivial⟩ ⟨by omega,Below.refl _ _⟩ ?_
 intro i G wr ⟨hi,hB⟩
 conv=>whnf
 by_cases hlt:i<bs.length
 ·obtain ⟨ad,rfl,hc⟩:=E8 (hrow.up B5 hB) i hlt
  have hnl:=Gv (bs.take i)
  have htl:(bs.take i).length<=1099511627776:=by simp;omega
  have hbl:=Kl bs[i]!.w
  have hrg:=hP.wf.rng _ (Bs hlt)
  generalize hN:(Br (bs.take i)).length=N at hnl
  (repeat' ((first|refine Al Aa 179 2 rfl rfl rfl rfl rfl rfl rfl (by omega) (Ab Aa ?_)|refine E0 Aa hc rfl rfl rfl rfl rfl rfl (Ab Aa ?_)|(refine Ag (by first|assumption|omega) ?_)|fail)<;>conv=>whnf))
  refine Bm Aa rfl rfl rfl rfl rfl rfl ?_
  intro g5 w1 hn1
  refine Ab Aa ?_
  conv=>whnf
  refine Di Aa hn1.blk rfl rfl rfl rfl rfl (by simp [Value.oneCell']) rfl rfl ?_
  intro w2 hp2
  have hB2:Below wr.heap.size wr w2:=hp2.below hn1.below (by have:=hn1.at_;omega) (by have:=hn1.size;omega)
  have hb5:=hp2.blk
  refine Ab Aa ?_
  conv=>whnf
  (repeat' ((first|refine Aj Aa hb5 rfl rfl rfl rfl rfl rfl rfl (Ab Aa ?_)|fail)<;>conv=>whnf))
  refine Bv Ax9 (Bg3 bs[i]!.w hrg.2.2.2 w2) rfl rfl rfl rfl rfl rfl rfl ?_
  rintro _ w3 ⟨rfl,hB3⟩
  refine ⟨_,rfl,Ab Aa ?_⟩
  conv=>whnf
  (repeat' ((first|refine Af rfl rfl rfl rfl rfl rfl (by omega) (by omega) (Ab Aa ?_)|fail)<;>conv=>whnf))
  refine ⟨i+1,⟨?_,rfl,rfl,rfl,trivial⟩,⟨by omega,Ax (Ax hB hB2) hB3⟩,by omega⟩
  show Value.int .i64 _=Value.int .i64 _
  rw [Nt hlt,List.length_append,Tz,hN]
  rfl
 ·(repeat' (first|refine Cg rfl rfl ?_|(first|(refine Ah (by first|assumption|omega) ?_)|fail)<;>conv=>whnf))
  have:bs.take i=bs:=List.take_of_length_le (by omega)
  rw [this]
  exact ⟨rfl,hB⟩
theorem Atq {base g:Nat}{w:World}{bs:List Blk}{fp:List Nat}(hP:PSet base g w bs fp)(hl:bs.length<=17179869184)(hT:Tab w) :
  Calls Tryz.prog 42 #[.pointer (some ⟨g,0,none⟩)] w fun e w'=>∃ V,e=.returned V/\GInts w.heap.size w' V (Br bs)/\Below w.heap.size w w':=by
 obtain ⟨V,hb,ho,hfp,hne⟩:=hP.ex
 obtain ⟨A,c,rfl,hlc,hrow⟩:=ho.row
 refine A9 (args:=[.pointer (some ⟨g,0,none⟩)]) Aa Tryz.func42 rfl Tryz.ntmps42 rfl ?_;conv=>whnf
 (repeat' ((first|refine Aj Aa hb rfl rfl rfl rfl rfl rfl rfl (Ab Aa ?_)|refine Kf Aa rfl rfl rfl rfl rfl rfl (Ab Aa ?_)|fail)<;>conv=>whnf))
 refine Am Aa (X:=Nat×Option Addr×Nat) (fun x=>[(3,.slice x.2.1 (Br (bs.take x.1)).length x.2.2),(12,.slice A bs.length c),(13,.int .i64 bs.length),(14,.int .i64 x.1)])
  (fun x wr=>x.1<=bs.length/\GInts w.heap.size wr (.slice x.2.1 (Br (bs.take x.1)).length x.2.2) (Br (bs.take x.1))/\Below w.heap.size w wr) (fun x=>bs.length - x.1) (0,none,0) ⟨rfl,rfl,rfl,rfl,trivial⟩ ⟨by simp only;omega,GRow.nil ..,Below.refl _ _⟩ ?_
 intro ⟨i,D,dc⟩ G wr ⟨hi,hI,hB⟩
 simp only at hi hI
 dsimp only
 conv=>whnf
 by_cases hlt:i<bs.length
 ·obtain ⟨ad,rfl,hc⟩:=E8 (hrow.up B5 hB) i hlt
  have hrg:=hP.wf.rng _ (Bs hlt)
  have htk:=Nt hlt
  have hnl:=Gv (bs.take i)
  have htl:(bs.take i).length=i:=by simp;omega
  generalize bs[i]! = bi at hc hrg htk
  generalize Br (bs.take i)=pre at hI htk hnl
  obtain ⟨ba,bw⟩:=bi
  simp only at hc hrg
  (repeat' ((first|refine Al Aa 179 2 rfl rfl rfl rfl rfl rfl rfl (by omega) (Ab Aa ?_)|refine E0 Aa hc rfl rfl rfl rfl rfl rfl (Ab Aa ?_)|(refine Ag (by first|assumption|omega) ?_)|fail)<;>conv=>whnf))
  refine Bm Aa rfl rfl rfl rfl rfl rfl ?_
  intro g5 w1 hn1
  refine Ab Aa ?_
  conv=>whnf
  refine Di Aa hn1.blk rfl rfl rfl rfl rfl (by simp [Value.oneCell']) rfl rfl ?_
  intro w2 hp2
  have hB2:Below wr.heap.size wr w2:=hp2.below hn1.below (by have:=hn1.at_;omega) (by have:=hn1.size;omega)
  have hb5:=hp2.blk
  have hI2:=hI.below hB2
  have hB02:=Ax hB hB2
  have hT2:=hT.up hB02
  have hb5n:∀ k,(Value.slice D pre.length dc).ownBlock=some k->k≠g5:=fun k e=>by have:=(hI.olt k e).2;have:=hn1.at_;omega
  refine Ab Aa ?_
  conv=>whnf
  (repeat' ((first|refine Aj Aa hb5 rfl rfl rfl rfl rfl rfl rfl (Ab Aa ?_)|fail)<;>conv=>whnf))
  clear hp2 hn1 hI
  refine Am Aa (X:=Option Addr×Nat×Nat×List Nat) (fun x=>[(3,.slice x.1 (pre++x.2.2.2.map (fun (i:Nat)=>64*ba+(i:Int))).length x.2.1),(5,.pointer (some ⟨g5,0,none⟩)),(6,.int .u64 (x.2.2.1:Int)),(12,.slice (some ad) bs.length c),(13,.int .i64 bs.length),(14,.int .i64 i)])
   (fun x wk=>x.2.2.1<18446744073709551616/\Db bw=x.2.2.2++Db x.2.2.1/\GInts w.heap.size wk (.slice x.1 (pre++x.2.2.2.map (fun (i:Nat)=>64*ba+(i:Int))).length x.2.1) (pre++x.2.2.2.map (fun (i:Nat)=>64*ba+(i:Int)))/\Below w.heap.size w wk/\wk.heap[g5]?=some (.cells #[.int .i64 ba,.int .u64 (bw:Int)] 179 (0,0))/\(∀ k,(Value.slice x.1 (pre++x.2.2.2.map (fun (i:Nat)=>64*ba+(i:Int))).length x.2.1).ownBlock=some k->k≠g5))
   (fun x=>x.2.2.1) (D,dc,bw,[]) ⟨?_,rfl,rfl,rfl,rfl,rfl,trivial⟩ ⟨hrg.2.2.2,rfl,by simpa using hI2,hB02,hb5,by simpa using hb5n⟩ ?_
  ·exact congrArg (fun z=>Value.slice D z dc) (by simp:pre.length=(pre++([]:List Nat).map (fun (i:Nat)=>64*ba+(i:Int))).length)
  clear hb5 hI2 hB02 hT2 hb5n
  intro ⟨E,ec,v,dn⟩ G2 wk ⟨hv,hbits,hI,hBk,hb5,hg5⟩
  simp only at hv hbits hI hg5
  dsimp only
  conv=>whnf
  have hTk:=hT.up hBk
  by_cases hv0:v=0
  ·subst hv0
   (repeat' ((first|refine Af rfl rfl rfl rfl rfl rfl (by omega) (by omega) (Ab Aa ?_)|fail)<;>conv=>whnf))
   rw [Sk,List.append_nil] at hbits
   rw [<- hbits] at hI
   refine ⟨(i+1,E,ec),⟨?_,rfl,rfl,rfl,trivial⟩,⟨by simp only;omega,?_,hBk⟩,by simp only;omega⟩
   ·show Value.slice E _ ec=Value.slice E _ ec
    simp only
    rw [htk,<- hbits]
    rfl
   ·simp only
    rw [htk]
    exact hI
  ·obtain ⟨hst,hlt64,hdec⟩:=R7 hv0 hv
   have hdl:dn.length<64:=by
    have h1:=congrArg List.length hbits
    have h2:=Kl bw
    rw [hst] at h1
    simp at h1
    omega
   (repeat' ((first|(refine Ag (by first|assumption|omega) ?_)|fail)<;>conv=>whnf))
   refine Gl 7 8 (Be _) Aa mixed (by kernel_rfl) rfl (Below.refl _ _) ?_;conv=>whnf
   (repeat' (first|(refine Bh5 Bj8 (fun w' hw'=>pTz v hv hv0 w' (hTk.up hw')) rfl rfl rfl rfl rfl rfl rfl (Ad Aa ?_);(conv=>whnf))|(first|refine Bg Aa hb5 rfl rfl rfl rfl rfl rfl rfl (Ad Aa ?_)|refine D7 rfl rfl rfl rfl rfl rfl (by omega) (by omega) (Ad Aa ?_)|refine Ko rfl rfl rfl rfl rfl rfl (by omega) (by omega) (Ad Aa ?_)|fail)<;>conv=>whnf))
   intro U1 _ hU1
   conv=>whnf
   refine Gf Aa 3 1 rfl rfl rfl rfl rfl rfl rfl rfl rfl ?_
   intro g7 U2 hn7
   refine ⟨hn7.up hU1,fun U3 hU3 _=>?_⟩
   conv=>whnf
   have hU13:=Ax (hn7.up hU1) hU3
   have hI3:=hI.below hU13
   obtain ⟨flat,hfl,hel⟩:=hI3.own
   have hln:(pre++dn.map (fun (i:Nat)=>64*ba+(i:Int))).length<=1099511627776:=by simp;omega
   have hBU:=Ax hBk hU13
   have hks:=hBU.size
   refine Cu Aa 3 1 8 hfl (Ac hU3 hn7.blk) rfl rfl rfl rfl rfl rfl rfl rfl rfl rfl rfl rfl (by simp [Value.oneCell']) (by omega) (by omega) (by omega) ?_
   intro A7 cap7 U4 hown hgr hob
   have hnew:=D5 hI3 hel hown hgr hob (y:=64*ba+(Lib.ctz 64 v:Nat)) ⟨by omega,by omega⟩
   have hBU4:Below w.heap.size w U4:=hBU.grown hgr (by omega) (fun k hk=>(hI3.olt k hk).1)
   have hb54:U4.heap[g5]?=some (.cells #[.int .i64 ba,.int .u64 (bw:Int)] 179 (0,0)):=(hgr.block g5 (Ae (Ac hU13 hb5)) (fun e=>hg5 g5 e.symm rfl)).trans (Ac hU13 hb5)
   have hg54:∀ k,(Value.slice A7 ((pre++dn.map (fun (i:Nat)=>64*ba+(i:Int))).length+1) cap7).ownBlock=some k->k≠g5:=fun k e=>by
    rcases hob with h1|h1
    ·exact hg5 k (h1.symm.trans e)
    ·rw [e] at h1
     have:=Ae (Ac hU13 hb5)
     cases h1
     omega
   have ex:pre++dn.map (fun (i:Nat)=>64*ba+(i:Int))++[64*ba+((Lib.ctz 64 v:Nat):Int)]=pre++(dn++[Lib.ctz 64 v]).map (fun (i:Nat)=>64*ba+(i:Int)):=by simp
   rw [ex] at hnew
   have exl:(pre++dn.map (fun (i:Nat)=>64*ba+(i:Int))).length+1=(pre++(dn++[Lib.ctz 64 v]).map (fun (i:Nat)=>64*ba+(i:Int))).length:=by rw [<- ex];simp;omega
   rw [exl] at hnew hg54 ⊢
   refine Ab Aa ?_
   conv=>whnf
   skip
   refine Am7 (k:=.u64) (a:=(v:Int)) (b:=1) (r:=((v - 1:Nat):Int)) (by rw [IntKind.wrap_u64];omega) rfl rfl rfl rfl rfl rfl (Ab Aa ?_);conv=>whnf
   refine Gk (r:=((v &&& (v - 1):Nat):Int)) (bits_and_u64_nat v (v - 1) hv (by omega)) rfl rfl rfl rfl rfl rfl rfl (Ab Aa ?_);conv=>whnf
   skip
   refine ⟨(A7,cap7,v &&& (v - 1),dn++[Lib.ctz 64 v]),⟨rfl,rfl,rfl,rfl,rfl,rfl,trivial⟩,⟨by simp only;omega,?_,hnew,hBU4,hb54,hg54⟩,hdec⟩
   rw [hbits,hst,List.append_assoc]
   rfl
 ·(repeat' (first|refine Cg rfl rfl ?_|(first|(refine Ah (by first|assumption|omega) ?_)|fail)<;>conv=>whnf))
  have:bs.take i=bs:=List.take_of_length_le (by omega)
  rw [this] at hI ⊢
  exact ⟨_,rfl,hI,hB⟩
theorem Anx:∀ {xs ys:List Int},xs.Pairwise (·<·)->ys.Pairwise (·<·)->(∀ x,x∈xs↔x∈ys)->xs=ys
 |[],[],_,_,_=>rfl
 |[],y::ys,_,_,h=>by have:=(h y).2 (by simp);cases this
 |x::xs,[],_,_,h=>by have:=(h x).1 (by simp);cases this
 |x::xs,y::ys,h1,h2,h=>by
  have t1:∀ b∈xs,x<b:=fun b hb=>List.rel_of_pairwise_cons h1 hb
  have t2:∀ b∈ys,y<b:=fun b hb=>List.rel_of_pairwise_cons h2 hb
  have e:x=y:=by
   rcases List.mem_cons.1 ((h x).1 (by simp)) with e|m1
   ·exact e
   ·rcases List.mem_cons.1 ((h y).2 (by simp)) with e|m2
    ·exact e.symm
    ·have:=t2 x m1;have:=t1 y m2;omega
  subst e
  rw [Anx (List.Pairwise.of_cons h1) (List.Pairwise.of_cons h2) fun b=>⟨fun hb=>?_,fun hb=>?_⟩]
  ·rcases List.mem_cons.1 ((h b).1 (by simp [hb])) with e|m
   ·subst e;have:=t1 b hb;omega
   ·exact m
  ·rcases List.mem_cons.1 ((h b).2 (by simp [hb])) with e|m
   ·subst e;have:=t2 b hb;omega
   ·exact m
structure OwnS (w0:World)(g:Nat)(w:World)(bs:List Blk)(fp:List Nat):Prop where
 set:PSet w0.heap.size g w bs fp
 below:Below w0.heap.size w0 w
theorem K6 {w w1:World}{g:Nat}(h:New w w1 g [.slice none 0 0] 120):PSet w.heap.size g w1 [] [g]:=
 ⟨⟨.slice none 0 0,h.blk,F6 ..,rfl,by simp [Value.ownBlock]⟩,Nat.le_of_eq h.at_.symm,WFB.nil⟩
theorem OwnS.add {w0 w w':World}{g:Nat}{bs bs':List Blk}{fp fp':List Nat}{n:Int}{e:Ending}(h:OwnS w0 g w bs fp)(r:AddR w0.heap.size g w bs fp n e w' bs' fp'):OwnS w0 g w' bs' fp':=
 ⟨r.set,r.kept.below h.below h.below.size (fun k hk=>(h.set.lt k hk).1)⟩
theorem pOf (l:List Int)(A:Option Addr)(c:Nat)(w:World)(h:RI w A l)(hl:l.length<=1048576) :
  Calls Tryz.prog 152 #[.slice A l.length c] w fun e w'=>∃ g bs fp,e=.returned (.pointer (some ⟨g,0,none⟩))/\OwnS w g w' bs fp/\(∀ m:Nat,Aw bs m=decide ((m:Int)∈l))/\bs.length<=l.length:=by
 refine A9 (args:=[.slice A l.length c]) Aa Tryz.func152 rfl Tryz.ntmps152 rfl ?_;conv=>whnf
 skip
 refine Ci rfl rfl rfl rfl rfl rfl ?_
 intro g w1 hn1
 refine Ab Aa ?_
 conv=>whnf
 skip
 refine Am Aa (X:=Nat) (fun i=>[(3,.pointer (some ⟨g,0,none⟩)),(8,.slice A l.length c),(9,.int .i64 l.length),(10,.int .i64 i)])
  (fun i wr=>i<=l.length/\∃ bs fp,OwnS w g wr bs fp/\(∀ m:Nat,Aw bs m=decide ((m:Int)∈l.take i))/\bs.length<=i) (fun i=>l.length - i) 0 ⟨rfl,rfl,rfl,rfl,trivial⟩ ⟨by omega,[],[g],⟨K6 hn1,hn1.below⟩,by simp [E9],by simp⟩ ?_
 intro i G wr ⟨hi,bs,fp,hO,hm,hbl⟩
 conv=>whnf
 by_cases hlt:i<l.length
 ·obtain ⟨o,ad,ho,rfl,f0,ho1,ho2⟩:=Dy (h.up (Bj _) hO.below) i hlt
  (repeat' ((first|refine Az Aa rfl rfl rfl rfl rfl rfl f0 (Ab Aa ?_)|refine Al Aa 3 1 rfl rfl rfl rfl rfl rfl rfl (by omega) (Ab Aa ?_)|(refine Ag (by first|assumption|omega) ?_)|fail)<;>conv=>whnf))
  refine Bv Y7 (Ag7 hO.set o ho2 (by omega) hO.below.size) rfl rfl rfl rfl rfl rfl rfl ?_
  rintro _ w2 ⟨bs',fp',r⟩
  refine ⟨_,r.ret,Ab Aa ?_⟩
  conv=>whnf
  (repeat' ((first|refine Af rfl rfl rfl rfl rfl rfl (by omega) (by omega) (Ab Aa ?_)|fail)<;>conv=>whnf))
  refine ⟨i+1,⟨rfl,rfl,rfl,rfl,trivial⟩,⟨by omega,bs',fp',hO.add r,fun m=>?_,by have:=r.len;omega⟩,by omega⟩
  rw [r.mem,hm,Mv hlt,ho.out]
  simp [Bool.decide_or,eq_comm]
 ·(repeat' (first|refine Cg rfl rfl ?_|(first|(refine Ah (by first|assumption|omega) ?_)|fail)<;>conv=>whnf))
  refine ⟨g,bs,fp,rfl,hO,fun m=>?_,by omega⟩
  rw [hm,List.take_of_length_le (by omega)]
theorem Zh {bs:List Blk}(hw:WFB bs){l:List Int}(hl:l.Pairwise (·<·))(h0:∀ x∈l,0<=x)(h:∀ m:Nat,Aw bs m=decide ((m:Int)∈l)):Br bs=l:=by
 refine Anx (Th hw.up) hl fun x=>?_
 rw [F5 hw,h]
 constructor
 ·rintro ⟨h1,h2⟩
  have h2:((x.toNat:Nat):Int)∈l:=by simpa using h2
  rwa [show ((x.toNat:Nat):Int)=x by omega] at h2
 ·intro hx
  refine ⟨h0 x hx,?_⟩
  rw [show ((x.toNat:Nat):Int)=x by have:=h0 x hx;omega]
  simpa using hx
end Go.Proofs.YtghmdfegfehhkaaGreatDoor
