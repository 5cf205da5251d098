/- Several texts of one claim in one file, made short: Y03 HL18 HA18 SB12 HB18 PS19 EW19 SH19. -/
import Derived.Test.YtghmdfegfehhkaaGreatDoorZ18
import Derived.Laws.BytesString
import Derived.Laws.StructEq
import Derived.Test.YtghmdfegfehhkaaGreatDoorZ19
import Derived.Test.YtghmdfegfehhkaaGreatDoorZ17
import Derived.Test.YtghmdfegfehhkaaGreatDoorZ16
import Derived.Test.YtghmdfegfehhkaaGreatDoorZ6
import Derived.Test.YtghmdfegfehhkaaGreatDoorZ5
import Derived.Test.YtghmdfegfehhkaaGreatDoorZ4
set_option maxRecDepth 100000
set_option maxHeartbeats 64000000
set_option linter.unusedVariables false
set_option linter.unusedSimpArgs false
namespace Go.Proofs.YtghmdfegfehhkaaGreatDoor
open Go.RowKit
set_option linter.unnecessarySimpa false
def Tw (n:Nat):Value:=.int .u8 (n:Int)
def Fk (l:List Nat):ByteArray:=(l.map fun (n:Nat)=>(n:Int)).foldl (fun r n=>r.push (UInt8.ofNat n.toNat)) ByteArray.empty
theorem Ag8 (l:List Nat):∀ r:ByteArray,((l.map fun (n:Nat)=>(n:Int)).foldl (fun r n=>r.push (UInt8.ofNat n.toNat)) r).data.toList=r.data.toList++l.map UInt8.ofNat:=by
 induction l with
 |nil=>intro r;simp
 |cons a l ih=>
  intro r
  simp only [List.map_cons,List.foldl_cons]
  rw [ih]
  simp [ByteArray.push]
theorem Te {x y:List Nat}(hx:∀ n∈x,n<256)(hy:∀ n∈y,n<256)(h:Fk x=Fk y):x=y:=by
 have h1:=congrArg (fun b:ByteArray=>b.data.toList) h
 simp only [Fk,Ag8] at h1
 have h2:x.map UInt8.ofNat=y.map UInt8.ofNat:=by simpa using h1
 have back:∀ l:List Nat,(∀ n∈l,n<256)->(l.map UInt8.ofNat).map UInt8.toNat=l:=fun l hl=>by
  rw [List.map_map]
  conv=>rhs;rw [<- List.map_id l]
  refine List.map_congr_left fun n hn=>?_
  simp [Nat.mod_eq_of_lt (hl n hn)]
 rw [<- back x hx,<- back y hy,h2]
theorem Wu {bs:List Blk}:∀ n∈Ey bs,n<256:=by
 intro n hn
 obtain ⟨b,_,hb⟩:=List.mem_flatMap.1 hn
 rcases List.mem_append.1 hb with h|h
 ·obtain ⟨i,_,rfl⟩:=List.mem_map.1 h;exact Nat.mod_lt _ (by omega)
 ·obtain ⟨i,_,rfl⟩:=List.mem_map.1 h;exact Nat.mod_lt _ (by omega)
theorem Bay (a b:ByteArray):(a==b)=decide (a=b):=by
 obtain ⟨x⟩:=a
 obtain ⟨y⟩:=b
 show (x==y)=_
 rw [Bool.eq_iff_iff]
 simp
theorem Ak3 {xs ys:List Blk}(hx:WFB xs)(hy:WFB ys)(h1:∀ b∈xs,b.a<4294967296)(h2:∀ b∈ys,b.a<4294967296):(Fk (Ey xs)==Fk (Ey ys))=decide (xs=ys):=by
 rw [Bay,decide_eq_decide]
 constructor
 ·intro h
  exact Su (fun b hb=>⟨(hx.rng b hb).1,h1 b hb,(hx.rng b hb).2.2.2⟩) (fun b hb=>⟨(hy.rng b hb).1,h2 b hb,(hy.rng b hb).2.2.2⟩) (Te Wu Wu h)
 ·intro h;rw [h]
section
variable {P:Program}{T:Nat->Option TI}{n:Nat}{Q:Post}{F:Fm}{w:World}{ops:Array Oper}{rest:List Oper}{o:Oper}
theorem Y6 {base:Nat}{s d9 e:TypeId}{x:Operand}{V:Value}{l:List Nat}(hop:o.op=.convert s d9 x)(hx:ev F x=V)(hs:P.underlying s=some (.slice e))(he:P.underlying e=some (.int .u8))(hd9:P.underlying d9=some .string)
  (hown:w.ownsRow base e 1 V l.length (l.map Tw)) (hg:o.guard=none) {d:Nat} (hd:o.dst=some d) (hn:Nat.blt d n=true)
  (k:wl P n ops rest Q (Bd F d (.string (Fk l))) w):wl P n ops (o::rest) Q F w:=by
 refine Bh hg hd hn ?_ k
 rcases hown.2 with ⟨rfl,h0⟩|⟨g,cap,cur,rfl,_,hcur,hnc,_,hcs,htk⟩
 ·have hl:l=[]:=List.eq_nil_of_length_eq_zero h0
  subst hl
  have h1:=run_convert_bytes_string w s d9 e none 0 0 hs he hd9
  have h2:(Conv.bytesToString (.slice none 0 0)).run P w=.ok (.string (Fk [])) w:=by
   unfold Conv.bytesToString
   simp [Fk]
  simp [execOp,hop,hx,h1,h2]
 ·have h1:=run_convert_bytes_string w s d9 e (some ⟨g,0,none⟩) l.length cap hs he hd9
  have hl:=run_loadCells_list (P:=P) w ⟨g,0,none⟩ (l.map Tw) (fun j v hv=>by
   rw [add_zero]
   refine Au hcur ?_
   rw [<- htk,List.getElem?_take] at hv
   split at hv
   ·simpa using hv
   ·cases hv)
  have e2:l.map Tw=(l.map fun (n:Nat)=>(n:Int)).map (Value.int .u8):=by simp [Tw]
  rw [List.length_map,e2] at hl
  have h2:=run_bytesToString w ⟨g,0,none⟩ l.length cap _ hl
  have h3:(Conv.bytesToString (.slice (some ⟨g,0,none⟩) l.length cap)).run P w=.ok (.string (Fk l)) w:=h2
  simp [execOp,hop,hx,h1,h3]
end
theorem P5 {w:World}{base:Nat}{e:TypeId}{A:Option Addr}{c:Nat}{l:List Nat}{x:Nat}(h:w.ownsRow base e 1 (.slice A (l.length+1) c) (l.length+1) (l.map Tw++[Tw x])):w.ownsRow base e 1 (.slice A (l++[x]).length c) (l++[x]).length ((l++[x]).map Tw):=by
 have e1:(l++[x]).length=l.length+1:=by simp
 rw [e1,List.map_append]
 exact h
theorem Zb (a:Int)(j:Nat)(ha:0<=a)(hj:j<8):IntKind.u8.wrap (a/2 ^ min ((8*(j:Int))).toNat IntKind.i64.bits)=((a.toNat/2 ^ (8*j)%256:Nat):Int):=by
 have e:min ((8*(j:Int))).toNat IntKind.i64.bits=8*j:=by simp [IntKind.bits];omega
 obtain ⟨m,rfl⟩:∃ m:Nat,a=m:=⟨a.toNat,by omega⟩
 rw [e]
 simp [IntKind.wrap,IntKind.signed,IntKind.bits]
theorem Ad6 (a:Nat)(j:Nat)(hj:j<8):IntKind.u8.wrap ((a:Int)/2 ^ min ((8*(j:Int))).toNat IntKind.u64.bits)=((a/2 ^ (8*j)%256:Nat):Int):=by
 have e:min ((8*(j:Int))).toNat IntKind.u64.bits=8*j:=by simp [IntKind.bits];omega
 rw [e]
 simp [IntKind.wrap,IntKind.signed,IntKind.bits]
theorem Jm (f:Nat->Nat)(pre:List Nat)(j:Nat):pre++(List.range (j+1)).map f=(pre++(List.range j).map f)++[f j]:=by
 rw [List.range_succ];simp
theorem X4 {bs:List Blk}{i:Nat}(hi:i<bs.length):Ey (bs.take (i+1))=Ey (bs.take i)++keyOf bs[i]! := by
 rw [Dk hi];simp [Ey]
theorem Pi:∀ bs:List Blk,(Ey bs).length=12*bs.length
 |[]=>rfl
 |b::bs=>by
  have h:Ey (b::bs)=keyOf b++Ey bs:=rfl
  rw [h,List.length_append,H6,Pi bs,List.length_cons]
  omega
theorem Bg1 (bs:List Blk)(A:Option Addr)(c:Nat)(v:Option Addr)(w:World)(hr:∀ b∈bs,0<=b.a)(hl:bs.length<=1099511627776)
  (hlist:Calls Tryz.prog 131 #[.pointer v] w fun e w'=>e=.returned (.slice A bs.length c)/\Below w.heap.size w w'/\RowR 2 K5 w' A bs) :
  Calls Tryz.prog 124 #[.pointer v] w fun e w'=>e=.returned (.string (Fk (Ey bs)))/\Below w.heap.size w w':=by
 refine A9 (args:=[.pointer v]) Aa Tryz.func124 rfl Tryz.ntmps124 rfl ?_;conv=>whnf
 skip
 refine Bv Am8 hlist rfl rfl rfl rfl rfl rfl rfl ?_
 rintro _ w1 ⟨rfl,hB1,hrow⟩
 refine ⟨_,rfl,Ab Aa ?_⟩
 conv=>whnf
 skip
 refine Am Aa (X:=Nat×Option Addr×Nat) (fun x=>[(3,.slice x.2.1 (Ey (bs.take x.1)).length x.2.2),(9,.slice A bs.length c),(10,.int .i64 bs.length),(11,.int .i64 x.1)])
  (fun x wr=>x.1<=bs.length/\wr.ownsRow w1.heap.size 5 1 (.slice x.2.1 (Ey (bs.take x.1)).length x.2.2) (Ey (bs.take x.1)).length ((Ey (bs.take x.1)).map Tw)/\Below w1.heap.size w1 wr) (fun x=>bs.length - x.1) (0,none,0) ⟨rfl,rfl,rfl,rfl,trivial⟩ ⟨by simp only;omega,F6 ..,Below.refl _ _⟩ ?_
 intro ⟨i,D,dc⟩ G wr ⟨hi,hI,hB⟩
 simp only at hi hI
 dsimp only
 conv=>whnf
 by_cases hlt:i<bs.length
 ·obtain ⟨ad,rfl,hc⟩:=E8 (hrow.up B5 hB) i hlt
  have hrg:=hr _ (Bs hlt)
  have htk:=X4 hlt
  have hkl:=Pi (bs.take i)
  have htl:(bs.take i).length=i:=by simp;omega
  generalize Ey (bs.take i)=pre at hI htk hkl
  (repeat' ((first|refine Al Aa 179 2 rfl rfl rfl rfl rfl rfl rfl (by omega) (Ab Aa ?_)|refine E0 Aa hc rfl rfl rfl rfl rfl rfl (Ab Aa ?_)|(refine Ag (by first|assumption|omega) ?_)|fail)<;>conv=>whnf))
  refine Bm Aa rfl rfl rfl rfl rfl rfl ?_
  intro g5 w2 hn2
  refine Ab Aa ?_
  conv=>whnf
  refine Di Aa hn2.blk rfl rfl rfl rfl rfl (by simp [Value.oneCell']) rfl rfl ?_
  intro w3 hp3
  have hB2:Below wr.heap.size wr w3:=hp3.below hn2.below (by have:=hn2.at_;omega) (by have:=hn2.size;omega)
  have hb5:w3.heap[g5]?=some (.cells #[.int .i64 bs[i]!.a,.int .u64 (bs[i]!.w:Int)] 179 (0,0)):=hp3.blk
  have hB02:=Ax hB hB2
  have hI3:=hI.kept (Ar (row:=none) hB2) (Classical.em _)
  have hn5:∀ k,(Value.slice D pre.length dc).ownBlock=some k->k≠g5:=fun k e=>by have:=(hI.lt k e).2;have:=hn2.at_;omega
  refine Ab Aa ?_
  conv=>whnf
  skip
  clear hp3 hn2 hI
  refine Am Aa (X:=Option Addr×Nat×Nat) (fun x=>[(3,.slice x.1 (pre++(List.range x.2.2).map (fun j=>bs[i]!.a.toNat/2 ^ (8*j)%256)).length x.2.1),(5,.pointer (some ⟨g5,0,none⟩)),(9,.slice (some ad) bs.length c),(10,.int .i64 bs.length),(11,.int .i64 i),(15,.int .i64 x.2.2)])
   (fun x wk=>x.2.2<=4/\wk.ownsRow w1.heap.size 5 1 (.slice x.1 (pre++(List.range x.2.2).map (fun j=>bs[i]!.a.toNat/2 ^ (8*j)%256)).length x.2.1) (pre++(List.range x.2.2).map (fun j=>bs[i]!.a.toNat/2 ^ (8*j)%256)).length ((pre++(List.range x.2.2).map (fun j=>bs[i]!.a.toNat/2 ^ (8*j)%256)).map Tw)/\Below w1.heap.size w1 wk/\wk.heap[g5]?=some (.cells #[.int .i64 bs[i]!.a,.int .u64 (bs[i]!.w:Int)] 179 (0,0))/\(∀ k,(Value.slice x.1 (pre++(List.range x.2.2).map (fun j=>bs[i]!.a.toNat/2 ^ (8*j)%256)).length x.2.1).ownBlock=some k->k≠g5))
   (fun x=>4 - x.2.2) (D,dc,0) ⟨?_,rfl,rfl,rfl,rfl,rfl,trivial⟩ ⟨by simp,by simpa using hI3,hB02,hb5,by simpa using hn5⟩ ?_
  ·exact congrArg (fun z=>Value.slice D z dc) (by simp:pre.length=(pre++(List.range 0).map (fun j=>bs[i]!.a.toNat/2 ^ (8*j)%256)).length)
  clear hb5 hI3 hB02 hn5
  intro ⟨E,ec,j⟩ G2 wk ⟨hj,hI,hBk,hb5,hg5⟩
  simp only at hj hI hg5
  dsimp only
  conv=>whnf
  by_cases hj4:j<4
  ·have hnx:=Jm (fun j=>bs[i]!.a.toNat/2 ^ (8*j)%256) pre j
   have hplen:(pre++(List.range j).map (fun j=>bs[i]!.a.toNat/2 ^ (8*j)%256)).length=pre.length+j:=by simp
   generalize pre++(List.range j).map (fun j=>bs[i]!.a.toNat/2 ^ (8*j)%256)=pj at hI hnx hplen hg5
   obtain ⟨bt,hbt⟩:∃ bt,bt=bs[i]!.a.toNat/2 ^ (8*j)%256:=⟨_,rfl⟩
   have hu8:=Zb bs[i]!.a j hrg (by omega)
   rw [<- hbt] at hu8
   (repeat' ((first|refine Aj Aa hb5 rfl rfl rfl rfl rfl rfl rfl (Ab Aa ?_)|refine U0 rfl rfl rfl rfl rfl rfl (by omega) (by omega) (Ab Aa ?_)|refine Ag (by first|assumption|omega) ?_|fail)<;>conv=>whnf))
   refine Gi (r:=bs[i]!.a/2 ^ min (8*(j:Int)).toNat IntKind.i64.bits) rfl rfl rfl rfl (by omega) rfl rfl rfl (Ab Aa ?_);conv=>whnf
   refine Uc Aa rfl rfl rfl rfl rfl rfl ?_
   rw [hu8]
   refine Ab Aa ?_
   conv=>whnf
   refine C7 Aa 5 1 rfl rfl rfl rfl rfl rfl rfl rfl rfl rfl ?_
   intro g8 u1 hn8
   refine Ab Aa ?_
   conv=>whnf
   have hIu:=hI.kept (Ar (row:=none) hn8.below) (Classical.em _)
   have hks:=hBk.size
   refine Cu Aa 5 1 1 hIu hn8.blk rfl rfl rfl rfl rfl rfl rfl rfl rfl rfl rfl rfl (by simp [Value.oneCell']) (by omega) (by omega) (by have:=hn8.size;omega) ?_
   intro A7 cap7 u2 hown hgr hob
   have hpush:=P5 (x:=bt) hown
   have hgk:wk.grownBy u2 (Value.slice E pj.length ec).ownBlock:=Bt (Ar hn8.below) hgr
   have hBu:Below w1.heap.size w1 u2:=hBk.grown hgk hks (fun k e=>(hI.lt k e).1)
   have hb5u:=(hgk.block g5 (Ae hb5) (fun e=>hg5 g5 e.symm rfl)).trans hb5
   have hg5u:∀ k,(Value.slice A7 (pj.length+1) cap7).ownBlock=some k->k≠g5:=fun k e=>by
    rcases hob with h1|h1
    ·exact hg5 k (h1.symm.trans e)
    ·rw [e] at h1
     have:=Ae hb5
     have:=hn8.size
     cases h1
     omega
   have el:pj.length+1=(pj++[bt]).length:=by simp
   rw [el] at hg5u
   refine Ab Aa ?_
   conv=>whnf
   rw [el]
   (repeat' ((first|refine Af rfl rfl rfl rfl rfl rfl (by omega) (by omega) (Ab Aa ?_)|fail)<;>conv=>whnf))
   rw [hbt] at hpush hg5u ⊢
   rw [<- hnx] at hpush hg5u ⊢
   exact ⟨(A7,cap7,j+1),⟨rfl,rfl,rfl,rfl,rfl,rfl,trivial⟩,⟨by simp only;omega,hpush,hBu,hb5u,hg5u⟩,by simp only;omega⟩
  ·have e4:j=4:=by omega
   (repeat' ((first|(refine Ah (by first|assumption|omega) ?_)|fail)<;>conv=>whnf))
   subst e4
   obtain ⟨pre2,hpre2⟩:∃ p2,p2=pre++(List.range 4).map (fun j=>bs[i]!.a.toNat/2 ^ (8*j)%256):=⟨_,rfl⟩
   have hp2l:pre2.length=pre.length+4:=by rw [hpre2];simp
   rw [<- hpre2] at hI hg5 ⊢
   refine Am Aa (X:=Option Addr×Nat×Nat) (fun x=>[(3,.slice x.1 (pre2++(List.range x.2.2).map (fun j=>bs[i]!.w/2 ^ (8*j)%256)).length x.2.1),(5,.pointer (some ⟨g5,0,none⟩)),(9,.slice (some ad) bs.length c),(10,.int .i64 bs.length),(11,.int .i64 i),(28,.int .i64 x.2.2)])
    (fun x wk=>x.2.2<=8/\wk.ownsRow w1.heap.size 5 1 (.slice x.1 (pre2++(List.range x.2.2).map (fun j=>bs[i]!.w/2 ^ (8*j)%256)).length x.2.1) (pre2++(List.range x.2.2).map (fun j=>bs[i]!.w/2 ^ (8*j)%256)).length ((pre2++(List.range x.2.2).map (fun j=>bs[i]!.w/2 ^ (8*j)%256)).map Tw)/\Below w1.heap.size w1 wk/\wk.heap[g5]?=some (.cells #[.int .i64 bs[i]!.a,.int .u64 (bs[i]!.w:Int)] 179 (0,0))/\(∀ k,(Value.slice x.1 (pre2++(List.range x.2.2).map (fun j=>bs[i]!.w/2 ^ (8*j)%256)).length x.2.1).ownBlock=some k->k≠g5))
    (fun x=>8 - x.2.2) (E,ec,0) ⟨?_,rfl,rfl,rfl,rfl,rfl,trivial⟩ ⟨by simp,by simpa using hI,hBk,hb5,by simpa using hg5⟩ ?_
   ·exact congrArg (fun z=>Value.slice E z ec) (by simp:pre2.length=(pre2++(List.range 0).map (fun j=>bs[i]!.w/2 ^ (8*j)%256)).length)
   clear hb5 hI hBk hg5
   intro ⟨E,ec,j⟩ G2 wk ⟨hj,hI,hBk,hb5,hg5⟩
   simp only at hj hI hg5
   dsimp only
   conv=>whnf
   by_cases hj4:j<8
   ·have hnx:=Jm (fun j=>bs[i]!.w/2 ^ (8*j)%256) pre2 j
    have hplen:(pre2++(List.range j).map (fun j=>bs[i]!.w/2 ^ (8*j)%256)).length=pre2.length+j:=by simp
    generalize pre2++(List.range j).map (fun j=>bs[i]!.w/2 ^ (8*j)%256)=pj at hI hnx hplen hg5
    obtain ⟨bt,hbt⟩:∃ bt,bt=bs[i]!.w/2 ^ (8*j)%256:=⟨_,rfl⟩
    have hu8:=Ad6 bs[i]!.w j (by omega)
    rw [<- hbt] at hu8
    (repeat' ((first|refine Aj Aa hb5 rfl rfl rfl rfl rfl rfl rfl (Ab Aa ?_)|refine U0 rfl rfl rfl rfl rfl rfl (by omega) (by omega) (Ab Aa ?_)|refine Ag (by first|assumption|omega) ?_|fail)<;>conv=>whnf))
    refine Gi (r:=(bs[i]!.w:Int)/2 ^ min (8*(j:Int)).toNat IntKind.u64.bits) rfl rfl rfl rfl (by omega) rfl rfl rfl (Ab Aa ?_);conv=>whnf
    refine Uc Aa rfl rfl rfl rfl rfl rfl ?_
    rw [hu8]
    refine Ab Aa ?_
    conv=>whnf
    refine C7 Aa 5 1 rfl rfl rfl rfl rfl rfl rfl rfl rfl rfl ?_
    intro g8 u1 hn8
    refine Ab Aa ?_
    conv=>whnf
    have hIu:=hI.kept (Ar (row:=none) hn8.below) (Classical.em _)
    have hks:=hBk.size
    refine Cu Aa 5 1 1 hIu hn8.blk rfl rfl rfl rfl rfl rfl rfl rfl rfl rfl rfl rfl (by simp [Value.oneCell']) (by omega) (by omega) (by have:=hn8.size;omega) ?_
    intro A7 cap7 u2 hown hgr hob
    have hpush:=P5 (x:=bt) hown
    have hgk:wk.grownBy u2 (Value.slice E pj.length ec).ownBlock:=Bt (Ar hn8.below) hgr
    have hBu:Below w1.heap.size w1 u2:=hBk.grown hgk hks (fun k e=>(hI.lt k e).1)
    have hb5u:=(hgk.block g5 (Ae hb5) (fun e=>hg5 g5 e.symm rfl)).trans hb5
    have hg5u:∀ k,(Value.slice A7 (pj.length+1) cap7).ownBlock=some k->k≠g5:=fun k e=>by
     rcases hob with h1|h1
     ·exact hg5 k (h1.symm.trans e)
     ·rw [e] at h1
      have:=Ae hb5
      have:=hn8.size
      cases h1
      omega
    have el:pj.length+1=(pj++[bt]).length:=by simp
    rw [el] at hg5u
    refine Ab Aa ?_
    conv=>whnf
    rw [el]
    (repeat' ((first|refine Af rfl rfl rfl rfl rfl rfl (by omega) (by omega) (Ab Aa ?_)|fail)<;>conv=>whnf))
    rw [hbt] at hpush hg5u ⊢
    rw [<- hnx] at hpush hg5u ⊢
    exact ⟨(A7,cap7,j+1),⟨rfl,rfl,rfl,rfl,rfl,rfl,trivial⟩,⟨by simp only;omega,hpush,hBu,hb5u,hg5u⟩,by simp only;omega⟩
   ·have e8:j=8:=by omega
    (repeat' ((first|refine Af rfl rfl rfl rfl rfl rfl (by omega) (by omega) (Ab Aa ?_)|refine Ah (by first|assumption|omega) ?_|fail)<;>conv=>whnf))
    subst e8
    have hfin:pre2++(List.range 8).map (fun j=>bs[i]!.w/2 ^ (8*j)%256)=Ey (bs.take (i+1)):=by
     rw [htk,hpre2]
     simp [keyOf,List.append_assoc]
    rw [hfin] at hI ⊢
    exact ⟨(i+1,E,ec),⟨rfl,rfl,rfl,rfl,trivial⟩,⟨by simp only;omega,hI,hBk⟩,by simp only;omega⟩
 ·(repeat' ((first|(refine Ah (by first|assumption|omega) ?_)|fail)<;>conv=>whnf))
  have:bs.take i=bs:=List.take_of_length_le (by omega)
  rw [this] at hI ⊢
  refine Y6 rfl rfl Tryz.underlying59 Tryz.underlying5 Tryz.underlying9 hI rfl rfl rfl (Ab Aa ?_);conv=>whnf
  (repeat' (first|refine Cg rfl rfl ?_|fail))
  exact ⟨rfl,Ax hB1 hB⟩
theorem Bn9 {base g:Nat}{w:World}{bs:List Blk}{fp:List Nat}(hP:PSet base g w bs fp)(hl:bs.length<=1099511627776) :
  Calls Tryz.prog 124 #[.pointer (some ⟨g,0,none⟩)] w fun e w'=>e=.returned (.string (Fk (Ey bs)))/\Below w.heap.size w w':=by
 obtain ⟨V,hb,ho,hfp,hne⟩:=hP.ex
 obtain ⟨A,c,rfl,hlc,hrow⟩:=ho.row
 refine Bg1 bs A c (some ⟨g,0,none⟩) w (fun b hb=>(hP.wf.rng b hb).1) hl ((An9 hP).mono fun e w' ⟨A',c',he,hb',_,hr',hB⟩=>?_)
 rw [hb] at hb'
 simp only [Option.some.injEq,Obj.cells.injEq,and_true,Array.mk.injEq,List.cons.injEq,Value.slice.injEq,true_and] at hb'
 obtain ⟨rfl,rfl⟩:=hb'
 exact ⟨he,hB,hr'.up B5 hB⟩
theorem Bd9 {β:Type}[Inhabited β]{n:Nat}{R:Nat->β->Prop}(h:∀ v,v<n->∃ b,R v b):∃ f:Nat->β,∀ v,v<n->R v (f v):=
 ⟨fun v=>if hv:v<n then (h v hv).choose else default,fun v hv=>by simp only [hv,dif_pos];exact (h v hv).choose_spec⟩
theorem Uh {bs:List Blk}(h:WFB bs):(Br bs).length=0↔∀ j,¬Aw bs j=true:=by
 constructor
 ·intro e j hj
  have:(j:Int)∈Br bs:=(F5 h).2 ⟨by omega,by simpa using hj⟩
  rw [List.length_eq_zero_iff.1 e] at this
  cases this
 ·intro e
  refine List.length_eq_zero_iff.2 (List.eq_nil_iff_forall_not_mem.2 fun x hx=>?_)
  exact e _ ((F5 h).1 hx).2
theorem PSet.keptL {B g:Nat}{w w1:World}{bs:List Blk}{fp rb:List Nat}(h:PSet B g w bs fp)(hk:Kept rb w w1)(hr:∀ b∈rb,b<B):PSet B g w1 bs fp:=h.kept hk fun b hb hm=>by
 have h1:=(h.lt b hb).1
 have h2:=hr b hm
 omega
theorem Af9 (vars nc:Nat)(into bases:List (List Int))(lo:List Bool)(A B C:Option Addr)(ca cb cc:Nat)(w:World)(hG:GOk vars into bases lo)(hnc:nc<=16384)(hbl:∀ v,v<vars->(bases[v]!).length<=1048576)(hA:RRows w A into)(hB:RRows w B bases)(hC:RowR 1 dB w C lo) :
  Calls Tryz.prog 80 #[.agg #[.int .i64 vars,.slice A into.length ca,.slice B bases.length cb,.slice C lo.length cc],.int .i64 nc] w fun e w'=>∃ go hl,e=.returned (.slice (some ⟨go,0,none⟩) vars vars)/\w'.heap[go]?=some (.cells (fZ vars hl).toArray 3 (0,0)) /\
   Canon vars hl (fun v u=>∀ j,GS vars nc into bases lo v j↔GS vars nc into bases lo u j) (fun v=>∀ j,¬GS vars nc into bases lo v j)/\Below w.heap.size w w':=by
 have hsm:=hG.small
 refine A9 (args:=[.agg #[.int .i64 vars,.slice A into.length ca,.slice B bases.length cb,.slice C lo.length cc],.int .i64 nc]) Aa Tryz.func80 rfl Tryz.ntmps80 rfl ?_;conv=>whnf
 refine Ci rfl rfl rfl rfl rfl rfl ?_
 intro g1 w1 hn1
 have hb1:=hn1.blk
 refine Ab Aa ?_
 conv=>whnf
 refine M5 rfl rfl rfl rfl ?_
 intro bm w2 hbm hw2 hB2
 refine Ab Aa ?_
 conv=>whnf
 have hb2:=Ac hB2 hb1
 have hS2:SNum w2 bm [] 0:=by rw [hbm];exact StrM.made hw2
 (repeat' ((first|refine Aj Aa hb2 rfl rfl rfl rfl rfl rfl rfl (Ab Aa ?_)|fail)<;>conv=>whnf))
 refine Lb (m:=vars) Aa 3 1 8 rfl rfl rfl rfl rfl rfl rfl rfl rfl (by omega) (by omega) ?_
 intro gl w5 hn5
 have hb5:w5.heap[g1]?=some (.cells #[.int .i64 vars,.slice A into.length ca,.slice B bases.length cb,.slice C lo.length cc] 163 (0,0)):=Ac hn5.below hb2
 have hS5:=hS2.up hn5.below
 have hr5:w5.heap[gl]?=some (.cells (fZ vars fun _=>0).toArray 3 (0,0)):=by rw [<- Ls];exact hn5.blk
 have hB05:=Ax (Ax hn1.below hB2) hn5.below
 have hgl:w.heap.size<=gl/\w.heap.size<=bm/\gl<w5.heap.size/\bm<w5.heap.size:=by
  have h1:=hn1.size
  have h2:=hn5.at_
  have h3:=hB2.size
  have h4:=Ae hr5
  have h5:=hS5.lt
  omega
 clear hn1 hb1 hbm hw2 hB2 hb2 hS2 hn5
 refine Ab Aa ?_
 conv=>whnf
 (repeat' ((first|refine C6 Aa hb5 rfl rfl rfl rfl rfl rfl (Ab Aa ?_)|fail)<;>conv=>whnf))
 refine Bv Awz (Yq vars nc into bases lo A B C ca cb cc w5 hG hnc hbl (hA.up Bz hB05) (hB.up Bz hB05) (hC.up K3 hB05)) rfl rfl rfl rfl rfl rfl rfl ?_
 rintro _ w6 ⟨g9,f,rfl,hr9,hsets,hB6⟩
 have hr6:=Ac hB6 hr5
 have hS6:=hS5.up hB6
 have hne:g9≠gl/\g9≠bm:=by
  refine ⟨fun e=>?_,fun e=>?_⟩
  ·rw [e,hr6] at hr9
   simp only [Option.some.injEq,Obj.cells.injEq] at hr9
   exact absurd hr9.2.1 (by decide)
  ·obtain ⟨D,⟨es,clock,hb,_⟩,_⟩:=hS6.ex
   rw [e,hb] at hr9
   cases hr9
 obtain ⟨sb,hsb⟩:∃ sb:Nat->List Blk,∀ v,v<vars->∃ g fp,f v=.pointer (some ⟨g,0,none⟩)/\PSet w5.heap.size g w6 (sb v) fp/\(∀ j,Aw (sb v) j=true↔GS vars nc into bases lo v j)/\(sb v).length<=1024:=Bd9 (R:=fun v s=>∃ g fp,f v=.pointer (some ⟨g,0,none⟩)/\PSet w5.heap.size g w6 s fp/\(∀ j,Aw s j=true↔GS vars nc into bases lo v j)/\s.length<=1024) fun v hv=>by
  obtain ⟨g,e,hc⟩:=hsets v hv
  obtain ⟨bs,fp,h1,h2,h3⟩:=hc.ex
  exact ⟨bs,g,fp,e,h1,h2,h3⟩
 have hwf:∀ v,v<vars->WFB (sb v):=fun v hv=>by obtain ⟨g,fp,_,h,_⟩:=hsb v hv;exact h.wf
 have hmm:∀ v,v<vars->∀ j,Aw (sb v) j=true↔GS vars nc into bases lo v j:=fun v hv=>by obtain ⟨g,fp,_,_,h,_⟩:=hsb v hv;exact h
 have hlt:∀ v,v<vars->∀ b∈sb v,b.a<4294967296:=fun v hv b hb=>by
  obtain ⟨i,hi,e⟩:=List.getElem_of_mem hb
  have hw:=hwf v hv
  have hr:=hw.rng b hb
  obtain ⟨k,hk,ht⟩:=Lh hr.2.2.1 hr.2.2.2
  have hd:=J0 b.a hr.1 k hk
  have hbe:(sb v)[i]! = b:=by rw [getElem!_pos _ i hi,e]
  have h2:=hw.at_ (n:=64*b.a.toNat+k) hi (by rw [hbe];exact hd.1.symm)
  rw [hbe,hd.2,ht] at h2
  have h3:=GS.lt hG hnc (v:=v) (by have:=hG.ni;omega) ((hmm v hv _).1 h2)
  omega
 obtain ⟨Z,hZ⟩:∃ Z:Nat->Prop,Z=fun v=>∀ j,¬GS vars nc into bases lo v j:=⟨_,rfl⟩
 obtain ⟨key,hkey⟩:∃ key:Nat->ByteArray,key=fun v=>Fk (Ey (sb v)):=⟨_,rfl⟩
 have hz:∀ v,v<vars->((Br (sb v)).length=0↔Z v):=fun v hv=>by
  rw [Uh (hwf v hv),hZ]
  exact forall_congr' fun j=>not_congr (hmm v hv j)
 have hks:∀ v,v<vars->(key v).size<=maxLen:=fun v hv=>by
  obtain ⟨g,fp,_,_,_,h4⟩:=hsb v hv
  rw [hkey]
  show (Fk (Ey (sb v))).size<=maxLen
  have h1:(Fk (Ey (sb v))).size=(Fk (Ey (sb v))).data.toList.length:=by rw [Array.length_toList];rfl
  have h2:(Fk (Ey (sb v))).data.toList=(Ey (sb v)).map UInt8.ofNat:=by
   have:=Ag8 (Ey (sb v)) ByteArray.empty
   simpa [Fk] using this
  rw [h1,h2,List.length_map,Pi]
  simp only [maxLen]
  omega
 have hke:∀ a b,a<vars->b<vars->(key a=key b↔∀ j,GS vars nc into bases lo a j↔GS vars nc into bases lo b j):=fun a b ha hb=>by
  have h1:=Ak3 (hwf a ha) (hwf b hb) (hlt a ha) (hlt b hb)
  rw [Bay] at h1
  have h2:key a=key b↔sb a=sb b:=by rw [hkey];exact decide_eq_decide.1 h1
  rw [h2]
  constructor
  ·intro e j
   rw [<- hmm a ha,<- hmm b hb,e]
  ·intro h
   exact Ac5 (hwf a ha) (hwf b hb) fun j=>Bool.eq_iff_iff.2 ((hmm a ha j).trans ((h j).trans (hmm b hb j).symm))
 have hkd:∀ v,key v=Fk (Ey (sb v)):=fun v=>by rw [hkey]
 clear hkey hsets hmm hwf hlt
 refine ⟨_,rfl,Ab Aa ?_⟩
 conv=>whnf
 skip
 refine C8 0 (fun _ _=>False) (X:=Unit) (fun _=>[(6,.slice (some ⟨gl,0,none⟩) vars vars)]) (fun _ wj=>∃ hl L,Kept [gl,bm] w6 wj/\wj.heap[gl]?=some (.cells (fZ vars hl).toArray 3 (0,0))/\LbI Z key vars hl L) ?_ (fun _ _ h=>h.elim) ?_
 ·refine Am Aa (X:=Nat) (fun v=>[(5,.map (some bm)),(6,.slice (some ⟨gl,0,none⟩) vars vars),(18,.slice (some ⟨g9,0,none⟩) vars vars),(19,.int .i64 (vars:Int)),(20,.int .i64 (v:Int))]) (fun v wj=>v<=vars/\∃ hl L n,n<=v/\Kept [gl,bm] w6 wj/\wj.heap[gl]?=some (.cells (fZ vars hl).toArray 3 (0,0))/\SNum wj bm L n/\LbI Z key v hl L) (fun v=>vars - v) 0 ⟨rfl,rfl,rfl,rfl,rfl,trivial⟩ ⟨by omega,_,[],0,Nat.le_refl _,Kept.refl _ _,hr6,hS6,LbI.start _⟩ ?_
  clear hr6 hS6 hr5 hS5 hb5
  rintro v G wj ⟨hv,hl,L,n,hn,hkj,hrj,hSj,hI⟩
  by_cases hvn:v<vars
  ·obtain ⟨g,fp,hfv,hP6,hmem,hfew⟩:=hsb v hvn
   have hPj:=hP6.keptL hkj (by simp;omega)
   have hc9:wj.cell? ((⟨g9,0,none⟩:Addr).add (v*1))=some (.pointer (some ⟨g,0,none⟩)):=by
    rw [Nat.mul_one,add_zero,<- hfv]
    exact Au (hkj.blk hr9 (by simp;exact hne)) (by simpa using Vy hvn)
   have hbg:bm≠gl:=fun e=>by
    obtain ⟨D,⟨es,clock,hb,_⟩,_⟩:=hSj.ex
    rw [e,hrj] at hb
    cases hb
   have hLl:=hI.len
   conv=>whnf
   (repeat' ((first|refine Az Aa rfl rfl rfl rfl rfl rfl hc9 (Ab Aa ?_)|refine Al Aa 117 1 rfl rfl rfl rfl rfl rfl rfl (by omega) (Ab Aa ?_)|refine Al Aa 3 1 rfl rfl rfl rfl rfl rfl rfl (by omega) (Ab Aa ?_)|refine Af rfl rfl rfl rfl rfl rfl (by omega) (by omega) (Ab Aa ?_)|refine Ag (by first|assumption|omega) ?_|refine Ah (by first|assumption|omega) ?_|fail)<;>conv=>whnf))
   refine Dt (j:=v*1) (v:=.int .i64 (-1)) Aa hrj rfl rfl rfl rfl rfl rfl (by rw [Ij];omega) rfl rfl ?_
   intro w7 hp7
   rw [Nat.mul_one,Io] at hp7
   have hk7:=hkj.put hp7 (.inl (by simp))
   have hP7:=hP6.keptL hk7 (by simp;omega)
   have hr7:=hp7.blk
   have hS7:=hSj.kept hp7.grown (fun e=>by injection e with e;exact hbg e)
   clear hp7 hPj
   refine Ab Aa ?_
   conv=>whnf
   refine Bv Be2 (Bmq hP7 (by omega)) rfl rfl rfl rfl rfl rfl rfl ?_
   rintro _ w8 ⟨rfl,hB8⟩
   have hk8:=hk7.up hB8
   have hr8:=Ac hB8 hr7
   have hS8:=hS7.up hB8
   have hP8:=hP7.up hB8
   refine ⟨_,rfl,Ab Aa ?_⟩
   conv=>whnf
   by_cases hzv:Z v
   ·have h0:=(hz v hvn).2 hzv
    (repeat' ((first|refine Af rfl rfl rfl rfl rfl rfl (by omega) (by omega) (Ab Aa ?_)|refine Ag (by first|assumption|omega) ?_|refine Ah (by first|assumption|omega) ?_|fail)<;>conv=>whnf))
    exact ⟨v+1,⟨rfl,rfl,rfl,rfl,rfl,trivial⟩,⟨by omega,_,L,n,by omega,hk8,hr8,hS8,hI.zero hzv⟩,by omega⟩
   ·have h0:0<(Br (sb v)).length:=by
     exact Nat.pos_of_ne_zero fun e=>hzv ((hz v hvn).1 e)
    (repeat' ((first|refine Af rfl rfl rfl rfl rfl rfl (by omega) (by omega) (Ab Aa ?_)|refine Ag (by first|assumption|omega) ?_|refine Ah (by first|assumption|omega) ?_|fail)<;>conv=>whnf))
    refine Bv Bc0 (Bn9 hP8 (by omega)) rfl rfl rfl rfl rfl rfl rfl ?_
    rintro _ w9 ⟨rfl,hB9⟩
    have hk9:=hk8.up hB9
    have hr9':=Ac hB9 hr8
    have hS9:=hS8.up hB9
    rw [<- hkd v]
    refine ⟨_,rfl,Ab Aa ?_⟩
    conv=>whnf
    obtain ⟨x,ok,hlk,hok,hix⟩:=hS9.look Ad3 (Aa0 _) (hks v hvn)
    refine U8 hlk rfl rfl rfl rfl rfl rfl ?_
    refine Ab Aa ?_
    conv=>whnf
    have hoc:ok=true\/ok=false:=by cases ok<;>simp
    rcases hoc with rfl|rfl
    ·have hin:=hok.1 rfl
     obtain ⟨i,hi,e⟩:=List.getElem_of_mem hin
     have he:L[i]! = key v:=by rw [getElem!_pos L i hi,e]
     have hxi:=hix i hi he
     subst hxi
     conv=>whnf
     (repeat' ((first|refine Al Aa 3 1 rfl rfl rfl rfl rfl rfl rfl (by omega) (Ab Aa ?_)|fail)<;>conv=>whnf))
     refine Dt (j:=v*1) (v:=.int .i64 (i:Int)) Aa hr9' rfl rfl rfl rfl rfl rfl (by rw [Ij];omega) rfl rfl ?_
     intro w10 hp10
     rw [Nat.mul_one,Io] at hp10
     have hs2:Bf (Bf hl v (-1)) v (i:Int)=Bf hl v (i:Int):=by
      funext q
      unfold Bf
      split<;>rfl
     rw [hs2] at hp10
     refine Ab Aa ?_
     conv=>whnf
     (repeat' ((first|refine Af rfl rfl rfl rfl rfl rfl (by omega) (by omega) (Ab Aa ?_)|refine Ag (by first|assumption|omega) ?_|refine Ah (by first|assumption|omega) ?_|fail)<;>conv=>whnf))
     exact ⟨v+1,⟨rfl,rfl,rfl,rfl,rfl,trivial⟩,⟨by omega,_,L,n,by omega,hk9.put hp10 (.inl (by simp)),hp10.blk,hS9.kept hp10.grown (fun e=>by injection e with e;exact hbg e),hI.old hzv hi he⟩,by omega⟩
    ·have hnin:key v∉L:=fun h=>by have:=hok.2 h;cases this
     conv=>whnf
     skip
     refine Dz (hS9.len Ad3) rfl rfl rfl rfl rfl rfl rfl rfl ?_
     refine Ab Aa ?_
     conv=>whnf
     skip
     refine J7 (hS9.put Ad3 (by unfold maxLen;omega) (hks v hvn) ⟨by omega,by omega⟩ hnin) rfl rfl rfl rfl rfl rfl ?_
     rintro w10 ⟨hS10,hg10⟩
     have hr10:w10.heap[gl]?=_:=(hg10.block gl (Ae hr9') (fun e=>by injection e with e;exact hbg e.symm)).trans hr9'
     have hk10:=hk9.grown hg10 (fun g e=>by injection e with e;subst e;exact .inl (by simp))
     refine Ab Aa ?_
     conv=>whnf
     (repeat' ((first|refine Al Aa 3 1 rfl rfl rfl rfl rfl rfl rfl (by omega) (Ab Aa ?_)|fail)<;>conv=>whnf))
     refine Dt (j:=v*1) (v:=.int .i64 (L.length:Int)) Aa hr10 rfl rfl rfl rfl rfl rfl (by rw [Ij];omega) rfl rfl ?_
     intro w11 hp11
     rw [Nat.mul_one,Io] at hp11
     have hs2:Bf (Bf hl v (-1)) v (L.length:Int)=Bf hl v (L.length:Int):=by
      funext q
      unfold Bf
      split<;>rfl
     rw [hs2] at hp11
     refine Ab Aa ?_
     conv=>whnf
     (repeat' ((first|refine Af rfl rfl rfl rfl rfl rfl (by omega) (by omega) (Ab Aa ?_)|refine Ag (by first|assumption|omega) ?_|refine Ah (by first|assumption|omega) ?_|fail)<;>conv=>whnf))
     exact ⟨v+1,⟨rfl,rfl,rfl,rfl,rfl,trivial⟩,⟨by omega,_,_,n+1,by omega,hk10.put hp11 (.inl (by simp)),hp11.blk,hS10.kept hp11.grown (fun e=>by injection e with e;exact hbg e),hI.new hzv hnin⟩,by omega⟩
  ·have hvn2:v=vars:=by omega
   rw [hvn2] at hI
   conv=>whnf
   (repeat' ((first|refine Af rfl rfl rfl rfl rfl rfl (by omega) (by omega) (Ab Aa ?_)|refine Ag (by first|assumption|omega) ?_|refine Ah (by first|assumption|omega) ?_|fail)<;>conv=>whnf))
   exact ⟨rfl,(),⟨rfl,trivial⟩,hl,L,hkj,hrj,hI⟩
 ·rintro _ G wj ⟨hl,L,hkj,hrj,hI⟩
  conv=>whnf
  (repeat' (first|refine Cg rfl rfl ?_|fail))
  have hZZ:∀ a b,a<vars->b<vars->(∀ j,GS vars nc into bases lo a j↔GS vars nc into bases lo b j)->(Z a↔Z b):=fun a b _ _ h=>by
   rw [hZ]
   exact forall_congr' fun j=>not_congr (h j)
  have hZ2:∀ a b,Z a->Z b->∀ j,GS vars nc into bases lo a j↔GS vars nc into bases lo b j:=fun a b ha hb j=>by
   rw [hZ] at ha hb
   exact ⟨fun h=>absurd h (ha j),fun h=>absurd h (hb j)⟩
  have hcan:=hI.done hke hZZ hZ2
  rw [hZ] at hcan
  refine ⟨gl,hl,rfl,hrj,hcan,hkj.below (Ax hB05 hB6) (Ax hB05 hB6).size (fun k hk=>?_)⟩
  simp at hk
  rcases hk with rfl|rfl
  ·exact hgl.1
  ·exact hgl.2.1
def hLo:List Bool:=[false,false,false,true,true,true,true,true,true,true]
theorem S6 {n:Nat}{xs:List Cell}{ys:List Con}(hr:Ba ⟨n,xs,ys⟩=true):∀ v,v<n->((gBases n xs ys)[v]!).length<=1048576:=by
 intro v hv
 simp only [Ba,Hl,Bool.and_eq_true,decide_eq_true_eq,List.all_eq_true] at hr
 have h:=(I0 (n:Int) (m:=0) ys (List.replicate (2*(n:Int).toNat) [],List.replicate (n:Int).toNat []) (fun l hl=>by rw [getElem!_pos _ l hl];simp) (fun l hl=>by rw [getElem!_pos _ l hl];simp)).2 v (by simpa using hv)
 have h2:((gBases n xs ys)[v]!).length<=0+ys.length:=h
 omega
theorem Canon.imp {n:Nat}{l:Nat->Int}{E E':Nat->Nat->Prop}{Z Z':Nat->Prop}(h:Canon n l E Z)(hE:∀ v u,v<n->u<n->(E v u↔E' v u))(hZ:∀ v,v<n->(Z v↔Z' v)):Canon n l E' Z':=
 ⟨fun v hv=>(h.none v hv).trans (hZ v hv),fun v u hv hu=>(h.same v u hv hu).trans (hE v u hv hu),h.le⟩
abbrev SrcE (n nc:Nat)(s:Sys)(v u:Nat):Prop:=∀ j,Src n nc s v j↔Src n nc s u j
abbrev SrcZ (n nc:Nat)(s:Sys)(v:Nat):Prop:=∀ j,¬Src n nc s v j
section
variable {n:Nat}{xs:List Cell}{ys:List Con}
theorem Gx (hr:Ba ⟨n,xs,ys⟩=true):n<=16384/\xs.length<=16384/\ys.length<=131072:=by
 simp only [Ba,Hl,Bool.and_eq_true,decide_eq_true_eq,List.all_eq_true] at hr
 omega
theorem Xy (A B C:Option Addr)(w:World)(hr:Ba ⟨n,xs,ys⟩=true)(hA:RRows w A (gInto n xs ys))(hB:RRows w B (gBases n xs ys))(hC:RowR 1 dB w C (gLoose n xs ys)) :
  Calls Tryz.prog 80 #[.agg #[.int .i64 n,.slice A (2*n) (2*n),.slice B n n,.slice C (2*n) (2*n)],.int .i64 xs.length] w fun e w'=>∃ go hl,e=.returned (.slice (some ⟨go,0,none⟩) n n)/\w'.heap[go]?=some (.cells (fZ n hl).toArray 3 (0,0)) /\
   Canon n hl (SrcE n xs.length ⟨n,xs,ys⟩) (SrcZ n xs.length ⟨n,xs,ys⟩)/\Below w.heap.size w w':=by
 have hG:GOk n (gInto n xs ys) (gBases n xs ys) (gLoose n xs ys):=gok hr
 have h:=Af9 n xs.length (gInto n xs ys) (gBases n xs ys) (gLoose n xs ys) A B C (2*n) n (2*n) w hG (Gx hr).2.1 (S6 hr) hA hB hC
 rw [hG.ni,hG.nb,hG.nl] at h
 refine h.mono ?_
 rintro e w' ⟨go,hl,he,hrow,hcan,hb⟩
 exact ⟨go,hl,he,hrow,hcan.imp (fun v u hv hu=>forall_congr' fun j=>by rw [Ml hr hv,Ml hr hu]) (fun v hv=>forall_congr' fun j=>by rw [Ml hr hv]),hb⟩
end
section
variable {B g:Nat}{w:World}{P:Nat->Prop}
end
end Go.Proofs.YtghmdfegfehhkaaGreatDoor
namespace Go.Proofs.YtghmdfegfehhkaaGreatDoor
def atF (wh:Nat->Int)(x:Int):Int:=if x<0 then -1 else wh x.toNat
def L9 (wh:Nat->Int)(c:Cell):Cell:=⟨c.fn,atF wh c.v,c.args.map (atF wh)⟩
def Fj (wh:Nat->Int)(c:Con):Con:=⟨c.k,atF wh c.a,if c.k=1 then c.b else atF wh c.b,c.args.map (atF wh)⟩
def Dv (c:Con):Bool:=if c.k=1 then decide (c.a<0) else if c.k=5 then decide (c.b<0) else decide (c.a<0)||decide (c.b<0)||(decide (c.k=2)&&decide (c.a=c.b))
def eqC (x y:Con):Bool:=decide (x.k=y.k/\x.a=y.a/\x.b=y.b/\x.args=y.args)
theorem eqC_iff {x y:Con}:eqC x y=true↔x=y:=by
 unfold eqC
 rw [decide_eq_true_eq]
 cases x
 cases y
 simp
def inC (out:List Con)(x:Con):Bool:=out.any (eqC x)
theorem inC_iff {out:List Con}{x:Con}:inC out x=true↔x∈out:=by
 unfold inC
 rw [List.any_eq_true]
 exact ⟨fun ⟨y,h,e⟩=>by rw [eqC_iff.1 e];exact h,fun h=>⟨x,h,eqC_iff.2 rfl⟩⟩
def Dw (wh:Nat->Int)(less:Bool)(out:List Con)(c:Con):List Con:=if (less&&(Dv (Fj wh c)||inC out (Fj wh c)))=true then out else out++[Fj wh c]
def Hv (wh:Nat->Int)(less:Bool)(ys:List Con):List Con:=ys.foldl (Dw wh less) []
theorem Ad5 {wh:Nat->Int}{less:Bool}{ys:List Con}{i:Nat}(hi:i<ys.length):Hv wh less (ys.take (i+1))=Dw wh less (Hv wh less (ys.take i)) ys[i]! := Bl _ _ hi
theorem U9 (wh:Nat->Int)(less:Bool)(out:List Con)(c:Con):(Dw wh less out c).length<=out.length+1:=by
 unfold Dw
 split
 ·omega
 ·simp
theorem Vp (wh:Nat->Int)(less:Bool)(ys:List Con):(Hv wh less ys).length<=ys.length:=by
 have key:∀ (ys out:List Con),(ys.foldl (Dw wh less) out).length<=out.length+ys.length:=by
  intro ys
  induction ys with
  |nil=>intro out;simp
  |cons y ys ih=>
   intro out
   rw [List.foldl_cons,List.length_cons]
   have:=ih (Dw wh less out y)
   have:=U9 wh less out y
   omega
 have:=key ys []
 unfold Hv
 simpa using this
def Gd (x:Int):List Nat:=[(x%256).toNat,(x/256%256).toNat,(x/65536%256).toNat]
def Mu (c:Con):List Nat:=c.k.toNat::([c.a,c.b]++c.args).flatMap Gd
def Yx (x:Int):Prop:=-1<=x/\x<16777215
theorem Ze {x y:Int}(hx:Yx x)(hy:Yx y)(h:Gd x=Gd y):x=y:=by
 unfold Gd at h
 simp only [List.cons.injEq,and_true] at h
 unfold Yx at hx hy
 omega
theorem Sm:∀ {l m:List Int},(∀ x∈l,Yx x)->(∀ x∈m,Yx x)->l.flatMap Gd=m.flatMap Gd->l=m
 |[],[],_,_,_=>rfl
 |[],y::m,_,_,h=>by simp [Gd] at h
 |x::l,[],_,_,h=>by simp [Gd] at h
 |x::l,y::m,hl,hm,h=>by
  rw [List.flatMap_cons,List.flatMap_cons] at h
  obtain ⟨h1,h2⟩:=List.append_inj h (by simp [Gd])
  rw [Ze (hl x (by simp)) (hm y (by simp)) h1,Sm (fun z hz=>hl z (by simp [hz])) (fun z hz=>hm z (by simp [hz])) h2]
def Yt (c:Con):Prop:=(1<=c.k/\c.k<=5)/\Yx c.a/\Yx c.b/\∀ x∈c.args,Yx x
theorem Ad4 {c d:Con}(hc:Yt c)(hd:Yt d)(h:Mu c=Mu d):c=d:=by
 unfold Mu at h
 injection h with h1 h2
 have h3:=Sm (l:=[c.a,c.b]++c.args) (m:=[d.a,d.b]++d.args) (fun x hx=>by
  simp at hx
  rcases hx with rfl|rfl|hx
  ·exact hc.2.1
  ·exact hc.2.2.1
  ·exact hc.2.2.2 x hx) (fun x hx=>by
  simp at hx
  rcases hx with rfl|rfl|hx
  ·exact hd.2.1
  ·exact hd.2.2.1
  ·exact hd.2.2.2 x hx) h2
 simp at h3
 have hk1:=hc.1
 have hk2:=hd.1
 cases c
 cases d
 simp only at h1 h3 hk1 hk2
 simp only [Con.mk.injEq]
 exact ⟨by omega,h3.1,h3.2.1,h3.2.2⟩
theorem Al1 {x:Int}:∀ n∈Gd x,n<256:=by
 intro n hn
 simp only [Gd,List.mem_cons,List.not_mem_nil,or_false] at hn
 rcases hn with rfl|rfl|rfl<;>omega
theorem Ws {c:Con}(hk:1<=c.k/\c.k<=5):∀ n∈Mu c,n<256:=by
 intro n hn
 unfold Mu at hn
 rcases List.mem_cons.1 hn with rfl|hn
 ·omega
 ·obtain ⟨x,_,hx⟩:=List.mem_flatMap.1 hn
  exact Al1 n hx
theorem Af4 {c d:Con}(hc:Yt c)(hd:Yt d)(h:Fk (Mu c)=Fk (Mu d)):c=d:=Ad4 hc hd (Te (Ws hc.1) (Ws hd.1) h)
theorem Tc (l:List Int):(l.flatMap Gd).length=3*l.length:=by
 induction l with
 |nil=>rfl
 |cons x l ih=>rw [List.flatMap_cons,List.length_append,ih,List.length_cons];simp [Gd];omega
theorem Xr (l:List Nat):(Fk l).size=l.length:=by
 have h1:(Fk l).size=(Fk l).data.toList.length:=by rw [Array.length_toList];rfl
 have h2:(Fk l).data.toList=l.map UInt8.ofNat:=by
  have:=Ag8 l ByteArray.empty
  simpa [Fk] using this
 rw [h1,h2,List.length_map]
theorem Al5 {wh:Nat->Int}{n:Nat}{x:Int}(hw:∀ v,v<n->-1<=wh v/\wh v<(n:Int))(hx:x<(n:Int)):-1<=atF wh x/\atF wh x<(n:Int)\/n=0/\atF wh x=-1:=by
 unfold atF
 split
 ·by_cases h:n=0
  ·exact .inr ⟨h,rfl⟩
  ·exact .inl ⟨by omega,by omega⟩
 ·exact .inl (hw x.toNat (by omega))
theorem Jn {wh:Nat->Int}{n:Nat}{x:Int}(hw:∀ v,v<n->-1<=wh v/\wh v<(n:Int))(hx:x<(n:Int)):-1<=atF wh x/\atF wh x<=(n:Int):=by
 rcases Al5 hw hx with h|h<;>omega
open Go.RowKit
theorem Rl {a b:Int}(h:(Lit.int .i64 a)=(Lit.int .i64 b)):a=b:=by
 injection h with h
section
variable {P:Program}{t k e:TypeId}{w w1:World}{b n:Nat}{L:List Int}
structure IntL (P:Program)(k e:TypeId)(w:World)(b:Nat)(L:List Int)(n:Nat):Prop where
 ex:∃ D:DataW Unit,w.ownsMap P k (plainElem P e) b n D/\(∀ l,Maps.has D l=true↔∃ x∈L,l=Lit.int .i64 x)/\Maps.size D=L.length/\∀ i,i<L.length->∀ z,D.atKey (.int .i64 L[i]!) z=.lit (.int .i64 (i:Int))
 nd:L.Nodup
theorem IntL.lt (h:IntL P k e w b L n):b<w.heap.size:=by
 obtain ⟨D,h1,_⟩:=h.ex
 exact h1.lt
theorem IntL.kept {row:Option Nat}(h:IntL P k e w b L n)(hg:w.grownBy w1 row)(hne:some b≠row):IntL P k e w1 b L n:=by
 obtain ⟨D,h1,h2⟩:=h.ex
 exact ⟨⟨D,h1.kept hg hne,h2⟩,h.nd⟩
theorem IntL.up (h:IntL P k e w b L n)(hb:Below w.heap.size w w1):IntL P k e w1 b L n:=h.kept (row:=none) (Ar hb) nofun
theorem IntL.made (hb:w1=w.alloc (.map #[] 0)):IntL P k e w1 w.heap.size [] 0:=by
 subst hb
 refine ⟨⟨.map [],World.ownsMap_made w P k _,fun l=>⟨fun h=>(by cases h),fun ⟨x,hx,_⟩=>(by cases hx)⟩,rfl,fun i hi=>absurd hi (Nat.not_lt_zero i)⟩,.nil⟩
theorem IntL.put (hT:NumT P t k e)(h:IntL P k e w b L n)(hn:n<maxLen){x:Int}(hx:Pu x)(hm:Pu (L.length:Int))(hxL:x∉L) :
  ∃ w',(Instr.mapUpdate t (.map (some b)) (.int .i64 x) (.int .i64 (L.length:Int))).run P w=.ok () w'/\IntL P k e w' b (L++[x]) (n+1)/\w.grownBy w' (some b):=by
 obtain ⟨D,h1,h2,h3,h4⟩:=h.ex
 have K:=Maps.int_keyed (P:=P) hT.k
 obtain ⟨w',hr,h5,h6⟩:=h1.update K hT.t hn (Maps.keyOf_int_mk hT.k (Gh hx)) (plainElem_int hT.e (Gh hm))
 refine ⟨w',hr,⟨⟨_,h5,fun l=>?_,?_,fun i hi z=>?_⟩,?_⟩,h6⟩
 ·by_cases e1:l=.int .i64 x
  ·subst e1
   rw [Maps.has_put_same (h1.isMap) (H0 x)]
   exact ⟨fun _=>⟨x,by simp,rfl⟩,fun _=>rfl⟩
  ·rw [Maps.has_put_other e1,h2]
   constructor
   ·rintro ⟨y,hy,rfl⟩
    exact ⟨y,by simp [hy],rfl⟩
   ·rintro ⟨y,hy,rfl⟩
    rcases List.mem_append.1 hy with hy|hy
    ·exact ⟨y,hy,rfl⟩
    ·simp at hy
     subst hy
     exact absurd rfl e1
 ·rw [Maps.size_put (h1.tidy K)]
  have hm:¬ Maps.has D (.int .i64 x)=true:=fun hh=>by
   obtain ⟨y,hy,e⟩:=(h2 _).1 hh
   exact hxL (Rl e▸hy)
  rw [if_neg hm,h3]
  simp
 ·have hi:i<L.length+1:=by simpa using hi
  by_cases e1:i<L.length
  ·have e2:(L++[x])[i]! = L[i]! := by
    rw [getElem!_pos (L++[x]) i (by simp;omega),getElem!_pos L i e1,List.getElem_append_left e1]
   rw [e2]
   have hne:L[i]! ≠ x:=fun e=>hxL (by rw [<- e,getElem!_pos L i e1];exact List.getElem_mem e1)
   rw [Maps.atKey_put_other (fun e3=>hne (Rl e3)),h4 i e1]
  ·have e2:i=L.length:=by omega
   subst e2
   have e2:(L++[x])[L.length]! = x:=by
    rw [getElem!_pos (L++[x]) L.length (by simp)]
    simp
   rw [e2]
   exact Maps.atKey_put_same h1.isMap (H0 x) _ z
 ·rw [List.nodup_append]
  exact ⟨h.nd,by simp,fun a ha c hc e=>by simp at hc;subst hc;exact hxL (e▸ha)⟩
theorem IntL.len (hT:NumT P t k e)(h:IntL P k e w b L n)(ty:TypeId):(Builtin.len_ #[t] ty #[.map (some b)]).run P w=.ok (.int .i64 (L.length:Int)) w:=by
 obtain ⟨D,h1,h2,h3,_⟩:=h.ex
 rw [h1.len hT.t ty,h3]
theorem IntL.look (hT:NumT P t k e)(h:IntL P k e w b L n)(hz:(zeroValue e).run P w=.ok (.int .i64 0) w){x:Int}(hx:Pu x) :
  ∃ (v:Int) (ok:Bool),(Instr.lookup t (.map (some b)) (.int .i64 x) true).run P w=.ok (.tuple #[.int .i64 v,.bool ok]) w/\(ok=true↔x∈L)/\∀ i,i<L.length->L[i]! = x->v=(i:Int):=by
 obtain ⟨D,h1,h2,h3,h4⟩:=h.ex
 have K:=Maps.int_keyed (P:=P) hT.k
 obtain ⟨v,ps,hr,hv⟩:=h1.look_ok K hT.t hz (plainElem_int hT.e (by decide)) (Maps.keyOf_int_mk hT.k (Gh hx))
 obtain ⟨c,rfl,hc,_⟩:=plainElem_int_inv hT.e hv
 have hhas:Maps.has D (.int .i64 x)=true↔x∈L:=by
  rw [h2]
  exact ⟨fun ⟨y,hy,e⟩=>Rl e▸hy,fun hx=>⟨x,hx,rfl⟩⟩
 refine ⟨c,_,hr,hhas,fun i hi e=>?_⟩
 have h5:=h4 i hi (.lit (.int .i64 0))
 rw [e] at h5
 simp only [Prod.mk.injEq] at hc
 have h6:=hc.1.symm.trans h5
 injection h6 with h6
 injection h6
end
abbrev IMap:=IntL Tryz.prog 3 3
def inB (L:List ByteArray)(x:ByteArray):Bool:=L.any fun y=>decide (y=x)
theorem inB_iff {L:List ByteArray}{x:ByteArray}:inB L x=true↔x∈L:=by
 unfold inB
 rw [List.any_eq_true]
 constructor
 ·rintro ⟨y,h,e⟩
  rw [decide_eq_true_eq] at e
  exact e▸h
 ·exact fun h=>⟨x,h,decide_eq_true rfl⟩
theorem Gn {P:Program}{e:TypeId}(he:P.underlying e=some .bool){v:Value}{b:Bool}{ps:List MemPlace}(h:plainElem (H:=Unit) P e v=some (.lit (.bool b),ps)):v=.bool b:=by
 unfold plainElem at h
 rw [he] at h
 cases v
 case bool x=>
  simp only [Option.some.injEq,Prod.mk.injEq,DataW.lit.injEq,Lit.bool.injEq] at h
  rw [h.1]
 all_goals cases h
structure BolT (P:Program)(t k e:TypeId):Prop where
 t:P.underlying t=some (.map k e)
 k:P.underlying k=some .string
 e:P.underlying e=some .bool
section
variable {P:Program}{t k e:TypeId}{w w1:World}{b n:Nat}{L:List ByteArray}
structure StrB (P:Program)(k e:TypeId)(w:World)(b:Nat)(L:List ByteArray)(n:Nat):Prop where
 ex:∃ D:DataW Unit,w.ownsMap P k (plainElem P e) b n D/\∀ (x:ByteArray) z,D.atKey (.string x.data.toList) z=if inB L x=true then .lit (.bool true) else z
theorem StrB.kept {row:Option Nat}(h:StrB P k e w b L n)(hg:w.grownBy w1 row)(hne:some b≠row):StrB P k e w1 b L n:=by
 obtain ⟨D,h1,h2⟩:=h.ex
 exact ⟨⟨D,h1.kept hg hne,h2⟩⟩
theorem StrB.lt (h:StrB P k e w b L n):b<w.heap.size:=by
 obtain ⟨D,h1,_⟩:=h.ex
 exact h1.lt
theorem StrB.up (h:StrB P k e w b L n)(hb:Below w.heap.size w w1):StrB P k e w1 b L n:=h.kept (row:=none) (Ar hb) nofun
theorem StrB.made (hb:w1=w.alloc (.map #[] 0)):StrB P k e w1 w.heap.size [] 0:=by
 subst hb
 exact ⟨⟨.map [],World.ownsMap_made w P k _,fun x z=>rfl⟩⟩
theorem StrB.put (hT:BolT P t k e)(h:StrB P k e w b L n)(hn:n<maxLen){x:ByteArray}(hx:x.size<=maxLen) :
  ∃ w',(Instr.mapUpdate t (.map (some b)) (.string x) (.bool true)).run P w=.ok () w'/\StrB P k e w' b (L++[x]) (n+1)/\w.grownBy w' (some b):=by
 obtain ⟨D,h1,h2⟩:=h.ex
 have K:=Maps.string_keyed (P:=P) hT.k
 obtain ⟨w',hr,h5,h6⟩:=h1.update K hT.t hn (WideMaps.keyOf_string_mk hT.k hx) (plainElem_bool hT.e true)
 refine ⟨w',hr,⟨⟨_,h5,fun y z=>?_⟩⟩,h6⟩
 by_cases e1:y=x
 ·subst e1
  rw [Maps.atKey_put_same h1.isMap (Ma y) _ z,if_pos (inB_iff.2 (by simp))]
 ·rw [Maps.atKey_put_other (fun e3=>e1 (Nj e3)),h2]
  have e2:inB (L++[x]) y=inB L y:=by
   refine Bool.eq_iff_iff.2 ?_
   rw [inB_iff,inB_iff]
   simp [e1]
  rw [e2]
theorem StrB.look (hT:BolT P t k e)(h:StrB P k e w b L n)(hz:(zeroValue e).run P w=.ok (.bool false) w){x:ByteArray}(hx:x.size<=maxLen) :
  (Instr.lookup t (.map (some b)) (.string x) false).run P w=.ok (.bool (inB L x)) w:=by
 obtain ⟨D,h1,h2⟩:=h.ex
 have K:=Maps.string_keyed (P:=P) hT.k
 obtain ⟨v,ps,hr,hv⟩:=h1.lookup K hT.t hz (plainElem_bool hT.e false) (WideMaps.keyOf_string_mk hT.k hx)
 rw [h2] at hv
 have hve:v=.bool (inB L x):=by
  by_cases hm:inB L x=true
  ·rw [if_pos hm] at hv
   rw [hm]
   exact Gn hT.e hv
  ·rw [if_neg hm] at hv
   rw [Bool.eq_false_iff.2 hm]
   exact Gn hT.e hv
 rw [hr,hve]
end
theorem Anq:BolT Tryz.prog 158 9 4:=⟨Tryz.underlying158,Tryz.underlying9,Tryz.underlying4⟩
abbrev BMap:=StrB Tryz.prog 9 4
theorem Be5 (w:World):(zeroValue 4).run Tryz.prog w=.ok (.bool false) w:=by kernel_rfl
section
variable {P:Program}{T:Nat->Option TI}{n:Nat}{F:Fm}{w:World}{o:Oper}{K:Fm->World->Prop}
theorem Wf {f:FuncId}{c:Call}{x:Operand}{first args caps:List Value}{R:Ending->World->Prop}(hf:FnOk P f)(hc:Calls P f (first++args++caps).toArray w R)(hop:o.op=.call c)(hcal:c.callee=.value x)(hx:ev F x=.func (.func f) first.toArray caps.toArray)(hargs:c.args.toList.map (ev F)=args){d:Nat}(hd:o.dst=some d)(hn:Nat.blt d n=true)
  (k:∀ e w1,R e w1->∃ v,e=.returned v/\K (Bd F d v) w1):wb P n o F w K:=by
 refine ⟨B9 hd hn,.inr (.inl ⟨f,(first++args++caps).toArray,?_,hc.mono fun e w' h=>by rw [hd];exact k e w' h⟩)⟩
 have:c.args.map (ev F)=args.toArray:=Array.toList_inj.1 (by rw [Array.toList_map,hargs])
 have e:(first++args++caps).toArray=first.toArray++args.toArray++caps.toArray:=by simp
 rw [e]
 simp [execOp,hop,resolve,hcal,hx,Deferred.ofValue,this,invoke,C4 hf]
end
theorem Elems.appK {α:Type}[Inhabited α]{sz:Nat}{d:Dec α}{w:World}{f1 f2:List Value}{xs ys:List α}(h:Elems sz d w f1 xs)(h2:Elems sz d w f2 ys):Elems sz d w (f1++f2) (xs++ys):=by
 refine ⟨by simp [h.1,h2.1,Nat.add_mul],fun i hi=>?_⟩
 rw [List.length_append] at hi
 rcases Nat.lt_or_ge i xs.length with hl|hl
 ·have h1:i*sz+sz<=f1.length:=by rw [h.1,<- Nat.succ_mul];exact Nat.mul_le_mul_right _ hl
  rw [List.drop_append_of_le_length (by omega),List.take_append_of_le_length (by rw [List.length_drop];omega),getElem!_pos _ i (by simp;omega),List.getElem_append_left hl]
  have:=h.2 i hl
  rwa [getElem!_pos xs i hl] at this
 ·obtain ⟨j,rfl⟩:∃ j,i=xs.length+j:=⟨i - xs.length,by omega⟩
  rw [Nat.add_mul,<- h.1,<- List.drop_drop,List.drop_left,getElem!_pos _ _ (by simp;omega),List.getElem_append_right (by omega)]
  have:=h2.2 j (by omega)
  rw [getElem!_pos ys j (by omega)] at this
  simpa using this
theorem Lp {w:World}{base sz n:Nat}{e:TypeId}{v:Value}{flat:List Value}(h:w.ownsRow base e sz v n flat){b:Nat}(hb:v.ownBlock=some b):∃ cur,w.heap[b]?=some (.cells cur e (0,0)):=by
 rcases h.2 with ⟨q3,_⟩|⟨g',cap,cur,q3,_,q4,_⟩
 ·rw [q3] at hb
  cases hb
 ·rw [q3] at hb
  have hb:g'=b:=by simpa [Value.ownBlock] using hb
  subst hb
  exact ⟨_,q4⟩
theorem Uv {w:World}{b1 b2 s1 s2 n1 n2:Nat}{e1 e2:TypeId}{v1 v2:Value}{f1 f2:List Value}(h:w.ownsRow b1 e1 s1 v1 n1 f1)(k:w.ownsRow b2 e2 s2 v2 n2 f2)(he:e1≠e2):v1.ownBlock=none\/v1.ownBlock≠v2.ownBlock:=by
 cases hv:v1.ownBlock with
 |none=>exact .inl rfl
 |some b=>
  refine .inr fun hb2=>?_
  obtain ⟨c1,h1⟩:=Lp h hv
  obtain ⟨c2,h2⟩:=Lp k hb2.symm
  rw [h1] at h2
  simp only [Option.some.injEq,Obj.cells.injEq] at h2
  exact he h2.2.1
theorem u8w (x:Int):IntKind.u8.wrap x=(((x%256).toNat:Nat):Int):=by
 have h:IntKind.u8.wrap x=x%256:=by simp [IntKind.wrap,IntKind.signed,IntKind.bits]
 rw [h]
 omega
theorem Yo {w:World}{base:Nat}{e:TypeId}{A:Option Addr}{c:Nat}{l m:List Nat}(hm:m.length=3)(h:w.ownsRow base e 1 (.slice A (l.length+3) c) (l.length+3) (l.map Tw++m.map Tw)):w.ownsRow base e 1 (.slice A (l++m).length c) (l++m).length ((l++m).map Tw):=by
 have e1:(l++m).length=l.length+3:=by rw [List.length_append,hm]
 rw [e1,List.map_append]
 exact h
theorem Z9 (l:List Int){i:Nat}(hi:i<l.length):(l.take (i+1)).flatMap Gd=(l.take i).flatMap Gd++Gd l[i]! := by
 rw [List.take_add_one,List.getElem?_eq_getElem hi,getElem!_pos l i hi,Option.toList_some,List.flatMap_append]
 simp
theorem Bh6 (c:Con)(B:Option Addr)(cc:Nat)(w:World)(hk:1<=c.k/\c.k<=5)(ha:-9223372036854775808<=c.a/\c.a<=9223372036854775807)(hb:-9223372036854775808<=c.b/\c.b<=9223372036854775807)(hargs:RI w B c.args)(hl:c.args.length<=6) :
  Calls Tryz.prog 76 #[.agg #[.int .u8 c.k,.int .i64 c.a,.int .i64 c.b,.slice B c.args.length cc]] w fun e w'=>e=.returned (.string (Fk (Mu c)))/\Below w.heap.size w w':=by
 obtain ⟨kn,hkn⟩:=Int.eq_ofNat_of_zero_le (show 0<=c.k by omega)
 rw [hkn]
 refine A9 (args:=[.agg #[.int .u8 (kn:Int),.int .i64 c.a,.int .i64 c.b,.slice B c.args.length cc]]) Aa Tryz.func76 rfl Tryz.ntmps76 rfl ?_;conv=>whnf
 refine Ci rfl rfl rfl rfl rfl rfl ?_
 intro g1 w1 hn1
 have hb1:=hn1.blk
 refine Ab Aa ?_
 conv=>whnf
 (repeat' ((first|refine Aj Aa hb1 rfl rfl rfl rfl rfl rfl rfl (Ab Aa ?_)|fail)<;>conv=>whnf))
 refine C7 Aa 5 1 rfl rfl rfl rfl rfl rfl rfl rfl rfl rfl ?_
 intro g2 w2 hn2
 have hb12:=Ac hn2.below hb1
 refine Ab Aa ?_
 conv=>whnf
 (repeat' ((first|refine Aj Aa hb12 rfl rfl rfl rfl rfl rfl rfl (Ab Aa ?_)|fail)<;>conv=>whnf))
 refine C7 Aa 3 1 rfl rfl rfl rfl rfl rfl rfl rfl rfl rfl ?_
 intro g3 w3 hn3
 have hb13:=Ac hn3.below hb12
 refine Ab Aa ?_
 conv=>whnf
 (repeat' ((first|refine Aj Aa hb13 rfl rfl rfl rfl rfl rfl rfl (Ab Aa ?_)|fail)<;>conv=>whnf))
 have hB03:=Ax (Ax hn1.below hn2.below) hn3.below
 have hp0:w3.ownsRow w.heap.size 5 1 (.slice (some ⟨g2,0,none⟩) [kn].length 1) [kn].length ([kn].map Tw):=⟨rfl,.inr ⟨g2,1,_,rfl,by have:=hn2.at_;have:=hn1.size;omega,Ac hn3.below hn2.blk,by simp,by decide,rfl,rfl⟩⟩
 have ho2:w3.ownsRow w2.heap.size 3 1 (.slice (some ⟨g3,0,none⟩) 2 2) 2 [.int .i64 c.a,.int .i64 c.b]:=⟨rfl,.inr ⟨g3,2,_,rfl,by have:=hn3.at_;omega,hn3.blk,by omega,by decide,rfl,rfl⟩⟩
 have hg2:g2<w2.heap.size:=Ae hn2.blk
 refine Q0 Aa 3 1 8 ho2 (hargs.up (Bj _) hB03) (Afz _) rfl rfl rfl rfl rfl rfl rfl rfl rfl rfl rfl (by omega) (by omega) (by have:=hn3.size;omega) ?_
 intro D dc w4 news hel hown hgr hob
 obtain ⟨L,hL⟩:∃ L,L=[c.a,c.b]++c.args:=⟨_,rfl⟩
 have hLl:L.length=2+c.args.length:=by rw [hL];simp;omega
 rw [<- hLl] at hown
 have hel2:∀ w':World,Elems 1 (dI .i64) w' ([.int .i64 c.a,.int .i64 c.b]++news) L:=fun w'=>by
  have e0:Elems 1 (dI .i64) w' [.int .i64 c.a,.int .i64 c.b] [c.a,c.b]:=(Elems.one (d:=dI .i64) rfl ⟨rfl,ha⟩).push (cs:=[.int .i64 c.b]) rfl ⟨rfl,hb⟩
  rw [hL]
  exact e0.appK ⟨hel.1,fun i hi=>hel.2 i hi⟩
 obtain ⟨flatL,hfl⟩:∃ f,f=[.int .i64 c.a,.int .i64 c.b]++news:=⟨_,rfl⟩
 rw [<- hfl] at hown hel2
 have hB04:Below w.heap.size w w4:=hB03.grown hgr hB03.size (fun k hk=>by have:=(ho2.lt k hk).1;have:=(Ax hn1.below hn2.below).size;omega)
 have hp4:w4.ownsRow w.heap.size 5 1 (.slice (some ⟨g2,0,none⟩) [kn].length 1) [kn].length ([kn].map Tw):=hp0.kept hgr (.inr fun e=>by
  have e:some g2=(Value.slice (some ⟨g3,0,none⟩) 2 2).ownBlock:=e
  have:=(ho2.lt g2 e.symm).1
  omega)
 clear hn1 hn2 hn3 hb1 hb12 hb13 hp0 ho2 hel hgr hob hB03 hfl
 refine Ab Aa ?_
 rw [<- hLl]
 conv=>whnf
 skip
 refine Am Aa (X:=Nat×Option Addr×Nat) (fun x=>[(3,.slice x.2.1 (kn::(L.take x.1).flatMap Gd).length x.2.2),(16,.slice D L.length dc),(17,.int .i64 L.length),(18,.int .i64 x.1)])
  (fun x wr=>x.1<=L.length/\(Below w.heap.size w wr/\wr.ownsRow w2.heap.size 3 1 (.slice D L.length dc) L.length flatL)/\wr.ownsRow w.heap.size 5 1 (.slice x.2.1 (kn::(L.take x.1).flatMap Gd).length x.2.2) (kn::(L.take x.1).flatMap Gd).length ((kn::(L.take x.1).flatMap Gd).map Tw)) (fun x=>L.length - x.1) (0,some ⟨g2,0,none⟩,1) ⟨rfl,rfl,rfl,rfl,trivial⟩ ⟨by simp,⟨hB04,hown⟩,hp4⟩ ?_
 clear hB04 hown hp4
 rintro ⟨i,E,ec⟩ G wr ⟨hi,⟨hB0r,hLo⟩,hp⟩
 simp only at hi hp
 have hrow:RI wr D L:=by
  obtain ⟨A',c',q1,_,q2⟩:=Dp hLo rfl (hel2 wr)
  injection q1 with q1 _ _
  subst q1
  exact q2
 by_cases hil:i<L.length
 ·obtain ⟨y,ad3,⟨hy⟩,e3,hyc,hy1,hy2⟩:=Dy hrow i hil
  subst e3
  have htk:=Z9 L hil
  rw [hy] at htk
  obtain ⟨pre,hpre⟩:∃ p,p=kn::(L.take i).flatMap Gd:=⟨_,rfl⟩
  have hnx:kn::(L.take (i+1)).flatMap Gd=pre++Gd y:=by rw [htk,hpre];rfl
  have hpl:pre.length<=100:=by
   rw [hpre,List.length_cons,Tc,List.length_take]
   omega
  rw [<- hpre] at hp ⊢
  conv=>whnf
  (repeat' (first|(refine Gi (a:=y) (b:=8) (r:=y/256) (by simp [IntKind.bits]) rfl rfl rfl (by omega) rfl rfl rfl (Ab Aa ?_);(conv=>whnf))|(refine Gi (a:=y) (b:=16) (r:=y/65536) (by simp [IntKind.bits]) rfl rfl rfl (by omega) rfl rfl rfl (Ab Aa ?_);(conv=>whnf))|(first|refine Az Aa rfl rfl rfl rfl rfl rfl hyc (Ab Aa ?_)|refine Al Aa 3 1 rfl rfl rfl rfl rfl rfl rfl (by omega) (Ab Aa ?_)|refine Uc Aa rfl rfl rfl rfl rfl rfl (Ab Aa ?_)|refine Ag (by first|assumption|omega) ?_|fail)<;>conv=>whnf))
  rw [u8w,u8w,u8w]
  refine C7 Aa 5 1 rfl rfl rfl rfl rfl rfl rfl rfl rfl rfl ?_
  intro g8 u1 hn8
  refine Ab Aa ?_
  conv=>whnf
  have hpu:=hp.kept (Ar (row:=none) hn8.below) (Classical.em _)
  refine Cu Aa 5 1 1 hpu hn8.blk rfl rfl rfl rfl rfl rfl rfl rfl rfl rfl rfl rfl (by simp [Value.oneCell']) (by omega) (by omega) (by have:=hn8.size;have:=hB0r.size;omega) ?_
  intro A7 cap7 u2 hown hgr hob
  have hpush:=Yo (m:=Gd y) rfl hown
  have hBu:Below w.heap.size w u2:=(Ax hB0r hn8.below).grown hgr (Ax hB0r hn8.below).size (fun k e=>(hpu.lt k e).1)
  have hLu:=(hLo.kept (Ar (row:=none) hn8.below) (Classical.em _))
  have hLu2:=hLu.kept hgr (Uv hLu hpu (by decide))
  refine Ab Aa ?_
  conv=>whnf
  (repeat' ((first|refine Af rfl rfl rfl rfl rfl rfl (by omega) (by omega) (Ab Aa ?_)|fail)<;>conv=>whnf))
  have el:pre.length+3=(kn::(L.take (i+1)).flatMap Gd).length:=by rw [hnx,List.length_append];rfl
  refine ⟨(i+1,A7,cap7),⟨congrArg (fun z=>Value.slice A7 z cap7) el,rfl,rfl,rfl,trivial⟩,⟨by simp only;omega,⟨hBu,hLu2⟩,?_⟩,by simp only;omega⟩
  simp only
  rw [hnx]
  exact hpush
 ·have hil2:i=L.length:=by omega
  have hkc:kn::(L.take i).flatMap Gd=Mu c:=by
   unfold Mu
   rw [hkn,Int.toNat_natCast,hil2,List.take_length,hL]
  rw [hkc] at hp ⊢
  conv=>whnf
  (repeat' ((first|(refine Ah (by first|assumption|omega) ?_)|fail)<;>conv=>whnf))
  refine Y6 rfl rfl Tryz.underlying59 Tryz.underlying5 Tryz.underlying9 hp rfl rfl rfl ?_
  refine Ab Aa ?_
  conv=>whnf
  (repeat' (first|refine Cg rfl rfl ?_|fail))
  exact ⟨rfl,hB0r⟩
theorem Ai7 (c:Con)(B:Option Addr)(cc:Nat)(w:World)(hk:1<=c.k/\c.k<=5) :
  Calls Tryz.prog 77 #[.agg #[.int .u8 c.k,.int .i64 c.a,.int .i64 c.b,.slice B c.args.length cc]] w fun e w'=>e=.returned (.bool (Dv c))/\Below w.heap.size w w':=by
 refine A9 (args:=[.agg #[.int .u8 c.k,.int .i64 c.a,.int .i64 c.b,.slice B c.args.length cc]]) Aa Tryz.func77 rfl Tryz.ntmps77 rfl ?_;conv=>whnf
 refine Ci rfl rfl rfl rfl rfl rfl ?_
 intro g1 w1 hn1
 have hb1:=hn1.blk
 have hB:=hn1.below
 refine Ab Aa ?_
 conv=>whnf
 unfold Dv
 (repeat' (first|refine Cg rfl rfl ?_|(first|refine Aj Aa hb1 rfl rfl rfl rfl rfl rfl rfl (Ab Aa ?_)|refine Un (fun hg=>?_) (fun hg=>?_)|fail)<;>conv=>whnf))
 all_goals
  refine ⟨?_,hB⟩
  congr 2
  simp_all
  try (intro h;omega)
theorem Ak1 {wh:Nat->Int}{n gW gw:Nat}{w:World}(h1:w.heap[gW]?=some (.cells #[.slice (some ⟨gw,0,none⟩) n n] 27 (0,0)))(h2:w.heap[gw]?=some (.cells (fZ n wh).toArray 3 (0,0)))(v:Int)(hv:v<(n:Int)) :
  Calls Tryz.prog 74 #[.int .i64 v,.pointer (some ⟨gW,0,none⟩)] w fun e w'=>e=.returned (.int .i64 (atF wh v))/\Below w.heap.size w w':=by
 refine A9 (args:=[.int .i64 v,.pointer (some ⟨gW,0,none⟩)]) Aa Tryz.func74 rfl Tryz.ntmps74 rfl ?_;conv=>whnf
 by_cases h0:v<0
 ·have e:atF wh v=-1:=if_pos h0
  rw [e]
  (repeat' (first|refine Cg rfl rfl ?_|(first|(refine Ag (by first|assumption|omega) ?_)|fail)<;>conv=>whnf))
  exact ⟨rfl,Below.refl _ _⟩
 ·have e:atF wh v=wh v.toNat:=if_neg h0
  have hc:w.cell? ((⟨gw,0,none⟩:Addr).add (v.toNat*1))=some (.int .i64 (wh v.toNat)):=by
   rw [Nat.mul_one,add_zero]
   exact Au h2 (by simpa using Ab0 (show v.toNat<n by omega))
  rw [e]
  (repeat' (first|refine Cg rfl rfl ?_|(first|refine Aj Aa h1 rfl rfl rfl rfl rfl rfl rfl (Ab Aa ?_)|refine Az Aa rfl rfl rfl rfl rfl rfl hc (Ab Aa ?_)|refine Ni Aa 3 1 rfl rfl rfl rfl rfl rfl rfl (by omega) (by omega) (Ab Aa ?_)|(refine Ah (by first|assumption|omega) ?_)|fail)<;>conv=>whnf))
  exact ⟨rfl,Below.refl _ _⟩
def atV (gW:Nat):Value:=.func (.func 74) #[] #[.pointer (some ⟨gW,0,none⟩)]
theorem Ap6 {wh:Nat->Int}{n gW gw gA:Nat}{w:World}(h1:w.heap[gW]?=some (.cells #[.slice (some ⟨gw,0,none⟩) n n] 27 (0,0)))(h2:w.heap[gw]?=some (.cells (fZ n wh).toArray 3 (0,0)))(hA:w.heap[gA]?=some (.cells #[atV gW] 149 (0,0)))
  (l:List Int) (B:Option Addr) (cc:Nat) (hr:RI w B l) (hl:∀ x∈l,x<(n:Int)) (hll:l.length<=6) (hw:∀ v,v<n->-1<=wh v/\wh v<(n:Int)) (hn:n<=16384) :
  Calls Tryz.prog 75 #[.slice B l.length cc,.pointer (some ⟨gA,0,none⟩)] w fun e w'=>∃ E ec,e=.returned (.slice E l.length ec)/\GInts w.heap.size w' (.slice E l.length ec) (l.map (atF wh))/\Below w.heap.size w w':=by
 refine A9 (args:=[.slice B l.length cc,.pointer (some ⟨gA,0,none⟩)]) Aa Tryz.func75 rfl Tryz.ntmps75 rfl ?_;conv=>whnf
 skip
 refine Am Aa (X:=Nat×Option Addr×Nat) (fun x=>[(1,.pointer (some ⟨gA,0,none⟩)),(4,.slice x.2.1 x.1 x.2.2),(7,.slice B l.length cc),(8,.int .i64 l.length),(9,.int .i64 x.1)])
  (fun x wr=>x.1<=l.length/\Below w.heap.size w wr/\GInts w.heap.size wr (.slice x.2.1 x.1 x.2.2) ((l.take x.1).map (atF wh))) (fun x=>l.length - x.1) (0,none,0) ⟨rfl,rfl,rfl,rfl,rfl,trivial⟩ ⟨by simp,Below.refl _ _,by simpa using GRow.nil ..⟩ ?_
 rintro ⟨i,E,ec⟩ G wr ⟨hi,hB,hG⟩
 simp only at hi hG
 have hA':=Ac hB hA
 by_cases hil:i<l.length
 ·obtain ⟨y,ad3,⟨hy⟩,e3,hyc,_,_⟩:=Dy (hr.up (Bj _) hB) i hil
  subst e3
  have hym:y∈l:=by rw [<- hy,getElem!_pos l i hil];exact List.getElem_mem hil
  have hyr:=Jn hw (hl y hym)
  have hlen:((l.take i).map (atF wh)).length=i:=by simp;omega
  have hnx:(l.take (i+1)).map (atF wh)=(l.take i).map (atF wh)++[atF wh y]:=by rw [List.take_add_one,List.getElem?_eq_getElem hil,List.map_append,<- hy,getElem!_pos l i hil];rfl
  obtain ⟨flat,o1,o2⟩:=hG.own
  rw [hlen] at o1
  conv=>whnf
  (repeat' ((first|refine Aj Aa hA' rfl rfl rfl rfl rfl rfl rfl (Ab Aa ?_)|refine Az Aa rfl rfl rfl rfl rfl rfl hyc (Ab Aa ?_)|refine Al Aa 3 1 rfl rfl rfl rfl rfl rfl rfl (by omega) (Ab Aa ?_)|(refine Ag (by first|assumption|omega) ?_)|fail)<;>conv=>whnf))
  refine I6 (first:=[]) (args:=[.int .i64 y]) (caps:=[.pointer (some ⟨gW,0,none⟩)]) Aj0 (Ak1 (Ac hB h1) (Ac hB h2) y (hl y hym)) rfl rfl rfl rfl rfl rfl rfl ?_
  rintro _ w2 ⟨rfl,hB2⟩
  refine ⟨_,rfl,Ab Aa ?_⟩
  conv=>whnf
  refine C7 Aa 3 1 rfl rfl rfl rfl rfl rfl rfl rfl rfl rfl ?_
  intro g8 w3 hn3
  refine Ab Aa ?_
  conv=>whnf
  have hB23:=Ax hB2 hn3.below
  have hG3:=hG.below hB23
  refine Cu Aa 3 1 8 (o1.kept (Ar hB23) (Classical.em _)) hn3.blk rfl rfl rfl rfl rfl rfl rfl rfl rfl rfl rfl rfl (by simp [Value.oneCell']) (by omega) (by omega) (by have:=hB23.size;have:=hB.size;omega) ?_
  intro A7 cap7 w4 hown hgr hob
  have hG4:=D5 hG3 (flat:=flat) (fun w' _=>by have:=o2 w' (by simp);exact this) (by rw [hlen];exact hown) hgr hob (y:=atF wh y) ⟨by omega,by omega⟩
  rw [<- hnx] at hG4
  have hB4:Below w.heap.size w w4:=(Ax hB hB23).grown hgr (Ax hB hB23).size (fun k hk=>by have:=(o1.lt k hk).1;omega)
  refine Ab Aa ?_
  conv=>whnf
  (repeat' ((first|refine Af rfl rfl rfl rfl rfl rfl (by omega) (by omega) (Ab Aa ?_)|fail)<;>conv=>whnf))
  exact ⟨(i+1,A7,cap7),⟨rfl,rfl,rfl,rfl,rfl,trivial⟩,⟨by simp only;omega,hB4,hG4⟩,by simp only;omega⟩
 ·have hil2:i=l.length:=by omega
  rw [hil2,List.take_length] at hG
  rw [hil2]
  conv=>whnf
  (repeat' (first|refine Cg rfl rfl ?_|(first|(refine Ah (by first|assumption|omega) ?_)|fail)<;>conv=>whnf))
  exact ⟨E,ec,rfl,hG,hB⟩
end Go.Proofs.YtghmdfegfehhkaaGreatDoor
