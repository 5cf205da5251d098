/- Several texts of one claim in one file, made short: LP09 LP10 LP11 LP12 LP13 LP14 LP15 LP16 LP17 LP18. -/
import Derived.Test.YtghmdfegfehhkaaGreatDoorZ9
import Derived.Laws.StructEq
set_option maxRecDepth 100000
set_option maxHeartbeats 64000000
set_option linter.unusedVariables false
set_option linter.unusedSimpArgs false
namespace Go.Proofs.YtghmdfegfehhkaaGreatDoor
open Go.RowKit
instance (c:UInt8):Decidable (Ej c):=by unfold Ej;infer_instance
instance (c:UInt8):Decidable (Yy c):=by unfold Yy;infer_instance
instance (c:UInt8):Decidable (Yu c):=by unfold Yu;infer_instance
def gp:List UInt8:=[103,108,111,98,97,108,32,36,103,59,32,101,110,116,114,121,32,64,102,59,32,102,117,110,99,32,64,102,40,41,32,123,32,115,105,116,101,32,35,104,59,32,36,103,32,61,32,38,35,104,59,32,125]
def gt1:Tok:=⟨1,0,[103,108,111,98,97,108],0⟩
theorem ga1:TokAt gp 0 gt1 6:=⟨0,by decide,by decide,fun i h1 h2=>(by decide:∀ i,i<0->0<=i->Ej gp[i]!) i h2 h1,TokB.word (p:=gp) (b:=0) (c:=6) (by decide) (by decide) (fun i h1 h2=>(by decide:∀ i,i<6->0<=i->Yy gp[i]!) i h2 h1) (by decide)⟩
def gt2:Tok:=⟨2,36,[103],7⟩
theorem ga2:TokAt gp 6 gt2 9:=⟨7,by decide,by decide,fun i h1 h2=>(by decide:∀ i,i<7->6<=i->Ej gp[i]!) i h2 h1,TokB.name (p:=gp) (b:=7) (c:=9) (by decide) (by decide) (by decide) (by decide) (by decide) (fun i h1 h2=>(by decide:∀ i,i<9->8<i->Yu gp[i]!) i h2 h1) (by decide)⟩
def gt3:Tok:=⟨3,0,[59],9⟩
theorem ga3:TokAt gp 9 gt3 10:=⟨9,by decide,by decide,fun i h1 h2=>(by decide:∀ i,i<9->9<=i->Ej gp[i]!) i h2 h1,TokB.sign (p:=gp) (b:=9) (by decide) (by decide)⟩
def gt4:Tok:=⟨1,0,[101,110,116,114,121],11⟩
theorem ga4:TokAt gp 10 gt4 16:=⟨11,by decide,by decide,fun i h1 h2=>(by decide:∀ i,i<11->10<=i->Ej gp[i]!) i h2 h1,TokB.word (p:=gp) (b:=11) (c:=16) (by decide) (by decide) (fun i h1 h2=>(by decide:∀ i,i<16->11<=i->Yy gp[i]!) i h2 h1) (by decide)⟩
def gt5:Tok:=⟨2,64,[102],17⟩
theorem ga5:TokAt gp 16 gt5 19:=⟨17,by decide,by decide,fun i h1 h2=>(by decide:∀ i,i<17->16<=i->Ej gp[i]!) i h2 h1,TokB.name (p:=gp) (b:=17) (c:=19) (by decide) (by decide) (by decide) (by decide) (by decide) (fun i h1 h2=>(by decide:∀ i,i<19->18<i->Yu gp[i]!) i h2 h1) (by decide)⟩
def gt6:Tok:=⟨3,0,[59],19⟩
theorem ga6:TokAt gp 19 gt6 20:=⟨19,by decide,by decide,fun i h1 h2=>(by decide:∀ i,i<19->19<=i->Ej gp[i]!) i h2 h1,TokB.sign (p:=gp) (b:=19) (by decide) (by decide)⟩
def gt7:Tok:=⟨1,0,[102,117,110,99],21⟩
theorem ga7:TokAt gp 20 gt7 25:=⟨21,by decide,by decide,fun i h1 h2=>(by decide:∀ i,i<21->20<=i->Ej gp[i]!) i h2 h1,TokB.word (p:=gp) (b:=21) (c:=25) (by decide) (by decide) (fun i h1 h2=>(by decide:∀ i,i<25->21<=i->Yy gp[i]!) i h2 h1) (by decide)⟩
def gt8:Tok:=⟨2,64,[102],26⟩
theorem ga8:TokAt gp 25 gt8 28:=⟨26,by decide,by decide,fun i h1 h2=>(by decide:∀ i,i<26->25<=i->Ej gp[i]!) i h2 h1,TokB.name (p:=gp) (b:=26) (c:=28) (by decide) (by decide) (by decide) (by decide) (by decide) (fun i h1 h2=>(by decide:∀ i,i<28->27<i->Yu gp[i]!) i h2 h1) (by decide)⟩
def gt9:Tok:=⟨3,0,[40],28⟩
theorem ga9:TokAt gp 28 gt9 29:=⟨28,by decide,by decide,fun i h1 h2=>(by decide:∀ i,i<28->28<=i->Ej gp[i]!) i h2 h1,TokB.sign (p:=gp) (b:=28) (by decide) (by decide)⟩
def Bh2:Tok:=⟨3,0,[41],29⟩
theorem Bkx:TokAt gp 29 Bh2 30:=⟨29,by decide,by decide,fun i h1 h2=>(by decide:∀ i,i<29->29<=i->Ej gp[i]!) i h2 h1,TokB.sign (p:=gp) (b:=29) (by decide) (by decide)⟩
def Ay8:Tok:=⟨3,0,[123],31⟩
theorem Bo9:TokAt gp 30 Ay8 32:=⟨31,by decide,by decide,fun i h1 h2=>(by decide:∀ i,i<31->30<=i->Ej gp[i]!) i h2 h1,TokB.sign (p:=gp) (b:=31) (by decide) (by decide)⟩
def Auy:Tok:=⟨1,0,[115,105,116,101],33⟩
theorem Bo2:TokAt gp 32 Auy 37:=⟨33,by decide,by decide,fun i h1 h2=>(by decide:∀ i,i<33->32<=i->Ej gp[i]!) i h2 h1,TokB.word (p:=gp) (b:=33) (c:=37) (by decide) (by decide) (fun i h1 h2=>(by decide:∀ i,i<37->33<=i->Yy gp[i]!) i h2 h1) (by decide)⟩
def Bby:Tok:=⟨2,35,[104],38⟩
theorem Bkq:TokAt gp 37 Bby 40:=⟨38,by decide,by decide,fun i h1 h2=>(by decide:∀ i,i<38->37<=i->Ej gp[i]!) i h2 h1,TokB.name (p:=gp) (b:=38) (c:=40) (by decide) (by decide) (by decide) (by decide) (by decide) (fun i h1 h2=>(by decide:∀ i,i<40->39<i->Yu gp[i]!) i h2 h1) (by decide)⟩
def Bf0:Tok:=⟨3,0,[59],40⟩
theorem Bi0:TokAt gp 40 Bf0 41:=⟨40,by decide,by decide,fun i h1 h2=>(by decide:∀ i,i<40->40<=i->Ej gp[i]!) i h2 h1,TokB.sign (p:=gp) (b:=40) (by decide) (by decide)⟩
def Avx:Tok:=⟨2,36,[103],42⟩
theorem Bly:TokAt gp 41 Avx 44:=⟨42,by decide,by decide,fun i h1 h2=>(by decide:∀ i,i<42->41<=i->Ej gp[i]!) i h2 h1,TokB.name (p:=gp) (b:=42) (c:=44) (by decide) (by decide) (by decide) (by decide) (by decide) (fun i h1 h2=>(by decide:∀ i,i<44->43<i->Yu gp[i]!) i h2 h1) (by decide)⟩
def Bf4:Tok:=⟨3,0,[61],45⟩
theorem Bp3:TokAt gp 44 Bf4 46:=⟨45,by decide,by decide,fun i h1 h2=>(by decide:∀ i,i<45->44<=i->Ej gp[i]!) i h2 h1,TokB.sign (p:=gp) (b:=45) (by decide) (by decide)⟩
def Au8:Tok:=⟨3,0,[38],47⟩
theorem Bn2:TokAt gp 46 Au8 48:=⟨47,by decide,by decide,fun i h1 h2=>(by decide:∀ i,i<47->46<=i->Ej gp[i]!) i h2 h1,TokB.sign (p:=gp) (b:=47) (by decide) (by decide)⟩
def Bex:Tok:=⟨2,35,[104],48⟩
theorem Bny:TokAt gp 48 Bex 50:=⟨48,by decide,by decide,fun i h1 h2=>(by decide:∀ i,i<48->48<=i->Ej gp[i]!) i h2 h1,TokB.name (p:=gp) (b:=48) (c:=50) (by decide) (by decide) (by decide) (by decide) (by decide) (fun i h1 h2=>(by decide:∀ i,i<50->49<i->Yu gp[i]!) i h2 h1) (by decide)⟩
def Ba9:Tok:=⟨3,0,[59],50⟩
theorem Bhk:TokAt gp 50 Ba9 51:=⟨50,by decide,by decide,fun i h1 h2=>(by decide:∀ i,i<50->50<=i->Ej gp[i]!) i h2 h1,TokB.sign (p:=gp) (b:=50) (by decide) (by decide)⟩
def Ax6:Tok:=⟨3,0,[125],52⟩
theorem Bn8:TokAt gp 51 Ax6 53:=⟨52,by decide,by decide,fun i h1 h2=>(by decide:∀ i,i<52->51<=i->Ej gp[i]!) i h2 h1,TokB.sign (p:=gp) (b:=52) (by decide) (by decide)⟩
def Aw5:Tok:=⟨0,0,[],53⟩
theorem Bp1:TokAt gp 53 Aw5 53:=⟨53,by decide,by decide,fun i h1 h2=>(by decide:∀ i,i<53->53<=i->Ej gp[i]!) i h2 h1,TokB.fin (by decide)⟩
theorem Blx:M8 gp 0 [gt1,gt2,gt3,gt4,gt5,gt6,gt7,gt8,gt9,Bh2,Ay8,Auy,Bby,Bf0,Avx,Bf4,Au8,Bex,Ba9,Ax6,Aw5]:=⟨_,ga1,⟨_,ga2,⟨_,ga3,⟨_,ga4,⟨_,ga5,⟨_,ga6,⟨_,ga7,⟨_,ga8,⟨_,ga9,⟨_,Bkx,⟨_,Bo9,⟨_,Bo2,⟨_,Bkq,⟨_,Bi0,⟨_,Bly,⟨_,Bp3,⟨_,Bn2,⟨_,Bny,⟨_,Bhk,⟨_,Bn8,⟨_,Bp1,trivial⟩⟩⟩⟩⟩⟩⟩⟩⟩⟩⟩⟩⟩⟩⟩⟩⟩⟩⟩⟩⟩
section
variable {w0:World}{n:Nat}{F:Fm}{L L':List Res}
theorem Av0 {gB:Nat}:CS w0 138 [.slice (some ⟨gB,0,none⟩) 53 53] (TX gB gp::L) (fun z:MZ=>.tuple #[z.v,Yw]) (fun z=>z.facts L) MZ.Ok:=
 Axk (p:=gp) (gp:=gB) (by decide) Blx ⟨rfl,rfl,rfl⟩ ⟨rfl,rfl,rfl⟩ ⟨rfl,rfl,rfl⟩ ⟨rfl,rfl,rfl⟩ ⟨rfl,rfl,rfl⟩ ⟨rfl,rfl,rfl⟩ ⟨rfl,rfl,rfl⟩ ⟨rfl,rfl,rfl⟩ ⟨rfl,rfl,rfl⟩ ⟨rfl,rfl,rfl⟩ ⟨rfl,rfl,rfl⟩ ⟨rfl,rfl,rfl⟩ ⟨rfl,rfl,rfl⟩ ⟨rfl,rfl,rfl⟩ ⟨rfl,rfl,rfl⟩ ⟨rfl,rfl,rfl⟩ ⟨rfl,rfl,rfl⟩ ⟨rfl,rfl,rfl⟩ ⟨rfl,rfl,rfl⟩ ⟨rfl,rfl,rfl⟩ ⟨rfl,rfl,rfl⟩
theorem Ar1 {Kq:Value->Prop}{dst:Option Nat}{ty:TypeId}{pos:String}{after:Array Edge}{guard:Option (Nat×Bool)}{t yt:TypeId}{x:Operand}{m cp:Nat}(kk:Kq (.bool true))(hx:ev F x=.slice none m cp:=by exact rfl)(ht:slT t=true:=by kernel_rfl):QuS w0 L F ⟨dst,.binOp .eql t x (.const (.slice none 0 0)) yt,ty,pos,after,guard⟩ Kq:=by
 refine .val (fun w hw=>?_) kk
 unfold slT at ht
 split at ht
 ·rename_i hu
  have:(Op.equal t (.slice none m cp) (.slice none 0 0)).run Tryz.prog w=.ok true w:=by
   unfold Op.equal Op.maxDepth
   rw [show (10000:Nat)=9999+1 from rfl]
   unfold Op.equalIn
   simp [B3 hu]
  have hy:ev F (.const (.slice none 0 0))=.slice none 0 0:=rfl
  simp [execOp,hx,hy,eqGuard,binOp,this]
 ·cases ht
theorem clS {sl:Sl}{vs:List Value}(h0:0<sl.n)(hn:sl.n<1000000)(ho:∀ u∈vs,u.oneCell'=true):CS w0 203 [sl.v] (Ow 9 1 sl vs::L) (fun z:Nat×Nat=>.slice (some ⟨z.1,0,none⟩) sl.n z.2) (fun z=>Ow 9 1 sl vs::Ow 9 1 ⟨some ⟨z.1,0,none⟩,sl.n,z.2⟩ vs::L) (fun _=>True):=by
 refine CS.owB Has.here h0 fun g cap e=>?_
 obtain ⟨a,m,cp⟩:=sl
 injection e with e1 _ e3
 subst e1 e3
 dsimp only at h0 hn
 refine Ai (args:=[(Sl.mk (some ⟨g,0,none⟩) m cp).v]) Tryz.func203 rfl Tryz.ntmps203 rfl ?_;conv=>whnf
 (repeat' ((first|refine rSn ?_|(refine Kv ?_;intro g5)|fail)<;>conv=>whnf))
 refine EvS.bkOw (g:=g5) (e:=9) 1 (by repeat' (first|exact Rem.here|apply Rem.there)) ?_
 refine Wr (sl:=⟨some ⟨g5,0,none⟩,0,0⟩) (sy:=⟨some ⟨g,0,none⟩,m,cp⟩) (flat:=[]) (news:=vs) (e2:=9) ?_ h0 ho
 intro g6 c6
 conv=>whnf
 skip
 rw [show ({ a:=some ⟨g5,0,none⟩,n:=0,c:=0 }:Sl).n+({ a:=some ⟨g,0,none⟩,n:=m,c:=cp }:Sl).n=m from Nat.zero_add m]
 exact f1 (g6,c6) trivial
theorem clI {sl:Sl}{vs:List Value}(h0:0<sl.n)(hn:sl.n<1000000)(ho:∀ u∈vs,u.oneCell'=true):CS w0 204 [sl.v] (Ow 3 1 sl vs::L) (fun z:Nat×Nat=>.slice (some ⟨z.1,0,none⟩) sl.n z.2) (fun z=>Ow 3 1 sl vs::Ow 3 1 ⟨some ⟨z.1,0,none⟩,sl.n,z.2⟩ vs::L) (fun _=>True):=by
 refine CS.owB Has.here h0 fun g cap e=>?_
 obtain ⟨a,m,cp⟩:=sl
 injection e with e1 _ e3
 subst e1 e3
 dsimp only at h0 hn
 refine Ai (args:=[(Sl.mk (some ⟨g,0,none⟩) m cp).v]) Tryz.func204 rfl Tryz.ntmps204 rfl ?_;conv=>whnf
 (repeat' ((first|refine rSn ?_|(refine Kv ?_;intro g5)|fail)<;>conv=>whnf))
 refine EvS.bkOw (g:=g5) (e:=3) 1 (by repeat' (first|exact Rem.here|apply Rem.there)) ?_
 refine Wr (sl:=⟨some ⟨g5,0,none⟩,0,0⟩) (sy:=⟨some ⟨g,0,none⟩,m,cp⟩) (flat:=[]) (news:=vs) (e2:=3) ?_ h0 ho
 intro g6 c6
 conv=>whnf
 skip
 rw [show ({ a:=some ⟨g5,0,none⟩,n:=0,c:=0 }:Sl).n+({ a:=some ⟨g,0,none⟩,n:=m,c:=cp }:Sl).n=m from Nat.zero_add m]
 exact f1 (g6,c6) trivial
theorem clF {sl:Sl}{vs:List Value}(h0:0<sl.n)(hn:sl.n<1000000)(ho:∀ u∈vs,u.oneCell'=true):CS w0 205 [sl.v] (Ow 83 5 sl vs::L) (fun z:Nat×Nat=>.slice (some ⟨z.1,0,none⟩) sl.n z.2) (fun z=>Ow 83 5 sl vs::Ow 83 5 ⟨some ⟨z.1,0,none⟩,sl.n,z.2⟩ vs::L) (fun _=>True):=by
 refine CS.owB Has.here h0 fun g cap e=>?_
 obtain ⟨a,m,cp⟩:=sl
 injection e with e1 _ e3
 subst e1 e3
 dsimp only at h0 hn
 refine Ai (args:=[(Sl.mk (some ⟨g,0,none⟩) m cp).v]) Tryz.func205 rfl Tryz.ntmps205 rfl ?_;conv=>whnf
 (repeat' ((first|refine rSn ?_|(refine Kv ?_;intro g5)|fail)<;>conv=>whnf))
 refine EvS.bkOw (g:=g5) (e:=83) 5 (by repeat' (first|exact Rem.here|apply Rem.there)) ?_
 refine Wr (sl:=⟨some ⟨g5,0,none⟩,0,0⟩) (sy:=⟨some ⟨g,0,none⟩,m,cp⟩) (flat:=[]) (news:=vs) (e2:=83) ?_ h0 ho
 intro g6 c6
 conv=>whnf
 skip
 rw [show ({ a:=some ⟨g5,0,none⟩,n:=0,c:=0 }:Sl).n+({ a:=some ⟨g,0,none⟩,n:=m,c:=cp }:Sl).n=m from Nat.zero_add m]
 exact f1 (g6,c6) trivial
theorem clB {sl:Sl}{vs:List Value}(h0:0<sl.n)(hn:sl.n<1000000)(ho:∀ u∈vs,u.oneCell'=true):CS w0 223 [sl.v] (Ow 88 7 sl vs::L) (fun z:Nat×Nat=>.slice (some ⟨z.1,0,none⟩) sl.n z.2) (fun z=>Ow 88 7 sl vs::Ow 88 7 ⟨some ⟨z.1,0,none⟩,sl.n,z.2⟩ vs::L) (fun _=>True):=by
 refine CS.owB Has.here h0 fun g cap e=>?_
 obtain ⟨a,m,cp⟩:=sl
 injection e with e1 _ e3
 subst e1 e3
 dsimp only at h0 hn
 refine Ai (args:=[(Sl.mk (some ⟨g,0,none⟩) m cp).v]) Tryz.func223 rfl Tryz.ntmps223 rfl ?_;conv=>whnf
 (repeat' ((first|refine rSn ?_|(refine Kv ?_;intro g5)|fail)<;>conv=>whnf))
 refine EvS.bkOw (g:=g5) (e:=88) 7 (by repeat' (first|exact Rem.here|apply Rem.there)) ?_
 refine Wr (sl:=⟨some ⟨g5,0,none⟩,0,0⟩) (sy:=⟨some ⟨g,0,none⟩,m,cp⟩) (flat:=[]) (news:=vs) (e2:=88) ?_ h0 ho
 intro g6 c6
 conv=>whnf
 skip
 rw [show ({ a:=some ⟨g5,0,none⟩,n:=0,c:=0 }:Sl).n+({ a:=some ⟨g,0,none⟩,n:=m,c:=cp }:Sl).n=m from Nat.zero_add m]
 exact f1 (g6,c6) trivial
theorem Bnz:CS w0 204 [.slice none 0 0] L (fun _:Unit=>.slice none 0 0) (fun _=>L) (fun _=>True):=by
 refine Ai (args:=[.slice none 0 0]) Tryz.func204 rfl Tryz.ntmps204 rfl ?_;conv=>whnf
 (repeat' ((first|refine Ar1 ?_|fail)<;>conv=>whnf))
 exact f1 () trivial
theorem Bjy:CS w0 223 [.slice none 0 0] L (fun _:Unit=>.slice none 0 0) (fun _=>L) (fun _=>True):=by
 refine Ai (args:=[.slice none 0 0]) Tryz.func223 rfl Tryz.ntmps223 rfl ?_;conv=>whnf
 (repeat' ((first|refine Ar1 ?_|fail)<;>conv=>whnf))
 exact f1 () trivial
theorem Bo0:CS w0 224 [.slice none 0 0] L (fun _:Unit=>.slice none 0 0) (fun _=>L) (fun _=>True):=by
 refine Ai (args:=[.slice none 0 0]) Tryz.func224 rfl Tryz.ntmps224 rfl ?_;conv=>whnf
 (repeat' ((first|refine Ar1 ?_|fail)<;>conv=>whnf))
 exact f1 () trivial
end
section
variable {w0:World}{n:Nat}{F:Fm}{L L':List Res}
theorem Ai1:CS w0 206 [.slice none 0 0] L (fun _:Unit=>.slice none 0 0) (fun _=>L) (fun _=>True):=by
 refine Ai (args:=[.slice none 0 0]) Tryz.func206 rfl Tryz.ntmps206 rfl ?_;conv=>whnf
 (repeat' ((first|(refine cC Aoz Bjy ?_;rintro ⟨⟩ -)|fail)<;>conv=>whnf))
 refine Bo 1 (Cl ?_)
 conv=>whnf
 skip
 exact f1 () trivial
theorem Al8 {gR cR i j:Nat}:CS w0 206 [.slice (some ⟨gR,0,none⟩) 1 cR] (Ow 88 7 ⟨some ⟨gR,0,none⟩,1,cR⟩ [.int .u8 1,.int .u8 2,.int .i64 (i:Int),.int .u8 4,.int .i64 (j:Int),.slice none 0 0,.slice none 0 0]::L) (fun z:Nat×Nat=>.slice (some ⟨z.1,0,none⟩) 1 z.2)
  (fun z=>Ow 88 7 ⟨some ⟨gR,0,none⟩,1,cR⟩ [.int .u8 1,.int .u8 2,.int .i64 (i:Int),.int .u8 4,.int .i64 (j:Int),.slice none 0 0,.slice none 0 0]::Ow 88 7 ⟨some ⟨z.1,0,none⟩,1,z.2⟩ [.int .u8 1,.int .u8 2,.int .i64 (i:Int),.int .u8 4,.int .i64 (j:Int),.slice none 0 0,.slice none 0 0]::L) (fun _=>True):=by
 refine Ai (args:=[.slice (some ⟨gR,0,none⟩) 1 cR]) Tryz.func206 rfl Tryz.ntmps206 rfl ?_;conv=>whnf
 skip
 refine cC Aoz (clB (sl:=⟨some ⟨gR,0,none⟩,1,cR⟩) (vs:=[.int .u8 1,.int .u8 2,.int .i64 (i:Int),.int .u8 4,.int .i64 (j:Int),.slice none 0 0,.slice none 0 0]) (by show (0:Nat)<1;decide) (by show (1:Nat)<1000000;decide) (by intro u hu;simp only [List.mem_cons,List.not_mem_nil,or_false] at hu;rcases hu with rfl|rfl|rfl|rfl|rfl|rfl|rfl<;>rfl)) ?_
 rintro ⟨g,cp⟩ -
 conv=>whnf
 skip
 refine Bo 2 (Cl ?_)
 conv=>whnf
 skip
 refine Eg [0,1,2,3,4,5,6,7,8,10,11,12,13,14] 5 19 ([Ow 88 7 ⟨some ⟨g,0,none⟩,1,cp⟩ [.int .u8 1,.int .u8 2,.int .i64 (i:Int),.int .u8 4,.int .i64 (j:Int),.slice none 0 0,.slice none 0 0]]) (by kernel_rfl) ?_;conv=>whnf
 (repeat' (first|exact True.intro|(refine And.intro ?_ ?_<;>conv=>whnf)|(first|(apply SbK.mk;(· repeat' (first|exact Sub.refl|exact Sub.nil|(apply Sub.cons;· repeat' (first|exact Rem.here|apply Rem.there))|apply Sub.skip)))|refine Ds (i:=0) (len:=1) ?_|refine Hq ?_|(refine cC Bcx Bo0 ?_;rintro ⟨⟩ -)|(refine cC Ao7 Ai1 ?_;rintro ⟨⟩ -)|refine Yv (off:=5) (flat:=[.int .u8 1,.int .u8 2,.int .i64 (i:Int),.int .u8 4,.int .i64 (j:Int),.slice none 0 0,.slice none 0 0]) ?_|refine Yv (off:=6) (flat:=[.int .u8 1,.int .u8 2,.int .i64 (i:Int),.int .u8 4,.int .i64 (j:Int),.slice none 0 0,.slice none 0 0]) ?_|(refine wI (by simp only [Cj];omega) ?_)|fail)<;>conv=>whnf))
 refine Cl ?_
 conv=>whnf
 skip
 exact f1 (g,cp) trivial
theorem MZ.oneF {z:MZ}:∀ u∈[Value.int .i64 1,.int .i64 0,.slice none 0 0,z.si.v,.slice (some ⟨z.gR,0,none⟩) 1 z.cR],u.oneCell'=true:=by
 intro u hu
 simp only [List.mem_cons,List.not_mem_nil,or_false] at hu
 rcases hu with rfl|rfl|rfl|rfl|rfl<;>rfl
theorem Atz {z:MZ}(hz:z.Ok):CS w0 172 [z.v] (z.facts L) (fun y:MZ=>y.v) (fun y=>y.facts L) MZ.Ok:=by
 obtain ⟨st,gl,fn,si,gR,cR,gE,cE⟩:=z
 obtain ⟨h1,h2,h3,h4⟩:=hz
 dsimp only at h1 h2 h3 h4
 unfold MZ.facts MZ.v
 dsimp only
 refine Ai (args:=[.agg #[st.v,gl.v,fn.v,.slice (some ⟨gE,0,none⟩) 1 cE]]) Tryz.func172 rfl Tryz.ntmps172 rfl ?_;conv=>whnf
 intro g1
 conv=>whnf
 intro g2
 conv=>whnf
 refine Ys (X:=(Nat×Nat)×(Nat×Nat)×(Nat×Nat)×(Nat×Nat)) (fun _=>[(1,ptr g1),(2,ptr g2)]) (fun y=>Bk g1 [.slice (some ⟨y.1.1,0,none⟩) st.n y.1.2,.slice (some ⟨y.2.1.1,0,none⟩) gl.n y.2.1.2,.slice (some ⟨y.2.2.1.1,0,none⟩) fn.n y.2.2.1.2,.slice (some ⟨y.2.2.2.1,0,none⟩) 1 y.2.2.2.2] 30 ::
   Bk g2 [.slice none 0 0,.slice none 0 0,.slice none 0 0,.slice none 0 0] 30::Ow 9 1 ⟨some ⟨y.1.1,0,none⟩,st.n,y.1.2⟩ (([⟨#[103]⟩,⟨#[102]⟩,⟨#[104]⟩]:List ByteArray).map Value.string)::Ow 3 1 ⟨some ⟨y.2.1.1,0,none⟩,gl.n,y.2.1.2⟩ [.int .i64 0]::Ow 83 5 ⟨some ⟨y.2.2.1.1,0,none⟩,fn.n,y.2.2.1.2⟩ [.int .i64 1,.int .i64 0,.slice none 0 0,si.v,.slice (some ⟨gR,0,none⟩) 1 cR]::Ow 3 1 si [.int .i64 2]::Ow 88 7 ⟨some ⟨gR,0,none⟩,1,cR⟩ [.int .u8 1,.int .u8 2,.int .i64 0,.int .u8 4,.int .i64 0,.slice none 0 0,.slice none 0 0]::Ow 3 1 ⟨some ⟨y.2.2.2.1,0,none⟩,1,y.2.2.2.2⟩ [.int .i64 0]::L) (fun _=>True) ?_ ?_
 ·conv=>whnf
  refine Eg [0,1,3,4,6,7,9,10] 5 13 ([Bk g1 [st.v,gl.v,fn.v,.slice (some ⟨gE,0,none⟩) 1 cE] 30]) (by kernel_rfl) ?_;conv=>whnf
  (repeat' (first|exact True.intro|(refine And.intro ?_ ?_<;>conv=>whnf)|(first|(apply SbK.mk;(· repeat' (first|exact Sub.refl|exact Sub.nil|(apply Sub.cons;· repeat' (first|exact Rem.here|apply Rem.there))|apply Sub.skip)))|(refine cC Ap0 (clS (sl:=st) (vs:=(([⟨#[103]⟩,⟨#[102]⟩,⟨#[104]⟩]:List ByteArray).map Value.string)) (by omega) (by omega) (by intro u hu;obtain ⟨x,_,rfl⟩:=List.mem_map.1 hu;rfl)) ?_;rintro y1 -)|(refine cC Vc (clI (sl:=gl) (vs:=[.int .i64 0]) (by omega) (by omega) (by intro u hu;simp at hu;subst hu;rfl)) ?_;rintro y2 -)|(refine cC Vc (clI (sl:=⟨some ⟨gE,0,none⟩,1,cE⟩) (vs:=[.int .i64 0]) (by show (0:Nat)<1;decide) (by show (1:Nat)<1000000;decide) (by intro u hu;simp at hu;subst hu;rfl)) ?_;rintro y4 -)|(refine cC Bf8 (clF (sl:=fn) (vs:=[.int .i64 1,.int .i64 0,.slice none 0 0,si.v,.slice (some ⟨gR,0,none⟩) 1 cR]) (by omega) (by omega) (MZ.oneF (z:=⟨st,gl,fn,si,gR,cR,gE,cE⟩))) ?_;rintro y3 -)|refine rB ?_|refine Cy ?_|fail)<;>conv=>whnf))
  all_goals exact mS (y1,y2,y3,y4) trivial
 ·rintro ⟨⟨gS,cS'⟩,⟨gG,cG⟩,⟨gF,cF⟩,⟨gE',cE'⟩⟩ G' -
  conv=>whnf
  (repeat' ((first|refine rB ?_|fail)<;>conv=>whnf))
  refine Bo 2 (Cl ?_)
  conv=>whnf
  (repeat' ((first|refine Ds (i:=0) (len:=fn.n) ?_|refine rB ?_|refine Ag (by first|assumption|omega) ?_|fail)<;>conv=>whnf))
  refine Ys (X:=(Nat×Nat)×(Nat×Nat)) (fun _=>[(1,ptr g1),(2,ptr g2),(23,.int .i64 (fn.n:Int)),(24,.int .i64 0)]) (fun y=>Bk g1 [.slice (some ⟨gS,0,none⟩) st.n cS',.slice (some ⟨gG,0,none⟩) gl.n cG,.slice (some ⟨gF,0,none⟩) fn.n cF,.slice (some ⟨gE',0,none⟩) 1 cE'] 30 ::
   Bk g2 [.slice none 0 0,.slice none 0 0,.slice none 0 0,.slice none 0 0] 30::Ow 9 1 ⟨some ⟨gS,0,none⟩,st.n,cS'⟩ (([⟨#[103]⟩,⟨#[102]⟩,⟨#[104]⟩]:List ByteArray).map Value.string)::Ow 3 1 ⟨some ⟨gG,0,none⟩,gl.n,cG⟩ [.int .i64 0]::Ow 83 5 ⟨some ⟨gF,0,none⟩,fn.n,cF⟩ [.int .i64 1,.int .i64 0,.slice none 0 0,.slice (some ⟨y.1.1,0,none⟩) si.n y.1.2,.slice (some ⟨y.2.1,0,none⟩) 1 y.2.2]::Ow 3 1 ⟨some ⟨y.1.1,0,none⟩,si.n,y.1.2⟩ [.int .i64 2]::Ow 88 7 ⟨some ⟨y.2.1,0,none⟩,1,y.2.2⟩ [.int .u8 1,.int .u8 2,.int .i64 0,.int .u8 4,.int .i64 0,.slice none 0 0,.slice none 0 0]::Ow 3 1 ⟨some ⟨gE',0,none⟩,1,cE'⟩ [.int .i64 0]::L) (fun _=>True) ?_ ?_
  ·conv=>whnf
   refine Eg [0,1,2,3,4,5,8,9,10,13,14,15] 12 24 ([]) (by kernel_rfl) ?_;conv=>whnf
   (repeat' (first|exact True.intro|(refine And.intro ?_ ?_<;>conv=>whnf)|(first|(apply SbK.mk;(· repeat' (first|exact Sub.refl|exact Sub.nil|(apply Sub.cons;· repeat' (first|exact Rem.here|apply Rem.there))|apply Sub.skip)))|refine Hq (flat:=[.int .i64 1,.int .i64 0,.slice none 0 0,si.v,.slice (some ⟨gR,0,none⟩) 1 cR]) ?_|(refine cC Vc Bnz ?_;rintro ⟨⟩ -)|(refine cC Vc (clI (sl:=si) (vs:=[.int .i64 2]) (by omega) (by omega) (by intro u hu;simp at hu;subst hu;rfl)) ?_;rintro y1 -)|(refine cC Ao7 (Al8 (i:=0) (j:=0) (gR:=gR) (cR:=cR)) ?_;rintro y2 -)|refine Yv ?_|fail)<;>conv=>whnf))
   all_goals exact mS (y1,y2) trivial
  ·rintro ⟨⟨gI,cI⟩,⟨gB,cB⟩⟩ G' -
   conv=>whnf
   (repeat' ((first|(refine wI (by simp only [Cj];omega) ?_)|fail)<;>conv=>whnf))
   refine Cl ?_
   conv=>whnf
   (repeat' ((first|refine rA ?_|refine Ah (by first|assumption|omega) ?_|refine Cy ?_|fail)<;>conv=>whnf))
   exact f1 (MZ.mk ⟨some ⟨gS,0,none⟩,st.n,cS'⟩ ⟨some ⟨gG,0,none⟩,gl.n,cG⟩ ⟨some ⟨gF,0,none⟩,fn.n,cF⟩ ⟨some ⟨gI,0,none⟩,si.n,cI⟩ gB cB gE' cE') ⟨h1,h2,h3,h4⟩
end
section
variable {w0:World}{n:Nat}{F:Fm}{L L':List Res}
def MZ.fG (m:MZ)(x y z:UInt8)(gi fi hi:Nat)(L':List Res):List Res:=RS m.st [⟨#[x]⟩,⟨#[y]⟩,⟨#[z]⟩]::Ow 3 1 m.gl [.int .i64 (gi:Int)]::Ow 83 5 m.fn [.int .i64 (fi:Int),.int .i64 0,.slice none 0 0,m.si.v,.slice (some ⟨m.gR,0,none⟩) 1 m.cR]::Ow 3 1 m.si [.int .i64 (hi:Int)] ::
 Ow 88 7 ⟨some ⟨m.gR,0,none⟩,1,m.cR⟩ [.int .u8 1,.int .u8 2,.int .i64 0,.int .u8 4,.int .i64 0,.slice none 0 0,.slice none 0 0]::Ow 3 1 ⟨some ⟨m.gE,0,none⟩,1,m.cE⟩ [.int .i64 0]::L'
theorem Adq {m:MZ}{x y z:UInt8}{gi fi hi:Nat}(hz:m.Ok):CS w0 116 [m.v] (m.fG x y z gi fi hi L) (fun y:Sl=>y.v) (fun u=>Ow 3 1 u [.int .i64 (gi:Int),.int .i64 (fi:Int),.int .i64 (hi:Int)]::m.fG x y z gi fi hi L) (fun y=>y.n=3):=by
 obtain ⟨st,gl,fn,si,gR,cR,gE,cE⟩:=m
 obtain ⟨h1,h2,h3,h4⟩:=hz
 dsimp only at h1 h2 h3 h4
 unfold MZ.fG MZ.v
 dsimp only
 refine CS.owB (e:=83) (sz:=5) (sl:=fn) (Has.there (Has.there Has.here)) (by omega) fun gF cF e=>?_
 obtain ⟨fa,fm,fc⟩:=fn
 injection e with e1 _ e3
 subst e1 e3
 dsimp only at h3
 subst h3
 refine Ai (args:=[.agg #[st.v,gl.v,.slice (some ⟨gF,0,none⟩) 1 fc,.slice (some ⟨gE,0,none⟩) 1 cE]]) Tryz.func116 rfl Tryz.ntmps116 rfl ?_;conv=>whnf
 intro g1
 conv=>whnf
 (repeat' ((first|refine rB ?_|fail)<;>conv=>whnf))
 refine EvS.own 3 1 ?_
 refine Aq7 (sl:=⟨none,0,0⟩) (sy:=gl) (flat:=[]) (news:=[.int .i64 (gi:Int)]) (e2:=3) ?_ (by omega) (by intro u hu;simp at hu;subst hu;rfl) (hbig:=by show (0+gl.n)*8<=_;omega) (h63:=by show 0+gl.n<=_;omega)
 intro y1 hy1
 conv=>whnf
 (repeat' ((first|refine rB ?_|fail)<;>conv=>whnf))
 have hy1':y1.n=1:=by rw [hy1];show 0+gl.n=1;omega
 refine Bo 2 (Cl ?_)
 conv=>whnf
 (repeat' ((first|refine Ds (i:=0) (len:=1) ?_|refine Oc (flat:=[.int .i64 (fi:Int),.int .i64 0,.slice none 0 0,si.v,.slice (some ⟨gR,0,none⟩) 1 cR]) ?_|fail)<;>conv=>whnf))
 intro g5
 conv=>whnf
 (repeat' ((first|refine Cy ?_|fail)<;>conv=>whnf))
 refine Eg [0,1,2,5,6,8,9] 3 10 ([Bk g5 [.int .i64 (fi:Int),.int .i64 0,.slice none 0 0,si.v,.slice (some ⟨gR,0,none⟩) 1 cR] 83]) (by kernel_rfl) ?_;conv=>whnf
 (repeat' (first|exact True.intro|(refine And.intro ?_ ?_<;>conv=>whnf)|(first|(apply SbK.mk;(· repeat' (first|exact Sub.refl|exact Sub.nil|(apply Sub.cons;· repeat' (first|exact Rem.here|apply Rem.there))|apply Sub.skip)))|(refine Kv ?_;intro g6)|(refine sAp (sl:=y1) ?_;intro y2 hy2)|refine Bi4 (sl:=y2) (flat:=[.int .i64 (gi:Int)]++[.int .i64 (fi:Int)]) ?_|(refine Aq7 (sl:=y2) (sy:=si) (news:=[.int .i64 (hi:Int)]) (e2:=3) ?_ (by omega) (by intro u hu;simp at hu;subst hu;rfl) (hbig:=by show (y2.n+si.n)*8<=_;omega) (h63:=by omega);intro y3 hy3)|refine rB ?_|refine wI (by simp only [Cj];omega) ?_|fail)<;>conv=>whnf))
 refine Cl ?_
 conv=>whnf
 skip
 exact f1 y3 (by omega)
end
section
variable {w0:World}{n:Nat}{F:Fm}{L L':List Res}
theorem Af8:CS w0 65 [] L (fun _:Unit=>Yw) (fun _=>L) (fun _=>True):=by
 refine Ai (args:=[]) Tryz.func65 rfl Tryz.ntmps65 rfl ?_;conv=>whnf
 intro g1
 conv=>whnf
 (repeat' ((first|refine Cy ?_|fail)<;>conv=>whnf))
 exact f1 () trivial
theorem Apx {x y z:UInt8}{st gl fn:Sl}{gE cE i:Nat}(h1:st.n=3)(hi:i<3):CS w0 186 [.agg #[st.v,gl.v,fn.v,.slice (some ⟨gE,0,none⟩) 1 cE],.int .i64 (i:Int)] (RS st [⟨#[x]⟩,⟨#[y]⟩,⟨#[z]⟩]::L) (fun _:Unit=>.bool true) (fun _=>RS st [⟨#[x]⟩,⟨#[y]⟩,⟨#[z]⟩]::L) (fun _=>True):=by
 refine CS.owB (e:=9) (sz:=1) (sl:=st) Has.here (by omega) fun gS cS' e=>?_
 obtain ⟨fa,fm,fc⟩:=st
 injection e with e1 _ e3
 subst e1 e3
 dsimp only at h1
 subst h1
 have h3:i=0\/i=1\/i=2:=by omega
 rcases h3 with rfl|rfl|rfl
 all_goals
  refine Ai (args:=[.agg #[.slice (some ⟨gS,0,none⟩) 3 fc,gl.v,fn.v,.slice (some ⟨gE,0,none⟩) 1 cE],.int .i64 _]) Tryz.func186 rfl Tryz.ntmps186 rfl ?_;conv=>whnf
  intro g1
  conv=>whnf
  (repeat' ((first|refine Ds (len:=3) ?_|refine Hq (flat:=[.string ⟨#[x]⟩,.string ⟨#[y]⟩,.string ⟨#[z]⟩]) ?_|refine rB ?_|fail)<;>conv=>whnf))
  exact f1 () trivial
theorem Rf {x y z:UInt8}{st gl fn sl:Sl}{gE cE i:Nat}(h1:st.n=3)(hi:i<3)(h2:sl.n=1):CS w0 146 [.agg #[st.v,gl.v,fn.v,.slice (some ⟨gE,0,none⟩) 1 cE],sl.v] (Ow 3 1 sl [.int .i64 (i:Int)]::RS st [⟨#[x]⟩,⟨#[y]⟩,⟨#[z]⟩]::L) (fun _:Unit=>.int .i64 0) (fun _=>Ow 3 1 sl [.int .i64 (i:Int)]::RS st [⟨#[x]⟩,⟨#[y]⟩,⟨#[z]⟩]::L) (fun _=>True):=by
 refine CS.owB (e:=9) (sz:=1) (sl:=st) (Has.there Has.here) (by omega) fun gS cS' e=>?_
 obtain ⟨fa,fm,fc⟩:=st
 injection e with e1 _ e3
 subst e1 e3
 dsimp only at h1
 subst h1
 refine CS.owB (e:=3) (sz:=1) (sl:=sl) Has.here (by omega) fun gI cI e=>?_
 obtain ⟨xa,xm,xc⟩:=sl
 injection e with e1 _ e3
 subst e1 e3
 dsimp only at h2
 subst h2
 have hat:∀ s:ByteArray,(DataW.map []:MD).atKey (D9 s) (.lit (.bool false))=.lit (.bool false):=fun s=>Maps.atKey_of_not_has (SD.nil.hasF (by simp)) _
 have z1:(⟨#[x]⟩:ByteArray).size<=maxLen:=by show (1:Nat)<=maxLen;decide
 have z2:(⟨#[y]⟩:ByteArray).size<=maxLen:=by show (1:Nat)<=maxLen;decide
 have z3:(⟨#[z]⟩:ByteArray).size<=maxLen:=by show (1:Nat)<=maxLen;decide
 have h3:i=0\/i=1\/i=2:=by omega
 rcases h3 with rfl|rfl|rfl
 all_goals
  refine Ai (args:=[.agg #[.slice (some ⟨gS,0,none⟩) 3 fc,gl.v,fn.v,.slice (some ⟨gE,0,none⟩) 1 cE],.slice (some ⟨gI,0,none⟩) 1 xc]) Tryz.func146 rfl Tryz.ntmps146 rfl ?_;conv=>whnf
  intro g1
  conv=>whnf
  (repeat' ((first|(refine sMk ?_;intro b)|fail)<;>conv=>whnf))
  refine Bo 2 (Cl ?_)
  conv=>whnf
  (repeat' ((first|refine Ds (i:=0) (len:=1) ?_|refine Ds (len:=3) ?_|refine Hq ?_|(refine cC Beq (Apx (st:=⟨some ⟨gS,0,none⟩,3,fc⟩) (gl:=gl) (fn:=fn) (gE:=gE) (cE:=cE) rfl hi) ?_;rintro ⟨⟩ -)|refine Auz (hat _) ?_|refine Atx ?_|refine rB ?_|refine rA ?_|refine wI (by simp only [Cj];omega) ?_|fail)<;>conv=>whnf))
  refine Cl ?_
  conv=>whnf
  skip
  exact f1 () trivial
end
section
variable {w0 w:World}{n:Nat}{F:Fm}{L L' L1:List Res}{K:Value->List Res->Prop}{o:Oper}
theorem SL.bkOwF {g e sz m:Nat}{cs:List Value}(hl:cs.length=m*sz)(hm:m<=maxLen)(h:SL w0 w (Bk g cs e::L)):SL w0 w (Ow e sz ⟨some ⟨g,0,none⟩,m,m⟩ cs::L):=by
 have hb:=Bk_P.1 (h.res (Bk g cs e) (by simp))
 refine ⟨h.bel,fun r hr=>?_,fun r hr b hb=>?_,List.pairwise_cons.2 ⟨fun r hr b hb=>?_,(List.pairwise_cons.1 h.dis).2⟩⟩
 ·rcases List.mem_cons.1 hr with rfl|hr
  ·exact Ow_P.2 ⟨hl,.inr ⟨g,m,cs.toArray,rfl,Nat.zero_le _,hb,Nat.le_refl _,hm,by simpa using hl,by simp [<- hl]⟩⟩
  ·exact h.res r (by simp [hr])
 ·rcases List.mem_cons.1 hr with rfl|hr
  ·have e1:=Ow_fp.1 hb
   injection e1 with e1
   exact h.ge (Bk g cs e) (by simp) b (Bk_fp.2 e1.symm)
  ·exact h.ge r (by simp [hr]) b hb
 ·have e1:=Ow_fp.1 hb
  injection e1 with e1
  exact (List.pairwise_cons.1 h.dis).1 r hr b (Bk_fp.2 e1.symm)
theorem EvS.bkOwF {g e m:Nat}{cs:List Value}(sz:Nat)(hl:cs.length=m*sz)(hm:m<=maxLen)(hr:Rem L (Bk g cs e) L1)(h:EvS w0 (Ow e sz ⟨some ⟨g,0,none⟩,m,m⟩ cs::L1) F o K):EvS w0 L F o K:=⟨fun w hw=>h.go w ((hw.pull hr).bkOwF hl hm)⟩
theorem Ahz {m:MZ}{x y z:UInt8}{gi fi hi:Nat}(hm:m.Ok)(hgi:gi<3)(hfi:fi<3):CS w0 113 [m.v] (m.fG x y z gi fi hi L) (fun _:Unit=>.int .i64 0) (fun _=>m.fG x y z gi fi hi L) (fun _=>True):=by
 obtain ⟨st,gl,fn,si,gR,cR,gE,cE⟩:=m
 obtain ⟨h1,h2,h3,h4⟩:=hm
 dsimp only at h1 h2 h3 h4
 unfold MZ.fG MZ.v
 dsimp only
 refine CS.owB (e:=83) (sz:=5) (sl:=fn) (Has.there (Has.there Has.here)) (by omega) fun gF cF e=>?_
 obtain ⟨fa,fm,fc⟩:=fn
 injection e with e1 _ e3
 subst e1 e3
 dsimp only at h3
 subst h3
 refine Ai (args:=[.agg #[st.v,gl.v,.slice (some ⟨gF,0,none⟩) 1 fc,.slice (some ⟨gE,0,none⟩) 1 cE]]) Tryz.func113 rfl Tryz.ntmps113 rfl ?_;conv=>whnf
 intro g1
 conv=>whnf
 (repeat' ((first|refine rA ?_|fail)<;>conv=>whnf))
 intro g3
 conv=>whnf
 (repeat' ((first|refine rB ?_|refine Ah (by first|assumption|omega) ?_|refine Cy ?_|fail)<;>conv=>whnf))
 refine sMs (m:=1) (b:=8) ?_
 intro gM
 conv=>whnf
 (repeat' ((first|refine rB ?_|fail)<;>conv=>whnf))
 refine Bo 2 (Cl ?_)
 conv=>whnf
 (repeat' ((first|refine Ds (i:=0) (len:=1) ?_|refine Oc (flat:=[.int .i64 (fi:Int),.int .i64 0,.slice none 0 0,si.v,.slice (some ⟨gR,0,none⟩) 1 cR]) ?_|fail)<;>conv=>whnf))
 intro g6
 conv=>whnf
 (repeat' ((first|refine Ds (i:=0) (len:=1) ?_|refine rB ?_|refine wI (by simp only [Cj];omega) ?_|refine Cy ?_|fail)<;>conv=>whnf))
 refine Cl ?_
 conv=>whnf
 (repeat' ((first|(refine Kv ?_;intro gT)|refine rB ?_|fail)<;>conv=>whnf))
 refine Bo 3 (Cl ?_)
 conv=>whnf
 (repeat' ((first|refine Ds (i:=0) (len:=2) ?_|refine rB ?_|refine rA ?_|fail)<;>conv=>whnf))
 refine cC Xa (Rf (st:=st) (gl:=gl) (fn:=⟨some ⟨gF,0,none⟩,1,fc⟩) (gE:=gE) (cE:=cE) (sl:=gl) (x:=x) (y:=y) (z:=z) (i:=gi) h1 hgi h2) ?_
 rintro ⟨⟩ -
 conv=>whnf
 (repeat' ((first|(refine wI (by simp only [Cj];omega) ?_)|fail)<;>conv=>whnf))
 refine Cl ?_
 conv=>whnf
 (repeat' ((first|refine Ds (i:=1) (len:=2) ?_|refine rB ?_|refine rA ?_|fail)<;>conv=>whnf))
 refine EvS.bkOwF (g:=gM) (e:=3) (m:=1) (cs:=[.int .i64 (fi:Int)]) 1 rfl (by decide) (by repeat' (first|exact Rem.here|apply Rem.there)) ?_
 refine cC Xa (Rf (st:=st) (gl:=gl) (fn:=⟨some ⟨gF,0,none⟩,1,fc⟩) (gE:=gE) (cE:=cE) (sl:=⟨some ⟨gM,0,none⟩,1,1⟩) (x:=x) (y:=y) (z:=z) (i:=fi) h1 hfi rfl) ?_
 rintro ⟨⟩ -
 conv=>whnf
 (repeat' ((first|(refine wI (by simp only [Cj];omega) ?_)|fail)<;>conv=>whnf))
 refine Cl ?_
 conv=>whnf
 (repeat' ((first|(refine sMk ?_;intro b)|refine rB ?_|fail)<;>conv=>whnf))
 have hat:∀ i:Int,(DataW.map []:MD).atKey (.int .i64 i) (.lit (.bool false))=.lit (.bool false):=fun i=>Maps.atKey_of_not_has (by simp [Maps.has]) _
 refine Bo 2 (Cl ?_)
 conv=>whnf
 (repeat' ((first|refine Ds (i:=0) (len:=1) ?_|refine Hq (flat:=[.int .i64 0]) ?_|refine Av1 (hat _) ?_|refine Aqk ?_|refine rB ?_|refine wI (by simp only [Cj];omega) ?_|fail)<;>conv=>whnf))
 refine Cl ?_
 conv=>whnf
 skip
 exact f1 () trivial
end
section
variable {w0 w:World}{n:Nat}{F:Fm}{L L' L1:List Res}{K:Value->List Res->Prop}{o:Oper}
def Ahq (a b:Int):Value:=.agg #[.int .u8 a,.int .i64 b]
theorem Ba2 (w:World)(a b c d:Int):(Op.equal 85 (Ahq a b) (Ahq c d)).run Tryz.prog w=.ok (a==c&&b==d) w:=by
 have e:(Op.equal 85 (.agg #[.int .u8 a,.int .i64 b]) (.agg #[.int .u8 c,.int .i64 d])).run Tryz.prog w=_:=run_equalIn_struct w 9999 85 _ _ (by kernel_rfl) (by kernel_rfl)
 unfold Ahq
 rw [e]
 have hi:=fun a b=>run_equalIn_int (P:=Tryz.prog) w 9998 3 .i64 .i64 a b Tryz.underlying3
 have hu:=fun a b=>run_equalIn_int (P:=Tryz.prog) w 9998 5 .u8 .u8 a b Tryz.underlying5
 simp [Program.fieldsOf,Tryz.underlying85,Op.eqFields,part,hi,hu]
 by_cases h1:a=c<;>by_cases h2:b=d<;>simp [h1,h2]
theorem Bo7 {Kq:Value->Prop}{dst:Option Nat}{ty:TypeId}{pos:String}{after:Array Edge}{guard:Option (Nat×Bool)}{yt:TypeId}{x y:Operand}{a b c d:Int}(kk:Kq (.bool (a==c&&b==d)))(hx:ev F x=.agg #[.int .u8 a,.int .i64 b]:=by exact rfl)(hy:ev F y=.agg #[.int .u8 c,.int .i64 d]:=by exact rfl):QuS w0 L F ⟨dst,.binOp .eql 85 x y yt,ty,pos,after,guard⟩ Kq:=by
 refine .val (fun w hw=>?_) kk
 have h:=Ba2 w a b c d
 unfold Ahq at h
 have hgd:Tryz.prog.eqGuardType Tryz.prog.depth 85=false:=by kernel_rfl
 simp [execOp,hx,hy,eqGuard,binOp,h,hgd]
theorem Bc6 {b:Int}:CS w0 187 [.agg #[.int .u8 2,.int .i64 b]] L (fun _:Unit=>.bool true) (fun _=>L) (fun _=>True):=by
 refine Ai (args:=[.agg #[.int .u8 2,.int .i64 b]]) Tryz.func187 rfl Tryz.ntmps187 rfl ?_;conv=>whnf
 intro g1
 conv=>whnf
 (repeat' ((first|refine rB ?_|fail)<;>conv=>whnf))
 exact f1 () trivial
theorem Aix:CS w0 148 [.agg #[.int .u8 1,.int .u8 2,.int .i64 0,.int .u8 4,.int .i64 0,.slice none 0 0,.slice none 0 0]] L (fun _:Unit=>.bool true) (fun _=>L) (fun _=>True):=by
 refine Ai (args:=[.agg #[.int .u8 1,.int .u8 2,.int .i64 0,.int .u8 4,.int .i64 0,.slice none 0 0,.slice none 0 0]]) Tryz.func148 rfl Tryz.ntmps148 rfl ?_;conv=>whnf
 intro g1
 conv=>whnf
 (repeat' ((first|refine Bo7 ?_|(refine cC Az8 (Bc6 (b:=0)) ?_;rintro ⟨⟩ -)|refine rB ?_|refine rA ?_|fail)<;>conv=>whnf))
 exact f1 () trivial
theorem Ve {vc vp vl vb:Value}{gl st fn en:Sl}{sv:Sl}{k:Int}(hk:k=2\/k=4)(hg:gl.n=1)(hs:sv.n=1)(hl:vl=.slice none 0 0):CS w0 149 [.agg #[st.v,gl.v,fn.v,en.v],.agg #[vc,vp,vl,sv.v,vb],.agg #[.int .u8 k,.int .i64 0]] L (fun _:Unit=>.bool true) (fun _=>L) (fun _=>True):=by
 subst hl
 obtain ⟨ga,gm,gc⟩:=gl
 obtain ⟨sa,sm,sc⟩:=sv
 dsimp only at hg hs
 subst hg hs
 rcases hk with rfl|rfl
 all_goals
  refine Ai (args:=[.agg #[st.v,.slice ga 1 gc,fn.v,en.v],.agg #[vc,vp,.slice none 0 0,.slice sa 1 sc,vb],.agg #[.int .u8 _,.int .i64 0]]) Tryz.func149 rfl Tryz.ntmps149 rfl ?_;conv=>whnf
  intro g1
  conv=>whnf
  skip
  intro g2
  conv=>whnf
  skip
  intro g3
  conv=>whnf
  (repeat' ((first|refine rB ?_|fail)<;>conv=>whnf))
  exact f1 () trivial
theorem Ask {vc vp vb:Value}{gl st fn en:Sl}{sv:Sl}(hg:gl.n=1)(hs:sv.n=1):CS w0 115 [.agg #[st.v,gl.v,fn.v,en.v],.agg #[vc,vp,.slice none 0 0,sv.v,vb],.int .i64 0,.agg #[.int .u8 1,.int .u8 2,.int .i64 0,.int .u8 4,.int .i64 0,.slice none 0 0,.slice none 0 0]] L (fun _:Unit=>.int .i64 0) (fun _=>L) (fun _=>True):=by
 refine Ai (args:=[.agg #[st.v,gl.v,fn.v,en.v],.agg #[vc,vp,.slice none 0 0,sv.v,vb],.int .i64 0,.agg #[.int .u8 1,.int .u8 2,.int .i64 0,.int .u8 4,.int .i64 0,.slice none 0 0,.slice none 0 0]]) Tryz.func115 rfl Tryz.ntmps115 rfl ?_;conv=>whnf
 intro g1
 conv=>whnf
 skip
 intro g2
 conv=>whnf
 skip
 intro g3
 conv=>whnf
 (repeat' ((first|(refine cC Azq Aix ?_;rintro ⟨⟩ -)|(refine cC Ap4 (Ve (st:=st) (gl:=gl) (fn:=fn) (en:=en) (sv:=sv) (vc:=vc) (vp:=vp) (vb:=vb) (k:=2) (.inl rfl) hg hs rfl) ?_;rintro ⟨⟩ -)|(refine cC Ap4 (Ve (st:=st) (gl:=gl) (fn:=fn) (en:=en) (sv:=sv) (vc:=vc) (vp:=vp) (vb:=vb) (k:=4) (.inr rfl) hg hs rfl) ?_;rintro ⟨⟩ -)|refine rB ?_|refine rA ?_|fail)<;>conv=>whnf))
 refine Bo 1 (Cl ?_)
 conv=>whnf
 (repeat' ((first|refine rB ?_|refine Iw rfl (by kernel_rfl) ?_|fail)<;>conv=>whnf))
 exact f1 () trivial
theorem Agz {gR cR:Nat}:CS w0 68 [.slice none 0 0,.slice (some ⟨gR,0,none⟩) 1 cR,.int .i64 0] (Ow 88 7 ⟨some ⟨gR,0,none⟩,1,cR⟩ [.int .u8 1,.int .u8 2,.int .i64 0,.int .u8 4,.int .i64 0,.slice none 0 0,.slice none 0 0]::L) (fun y:Nat×Nat=>.slice (some ⟨y.1,0,none⟩) 1 y.2)
  (fun y=>Ow 104 9 ⟨some ⟨y.1,0,none⟩,1,y.2⟩ [.int .i64 0,.int .i64 0,.int .u8 1,.int .u8 2,.int .i64 0,.int .u8 4,.int .i64 0,.slice none 0 0,.slice none 0 0]::Ow 88 7 ⟨some ⟨gR,0,none⟩,1,cR⟩ [.int .u8 1,.int .u8 2,.int .i64 0,.int .u8 4,.int .i64 0,.slice none 0 0,.slice none 0 0]::L) (fun _=>True):=by
 refine Ai (args:=[.slice none 0 0,.slice (some ⟨gR,0,none⟩) 1 cR,.int .i64 0]) Tryz.func68 rfl Tryz.ntmps68 rfl ?_;conv=>whnf
 refine cS.own 104 9 ?_
 conv=>whnf
 refine Bo 2 (Cl ?_)
 conv=>whnf
 (repeat' ((first|refine Ds (i:=0) (len:=1) ?_|refine Oc (flat:=[.int .u8 1,.int .u8 2,.int .i64 0,.int .u8 4,.int .i64 0,.slice none 0 0,.slice none 0 0]) ?_|fail)<;>conv=>whnf))
 intro g1
 conv=>whnf
 (repeat' ((first|(refine Kv ?_;intro g2)|refine rA ?_|refine Cy ?_|fail)<;>conv=>whnf))
 refine Kc (sl:=⟨none,0,0⟩) (flat:=[]) ?_
 intro g3 c3
 conv=>whnf
 (repeat' ((first|refine rB ?_|refine wI (by simp only [Cj];omega) ?_|fail)<;>conv=>whnf))
 refine Cl ?_
 conv=>whnf
 skip
 exact f1 (g3,c3) trivial
theorem Ri {gR cR:Nat}:CS w0 33 [.slice (some ⟨gR,0,none⟩) 1 cR] (Ow 88 7 ⟨some ⟨gR,0,none⟩,1,cR⟩ [.int .u8 1,.int .u8 2,.int .i64 0,.int .u8 4,.int .i64 0,.slice none 0 0,.slice none 0 0]::L) (fun y:Nat×Nat=>.slice (some ⟨y.1,0,none⟩) 1 y.2)
  (fun y=>Ow 104 9 ⟨some ⟨y.1,0,none⟩,1,y.2⟩ [.int .i64 0,.int .i64 0,.int .u8 1,.int .u8 2,.int .i64 0,.int .u8 4,.int .i64 0,.slice none 0 0,.slice none 0 0]::Ow 88 7 ⟨some ⟨gR,0,none⟩,1,cR⟩ [.int .u8 1,.int .u8 2,.int .i64 0,.int .u8 4,.int .i64 0,.slice none 0 0,.slice none 0 0]::L) (fun _=>True):=by
 refine Ai (args:=[.slice (some ⟨gR,0,none⟩) 1 cR]) Tryz.func33 rfl Tryz.ntmps33 rfl ?_;conv=>whnf
 (repeat' ((first|(refine cC Boy (Agz (gR:=gR) (cR:=cR)) ?_;rintro y -)|fail)<;>conv=>whnf))
 exact f1 y trivial
theorem Ai4 {gR cR:Nat}:CS w0 147 [.slice (some ⟨gR,0,none⟩) 1 cR] (Ow 88 7 ⟨some ⟨gR,0,none⟩,1,cR⟩ [.int .u8 1,.int .u8 2,.int .i64 0,.int .u8 4,.int .i64 0,.slice none 0 0,.slice none 0 0]::L) (fun _:Unit=>.int .i64 1)
  (fun _=>Ow 88 7 ⟨some ⟨gR,0,none⟩,1,cR⟩ [.int .u8 1,.int .u8 2,.int .i64 0,.int .u8 4,.int .i64 0,.slice none 0 0,.slice none 0 0]::L) (fun _=>True):=by
 refine Ai (args:=[.slice (some ⟨gR,0,none⟩) 1 cR]) Tryz.func147 rfl Tryz.ntmps147 rfl ?_;conv=>whnf
 (repeat' ((first|(refine cC Alx (Ri (gR:=gR) (cR:=cR)) ?_;rintro y -)|fail)<;>conv=>whnf))
 exact f1 () trivial
theorem Acx {st gl fn:Sl}{gE cE:Nat}:CS w0 146 [.agg #[st.v,gl.v,fn.v,.slice (some ⟨gE,0,none⟩) 1 cE],.slice none 0 0] L (fun _:Unit=>.int .i64 0) (fun _=>L) (fun _=>True):=by
 refine Ai (args:=[.agg #[st.v,gl.v,fn.v,.slice (some ⟨gE,0,none⟩) 1 cE],.slice none 0 0]) Tryz.func146 rfl Tryz.ntmps146 rfl ?_;conv=>whnf
 intro g1
 conv=>whnf
 (repeat' ((first|(refine sMk ?_;intro b)|fail)<;>conv=>whnf))
 refine Bo 1 (Cl ?_)
 conv=>whnf
 skip
 exact f1 () trivial
theorem At8 {x y z:UInt8}{st gl fn si:Sl}{gE cE gR cR fi hi:Nat}(h1:st.n=3)(hhi:hi<3)(h2:si.n=1):CS w0 114 [.agg #[st.v,gl.v,fn.v,.slice (some ⟨gE,0,none⟩) 1 cE],.agg #[.int .i64 (fi:Int),.int .i64 0,.slice none 0 0,si.v,.slice (some ⟨gR,0,none⟩) 1 cR]]
  (RS st [⟨#[x]⟩,⟨#[y]⟩,⟨#[z]⟩]::Ow 3 1 si [.int .i64 (hi:Int)]::Ow 88 7 ⟨some ⟨gR,0,none⟩,1,cR⟩ [.int .u8 1,.int .u8 2,.int .i64 0,.int .u8 4,.int .i64 0,.slice none 0 0,.slice none 0 0]::L) (fun _:Unit=>.int .i64 0)
  (fun _=>RS st [⟨#[x]⟩,⟨#[y]⟩,⟨#[z]⟩]::Ow 3 1 si [.int .i64 (hi:Int)]::Ow 88 7 ⟨some ⟨gR,0,none⟩,1,cR⟩ [.int .u8 1,.int .u8 2,.int .i64 0,.int .u8 4,.int .i64 0,.slice none 0 0,.slice none 0 0]::L) (fun _=>True):=by
 obtain ⟨sa,sm,sc⟩:=si
 dsimp only at h2
 subst h2
 refine Ai (args:=[.agg #[st.v,gl.v,fn.v,.slice (some ⟨gE,0,none⟩) 1 cE],.agg #[.int .i64 (fi:Int),.int .i64 0,.slice none 0 0,.slice sa 1 sc,.slice (some ⟨gR,0,none⟩) 1 cR]]) Tryz.func114 rfl Tryz.ntmps114 rfl ?_;conv=>whnf
 intro g1
 conv=>whnf
 skip
 intro g2
 conv=>whnf
 (repeat' ((first|(refine cC Bck (Ai4 (gR:=gR) (cR:=cR)) ?_;rintro ⟨⟩ -)|(refine cC Xa (Acx (st:=st) (gl:=gl) (fn:=fn) (gE:=gE) (cE:=cE)) ?_;rintro ⟨⟩ -)|(refine cC Xa (Rf (x:=x) (y:=y) (z:=z) (st:=st) (gl:=gl) (fn:=fn) (gE:=gE) (cE:=cE) (sl:=⟨sa,1,sc⟩) (i:=hi) h1 hhi rfl) ?_;rintro ⟨⟩ -)|refine rB ?_|refine rA ?_|fail)<;>conv=>whnf))
 exact f1 () trivial
end
section
variable {w0 w:World}{n:Nat}{F:Fm}{L L' L1:List Res}
theorem Ac0 {m:MZ}{x y z:UInt8}{gi fi hi:Nat}(hm:m.Ok)(hgi:gi<3)(hfi:fi<3)(hhi:hi<3):CS w0 62 [m.v] (m.fG x y z gi fi hi L) (fun _:Unit=>Yw) (fun _=>m.fG x y z gi fi hi L) (fun _=>True):=by
 obtain ⟨st,gl,fn,si,gR,cR,gE,cE⟩:=m
 have hm':=hm
 obtain ⟨h1,h2,h3,h4⟩:=hm
 dsimp only at h1 h2 h3 h4
 unfold MZ.fG MZ.v
 dsimp only
 refine CS.owB (e:=83) (sz:=5) (sl:=fn) (Has.there (Has.there Has.here)) (by omega) fun gF cF e=>?_
 obtain ⟨fa,fm,fc⟩:=fn
 injection e with e1 _ e3
 subst e1 e3
 dsimp only at h3
 subst h3
 refine Ai (args:=[.agg #[st.v,gl.v,.slice (some ⟨gF,0,none⟩) 1 fc,.slice (some ⟨gE,0,none⟩) 1 cE]]) Tryz.func62 rfl Tryz.ntmps62 rfl ?_;conv=>whnf
 intro g1
 conv=>whnf
 skip
 intro g2
 conv=>whnf
 (repeat' ((first|refine rA ?_|fail)<;>conv=>whnf))
 intro g3
 conv=>whnf
 (repeat' ((first|refine rA ?_|refine Cy ?_|fail)<;>conv=>whnf))
 refine cC Ba3 (Ahz (m:=⟨st,gl,⟨some ⟨gF,0,none⟩,1,fc⟩,si,gR,cR,gE,cE⟩) (x:=x) (y:=y) (z:=z) (gi:=gi) (fi:=fi) (hi:=hi) hm' hgi hfi) ?_
 rintro ⟨⟩ -
 conv=>whnf
 (repeat' ((first|refine rB ?_|fail)<;>conv=>whnf))
 refine Bo 2 (Cl ?_)
 conv=>whnf
 (repeat' ((first|refine Ds (i:=0) (len:=1) ?_|refine Oc (flat:=[.int .i64 (fi:Int),.int .i64 0,.slice none 0 0,si.v,.slice (some ⟨gR,0,none⟩) 1 cR]) ?_|fail)<;>conv=>whnf))
 intro g6
 conv=>whnf
 (repeat' ((first|refine rA ?_|refine Cy ?_|fail)<;>conv=>whnf))
 refine cC Bdq (At8 (x:=x) (y:=y) (z:=z) (st:=st) (gl:=gl) (fn:=⟨some ⟨gF,0,none⟩,1,fc⟩) (gE:=gE) (cE:=cE) (si:=si) (gR:=gR) (cR:=cR) (fi:=fi) (hi:=hi) h1 hhi h4) ?_
 rintro ⟨⟩ -
 conv=>whnf
 (repeat' ((first|(refine cC Alx (Ri (gR:=gR) (cR:=cR)) ?_;rintro ⟨gQ,cQ⟩ -)|refine rB ?_|fail)<;>conv=>whnf))
 refine Bo 2 (Cl ?_)
 conv=>whnf
 (repeat' ((first|refine Ds (i:=0) (len:=1) ?_|refine Oc (flat:=[.int .i64 0,.int .i64 0,.int .u8 1,.int .u8 2,.int .i64 0,.int .u8 4,.int .i64 0,.slice none 0 0,.slice none 0 0]) ?_|fail)<;>conv=>whnf))
 intro g9
 conv=>whnf
 (repeat' ((first|refine rB ?_|refine rA ?_|refine Cy ?_|fail)<;>conv=>whnf))
 refine cC Bg6 (Ask (st:=st) (gl:=gl) (fn:=⟨some ⟨gF,0,none⟩,1,fc⟩) (en:=⟨some ⟨gE,0,none⟩,1,cE⟩) (sv:=si) (vc:=.int .i64 (fi:Int)) (vp:=.int .i64 0) (vb:=.slice (some ⟨gR,0,none⟩) 1 cR) h2 h4) ?_
 rintro ⟨⟩ -
 conv=>whnf
 (repeat' ((first|(refine wI (by simp only [Cj];omega) ?_)|fail)<;>conv=>whnf))
 refine Cl ?_
 conv=>whnf
 (repeat' ((first|(refine wI (by simp only [Cj];omega) ?_)|fail)<;>conv=>whnf))
 refine Cl ?_
 conv=>whnf
 (repeat' ((first|(refine cC Ax2 Af8 ?_;rintro ⟨⟩ -)|refine Cy ?_|fail)<;>conv=>whnf))
 exact f1 () trivial
end
section
variable {w0 w:World}{n:Nat}{F:Fm}{L L' L1:List Res}
theorem rLs {Kq:Value->Prop}{dst:Option Nat}{ty:TypeId}{pos:String}{after:Array Edge}{guard:Option (Nat×Bool)}{t yt:TypeId}{x y:Operand}{a b:ByteArray}{v:Bool}(kk:Kq (.bool v))(hx:ev F x=.string a:=by exact rfl)(hy:ev F y=.string b:=by exact rfl)(hv:Op.bytesLess a.data.toList b.data.toList=v:=by decide):QuS w0 L F ⟨dst,.binOp .lss t x y yt,ty,pos,after,guard⟩ Kq:=by
 refine .val (fun w hw=>?_) kk
 have hv':Op.bytesLess a.toList b.toList=v:=by rw [ByteArray.toList_eq,ByteArray.toList_eq];exact hv
 simp [execOp,hx,hy,eqGuard,binOp,Op.stringOp,hv']
theorem rGe {Kq:Value->Prop}{dst:Option Nat}{ty:TypeId}{pos:String}{after:Array Edge}{guard:Option (Nat×Bool)}{t yt:TypeId}{x y:Operand}{a b:ByteArray}{v:Bool}(kk:Kq (.bool (!v)))(hx:ev F x=.string a:=by exact rfl)(hy:ev F y=.string b:=by exact rfl)(hv:Op.bytesLess a.data.toList b.data.toList=v:=by decide):QuS w0 L F ⟨dst,.binOp .geq t x y yt,ty,pos,after,guard⟩ Kq:=by
 refine .val (fun w hw=>?_) kk
 have hv':Op.bytesLess a.toList b.toList=v:=by rw [ByteArray.toList_eq,ByteArray.toList_eq];exact hv
 simp [execOp,hx,hy,eqGuard,binOp,Op.stringOp,hv']
noncomputable def Bb3 (t:TypeId):Bool:=match Tryz.prog.underlying t with|some .string=>true|_=>false
theorem rIs {Kq:Value->Prop}{dst:Option Nat}{ty:TypeId}{pos:String}{after:Array Edge}{guard:Option (Nat×Bool)}{t:TypeId}{x y:Operand}{a:ByteArray}{k:IntKind}{i v:Nat}(kk:Kq (.int .u8 (v:Int)))(hx:ev F x=.string a:=by exact rfl)(hy:ev F y=.int k i:=by exact rfl)(ht:Bb3 t=true:=by kernel_rfl)(hi:Nat.blt i a.size=true:=by kernel_rfl)(hv:(a.get! i).toNat=v:=by kernel_rfl):QuS w0 L F ⟨dst,.index t x y,ty,pos,after,guard⟩ Kq:=by
 refine .val (fun w hw=>?_) kk
 unfold Bb3 at ht
 split at ht
 ·rename_i hu
  have h:=run_index_string (P:=Tryz.prog) (w:=w) t a k (i:Int) hu
  have hi':i<a.size:=by simpa [Nat.blt_eq] using hi
  have hg:(a[i]'hi').toNat=v:=by rw [<- hv];simp [ByteArray.get!,ByteArray.getElem_eq_getElem_data,getElem!_pos,ByteArray.size_data,hi']
  simp [execOp,hx,hy,h,hi',hg]
 ·cases ht
theorem Bf9 {x:UInt8}:CS w0 233 [.string ⟨#[x]⟩] L (fun _:Unit=>.bool false) (fun _=>L) (fun _=>True):=by
 refine Ai (args:=[.string ⟨#[x]⟩]) Tryz.func233 rfl Tryz.ntmps233 rfl ?_;conv=>whnf
 skip
 exact f1 () trivial (hv:=by show Value.bool false=.bool (!decide ((⟨#[x]⟩:ByteArray)=⟨#[x]⟩));simp)
theorem Bp9 {x:UInt8}:CS w0 209 [.string ⟨#[x]⟩] L (fun _:Unit=>.bool false) (fun _=>L) (fun _=>True):=by
 refine Ai (args:=[.string ⟨#[x]⟩]) Tryz.func209 rfl Tryz.ntmps209 rfl ?_;conv=>whnf
 skip
 exact f1 () trivial (hv:=by show Value.bool false=.bool (!decide ((⟨#[x]⟩:ByteArray)=⟨#[x]⟩));simp)
def byT (x:UInt8):Prop:=x=102\/x=103\/x=104
theorem Jh {x y:UInt8}(hx:byT x)(hy:byT y):CS w0 208 [.string ⟨#[x]⟩,.string ⟨#[y]⟩] L (fun _:Unit=>.bool (Nat.blt x.toNat y.toNat)) (fun _=>L) (fun _=>True):=by
 rcases hx with rfl|rfl|rfl<;>rcases hy with rfl|rfl|rfl
 all_goals
  refine Ai (args:=[.string ⟨#[_]⟩,.string ⟨#[_]⟩]) Tryz.func208 rfl Tryz.ntmps208 rfl ?_;conv=>whnf
  (repeat' ((first|(refine cC Bd2 Bf9 ?_;rintro ⟨⟩ -)|refine rLs (v:=true) ?_|refine rLs (v:=false) ?_|fail)<;>conv=>whnf))
  first|exact f1 () trivial|(trace_state;done)
theorem Akk:CS w0 164 [.int .u64 3] L (fun _:Unit=>.int .i64 2) (fun _=>L) (fun _=>True):=by
 refine Ai (args:=[.int .u64 3]) Tryz.func164 rfl Tryz.ntmps164 rfl ?_;conv=>whnf
 (repeat' ((first|refine rIs (i:=3) (v:=2) ?_|(refine wI (by simp only [Cj];omega) ?_)|fail)<;>conv=>whnf))
 first|exact f1 () trivial|(trace_state;done)
theorem Ba0:CS w0 136 [.int .u64 3] L (fun _:Unit=>.int .i64 2) (fun _=>L) (fun _=>True):=by
 refine Ai (args:=[.int .u64 3]) Tryz.func136 rfl Tryz.ntmps136 rfl ?_;conv=>whnf
 (repeat' ((first|(refine cC Ao5 Akk ?_;rintro ⟨⟩ -)|fail)<;>conv=>whnf))
 exact f1 () trivial
theorem Bd4 {g c:Nat}:CS w0 225 [.slice (some ⟨g,0,none⟩) 3 c,.int .i64 0,.int .i64 3] (Ow 9 1 ⟨some ⟨g,0,none⟩,3,c⟩ [.string ⟨#[103]⟩,.string ⟨#[102]⟩,.string ⟨#[104]⟩]::L) (fun _:Unit=>.tuple #[]) (fun _=>Ow 9 1 ⟨some ⟨g,0,none⟩,3,c⟩ [.string ⟨#[102]⟩,.string ⟨#[103]⟩,.string ⟨#[104]⟩]::L) (fun _=>True):=by
 refine Ai (args:=[.slice (some ⟨g,0,none⟩) 3 c,.int .i64 0,.int .i64 3]) Tryz.func225 rfl Tryz.ntmps225 rfl ?_;conv=>whnf
 (repeat' ((first|(refine wI (by simp only [Cj];omega) ?_)|fail)<;>conv=>whnf))
 refine Bo 3 (Cl ?_)
 conv=>whnf
 skip
 refine Bo 2 (Cl ?_)
 conv=>whnf
 refine Eg [0,1,2,3,4,5,6,7,8,9,10,11,12] 0 13 ([Ow 9 1 ⟨some ⟨g,0,none⟩,3,c⟩ [.string ⟨#[103]⟩,.string ⟨#[102]⟩,.string ⟨#[104]⟩]]) (by kernel_rfl) ?_;conv=>whnf
 (repeat' ((first|refine Ds (i:=1) (len:=3) ?_|refine Ds (i:=0) (len:=3) ?_|refine Hq ?_|(refine cC Nb (Jh (x:=102) (y:=103) (.inl rfl) (.inr (.inl rfl))) ?_;rintro ⟨⟩ -)|(refine wI (by simp only [Cj];omega) ?_)|fail)<;>conv=>whnf))
 refine Eg [0,1,2,3,4,5,6,7,8,10,11,12] 4 16 ([]) (by kernel_rfl) ?_;conv=>whnf
 (repeat' (first|exact True.intro|(refine And.intro ?_ ?_<;>conv=>whnf)|(first|(apply SbK.mk;(· repeat' (first|exact Sub.refl|exact Sub.nil|(apply Sub.cons;· repeat' (first|exact Rem.here|apply Rem.there))|apply Sub.skip)))|refine Ds (i:=1) (len:=3) ?_|refine Ds (i:=0) (len:=3) ?_|refine Hq ?_|refine Yv ?_|(refine wI (by simp only [Cj];omega) ?_)|fail)<;>conv=>whnf))
 all_goals
  refine Cl ?_
  conv=>whnf
  refine Eg [0,1,2,3,4,5,6,7,8,9,10,11,12] 0 13 ([]) (by kernel_rfl) ?_;conv=>whnf
  (repeat' ((first|(refine wI (by simp only [Cj];omega) ?_)|fail)<;>conv=>whnf))
  refine Cl ?_
  conv=>whnf
  skip
  refine Bo 1 (Cl ?_)
  conv=>whnf
  refine Eg [0,1,2,3,4,5,6,7,8,9,10,11,12] 0 13 ([Ow 9 1 ⟨some ⟨g,0,none⟩,3,c⟩ [.string ⟨#[102]⟩,.string ⟨#[103]⟩,.string ⟨#[104]⟩]]) (by kernel_rfl) ?_;conv=>whnf
  (repeat' ((first|refine Ds (i:=2) (len:=3) ?_|refine Ds (i:=1) (len:=3) ?_|refine Hq ?_|(refine cC Nb (Jh (x:=104) (y:=103) (.inr (.inr rfl)) (.inr (.inl rfl))) ?_;rintro ⟨⟩ -)|(refine wI (by simp only [Cj];omega) ?_)|fail)<;>conv=>whnf))
  refine Cl ?_
  conv=>whnf
  skip
  exact f0 () trivial
theorem Bb4 {g c:Nat}:CS w0 207 [.slice (some ⟨g,0,none⟩) 3 c,.int .i64 0,.int .i64 3,.int .i64 2] (Ow 9 1 ⟨some ⟨g,0,none⟩,3,c⟩ [.string ⟨#[103]⟩,.string ⟨#[102]⟩,.string ⟨#[104]⟩]::L) (fun _:Unit=>.tuple #[]) (fun _=>Ow 9 1 ⟨some ⟨g,0,none⟩,3,c⟩ [.string ⟨#[102]⟩,.string ⟨#[103]⟩,.string ⟨#[104]⟩]::L) (fun _=>True):=by
 refine Ai (args:=[.slice (some ⟨g,0,none⟩) 3 c,.int .i64 0,.int .i64 3,.int .i64 2]) Tryz.func207 rfl Tryz.ntmps207 rfl ?_;conv=>whnf
 skip
 refine Bo 1 (Cl ?_)
 conv=>whnf
 (repeat' ((first|(refine cC Bdx (Bd4 (g:=g) (c:=c)) ?_;rintro ⟨⟩ -)|(refine wI (by simp only [Cj];omega) ?_)|fail)<;>conv=>whnf))
 exact f0 () trivial
theorem Ar8 {g c:Nat}:CS w0 173 [.slice (some ⟨g,0,none⟩) 3 c] (Ow 9 1 ⟨some ⟨g,0,none⟩,3,c⟩ [.string ⟨#[103]⟩,.string ⟨#[102]⟩,.string ⟨#[104]⟩]::L) (fun _:Unit=>.tuple #[]) (fun _=>Ow 9 1 ⟨some ⟨g,0,none⟩,3,c⟩ [.string ⟨#[102]⟩,.string ⟨#[103]⟩,.string ⟨#[104]⟩]::L) (fun _=>True):=by
 refine Ai (args:=[.slice (some ⟨g,0,none⟩) 3 c]) Tryz.func173 rfl Tryz.ntmps173 rfl ?_;conv=>whnf
 (repeat' ((first|(refine cC Amx Ba0 ?_;rintro ⟨⟩ -)|(refine cC Bd0 (Bb4 (g:=g) (c:=c)) ?_;rintro ⟨⟩ -)|(refine wI (by simp only [Cj];omega) ?_)|fail)<;>conv=>whnf))
 exact f0 () trivial
theorem As6 {g c:Nat}:CS w0 174 [.slice (some ⟨g,0,none⟩) 3 c] (Ow 9 1 ⟨some ⟨g,0,none⟩,3,c⟩ [.string ⟨#[102]⟩,.string ⟨#[103]⟩,.string ⟨#[104]⟩]::L) (fun _:Unit=>.slice (some ⟨g,0,none⟩) 3 c) (fun _=>Ow 9 1 ⟨some ⟨g,0,none⟩,3,c⟩ [.string ⟨#[102]⟩,.string ⟨#[103]⟩,.string ⟨#[104]⟩]::L) (fun _=>True):=by
 refine Ai (args:=[.slice (some ⟨g,0,none⟩) 3 c]) Tryz.func174 rfl Tryz.ntmps174 rfl ?_;conv=>whnf
 skip
 refine Bo 3 (Cl ?_)
 conv=>whnf
 refine Eg [0,1,2,3,4,5,6,7,8] 0 9 ([Ow 9 1 ⟨some ⟨g,0,none⟩,3,c⟩ [.string ⟨#[102]⟩,.string ⟨#[103]⟩,.string ⟨#[104]⟩]]) (by kernel_rfl) ?_;conv=>whnf
 (repeat' ((first|refine Ds (i:=1) (len:=3) ?_|refine Ds (i:=0) (len:=3) ?_|refine Hq ?_|(refine wI (by simp only [Cj];omega) ?_)|fail)<;>conv=>whnf))
 refine Cl ?_
 conv=>whnf
 refine Eg [0,1,2,3,4,5,6,7,8] 0 9 ([Ow 9 1 ⟨some ⟨g,0,none⟩,3,c⟩ [.string ⟨#[102]⟩,.string ⟨#[103]⟩,.string ⟨#[104]⟩]]) (by kernel_rfl) ?_;conv=>whnf
 (repeat' ((first|refine Ds (i:=2) (len:=3) ?_|refine Ds (i:=1) (len:=3) ?_|refine Hq ?_|(refine wI (by simp only [Cj];omega) ?_)|fail)<;>conv=>whnf))
 refine Cl ?_
 conv=>whnf
 skip
 exact f1 () trivial
end
section
variable {w0 w:World}{n:Nat}{F:Fm}{L L' L1:List Res}
theorem Bl8 {g c:Nat}:CS w0 176 [.slice (some ⟨g,0,none⟩) 3 c,.string ⟨#[102]⟩] (Ow 9 1 ⟨some ⟨g,0,none⟩,3,c⟩ [.string ⟨#[102]⟩,.string ⟨#[103]⟩,.string ⟨#[104]⟩]::L) (fun _:Unit=>.tuple #[.int .i64 0,.bool true]) (fun _=>Ow 9 1 ⟨some ⟨g,0,none⟩,3,c⟩ [.string ⟨#[102]⟩,.string ⟨#[103]⟩,.string ⟨#[104]⟩]::L) (fun _=>True):=by
 refine Ai (args:=[.slice (some ⟨g,0,none⟩) 3 c,.string ⟨#[102]⟩]) Tryz.func176 rfl Tryz.ntmps176 rfl ?_;conv=>whnf
 skip
 refine Bo 3 (Cl ?_)
 conv=>whnf
 (repeat' ((first|refine ⟨(1:Int),by decide,?_⟩|refine ⟨by decide,?_⟩|refine Ds (i:=1) (len:=3) ?_|refine Hq ?_|(refine cC Nb (Jh (x:=103) (y:=102) (.inr (.inl rfl)) (.inl rfl)) ?_;rintro ⟨⟩ -)|(refine wI (by simp only [Cj];omega) ?_)|fail)<;>conv=>whnf))
 refine Cl ?_
 conv=>whnf
 (repeat' ((first|refine ⟨(0:Int),by decide,?_⟩|refine ⟨by decide,?_⟩|refine Ds (i:=0) (len:=3) ?_|refine Hq ?_|(refine cC Nb (Jh (x:=102) (y:=102) (.inl rfl) (.inl rfl)) ?_;rintro ⟨⟩ -)|(refine wI (by simp only [Cj];omega) ?_)|fail)<;>conv=>whnf))
 refine Cl ?_
 conv=>whnf
 (repeat' ((first|refine Ds (i:=0) (len:=3) ?_|refine Hq ?_|fail)<;>conv=>whnf))
 exact f2 () trivial
theorem Bjq {g c:Nat}:CS w0 176 [.slice (some ⟨g,0,none⟩) 3 c,.string ⟨#[103]⟩] (Ow 9 1 ⟨some ⟨g,0,none⟩,3,c⟩ [.string ⟨#[102]⟩,.string ⟨#[103]⟩,.string ⟨#[104]⟩]::L) (fun _:Unit=>.tuple #[.int .i64 1,.bool true]) (fun _=>Ow 9 1 ⟨some ⟨g,0,none⟩,3,c⟩ [.string ⟨#[102]⟩,.string ⟨#[103]⟩,.string ⟨#[104]⟩]::L) (fun _=>True):=by
 refine Ai (args:=[.slice (some ⟨g,0,none⟩) 3 c,.string ⟨#[103]⟩]) Tryz.func176 rfl Tryz.ntmps176 rfl ?_;conv=>whnf
 skip
 refine Bo 3 (Cl ?_)
 conv=>whnf
 (repeat' ((first|refine ⟨(1:Int),by decide,?_⟩|refine ⟨by decide,?_⟩|refine Ds (i:=1) (len:=3) ?_|refine Hq ?_|(refine cC Nb (Jh (x:=103) (y:=103) (.inr (.inl rfl)) (.inr (.inl rfl))) ?_;rintro ⟨⟩ -)|(refine wI (by simp only [Cj];omega) ?_)|fail)<;>conv=>whnf))
 refine Cl ?_
 conv=>whnf
 (repeat' ((first|refine ⟨(0:Int),by decide,?_⟩|refine ⟨by decide,?_⟩|refine Ds (i:=0) (len:=3) ?_|refine Hq ?_|(refine cC Nb (Jh (x:=102) (y:=103) (.inl rfl) (.inr (.inl rfl))) ?_;rintro ⟨⟩ -)|(refine wI (by simp only [Cj];omega) ?_)|fail)<;>conv=>whnf))
 refine Cl ?_
 conv=>whnf
 (repeat' ((first|refine Ds (i:=1) (len:=3) ?_|refine Hq ?_|fail)<;>conv=>whnf))
 exact f2 () trivial
theorem Bj6 {g c:Nat}:CS w0 176 [.slice (some ⟨g,0,none⟩) 3 c,.string ⟨#[104]⟩] (Ow 9 1 ⟨some ⟨g,0,none⟩,3,c⟩ [.string ⟨#[102]⟩,.string ⟨#[103]⟩,.string ⟨#[104]⟩]::L) (fun _:Unit=>.tuple #[.int .i64 2,.bool true]) (fun _=>Ow 9 1 ⟨some ⟨g,0,none⟩,3,c⟩ [.string ⟨#[102]⟩,.string ⟨#[103]⟩,.string ⟨#[104]⟩]::L) (fun _=>True):=by
 refine Ai (args:=[.slice (some ⟨g,0,none⟩) 3 c,.string ⟨#[104]⟩]) Tryz.func176 rfl Tryz.ntmps176 rfl ?_;conv=>whnf
 skip
 refine Bo 3 (Cl ?_)
 conv=>whnf
 (repeat' ((first|refine ⟨(1:Int),by decide,?_⟩|refine ⟨by decide,?_⟩|refine Ds (i:=1) (len:=3) ?_|refine Hq ?_|(refine cC Nb (Jh (x:=103) (y:=104) (.inr (.inl rfl)) (.inr (.inr rfl))) ?_;rintro ⟨⟩ -)|(refine wI (by simp only [Cj];omega) ?_)|fail)<;>conv=>whnf))
 refine Cl ?_
 conv=>whnf
 (repeat' ((first|refine ⟨(2:Int),by decide,?_⟩|refine ⟨by decide,?_⟩|refine Ds (i:=2) (len:=3) ?_|refine Hq ?_|(refine cC Nb (Jh (x:=104) (y:=104) (.inr (.inr rfl)) (.inr (.inr rfl))) ?_;rintro ⟨⟩ -)|(refine wI (by simp only [Cj];omega) ?_)|fail)<;>conv=>whnf))
 refine Cl ?_
 conv=>whnf
 (repeat' ((first|refine Ds (i:=2) (len:=3) ?_|refine Hq ?_|fail)<;>conv=>whnf))
 exact f2 () trivial
end
end Go.Proofs.YtghmdfegfehhkaaGreatDoor
