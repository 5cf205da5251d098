/- Several texts of one claim in one file, made short: OW17. -/
import Derived.Test.YtghmdfegfehhkaaGreatDoorZ22
set_option maxRecDepth 100000
set_option maxHeartbeats 64000000
set_option linter.unusedVariables false
set_option linter.unusedSimpArgs false
namespace Go.Proofs.YtghmdfegfehhkaaGreatDoor
open Go.RowKit
structure LM (w0:World)(gl gn bo K:Nat)(lab:Nat->Int)(m:Nat)(f:Int->Option Nat)(no:Nat)(w:World):Prop where
 below:Below w0.heap.size w0 w
 lb:w.heap[gl]?=some (.cells (fZ K lab).toArray 3 (0,0))
 cell:w.heap[gn]?=some (.cells #[.int .i64 (m:Int)] 3 (0,0))
 obj:INum w bo f no
 ge:w0.heap.size<=gl/\w0.heap.size<=gn/\w0.heap.size<=bo
 ne:gl≠gn
section
variable {w0 w w1:World}{gl gn bo K m no b n:Nat}{lab:Nat->Int}{f:Int->Option Nat}{L:List Int}
theorem LM.up (h:LM w0 gl gn bo K lab m f no w)(hb:Below w.heap.size w w1):LM w0 gl gn bo K lab m f no w1:=⟨Ax h.below hb,Ac hb h.lb,Ac hb h.cell,h.obj.up hb,h.ge,h.ne⟩
theorem ISet.ne {g:Nat}{cs:Array Value}{t:TypeId}{fr:Nat×Nat}(h:ISet w b L n)(hg:w.heap[g]?=some (.cells cs t fr)):b≠g:=by
 obtain ⟨D,⟨es,clock,hb,_⟩,_⟩:=h.ex
 intro e
 rw [e,hg] at hb
 cases hb
theorem LM.kept (h:LM w0 gl gn bo K lab m f no w)(hs:ISet w b L n)(hg:w.grownBy w1 (some b))(hb:w0.heap.size<=b)(hbo:b≠bo):LM w0 gl gn bo K lab m f no w1:=
 ⟨h.below.grown hg h.below.size (fun k hk=>by injection hk with hk;omega),(hg.block gl (Ae h.lb) (fun e=>by injection e with e;exact hs.ne h.lb e.symm)).trans h.lb,(hg.block gn (Ae h.cell) (fun e=>by injection e with e;exact hs.ne h.cell e.symm)).trans h.cell,
 h.obj.kept hg (fun e=>by injection e with e;exact hbo e.symm),h.ge,h.ne⟩
theorem LM.call {m':Nat}{f':Int->Option Nat}{no':Nat}(h:LM w0 gl gn bo K lab m f no w)(ho:OL w w1 gn bo m' f' no'):LM w0 gl gn bo K lab m' f' no' w1:=by
 have h2:=h.obj.ne h.lb
 refine ⟨Kept.below ho.kept h.below h.below.size (fun k hk=>?_),Kept.blk ho.kept h.lb ?_,ho.cell,ho.obj,h.ge,h.ne⟩
 ·simp at hk
  rcases hk with rfl|rfl
  ·exact h.ge.2.1
  ·exact h.ge.2.2
 ·simp only [List.mem_cons,List.not_mem_nil,or_false,not_or]
  exact ⟨h.ne,fun e=>h2 e.symm⟩
theorem LM.store {k:Nat}{x:Int}(h:LM w0 gl gn bo K lab m f no w)(hp:Put w w1 gl ((fZ K lab).set k (.int .i64 x)) 3):LM w0 gl gn bo K (Bf lab k x) m f no w1:=by
 have h2:=h.obj.ne h.lb
 refine ⟨hp.below h.below h.ge.1 h.below.size,by rw [<- Io];exact hp.blk,hp.old h.cell h.ne.symm,h.obj.kept hp.grown (fun e=>by injection e with e;exact h2 e),h.ge,h.ne⟩
theorem LM.labC {k:Nat}(h:LM w0 gl gn bo K lab m f no w)(hk:k<K):w.cell? ((⟨gl,0,none⟩:Addr).add (k*1))=some (.int .i64 (lab k)):=by
 rw [Nat.mul_one,add_zero]
 exact Au h.lb (by simpa using Ab0 hk)
theorem SetM.tight {P:Program}{k e:TypeId}(h:SetM P k e w b L n):SetM P k e w b L L.length:=by
 obtain ⟨D,⟨es,clock,hb,F,hs,hD⟩,h2,h3⟩:=h.ex
 refine ⟨⟨D,⟨es,clock,hb,F,?_,hD⟩,h2,h3⟩,h.nd⟩
 rw [<- h3,hD]
 simp [Maps.size,length_sorted]
end
theorem Ajq (vars:Nat)(into bases:List (List Int))(lo:List Bool)(A B C:Option Addr)(ca cb cc:Nat)(w:World)(hG:GOk vars into bases lo)(hA:RRows w A into)(hB:RRows w B bases)(hC:RowR 1 dB w C lo) :
  Calls Tryz.prog 78 #[.agg #[.int .i64 vars,.slice A into.length ca,.slice B bases.length cb,.slice C lo.length cc]] w fun e w'=>∃ kn of go,KnOk into kn of/\e=.returned (.slice (some ⟨go,0,none⟩) vars vars) /\
   RI w' (some ⟨go,0,none⟩) ((List.range vars).map fun v=>(D8 vars into bases lo kn of kn.length).lab (of v))/\Below w.heap.size w w':=by
 have hsm:=hG.small
 have hni:=hG.ni
 have hnb:=hG.nb
 have hnl:=hG.nl
 obtain ⟨N,hN⟩:∃ N,N=into.length:=⟨_,rfl⟩
 refine A9 (args:=[.agg #[.int .i64 vars,.slice A into.length ca,.slice B bases.length cb,.slice C lo.length cc]]) Aa Tryz.func78 rfl Tryz.ntmps78 rfl ?_;conv=>whnf
 refine Ci rfl rfl rfl rfl rfl rfl ?_
 intro g1 w1 hn1
 have hb1:=hn1.blk
 refine Ab Aa ?_
 conv=>whnf
 (repeat' ((first|refine Aj Aa hb1 rfl rfl rfl rfl rfl rfl rfl (Ab Aa ?_)|fail)<;>conv=>whnf))
 refine Bv An8 (Aoy into A ca w1 (hA.up Bz hn1.below) (by omega)) rfl rfl rfl rfl rfl rfl rfl ?_
 rintro _ w5 ⟨⟨kn,of,Ak,ck,go,rfl,hK,hrk,hcn,hof⟩,hB5⟩
 have hbx:w5.heap[g1]?=some (.cells #[.int .i64 vars,.slice A into.length ca,.slice B bases.length cb,.slice C lo.length cc] 163 (0,0)):=Ac hB5 hb1
 have hBw:=Ax hn1.below hB5
 have hA:=hA.up Bz hBw
 have hB:=hB.up Bz hBw
 have hC:=hC.up K3 hBw
 clear hn1 hb1 hB5
 have rd:∀ (wb:World),Below w5.heap.size w5 wb->∀ j,j<into.length->wb.cell? ((⟨go,0,none⟩:Addr).add (j*1))=some (.int .i64 (of j:Int)):=fun wb hBb j hj=>by
  obtain ⟨z,ad3,⟨hz3⟩,e3,hc4,_,_⟩:=Dy (hof.up (Bj _) hBb) j (by rw [Rn];exact hj)
  rw [Z0 _ hj] at hz3
  subst hz3
  injection e3 with e3
  subst e3
  exact hc4
 obtain ⟨K,hKn⟩:∃ K,K=kn.length:=⟨_,rfl⟩
 rw [<- hN] at hof
 have hKN:K<=N:=by
  rw [hKn,hN]
  refine Mw (fun k=>if hk:k<kn.length then (hK.rep hk).choose else 0) (fun k hk=>?_) (fun i j hi hj e=>?_)
  ·simp only [hk,dif_pos]
   exact (hK.rep hk).choose_spec.1
  ·simp only [hi,hj,dif_pos] at e
   have h1:=(hK.rep hi).choose_spec.2
   have h2:=(hK.rep hj).choose_spec.2
   rw [e] at h1
   omega
 refine ⟨_,rfl,Ab Aa ?_⟩
 rw [<- hKn,<- hN]
 conv=>whnf
 skip
 refine Lb (m:=K) Aa 3 1 8 rfl rfl rfl rfl rfl rfl rfl rfl rfl (by omega) (by omega) ?_
 intro gl w6 hn6
 refine Ab Aa ?_
 conv=>whnf
 refine Bm Aa rfl rfl rfl rfl rfl rfl ?_
 intro gn w7 hn7
 refine Ab Aa ?_
 conv=>whnf
 refine Dd (off:=0) (v:=.int .i64 ((0:Nat):Int)) Aa hn7.blk rfl rfl rfl rfl rfl rfl (by simp) rfl rfl ?_
 intro w8 hp8
 refine Ab Aa ?_
 conv=>whnf
 refine M5 rfl rfl rfl rfl ?_
 intro bo w9 hbo hw9 hB9
 refine Ab Aa ?_
 conv=>whnf
 refine Ta (fs:=[]) (cs:=[.pointer (some ⟨gn,0,none⟩)]) rfl rfl rfl rfl rfl rfl ?_
 refine Ab Aa ?_
 conv=>whnf
 skip
 have hM:LM w5 gl gn bo K (D8 vars into bases lo kn of 0).lab (D8 vars into bases lo kn of 0).nx (D8 vars into bases lo kn of 0).ob (2*0) w9:=by
  have q6:=hn6.at_
  have q7:=hn7.at_
  have q6s:=hn6.size
  have q7s:=hn7.size
  have q8:=hp8.size
  refine ⟨Ax (hp8.below (hn7.up hn6.below) (by omega) (by omega)) hB9,Ac hB9 (hp8.old (hn7.old ?_) (by omega)),Ac hB9 hp8.blk,by rw [hbo];exact NumM.made hw9,⟨by omega,by omega,by omega⟩,by omega⟩
  have h6:=hn6.blk
  show w6.heap[gl]?=some (.cells (fZ K fun _=>0).toArray 3 (0,0))
  rw [<- Ls]
  exact h6
 clear hn6 hn7 hp8 hbo hw9 hB9
 refine C8 0 (fun _ _=>False) (X:=Unit) (fun _=>[(1,.pointer (some ⟨g1,0,none⟩)),(4,.slice (some ⟨go,0,none⟩) N N),(5,.slice (some ⟨gl,0,none⟩) K K),(7,.map (some bo)),(8,Dl gn)]) (fun _ wi=>LM w5 gl gn bo K (D8 vars into bases lo kn of K).lab (D8 vars into bases lo kn of K).nx (D8 vars into bases lo kn of K).ob (2*K) wi) ?_ (fun _ _ h=>h.elim) ?_
 ·refine Am Aa (X:=Nat) (fun k=>[(1,.pointer (some ⟨g1,0,none⟩)),(4,.slice (some ⟨go,0,none⟩) N N),(5,.slice (some ⟨gl,0,none⟩) K K),(7,.map (some bo)),(8,Dl gn),(33,.slice Ak K ck),(34,.int .i64 (K:Int)),(35,.int .i64 (k:Int))]) (fun k wi=>k<=K/\LM w5 gl gn bo K (D8 vars into bases lo kn of k).lab (D8 vars into bases lo kn of k).nx (D8 vars into bases lo kn of k).ob (2*k) wi) (fun k=>K - k) 0 ⟨rfl,rfl,rfl,rfl,rfl,rfl,rfl,rfl,trivial⟩ ⟨by omega,hM⟩ ?_
  clear hM
  rintro k G wr ⟨hk,hM⟩
  by_cases hlt:k<K
  ·obtain ⟨s,hs⟩:∃ s,s=D8 vars into bases lo kn of k:=⟨_,rfl⟩
   rw [<- hs] at hM
   have hLO:=Ju hG hK k (by omega)
   rw [<- hs] at hLO
   have hnx:=hLO.nx
   obtain ⟨l,hl⟩:∃ l,l=kn[k]! := ⟨_,rfl⟩
   have hlN:l.length<=N:=by
    rw [hl,hN]
    refine Ew ?_ fun v hv=>((hK.kn k (by omega)).2.2 v hv).1
    exact ((hK.kn k (by omega)).2.1).imp fun {a b} hab e=>by omega
   obtain ⟨x0,ad0,B0,cl,⟨hx0⟩,hA0,hrow0,_,⟨hR0⟩⟩:=Iq (hrk.up Bz hM.below) k (by rw [Rt];omega)
   rw [Af6 (by omega),<- hl] at hx0
   have hx0l:x0.length=l.length:=by rw [<- hx0,List.length_map]
   rw [hx0l] at hrow0
   subst hA0
   have hdown:∀ v,v∈l->v<N/\∀ x∈into[v]!,of x.toNat<=k:=fun v hv=>by
    rw [hN]
    exact hK.down hG.ri (by omega) (by rw [<- hl];exact hv)
   have hlne:0<l.length:=by
    rw [hl]
    exact List.length_pos_iff.2 (hK.kn k (by omega)).1
   obtain ⟨adl,hadl⟩:∃ adl,B0=some adl:=by
    obtain ⟨ad,cs,e,_⟩:=Hb hR0 0 (by omega)
    exact ⟨ad,e⟩
   subst hadl
   have hR5:∀ wi,Below wr.heap.size wr wi->∀ i,i<l.length->wi.cell? (adl.add (i*1))=some (.int .i64 (l[i]!:Int)):=fun wi hb i hi=>by
    obtain ⟨y,ad,⟨hy⟩,e,hc,_,_⟩:=Dy hR0 i (by omega)
    injection e with e
    subst e
    rw [<- hx0,R4 hi] at hy
    subst hy
    exact Bn hb hc
   conv=>whnf
   (repeat' ((first|refine Az Aa rfl rfl rfl rfl rfl rfl hrow0 (Ab Aa ?_)|refine Al Aa 27 1 rfl rfl rfl rfl rfl rfl rfl (by omega) (Ab Aa ?_)|(refine Ag (by first|assumption|omega) ?_)|fail)<;>conv=>whnf))
   refine M5 rfl rfl rfl rfl ?_
   intro bs wa hbs hwa hBa
   refine Ab Aa ?_
   conv=>whnf
   skip
   refine M5 rfl rfl rfl rfl ?_
   intro bw wb hbw hwb hBb
   refine Ab Aa ?_
   conv=>whnf
   skip
   have hs5:=hM.below.size
   have hob:=hM.obj.lt
   have has:=hBa.size
   have hS0:ISet wb bs [] 0:=by
    have:ISet wa bs [] 0:=by rw [hbs];exact SetM.made hwa
    exact this.up hBb
   have hW0:ISet wb bw [] 0:=by rw [hbw];exact SetM.made hwb
   have hbsw:bs<bw:=by
    rw [hbw,hbs]
    have:ISet wa wr.heap.size [] 0:=SetM.made hwa
    exact this.lt
   have hMb:LM w5 gl gn bo K s.lab s.nx s.ob (2*k) wb:=(hM.up hBa).up hBb
   have hBrb:Below wr.heap.size wr wb:=Ax hBa hBb
   have hsz:w5.heap.size<=bs/\bs≠bo/\bw≠bo/\wr.heap.size<=bs:=⟨by omega,by omega,by omega,by omega⟩
   refine C8 2 (fun _ _=>False) (X:=Unit) (fun _=>[(1,.pointer (some ⟨g1,0,none⟩)),(4,.slice (some ⟨go,0,none⟩) N N),(5,.slice (some ⟨gl,0,none⟩) K K),(7,.map (some bo)),(8,Dl gn),(9,.int .i64 (k:Int)),(11,.map (some bs)),(12,.map (some bw)),(13,.bool (Jf lo kn k)),(33,.slice (some ad0) K ck),(34,.int .i64 (K:Int)),(35,.int .i64 (k:Int))]) (fun _ wj=>(LM w5 gl gn bo K s.lab s.nx s.ob (2*k) wj/\Below wr.heap.size wr wj)/\(∃ n1,ISet wj bs (Gm into kn of s.lab k) n1)/\∃ n2,ISet wj bw (J4 vars bases kn k) n2) ?_ (fun _ _ h=>h.elim) ?_
   ·refine Am Aa (X:=Nat) (fun i=>[(1,.pointer (some ⟨g1,0,none⟩)),(4,.slice (some ⟨go,0,none⟩) N N),(5,.slice (some ⟨gl,0,none⟩) K K),(7,.map (some bo)),(8,Dl gn),(9,.int .i64 (k:Int)),(11,.map (some bs)),(12,.map (some bw)),(13,.bool ((l.take i).foldl (If lo) false)),(33,.slice (some ad0) K ck),(34,.int .i64 (K:Int)),(35,.int .i64 (k:Int)),(42,.slice (some adl) l.length cl),(43,.int .i64 (l.length:Int)),(44,.int .i64 (i:Int))]) (fun i wj=>i<=l.length/\(LM w5 gl gn bo K s.lab s.nx s.ob (2*k) wj/\Below wr.heap.size wr wj)/\(∃ n1,ISet wj bs ((l.take i).foldl (Ia into of s.lab k) []) n1)/\∃ n2,ISet wj bw ((l.take i).foldl (G1 bases vars) []) n2) (fun i=>l.length - i) 0 ⟨rfl,rfl,rfl,rfl,rfl,rfl,rfl,rfl,rfl,rfl,rfl,rfl,rfl,rfl,rfl,trivial⟩ ⟨by omega,⟨hMb,hBrb⟩,⟨0,hS0⟩,0,hW0⟩ ?_
    clear hM hMb hBrb hS0 hW0 hBa hBb hwa hwb
    rintro i G5 wi ⟨hi,⟨hMi,hBi⟩,⟨n1,hSi⟩,n2,hWi⟩
    by_cases hil:i<l.length
    ·obtain ⟨v,hv⟩:∃ v,v=l[i]! := ⟨_,rfl⟩
     have hvl:v∈l:=by rw [hv,getElem!_pos l i hil];exact List.getElem_mem hil
     have hvN:=(hdown v hvl).1
     have hcv:=hR5 wi hBi i hil
     rw [<- hv] at hcv
     obtain ⟨S,hS⟩:∃ S,S=(l.take i).foldl (Ia into of s.lab k) []:=⟨_,rfl⟩
     obtain ⟨W,hW⟩:∃ W,W=(l.take i).foldl (G1 bases vars) []:=⟨_,rfl⟩
     rw [<- hS] at hSi
     rw [<- hW] at hWi
     have hSP:Hc s.nx S:=by
      rw [hS]
      exact H8 _ _ ⟨.nil,by simp⟩ fun S a ha hS=>S9 hLO.lab (hdown a (List.mem_of_mem_take ha)).2 hS
     have hWP:Sq W:=by
      rw [hW]
      exact H8 _ _ ⟨.nil,by simp⟩ fun S a ha hS=>Xe (fun v hv=>hG.rb v (by omega)) hS
     obtain ⟨adC,csC,eC,_,hcC,hdC⟩:=Hb (hC.up K3 hMi.below) v (by omega)
     subst eC
     have hdC:csC=[.bool lo[v]!]:=hdC
     subst hdC
     have hcC1:=hcC.1
     have hbi:=Ac hMi.below hbx
     obtain ⟨bb,hbb⟩:∃ bb,bb=(l.take i).foldl (If lo) false:=⟨_,rfl⟩
     have hloN:(l.take (i+1)).foldl (If lo) false=If lo bb v:=by rw [Bl _ _ hil,<- hbb,<- hv]
     rw [<- hbb]
     clear hbb
     cases bb with
     |true=>
      by_cases hvv:v<vars
      ·obtain ⟨xb,adb,Bb,cbb,⟨hxb⟩,hBe,hrb5,_,⟨hRb⟩⟩:=Iq hB v (by omega)
       subst hBe
       have hrb:=Bn hMi.below hrb5
       have hbi:=Ac hMi.below hbx
       have hbm:=hRb.1
       have hbN:∀ y∈xb,0<=y/\y<16384:=fun y hy=>hG.rb v (by omega) y (by rw [hxb];exact hy)
       conv=>whnf
       (repeat' ((first|refine Aj Aa hbi rfl rfl rfl rfl rfl rfl rfl (Ab Aa ?_)|refine Az Aa rfl rfl rfl rfl rfl rfl hcv (Ab Aa ?_)|refine Az Aa rfl rfl rfl rfl rfl rfl hrb (Ab Aa ?_)|refine Al Aa 27 1 rfl rfl rfl rfl rfl rfl rfl (by omega) (Ab Aa ?_)|refine Al Aa 3 1 rfl rfl rfl rfl rfl rfl rfl (by omega) (Ab Aa ?_)|(refine Ag (by first|assumption|omega) ?_)|fail)<;>conv=>whnf))
       refine C8 4 (fun _ _=>False) (X:=Unit) (fun _=>[(1,.pointer (some ⟨g1,0,none⟩)),(4,.slice (some ⟨go,0,none⟩) N N),(5,.slice (some ⟨gl,0,none⟩) K K),(7,.map (some bo)),(8,Dl gn),(9,.int .i64 (k:Int)),(11,.map (some bs)),(12,.map (some bw)),(13,.bool (If lo true v)),(15,.int .i64 (v:Int)),(33,.slice (some ad0) K ck),(34,.int .i64 (K:Int)),(35,.int .i64 (k:Int)),(42,.slice (some adl) l.length cl),(43,.int .i64 (l.length:Int)),(44,.int .i64 (i:Int))]) (fun _ wj=>(LM w5 gl gn bo K s.lab s.nx s.ob (2*k) wj/\Below wr.heap.size wr wj)/\(∃ n1,ISet wj bs S n1)/\∃ n2,ISet wj bw (G1 bases vars W v) n2) ?_ (fun _ _ h=>h.elim) ?_
       ·refine Am Aa (X:=Nat) (fun j=>[(1,.pointer (some ⟨g1,0,none⟩)),(4,.slice (some ⟨go,0,none⟩) N N),(5,.slice (some ⟨gl,0,none⟩) K K),(7,.map (some bo)),(8,Dl gn),(9,.int .i64 (k:Int)),(11,.map (some bs)),(12,.map (some bw)),(13,.bool (If lo true v)),(15,.int .i64 (v:Int)),(33,.slice (some ad0) K ck),(34,.int .i64 (K:Int)),(35,.int .i64 (k:Int)),(42,.slice (some adl) l.length cl),(43,.int .i64 (l.length:Int)),(44,.int .i64 (i:Int)),(64,.slice Bb xb.length cbb),(65,.int .i64 (xb.length:Int)),(66,.int .i64 (j:Int))]) (fun j wj=>j<=xb.length/\(LM w5 gl gn bo K s.lab s.nx s.ob (2*k) wj/\Below wr.heap.size wr wj)/\Sq ((xb.take j).foldl addI W)/\(∃ n1,ISet wj bs S n1)/\∃ n2,ISet wj bw ((xb.take j).foldl addI W) n2) (fun j=>xb.length - j) 0 ⟨rfl,rfl,rfl,rfl,rfl,rfl,rfl,rfl,rfl,rfl,rfl,rfl,rfl,rfl,rfl,rfl,rfl,rfl,rfl,trivial⟩ ⟨by omega,⟨hMi,hBi⟩,hWP,⟨n1,hSi⟩,n2,hWi⟩ ?_
        clear hMi hSi hWi hBi hrb
        rintro j G6 wj ⟨hj,⟨hMj,hBj⟩,hPj,⟨n1,hSj⟩,n2,hWj⟩
        by_cases hjx:j<xb.length
        ·obtain ⟨y,ad3,⟨hy⟩,e3,hyc,_,_⟩:=Dy (hRb.up (Bj _) hMj.below) j hjx
         subst e3
         have hym:y∈xb:=by rw [<- hy,getElem!_pos xb j hjx];exact List.getElem_mem hjx
         have hyn:=hbN y hym
         have hfn:(xb.take (j+1)).foldl addI W=addI ((xb.take j).foldl addI W) y:=by rw [Bl _ _ hjx,hy]
         have hPn:Sq ((xb.take (j+1)).foldl addI W):=by
          rw [hfn]
          exact ⟨Ie hPj.1 _,L4 hPj.2 hyn⟩
         have hbwl:((xb.take j).foldl addI W).length<=16384:=Fx hPj.1 hPj.2
         conv=>whnf
         (repeat' ((first|refine Az Aa rfl rfl rfl rfl rfl rfl hyc (Ab Aa ?_)|refine Al Aa 3 1 rfl rfl rfl rfl rfl rfl rfl (by omega) (Ab Aa ?_)|(refine Ag (by first|assumption|omega) ?_)|fail)<;>conv=>whnf))
         refine J7 (hWj.tight.put Fc (x:=y) (by unfold maxLen;omega) ⟨by omega,by omega⟩) rfl rfl rfl rfl rfl rfl ?_
         rintro w2 ⟨hW2,hg2⟩
         refine Ab Aa ?_
         conv=>whnf
         (repeat' ((first|refine Af rfl rfl rfl rfl rfl rfl (by omega) (by omega) (Ab Aa ?_)|fail)<;>conv=>whnf))
         exact ⟨j+1,⟨rfl,rfl,rfl,rfl,rfl,rfl,rfl,rfl,rfl,rfl,rfl,rfl,rfl,rfl,rfl,rfl,rfl,rfl,rfl,trivial⟩,⟨hjx,⟨hMj.kept hWj hg2 (by omega) hsz.2.2.1,hBj.grown hg2 hBj.size (fun b hb=>by injection hb with hb;omega)⟩,hPn,⟨n1,hSj.kept hg2 (fun e=>by injection e with e;omega)⟩,_,by rw [hfn];exact hW2⟩,by omega⟩
        ·conv=>whnf
         (repeat' ((first|(refine Ah (by first|assumption|omega) ?_)|fail)<;>conv=>whnf))
         have hjl:j=xb.length:=by omega
         rw [hjl,List.take_length] at hWj
         refine ⟨rfl,(),⟨rfl,rfl,rfl,rfl,rfl,rfl,rfl,rfl,rfl,rfl,rfl,rfl,rfl,rfl,rfl,rfl,trivial⟩,⟨hMj,hBj⟩,⟨n1,hSj⟩,n2,?_⟩
         unfold G1
         rw [if_pos hvv,hxb]
         exact hWj
       ·rintro _ G7 wi ⟨⟨hMi,hBi⟩,⟨n1,hSi⟩,n2,hWi⟩
        obtain ⟨x,ad2,B2,cc2,⟨hx⟩,hAi,hrw5,_,⟨hRx⟩⟩:=Iq hA v (by omega)
        subst hAi
        have hrw:=Bn hMi.below hrw5
        have hxm:=hRx.1
        have hbi:=Ac hMi.below hbx
        have hyN:∀ y∈x,0<=y/\y<(N:Int):=fun y hy=>by rw [hN];exact hG.ri v (by omega) y (by rw [hx];exact hy)
        have hyk:∀ y∈x,of y.toNat<=k:=fun y hy=>(hdown v hvl).2 y (by rw [hx];exact hy)
        conv=>whnf
        (repeat' ((first|refine Aj Aa hbi rfl rfl rfl rfl rfl rfl rfl (Ab Aa ?_)|refine Az Aa rfl rfl rfl rfl rfl rfl hrw (Ab Aa ?_)|refine Al Aa 27 1 rfl rfl rfl rfl rfl rfl rfl (by omega) (Ab Aa ?_)|fail)<;>conv=>whnf))
        refine C8 6 (fun _ _=>False) (X:=Unit) (fun _=>[(1,.pointer (some ⟨g1,0,none⟩)),(4,.slice (some ⟨go,0,none⟩) N N),(5,.slice (some ⟨gl,0,none⟩) K K),(7,.map (some bo)),(8,Dl gn),(9,.int .i64 (k:Int)),(11,.map (some bs)),(12,.map (some bw)),(13,.bool (If lo true v)),(15,.int .i64 (v:Int)),(33,.slice (some ad0) K ck),(34,.int .i64 (K:Int)),(35,.int .i64 (k:Int)),(42,.slice (some adl) l.length cl),(43,.int .i64 (l.length:Int)),(44,.int .i64 (i:Int))]) (fun _ wj=>(LM w5 gl gn bo K s.lab s.nx s.ob (2*k) wj/\Below wr.heap.size wr wj)/\(∃ n1,ISet wj bs (Ia into of s.lab k S v) n1)/\∃ n2,ISet wj bw (G1 bases vars W v) n2) ?_ (fun _ _ h=>h.elim) ?_
        ·refine Am Aa (X:=Nat) (fun j=>[(1,.pointer (some ⟨g1,0,none⟩)),(4,.slice (some ⟨go,0,none⟩) N N),(5,.slice (some ⟨gl,0,none⟩) K K),(7,.map (some bo)),(8,Dl gn),(9,.int .i64 (k:Int)),(11,.map (some bs)),(12,.map (some bw)),(13,.bool (If lo true v)),(15,.int .i64 (v:Int)),(33,.slice (some ad0) K ck),(34,.int .i64 (K:Int)),(35,.int .i64 (k:Int)),(42,.slice (some adl) l.length cl),(43,.int .i64 (l.length:Int)),(44,.int .i64 (i:Int)),(77,.slice B2 x.length cc2),(78,.int .i64 (x.length:Int)),(79,.int .i64 (j:Int))]) (fun j wj=>j<=x.length/\(LM w5 gl gn bo K s.lab s.nx s.ob (2*k) wj/\Below wr.heap.size wr wj)/\Hc s.nx ((x.take j).foldl (Ay of s.lab k) S)/\(∃ n1,ISet wj bs ((x.take j).foldl (Ay of s.lab k) S) n1)/\∃ n2,ISet wj bw (G1 bases vars W v) n2) (fun j=>x.length - j) 0 ⟨rfl,rfl,rfl,rfl,rfl,rfl,rfl,rfl,rfl,rfl,rfl,rfl,rfl,rfl,rfl,rfl,rfl,rfl,rfl,trivial⟩ ⟨by omega,⟨hMi,hBi⟩,hSP,⟨n1,hSi⟩,n2,hWi⟩ ?_
         clear hMi hSi hWi hBi hrw
         rintro j G6 wj ⟨hj,⟨hMj,hBj⟩,hPj,⟨n1,hSj⟩,n2,hWj⟩
         by_cases hjx:j<x.length
         ·obtain ⟨y,ad3,⟨hy⟩,e3,hyc,_,_⟩:=Dy (hRx.up (Bj _) hMj.below) j hjx
          subst e3
          have hym:y∈x:=by rw [<- hy,getElem!_pos x j hjx];exact List.getElem_mem hjx
          have hyn:=hyN y hym
          obtain ⟨u,hu⟩:=Int.eq_ofNat_of_zero_le hyn.1
          subst hu
          have huk:=hyk _ hym
          rw [Int.toNat_natCast] at huk
          have hcu:=rd wj hMj.below u (by omega)
          have hcl:=hMj.labC (k:=of u) (by omega)
          have hfn:(x.take (j+1)).foldl (Ay of s.lab k) S=Ay of s.lab k ((x.take j).foldl (Ay of s.lab k) S) (u:Int):=by rw [Bl _ _ hjx,hy]
          have hPn:Hc s.nx ((x.take (j+1)).foldl (Ay of s.lab k) S):=by
           rw [hfn]
           exact Ji hLO.lab (by rw [Int.toNat_natCast];exact huk) hPj
          have hbsl:((x.take j).foldl (Ay of s.lab k) S).length<=s.nx:=Fx hPj.1 hPj.2
          by_cases h1:of u=k
          ·have hsx:Ay of s.lab k ((x.take j).foldl (Ay of s.lab k) S) (u:Int)=(x.take j).foldl (Ay of s.lab k) S:=if_neg fun h=>h.1 (by rw [Int.toNat_natCast];exact h1)
           conv=>whnf
           (repeat' ((first|refine Az Aa rfl rfl rfl rfl rfl rfl hyc (Ab Aa ?_)|refine Az Aa rfl rfl rfl rfl rfl rfl hcu (Ab Aa ?_)|refine Al Aa 3 1 rfl rfl rfl rfl rfl rfl rfl (by omega) (Ab Aa ?_)|refine Af rfl rfl rfl rfl rfl rfl (by omega) (by omega) (Ab Aa ?_)|refine Ag (by first|assumption|omega) ?_|refine Ah (by first|assumption|omega) ?_|fail)<;>conv=>whnf))
           exact ⟨j+1,⟨rfl,rfl,rfl,rfl,rfl,rfl,rfl,rfl,rfl,rfl,rfl,rfl,rfl,rfl,rfl,rfl,rfl,rfl,rfl,trivial⟩,⟨hjx,⟨hMj,hBj⟩,hPn,⟨n1,by rw [hfn,hsx];exact hSj⟩,n2,hWj⟩,by omega⟩
          by_cases h2:s.lab (of u)=-1
          ·have hsx:Ay of s.lab k ((x.take j).foldl (Ay of s.lab k) S) (u:Int)=(x.take j).foldl (Ay of s.lab k) S:=if_neg fun h=>h.2 (by rw [Int.toNat_natCast];exact h2)
           conv=>whnf
           (repeat' ((first|refine Az Aa rfl rfl rfl rfl rfl rfl hyc (Ab Aa ?_)|refine Az Aa rfl rfl rfl rfl rfl rfl hcu (Ab Aa ?_)|refine Az Aa rfl rfl rfl rfl rfl rfl hcl (Ab Aa ?_)|refine Al Aa 3 1 rfl rfl rfl rfl rfl rfl rfl (by omega) (Ab Aa ?_)|refine Af rfl rfl rfl rfl rfl rfl (by omega) (by omega) (Ab Aa ?_)|refine Ag (by first|assumption|omega) ?_|refine Ah (by first|assumption|omega) ?_|fail)<;>conv=>whnf))
           exact ⟨j+1,⟨rfl,rfl,rfl,rfl,rfl,rfl,rfl,rfl,rfl,rfl,rfl,rfl,rfl,rfl,rfl,rfl,rfl,rfl,rfl,trivial⟩,⟨hjx,⟨hMj,hBj⟩,hPn,⟨n1,by rw [hfn,hsx];exact hSj⟩,n2,hWj⟩,by omega⟩
          ·have hsx:Ay of s.lab k ((x.take j).foldl (Ay of s.lab k) S) (u:Int)=addI ((x.take j).foldl (Ay of s.lab k) S) (s.lab (of u)):=by
            unfold Ay
            rw [Int.toNat_natCast,if_pos ⟨h1,h2⟩]
           have hlb:=hLO.lab (of u) (by omega)
           conv=>whnf
           (repeat' ((first|refine Az Aa rfl rfl rfl rfl rfl rfl hyc (Ab Aa ?_)|refine Az Aa rfl rfl rfl rfl rfl rfl hcu (Ab Aa ?_)|refine Az Aa rfl rfl rfl rfl rfl rfl hcl (Ab Aa ?_)|refine Al Aa 3 1 rfl rfl rfl rfl rfl rfl rfl (by omega) (Ab Aa ?_)|(refine Ag (by first|assumption|omega) ?_)|fail)<;>conv=>whnf))
           refine J7 (hSj.tight.put Fc (x:=s.lab (of u)) (by unfold maxLen;omega) ⟨by omega,by omega⟩) rfl rfl rfl rfl rfl rfl ?_
           rintro w2 ⟨hS2,hg2⟩
           refine Ab Aa ?_
           conv=>whnf
           (repeat' ((first|refine Af rfl rfl rfl rfl rfl rfl (by omega) (by omega) (Ab Aa ?_)|fail)<;>conv=>whnf))
           exact ⟨j+1,⟨rfl,rfl,rfl,rfl,rfl,rfl,rfl,rfl,rfl,rfl,rfl,rfl,rfl,rfl,rfl,rfl,rfl,rfl,rfl,trivial⟩,⟨hjx,⟨hMj.kept hSj hg2 hsz.1 hsz.2.1,hBj.grown hg2 hBj.size (fun b hb=>by injection hb with hb;omega)⟩,hPn,⟨_,by rw [hfn,hsx];exact hS2⟩,n2,hWj.kept hg2 (fun e=>by injection e with e;omega)⟩,by omega⟩
         ·conv=>whnf
          (repeat' ((first|(refine Ah (by first|assumption|omega) ?_)|fail)<;>conv=>whnf))
          have hjl:j=x.length:=by omega
          rw [hjl,List.take_length] at hSj
          refine ⟨rfl,(),⟨rfl,rfl,rfl,rfl,rfl,rfl,rfl,rfl,rfl,rfl,rfl,rfl,rfl,rfl,rfl,rfl,trivial⟩,⟨hMj,hBj⟩,⟨n1,?_⟩,n2,hWj⟩
          unfold Ia
          rw [hx]
          exact hSj
        ·rintro _ G6 wj ⟨⟨hMj,hBj⟩,⟨n1,hSj⟩,n2,hWj⟩
         conv=>whnf
         (repeat' ((first|refine Af rfl rfl rfl rfl rfl rfl (by omega) (by omega) (Ab Aa ?_)|fail)<;>conv=>whnf))
         refine ⟨i+1,⟨rfl,rfl,rfl,rfl,rfl,rfl,rfl,rfl,congrArg Value.bool hloN.symm,rfl,rfl,rfl,rfl,rfl,rfl,trivial⟩,⟨by omega,⟨hMj,hBj⟩,⟨n1,?_⟩,n2,?_⟩,by omega⟩
         ·rw [Bl _ _ hil,<- hS,<- hv]
          exact hSj
         ·rw [Bl _ _ hil,<- hW,<- hv]
          exact hWj
      ·have hWi:ISet wi bw (G1 bases vars W v) n2:=by
        unfold G1
        rw [if_neg hvv]
        exact hWi
       obtain ⟨x,ad2,B2,cc2,⟨hx⟩,hAi,hrw5,_,⟨hRx⟩⟩:=Iq hA v (by omega)
       subst hAi
       have hrw:=Bn hMi.below hrw5
       have hxm:=hRx.1
       have hbi:=Ac hMi.below hbx
       have hyN:∀ y∈x,0<=y/\y<(N:Int):=fun y hy=>by rw [hN];exact hG.ri v (by omega) y (by rw [hx];exact hy)
       have hyk:∀ y∈x,of y.toNat<=k:=fun y hy=>(hdown v hvl).2 y (by rw [hx];exact hy)
       conv=>whnf
       (repeat' ((first|refine Aj Aa hbi rfl rfl rfl rfl rfl rfl rfl (Ab Aa ?_)|refine Az Aa rfl rfl rfl rfl rfl rfl hcv (Ab Aa ?_)|refine Az Aa rfl rfl rfl rfl rfl rfl hrw (Ab Aa ?_)|refine Al Aa 27 1 rfl rfl rfl rfl rfl rfl rfl (by omega) (Ab Aa ?_)|refine Al Aa 3 1 rfl rfl rfl rfl rfl rfl rfl (by omega) (Ab Aa ?_)|refine Ag (by first|assumption|omega) ?_|refine Ah (by first|assumption|omega) ?_|fail)<;>conv=>whnf))
       refine C8 6 (fun _ _=>False) (X:=Unit) (fun _=>[(1,.pointer (some ⟨g1,0,none⟩)),(4,.slice (some ⟨go,0,none⟩) N N),(5,.slice (some ⟨gl,0,none⟩) K K),(7,.map (some bo)),(8,Dl gn),(9,.int .i64 (k:Int)),(11,.map (some bs)),(12,.map (some bw)),(13,.bool (If lo true v)),(15,.int .i64 (v:Int)),(33,.slice (some ad0) K ck),(34,.int .i64 (K:Int)),(35,.int .i64 (k:Int)),(42,.slice (some adl) l.length cl),(43,.int .i64 (l.length:Int)),(44,.int .i64 (i:Int))]) (fun _ wj=>(LM w5 gl gn bo K s.lab s.nx s.ob (2*k) wj/\Below wr.heap.size wr wj)/\(∃ n1,ISet wj bs (Ia into of s.lab k S v) n1)/\∃ n2,ISet wj bw (G1 bases vars W v) n2) ?_ (fun _ _ h=>h.elim) ?_
       ·refine Am Aa (X:=Nat) (fun j=>[(1,.pointer (some ⟨g1,0,none⟩)),(4,.slice (some ⟨go,0,none⟩) N N),(5,.slice (some ⟨gl,0,none⟩) K K),(7,.map (some bo)),(8,Dl gn),(9,.int .i64 (k:Int)),(11,.map (some bs)),(12,.map (some bw)),(13,.bool (If lo true v)),(15,.int .i64 (v:Int)),(33,.slice (some ad0) K ck),(34,.int .i64 (K:Int)),(35,.int .i64 (k:Int)),(42,.slice (some adl) l.length cl),(43,.int .i64 (l.length:Int)),(44,.int .i64 (i:Int)),(77,.slice B2 x.length cc2),(78,.int .i64 (x.length:Int)),(79,.int .i64 (j:Int))]) (fun j wj=>j<=x.length/\(LM w5 gl gn bo K s.lab s.nx s.ob (2*k) wj/\Below wr.heap.size wr wj)/\Hc s.nx ((x.take j).foldl (Ay of s.lab k) S)/\(∃ n1,ISet wj bs ((x.take j).foldl (Ay of s.lab k) S) n1)/\∃ n2,ISet wj bw (G1 bases vars W v) n2) (fun j=>x.length - j) 0 ⟨rfl,rfl,rfl,rfl,rfl,rfl,rfl,rfl,rfl,rfl,rfl,rfl,rfl,rfl,rfl,rfl,rfl,rfl,rfl,trivial⟩ ⟨by omega,⟨hMi,hBi⟩,hSP,⟨n1,hSi⟩,n2,hWi⟩ ?_
        clear hMi hSi hWi hBi hrw
        rintro j G6 wj ⟨hj,⟨hMj,hBj⟩,hPj,⟨n1,hSj⟩,n2,hWj⟩
        by_cases hjx:j<x.length
        ·obtain ⟨y,ad3,⟨hy⟩,e3,hyc,_,_⟩:=Dy (hRx.up (Bj _) hMj.below) j hjx
         subst e3
         have hym:y∈x:=by rw [<- hy,getElem!_pos x j hjx];exact List.getElem_mem hjx
         have hyn:=hyN y hym
         obtain ⟨u,hu⟩:=Int.eq_ofNat_of_zero_le hyn.1
         subst hu
         have huk:=hyk _ hym
         rw [Int.toNat_natCast] at huk
         have hcu:=rd wj hMj.below u (by omega)
         have hcl:=hMj.labC (k:=of u) (by omega)
         have hfn:(x.take (j+1)).foldl (Ay of s.lab k) S=Ay of s.lab k ((x.take j).foldl (Ay of s.lab k) S) (u:Int):=by rw [Bl _ _ hjx,hy]
         have hPn:Hc s.nx ((x.take (j+1)).foldl (Ay of s.lab k) S):=by
          rw [hfn]
          exact Ji hLO.lab (by rw [Int.toNat_natCast];exact huk) hPj
         have hbsl:((x.take j).foldl (Ay of s.lab k) S).length<=s.nx:=Fx hPj.1 hPj.2
         by_cases h1:of u=k
         ·have hsx:Ay of s.lab k ((x.take j).foldl (Ay of s.lab k) S) (u:Int)=(x.take j).foldl (Ay of s.lab k) S:=if_neg fun h=>h.1 (by rw [Int.toNat_natCast];exact h1)
          conv=>whnf
          (repeat' ((first|refine Az Aa rfl rfl rfl rfl rfl rfl hyc (Ab Aa ?_)|refine Az Aa rfl rfl rfl rfl rfl rfl hcu (Ab Aa ?_)|refine Al Aa 3 1 rfl rfl rfl rfl rfl rfl rfl (by omega) (Ab Aa ?_)|refine Af rfl rfl rfl rfl rfl rfl (by omega) (by omega) (Ab Aa ?_)|refine Ag (by first|assumption|omega) ?_|refine Ah (by first|assumption|omega) ?_|fail)<;>conv=>whnf))
          exact ⟨j+1,⟨rfl,rfl,rfl,rfl,rfl,rfl,rfl,rfl,rfl,rfl,rfl,rfl,rfl,rfl,rfl,rfl,rfl,rfl,rfl,trivial⟩,⟨hjx,⟨hMj,hBj⟩,hPn,⟨n1,by rw [hfn,hsx];exact hSj⟩,n2,hWj⟩,by omega⟩
         by_cases h2:s.lab (of u)=-1
         ·have hsx:Ay of s.lab k ((x.take j).foldl (Ay of s.lab k) S) (u:Int)=(x.take j).foldl (Ay of s.lab k) S:=if_neg fun h=>h.2 (by rw [Int.toNat_natCast];exact h2)
          conv=>whnf
          (repeat' ((first|refine Az Aa rfl rfl rfl rfl rfl rfl hyc (Ab Aa ?_)|refine Az Aa rfl rfl rfl rfl rfl rfl hcu (Ab Aa ?_)|refine Az Aa rfl rfl rfl rfl rfl rfl hcl (Ab Aa ?_)|refine Al Aa 3 1 rfl rfl rfl rfl rfl rfl rfl (by omega) (Ab Aa ?_)|refine Af rfl rfl rfl rfl rfl rfl (by omega) (by omega) (Ab Aa ?_)|refine Ag (by first|assumption|omega) ?_|refine Ah (by first|assumption|omega) ?_|fail)<;>conv=>whnf))
          exact ⟨j+1,⟨rfl,rfl,rfl,rfl,rfl,rfl,rfl,rfl,rfl,rfl,rfl,rfl,rfl,rfl,rfl,rfl,rfl,rfl,rfl,trivial⟩,⟨hjx,⟨hMj,hBj⟩,hPn,⟨n1,by rw [hfn,hsx];exact hSj⟩,n2,hWj⟩,by omega⟩
         ·have hsx:Ay of s.lab k ((x.take j).foldl (Ay of s.lab k) S) (u:Int)=addI ((x.take j).foldl (Ay of s.lab k) S) (s.lab (of u)):=by
           unfold Ay
           rw [Int.toNat_natCast,if_pos ⟨h1,h2⟩]
          have hlb:=hLO.lab (of u) (by omega)
          conv=>whnf
          (repeat' ((first|refine Az Aa rfl rfl rfl rfl rfl rfl hyc (Ab Aa ?_)|refine Az Aa rfl rfl rfl rfl rfl rfl hcu (Ab Aa ?_)|refine Az Aa rfl rfl rfl rfl rfl rfl hcl (Ab Aa ?_)|refine Al Aa 3 1 rfl rfl rfl rfl rfl rfl rfl (by omega) (Ab Aa ?_)|(refine Ag (by first|assumption|omega) ?_)|fail)<;>conv=>whnf))
          refine J7 (hSj.tight.put Fc (x:=s.lab (of u)) (by unfold maxLen;omega) ⟨by omega,by omega⟩) rfl rfl rfl rfl rfl rfl ?_
          rintro w2 ⟨hS2,hg2⟩
          refine Ab Aa ?_
          conv=>whnf
          (repeat' ((first|refine Af rfl rfl rfl rfl rfl rfl (by omega) (by omega) (Ab Aa ?_)|fail)<;>conv=>whnf))
          exact ⟨j+1,⟨rfl,rfl,rfl,rfl,rfl,rfl,rfl,rfl,rfl,rfl,rfl,rfl,rfl,rfl,rfl,rfl,rfl,rfl,rfl,trivial⟩,⟨hjx,⟨hMj.kept hSj hg2 hsz.1 hsz.2.1,hBj.grown hg2 hBj.size (fun b hb=>by injection hb with hb;omega)⟩,hPn,⟨_,by rw [hfn,hsx];exact hS2⟩,n2,hWj.kept hg2 (fun e=>by injection e with e;omega)⟩,by omega⟩
        ·conv=>whnf
         (repeat' ((first|(refine Ah (by first|assumption|omega) ?_)|fail)<;>conv=>whnf))
         have hjl:j=x.length:=by omega
         rw [hjl,List.take_length] at hSj
         refine ⟨rfl,(),⟨rfl,rfl,rfl,rfl,rfl,rfl,rfl,rfl,rfl,rfl,rfl,rfl,rfl,rfl,rfl,rfl,trivial⟩,⟨hMj,hBj⟩,⟨n1,?_⟩,n2,hWj⟩
         unfold Ia
         rw [hx]
         exact hSj
       ·rintro _ G6 wj ⟨⟨hMj,hBj⟩,⟨n1,hSj⟩,n2,hWj⟩
        conv=>whnf
        (repeat' ((first|refine Af rfl rfl rfl rfl rfl rfl (by omega) (by omega) (Ab Aa ?_)|fail)<;>conv=>whnf))
        refine ⟨i+1,⟨rfl,rfl,rfl,rfl,rfl,rfl,rfl,rfl,congrArg Value.bool hloN.symm,rfl,rfl,rfl,rfl,rfl,rfl,trivial⟩,⟨by omega,⟨hMj,hBj⟩,⟨n1,?_⟩,n2,?_⟩,by omega⟩
        ·rw [Bl _ _ hil,<- hS,<- hv]
         exact hSj
        ·rw [Bl _ _ hil,<- hW,<- hv]
         exact hWj
     |false=>
      by_cases hvv:v<vars
      ·obtain ⟨xb,adb,Bb,cbb,⟨hxb⟩,hBe,hrb5,_,⟨hRb⟩⟩:=Iq hB v (by omega)
       subst hBe
       have hrb:=Bn hMi.below hrb5
       have hbi:=Ac hMi.below hbx
       have hbm:=hRb.1
       have hbN:∀ y∈xb,0<=y/\y<16384:=fun y hy=>hG.rb v (by omega) y (by rw [hxb];exact hy)
       conv=>whnf
       (repeat' ((first|refine Aj Aa hbi rfl rfl rfl rfl rfl rfl rfl (Ab Aa ?_)|refine Az Aa rfl rfl rfl rfl rfl rfl hcv (Ab Aa ?_)|refine Az Aa rfl rfl rfl rfl rfl rfl hcC1 (Ab Aa ?_)|refine Az Aa rfl rfl rfl rfl rfl rfl hrb (Ab Aa ?_)|refine Al Aa 27 1 rfl rfl rfl rfl rfl rfl rfl (by omega) (Ab Aa ?_)|refine Al Aa 3 1 rfl rfl rfl rfl rfl rfl rfl (by omega) (Ab Aa ?_)|refine Al Aa 4 1 rfl rfl rfl rfl rfl rfl rfl (by omega) (Ab Aa ?_)|(refine Ag (by first|assumption|omega) ?_)|fail)<;>conv=>whnf))
       refine C8 4 (fun _ _=>False) (X:=Unit) (fun _=>[(1,.pointer (some ⟨g1,0,none⟩)),(4,.slice (some ⟨go,0,none⟩) N N),(5,.slice (some ⟨gl,0,none⟩) K K),(7,.map (some bo)),(8,Dl gn),(9,.int .i64 (k:Int)),(11,.map (some bs)),(12,.map (some bw)),(13,.bool (If lo false v)),(15,.int .i64 (v:Int)),(33,.slice (some ad0) K ck),(34,.int .i64 (K:Int)),(35,.int .i64 (k:Int)),(42,.slice (some adl) l.length cl),(43,.int .i64 (l.length:Int)),(44,.int .i64 (i:Int))]) (fun _ wj=>(LM w5 gl gn bo K s.lab s.nx s.ob (2*k) wj/\Below wr.heap.size wr wj)/\(∃ n1,ISet wj bs S n1)/\∃ n2,ISet wj bw (G1 bases vars W v) n2) ?_ (fun _ _ h=>h.elim) ?_
       ·refine Am Aa (X:=Nat) (fun j=>[(1,.pointer (some ⟨g1,0,none⟩)),(4,.slice (some ⟨go,0,none⟩) N N),(5,.slice (some ⟨gl,0,none⟩) K K),(7,.map (some bo)),(8,Dl gn),(9,.int .i64 (k:Int)),(11,.map (some bs)),(12,.map (some bw)),(13,.bool (If lo false v)),(15,.int .i64 (v:Int)),(33,.slice (some ad0) K ck),(34,.int .i64 (K:Int)),(35,.int .i64 (k:Int)),(42,.slice (some adl) l.length cl),(43,.int .i64 (l.length:Int)),(44,.int .i64 (i:Int)),(64,.slice Bb xb.length cbb),(65,.int .i64 (xb.length:Int)),(66,.int .i64 (j:Int))]) (fun j wj=>j<=xb.length/\(LM w5 gl gn bo K s.lab s.nx s.ob (2*k) wj/\Below wr.heap.size wr wj)/\Sq ((xb.take j).foldl addI W)/\(∃ n1,ISet wj bs S n1)/\∃ n2,ISet wj bw ((xb.take j).foldl addI W) n2) (fun j=>xb.length - j) 0 ⟨rfl,rfl,rfl,rfl,rfl,rfl,rfl,rfl,rfl,rfl,rfl,rfl,rfl,rfl,rfl,rfl,rfl,rfl,rfl,trivial⟩ ⟨by omega,⟨hMi,hBi⟩,hWP,⟨n1,hSi⟩,n2,hWi⟩ ?_
        clear hMi hSi hWi hBi hrb
        rintro j G6 wj ⟨hj,⟨hMj,hBj⟩,hPj,⟨n1,hSj⟩,n2,hWj⟩
        by_cases hjx:j<xb.length
        ·obtain ⟨y,ad3,⟨hy⟩,e3,hyc,_,_⟩:=Dy (hRb.up (Bj _) hMj.below) j hjx
         subst e3
         have hym:y∈xb:=by rw [<- hy,getElem!_pos xb j hjx];exact List.getElem_mem hjx
         have hyn:=hbN y hym
         have hfn:(xb.take (j+1)).foldl addI W=addI ((xb.take j).foldl addI W) y:=by rw [Bl _ _ hjx,hy]
         have hPn:Sq ((xb.take (j+1)).foldl addI W):=by
          rw [hfn]
          exact ⟨Ie hPj.1 _,L4 hPj.2 hyn⟩
         have hbwl:((xb.take j).foldl addI W).length<=16384:=Fx hPj.1 hPj.2
         conv=>whnf
         (repeat' ((first|refine Az Aa rfl rfl rfl rfl rfl rfl hyc (Ab Aa ?_)|refine Al Aa 3 1 rfl rfl rfl rfl rfl rfl rfl (by omega) (Ab Aa ?_)|(refine Ag (by first|assumption|omega) ?_)|fail)<;>conv=>whnf))
         refine J7 (hWj.tight.put Fc (x:=y) (by unfold maxLen;omega) ⟨by omega,by omega⟩) rfl rfl rfl rfl rfl rfl ?_
         rintro w2 ⟨hW2,hg2⟩
         refine Ab Aa ?_
         conv=>whnf
         (repeat' ((first|refine Af rfl rfl rfl rfl rfl rfl (by omega) (by omega) (Ab Aa ?_)|fail)<;>conv=>whnf))
         exact ⟨j+1,⟨rfl,rfl,rfl,rfl,rfl,rfl,rfl,rfl,rfl,rfl,rfl,rfl,rfl,rfl,rfl,rfl,rfl,rfl,rfl,trivial⟩,⟨hjx,⟨hMj.kept hWj hg2 (by omega) hsz.2.2.1,hBj.grown hg2 hBj.size (fun b hb=>by injection hb with hb;omega)⟩,hPn,⟨n1,hSj.kept hg2 (fun e=>by injection e with e;omega)⟩,_,by rw [hfn];exact hW2⟩,by omega⟩
        ·conv=>whnf
         (repeat' ((first|(refine Ah (by first|assumption|omega) ?_)|fail)<;>conv=>whnf))
         have hjl:j=xb.length:=by omega
         rw [hjl,List.take_length] at hWj
         refine ⟨rfl,(),⟨rfl,rfl,rfl,rfl,rfl,rfl,rfl,rfl,rfl,rfl,rfl,rfl,rfl,rfl,rfl,rfl,trivial⟩,⟨hMj,hBj⟩,⟨n1,hSj⟩,n2,?_⟩
         unfold G1
         rw [if_pos hvv,hxb]
         exact hWj
       ·rintro _ G7 wi ⟨⟨hMi,hBi⟩,⟨n1,hSi⟩,n2,hWi⟩
        obtain ⟨x,ad2,B2,cc2,⟨hx⟩,hAi,hrw5,_,⟨hRx⟩⟩:=Iq hA v (by omega)
        subst hAi
        have hrw:=Bn hMi.below hrw5
        have hxm:=hRx.1
        have hbi:=Ac hMi.below hbx
        have hyN:∀ y∈x,0<=y/\y<(N:Int):=fun y hy=>by rw [hN];exact hG.ri v (by omega) y (by rw [hx];exact hy)
        have hyk:∀ y∈x,of y.toNat<=k:=fun y hy=>(hdown v hvl).2 y (by rw [hx];exact hy)
        conv=>whnf
        (repeat' ((first|refine Aj Aa hbi rfl rfl rfl rfl rfl rfl rfl (Ab Aa ?_)|refine Az Aa rfl rfl rfl rfl rfl rfl hrw (Ab Aa ?_)|refine Al Aa 27 1 rfl rfl rfl rfl rfl rfl rfl (by omega) (Ab Aa ?_)|fail)<;>conv=>whnf))
        refine C8 6 (fun _ _=>False) (X:=Unit) (fun _=>[(1,.pointer (some ⟨g1,0,none⟩)),(4,.slice (some ⟨go,0,none⟩) N N),(5,.slice (some ⟨gl,0,none⟩) K K),(7,.map (some bo)),(8,Dl gn),(9,.int .i64 (k:Int)),(11,.map (some bs)),(12,.map (some bw)),(13,.bool (If lo false v)),(15,.int .i64 (v:Int)),(33,.slice (some ad0) K ck),(34,.int .i64 (K:Int)),(35,.int .i64 (k:Int)),(42,.slice (some adl) l.length cl),(43,.int .i64 (l.length:Int)),(44,.int .i64 (i:Int))]) (fun _ wj=>(LM w5 gl gn bo K s.lab s.nx s.ob (2*k) wj/\Below wr.heap.size wr wj)/\(∃ n1,ISet wj bs (Ia into of s.lab k S v) n1)/\∃ n2,ISet wj bw (G1 bases vars W v) n2) ?_ (fun _ _ h=>h.elim) ?_
        ·refine Am Aa (X:=Nat) (fun j=>[(1,.pointer (some ⟨g1,0,none⟩)),(4,.slice (some ⟨go,0,none⟩) N N),(5,.slice (some ⟨gl,0,none⟩) K K),(7,.map (some bo)),(8,Dl gn),(9,.int .i64 (k:Int)),(11,.map (some bs)),(12,.map (some bw)),(13,.bool (If lo false v)),(15,.int .i64 (v:Int)),(33,.slice (some ad0) K ck),(34,.int .i64 (K:Int)),(35,.int .i64 (k:Int)),(42,.slice (some adl) l.length cl),(43,.int .i64 (l.length:Int)),(44,.int .i64 (i:Int)),(77,.slice B2 x.length cc2),(78,.int .i64 (x.length:Int)),(79,.int .i64 (j:Int))]) (fun j wj=>j<=x.length/\(LM w5 gl gn bo K s.lab s.nx s.ob (2*k) wj/\Below wr.heap.size wr wj)/\Hc s.nx ((x.take j).foldl (Ay of s.lab k) S)/\(∃ n1,ISet wj bs ((x.take j).foldl (Ay of s.lab k) S) n1)/\∃ n2,ISet wj bw (G1 bases vars W v) n2) (fun j=>x.length - j) 0 ⟨rfl,rfl,rfl,rfl,rfl,rfl,rfl,rfl,rfl,rfl,rfl,rfl,rfl,rfl,rfl,rfl,rfl,rfl,rfl,trivial⟩ ⟨by omega,⟨hMi,hBi⟩,hSP,⟨n1,hSi⟩,n2,hWi⟩ ?_
         clear hMi hSi hWi hBi hrw
         rintro j G6 wj ⟨hj,⟨hMj,hBj⟩,hPj,⟨n1,hSj⟩,n2,hWj⟩
         by_cases hjx:j<x.length
         ·obtain ⟨y,ad3,⟨hy⟩,e3,hyc,_,_⟩:=Dy (hRx.up (Bj _) hMj.below) j hjx
          subst e3
          have hym:y∈x:=by rw [<- hy,getElem!_pos x j hjx];exact List.getElem_mem hjx
          have hyn:=hyN y hym
          obtain ⟨u,hu⟩:=Int.eq_ofNat_of_zero_le hyn.1
          subst hu
          have huk:=hyk _ hym
          rw [Int.toNat_natCast] at huk
          have hcu:=rd wj hMj.below u (by omega)
          have hcl:=hMj.labC (k:=of u) (by omega)
          have hfn:(x.take (j+1)).foldl (Ay of s.lab k) S=Ay of s.lab k ((x.take j).foldl (Ay of s.lab k) S) (u:Int):=by rw [Bl _ _ hjx,hy]
          have hPn:Hc s.nx ((x.take (j+1)).foldl (Ay of s.lab k) S):=by
           rw [hfn]
           exact Ji hLO.lab (by rw [Int.toNat_natCast];exact huk) hPj
          have hbsl:((x.take j).foldl (Ay of s.lab k) S).length<=s.nx:=Fx hPj.1 hPj.2
          by_cases h1:of u=k
          ·have hsx:Ay of s.lab k ((x.take j).foldl (Ay of s.lab k) S) (u:Int)=(x.take j).foldl (Ay of s.lab k) S:=if_neg fun h=>h.1 (by rw [Int.toNat_natCast];exact h1)
           conv=>whnf
           (repeat' ((first|refine Az Aa rfl rfl rfl rfl rfl rfl hyc (Ab Aa ?_)|refine Az Aa rfl rfl rfl rfl rfl rfl hcu (Ab Aa ?_)|refine Al Aa 3 1 rfl rfl rfl rfl rfl rfl rfl (by omega) (Ab Aa ?_)|refine Af rfl rfl rfl rfl rfl rfl (by omega) (by omega) (Ab Aa ?_)|refine Ag (by first|assumption|omega) ?_|refine Ah (by first|assumption|omega) ?_|fail)<;>conv=>whnf))
           exact ⟨j+1,⟨rfl,rfl,rfl,rfl,rfl,rfl,rfl,rfl,rfl,rfl,rfl,rfl,rfl,rfl,rfl,rfl,rfl,rfl,rfl,trivial⟩,⟨hjx,⟨hMj,hBj⟩,hPn,⟨n1,by rw [hfn,hsx];exact hSj⟩,n2,hWj⟩,by omega⟩
          by_cases h2:s.lab (of u)=-1
          ·have hsx:Ay of s.lab k ((x.take j).foldl (Ay of s.lab k) S) (u:Int)=(x.take j).foldl (Ay of s.lab k) S:=if_neg fun h=>h.2 (by rw [Int.toNat_natCast];exact h2)
           conv=>whnf
           (repeat' ((first|refine Az Aa rfl rfl rfl rfl rfl rfl hyc (Ab Aa ?_)|refine Az Aa rfl rfl rfl rfl rfl rfl hcu (Ab Aa ?_)|refine Az Aa rfl rfl rfl rfl rfl rfl hcl (Ab Aa ?_)|refine Al Aa 3 1 rfl rfl rfl rfl rfl rfl rfl (by omega) (Ab Aa ?_)|refine Af rfl rfl rfl rfl rfl rfl (by omega) (by omega) (Ab Aa ?_)|refine Ag (by first|assumption|omega) ?_|refine Ah (by first|assumption|omega) ?_|fail)<;>conv=>whnf))
           exact ⟨j+1,⟨rfl,rfl,rfl,rfl,rfl,rfl,rfl,rfl,rfl,rfl,rfl,rfl,rfl,rfl,rfl,rfl,rfl,rfl,rfl,trivial⟩,⟨hjx,⟨hMj,hBj⟩,hPn,⟨n1,by rw [hfn,hsx];exact hSj⟩,n2,hWj⟩,by omega⟩
          ·have hsx:Ay of s.lab k ((x.take j).foldl (Ay of s.lab k) S) (u:Int)=addI ((x.take j).foldl (Ay of s.lab k) S) (s.lab (of u)):=by
            unfold Ay
            rw [Int.toNat_natCast,if_pos ⟨h1,h2⟩]
           have hlb:=hLO.lab (of u) (by omega)
           conv=>whnf
           (repeat' ((first|refine Az Aa rfl rfl rfl rfl rfl rfl hyc (Ab Aa ?_)|refine Az Aa rfl rfl rfl rfl rfl rfl hcu (Ab Aa ?_)|refine Az Aa rfl rfl rfl rfl rfl rfl hcl (Ab Aa ?_)|refine Al Aa 3 1 rfl rfl rfl rfl rfl rfl rfl (by omega) (Ab Aa ?_)|(refine Ag (by first|assumption|omega) ?_)|fail)<;>conv=>whnf))
           refine J7 (hSj.tight.put Fc (x:=s.lab (of u)) (by unfold maxLen;omega) ⟨by omega,by omega⟩) rfl rfl rfl rfl rfl rfl ?_
           rintro w2 ⟨hS2,hg2⟩
           refine Ab Aa ?_
           conv=>whnf
           (repeat' ((first|refine Af rfl rfl rfl rfl rfl rfl (by omega) (by omega) (Ab Aa ?_)|fail)<;>conv=>whnf))
           exact ⟨j+1,⟨rfl,rfl,rfl,rfl,rfl,rfl,rfl,rfl,rfl,rfl,rfl,rfl,rfl,rfl,rfl,rfl,rfl,rfl,rfl,trivial⟩,⟨hjx,⟨hMj.kept hSj hg2 hsz.1 hsz.2.1,hBj.grown hg2 hBj.size (fun b hb=>by injection hb with hb;omega)⟩,hPn,⟨_,by rw [hfn,hsx];exact hS2⟩,n2,hWj.kept hg2 (fun e=>by injection e with e;omega)⟩,by omega⟩
         ·conv=>whnf
          (repeat' ((first|(refine Ah (by first|assumption|omega) ?_)|fail)<;>conv=>whnf))
          have hjl:j=x.length:=by omega
          rw [hjl,List.take_length] at hSj
          refine ⟨rfl,(),⟨rfl,rfl,rfl,rfl,rfl,rfl,rfl,rfl,rfl,rfl,rfl,rfl,rfl,rfl,rfl,rfl,trivial⟩,⟨hMj,hBj⟩,⟨n1,?_⟩,n2,hWj⟩
          unfold Ia
          rw [hx]
          exact hSj
        ·rintro _ G6 wj ⟨⟨hMj,hBj⟩,⟨n1,hSj⟩,n2,hWj⟩
         conv=>whnf
         (repeat' ((first|refine Af rfl rfl rfl rfl rfl rfl (by omega) (by omega) (Ab Aa ?_)|fail)<;>conv=>whnf))
         refine ⟨i+1,⟨rfl,rfl,rfl,rfl,rfl,rfl,rfl,rfl,congrArg Value.bool hloN.symm,rfl,rfl,rfl,rfl,rfl,rfl,trivial⟩,⟨by omega,⟨hMj,hBj⟩,⟨n1,?_⟩,n2,?_⟩,by omega⟩
         ·rw [Bl _ _ hil,<- hS,<- hv]
          exact hSj
         ·rw [Bl _ _ hil,<- hW,<- hv]
          exact hWj
      ·have hWi:ISet wi bw (G1 bases vars W v) n2:=by
        unfold G1
        rw [if_neg hvv]
        exact hWi
       obtain ⟨x,ad2,B2,cc2,⟨hx⟩,hAi,hrw5,_,⟨hRx⟩⟩:=Iq hA v (by omega)
       subst hAi
       have hrw:=Bn hMi.below hrw5
       have hxm:=hRx.1
       have hbi:=Ac hMi.below hbx
       have hyN:∀ y∈x,0<=y/\y<(N:Int):=fun y hy=>by rw [hN];exact hG.ri v (by omega) y (by rw [hx];exact hy)
       have hyk:∀ y∈x,of y.toNat<=k:=fun y hy=>(hdown v hvl).2 y (by rw [hx];exact hy)
       conv=>whnf
       (repeat' ((first|refine Aj Aa hbi rfl rfl rfl rfl rfl rfl rfl (Ab Aa ?_)|refine Az Aa rfl rfl rfl rfl rfl rfl hcv (Ab Aa ?_)|refine Az Aa rfl rfl rfl rfl rfl rfl hcC1 (Ab Aa ?_)|refine Az Aa rfl rfl rfl rfl rfl rfl hrw (Ab Aa ?_)|refine Al Aa 27 1 rfl rfl rfl rfl rfl rfl rfl (by omega) (Ab Aa ?_)|refine Al Aa 3 1 rfl rfl rfl rfl rfl rfl rfl (by omega) (Ab Aa ?_)|refine Al Aa 4 1 rfl rfl rfl rfl rfl rfl rfl (by omega) (Ab Aa ?_)|refine Ag (by first|assumption|omega) ?_|refine Ah (by first|assumption|omega) ?_|fail)<;>conv=>whnf))
       refine C8 6 (fun _ _=>False) (X:=Unit) (fun _=>[(1,.pointer (some ⟨g1,0,none⟩)),(4,.slice (some ⟨go,0,none⟩) N N),(5,.slice (some ⟨gl,0,none⟩) K K),(7,.map (some bo)),(8,Dl gn),(9,.int .i64 (k:Int)),(11,.map (some bs)),(12,.map (some bw)),(13,.bool (If lo false v)),(15,.int .i64 (v:Int)),(33,.slice (some ad0) K ck),(34,.int .i64 (K:Int)),(35,.int .i64 (k:Int)),(42,.slice (some adl) l.length cl),(43,.int .i64 (l.length:Int)),(44,.int .i64 (i:Int))]) (fun _ wj=>(LM w5 gl gn bo K s.lab s.nx s.ob (2*k) wj/\Below wr.heap.size wr wj)/\(∃ n1,ISet wj bs (Ia into of s.lab k S v) n1)/\∃ n2,ISet wj bw (G1 bases vars W v) n2) ?_ (fun _ _ h=>h.elim) ?_
       ·refine Am Aa (X:=Nat) (fun j=>[(1,.pointer (some ⟨g1,0,none⟩)),(4,.slice (some ⟨go,0,none⟩) N N),(5,.slice (some ⟨gl,0,none⟩) K K),(7,.map (some bo)),(8,Dl gn),(9,.int .i64 (k:Int)),(11,.map (some bs)),(12,.map (some bw)),(13,.bool (If lo false v)),(15,.int .i64 (v:Int)),(33,.slice (some ad0) K ck),(34,.int .i64 (K:Int)),(35,.int .i64 (k:Int)),(42,.slice (some adl) l.length cl),(43,.int .i64 (l.length:Int)),(44,.int .i64 (i:Int)),(77,.slice B2 x.length cc2),(78,.int .i64 (x.length:Int)),(79,.int .i64 (j:Int))]) (fun j wj=>j<=x.length/\(LM w5 gl gn bo K s.lab s.nx s.ob (2*k) wj/\Below wr.heap.size wr wj)/\Hc s.nx ((x.take j).foldl (Ay of s.lab k) S)/\(∃ n1,ISet wj bs ((x.take j).foldl (Ay of s.lab k) S) n1)/\∃ n2,ISet wj bw (G1 bases vars W v) n2) (fun j=>x.length - j) 0 ⟨rfl,rfl,rfl,rfl,rfl,rfl,rfl,rfl,rfl,rfl,rfl,rfl,rfl,rfl,rfl,rfl,rfl,rfl,rfl,trivial⟩ ⟨by omega,⟨hMi,hBi⟩,hSP,⟨n1,hSi⟩,n2,hWi⟩ ?_
        clear hMi hSi hWi hBi hrw
        rintro j G6 wj ⟨hj,⟨hMj,hBj⟩,hPj,⟨n1,hSj⟩,n2,hWj⟩
        by_cases hjx:j<x.length
        ·obtain ⟨y,ad3,⟨hy⟩,e3,hyc,_,_⟩:=Dy (hRx.up (Bj _) hMj.below) j hjx
         subst e3
         have hym:y∈x:=by rw [<- hy,getElem!_pos x j hjx];exact List.getElem_mem hjx
         have hyn:=hyN y hym
         obtain ⟨u,hu⟩:=Int.eq_ofNat_of_zero_le hyn.1
         subst hu
         have huk:=hyk _ hym
         rw [Int.toNat_natCast] at huk
         have hcu:=rd wj hMj.below u (by omega)
         have hcl:=hMj.labC (k:=of u) (by omega)
         have hfn:(x.take (j+1)).foldl (Ay of s.lab k) S=Ay of s.lab k ((x.take j).foldl (Ay of s.lab k) S) (u:Int):=by rw [Bl _ _ hjx,hy]
         have hPn:Hc s.nx ((x.take (j+1)).foldl (Ay of s.lab k) S):=by
          rw [hfn]
          exact Ji hLO.lab (by rw [Int.toNat_natCast];exact huk) hPj
         have hbsl:((x.take j).foldl (Ay of s.lab k) S).length<=s.nx:=Fx hPj.1 hPj.2
         by_cases h1:of u=k
         ·have hsx:Ay of s.lab k ((x.take j).foldl (Ay of s.lab k) S) (u:Int)=(x.take j).foldl (Ay of s.lab k) S:=if_neg fun h=>h.1 (by rw [Int.toNat_natCast];exact h1)
          conv=>whnf
          (repeat' ((first|refine Az Aa rfl rfl rfl rfl rfl rfl hyc (Ab Aa ?_)|refine Az Aa rfl rfl rfl rfl rfl rfl hcu (Ab Aa ?_)|refine Al Aa 3 1 rfl rfl rfl rfl rfl rfl rfl (by omega) (Ab Aa ?_)|refine Af rfl rfl rfl rfl rfl rfl (by omega) (by omega) (Ab Aa ?_)|refine Ag (by first|assumption|omega) ?_|refine Ah (by first|assumption|omega) ?_|fail)<;>conv=>whnf))
          exact ⟨j+1,⟨rfl,rfl,rfl,rfl,rfl,rfl,rfl,rfl,rfl,rfl,rfl,rfl,rfl,rfl,rfl,rfl,rfl,rfl,rfl,trivial⟩,⟨hjx,⟨hMj,hBj⟩,hPn,⟨n1,by rw [hfn,hsx];exact hSj⟩,n2,hWj⟩,by omega⟩
         by_cases h2:s.lab (of u)=-1
         ·have hsx:Ay of s.lab k ((x.take j).foldl (Ay of s.lab k) S) (u:Int)=(x.take j).foldl (Ay of s.lab k) S:=if_neg fun h=>h.2 (by rw [Int.toNat_natCast];exact h2)
          conv=>whnf
          (repeat' ((first|refine Az Aa rfl rfl rfl rfl rfl rfl hyc (Ab Aa ?_)|refine Az Aa rfl rfl rfl rfl rfl rfl hcu (Ab Aa ?_)|refine Az Aa rfl rfl rfl rfl rfl rfl hcl (Ab Aa ?_)|refine Al Aa 3 1 rfl rfl rfl rfl rfl rfl rfl (by omega) (Ab Aa ?_)|refine Af rfl rfl rfl rfl rfl rfl (by omega) (by omega) (Ab Aa ?_)|refine Ag (by first|assumption|omega) ?_|refine Ah (by first|assumption|omega) ?_|fail)<;>conv=>whnf))
          exact ⟨j+1,⟨rfl,rfl,rfl,rfl,rfl,rfl,rfl,rfl,rfl,rfl,rfl,rfl,rfl,rfl,rfl,rfl,rfl,rfl,rfl,trivial⟩,⟨hjx,⟨hMj,hBj⟩,hPn,⟨n1,by rw [hfn,hsx];exact hSj⟩,n2,hWj⟩,by omega⟩
         ·have hsx:Ay of s.lab k ((x.take j).foldl (Ay of s.lab k) S) (u:Int)=addI ((x.take j).foldl (Ay of s.lab k) S) (s.lab (of u)):=by
           unfold Ay
           rw [Int.toNat_natCast,if_pos ⟨h1,h2⟩]
          have hlb:=hLO.lab (of u) (by omega)
          conv=>whnf
          (repeat' ((first|refine Az Aa rfl rfl rfl rfl rfl rfl hyc (Ab Aa ?_)|refine Az Aa rfl rfl rfl rfl rfl rfl hcu (Ab Aa ?_)|refine Az Aa rfl rfl rfl rfl rfl rfl hcl (Ab Aa ?_)|refine Al Aa 3 1 rfl rfl rfl rfl rfl rfl rfl (by omega) (Ab Aa ?_)|(refine Ag (by first|assumption|omega) ?_)|fail)<;>conv=>whnf))
          refine J7 (hSj.tight.put Fc (x:=s.lab (of u)) (by unfold maxLen;omega) ⟨by omega,by omega⟩) rfl rfl rfl rfl rfl rfl ?_
          rintro w2 ⟨hS2,hg2⟩
          refine Ab Aa ?_
          conv=>whnf
          (repeat' ((first|refine Af rfl rfl rfl rfl rfl rfl (by omega) (by omega) (Ab Aa ?_)|fail)<;>conv=>whnf))
          exact ⟨j+1,⟨rfl,rfl,rfl,rfl,rfl,rfl,rfl,rfl,rfl,rfl,rfl,rfl,rfl,rfl,rfl,rfl,rfl,rfl,rfl,trivial⟩,⟨hjx,⟨hMj.kept hSj hg2 hsz.1 hsz.2.1,hBj.grown hg2 hBj.size (fun b hb=>by injection hb with hb;omega)⟩,hPn,⟨_,by rw [hfn,hsx];exact hS2⟩,n2,hWj.kept hg2 (fun e=>by injection e with e;omega)⟩,by omega⟩
        ·conv=>whnf
         (repeat' ((first|(refine Ah (by first|assumption|omega) ?_)|fail)<;>conv=>whnf))
         have hjl:j=x.length:=by omega
         rw [hjl,List.take_length] at hSj
         refine ⟨rfl,(),⟨rfl,rfl,rfl,rfl,rfl,rfl,rfl,rfl,rfl,rfl,rfl,rfl,rfl,rfl,rfl,rfl,trivial⟩,⟨hMj,hBj⟩,⟨n1,?_⟩,n2,hWj⟩
         unfold Ia
         rw [hx]
         exact hSj
       ·rintro _ G6 wj ⟨⟨hMj,hBj⟩,⟨n1,hSj⟩,n2,hWj⟩
        conv=>whnf
        (repeat' ((first|refine Af rfl rfl rfl rfl rfl rfl (by omega) (by omega) (Ab Aa ?_)|fail)<;>conv=>whnf))
        refine ⟨i+1,⟨rfl,rfl,rfl,rfl,rfl,rfl,rfl,rfl,congrArg Value.bool hloN.symm,rfl,rfl,rfl,rfl,rfl,rfl,trivial⟩,⟨by omega,⟨hMj,hBj⟩,⟨n1,?_⟩,n2,?_⟩,by omega⟩
        ·rw [Bl _ _ hil,<- hS,<- hv]
         exact hSj
        ·rw [Bl _ _ hil,<- hW,<- hv]
         exact hWj
    ·conv=>whnf
     (repeat' ((first|(refine Ah (by first|assumption|omega) ?_)|fail)<;>conv=>whnf))
     have hiL:i=l.length:=by omega
     rw [hiL,List.take_length] at hSi hWi ⊢
     refine ⟨rfl,(),⟨rfl,rfl,rfl,rfl,rfl,rfl,rfl,rfl,congrArg Value.bool (by unfold Jf;rw [<- hl]),rfl,rfl,rfl,trivial⟩,⟨hMi,hBi⟩,⟨n1,?_⟩,n2,?_⟩
     ·unfold Gm
      rw [<- hl]
      exact hSi
     ·unfold J4
      rw [<- hl]
      exact hWi
   ·rintro _ G5 wj ⟨⟨hMj,hBj⟩,⟨n1,hSj⟩,n2,hWj⟩
    clear hM hMb hBrb hS0 hW0 hBa hBb hwa hwb
    have hSP:Hc s.nx (Gm into kn of s.lab k):=Oh hG hK (by omega) hLO
    have hWP:Sq (J4 vars bases kn k):=H8 _ _ ⟨.nil,by simp⟩ fun S a ha hS=>Xe (fun v hv=>hG.rb v (by omega)) hS
    have hlb:=hMj.lb
    conv=>whnf
    skip
    refine Bv Bb9 (Au3 (Jf lo kn k) hSj hWj hMj.obj hMj.cell (by omega) (by omega) (fun x hx=>by have:=hSP.2 x hx;exact ⟨by omega,by omega⟩) (fun x hx=>by have:=hWP.2 x hx;exact ⟨by omega,by omega⟩)) rfl rfl rfl rfl rfl rfl rfl ?_
    rintro _ w2 ⟨rfl,hO2⟩
    refine ⟨_,rfl,Ab Aa ?_⟩
    have hM2:=hMj.call hO2
    conv=>whnf
    (repeat' ((first|refine Al Aa 3 1 rfl rfl rfl rfl rfl rfl rfl (by omega) (Ab Aa ?_)|fail)<;>conv=>whnf))
    refine Dt (j:=k*1) (v:=.int .i64 (Dq (Gm into kn of s.lab k) (J4 vars bases kn k) (Jf lo kn k) s.ob s.nx).1) Aa hM2.lb rfl rfl rfl rfl rfl rfl (by rw [Ij];omega) rfl rfl ?_
    intro w3 hp3
    refine Ab Aa ?_
    conv=>whnf
    rw [Nat.mul_one] at hp3
    have hM3:=hM2.store hp3
    (repeat' ((first|refine Af rfl rfl rfl rfl rfl rfl (by omega) (by omega) (Ab Aa ?_)|fail)<;>conv=>whnf))
    have eN:D8 vars into bases lo kn of (k+1)=⟨Bf s.lab k (Dq (Gm into kn of s.lab k) (J4 vars bases kn k) (Jf lo kn k) s.ob s.nx).1,(Dq (Gm into kn of s.lab k) (J4 vars bases kn k) (Jf lo kn k) s.ob s.nx).2.1,(Dq (Gm into kn of s.lab k) (J4 vars bases kn k) (Jf lo kn k) s.ob s.nx).2.2⟩:=by rw [hs];rfl
    refine ⟨k+1,⟨rfl,rfl,rfl,rfl,rfl,rfl,rfl,rfl,trivial⟩,⟨hlt,?_⟩,by omega⟩
    rw [eN]
    exact hM3
  ·conv=>whnf
   (repeat' ((first|(refine Ah (by first|assumption|omega) ?_)|fail)<;>conv=>whnf))
   have hkK:k=K:=by omega
   rw [hkK] at hM
   exact ⟨rfl,(),⟨rfl,rfl,rfl,rfl,rfl,trivial⟩,hM⟩
 rintro _ G9 wq hM
 have hLO:=Ju hG hK K (by omega)
 obtain ⟨lab,hlab⟩:∃ lab,lab=(D8 vars into bases lo kn of K).lab:=⟨_,rfl⟩
 rw [<- hlab] at hM
 have hbq:=Ac hM.below hbx
 conv=>whnf
 (repeat' ((first|refine Aj Aa hbq rfl rfl rfl rfl rfl rfl rfl (Ab Aa ?_)|fail)<;>conv=>whnf))
 refine Lb (m:=vars) Aa 3 1 8 rfl rfl rfl rfl rfl rfl rfl rfl rfl (by omega) (by omega) ?_
 intro gz w2 hn2
 refine Ab Aa ?_
 conv=>whnf
 skip
 have hM2:=hM.up hn2.below
 have hz2:w2.heap[gz]?=some (.cells (fZ vars fun v=>if v<0 then lab (of v) else 0).toArray 3 (0,0)):=by
  have h6:=hn2.blk
  have e:(fun v=>if v<0 then lab (of v) else (0:Int))=fun _=>0:=by funext v;simp
  rw [e,<- Ls]
  exact h6
 have hgz:wq.heap.size<=gz:=by have:=hn2.at_;omega
 have hBz:=hn2.below
 clear hn2
 refine Am Aa (X:=Nat) (fun i=>[(4,.slice (some ⟨go,0,none⟩) N N),(5,.slice (some ⟨gl,0,none⟩) K K),(20,.slice (some ⟨gz,0,none⟩) vars vars),(123,.int .i64 (vars:Int)),(124,.int .i64 (i:Int))]) (fun i wi=>i<=vars/\Below wq.heap.size wq wi/\wi.heap[gz]?=some (.cells (fZ vars fun v=>if v<i then lab (of v) else 0).toArray 3 (0,0))) (fun i=>vars - i) 0 ⟨rfl,rfl,rfl,rfl,rfl,trivial⟩ ⟨by omega,hBz,hz2⟩ ?_
 clear hz2 hM2 hBz
 rintro i G3 wi ⟨hi,hBi,hzi⟩
 have hMi:=hM.up hBi
 by_cases hiv:i<vars
 ·have hcu:=rd wi hMi.below i (by omega)
  have hok:=(hK.at_ i (by omega)).1
  have hcl:=hMi.labC (k:=of i) (by omega)
  conv=>whnf
  (repeat' ((first|refine Az Aa rfl rfl rfl rfl rfl rfl hcu (Ab Aa ?_)|refine Az Aa rfl rfl rfl rfl rfl rfl hcl (Ab Aa ?_)|refine Al Aa 3 1 rfl rfl rfl rfl rfl rfl rfl (by omega) (Ab Aa ?_)|(refine Ag (by first|assumption|omega) ?_)|fail)<;>conv=>whnf))
  refine Dt (j:=i*1) (v:=.int .i64 (lab (of i))) Aa hzi rfl rfl rfl rfl rfl rfl (by rw [Ij];omega) rfl rfl ?_
  intro w3 hp3
  refine Ab Aa ?_
  conv=>whnf
  rw [Nat.mul_one,Io] at hp3
  have ef:Bf (fun v=>if v<i then lab (of v) else (0:Int)) i (lab (of i))=fun v=>if v<i+1 then lab (of v) else 0:=by
   funext v
   unfold Bf
   by_cases e:v=i
   ·subst e;simp
   ·rw [if_neg e]
    show (if v<i then lab (of v) else (0:Int))=_
    by_cases h1:v<i
    ·rw [if_pos h1,if_pos (by omega)]
    ·rw [if_neg h1,if_neg (by omega)]
  rw [ef] at hp3
  (repeat' ((first|refine Af rfl rfl rfl rfl rfl rfl (by omega) (by omega) (Ab Aa ?_)|fail)<;>conv=>whnf))
  exact ⟨i+1,⟨rfl,rfl,rfl,rfl,rfl,trivial⟩,⟨hiv,hp3.below hBi hgz hBi.size,hp3.blk⟩,by omega⟩
 ·have hiv2:i=vars:=by omega
  subst hiv2
  have hres:fZ i (fun v=>if v<i then lab (of v) else 0)=((List.range i).map fun v=>lab (of v)).map (Value.int .i64):=by
   unfold fZ
   rw [List.map_map]
   apply List.map_congr_left
   intro v hv
   have:=List.mem_range.1 hv
   simp [this]
  rw [hres] at hzi
  have hrow:RI wi (some ⟨gz,0,none⟩) ((List.range i).map fun v=>lab (of v)):=by
   refine Fq hzi ⟨by simp,fun q hq=>?_⟩ (by simp;omega)
   have hq':q<i:=by simpa using hq
   rw [Nat.mul_one,List.drop_eq_getElem_cons (by simpa using hq'),getElem!_pos _ q hq]
   have h5:=(hK.at_ q (by omega)).1
   have h6:=hLO.lab (of q) (by omega)
   rw [<- hlab] at h6
   have h7:=hLO.nx
   refine ⟨by simp,?_,?_⟩
   ·simp;show (-9223372036854775808:Int)<=_;omega
   ·simp;show _<=(9223372036854775807:Int);omega
  conv=>whnf
  (repeat' (first|refine Cg rfl rfl ?_|(first|(refine Ah (by first|assumption|omega) ?_)|fail)<;>conv=>whnf))
  exact ⟨kn,of,gz,hK,rfl,by rw [<- hKn,<- hlab];exact hrow,Ax (Ax hBw hM.below) hBi⟩
end Go.Proofs.YtghmdfegfehhkaaGreatDoor
