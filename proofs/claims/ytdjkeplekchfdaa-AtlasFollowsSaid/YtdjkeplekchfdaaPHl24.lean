import Derived.Test.YtdjkeplekchfdaaPf23
namespace Go.Proofs.Ytdjkeplekchfdaa
open Go.RowKit
set_option linter.unusedSimpArgs false
set_option linter.unusedVariables false
/-! A quicker check of a region's order: who has come up is kept as one number. -/
def lsm (n L:Nat):Array Bool:=((List.range n).map fun i=>L.testBit i).toArray
theorem lsm_size (n L:Nat):(lsm n L).size=n:=by simp[lsm]
theorem lsm_zero (n:Nat):Array.replicate n false=lsm n 0:=by
 apply Array.ext
 ·simp[lsm]
 ·intro i h1 h2;simp[lsm]
theorem lsm_set (n L i:Nat):(lsm n L).setIfInBounds i true=lsm n (L ||| 2 ^ i):=by
 apply Array.ext
 ·simp[lsm]
 ·intro j h1 h2
  have hj:j<n:=by simpa [lsm] using h2
  rw[Array.getElem_setIfInBounds (by rw[lsm_size];exact hj)]
  by_cases h:i=j
  ·subst h;simp[lsm,Nat.testBit_or,Nat.testBit_two_pow]
  ·simp[lsm,Nat.testBit_or,Nat.testBit_two_pow,h]
noncomputable def fastB (ops:Array Oper) (n:Nat) (σ:List (Nat×Bool)):Nat→Bool:=
 List.rec (motive:=fun _=>Nat→Bool) (fun L=>seqHB ops [] (lsm n L))
  (fun p _ ih L=>match p.2 with
   | false=>Region.free .any ops (lsm n L) p.1&&(Region.ready .any ops (lsm n L)).contains p.1&&ih (L ||| 2 ^ p.1)
   | true=>(match Region.ready .any ops (lsm n L) with
    | [j]=>Nat.beq j p.1&&ih (L ||| 2 ^ p.1)
    | _=>false)) σ
theorem fastB_float (ops:Array Oper) (n:Nat):∀ (σ:List (Nat×Bool)) (L m:Nat),σ.length<m→fastB ops n σ L=true→floatB ops [] m σ (lsm n L) []=true
 | [],L,0,hm,h=>by simp at hm
 | [],L,m+1,hm,h=>h
 | p::r,L,0,hm,h=>by simp at hm
 | (i,b)::r,L,m+1,hm,h=>by
  cases b with
  | false=>
   have h:(Region.free .any ops (lsm n L) i&&(Region.ready .any ops (lsm n L)).contains i&&fastB ops n r (L ||| 2 ^ i))=true:=h
   simp only[Bool.and_eq_true] at h
   rw[floatB]
   simp only[Bool.and_eq_true]
   exact⟨h.1,by rw[lsm_set];exact fastB_float ops n r _ m (by simpa using hm) h.2⟩
  | true=>
   have h:(match Region.ready .any ops (lsm n L) with
    | [j]=>Nat.beq j i&&fastB ops n r (L ||| 2 ^ i)
    | _=>false)=true:=h
   rw[floatB]
   split at h
   ·rename_i j hj
    simp only[Bool.and_eq_true] at h
    have hji:=Nat.eq_of_beq_eq_true h.1
    subst hji
    rw[hj]
    have:=fastB_float ops n r _ m (by simpa using hm) h.2
    rw[lsm_set]
    simp[this]
   ·cases h
def lastF (l:List Oper) (k:Nat):Bool:=Nat.beq k l.length &&
 ((List.range k).all fun i=>match l[i]? with
  | none=>true
  | some o=>(o.after.all fun e=>!Region.binds .any e||decide (e.on<i))&&(match o.guard with | none=>true | some (g,_)=>decide (g<k))) &&
 Region.seqB .any l.toArray (l.drop k).length k (Array.replicate k true++Array.replicate (l.length-k) false)
theorem lastF_ok {l:List Oper} {k:Nat} (h:lastF l k=true):lastB l k=true:=by
 unfold lastF at h
 simp only[Bool.and_eq_true] at h
 obtain⟨⟨h1,h2⟩,h3⟩:=h
 have hk:=Nat.eq_of_beq_eq_true h1
 unfold lastB
 simp only[Bool.and_eq_true]
 refine⟨⟨⟨decide_eq_true (by omega),h2⟩,?_⟩,h3⟩
 rw[List.all_eq_true]
 intro j hj
 rw[show decide (j<k)=true from decide_eq_true (by rw[hk];exact List.mem_range.1 hj)]
 rfl
noncomputable def dregF (l:List Oper) (d:DP):Bool:=
 lastF l d.k&&Region.noSelect (l.take d.k).toArray&&decide (d.pre.length+d.A.length+d.post.length=d.k)&&(match d.A,d.post with | [],[]=>fastB (l.take d.k).toArray d.k d.pre 0 | _,_=>false)
theorem dregF_ok {l:List Oper} {d:DP} (h:dregF l d=true):dregB l d=true:=by
 unfold dregF at h
 simp only[Bool.and_eq_true] at h
 obtain⟨⟨⟨h1,h2⟩,h3⟩,h4⟩:=h
 unfold dregB
 cases hA:d.A with
 | cons a r=>rw[hA] at h4;simp at h4
 | nil=>
  cases hp:d.post with
  | cons a r=>rw[hA,hp] at h4;simp at h4
  | nil=>
   rw[hA,hp] at h4
   rw[hA,hp] at h3
   simp only[Bool.and_eq_true]
   have hl:d.pre.length=d.k:=by simpa using h3
   refine⟨⟨⟨⟨⟨⟨lastF_ok h1,h2⟩,h3⟩,?_⟩,?_⟩,rfl⟩,rfl⟩
   ·rw[lsm_zero]
    exact fastB_float _ _ _ _ _ (by omega) h4
   ·unfold preDst
    rw[List.all_eq_true]
    intro p hp
    split<;>simp
noncomputable def codeF (nt:Nat) (D:List (Nat×DQ)):Code→Bool
 | .region id ops draw=>(ops.toList.all fun o=>match o.dst with | some d=>decide (d<nt) | none=>true)&&(match draw with
  | false=>true
  | true=>(match lk D id with | some d=>(match d.g with | none=>(match d.sl with | []=>dregB ops.toList d.toDP | _::_=>dregF ops.toList d.toDP)&&(match d.A with | []=>true | _::_=>ops.toList.all fun o=>inlOk (inlOf D) o.op) | some σ=>gregB ops.toList d.k σ) | none=>false))
 | .seq a b=>codeF nt D a&&codeF nt D b
 | .cond _ a b=>codeF nt D a&&codeF nt D b
 | .block _ a=>codeF nt D a
 | .loop a=>codeF nt D a
 | .scope a=>codeF nt D a
 | _=>true
theorem codeF_ok {nt:Nat} {D:List (Nat×DQ)} (c:Code) (h:codeF nt D c=true):codeB nt D c=true:=by
 induction c with
 | region id ops draw=>
  unfold codeF at h
  unfold codeB
  simp only[Bool.and_eq_true] at h ⊢
  refine⟨h.1,?_⟩
  have h2:=h.2
  cases draw with
  | false=>rfl
  | true=>
   revert h2
   cases hd:lk D id with
   | none=>intro h2;exact h2
   | some d=>
    dsimp only
    cases hg:d.g with
    | some σ=>intro h2;exact h2
    | none=>
     intro h2
     simp only[Bool.and_eq_true] at h2 ⊢
     refine⟨?_,h2.2⟩
     have h3:=h2.1
     cases hs:d.sl with
     | nil=>rw[hs] at h3;exact h3
     | cons a r=>rw[hs] at h3;exact dregF_ok h3
 | seq a b iha ihb=>
  have h:(codeF nt D a&&codeF nt D b)=true:=h
  show (codeB nt D a&&codeB nt D b)=true
  simp only[Bool.and_eq_true] at h ⊢
  exact⟨iha h.1,ihb h.2⟩
 | cond _ a b iha ihb=>
  have h:(codeF nt D a&&codeF nt D b)=true:=h
  show (codeB nt D a&&codeB nt D b)=true
  simp only[Bool.and_eq_true] at h ⊢
  exact⟨iha h.1,ihb h.2⟩
 | block _ a ih=>exact ih h
 | loop a ih=>exact ih h
 | scope a ih=>exact ih h
 | _=>rfl
/-! law15.AtlasFollows -/
theorem cpy_at {n:Nat} (xs:List Atl) {cps:List Nat} (hn:n=xs.length):((∀ k,k<0→atlEl xs cps k=atlEl [] [] k∧famA xs k=famA [] k)∧(∀ k,k<n→atlEl xs cps (0+k)=atlEl xs cps k∧famA xs (0+k)=famA xs k)∧∀ k,0+n≤k→∀ o,(famA xs k o).n=0):=
 ⟨fun k hk=>absurd hk (by omega),fun k _=>by rw[Nat.zero_add];exact⟨rfl,rfl⟩,fun k hk o=>famA_out (by omega) o⟩
def capS (cps:List Nat) (n k cp:Nat):List Nat:=(List.range n).map fun j=>if j=k then cp else cps.getD j 0
theorem capS_get {cps:List Nat} {n k cp j:Nat} (h:j<n):(capS cps n k cp).getD j 0=if j=k then cp else cps.getD j 0:=by
 unfold capS
 rw[List.getD_eq_getElem?_getD,List.getElem?_map,List.getElem?_range h]
 rfl
theorem set_at {n:Nat} {xs:List Atl} {cps:List Nat} {k cp:Nat} {a:Atl} (hn:n=xs.length) (hk:k<n):(∀ j,j<n→j≠k→atlEl (xs.set k a) (capS cps n k cp) j=atlEl xs cps j)∧(∀ j,j≠k→famA (xs.set k a) j=famA xs j)∧atlEl (xs.set k a) (capS cps n k cp) k=atlC a cp∧∀ o,famA (xs.set k a) k o=[emptySB,emptySB,rowSB a.routes,emptySB,emptySB].getD o emptySB:=by
 have hne:∀ j,j≠k→(xs.set k a).getD j aZ=xs.getD j aZ:=fun j q=>by rw[List.getD_eq_getElem?_getD,List.getD_eq_getElem?_getD,List.getElem?_set_ne (Ne.symm q)]
 have heq:(xs.set k a).getD k aZ=a:=getD_set (by omega)
 refine⟨fun j hj q=>?_,fun j q=>?_,?_,fun o=>?_⟩
 ·show atlC _ _=atlC _ _
  rw[hne j q,capS_get hj,if_neg q]
 ·unfold famA
  rw[hne j q]
 ·show atlC _ _=atlC _ _
  rw[heq,capS_get hk,if_pos rfl]
 ·unfold famA
  rw[heq]
  exact famA_list _ o rfl
theorem set_all {p:Atl→Prop} {xs:List Atl} {k:Nat} {a:Atl} (h:∀ j,j<xs.length→p (xs.getD j aZ)) (ha:p a):∀ j,j<(xs.set k a).length→p ((xs.set k a).getD j aZ):=by
 intro j hj
 rw[List.length_set] at hj
 by_cases q:j=k
 ·subst q
  rw[getD_set hj]
  exact ha
 ·rw[List.getD_eq_getElem?_getD,List.getElem?_set_ne (Ne.symm q),← List.getD_eq_getElem?_getD]
  exact h j hj
theorem drop_all {xs:List Atl} {k j:Nat}:(xs.drop k).getD j aZ=xs.getD (k+j) aZ:=by
 rw[List.getD_eq_getElem?_getD,List.getD_eq_getElem?_getD,List.getElem?_drop]
theorem ChainP.lin {c:Cfg} {key:Int} {xs:List Atl} (hP:ChainP c key xs) (hE:cfgErr c=0) (hV:CfgV c) (k:Nat):LinR c key (xs.drop k) (-1):=by
 refine .inl ⟨rfl,fun i hi=>⟨?_,fun h0=>?_⟩⟩
 ·rw[List.length_drop] at hi
  rw[drop_all]
  obtain⟨s,par,hJ,e⟩:=hP.made (k+i) (by omega)
  rw[e]
  exact make_valid hE hV hJ.inv par key
 ·rw[List.length_drop] at hi
  rw[drop_all,drop_all]
  have:=hP.fol (k+(i-1)) (by omega)
  rw[show k+(i-1)+1=k+i by omega] at this
  exact this
theorem ChainP.in_ {c:Cfg} {key:Int} {xs:List Atl} (hP:ChainP c key xs) (hV:CfgV c):∀ j,j<xs.length→AtlIn (xs.getD j aZ)∧(xs.getD j aZ).routes.length≤40:=by
 intro j hj
 obtain⟨s,par,hJ,e⟩:=hP.made j hj
 rw[e]
 have h1:=hV.nt
 have h2:=hJ.inv.lt
 exact⟨make_in hV hJ.inv par key,by show (routesOf s).length≤40;rw[routes_len];omega⟩
theorem drop_at2 {xs:List Atl} {cps:List Nat} {k n cap:Nat} (hn:n=xs.length) (hk:k<n) (hc:n≤cap):(n-k+k≤n∧n-k+k≤cap∧(∀ j,j<n-k→atlEl (xs.drop k) (cps.drop k) j=atlEl xs cps (k+j)∧famA (xs.drop k) j=famA xs (k+j))∧∀ j,n-k≤j→∀ o,(famA (xs.drop k) j o).n=0):=by
 refine⟨by omega,by omega,fun j hj=>⟨?_,?_⟩,fun j hj o=>famA_out (by rw[List.length_drop];omega) o⟩
 ·show atlC ((xs.drop k).getD j aZ) ((cps.drop k).getD j 0)=atlC (xs.getD (k+j) aZ) (cps.getD (k+j) 0)
  rw[drop_all]
  congr 1
  rw[List.getD_eq_getElem?_getD,List.getD_eq_getElem?_getD,List.getElem?_drop]
 ·unfold famA
  rw[drop_all]
def foF:FT:=[(13,ctLight),(20,ctAwake15),(16,ctConfig),(31,ctMod),(30,ctChain),(26,ctBent),(27,ctSigned),(32,ctFollows),(33,ctFollowsR),(34,ctLinG),(35,ctLinG)]
def foD:List (Nat×DQ):=[(1000010,{ k:=33,L:=[],sl:=[] }),(2000011,{ k:=0,L:=[0,1,2,3,4,5,6,7,8,9,10,11,12,13,14,15,16,17,18,19,20,21,22,23,24,25,26,27,28,29,30,31,32,33,34,35,36,37,38,39,40,41,42,43,44,45,46,47,48,49,50,51,52,53,54,55,56,57,58,59,60],sl:=[2,13,14,15,16,17] }),(13,{ sl:=[1],k:=61,L:=[0,1,2,3,4,5,6,7,8,9,10,11,12,13,14,15,16,17,18,19,20,21,22,23,24,25,26,27,28,29,30,31,32,33,34,35,36,37,38,39,40,41,42,43,44,45,46,47,48,49,50,51,52,53,54,55,56,57,58,59,60],pre:=[(0,false),(1,false),(2,false),(3,false),(4,false),(5,false),(6,false),(7,false),(9,false),(10,false),(11,false),(12,false),(13,false),(14,false),(15,false),(16,false),(8,true),(17,true),(18,false),(19,false),(20,false),(21,false),(22,false),(23,false),(24,false),(25,false),(26,false),(27,false),(29,false),(30,false),(31,false),(32,false),(33,false),(34,false),(35,false),(36,false),(28,true),(37,true),(38,false),(39,false),(40,false),(41,false),(42,false),(43,false),(44,false),(45,false),(46,false),(47,false),(48,false),(50,false),(51,false),(52,false),(53,false),(54,false),(55,false),(56,false),(57,false),(49,true),(58,true),(59,false),(60,false)] }),(15,{ sl:=[1],k:=33,L:=[0,1,2,3,4,5,6,7,8,9,10,11,12,13,14,15,16,17,18,19,20,21,22,23,24,25,26,27,28,29,30,31,32,33,34,35,36,37,38,39,40,41,42,43,44,45,46,47,48,49,50,51,52,53,54,55,56,57,58,59,60],pre:=[(0,true),(1,false),(2,false),(3,false),(4,false),(6,false),(7,false),(8,false),(5,true),(9,true),(10,false),(11,false),(12,false),(13,false),(14,false),(15,false),(17,false),(18,false),(19,false),(16,true),(20,true),(21,false),(22,false),(23,false),(24,false),(25,false),(26,false),(28,false),(27,true),(29,true),(30,false),(31,false),(32,false)] })]
theorem foFok:FTokI Try.prog foF (inlOf foD):=fti_cons (lightOk.i _) (fti_cons (awake15Ok.i _) (fti_cons (configOk.i _) (fti_cons (modOk.i _) (fti_cons (chainOk.i _) (fti_cons (bentOk.i _) (fti_cons (signedOk.i _) (fti_cons (followsOk.i _) (fti_cons (followsROk.i _) (fti_cons (linPOk.i _) (fti_cons (linROk.i _) fti_nil))))))))))
set_option maxRecDepth 100000 in
set_option maxHeartbeats 8000000 in
theorem folL_sx (cap0 cap1:Nat) (l more:List Int) (key which by_ at_:Int) (hm0:l.length≤maxLen) (hm1:more.length≤maxLen) (hby:in64 by_) :
  sx ttL foF foD (bodyOf Try.f6) (argF 0 [slc 0 l.length cap0,slc 1 more.length cap1,.int .i64 key,.int .i64 which,.int .i64 by_,.int .i64 at_]) (uniM { l0:=l,l1:=more }) 13 (endx ttL Try.f6.results.toList fun v _ _=>v=.bool true):=by
 refine⟨0,cap0,l,rfl,rfl,hm0,?_⟩
 refine⟨fun h=>?_,fun h0=>?_⟩
 ·repeat (first | refine⟨fun _=>?_,fun h=>Bool.noConfusion h⟩ | refine⟨fun h=>Bool.noConfusion h,fun _=>?_⟩ | fail)
  exact⟨rfl,rfl⟩
 ·refine⟨1,cap1,more,rfl,rfl,hm1,?_⟩
  refine⟨fun h=>?_,fun h1=>?_⟩
  ·repeat (first | refine⟨fun _=>?_,fun h=>Bool.noConfusion h⟩ | refine⟨fun h=>Bool.noConfusion h,fun _=>?_⟩ | fail)
   exact⟨rfl,rfl⟩
  ·have hl0:l.length≤200:=by simpa using h0
   have hl1:more.length≤200:=by simpa using h1
   clear h0 h1 hm0 hm1
   refine⟨0,cap0,l,rfl,rfl,by omega,?_⟩
   intro xk c hM
   have hV:=cfgV_of hM.valid
   have hnt:=hV.nt
   have hnc:=hV.nc
   have hm1:=hM.zones
   have hm2:=hM.cells
   have hm3:=hM.tenants
   have hm4:=hM.versions
   have hm5:=hM.replicas
   have hm6:=hM.observers
   refine⟨⟨18,17,16,15,14,13,500000⟩,xk,c,_,more,key,rfl,⟨HasCfg.keeps kp_,.inr (.inl ⟨1,_,rfl,⟨_,_,_,rfl,Nat.le_refl _,fun k hk=>rfl⟩⟩)⟩,⟨hV,by omega⟩,fun xs cps cap ⟨hP,hcap⟩=>?_⟩
   have hne:=hP.ne
   have hle:=hP.le
   have hin:=hP.in_ hV
   refine⟨_,_,rfl,⟨by omega,by omega⟩,?_⟩
   obtain⟨k,hk⟩:∃ k,k=at_ % (xs.length:Int):=⟨_,rfl⟩
   rw[← hk]
   have hk1:0≤k∧k<xs.length:=by rw[hk];exact⟨Int.emod_nonneg _ (by omega),Int.emod_lt_of_pos _ (by omega)⟩
   clear hk
   have hk2:k.toNat<xs.length:=by omega
   refine⟨atlEl [] [],famA [],⟨fun k hk=>absurd hk (by omega),fun k hk o=>famA_out (Nat.zero_le _) o⟩,?_⟩
   refine⟨⟨Nat.le_refl _,fun k hk=>rfl⟩,?_⟩
   refine⟨⟨⟨rfl,rfl⟩,by omega,by show (0+_) * 56≤140737488355328;omega⟩,fun cap2 hcap2=>⟨atlEl xs cps,famA xs,cpy_at xs rfl,?_⟩⟩
   rw[Nat.zero_add xs.length]
   refine⟨⟨Nat.le_refl _,hk1.1,hk1.2⟩,?_⟩
   refine⟨xs.getD k.toNat aZ,_,which,by_,rfl,.fam rfl,by have:=(hin k.toNat hk2).2;omega,fun cp2=>?_⟩
   refine⟨⟨Nat.le_refl _,hk1.1,hk1.2⟩,?_⟩
   obtain⟨B,hB⟩:∃ B,B=bentA (xs.getD k.toNat aZ) which by_:=⟨_,rfl⟩
   have hBi:AtlIn B:=by rw[hB];exact bent_in (hin _ hk2).1 hby (by have:=(hin _ hk2).2;omega)
   refine⟨hk2,atlEl (xs.set k.toNat B) (capS cps xs.length k.toNat cp2),famA (xs.set k.toNat B),?_,?_⟩
   ·rw[hB]
    exact set_at rfl hk2
   obtain⟨ys,hys⟩:∃ ys,ys=xs.set k.toNat B:=⟨_,rfl⟩
   obtain⟨cp3,hcp3⟩:∃ q,q=capS cps xs.length k.toNat cp2:=⟨_,rfl⟩
   rw[← hys,← hcp3]
   have hyl:xs.length=ys.length:=by rw[hys,List.length_set]
   have hyi:∀ j,j<ys.length→AtlIn (ys.getD j aZ):=by rw[hys];exact set_all (fun j hj=>(hin j hj).1) hBi
   clear hys hcp3 hB hBi
   refine⟨atlEl [] [],famA [],⟨fun k hk=>absurd hk (by omega),fun k hk o=>famA_out (Nat.zero_le _) o⟩,?_⟩
   refine⟨⟨Nat.le_refl _,fun k hk=>rfl⟩,?_⟩
   refine⟨⟨⟨rfl,rfl⟩,by omega,by show (0+_) * 56≤140737488355328;omega⟩,fun cap4 hcap4=>⟨atlEl ys cp3,famA ys,cpy_at ys hyl,?_⟩⟩
   rw[Nat.zero_add xs.length]
   refine⟨List Atl×List Nat,fun _=>[(2,.int .i64 key),(13,ptr 19),(14,.slice (some ⟨21,0,none⟩) xs.length cap),(15,.int .i64 k),(16,.slice (some ⟨25,0,none⟩) xs.length cap2),(17,.slice (some ⟨31,0,none⟩) xs.length cap4)],fun y=>[(19,.box 28 [.int .i64 c.regions,slc 18 c.zones.length xk.cz,slc 17 c.cells.length xk.cc,slc 16 c.tenants.length xk.ct,slc 15 c.versions.length xk.cv,slc 14 c.replicas.length xk.cr,slc 13 c.observers.length xk.co,.int .i64 c.blast,.int .i64 c.lease,.int .i64 c.bake]),(18,rowOfL 500000 1 intC 0 c.zones),(17,rowOfL 500000 2 pairC (0,0) c.cells),(16,rowOfL 500000 7 tenC default c.tenants),(15,rowOfL 500000 2 pairC (0,0) c.versions),(14,rowOfL 500000 1 intC 0 c.replicas),(13,rowOfL 500000 1 intC 0 c.observers),(20,famB 500000 xs),(21,.ext (.deep 500000 5 xs.length 0 (atlEl xs cps) 20)),(25,.ext (.deep (1000000+46) 5 xs.length cap2 (atlEl ys cp3) 27)),(27,famB 500000 ys),(31,.ext (.deep (1000000+46) 5 xs.length cap4 (atlEl y.1 y.2) 32)),(32,famB 500000 y.1)],fun y=>xs.length=y.1.length∧∀ j,j<y.1.length→AtlIn (y.1.getD j aZ),?_,?_⟩
   ·refine⟨⟨Nat.le_refl _,hk1.1,hk1.2⟩,?_⟩
    refine⟨ys.getD k.toNat aZ,_,key,rfl,.fam rfl,hyi _ (by omega),?_⟩
    refine⟨⟨Nat.le_refl _,hk1.1,hk1.2⟩,?_⟩
    refine⟨hk2,atlEl (ys.set k.toNat (signA (ys.getD k.toNat aZ) key)) (capS cp3 xs.length k.toNat (cp3.getD k.toNat 0)),famA (ys.set k.toNat (signA (ys.getD k.toNat aZ) key)),?_,?_⟩
    ·exact set_at hyl hk2
    exact⟨(ys.set k.toNat (signA (ys.getD k.toNat aZ) key),capS cp3 xs.length k.toNat (cp3.getD k.toNat 0)),⟨by rw[List.length_set];exact hyl,set_all hyi (have h:=hyi k.toNat (by omega);⟨h.n,h.t,h.len,h.r⟩)⟩,kp_,kp_⟩
   ·rintro⟨zs,cp5⟩ ⟨hzl,hzi⟩
    refine⟨⟨by decide,rfl,rfl⟩,?_⟩
    dsimp only at hzl hzi
    refine⟨Int,fun i=>[(18,.int .i64 i)],fun _=>[],fun i=>0≤i∧i≤xs.length,fun i=>((xs.length:Int)-i).toNat,⟨0,by omega,kp_,kp_⟩,?_⟩
    rintro i hi
    refine⟨⟨rfl,rfl⟩,?_⟩
    refine⟨fun hlt=>?_,fun hge=>?_⟩
    ·have hlt2:i<(xs.length:Int):=of_decide_eq_true hlt
     have hi2:i.toNat<xs.length:=by omega
     refine⟨⟨Nat.le_refl _,hk1.1,hk1.2⟩,?_⟩
     refine⟨⟨Nat.le_refl _,hi.1,hlt2⟩,?_⟩
     refine⟨⟨Nat.le_refl _,hk1.1,hk1.2⟩,?_⟩
     refine⟨⟨Nat.le_refl _,hi.1,hlt2⟩,?_⟩
     refine⟨xs.getD k.toNat aZ,xs.getD i.toNat aZ,_,_,rfl,⟨.fam rfl,.fam rfl⟩,by have:=(hin _ hk2).2;omega,fun r1 hr1=>?_⟩
     refine⟨kp_,?_⟩
     refine⟨xs.getD k.toNat aZ,xs.getD i.toNat aZ,_,_,rfl,⟨.fam rfl,.fam rfl⟩,by have:=(hin _ hk2).2;omega,fun r2 hr2=>?_⟩
     refine⟨kp_,?_⟩
     obtain rfl:r1=r2:=Bool.eq_iff_iff.2 (hr1.trans hr2.symm)
     refine⟨fun q=>absurd q (by simp),fun _=>?_⟩
     refine⟨⟨Nat.le_refl _,hk1.1,hk1.2⟩,?_⟩
     refine⟨⟨Nat.le_refl _,hi.1,hlt2⟩,?_⟩
     refine⟨⟨Nat.le_refl _,hk1.1,hk1.2⟩,?_⟩
     refine⟨⟨Nat.le_refl _,hi.1,hlt2⟩,?_⟩
     refine⟨ys.getD k.toNat aZ,xs.getD i.toNat aZ,_,_,rfl,⟨.fam rfl,.fam rfl⟩,by have:=(hyi k.toNat (by omega)).len;omega,fun r3 hr3=>?_⟩
     refine⟨kp_,?_⟩
     refine⟨ys.getD k.toNat aZ,xs.getD i.toNat aZ,_,_,rfl,⟨.fam rfl,.fam rfl⟩,by have:=(hyi k.toNat (by omega)).len;omega,fun r4 hr4=>?_⟩
     refine⟨kp_,?_⟩
     obtain rfl:r3=r4:=Bool.eq_iff_iff.2 (hr3.trans hr4.symm)
     refine⟨fun q=>absurd q (by simp),fun _=>?_⟩
     refine⟨⟨Nat.le_refl _,hi.1,hlt2⟩,?_⟩
     refine⟨⟨Nat.le_refl _,hk1.1,hk1.2⟩,?_⟩
     refine⟨⟨Nat.le_refl _,hi.1,hlt2⟩,?_⟩
     refine⟨⟨Nat.le_refl _,hk1.1,hk1.2⟩,?_⟩
     refine⟨xs.getD i.toNat aZ,zs.getD k.toNat aZ,_,_,rfl,⟨.fam rfl,.fam rfl⟩,by have:=(hin _ hi2).2;omega,fun r5 hr5=>?_⟩
     refine⟨kp_,?_⟩
     refine⟨xs.getD i.toNat aZ,zs.getD k.toNat aZ,_,_,rfl,⟨.fam rfl,.fam rfl⟩,by have:=(hin _ hi2).2;omega,fun r6 hr6=>?_⟩
     refine⟨kp_,?_⟩
     obtain rfl:r5=r6:=Bool.eq_iff_iff.2 (hr5.trans hr6.symm)
     refine⟨fun q=>absurd q (by simp),fun _=>?_⟩
     refine⟨_,?_,kp_,kp_⟩
     rw[wrapi (n:=i+1) (by omega)]
     dsimp only
     exact⟨by omega,by omega⟩
    ·refine⟨rfl,?_⟩
     refine⟨kp_,?_⟩
     repeat (first | refine⟨fun _=>?_,fun h=>Bool.noConfusion h⟩ | refine⟨fun h=>Bool.noConfusion h,fun _=>?_⟩ | fail)
     refine⟨⟨18,17,16,15,14,13,500000⟩,xk,c,25,27,_,_,_,ys,cp3,_,key,_,rfl,hyl,⟨HasCfg.keeps kp_,rfl,rfl⟩,⟨hM.lens,by first | omega | (rw[List.length_drop];omega),fun j hj=>by have:=(hyi j hj).len;omega⟩,fun z1 hz1=>?_⟩
     refine⟨kp_,?_⟩
     refine⟨⟨18,17,16,15,14,13,500000⟩,xk,c,25,27,_,_,_,ys,cp3,_,key,_,rfl,hyl,⟨HasCfg.keeps kp_,rfl,rfl⟩,⟨hM.lens,by first | omega | (rw[List.length_drop];omega),fun j hj=>by have:=(hyi j hj).len;omega⟩,fun z2 hz2=>?_⟩
     refine⟨kp_,?_⟩
     obtain rfl:=hz1.uniq hz2
     refine⟨fun _=>?_,fun q=>absurd q (by simp)⟩
     refine⟨⟨18,17,16,15,14,13,500000⟩,xk,c,31,32,_,_,_,zs,cp5,_,key,_,rfl,hzl,⟨HasCfg.keeps kp_,rfl,rfl⟩,⟨hM.lens,by first | omega | (rw[List.length_drop];omega),fun j hj=>by have:=(hzi j hj).len;omega⟩,fun z3 hz3=>?_⟩
     refine⟨kp_,?_⟩
     refine⟨⟨18,17,16,15,14,13,500000⟩,xk,c,31,32,_,_,_,zs,cp5,_,key,_,rfl,hzl,⟨HasCfg.keeps kp_,rfl,rfl⟩,⟨hM.lens,by first | omega | (rw[List.length_drop];omega),fun j hj=>by have:=(hzi j hj).len;omega⟩,fun z4 hz4=>?_⟩
     refine⟨kp_,?_⟩
     obtain rfl:=hz3.uniq hz4
     refine⟨fun _=>?_,fun q=>absurd q (by simp)⟩
     refine⟨⟨hk1.1,by omega,by omega⟩,xs.length-k.toNat,atlEl (xs.drop k.toNat) (cps.drop k.toNat),famA (xs.drop k.toNat),drop_at2 rfl hk2 hcap,?_⟩
     refine⟨kp_,?_⟩
     refine⟨⟨18,17,16,15,14,13,500000⟩,xk,c,34,33,_,_,_,(xs.drop k.toNat),(cps.drop k.toNat),_,key,_,rfl,(by rw[List.length_drop];omega),⟨HasCfg.keeps kp_,rfl,rfl⟩,⟨hM.lens,by first | omega | (rw[List.length_drop];omega),fun j hj=>by rw[drop_all];have:=(hin (k.toNat+j) (by rw[List.length_drop] at hj;omega)).2;omega⟩,fun z5 hz5=>?_⟩
     refine⟨kp_,?_⟩
     obtain rfl:=hz5.uniq (hP.lin hM.valid hV _)
     rfl
theorem atlasFollows_law (a0:Option Addr) (cap0:Nat) (z0:List Int) (a1:Option Addr) (cap1:Nat) (z1:List Int) (key which by_ at_:Int) (W:World) (hr0:Rd W (·<W.heap.size) a0 (z0.map (Value.int .i64))) (hm0:z0.length≤maxLen) (hr1:Rd W (·<W.heap.size) a1 (z1.map (Value.int .i64))) (hm1:z1.length≤maxLen) (hw_key:(Lit.int .i64 key).wf=true) (hw_which:(Lit.int .i64 which).wf=true) (hw_by_:(Lit.int .i64 by_).wf=true) (hw_at_:(Lit.int .i64 at_).wf=true) :
  Calls Try.prog 6 #[.slice a0 z0.length cap0,.slice a1 z1.length cap1,.int .i64 key,.int .i64 which,.int .i64 by_,.int .i64 at_] W fun e w'=>e=.returned (.bool true)∧Below W.heap.size W w':=by
 rw[← flat_ints] at hr0 hr1
 have h:=uni_calls ttLok foFok Try.func6 rfl (D:=foD) (codeF_ok _ (by kernel_rfl)) (vs:=[slc 0 z0.length cap0,slc 1 z1.length cap1,.int .i64 key,.int .i64 which,.int .i64 by_,.int .i64 at_]) rfl { a0:=a0,a1:=a1 } { l0:=z0,l1:=z1 } W { r0:=hr0,r1:=hr1 } (fun v hv=>by
  simp only[List.mem_cons,List.not_mem_nil,or_false] at hv
  rcases hv with rfl | rfl | rfl | rfl | rfl | rfl
  ·exact⟨show (0:Nat)<13 by decide,rfl⟩
  ·exact⟨show (1:Nat)<13 by decide,rfl⟩
  ·trivial
  ·trivial
  ·trivial
  ·trivial
  ) (folL_sx cap0 cap1 z0 z1 key which by_ at_ hm0 hm1 (in64_wf hw_by_))
 refine h.mono ?_
 rintro e w' ⟨v,mem',nx',ρ',rfl,rfl,hv,hm',hb⟩
 exact⟨rfl,hb⟩
end Go.Proofs.Ytdjkeplekchfdaa
