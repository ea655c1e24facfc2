/- A part of the proof that vellumlaw12.ShapeAcyclic is true for every input: walks of functions that the row reaches and plain laws that they need. Conditions: none. Joined by merge.py out of T23 T24 C38 C39 C40 B14 LawA; a part that began as a print is named P or W there and is trimmed. -/
import Derived.Test.YtfiiihpdekppiaaA18
import Derived.Test.YtfiiihpdekppiaaA20
import Derived.Test.YtfiiihpdekppiaaA21
import Derived.OpenShut
import Derived.Deep.Slices
import Derived.SizedLaws
import Derived.ChangeSlices
import Derived.Test.YtfiiihpdekppiaaRows
import Derived.WalkKit
import Derived.ProofKit
import Derived.ShutString
import Derived.ChangeOld
import Derived.Below
set_option linter.unusedVariables false
set_option linter.unusedSimpArgs false
section
namespace Go.Proofs.Ytfiiihpdekppiaa
open Go.RowKit Go.Proofs Go.Proofs.YtfiiihpdekppiaaW.PrintWords
open PShapeReducible (S31 rd_T31 vellumref12_Nodes.f vellumref12_Nodes.l0 vellumref12_Nodes.j0 vellumref12_Count.f vellumref12_Count.l0 vellumref12_Count.j0 vellumref12_Copies.f vellumref12_Copies.l0 vellumref12_Copies.l1)
mutual
theorem visL_len:∀ x:S31,(visL x).length<=szF x
 | ⟨k,n,l,ks⟩=>by
  have:=visLs_len ks
  simp only [visL,szF,List.length_append]
  split <;> simp <;> omega
theorem visLs_len:∀ ks:List S31,(visLs ks).length<=szL ks
 | []=>by simp [visLs,szL]
 | x :: xs=>by
  have:=visL_len x
  have:=visLs_len xs
  simp only [visLs,szL,List.length_append]
  omega
end
theorem rd31_at (pre:List S31) (x:S31) (ks:List S31):rd_T31 (pre++x :: ks) (pre.length:Int)=x:=by
 unfold rd_T31
 rw [Int.toNat_natCast,List.getD_eq_getElem?_getD,List.getElem?_append_right (Nat.le_refl _),Nat.sub_self];rfl
mutual
theorem nodes_f:∀ (x:S31) (k:Nat),3 * szF x<=k->szF x < 1000000000->vellumref12_Nodes.f k x.f0 x.f1 x.f2 x.f3=some (visL x)
 | ⟨k0,n,l,ks⟩,0,hk,_=>by simp [szF] at hk;omega
 | ⟨k0,n,l,ks⟩,1,hk,_=>by simp [szF] at hk;omega
 | ⟨k0,n,l,ks⟩,k+2,hk,hb=>by
  simp only [szF] at hk hb
  rw [vellumref12_Nodes.f]
  by_cases hc:k0=2
  ·rw [if_pos hc,if_pos (by simp)]
   rw [vellumref12_Nodes.j0]
   have:=nodes_l [] ks k ([]++[n]) k0 n l (by omega) (by simp;omega) ⟨by simp;omega,by omega⟩
   simp only [List.nil_append,List.length_nil,Int.natCast_zero] at this
   rw [visL,if_pos hc]
   exact this
  ·rw [if_neg hc]
   rw [vellumref12_Nodes.j0]
   have:=nodes_l [] ks k [] k0 n l (by omega) (by simp;omega) ⟨by simp;omega,by omega⟩
   simp only [List.nil_append,List.length_nil,Int.natCast_zero] at this
   rw [visL,if_neg hc]
   exact this
theorem nodes_l:∀ (pre ks:List S31) (k:Nat) (acc:List Int) (a b c:Int),3 * szL ks+1<=k->acc.length+szL ks < 2000000000->pre.length+szL ks < 2000000000/\szL ks < 1000000000->vellumref12_Nodes.l0 k acc (pre.length:Int) a b c (pre++ks)=some (acc++visLs ks)
 | pre,[],0,acc,a,b,c,hk,_,_=>by omega
 | pre,[],k+1,acc,a,b,c,hk,_,_=>by
  rw [vellumref12_Nodes.l0,if_neg (by simp)]
  simp [visLs]
 | pre,x :: ks,0,acc,a,b,c,hk,_,_=>by omega
 | pre,x :: ks,k+1,acc,a,b,c,hk,hb,hp=>by
  simp only [szL] at hk hb hp
  have hx:1<=szF x:=by rw [szF_eq];omega
  have hv:=visL_len x
  rw [vellumref12_Nodes.l0,if_pos (by simp;omega),if_pos (by omega),rd31_at,nodes_f x k (by omega) (by omega)]
  simp only [Option.bind_some]
  rw [if_pos (by omega),wrap64_in (by omega) (by omega)]
  have:=nodes_l (pre++[x]) ks k (acc++visL x) a b c (by omega) (by simp;omega) ⟨by simp;omega,by omega⟩
  simp only [List.append_assoc,List.singleton_append,List.length_append,List.length_singleton,Int.natCast_add,Int.natCast_one] at this
  rw [this,visLs]
end
mutual
theorem cntK_le (kd:Int):∀ x:S31,cntK kd x<=szF x
 | ⟨k,n,l,ks⟩=>by
  have:=cntKs_le kd ks
  simp only [cntK,szF]
  split <;> omega
theorem cntKs_le (kd:Int):∀ ks:List S31,cntKs kd ks<=szL ks
 | []=>by simp [cntKs,szL]
 | x :: xs=>by
  have:=cntK_le kd x
  have:=cntKs_le kd xs
  simp only [cntKs,szL]
  omega
end
mutual
theorem count_f (kd:Int):∀ (x:S31) (k:Nat),3 * szF x<=k->szF x < 1000000000->vellumref12_Count.f k x.f0 x.f1 x.f2 x.f3 kd=some (cntK kd x:Int)
 | ⟨k0,n,l,ks⟩,0,hk,_=>by simp [szF] at hk;omega
 | ⟨k0,n,l,ks⟩,1,hk,_=>by simp [szF] at hk;omega
 | ⟨k0,n,l,ks⟩,k+2,hk,hb=>by
  simp only [szF] at hk hb
  rw [vellumref12_Count.f]
  by_cases hc:k0=kd
  ·rw [if_pos hc,vellumref12_Count.j0]
   have:=count_l kd [] ks k 1 k0 n l (by omega) (by omega) ⟨by simp;omega,by omega⟩
   simp only [List.nil_append,List.length_nil,Int.natCast_zero,Int.natCast_one] at this
   rw [cntK,if_pos hc]
   exact this
  ·rw [if_neg hc,vellumref12_Count.j0]
   have:=count_l kd [] ks k 0 k0 n l (by omega) (by omega) ⟨by simp;omega,by omega⟩
   simp only [List.nil_append,List.length_nil,Int.natCast_zero] at this
   rw [cntK,if_neg hc]
   exact this
theorem count_l (kd:Int):∀ (pre ks:List S31) (k:Nat) (acc:Nat) (a b c:Int),3 * szL ks+1<=k->acc+szL ks < 2000000000->pre.length+szL ks < 2000000000/\szL ks < 1000000000->vellumref12_Count.l0 k kd (acc:Int) (pre.length:Int) a b c (pre++ks)=some ((acc+cntKs kd ks:Nat):Int)
 | pre,[],0,acc,a,b,c,hk,_,_=>by omega
 | pre,[],k+1,acc,a,b,c,hk,_,_=>by
  rw [vellumref12_Count.l0,if_neg (by simp)]
  simp [cntKs]
 | pre,x :: ks,0,acc,a,b,c,hk,_,_=>by omega
 | pre,x :: ks,k+1,acc,a,b,c,hk,hb,hp=>by
  simp only [szL] at hk hb hp
  have hx:1<=szF x:=by rw [szF_eq];omega
  have hv:=cntK_le kd x
  rw [vellumref12_Count.l0,if_pos (by simp;omega),if_pos (by omega),rd31_at,count_f kd x k (by omega) (by omega)]
  simp only [Option.bind_some]
  rw [wrap64_in (by omega) (by omega),wrap64_in (by omega) (by omega)]
  have:=count_l kd (pre++[x]) ks k (acc+cntK kd x) a b c (by omega) (by omega) ⟨by simp;omega,by omega⟩
  simp only [List.append_assoc,List.singleton_append,List.length_append,List.length_singleton,Int.natCast_add,Int.natCast_one] at this ⊢
  rw [this,cntKs]
  simp only [Int.natCast_add,Int.add_assoc]
end
def copA:List Int->List Int->Nat
 | _,[]=>0
 | p,a :: l=>(if a∈p then 1 else 0)+copA (p++[a]) l
def copN (l:List Int):Nat:=copA [] l
theorem copies_l1 {l:List Int} (hl:l.length<=1000000000) {n i:Nat} (hi:i < l.length) {r:Int} (h1:∃ K,∀ k,K<=k->vellumref12_Copies.l0 k l (wrap64 ((n:Int)+1)) (wrap64 ((i:Int)+1))=some r∨l.getD i 0 ∉ l.take i)
  (h0:∃ K,∀ k,K<=k->vellumref12_Copies.l0 k l (n:Int) (wrap64 ((i:Int)+1))=some r∨l.getD i 0∈l.take i):∀ (m j:Nat) (b:Bool),j+m=i->(b=true↔l.getD i 0∈l.take j)->∃ K,∀ k,K<=k->vellumref12_Copies.l1 k l (n:Int) (i:Int) b (j:Int)=some r
 | 0,j,b,hj,hb=>by
  have:j=i:=by omega
  subst this
  obtain ⟨K1,h1⟩:=h1
  obtain ⟨K0,h0⟩:=h0
  refine ⟨K1+K0+1,fun k hk=>?_⟩
  obtain ⟨k,rfl⟩:∃ k',k=k'+1:=⟨k - 1,by omega⟩
  rw [vellumref12_Copies.l1,if_neg (by omega)]
  by_cases hbt:b=true
  ·rw [if_pos hbt]
   exact (h1 k (by omega)).resolve_right fun hc=>hc (hb.1 hbt)
  ·rw [if_neg hbt]
   exact (h0 k (by omega)).resolve_right fun hc=>hbt (hb.2 hc)
 | m+1,j,b,hj,hb=>by
  have htk:l.take (j+1)=l.take j++[l.getD j 0]:=by
   rw [List.take_succ_eq_append_getElem (by omega),List.getD_eq_getElem?_getD,List.getElem?_eq_getElem (by omega)];rfl
  have e:rd l (i:Int)=l.getD i 0:=rfl
  have e2:rd l (j:Int)=l.getD j 0:=rfl
  by_cases hbt:b=true
  ·obtain ⟨K,hK⟩:=copies_l1 hl hi h1 h0 m (j+1) true (by omega) ⟨fun _=>by rw [htk];exact List.mem_append.2 (.inl (hb.1 hbt)),fun _=>rfl⟩
   refine ⟨K+1,fun k hk=>?_⟩
   obtain ⟨k,rfl⟩:∃ k',k=k'+1:=⟨k - 1,by omega⟩
   rw [vellumref12_Copies.l1,if_pos (by omega),if_pos hbt,wrap64_in (by omega) (by omega)]
   exact hK k (by omega)
  ·have hnb:l.getD i 0 ∉ l.take j:=fun hc=>hbt (hb.2 hc)
   obtain ⟨K,hK⟩:=copies_l1 hl hi h1 h0 m (j+1) (l.getD j 0 == l.getD i 0) (by omega) (by
    rw [htk,beq_iff_eq,List.mem_append,List.mem_singleton]
    exact ⟨fun h=>.inr h.symm,fun h=>(h.resolve_left hnb).symm⟩)
   refine ⟨K+1,fun k hk=>?_⟩
   obtain ⟨k,rfl⟩:∃ k',k=k'+1:=⟨k - 1,by omega⟩
   rw [vellumref12_Copies.l1,if_pos (by omega),if_neg hbt,if_pos (by omega),if_pos (by omega),if_pos (by omega),if_pos (by omega),wrap64_in (by omega) (by omega),e,e2]
   exact hK k (by omega)
theorem copies_l0 {l:List Int} (hl:l.length<=1000000000):∀ (s p:List Int) (n:Nat),l=p++s->n+s.length<=1000000000->∃ K,∀ k,K<=k->vellumref12_Copies.l0 k l (n:Int) (p.length:Int)=some ((n+copA p s:Nat):Int)
 | [],p,n,e,_=>⟨1,fun k hk=>by
  obtain ⟨k,rfl⟩:∃ k',k=k'+1:=⟨k - 1,by omega⟩
  rw [vellumref12_Copies.l0,if_neg (by rw [e];simp)]
  simp [copA]⟩
 | a :: s,p,n,e,hn=>by
  simp only [List.length_cons] at hn
  have hp:p.length < l.length:=by rw [e];simp
  have htk:l.take p.length=p:=by rw [e];simp
  have hga:l.getD p.length 0=a:=by rw [e,List.getD_eq_getElem?_getD];simp
  have e':l=(p++[a])++s:=by rw [e];simp
  obtain ⟨K1,h1⟩:=copies_l0 hl s (p++[a]) (n+1) e' (by omega)
  obtain ⟨K0,h0⟩:=copies_l0 hl s (p++[a]) n e' (by omega)
  have hw:wrap64 ((p.length:Int)+1)=((p++[a]).length:Int):=by rw [wrap64_in (by omega) (by omega)];simp
  have hwn:wrap64 ((n:Int)+1)=((n+1:Nat):Int):=by rw [wrap64_in (by omega) (by omega)];simp
  obtain ⟨K,hK⟩:=copies_l1 (n:=n) (r:=((n+copA p (a :: s):Nat):Int)) hl hp ⟨K1,fun k hk=>by
    by_cases hc:a∈p
    ·left
     rw [hw,hwn,h1 k hk]
     simp only [copA,if_pos hc]
     congr 2;omega
    ·right;rw [htk,hga];exact hc⟩ ⟨K0,fun k hk=>by
    by_cases hc:a∈p
    ·right;rw [htk,hga];exact hc
    ·left
     rw [hw,h0 k hk]
     simp only [copA,if_neg hc]
     congr 2;omega⟩ p.length 0 false (by omega) (by simp)
  refine ⟨K+1,fun k hk=>?_⟩
  obtain ⟨k,rfl⟩:∃ k',k=k'+1:=⟨k - 1,by omega⟩
  rw [vellumref12_Copies.l0,if_pos (by omega)]
  exact hK k (by omega)
theorem copies_is (x:S31) (hx:szF x < 1000000000):∃ k,vellumref12_Copies.f k x.f0 x.f1 x.f2 x.f3=some (copN (visL x):Int):=by
 have hv:=visL_len x
 obtain ⟨K,hK⟩:=copies_l0 (l:=visL x) (by omega) (visL x) [] 0 rfl (by omega)
 refine ⟨K+3 * szF x,?_⟩
 unfold vellumref12_Copies.f
 rw [nodes_f x _ (by omega) hx]
 simp only [Option.bind_some]
 have:=hK (K+3 * szF x) (by omega)
 unfold copN
 simpa using this
theorem count_is (kd:Int) (x:S31) (hx:szF x < 1000000000):∃ k,vellumref12_Count.f k x.f0 x.f1 x.f2 x.f3 kd=some (cntK kd x:Int):=⟨_,count_f kd x _ (Nat.le_refl _) hx⟩
theorem copA_dist:∀ (s p r:List Int),r.Nodup->(∀ z,z∈r↔z∈p++s)->∀ q:List Int,q.Nodup->(∀ z,z∈q↔z∈p)->copA p s+r.length=s.length+q.length
 | [],p,r,hr,hm,q,hq,hqm=>by
  have a:=nodup_sub_len hr (m:=q) fun z hz=>(hqm z).2 (by simpa using (hm z).1 hz)
  have b:=nodup_sub_len hq (m:=r) fun z hz=>(hm z).2 (by simpa using (hqm z).1 hz)
  simp only [copA,List.length_nil];omega
 | a :: s,p,r,hr,hm,q,hq,hqm=>by
  simp only [copA,List.length_cons]
  by_cases hc:a∈p
  ·have:=copA_dist s (p++[a]) r hr (fun z=>by rw [hm z];simp) q hq (fun z=>by
    rw [hqm z,List.mem_append,List.mem_singleton]
    exact ⟨.inl,fun h=>h.elim id fun e=>e ▸ hc⟩)
   rw [if_pos hc];omega
  ·have:=copA_dist s (p++[a]) r hr (fun z=>by rw [hm z];simp) (a :: q) (List.nodup_cons.2 ⟨fun h=>hc ((hqm a).1 h),hq⟩) (fun z=>by
    rw [List.mem_cons,hqm z,List.mem_append,List.mem_singleton]
    exact or_comm)
   rw [if_neg hc]
   simp only [List.length_cons] at this
   omega
theorem copN_dist {l r:List Int} (hr:r.Nodup) (hm:∀ z,z∈r↔z∈l):copN l+r.length=l.length:=by
 have:=copA_dist l [] r hr (fun z=>by rw [hm z];simp) [] (by simp) (by simp)
 unfold copN
 simpa using this
theorem copN_nodup {l:List Int} (h:l.Nodup):copN l=0:=by
 have:=copN_dist h (l:=l) (fun _=>Iff.rfl)
 omega
end Go.Proofs.Ytfiiihpdekppiaa
end
section
namespace Go.Proofs.Ytfiiihpdekppiaa
open Go.RowKit Go.Proofs Go.Proofs.YtfiiihpdekppiaaW.PrintWords
open PShapeReducible (S31 S77 rd_T77)
def IsV (ss:List S77) (n:Int):Prop:=0<=n/\n < ss.length/\(rd_T77 ss n).f0=0
theorem rTos_ok {ss:List S77} {row:List Int}:∀ (ts:List Int) (j:Nat) (st:List Int),j+ts.length=row.length->st.length+ts.length < 1000000000->(∀ i,i < ts.length->∃ m:Nat,nx ss (ts.getD i 0)=some (m:Int)/\m < ss.length/\(rd_T77 ss m).f0=0/\(rd_T77 ss m).f1=row.getD (j+i) 0)->(∀ n∈st,IsV ss n) ->
  ∃ st',rTos ss row j ts st=some (some st')/\st'.length=st.length+ts.length/\∀ n∈st',IsV ss n
 | [],j,st,_,_,_,h=>⟨st,rfl,rfl,h⟩
 | t :: ts,j,st,hj,hb,hs,h=>by
  simp only [List.length_cons] at hj hb
  obtain ⟨m,h1,h2,h3,h4⟩:=hs 0 (by simp)
  simp only [List.getD_cons_zero,Nat.add_zero] at h1 h4
  unfold rTos
  rw [h1]
  simp only [Option.bind_some]
  rw [if_neg (by omega),if_pos ⟨by omega,by omega,by omega⟩,if_neg (by rw [h4];simp)]
  obtain ⟨st',e,hl,hv⟩:=rTos_ok (ss:=ss) (row:=row) ts (j+1) ((m:Int) :: st) (by omega) (by simp only [List.length_cons];omega) (fun i hi=>by
   obtain ⟨m',a,b,c,d⟩:=hs (i+1) (by simp only [List.length_cons];omega)
   exact ⟨m',by simpa using a,b,c,by rw [d,show j+(i+1)=j+1+i by omega]⟩) (fun n hn=>by
   rcases List.mem_cons.1 hn with rfl | hn
   ·exact ⟨by omega,by omega,h3⟩
   ·exact h n hn)
  exact ⟨st',e,by rw [hl];simp only [List.length_cons];omega,hv⟩
theorem count_set:∀ (l:List Bool) (n:Nat),n < l.length->l.getD n false=false->(l.set n true).count false+1=l.count false
 | [],n,h,_=>by simp at h
 | b :: l,0,_,h=>by
  simp only [List.getD_cons_zero] at h
  subst h
  simp
 | b :: l,n+1,h,h0=>by
  have:=count_set l n (by simpa using h) (by simpa using h0)
  simp only [List.set_cons_succ,List.count_cons]
  omega
theorem rchk_ok {ss:List S77} {g:List (List Int)} {R:Nat} (hs:∀ i,i < ss.length->(rd_T77 ss i).f0=0->StepOk ss g i) (hR:∀ l∈g,l.length<=R):∀ (u:Nat) (st:List Int) (seen:List Bool),seen.length=ss.length->seen.count false<=u->(∀ n∈st,IsV ss n)->st.length+u * R < 1000000000->∃ k,rChk ss g k seen st=some true
 | u,[],seen,_,_,_,_=>⟨1,rfl⟩
 | u,n :: st,seen,hl,hu,hv,hb=>by
  have hn:=hv n (by simp)
  simp only [List.length_cons] at hb
  by_cases hsn:seen.getD n.toNat false=true
  ·obtain ⟨k,hk⟩:=rchk_ok hs hR u st seen hl hu (fun m hm=>hv m (by simp [hm])) (by omega)
   refine ⟨k+1,?_⟩
   rw [rChk,if_pos ⟨hn.1,hn.2.1⟩,if_pos hsn]
   exact hk
  ·obtain ⟨i,rfl⟩:∃ i:Nat,n=i:=⟨n.toNat,by have:=hn.1;omega⟩
   have hil:i < ss.length:=by have:=hn.2.1;omega
   obtain ⟨s1,s2,s3,s4⟩:=hs i hil hn.2.2
   have hrow:(g.getD (rd_T77 ss i).f1.toNat []).length<=R:=by
    rw [List.getD_eq_getElem?_getD]
    cases e:g[(rd_T77 ss i).f1.toNat]? with
    | none=>simp
    | some l=>exact hR l (List.mem_of_getElem? e)
   have hc:=count_set seen i (by omega) (by simpa using hsn)
   obtain ⟨u,rfl⟩:∃ u',u=u'+1:=⟨u - 1,by omega⟩
   rw [Nat.add_mul] at hb
   obtain ⟨st',e,hl',hv'⟩:=rTos_ok (ss:=ss) (row:=g.getD (rd_T77 ss i).f1.toNat []) (rd_T77 ss i).f2 0 st (by omega) (by omega) (fun j hj=>by simpa using s4 j hj) (fun m hm=>hv m (by simp [hm]))
   obtain ⟨k,hk⟩:=rchk_ok hs hR u st' (seen.set i true) (by simpa using hl) (by omega) hv' (by omega)
   refine ⟨k+1,?_⟩
   rw [rChk,if_pos ⟨hn.1,hn.2.1⟩,if_neg hsn,if_pos s1,e]
   exact hk
termination_by u st=>(u,st.length)
theorem refcheck_true {g:List (List Int)} {x:S31} (hv:ValidG g) (h0:0 < g.length) (hl:g.length<=100) (hrow:∀ l∈g,l.length<=100) (hx:szF x<=400000) (hc:(compileF g x).length≠0) (hs:SimOk ((compileF g x).map Stp.s77) g):RefCheckIs x g true:=by
 have hcl:=compileF_len g x
 have hsz:=szF_eq x
 have hval:=refValid_is g (by omega) (fun l hl=>by have:=hrow l hl;omega)
 rw [decide_eq_true (show ValidG g/\0 < g.length from ⟨hv,h0⟩)] at hval
 obtain ⟨⟨f,f1,f2,f3,f4⟩,hst⟩:=hs
 have hlen:((compileF g x).map Stp.s77).length=(compileF g x).length:=by simp
 obtain ⟨k,hk⟩:=rchk_ok hst hrow _ [(f:Int)] (List.replicate ((compileF g x).map Stp.s77).length false) (by simp) (Nat.le_refl _) (fun n hn=>by rw [List.mem_singleton.1 hn];exact ⟨by omega,by omega,f3⟩) (by
  rw [List.count_replicate_self,hlen]
  simp only [List.length_singleton]
  omega)
 refine .inr ⟨hval,by omega,by omega,k,?_⟩
 unfold rCheckS
 rw [if_neg (by rw [hlen];exact hc),f1]
 simp only [Option.bind_some]
 rw [if_neg (by omega),if_pos (by omega),if_neg (by rw [f4];simp)]
 exact hk
theorem MadeOk.check {g:List (List Int)} {budget:Int} {x:S31} (h:MadeOk g budget x) (hv:ValidG g) (h0:0 < g.length) (hl:g.length<=100) (hrow:∀ l∈g,l.length<=100):RefCheckIs x g true:=refcheck_true hv h0 hl hrow h.sz h.len h.sim
end Go.Proofs.Ytfiiihpdekppiaa
end
section
namespace Go.Proofs.Ytfiiihpdekppiaa
open Go.RowKit Go.Proofs Go.Proofs.YtfiiihpdekppiaaW.PrintWords
open Go.ChangeMaps (setBlock heap_setBlock_same heap_setBlock_other)
def PairsAt (w:World) (A:Option Addr) (l:List (Int × Int)):Prop :=
 ∀ i,i < l.length->∃ x,A=some x/\w.cell? (x.add (i * 2))=some (.int .i64 (l.getD i (0,0)).1)/\w.cell? ⟨(x.add (i * 2)).block,(x.add (i * 2)).off+1,none⟩=some (.int .i64 (l.getD i (0,0)).2)
theorem PairsAt.below {w w':World} {A:Option Addr} {l:List (Int × Int)} (h:PairsAt w A l) (hb:Below w.heap.size w w'):PairsAt w' A l:=fun i hi=>by
 obtain ⟨x,e,h1,h2⟩:=h i hi
 exact ⟨x,e,(hb.cell (World.block_lt_of_cell? w _ h1)).trans h1,(hb.cell (World.block_lt_of_cell? w _ h2)).trans h2⟩
theorem Mem.makeMat {w0 w:World} {F H:List Pc} (h:Mem w0 w F H) (n:Nat) (hn:n<=1000000) :
  ∃ b w2,w.heap.size=b/\w.alloc (.cells (madeCells #[.slice none 0 0] n) 23)=w2/\Mem w0 w2 F (H++[.row (.slice (some ⟨b,0,none⟩) n n) 23 1 n (List.replicate n nilS),.rows (List.replicate n nilS) (List.replicate n [])]):=by
 refine ⟨_,_,rfl,rfl,?_⟩
 have e:(madeCells #[nilS] n).toList=List.replicate n nilS:=by
  apply List.ext_getElem <;> simp [madeCells,Nat.mod_one]
 have h1:=h.newrow ((Below.refl w.heap.size w).alloc (Nat.le_refl _) (.cells (madeCells #[nilS] n) 23)) (b:=w.heap.size) (e:=23) (size:=1) (n:=n) (v:=.slice (some ⟨w.heap.size,0,none⟩) n n) (xs:=List.replicate n nilS) (by
  refine ⟨by simp,.inr ⟨w.heap.size,n,madeCells #[nilS] n,rfl,Nat.le_refl _,by show (w.heap.push _)[w.heap.size]?=_;exact Array.getElem?_push_size,by simp,by simp only [maxLen];omega,by simp [size_madeCells],?_⟩⟩
  rw [e];simp) (fun k hk=>by simp only [Value.ownBlock,Option.some.injEq] at hk;omega)
 have h2:=h1.new (.rows (List.replicate n nilS) (List.replicate n [])) (Below.refl _ _) (Rows3.nils _ _ _) (fun b ⟨i,hi,hb⟩=>by
  rw [getD_rep (by simpa using hi)] at hb
  simp [Value.ownBlock] at hb)
 rwa [List.append_assoc] at h2
end Go.Proofs.Ytfiiihpdekppiaa
end
section
namespace Go.Proofs.Ytfiiihpdekppiaa
open Go.RowKit Go.Proofs Go.Proofs.YtfiiihpdekppiaaW.PrintWords
open Go.ChangeMaps (setBlock heap_setBlock_same heap_setBlock_other)
open PShapeReducible (S31 k31 S77 k77)
theorem Mem.toMat {w0 w:World} {F H:List Pc} {v:Value} {vs:List Value} {g:List (List Int)} {n:Nat} (hn:n=vs.length) (h:Mem w0 w F (H++[.row v 23 1 n vs,.rows vs g])):Mem w0 w F (H++[.mat v vs g]):=by
 subst hn
 have h1:MemL w0 w (.row v 23 1 vs.length vs :: .rows vs g :: (H++F)):=MemL.perm h (by
  rw [List.append_assoc]
  exact (List.perm_append_comm_assoc [Pc.row v 23 1 vs.length vs,.rows vs g] H F))
 have h2:MemL w0 w (.mat v vs g :: (H++F)):=h1.merge ⟨h1.says (.row v 23 1 vs.length vs) (by simp),h1.says (.rows vs g) (by simp)⟩ (fun b hb=>hb)
 exact MemL.perm h2 (by
  rw [List.append_assoc]
  exact (List.perm_append_comm_assoc H [Pc.mat v vs g] F))
def acStep (g:List (List Int)) (p:Int × Int):List (List Int) :=
 if (g.getD (modI p.1 39).toNat []).length < 4 then g.set (modI p.1 39).toNat (g.getD (modI p.1 39).toNat []++[modI p.1 39+1+modI p.2 (39 - modI p.1 39)]) else g
def acLoop (l:List (Int × Int)):List (List Int):=l.foldl acStep (List.replicate 40 [])
structure AcOk (g:List (List Int)):Prop where
 len:g.length=40
 row:∀ r∈g,r.length<=4
 val:∀ (i:Nat) (s:Int),s∈g.getD i []->(i:Int) < s/\s < 40
theorem acStep_ok {g:List (List Int)} (h:AcOk g) (p:Int × Int):AcOk (acStep g p):=by
 have h1:=modI_range p.1 39 (by omega) (by omega)
 have h1:0<=modI p.1 39/\modI p.1 39 < 39:=h1
 obtain ⟨f,hf⟩:∃ f:Nat,modI p.1 39=f:=⟨(modI p.1 39).toNat,by omega⟩
 have h2:=modI_range p.2 (39 - f) (by omega) (by omega)
 have e:((39 - f:Nat):Int)=39 - (f:Int):=by omega
 rw [e] at h2
 unfold acStep
 rw [hf,Int.toNat_natCast]
 split
 ·next hlt =>
  refine ⟨by simp [h.len],fun r hr=>?_,fun i s hs=>?_⟩
  ·rcases List.mem_or_eq_of_mem_set hr with h3 | h3
   ·exact h.row r h3
   ·rw [h3,List.length_append,List.length_singleton];omega
  ·rw [List.getD_eq_getElem?_getD,List.getElem?_set] at hs
   split at hs
   ·next hif =>
    subst hif
    rw [if_pos (by rw [h.len];omega)] at hs
    simp only [Option.getD_some,List.mem_append,List.mem_singleton] at hs
    rcases hs with hs | hs
    ·exact h.val f s hs
    ·omega
   ·rw [<-List.getD_eq_getElem?_getD] at hs;exact h.val i s hs
 ·exact h
theorem acLoop_ok (l:List (Int × Int)):AcOk (acLoop l):=by
 have:∀ (l:List (Int × Int)) (g:List (List Int)),AcOk g->AcOk (l.foldl acStep g):=fun l=>by
  induction l with
  | nil=>exact fun g h=>h
  | cons a l ih=>intro g h;rw [List.foldl_cons];exact ih _ (acStep_ok h a)
 exact this l _ ⟨by simp,fun r hr=>by rw [List.eq_of_mem_replicate hr];simp,fun i s hs=>by
  rw [List.getD_eq_getElem?_getD,List.getElem?_replicate] at hs
  split at hs <;> simp at hs⟩
theorem acLoop_snoc (l:List (Int × Int)) (k:Nat) (hk:k < l.length):acLoop (l.take (k+1))=acStep (acLoop (l.take k)) (l.getD k (0,0)):=by
 unfold acLoop
 rw [List.take_succ_eq_append_getElem hk,List.foldl_append,List.getD_eq_getElem?_getD,List.getElem?_eq_getElem hk]
 rfl
theorem AcOk.valid {g:List (List Int)} (h:AcOk g):ValidG g:=fun l hl s hs=>by
 obtain ⟨i,hi,rfl⟩:=List.mem_iff_getElem.1 hl
 have:=h.val i s (by rw [List.getD_eq_getElem?_getD,List.getElem?_eq_getElem hi];exact hs)
 rw [h.len]
 omega
theorem AcOk.acyc {g:List (List Int)} (h:AcOk g):∀ u,Reach g 0 u->∀ s∈succs g u,¬ Reach g s u:=by
 have hup:∀ a b,Reach g a b->0<=a->a<=b:=fun a b hr=>by
  induction hr with
  | refl=>exact fun _=>Int.le_refl _
  | @step b c _ hc ih =>
   intro h0
   have:=ih h0
   have:=h.val b.toNat c hc
   omega
 intro u hu s hs hr
 have h0:=hup 0 u hu (Int.le_refl _)
 have:=h.val u.toNat s hs
 have:=hup s u hr (by omega)
 omega
theorem acyc_struct (l:List (Int × Int)):∃ x,StructIs (acLoop l) 0 x 0/\RefCheckIs x (acLoop l) true/\(∃ k,PShapeReducible.vellumref12_Copies.f k x.f0 x.f1 x.f2 x.f3=some 0)/\(∃ k,PShapeReducible.vellumref12_Count.f k x.f0 x.f1 x.f2 x.f3 3=some 0)/\∃ k,PShapeReducible.vellumref12_Count.f k x.f0 x.f1 x.f2 x.f3 6=some 0:=by
 have h:=acLoop_ok l
 have hrow:∀ r∈acLoop l,r.length<=100:=fun r hr=>by have:=h.row r hr;omega
 have hlen:=h.len
 obtain ⟨x,err,hS,hr⟩:=struct_full h.valid (by omega) (by omega) hrow 0 (by omega)
 have hred:=acyc_red h.acyc
 rcases hr with ⟨rfl,hM⟩ | ⟨_,_,hn,_⟩
 ·obtain ⟨v1,v2,v3⟩:=hM.red hred
  have hsz:=hM.sz
  refine ⟨x,hS,hM.check h.valid (by omega) (by omega) hrow,?_,?_,?_⟩
  ·have:=copies_is x (by omega)
   rwa [copN_nodup v1] at this
  ·have:=count_is 3 x (by omega)
   rw [hM.cnt] at this
   have e:loopL x=[]:=by
    rw [List.eq_nil_iff_forall_not_mem]
    intro z hz
    obtain ⟨u,hu,hzu,hd⟩:=(v3 z).1 hz
    have hzr:Reach (acLoop l) z u:=by
     refine Classical.byContradiction fun hnr=>hd ?_
     have:∀ a b,Reach (acLoop l) a b->a=0->(¬ RA (acLoop l) z 0 b->Reach (acLoop l) z b):=fun a b hab=>by
      induction hab with
      | refl =>
       rintro rfl hn
       by_cases e:(0:Int)=z
       ·rw [<-e];exact .refl _
       ·exact absurd (RA.refl e) hn
      | @step b c _ hc ih =>
       intro e hn
       by_cases hb:RA (acLoop l) z 0 b
       ·by_cases e2:c=z
        ·rw [e2];exact .refl _
        ·exact absurd (RA.step hb hc e2) hn
       ·exact (ih e hb).step hc
     exact absurd (this 0 u hu rfl hd) hnr
    exact h.acyc u hu z hzu hzr
   rw [e] at this
   exact this
  ·have:=count_is 6 x (by omega)
   rw [hM.acy h.acyc] at this
   exact this
 ·exact absurd hred hn
set_option maxRecDepth 100000 in
set_option maxHeartbeats 8000000 in
theorem acyclic_any (w:World) (A:Option Addr) (c:Nat) (l:List (Int × Int)) (hP:PairsAt w A l) (hl:l.length<=100000000000000) (_:l.length<=c) :
  Calls Try.prog 10 #[.slice A l.length c] w fun e w'=>e=.returned (.bool true)/\Below w.heap.size w w':=by
 have SAN:=ak_ (fun w=>sanity_any sanS sanT sanU ⟨0,0,0,[]⟩ sanFacts w)
 obtain ⟨x,hx,hc,h1,h2,h3⟩:=acyc_struct l
 have HX:=ak_ hx
 have HC:=ak_ hc
 have H1:=ak_ h1
 have H2:=ak_ h2
 have H3:=ak_ h3
 have HP:=ak_ hP
 have HL:=ak_ hl
 clear hx hc h1 h2 h3 hP hl
 have MOD:=ak_ (fun a b w h=>mod_any a b w h)
 have hmk:=print_make_of (P:=Try.prog) 25 23 nilS 24 Try.underlying25 info23 rfl (by decide) 40 (by omega)
 rw [show ((40:Nat):Int)=40 from rfl] at hmk
 go_enter Try.func10,Try.ntmps10
 go_wp2_with (fail)
 refine (SAN.out w).mono ?_
 rintro e w1 ⟨rfl,hb1⟩
 obtain ⟨b12,w2,z2,a2,M2⟩:=((Mem.start w).below hb1).makeMat 40 (by omega)
 obtain ⟨b4,w3,z3,a3,M3⟩:=M2.alloc (.cells #[.slice none 0 0] 27)
 have k4:=M3.cell (k:=2) (j:=0) rfl rfl
 have f4:=M3.free (k:=2) (j:=0) rfl
 obtain ⟨w4,s4,M4⟩:=M3.set (k:=2) 0 rfl (.slice (some ⟨b12,0,none⟩) 40 40)
 have M4:=ak_ (show Mem w w4 [] [.row (.slice (some ⟨b12,0,none⟩) 40 40) 23 1 40 (List.replicate 40 nilS),.rows (List.replicate 40 nilS) (acLoop (l.take 0)),.blk b4 (.cells #[.slice (some ⟨b12,0,none⟩) 40 40] 27 (0,0))] from M4)
 clear M2 M3 hb1
 dsimp only
 go_wp2
 clear k4 f4 s4 a2 a3 z2 z3 hmk
 go_loopw [5] (fun t wr=>∃ (k:Nat) (vs:List Value),t=.int .i64 k/\k<=l.length/\Aside0 (Mem w wr [] [.row (.slice (some ⟨b12,0,none⟩) 40 40) 23 1 40 vs,.rows vs (acLoop (l.take k)),.blk b4 (.cells #[.slice (some ⟨b12,0,none⟩) 40 40] 27 (0,0))])) (fun t _=>l.length - (intOf t).toNat)
 case atStart=>exact ⟨0,_,rfl,Nat.zero_le _,M4⟩
 case round =>
  clear M4
  obtain ⟨k,vs,rfl,hk,hM⟩:=hrel
  by_cases hlt:k < l.length
  ·obtain ⟨y,eA,e0,e1⟩:=(HP.out.below hM.out.hb) k hlt
   subst eA
   have g4:wr.cell? ⟨b4,0,none⟩=some (.slice (some ⟨b12,0,none⟩) 40 40):=hM.out.cell (k:=2) (j:=0) rfl rfl
   obtain ⟨p,hp⟩:∃ p,p=l.getD k (0,0):=⟨_,rfl⟩
   rw [<-hp] at e0 e1
   obtain ⟨g,hg⟩:∃ g,g=acLoop (l.take k):=⟨_,rfl⟩
   rw [<-hg] at hM
   have hgl:g.length=40:=by rw [hg];exact (acLoop_ok _).len
   have hgr:∀ r∈g,r.length<=4:=by rw [hg];exact (acLoop_ok _).row
   have hmr:0<=modI p.1 39/\modI p.1 39 < 39:=modI_range p.1 39 (by omega) (by omega)
   obtain ⟨f,hf⟩:∃ f:Nat,modI p.1 39=f:=⟨(modI p.1 39).toNat,by omega⟩
   have hfN:f < 39:=by omega
   have hmr2:=modI_range p.2 (39 - f) (by omega) (by omega)
   have em2:((39 - f:Nat):Int)=39 - (f:Int):=by omega
   rw [em2] at hmr2
   obtain ⟨m2,hm2⟩:∃ m2,modI p.2 (39 - (f:Int))=m2:=⟨_,rfl⟩
   rw [hm2] at hmr2
   have hvl:vs.length=g.length:=(hM.out.rows (k:=1) rfl).len
   obtain ⟨Ar,nr,ev,_⟩:=hM.out.rowsAt (k:=1) rfl (i:=f) (by omega)
   obtain ⟨q,hq⟩:∃ q,q=g.getD f []:=⟨_,rfl⟩
   rw [<-hq] at ev
   have hq4:q.length<=4:=by
    rw [hq,List.getD_eq_getElem?_getD,List.getElem?_eq_getElem (by omega)]
    exact hgr _ (List.getElem_mem _)
   have gr:wr.cell? ⟨b12,f,none⟩=some (.slice Ar q.length nr):=by
    obtain ⟨b',c',e,_,hc⟩:=hM.out.rowForm (k:=0) rfl (by omega)
    injection e with e
    injection e with e
    injection e with e
    subst e
    refine hc f _ ?_
    rw [<-ev,List.getD_eq_getElem?_getD,List.getElem?_eq_getElem (by omega)]
    rfl
   have HF:=ak_ hf
   have HM2:=ak_ hm2
   have HQ:=ak_ hq
   have HG:=ak_ hg
   have HP2:=ak_ hp
   have HK:=ak_ hlt
   have HFN:=ak_ hfN
   have HEV:=ak_ ev
   have HGL:=ak_ hgl
   have HQ4:=ak_ hq4
   have hlt':(k:Int) < l.length:=by omega
   have hfN':(f:Int) < 39:=by omega
   have hf40:(f:Int) < 40:=by omega
   clear hf hm2 hq hg hp hlt hfN hmr ev hvl hgl hgr em2
   by_cases hc:q.length < 4
   ·have hc':(q.length:Int) < 4:=by omega
    go_wp2_with (go_at_call 33;refine (MOD.out p.1 39 wr (by omega)).mono ?_;rintro e w5 ⟨rfl,hd5⟩;rw [HF.out];have M5:=ak_ (hM.out.drawn hd5);have t0:=pw_cell_below hd5.below e0;have t1:=pw_cell_below hd5.below e1;have t4:=pw_cell_below hd5.below g4;have tr:=pw_cell_below hd5.below gr;clear hM e0 e1 g4 gr)
    obtain ⟨w6,z6,M6⟩:=M5.out.drew
    have M6:=ak_ M6
    have r1:w6.cell? ⟨(y.add (k * 2)).block,(y.add (k * 2)).off+1,none⟩=some (.int .i64 p.2):=by rw [<-z6];exact t1
    have r4:w6.cell? ⟨b4,0,none⟩=some (.slice (some ⟨b12,0,none⟩) 40 40):=by rw [<-z6];exact t4
    have rr:w6.cell? ⟨b12,f,none⟩=some (.slice Ar q.length nr):=by rw [<-z6];exact tr
    clear t0 t1 t4 tr hc
    go_wp2_with (first | (rw [z6]) | (refine wp_region_txt (fun W=>W.cell? ⟨b4,0,none⟩=some (.slice (some ⟨b12,0,none⟩) 40 40)) [1,1017] (by kernel_rfl) (by kernel_rfl) ?_))
    clear z6
    iterate 17 ((first | (with_reducible refine wpT_nil ?_) | (refine wpT_W (v:=?_) (by assumption) (by decide) (wn_ rfl) (fun _ hS_=>?_) ?_;rotate_left;(focus ((try dsimp only at hS_);go_simp;rfl))) | (refine wpT_R (v:=?_) (by assumption) (by decide) (wn_ rfl) ?_ ?_;rotate_left;(focus (go_simp;rfl))) | (refine wpT_A (v:=?_) (ob:=?_) (by assumption) (by decide) (wn_ rfl) ?_ ?_ ?_;rotate_left 2;(focus (go_simp;first | (constructor <;> rfl) | rfl));(focus (apply cell_alloc;assumption))));(try simp only [Act.put,sA_,sB_,sC_]))
    refine wpT_LA r4 (by decide) (wn_ rfl) (fun K_ hK_=>?_)
    go_wp2_with (go_at_call 33;refine (MOD.out p.2 (39 - (f:Int)) w6 (by omega)).mono ?_;rintro e w7 ⟨rfl,hd7⟩;rw [HM2.out])
    have M7:=ak_ (M6.out.drawn hd7)
    have r7:w7.cell? ⟨b4,0,none⟩=some (.slice (some ⟨b12,0,none⟩) 40 40):=M7.out.cell (k:=2) (j:=0) rfl rfl
    refine hK_ _ _ ⟨hd7.below.size,hd7.below.block⟩ r7 ?_
    clear hK_ hd7 r1 r4 rr
    iterate 2 ((first | (with_reducible refine wpT_nil ?_) | (refine wpT_W (v:=?_) (by assumption) (by decide) (wn_ rfl) (fun _ hS_=>?_) ?_;rotate_left;(focus ((try dsimp only at hS_);go_simp;rfl))) | (refine wpT_R (v:=?_) (by assumption) (by decide) (wn_ rfl) ?_ ?_;rotate_left;(focus (go_simp;rfl))) | (refine wpT_A (v:=?_) (ob:=?_) (by assumption) (by decide) (wn_ rfl) ?_ ?_ ?_;rotate_left 2;(focus (go_simp;first | (constructor <;> rfl) | rfl));(focus (apply cell_alloc;assumption))));(try simp only [Act.put,sA_,sB_,sC_]))
    refine wpT_L (cell_alloc _ r7) (by decide) (wn_ rfl) (fun K_ hK_=>?_)
    refine step_mem_at (ops:=#[]) 1 f rfl (.tmp 38) (.tmp 50) rfl Try.underlying23 PShapeReducible.info3 vs g (IntKind.i64.wrap (IntKind.i64.wrap ((f:Int)+1)+m2)) (by rw [HEV.out];rfl) rfl M7.out rfl (by rw [HGL.out];have:=HFN.out;omega) (by rw [<-HQ.out];have:=HQ4.out;omega) ?_
    intro A8 c8 w8 M8
    have ey:IntKind.i64.wrap (IntKind.i64.wrap ((f:Int)+1)+m2)=(f:Int)+1+m2:=by
     rw [IntKind.wrap_i64,IntKind.wrap_i64];omega
    rw [ey,<-HQ.out] at M8
    rw [<-HQ.out]
    clear ey
    have hr8:w8.cell? ⟨b12,f,none⟩=some (vs.getD f nilS):=by
     obtain ⟨b',c',e,_,hc⟩:=M8.rowForm (k:=0) rfl (by omega)
     injection e with e
     injection e with e
     injection e with e
     subst e
     refine hc f _ ?_
     have:=(M8.rows (k:=1) rfl).len
     rw [List.getD_eq_getElem?_getD,List.getElem?_eq_getElem (by simp only [List.length_set] at this;rw [this,HGL.out];have:=HFN.out;omega)]
     rfl
    rw [HEV.out] at hr8
    have hz8:=(M8.row (k:=0) rfl).frozenAt f
    obtain ⟨w9,s9,M9⟩:=M8.rowPut (k:=0) f rfl (.slice A8 (q.length+1) c8)
    have r8:w8.cell? ⟨b4,0,none⟩=some (.slice (some ⟨b12,0,none⟩) 40 40):=M8.cell (k:=2) (j:=0) rfl rfl
    have r9:w9.cell? ⟨b4,0,none⟩=some (.slice (some ⟨b12,0,none⟩) 40 40):=M9.cell (k:=2) (j:=0) rfl rfl
    have M9:=ak_ M9
    refine hK_ _ _ r8 ?_
    clear hK_ M8 r7
    iterate 1 ((first | (with_reducible refine wpT_nil ?_) | (refine wpT_W (v:=?_) (by assumption) (by decide) (wn_ rfl) (fun _ hS_=>?_) ?_;rotate_left;(focus ((try dsimp only at hS_);go_simp;rfl))) | (refine wpT_R (v:=?_) (by assumption) (by decide) (wn_ rfl) ?_ ?_;rotate_left;(focus (go_simp;rfl))) | (refine wpT_A (v:=?_) (ob:=?_) (by assumption) (by decide) (wn_ rfl) ?_ ?_ ?_;rotate_left 2;(focus (go_simp;first | (constructor <;> rfl) | rfl));(focus (apply cell_alloc;assumption))));(try simp only [Act.put,sA_,sB_,sC_]))
    refine wpT_L r8 (by decide) (wn_ rfl) (fun K_ hK_=>?_)
    go_simp
    refine hK_ _ _ r9 ?_
    clear hK_
    refine wpT_nil ?_
    clear hr8 hz8 s9
    have hL:=HL.out
    go_wp2
    go_roundw
    case rel =>
     refine ⟨k+1,vs.set f (.slice A8 (q.length+1) c8),by go_num,by have:=HK.out;omega,⟨?_⟩⟩
     have hst:acLoop (l.take (k+1))=g.set f (q++[(f:Int)+1+m2]):=by
      rw [acLoop_snoc l k HK.out,<-HG.out,<-HP2.out]
      unfold acStep
      rw [HF.out,Int.toNat_natCast,<-HQ.out,if_pos (by omega),HM2.out]
     rw [hst]
     exact M9.out
    case measure=>have:=HK.out;simp [intOf];omega
   ·have hc':¬ ((q.length:Int) < 4):=by omega
    go_wp2_with (go_at_call 33;refine (MOD.out p.1 39 wr (by omega)).mono ?_;rintro e w5 ⟨rfl,hd5⟩;rw [HF.out];have M5:=ak_ (hM.out.drawn hd5);have t4:=pw_cell_below hd5.below g4;have tr:=pw_cell_below hd5.below gr;clear hM e0 e1 g4 gr;have hL:=HL.out)
    go_roundw
    case rel =>
     refine ⟨k+1,vs,by go_num,by have:=HK.out;omega,⟨?_⟩⟩
     have hst:acLoop (l.take (k+1))=g:=by
      rw [acLoop_snoc l k HK.out,<-HG.out,<-HP2.out]
      unfold acStep
      rw [HF.out,Int.toNat_natCast,<-HQ.out,if_neg hc]
     rw [hst]
     exact M5.out
    case measure=>have:=HK.out;simp [intOf];omega
  ·obtain rfl:k=l.length:=by omega
   have hvl:(40:Nat)=vs.length:=by have:=(hM.out.rows (k:=1) rfl).len;rw [this,(acLoop_ok _).len]
   have M5:=(hM.out.order [2,0,1] rfl).toMat (H:=[.blk b4 (.cells #[.slice (some ⟨b12,0,none⟩) 40 40] 27 (0,0))]) hvl
   rw [List.take_length] at M5
   obtain ⟨g,hg⟩:∃ g,g=acLoop l:=⟨_,rfl⟩
   have hgl:g.length=40:=by rw [hg];exact (acLoop_ok _).len
   rw [<-hg] at M5 HX HC
   have M5:=ak_ (show Mem w wr [] [.blk b4 (.cells #[.slice (some ⟨b12,0,none⟩) g.length 40] 27 (0,0)),.mat (.slice (some ⟨b12,0,none⟩) g.length 40) vs g] by rw [hgl];exact M5)
   have g4:wr.cell? ⟨b4,0,none⟩=some (.slice (some ⟨b12,0,none⟩) g.length 40):=M5.out.cell (k:=0) (j:=0) rfl rfl
   clear hM hvl hg hgl
   go_wp2_with (fail)
   refine (Mem.struct (g:=g) (k:=1) M5.out rfl HX.out).mono ?_
   rintro e w8 ⟨A3,xn,ok,rfl,M9⟩
   obtain ⟨b10,w9,z9,a9,M10⟩:=M9.alloc (.cells #[.int .i64 0,.int .i64 0,.int .i64 0,.slice none 0 0] 31)
   obtain ⟨y1,y2,y3,y4,⟨s1,s2,s3,s4⟩,⟨c1,c2,c3,c4⟩,⟨f1,f2,f3,f4⟩,M11⟩:=M10.fill4 (k:=3) rfl (.int .i64 x.f0) (.int .i64 x.f1) (.int .i64 x.f2) (.slice A3 x.f3.length xn)
   obtain ⟨w12,z12,M12⟩:=M11.drew
   have M12:=ak_ (show Mem w w12 [] [.blk b4 (.cells #[.slice (some ⟨b12,0,none⟩) g.length 40] 27 (0,0)),.mat (.slice (some ⟨b12,0,none⟩) g.length 40) vs g,.fk ok x (shc x A3 xn),.blk b10 (.cells #[.int .i64 x.f0,.int .i64 x.f1,.int .i64 x.f2,.slice A3 x.f3.length xn] 31 (0,0))] from M12)
   clear M5 M9 M10 M11 g4
   dsimp only
   go_wp2_with (first | (rw [z12]) | (refine wp_region_txt (fun W=>W.cell? ⟨b10,0,none⟩=some (.int .i64 x.f0)/\W.cell? ⟨b10,1,none⟩=some (.int .i64 x.f1)/\W.cell? ⟨b10,2,none⟩=some (.int .i64 x.f2)/\W.cell? ⟨b10,3,none⟩=some (.slice A3 x.f3.length xn)) [18] (by kernel_rfl) (by kernel_rfl) ?_))
   clear s1 s2 s3 s4 c1 c2 c3 c4 f1 f2 f3 f4 z12 z9 a9
   have S0:w12.cell? ⟨b10,0,none⟩=some (.int .i64 x.f0)/\w12.cell? ⟨b10,1,none⟩=some (.int .i64 x.f1)/\w12.cell? ⟨b10,2,none⟩=some (.int .i64 x.f2)/\w12.cell? ⟨b10,3,none⟩=some (.slice A3 x.f3.length xn):=⟨M12.out.cell (k:=3) (j:=0) rfl rfl,M12.out.cell (k:=3) (j:=1) rfl rfl,M12.out.cell (k:=3) (j:=2) rfl rfl,M12.out.cell (k:=3) (j:=3) rfl rfl⟩
   have e4:w12.cell? ⟨b4,0,none⟩=some (.slice (some ⟨b12,0,none⟩) g.length 40):=M12.out.cell (k:=0) (j:=0) rfl rfl
   iterate 8 ((first | (with_reducible refine wpT_nil ?_) | (refine wpT_W (v:=?_) (by assumption) (by decide) (by first | exact wn_ rfl | rfl) (fun _ hS_=>?_) ?_;rotate_left;(focus ((try dsimp only at hS_);go_simp;rfl))) | (refine wpT_R (v:=?_) (by assumption) (by decide) (by first | exact wn_ rfl | rfl) ?_ ?_;rotate_left;(focus (go_simp;rfl))) | (refine wpT_A (v:=?_) (ob:=?_) (by assumption) (by decide) (by first | exact wn_ rfl | rfl) ?_ ?_ ?_;rotate_left 2;(focus (go_simp;first | (constructor <;> rfl) | rfl));(focus (apply cell_alloc;assumption))) | (refine wpT_no (by assumption) rfl (by decide) ?_));(try simp only [Act.put,sA_,sB_,sC_]))
   refine wpT_L S0 (by decide) (by first | exact wn_ rfl | rfl) (fun K_ hK_=>?_)
   go_wp2_with (go_at_call 22;refine (Mem.rcheck (g:=g) (k:=1) (j:=2) M12.out rfl rfl HC.out).mono ?_;rintro e w13 ⟨rfl,M13⟩)
   have M13:=ak_ M13
   have S1:w13.cell? ⟨b10,0,none⟩=some (.int .i64 x.f0)/\w13.cell? ⟨b10,1,none⟩=some (.int .i64 x.f1)/\w13.cell? ⟨b10,2,none⟩=some (.int .i64 x.f2)/\w13.cell? ⟨b10,3,none⟩=some (.slice A3 x.f3.length xn):=⟨M13.out.cell (k:=3) (j:=0) rfl rfl,M13.out.cell (k:=3) (j:=1) rfl rfl,M13.out.cell (k:=3) (j:=2) rfl rfl,M13.out.cell (k:=3) (j:=3) rfl rfl⟩
   refine hK_ _ _ S1 ?_
   clear hK_ S0 e4 M12
   iterate 3 ((first | (with_reducible refine wpT_nil ?_) | (refine wpT_W (v:=?_) (by assumption) (by decide) (by first | exact wn_ rfl | rfl) (fun _ hS_=>?_) ?_;rotate_left;(focus ((try dsimp only at hS_);go_simp;rfl))) | (refine wpT_R (v:=?_) (by assumption) (by decide) (by first | exact wn_ rfl | rfl) ?_ ?_;rotate_left;(focus (go_simp;rfl))) | (refine wpT_A (v:=?_) (ob:=?_) (by assumption) (by decide) (by first | exact wn_ rfl | rfl) ?_ ?_ ?_;rotate_left 2;(focus (go_simp;first | (constructor <;> rfl) | rfl));(focus (apply cell_alloc;assumption))) | (refine wpT_no (by assumption) rfl (by decide) ?_));(try simp only [Act.put,sA_,sB_,sC_]))
   refine wpT_L S1 (by decide) (by first | exact wn_ rfl | rfl) (fun K_ hK_=>?_)
   obtain ⟨ka,hka⟩:=H1.out
   obtain ⟨kb,hkb⟩:=H2.out
   obtain ⟨kd,hkd⟩:=H3.out
   have HKA:=ak_ hka
   have HKB:=ak_ hkb
   have HKD:=ak_ hkd
   clear hka hkb hkd
   have HFK:=M13.out.fkC (k:=2) rfl
   go_wp2_with (go_at_call 23;refine (PShapeReducible.vellumref12_Copies.calls ka x.f0 x.f1 x.f2 A3 xn x.f3 0 w13 HFK.2 HFK.1 HKA.out).mono ?_;rintro e w14 ⟨rfl,hb14⟩)
   have M14:=ak_ (M13.out.below hb14)
   have S2:w14.cell? ⟨b10,0,none⟩=some (.int .i64 x.f0)/\w14.cell? ⟨b10,1,none⟩=some (.int .i64 x.f1)/\w14.cell? ⟨b10,2,none⟩=some (.int .i64 x.f2)/\w14.cell? ⟨b10,3,none⟩=some (.slice A3 x.f3.length xn):=⟨M14.out.cell (k:=3) (j:=0) rfl rfl,M14.out.cell (k:=3) (j:=1) rfl rfl,M14.out.cell (k:=3) (j:=2) rfl rfl,M14.out.cell (k:=3) (j:=3) rfl rfl⟩
   refine hK_ _ _ S2 ?_
   clear hK_ S1 M13 hb14 HFK
   iterate 4 ((first | (with_reducible refine wpT_nil ?_) | (refine wpT_W (v:=?_) (by assumption) (by decide) (by first | exact wn_ rfl | rfl) (fun _ hS_=>?_) ?_;rotate_left;(focus ((try dsimp only at hS_);go_simp;rfl))) | (refine wpT_R (v:=?_) (by assumption) (by decide) (by first | exact wn_ rfl | rfl) ?_ ?_;rotate_left;(focus (go_simp;rfl))) | (refine wpT_A (v:=?_) (ob:=?_) (by assumption) (by decide) (by first | exact wn_ rfl | rfl) ?_ ?_ ?_;rotate_left 2;(focus (go_simp;first | (constructor <;> rfl) | rfl));(focus (apply cell_alloc;assumption))) | (refine wpT_no (by assumption) rfl (by decide) ?_));(try simp only [Act.put,sA_,sB_,sC_]))
   refine wpT_L S2 (by decide) (by first | exact wn_ rfl | rfl) (fun K_ hK_=>?_)
   have HFK:=M14.out.fkC (k:=2) rfl
   go_wp2_with (go_at_call 24;refine (PShapeReducible.vellumref12_Count.calls kb x.f0 x.f1 x.f2 A3 xn x.f3 3 0 w14 HFK.2 HFK.1 HKB.out).mono ?_;rintro e w15 ⟨rfl,hb15⟩)
   have M15:=ak_ (M14.out.below hb15)
   have S3:w15.cell? ⟨b10,0,none⟩=some (.int .i64 x.f0)/\w15.cell? ⟨b10,1,none⟩=some (.int .i64 x.f1)/\w15.cell? ⟨b10,2,none⟩=some (.int .i64 x.f2)/\w15.cell? ⟨b10,3,none⟩=some (.slice A3 x.f3.length xn):=⟨M15.out.cell (k:=3) (j:=0) rfl rfl,M15.out.cell (k:=3) (j:=1) rfl rfl,M15.out.cell (k:=3) (j:=2) rfl rfl,M15.out.cell (k:=3) (j:=3) rfl rfl⟩
   refine hK_ _ _ S3 ?_
   clear hK_ S2 M14 hb15 HFK
   iterate 1 ((first | (with_reducible refine wpT_nil ?_) | (refine wpT_W (v:=?_) (by assumption) (by decide) (by first | exact wn_ rfl | rfl) (fun _ hS_=>?_) ?_;rotate_left;(focus ((try dsimp only at hS_);go_simp;rfl))) | (refine wpT_R (v:=?_) (by assumption) (by decide) (by first | exact wn_ rfl | rfl) ?_ ?_;rotate_left;(focus (go_simp;rfl))) | (refine wpT_A (v:=?_) (ob:=?_) (by assumption) (by decide) (by first | exact wn_ rfl | rfl) ?_ ?_ ?_;rotate_left 2;(focus (go_simp;first | (constructor <;> rfl) | rfl));(focus (apply cell_alloc;assumption))) | (refine wpT_no (by assumption) rfl (by decide) ?_));(try simp only [Act.put,sA_,sB_,sC_]))
   refine wpT_L S3 (by decide) (by first | exact wn_ rfl | rfl) (fun K_ hK_=>?_)
   have HFK:=M15.out.fkC (k:=2) rfl
   go_wp2_with (go_at_call 24;refine (PShapeReducible.vellumref12_Count.calls kd x.f0 x.f1 x.f2 A3 xn x.f3 6 0 w15 HFK.2 HFK.1 HKD.out).mono ?_;rintro e w16 ⟨rfl,hb16⟩)
   have M16:=ak_ (M15.out.below hb16)
   have S4:w16.cell? ⟨b10,0,none⟩=some (.int .i64 x.f0)/\w16.cell? ⟨b10,1,none⟩=some (.int .i64 x.f1)/\w16.cell? ⟨b10,2,none⟩=some (.int .i64 x.f2)/\w16.cell? ⟨b10,3,none⟩=some (.slice A3 x.f3.length xn):=⟨M16.out.cell (k:=3) (j:=0) rfl rfl,M16.out.cell (k:=3) (j:=1) rfl rfl,M16.out.cell (k:=3) (j:=2) rfl rfl,M16.out.cell (k:=3) (j:=3) rfl rfl⟩
   refine hK_ _ _ S4 ?_
   clear hK_ S3 M15 hb16 HFK
   iterate 4 ((first | (with_reducible refine wpT_nil ?_) | (refine wpT_W (v:=?_) (by assumption) (by decide) (by first | exact wn_ rfl | rfl) (fun _ hS_=>?_) ?_;rotate_left;(focus ((try dsimp only at hS_);go_simp;rfl))) | (refine wpT_R (v:=?_) (by assumption) (by decide) (by first | exact wn_ rfl | rfl) ?_ ?_;rotate_left;(focus (go_simp;rfl))) | (refine wpT_A (v:=?_) (ob:=?_) (by assumption) (by decide) (by first | exact wn_ rfl | rfl) ?_ ?_ ?_;rotate_left 2;(focus (go_simp;first | (constructor <;> rfl) | rfl));(focus (apply cell_alloc;assumption))) | (refine wpT_no (by assumption) rfl (by decide) ?_));(try simp only [Act.put,sA_,sB_,sC_]))
   refine wpT_nil ?_
   clear S4
   go_wp2
   go_ret
   exact ⟨rfl,M16.out.hb⟩
end Go.Proofs.Ytfiiihpdekppiaa
end
section
namespace Go.Proofs.Ytfiiihpdekppiaa
open Go.ChangeShapes Go.WideShapes Go.RowKit Go.Proofs.YtfiiihpdekppiaaW.PrintWords
section
variable {H : Type} {enc : TypeId × Value → H} {w : World} {base : Nat} {spare : Nat → Bool} {held : Bool} {fuel : Nat} {cs : List Value} {x : DataW H × List MemPlace}
theorem open_arr {n:Nat} {t:TypeId} (ht:Try.prog.underlying t=some (.array n 3)) (hc:Try.prog.cellsOf t=n) (h:DataW.trod enc Try.prog w base spare held fuel t cs=some x):cs.length=n/\∀ i,i < n->∃ z:Int,cs[i]?=some (.int .i64 z)/\(Lit.int .i64 z).wf=true:=by
 obtain ⟨xs,m,_,_,hl,hxl,hel⟩:=DataW.trod_array ht h
 have c3:Try.prog.cellsOf 3=1:=by kernel_rfl
 refine ⟨by rw [hl,hc],fun i hi=>?_⟩
 have hE:=hel i hi
 rw [c3,Nat.mul_one,List.getElem?_eq_getElem (by omega)] at hE
 obtain ⟨z,e1,_,hw⟩:=DataW.trod_int Try.underlying3 hE
 refine ⟨z,?_,hw⟩
 have h0:((cs.drop i).take 1)[0]?=some (.int .i64 z):=by rw [e1];rfl
 simpa using h0
theorem open_pairs {A:Option Addr} {len cap:Nat} {d:DataW H} {ps:List MemPlace} {ts:List TypeId} {ds:List (DataW H)} {j:Nat} (hsz:(DataW.weightsEach Try.prog ts ds).all (·<=reachBytes)=true) (ht:ts[j]?=some 22) (hd:ds[j]?=some d)
  (h:DataW.Trod enc Try.prog w base spare held 22 (.slice A len cap) d ps):∃ l:List (Int × Int),len=l.length/\PairsAt w A l/\l.length<=100000000000000/\l.length<=cap:=by
 obtain ⟨fuel,hf⟩:=h
 have c57:Try.prog.cellsOf 57=2:=by kernel_rfl
 rcases Go.Deep.open_slice Try.underlying22 hf with ⟨hcs,_⟩ | ⟨a,len',cap',m,n,D,Pl,hcs,hb,hl,hm,hmm,hx,hel⟩
 ·simp [Value.cells] at hcs
  obtain ⟨rfl,rfl,rfl⟩:=hcs
  exact ⟨[],rfl,fun i hi=>by simp at hi,by simp,by simp⟩
 ·simp [Value.cells] at hcs
  obtain ⟨rfl,rfl,rfl⟩:=hcs
  have hlm:len<=m:=by rw [hmm];split <;> omega
  rw [c57] at hel
  have key:∀ i,i < len->∃ p:Int × Int,w.cell? (a.add (i * 2))=some (.int .i64 p.1)/\w.cell? ((a.add (i * 2)).add 1)=some (.int .i64 p.2):=fun i hi=>by
   obtain ⟨cs',h1,h2⟩:=hel i (by omega)
   obtain ⟨_,hlen,hc⟩:=World.cells?_some h1
   obtain ⟨_,hz⟩:=open_arr Try.underlying57 c57 h2
   obtain ⟨z0,e0,_⟩:=hz 0 (by omega)
   obtain ⟨z1,e1,_⟩:=hz 1 (by omega)
   refine ⟨(z0,z1),?_,?_⟩
   ·have:=hc 0 (by omega)
    rw [e0] at this
    simpa [Addr.add] using this
   ·rw [hc 1 (by omega),e1]
  obtain ⟨P,hP⟩:=Go.Deep.choose_lt (α:=Int × Int) (p:=fun i p=>w.cell? (a.add (i * 2))=some (.int .i64 p.1)/\w.cell? ((a.add (i * 2)).add 1)=some (.int .i64 p.2)) key
  obtain ⟨hx,_⟩:=Prod.mk.inj hx
  subst hx
  have hs:=sized_slice hsz ht hd Try.underlying22
  have b57:Try.prog.bytesOf 57=16:=by kernel_rfl
  rw [b57] at hs
  simp only [List.length_map,List.length_range] at hs
  have hr:reachBytes=140737488351232:=rfl
  refine ⟨(List.range len).map P,by simp,fun i hi=>?_,by simp;omega,by simp;omega⟩
  have hi':i < len:=by simpa using hi
  have e:((List.range len).map P).getD i (0,0)=P i:=by
   rw [List.getD_eq_getElem?_getD,List.getElem?_map,List.getElem?_range hi'];rfl
  rw [e]
  exact ⟨a,rfl,(hP i hi').1,(hP i hi').2⟩
end
end Go.Proofs.Ytfiiihpdekppiaa
end
section
namespace Go.Proofs.Ytfiiihpdekppiaa.shapeAcyclic
open Go.ChangeShapes Go.WideShapes Go.ChangeAt Go.RowKit Go.Proofs.YtfiiihpdekppiaaW.PrintWords
open Go.ChangeMaps (open_string shut_string)
theorem own:ownKnob Try.prog.godebug=none:=by kernel_rfl
theorem laidOut:laidOutB Try.prog=true:=by kernel_rfl
set_option maxRecDepth 100000 in
theorem lifted (os:Os) (started:os.Started) (H:Type) (enc:TypeId × Value->H) :
  ReturnsInHanded {} Try.checked os 10 .any (Rows.shapeAcyclicSpec.pre6 enc Try.prog Try.f10 Rows.shapeAcyclicRow.domain false) (Rows.shapeAcyclicSpec.post enc Try.prog Try.f10 false true false false):=by
 refine returnsInHanded_of_change_sized (C:=Try.checked) own started (by kernel_rfl) Try.func10
  (ChangeSpec.witness6 (enc:=enc) (C:=Try.checked) false ⟨#[],#[.slice none 0 0],[]⟩ 8 (by kernel_rfl) (by kernel_rfl) (by kernel_rfl) (by kernel_rfl)) ?_
 intro W base args ds gs before hval0 hW hcnd hsz0 _
 have hsz:(DataW.weightsEach Try.prog (Try.f10.params.toList++Rows.shapeAcyclicSpec.plain.varTypes Try.prog) (ds++gs)).all (·<=reachBytes)=true:=hsz0
 have hval:∀ (j:Nat) t v,Try.f10.params[j]?=some t->args[j]?=some v->Value.okWide Try.prog W .any base t v:=hval0
 have hW':=hW
 obtain ⟨p,q,hA0,hV,rfl,hfz,hnd⟩:=hW
 have hA:DataW.TrodAll enc Try.prog W 0 (fun _=>true) true Try.f10.params.toList args.toList ds p:=hA0
 rw [Try.params10] at hA hval hsz
 obtain ⟨v0,vs0,d0,ds0,p0,q0,hargs,rfl,rfl,h0,r0⟩:=trodAll_cons hA
 obtain ⟨rfl,rfl,rfl⟩:=trodAll_nil r0
 obtain rfl:args=#[v0]:=by cases args;simp_all
 obtain ⟨rfl,rfl⟩:=trodVars_none hV
 have k0:=h0
 have lt0:∀ x∈p0,x.block < W.heap.size:=by obtain ⟨m,hm⟩:=k0;exact DataW.trod_lt m _ _ _ hm
 obtain ⟨A0,n0,c0,rfl⟩:=okWide_slice Try.underlying22 (hval 0 22 v0 rfl rfl)
 obtain ⟨l0,rfl,hP0,hl0,hc0⟩:=open_pairs (j:=0) hsz rfl rfl h0
 clear hA0 hval0 hsz0 hsz
 refine (acyclic_any W A0 c0 l0 hP0 hl0 hc0).mono fun e W' ⟨he,bel⟩=>?_
 subst he
 exact ⟨_,rfl,_,_,_,[],_,[],hW',trodAll_mk1 (shut_bool Try.underlying4 _),(trodAll_cons_mk (Below.trod laidOut (by kernel_rfl) (of_decide_eq_true (by kernel_rfl)) k0 bel lt0) trodAll_mk0),rfl,bel.frame _,fun h=>by cases h⟩
theorem over:Rows.shapeAcyclicRow.holds Try.pinned (OpenSpec.ofChange Rows.shapeAcyclicSpec) :=
 OpenClaim.holds_of_wide 10 Try.f10 rfl rfl rfl rfl rfl rfl rfl ⟨rfl,rfl,rfl,rfl,rfl⟩ rfl rfl rfl rfl rfl (by kernel_rfl) Try.func10 (by kernel_rfl)
  (of_decide_eq_true (by kernel_rfl)) (by unfold Func.isWrapper;first | (rw [if_pos (by decide +kernel)];kernel_rfl) | (rw [if_neg (by decide +kernel)];exact ⟨rfl,rfl⟩))
  (fun os started H enc _=>lifted os started H enc)
theorem proved:Rows.ShapeAcyclicSaid:=over
#print axioms proved
end Go.Proofs.Ytfiiihpdekppiaa.shapeAcyclic
namespace Go.Proofs.Ytfiiihpdekppiaa
theorem shapeAcyclic_holds:Rows.ShapeAcyclicSaid:=shapeAcyclic.proved
end Go.Proofs.Ytfiiihpdekppiaa
end
