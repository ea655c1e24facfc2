/- A part of the proof that vellumlaw12.ShapeAcyclic is true for every input: walks of functions that the row reaches and plain laws that they need. Conditions: none. Joined by merge.py out of S1 T1 S2 S5 S3; a part that began as a print is named P or W there and is trimmed. -/
import GoSem.Core.Value
set_option linter.unusedVariables false
set_option linter.unusedSimpArgs false
section
namespace Go.Proofs.Ytfiiihpdekppiaa
def mget {β:Type} (l:List (Int × β)) (k:Int):Option β:=(l.find? fun p=>p.1 == k).map (·.2)
def mput {β:Type}:List (Int × β)->Int->β->List (Int × β)
 | [],k,v=>[(k,v)]
 | p :: r,k,v=>if p.1=k then (k,v) :: r else p :: mput r k v
def ordLoop (g:List (List Int)):Nat->List Bool->List (Int × Int)->List Int->Option (List Int)
 | 0,_,_,_=>none
 | _+1,_,[],acc=>some acc
 | k+1,seen,(n,i) :: st,acc =>
  if 0<=n/\n < g.length then
   if i=(g.getD n.toNat []).length then
    if acc.length < 1000000000 then ordLoop g k seen st (n :: acc) else none
   else if 0<=i/\i < (g.getD n.toNat []).length then
    if 0<=(g.getD n.toNat []).getD i.toNat 0/\(g.getD n.toNat []).getD i.toNat 0 < seen.length then
     if seen.getD ((g.getD n.toNat []).getD i.toNat 0).toNat false then ordLoop g k seen ((n,i+1) :: st) acc
     else if st.length < 1000000 then ordLoop g k (seen.set ((g.getD n.toNat []).getD i.toNat 0).toNat true) (((g.getD n.toNat []).getD i.toNat 0,0) :: (n,i+1) :: st) acc
     else none
    else none
   else none
  else none
def orderF (k:Nat) (g:List (List Int)):Option (List Int) :=
 ordLoop g k ((List.replicate g.length false).set 0 true) [(0,0)] []
def succs (g:List (List Int)) (n:Int):List Int:=g.getD n.toNat []
def ValidG (g:List (List Int)):Prop:=∀ l∈g,∀ s∈l,0<=s/\s < g.length
inductive Reach (g:List (List Int)):Int->Int->Prop
 | refl (a:Int):Reach g a a
 | step {a b c:Int}:Reach g a b->c∈succs g b->Reach g a c
theorem Reach.trans {g:List (List Int)} {a b c:Int} (h1:Reach g a b) (h2:Reach g b c):Reach g a c:=by
 induction h2 with
 | refl=>exact h1
 | step _ hc ih=>exact ih.step hc
theorem succs_mem {g:List (List Int)} (hv:ValidG g) {n s:Int} (h:s∈succs g n):0<=s/\s < g.length:=by
 unfold succs at h
 rw [List.getD_eq_getElem?_getD] at h
 cases e:g[n.toNat]? with
 | none=>simp [e] at h
 | some l=>rw [e] at h;exact hv l (List.mem_of_getElem? e) s h
structure OrdOk (g:List (List Int)) (r:List Int):Prop where
 rng:∀ v∈r,0<=v/\v < g.length
 nd:r.Nodup
 root:∃ t,r=0 :: t
 closed:∀ u∈r,∀ s∈succs g u,s∈r
 reach:∀ v∈r,Reach g 0 v
 dfs:∀ u∈r,∀ s∈succs g u,(∃ a b,r=a++u :: b/\s∈b)∨Reach g s u
 tree:∀ v∈r,v≠0->∃ u,v∈succs g u/\∃ a b,r=a++v :: b/\u∈a
structure OI (g:List (List Int)) (seen:List Bool) (st:List (Int × Int)) (acc:List Int):Prop where
 len:seen.length=g.length
 rng:∀ v∈acc++st.map (·.1),0<=v/\v < g.length
 nd:(acc++st.map (·.1)).Nodup
 sn:∀ v:Int,0<=v->v < g.length->(seen.getD v.toNat false=true↔v∈acc++st.map (·.1))
 ix:∀ p∈st,0<=p.2/\p.2<=(succs g p.1).length
 fin:∀ u∈acc,∀ s∈succs g u,(∃ a b,acc=a++u :: b/\s∈b)∨Reach g s u
 cl:∀ u∈acc,∀ s∈succs g u,s∈acc++st.map (·.1)
 cur:∀ a p b,st=a++p :: b->∀ (j:Nat) (s:Int),(j:Int) < p.2->(succs g p.1)[j]?=some s->s∈acc∨(Reach g s p.1/\s∈st.map (·.1))∨s∈a.map (·.1)
 path:∀ a p b,st=a++p :: b->∀ q∈b,Reach g q.1 p.1
 top:∀ v∈acc++st.map (·.1),Reach g 0 v
 root:(∃ a i,st=a++[(0,i)])∨(st=[]/\∃ r,acc=0 :: r)
 adj:∀ a x y b,st=a++x :: y :: b->x.1∈succs g y.1
 tr:∀ v∈acc,v≠0->∃ u,v∈succs g u/\((∃ a b,acc=a++v :: b/\u∈a)∨u∈st.map (·.1))
def left (g:List (List Int)) (seen:List Bool) (st:List (Int × Int)):Nat :=
 (st.map fun p=>(succs g p.1).length - p.2.toNat+1).sum+((List.range g.length).map fun v=>if seen.getD v false then 0 else (g.getD v []).length+2).sum+1
theorem mem_sum_le {α:Type}:∀ (l:List α) (h:α->Nat) (v:α),v∈l->h v<=(l.map h).sum
 | [],_,_,hv=>by simp at hv
 | b :: l,h,v,hv=>by
  simp only [List.map_cons,List.sum_cons]
  rcases List.mem_cons.1 hv with rfl | hv
  ·omega
  ·have:=mem_sum_le l h v hv;omega
theorem sum_set_lt:∀ (l:List Nat) (f h:Nat->Nat) (v:Nat),v∈l->l.Nodup->(∀ x∈l,x≠v->h x=f x)->(l.map f).sum+h v=(l.map h).sum+f v
 | [],_,_,_,hv,_,_=>by simp at hv
 | a :: l,f,h,v,hv,hn,he=>by
  obtain ⟨hn1,hn2⟩:=List.nodup_cons.1 hn
  simp only [List.map_cons,List.sum_cons]
  rcases List.mem_cons.1 hv with rfl | hv
  ·have:l.map f=l.map h:=List.map_congr_left fun x hx=>(he x (by simp [hx]) (fun e=>hn1 (e ▸ hx))).symm
   rw [this]
   omega
  ·have:=sum_set_lt l f h v hv hn2 (fun x hx=>he x (by simp [hx]))
   have h1:=he a (by simp) (fun e=>hn1 (e ▸ hv))
   rw [h1]
   omega
theorem nodup_sub_len {α:Type} [DecidableEq α]:∀ {l m:List α},l.Nodup->(∀ x∈l,x∈m)->l.length<=m.length
 | [],_,_,_=>Nat.zero_le _
 | a :: l,m,hn,hs=>by
  obtain ⟨h1,h2⟩:=List.nodup_cons.1 hn
  have ha:=hs a (by simp)
  have:=nodup_sub_len (l:=l) (m:=m.erase a) h2 (fun x hx=>(List.mem_erase_of_ne (fun e=>h1 (by rw [<-e];exact hx))).2 (hs x (by simp [hx])))
  rw [List.length_erase_of_mem ha] at this
  have:=List.length_pos_of_mem ha
  simp only [List.length_cons]
  omega
theorem nodup_len {l:List Int} {n:Nat} (hn:l.Nodup) (hr:∀ v∈l,0<=v/\v < n):l.length<=n:=by
 have:=nodup_sub_len (m:=(List.range n).map fun (i:Nat)=>(i:Int)) hn (fun x hx=>by
  have:=hr x hx
  exact List.mem_map.2 ⟨x.toNat,by simp;omega,by omega⟩)
 simpa using this
theorem left_push {g:List (List Int)} {seen:List Bool} {n i s:Int} {st:List (Int × Int)} (hl:seen.length=g.length) (hs0:0<=s) (hs:s < g.length) (hu:seen.getD s.toNat false=false) (hi0:0<=i) (hi:i < (succs g n).length) :
  left g (seen.set s.toNat true) ((s,0) :: (n,i+1) :: st)+1<=left g seen ((n,i) :: st):=by
 unfold left
 have h1:=sum_set_lt (List.range g.length) (fun v=>if (seen.set s.toNat true).getD v false then 0 else (g.getD v []).length+2) (fun v=>if seen.getD v false then 0 else (g.getD v []).length+2) s.toNat (by simp;omega) List.nodup_range (fun x _ hne=>by
  have:(seen.set s.toNat true).getD x false=seen.getD x false:=by
   simp only [List.getD_eq_getElem?_getD]
   rw [List.getElem?_set_ne (fun e=>hne e.symm)]
  simp only [this])
 have h2:(seen.set s.toNat true).getD s.toNat false=true:=by
  rw [List.getD_eq_getElem?_getD,List.getElem?_set_self (by omega)];rfl
 have h3:=mem_sum_le (List.range g.length) (fun v=>if seen.getD v false then 0 else (g.getD v []).length+2) s.toNat (by simp;omega)
 simp only [h2,hu,if_true,Bool.false_eq_true,if_false] at h1 h3
 simp only [List.map_cons,List.sum_cons,succs] at hi ⊢
 have e1:(0:Int).toNat=0:=rfl
 rw [e1]
 omega
theorem left_next {g:List (List Int)} {seen:List Bool} {n i:Int} {st:List (Int × Int)} (hi0:0<=i) (hi:i < (succs g n).length):left g seen ((n,i+1) :: st)+1<=left g seen ((n,i) :: st):=by
 unfold left
 simp only [List.map_cons,List.sum_cons]
 omega
theorem left_pop {g:List (List Int)} {seen:List Bool} {n i:Int} {st:List (Int × Int)}:left g seen st+1<=left g seen ((n,i) :: st):=by
 unfold left
 simp only [List.map_cons,List.sum_cons]
 omega
theorem OI.next {g:List (List Int)} {seen:List Bool} {n i:Int} {st:List (Int × Int)} {acc:List Int} (h:OI g seen ((n,i) :: st) acc) (hi:i < (succs g n).length) {s:Int} (hs:(succs g n)[i.toNat]?=some s) (hsn:s∈acc++((n,i) :: st).map (·.1)):OI g seen ((n,i+1) :: st) acc:=by
 have hi0:=(h.ix (n,i) (by simp)).1
 refine ⟨h.len,by simpa using h.rng,by simpa using h.nd,by simpa using h.sn,?_,h.fin,by simpa using h.cl,?_,?_,by simpa using h.top,?_,?_,by simpa using h.tr⟩
 ·intro p hp
  rcases List.mem_cons.1 hp with rfl | hp
  ·simp only;omega
  ·exact h.ix p (by simp [hp])
 ·intro a p b e j t hj ht
  cases a with
  | nil =>
   simp only [List.nil_append,List.cons.injEq] at e
   obtain ⟨rfl,rfl⟩:=e
   simp only at hj ht
   by_cases hji:(j:Int) < i
   ·have:=h.cur [] _ _ rfl j t hji ht
    simpa using this
   ·have:j=i.toNat:=by omega
    subst this
    rw [hs] at ht
    injection ht with ht
    subst ht
    simp only [List.map_cons,List.mem_append,List.mem_cons] at hsn
    rcases hsn with hsn | rfl | hsn
    ·exact .inl hsn
    ·exact .inr (.inl ⟨.refl _,by simp⟩)
    ·obtain ⟨q,hq,rfl⟩:=List.mem_map.1 hsn
     exact .inr (.inl ⟨h.path [] _ _ rfl q hq,by simp;exact .inr ⟨_,hq⟩⟩)
  | cons x a =>
   simp only [List.cons_append,List.cons.injEq] at e
   obtain ⟨rfl,rfl⟩:=e
   have:=h.cur ((n,i) :: a) p b rfl j t hj ht
   simpa using this
 ·intro a p b e q hq
  cases a with
  | nil =>
   simp only [List.nil_append,List.cons.injEq] at e
   obtain ⟨rfl,rfl⟩:=e
   exact h.path [] (n,i) _ rfl q hq
  | cons x a =>
   simp only [List.cons_append,List.cons.injEq] at e
   obtain ⟨rfl,rfl⟩:=e
   exact h.path ((n,i) :: a) p b rfl q hq
 ·rcases h.root with ⟨a,k,e⟩ | ⟨e,_⟩
  ·left
   cases a with
   | nil=>simp only [List.nil_append,List.cons.injEq,Prod.mk.injEq] at e;obtain ⟨⟨rfl,rfl⟩,rfl⟩:=e;exact ⟨[],i+1,rfl⟩
   | cons x a=>simp only [List.cons_append,List.cons.injEq] at e;obtain ⟨rfl,rfl⟩:=e;exact ⟨(n,i+1) :: a,k,rfl⟩
  ·cases e
 ·intro a x y b e
  cases a with
  | nil =>
   simp only [List.nil_append,List.cons.injEq] at e
   obtain ⟨rfl,rfl⟩:=e
   exact h.adj [] (n,i) y b rfl
  | cons z a =>
   simp only [List.cons_append,List.cons.injEq] at e
   obtain ⟨rfl,rfl⟩:=e
   exact h.adj ((n,i) :: a) x y b rfl
theorem OI.push {g:List (List Int)} (hv:ValidG g) {seen:List Bool} {n i:Int} {st:List (Int × Int)} {acc:List Int} (h:OI g seen ((n,i) :: st) acc) (hi:i < (succs g n).length) {s:Int} (hs:(succs g n)[i.toNat]?=some s) (hsn:seen.getD s.toNat false=false):OI g (seen.set s.toNat true) ((s,0) :: (n,i+1) :: st) acc:=by
 have hi0:=(h.ix (n,i) (by simp)).1
 have hmem:s∈succs g n:=List.mem_of_getElem? hs
 have hsr:=succs_mem hv hmem
 have hnot:s ∉ acc++((n,i) :: st).map (·.1):=fun hc=>by rw [(h.sn s hsr.1 hsr.2).2 hc] at hsn;cases hsn
 have hV:∀ v,v∈acc++((s,(0:Int)) :: (n,i+1) :: st).map (·.1)↔v=s∨v∈acc++((n,i) :: st).map (·.1):=fun v=>by
  simp only [List.map_cons,List.mem_append,List.mem_cons]
  constructor
  ·rintro (h | h | h | h) <;> simp [h]
  ·rintro (h | h | h | h) <;> simp [h]
 have hsucc:Reach g n s:=(Reach.refl n).step hmem
 refine ⟨by simp [h.len],?_,?_,?_,?_,h.fin,?_,?_,?_,?_,?_,?_,?_⟩
 ·intro v hvm
  rcases (hV v).1 hvm with rfl | h'
  ·exact hsr
  ·exact h.rng v h'
 ·have h1:=h.nd
  simp only [List.map_cons] at h1 hnot ⊢
  exact List.perm_middle.nodup_iff.2 (List.nodup_cons.2 ⟨hnot,h1⟩)
 ·intro v h0 h1
  rw [hV,<-h.sn v h0 h1]
  by_cases hvs:v=s
  ·subst hvs
   simp [List.getD_eq_getElem?_getD,List.getElem?_set_self (show v.toNat < seen.length by rw [h.len];omega)]
  ·rw [List.getD_eq_getElem?_getD,List.getElem?_set_ne (by omega),<-List.getD_eq_getElem?_getD]
   simp [hvs]
 ·intro p hp
  simp only [List.mem_cons] at hp
  rcases hp with rfl | rfl | hp
  ·simp
  ·simp only;omega
  ·exact h.ix p (by simp [hp])
 ·intro u hu t ht
  exact (hV t).2 (.inr (h.cl u hu t ht))
 ·intro a p b e j t hj ht
  cases a with
  | nil =>
   simp only [List.nil_append,List.cons.injEq] at e
   obtain ⟨rfl,rfl⟩:=e
   simp only at hj
   omega
  | cons x a =>
   simp only [List.cons_append,List.cons.injEq] at e
   obtain ⟨rfl,e⟩:=e
   cases a with
   | nil =>
    simp only [List.nil_append,List.cons.injEq] at e
    obtain ⟨rfl,rfl⟩:=e
    simp only at hj ht
    by_cases hji:(j:Int) < i
    ·rcases h.cur [] _ _ rfl j t hji ht with h1 | h1 | h1
     ·exact .inl h1
     ·exact .inr (.inl ⟨h1.1,by have:=h1.2;simp at this ⊢;exact .inr this⟩)
     ·simp at h1
    ·have:j=i.toNat:=by omega
     subst this
     rw [hs] at ht
     injection ht with ht
     subst ht
     exact .inr (.inr (by simp))
   | cons y a =>
    simp only [List.cons_append,List.cons.injEq] at e
    obtain ⟨rfl,rfl⟩:=e
    rcases h.cur ((n,i) :: a) p b rfl j t hj ht with h1 | h1 | h1
    ·exact .inl h1
    ·exact .inr (.inl ⟨h1.1,by have:=h1.2;simp at this ⊢;exact .inr this⟩)
    ·exact .inr (.inr (by simp at h1 ⊢;exact .inr h1))
 ·intro a p b e q hq
  cases a with
  | nil =>
   simp only [List.nil_append,List.cons.injEq] at e
   obtain ⟨rfl,rfl⟩:=e
   rcases List.mem_cons.1 hq with rfl | hq
   ·exact hsucc
   ·exact (h.path [] (n,i) _ rfl q hq).trans hsucc
  | cons x a =>
   simp only [List.cons_append,List.cons.injEq] at e
   obtain ⟨rfl,e⟩:=e
   cases a with
   | nil =>
    simp only [List.nil_append,List.cons.injEq] at e
    obtain ⟨rfl,rfl⟩:=e
    exact h.path [] (n,i) _ rfl q hq
   | cons y a =>
    simp only [List.cons_append,List.cons.injEq] at e
    obtain ⟨rfl,rfl⟩:=e
    exact h.path ((n,i) :: a) p b rfl q hq
 ·intro v hvm
  rcases (hV v).1 hvm with rfl | h'
  ·exact (h.top n (by simp)).step hmem
  ·exact h.top v h'
 ·rcases h.root with ⟨a,k,e⟩ | ⟨e,_⟩
  ·left
   cases a with
   | nil=>simp only [List.nil_append,List.cons.injEq,Prod.mk.injEq] at e;obtain ⟨⟨rfl,rfl⟩,rfl⟩:=e;exact ⟨[(s,0)],i+1,rfl⟩
   | cons x a=>simp only [List.cons_append,List.cons.injEq] at e;obtain ⟨rfl,rfl⟩:=e;exact ⟨(s,0) :: (n,i+1) :: a,k,rfl⟩
  ·cases e
 ·intro a x y b e
  cases a with
  | nil =>
   simp only [List.nil_append,List.cons.injEq] at e
   obtain ⟨rfl,rfl,rfl⟩:=e
   exact hmem
  | cons z a =>
   simp only [List.cons_append,List.cons.injEq] at e
   obtain ⟨rfl,e⟩:=e
   cases a with
   | nil =>
    simp only [List.nil_append,List.cons.injEq] at e
    obtain ⟨rfl,rfl⟩:=e
    exact h.adj [] (n,i) y b rfl
   | cons z a =>
    simp only [List.cons_append,List.cons.injEq] at e
    obtain ⟨rfl,rfl⟩:=e
    exact h.adj ((n,i) :: a) x y b rfl
 ·intro v hv hv0
  obtain ⟨u,h1,h2 | h2⟩:=h.tr v hv hv0
  ·exact ⟨u,h1,.inl h2⟩
  ·exact ⟨u,h1,.inr (by simp at h2 ⊢;exact .inr h2)⟩
theorem OI.pop {g:List (List Int)} {seen:List Bool} {n i:Int} {st:List (Int × Int)} {acc:List Int} (h:OI g seen ((n,i) :: st) acc) (hi:i=(succs g n).length):OI g seen st (n :: acc):=by
 have hV:∀ v,v∈(n :: acc)++st.map (·.1)↔v∈acc++((n,i) :: st).map (·.1):=fun v=>by
  simp only [List.map_cons,List.mem_append,List.mem_cons]
  constructor
  ·rintro ((h | h) | h) <;> simp [h]
  ·rintro (h | h | h) <;> simp [h]
 have hcur:∀ s∈succs g n,s∈acc∨Reach g s n/\s∈((n,i) :: st).map (·.1):=fun s hs=>by
  obtain ⟨j,hj⟩:=List.mem_iff_getElem?.1 hs
  have hjl:=(List.getElem?_eq_some_iff.1 hj).1
  rcases h.cur [] _ _ rfl j s (by simp only;omega) hj with h1 | h1 | h1
  ·exact .inl h1
  ·exact .inr h1
  ·simp at h1
 refine ⟨h.len,fun v hv=>h.rng v ((hV v).1 hv),?_,fun v h0 h1=>by rw [hV,h.sn v h0 h1],fun p hp=>h.ix p (by simp [hp]),?_,?_,?_,?_,fun v hv=>h.top v ((hV v).1 hv),?_,?_,?_⟩
 ·have h1:=h.nd
  simp only [List.map_cons,List.cons_append] at h1 ⊢
  exact List.perm_middle.nodup_iff.1 h1
 ·intro u hu s hs
  rcases List.mem_cons.1 hu with rfl | hu
  ·rcases hcur s hs with h1 | h1
   ·exact .inl ⟨[],acc,rfl,h1⟩
   ·exact .inr h1.1
  ·rcases h.fin u hu s hs with ⟨a,b,e,h1⟩ | h1
   ·exact .inl ⟨n :: a,b,by rw [e];rfl,h1⟩
   ·exact .inr h1
 ·intro u hu s hs
  rw [hV]
  rcases List.mem_cons.1 hu with rfl | hu
  ·rcases hcur s hs with h1 | h1
   ·simp [h1]
   ·exact List.mem_append.2 (.inr h1.2)
  ·exact h.cl u hu s hs
 ·intro a p b e j t hj ht
  subst e
  rcases h.cur ((n,i) :: a) p b rfl j t hj ht with h1 | h1 | h1
  ·exact .inl (by simp [h1])
  ·simp only [List.map_cons,List.mem_cons] at h1
   rcases h1 with ⟨h1,rfl | h2⟩
   ·exact .inl (by simp)
   ·exact .inr (.inl ⟨h1,h2⟩)
  ·simp only [List.map_cons,List.mem_cons] at h1
   rcases h1 with rfl | h1
   ·exact .inl (by simp)
   ·exact .inr (.inr h1)
 ·intro a p b e q hq
  subst e
  exact h.path ((n,i) :: a) p b rfl q hq
 ·rcases h.root with ⟨a,k,e⟩ | ⟨e,_⟩
  ·cases a with
   | nil=>simp only [List.nil_append,List.cons.injEq,Prod.mk.injEq] at e;obtain ⟨⟨rfl,rfl⟩,rfl⟩:=e;exact .inr ⟨rfl,acc,rfl⟩
   | cons x a=>simp only [List.cons_append,List.cons.injEq] at e;obtain ⟨rfl,rfl⟩:=e;exact .inl ⟨a,k,rfl⟩
  ·cases e
 ·intro a x y b e
  subst e
  exact h.adj ((n,i) :: a) x y b rfl
 ·intro v hv hv0
  rcases List.mem_cons.1 hv with rfl | hv
  ·cases st with
   | nil =>
    rcases h.root with ⟨a,k,e⟩ | ⟨e,_⟩
    ·cases a with
     | nil=>simp only [List.nil_append,List.cons.injEq,Prod.mk.injEq] at e;exact absurd e.1.1 hv0
     | cons x a=>simp at e
    ·cases e
   | cons q st=>exact ⟨q.1,h.adj [] _ q st rfl,.inr (by simp)⟩
  ·obtain ⟨u,h1,⟨a,b,e,h2⟩ | h2⟩:=h.tr v hv hv0
   ·exact ⟨u,h1,.inl ⟨n :: a,b,by rw [e];rfl,by simp [h2]⟩⟩
   ·simp only [List.map_cons,List.mem_cons] at h2
    rcases h2 with rfl | h2
    ·obtain ⟨a,b,e⟩:=List.append_of_mem (show v∈acc by assumption)
     exact ⟨u,h1,.inl ⟨u :: a,b,by rw [e];rfl,by simp⟩⟩
    ·exact ⟨u,h1,.inr h2⟩
theorem ordLoop_total {g:List (List Int)} (hv:ValidG g) (hl:g.length<=1000000):∀ (k:Nat) (seen:List Bool) (st:List (Int × Int)) (acc:List Int),OI g seen st acc->left g seen st<=k->∃ r,ordLoop g k seen st acc=some r/\OrdOk g r
 | 0,seen,st,acc,h,hk=>by unfold left at hk;omega
 | k+1,seen,[],acc,h,_=>by
  refine ⟨acc,rfl,?_⟩
  have h1:=h.rng
  have h2:=h.nd
  have h3:=h.cl
  have h4:=h.top
  simp only [List.map_nil,List.append_nil] at h1 h2 h3 h4
  refine ⟨h1,h2,?_,h3,h4,h.fin,fun v hv h0=>?_⟩
  ·rcases h.root with ⟨a,i,e⟩ | ⟨_,h5⟩
   ·simp at e
   ·exact h5
  ·obtain ⟨u,h5,h6 | h6⟩:=h.tr v hv h0
   ·exact ⟨u,h5,h6⟩
   ·simp at h6
 | k+1,seen,(n,i) :: st,acc,h,hk=>by
  have hlen:(acc++((n,i) :: st).map (·.1)).length<=g.length:=nodup_len h.nd h.rng
  simp only [List.length_append,List.map_cons,List.length_cons,List.length_map] at hlen
  have hn:=h.rng n (by simp)
  have hi:=h.ix (n,i) (by simp)
  simp only [succs] at hi
  unfold ordLoop
  rw [if_pos hn]
  by_cases h1:i=(g.getD n.toNat []).length
  ·rw [if_pos h1,if_pos (by omega)]
   refine ordLoop_total hv hl k _ _ _ (h.pop h1) ?_
   have:=left_pop (g:=g) (seen:=seen) (n:=n) (i:=i) (st:=st)
   omega
  ·have hi1:i < (succs g n).length:=by unfold succs;omega
   obtain ⟨s,hs⟩:∃ s,(succs g n)[i.toNat]?=some s:=⟨_,List.getElem?_eq_getElem (by omega)⟩
   have hsm:=succs_mem hv (List.mem_of_getElem? hs)
   have hsg:(g.getD n.toNat []).getD i.toNat 0=s:=by rw [List.getD_eq_getElem?_getD (l:=g.getD n.toNat [])];unfold succs at hs;rw [hs];rfl
   rw [if_neg h1,if_pos ⟨hi.1,by omega⟩,hsg,if_pos ⟨hsm.1,by rw [h.len];exact hsm.2⟩]
   by_cases hseen:seen.getD s.toNat false=true
   ·rw [if_pos hseen]
    refine ordLoop_total hv hl k _ _ _ (h.next hi1 hs ((h.sn s hsm.1 hsm.2).1 hseen)) ?_
    have:=left_next (g:=g) (seen:=seen) (n:=n) (i:=i) (st:=st) hi.1 hi1
    omega
   ·rw [if_neg hseen]
    have hseen':seen.getD s.toNat false=false:=by simpa using hseen
    rw [if_pos (by omega)]
    refine ordLoop_total hv hl k _ _ _ (h.push hv hi1 hs hseen') ?_
    have:=left_push (g:=g) (seen:=seen) (n:=n) (i:=i) (s:=s) (st:=st) h.len hsm.1 hsm.2 hseen' hi.1 hi1
    omega
theorem order_total {g:List (List Int)} (hv:ValidG g) (h0:0 < g.length) (hl:g.length<=1000000):∃ k r,orderF k g=some r/\OrdOk g r:=by
 obtain ⟨r,h1,h2⟩:=ordLoop_total hv hl _ ((List.replicate g.length false).set 0 true) [(0,0)] [] (by
  refine ⟨by simp,by simp;omega,by simp,?_,by simp,by simp,by simp,?_,?_,?_,.inl ⟨[],0,rfl⟩,?_,by simp⟩
  ·intro v h1 h2
   simp only [List.map_cons,List.map_nil,List.nil_append,List.mem_singleton]
   rw [List.getD_eq_getElem?_getD,List.getElem?_set]
   by_cases hv0:v=0
   ·subst hv0;simp [h0]
   ·rw [if_neg (by omega)]
    have:((List.replicate g.length false)[v.toNat]?).getD false=false:=by rw [List.getElem?_replicate];split <;> rfl
    simp [this,hv0]
  ·intro a p b e j s hj
   cases a with
   | nil=>simp at e;obtain ⟨rfl,_⟩:=e;simp at hj;omega
   | cons x a=>simp at e
  ·intro a p b e q hq
   cases a with
   | nil=>simp at e;obtain ⟨_,rfl⟩:=e;simp at hq
   | cons x a=>simp at e
  ·simp;exact .refl _
  ·intro a x y b e
   cases a with
   | nil=>simp at e
   | cons z a=>simp at e) (Nat.le_refl _)
 exact ⟨_,r,h1,h2⟩
def predsIn (n:Int):List Int->List (List Int)->Option (List (List Int))
 | [],p=>some p
 | s :: r,p =>
  if 0<=s/\s < p.length then
   if (p.getD s.toNat []).length < 1000000000 then predsIn n r (p.set s.toNat (p.getD s.toNat []++[n])) else none
  else none
def viewLoop (g:List (List Int)):List Int->Nat->List (Int × Int)->List (List Int)->Option (List (Int × Int) × List (List Int))
 | [],_,m,p=>some (m,p)
 | n :: r,i,m,p =>
  if 0<=n/\n < g.length then (predsIn n (g.getD n.toNat []) p).bind fun p'=>viewLoop g r (i+1) (mput m n i) p' else none
def mB0 (m:List (Int × Bool)) (k:Int):Bool:=(mget m k).getD false
def setF (wo:Int) (xs:List Int) (m:List (Int × Bool)):List (Int × Bool):=xs.foldl (fun m n=>if n≠wo then mput m n true else m) m
def reachLoop (succ:List (List Int)) (set:List (Int × Bool)):Nat->List (Int × Bool)->List Int->Option (List (Int × Bool))
 | 0,_,_=>none
 | _+1,out,[]=>some out
 | k+1,out,n :: st =>
  if mB0 set n=true/\mB0 out n=false then
   (if (0<=n/\n < succ.length)/\st.length+(succ.getD n.toNat []).length<=1000000000 then reachLoop succ set k (mput out n true) ((succ.getD n.toNat []).reverse++st) else none)
  else reachLoop succ set k out st
def rangeI (n:Nat):List Int:=(List.range n).map fun (i:Nat)=>(i:Int)
def outsideB (succ:List (List Int)) (live inside:List (Int × Bool)) (n:Int):Bool :=
 decide (n=0) || (List.range succ.length).any fun m=>mB0 live m && !mB0 inside m && (succ.getD m []).contains n
def entriesF (k:Nat) (succ:List (List Int)) (part:List Int) (inside:List (Int × Bool)):Option (List Int) :=
 (reachLoop succ (setF (-1) (rangeI succ.length) []) k [] [0]).map fun live=>part.filter (outsideB succ live inside)
def sortI (xs:List Int):List Int:=xs.mergeSort fun x y=>decide (x<=y)
structure Tar where
 idx:List (Int × Int)
 low:List (Int × Int)
 st:List Int
 on:List (Int × Bool)
 out:List (List Int)
def mI0 (m:List (Int × Int)) (k:Int):Int:=(mget m k).getD 0
def tarKids (set:List (Int × Bool)) (visit:Tar->Int->Option Tar) (n:Int):List Int->Tar->Option Tar
 | [],s=>some s
 | m :: l,s =>
  if mB0 set m=false then tarKids set visit n l s
  else if mget s.idx m=none then (visit s m).bind fun s'=>tarKids set visit n l { s' with low:=mput s'.low n (min (mI0 s'.low n) (mI0 s'.low m)) }
  else if mB0 s.on m=true then tarKids set visit n l { s with low:=mput s.low n (min (mI0 s.low n) (mI0 s.idx m)) }
  else tarKids set visit n l s
def tarVisit (succ:List (List Int)) (set:List (Int × Bool)):Nat->Tar->Int->Option Tar
 | 0,_,_=>none
 | k+1,s,n =>
  if (0<=n/\n < succ.length)/\s.st.length<=1000000 then
   (tarKids set (tarVisit succ set k) n (succ.getD n.toNat []) { idx:=mput s.idx n s.idx.length,low:=mput s.low n s.idx.length,st:=s.st++[n],on:=mput s.on n true,out:=s.out }).bind fun s =>
    if mI0 s.low n=mI0 s.idx n then
     if s.st.idxOf n < s.st.length/\s.st.length<=1000000/\s.out.length<=1000000 then
      some { s with st:=s.st.take (s.st.idxOf n),on:=(s.st.drop (s.st.idxOf n)).foldl (fun m x=>mput m x false) s.on,out:=if 1 < (s.st.drop (s.st.idxOf n)).length∨(succ.getD n.toNat []).contains n=true then s.out++[sortI (s.st.drop (s.st.idxOf n))] else s.out }
     else none
    else some s
  else none
def tarAll (succ:List (List Int)) (set:List (Int × Bool)) (k:Nat):List Int->Tar->Option Tar
 | [],s=>some s
 | n :: l,s=>if mget s.idx n=none then (tarVisit succ set k s n).bind fun s'=>tarAll succ set k l s' else tarAll succ set k l s
def partsF (k:Nat) (succ:List (List Int)) (set:List (Int × Bool)):Option (List (List Int)) :=
 (tarAll succ set k (sortI (set.map (·.1))) { idx:=[],low:=[],st:=[],on:=[],out:=[] }).map (·.out)
def climb (m:List (Int × Int)) (idom:List Int):Nat->Int->Int->Option Int
 | 0,_,_=>none
 | k+1,a,b=>if mI0 m a > mI0 m b then (if 0<=a/\a < idom.length then climb m idom k (idom.getD a.toNat 0) b else none) else some a
def meetF (m:List (Int × Int)) (idom:List Int):Nat->Int->Int->Option Int
 | 0,_,_=>none
 | k+1,a,b=>if a≠b then (climb m idom k a b).bind fun a'=>(climb m idom k b a').bind fun b'=>meetF m idom k a' b' else some a
def nodeB (order:List Int) (m:List (Int × Int)) (idom:List Int) (a:Nat):Bool :=
 decide (idom.getD a 0 < 0) || (decide (0<=mI0 m a) && decide (order.getD (mI0 m a).toNat (-1)=a) && decide (0<=idom.getD a 0/\idom.getD a 0 < idom.length) && decide (0<=idom.getD (idom.getD a 0).toNat 0) && (decide (mI0 m (idom.getD a 0) < mI0 m a) || decide (mI0 m a=0)))
def treeB (order:List Int) (m:List (Int × Int)) (idom:List Int):Bool:=(List.range idom.length).all (nodeB order m idom)
def inT (idom:List Int) (a:Int):Prop:=0<=a/\a < idom.length/\0<=idom.getD a.toNat 0
theorem treeB_at {order:List Int} {m:List (Int × Int)} {idom:List Int} (h:treeB order m idom=true) {a:Int} (ha:inT idom a) :
  0<=mI0 m a/\order.getD (mI0 m a).toNat (-1)=a/\inT idom (idom.getD a.toNat 0)/\(mI0 m (idom.getD a.toNat 0) < mI0 m a∨mI0 m a=0):=by
 obtain ⟨h0,h1,h2⟩:=ha
 obtain ⟨a,rfl⟩:=Int.eq_ofNat_of_zero_le h0
 have:=List.all_eq_true.1 h a (by simpa using h1)
 simp only [nodeB,Bool.or_eq_true,Bool.and_eq_true,decide_eq_true_eq] at this
 rw [Int.toNat_natCast] at h2 ⊢
 rcases this with h' | ⟨⟨⟨⟨p1,p2⟩,p3,p4⟩,p5⟩,p6⟩
 ·omega
 ·exact ⟨p1,p2,⟨p3,p4,p5⟩,p6⟩
section
variable {order : List Int} {m : List (Int × Int)} {idom : List Int}
theorem climb_total (h:treeB order m idom=true) {b:Int} (hb:0<=mI0 m b):∀ (k:Nat) (a:Int),inT idom a->mI0 m a < k->∃ a',climb m idom k a b=some a'/\inT idom a'/\mI0 m a'<=mI0 m b/\mI0 m a'<=mI0 m a/\(mI0 m a<=mI0 m b->a'=a)
 | 0,a,ha,hk=>by have:=(treeB_at h ha).1;omega
 | k+1,a,ha,hk=>by
  obtain ⟨h1,h2,h3,h4⟩:=treeB_at h ha
  unfold climb
  by_cases hgt:mI0 m a > mI0 m b
  ·rw [if_pos hgt,if_pos ⟨ha.1,ha.2.1⟩]
   obtain ⟨a',e1,e2,e3,e4,_⟩:=climb_total h hb k _ h3 (by omega)
   exact ⟨a',e1,e2,e3,by omega,by omega⟩
  ·rw [if_neg hgt]
   exact ⟨a,rfl,ha,by omega,Int.le_refl _,fun _=>rfl⟩
theorem meet_total (h:treeB order m idom=true):∀ (k:Nat) (a b:Int),inT idom a->inT idom b->mI0 m a+mI0 m b+1 < k->∃ r,meetF m idom k a b=some r/\inT idom r
 | 0,a,b,ha,hb,hk=>by have:=(treeB_at h ha).1;have:=(treeB_at h hb).1;omega
 | k+1,a,b,ha,hb,hk=>by
  obtain ⟨a1,a2,_,_⟩:=treeB_at h ha
  obtain ⟨b1,b2,_,_⟩:=treeB_at h hb
  unfold meetF
  by_cases hab:a=b
  ·rw [if_neg (by simpa using hab)];exact ⟨a,rfl,ha⟩
  ·rw [if_pos hab]
   have hne:mI0 m a≠mI0 m b:=fun e=>hab (by rw [<-a2,<-b2,e])
   obtain ⟨a',e1,e2,e3,e4,e5⟩:=climb_total h b1 k a ha (by omega)
   have a1':=(treeB_at h e2).1
   obtain ⟨b',f1,f2,f3,f4,f5⟩:=climb_total h a1' k b hb (by omega)
   rw [e1]
   simp only [Option.bind_some]
   rw [f1]
   simp only [Option.bind_some]
   exact meet_total h k a' b' e2 f2 (by
    have:=(treeB_at h f2).1
    rcases Int.lt_or_gt_of_ne hne with hl | hg
    ·have:=e5 (by omega);subst this;omega
    ·omega)
end
def stepT (order:List Int) (m:List (Int × Int)) (idom:List Int) (d p:Int):Int :=
 if idom.getD p.toNat 0 < 0 then d else if d < 0 then p else (meetF m idom (2 * order.length+2) p d).getD 0
def foldT (order:List Int) (m:List (Int × Int)) (idom:List Int) (ps:List Int):Int:=ps.foldl (stepT order m idom) (-1)
theorem at_lt {order:List Int} {m:List (Int × Int)} {idom:List Int} (h:treeB order m idom=true) {a:Int} (ha:inT idom a):mI0 m a < order.length:=by
 obtain ⟨h1,h2,_,_⟩:=treeB_at h ha
 rcases Int.lt_or_le (mI0 m a) order.length with h' | h'
 ·exact h'
 ·rw [List.getD_eq_getElem?_getD,List.getElem?_eq_none (by omega)] at h2
  simp only [Option.getD_none] at h2
  have:=ha.1
  omega
theorem stepT_good {order:List Int} {m:List (Int × Int)} {idom:List Int} (h:treeB order m idom=true) {d p:Int} (hp:0<=p/\p < idom.length) (hd:d=-1∨inT idom d) :
  (stepT order m idom d p=-1∨inT idom (stepT order m idom d p))/\(¬ idom.getD p.toNat 0 < 0->¬ d < 0->meetF m idom (2 * order.length+2) p d=some (stepT order m idom d p)):=by
 unfold stepT
 by_cases h1:idom.getD p.toNat 0 < 0
 ·rw [if_pos h1];exact ⟨hd,fun h'=>absurd h1 h'⟩
 ·rw [if_neg h1]
  have hpT:inT idom p:=⟨hp.1,hp.2,by omega⟩
  by_cases h2:d < 0
  ·rw [if_pos h2];exact ⟨.inr hpT,fun _ h'=>absurd h2 h'⟩
  ·rw [if_neg h2]
   have hdT:inT idom d:=hd.resolve_left (by omega)
   obtain ⟨r,e1,e2⟩:=meet_total h (2 * order.length+2) p d hpT hdT (by have:=at_lt h hpT;have:=at_lt h hdT;omega)
   rw [e1]
   exact ⟨.inr e2,fun _ _=>rfl⟩
theorem foldT_snoc (order:List Int) (m:List (Int × Int)) (idom:List Int) (ps:List Int) (p:Int):foldT order m idom (ps++[p])=stepT order m idom (foldT order m idom ps) p:=by simp [foldT]
theorem foldT_good {order:List Int} {m:List (Int × Int)} {idom:List Int} (h:treeB order m idom=true):∀ (ps:List Int) (d:Int),(d=-1∨inT idom d)->(∀ p∈ps,0<=p/\p < idom.length)->(ps.foldl (stepT order m idom) d=-1∨inT idom (ps.foldl (stepT order m idom) d))
 | [],d,hd,_=>hd
 | p :: ps,d,hd,hp=>foldT_good h ps _ (stepT_good h (hp p (by simp)) hd).1 (fun q hq=>hp q (by simp [hq]))
def domPass (order:List Int) (m:List (Int × Int)) (preds:List (List Int)):List Int->List Int->Bool->Option (List Int × Bool)
 | [],idom,ch=>some (idom,ch)
 | n :: r,idom,ch =>
  if 0<=n/\n < idom.length then
   if treeB order m idom=true/\(∀ p∈preds.getD n.toNat [],0<=p/\p < idom.length) then
    if idom.getD n.toNat 0=foldT order m idom (preds.getD n.toNat []) then domPass order m preds r idom ch
    else domPass order m preds r (idom.set n.toNat (foldT order m idom (preds.getD n.toNat []))) true
   else none
  else none
def domLoop (order:List Int) (m:List (Int × Int)) (preds:List (List Int)):Nat->List Int->Option (List Int)
 | 0,_=>none
 | k+1,idom=>(domPass order m preds order.tail idom false).bind fun q=>if q.2=true then domLoop order m preds k q.1 else some q.1
def domsF (k:Nat) (order:List Int) (m:List (Int × Int)) (preds:List (List Int)) (nodes:Nat):Option (List Int) :=
 domLoop order m preds k ((List.replicate nodes (-1)).set 0 0)
end Go.Proofs.Ytfiiihpdekppiaa
end
