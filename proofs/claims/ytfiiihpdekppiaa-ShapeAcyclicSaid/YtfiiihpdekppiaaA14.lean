/- A part of the proof that vellumlaw12.ShapeAcyclic is true for every input: walks of functions that the row reaches and plain laws that they need. Conditions: none. Joined by merge.py out of T14 T15 T16; a part that began as a print is named P or W there and is trimmed. -/
import Derived.Test.YtfiiihpdekppiaaA13
set_option linter.unusedVariables false
set_option linter.unusedSimpArgs false
section
namespace Go.Proofs.Ytfiiihpdekppiaa
open PShapeReducible (S31)
def BKp (Q:Int->Prop) (s s':Bs):Prop:=s.n<=s'.n/\(∀ z,mget s'.loops z≠none↔mget s.loops z≠none)/\∀ z,¬ Q z->mget s'.loops z=mget s.loops z/\mget s'.blocks z=mget s.blocks z
theorem BKp.refl (Q:Int->Prop) (s:Bs):BKp Q s s:=⟨Nat.le_refl _,fun _=>Iff.rfl,fun _ _=>⟨rfl,rfl⟩⟩
theorem BKp.trans {Q:Int->Prop} {s s1 s2:Bs} (h:BKp Q s s1) (h':BKp Q s1 s2):BKp Q s s2 :=
 ⟨Nat.le_trans h.1 h'.1,fun z=>(h'.2.1 z).trans (h.2.1 z),fun z hz=>⟨(h'.2.2 z hz).1.trans (h.2.2 z hz).1,(h'.2.2 z hz).2.trans (h.2.2 z hz).2⟩⟩
theorem BKp.mono {Q Q':Int->Prop} {s s':Bs} (h:BKp Q s s') (hq:∀ z,Q z->Q' z):BKp Q' s s':=⟨h.1,h.2.1,fun z hz=>h.2.2 z fun hc=>hz (hq z hc)⟩
def inl (B:Bd) (n:Int):List Int:=(succs B.succ n).filter fun m=>decide (¬ mI0 B.att m<=mI0 B.att n) && !mB0 B.merged m
theorem chF_eq (B:Bd) (n:Int):chF B n=kidsOf B.kids n++inl B n:=rfl
def Tch (B:Bd):Job->Int->Prop
 | .tree n,z=>Desc (chF B) n z
 | .within n xs,z=>∃ c∈xs++inl B n,Desc (chF B) c z
 | .branch n m,z=>(¬ mI0 B.att m<=mI0 B.att n/\¬ mB0 B.merged m=true)/\Desc (chF B) m z
theorem brs_keep {f:Int->Bs->Option (S31 × Bs)} {Q:Int->Prop}:∀ (l:List Int) (s:Bs) (xs:List S31) (s':Bs),(∀ m∈l,∀ (s:Bs) (x:S31) (s':Bs),f m s=some (x,s')->BKp Q s s')->brs f l s=some (xs,s')->BKp Q s s'
 | [],s,xs,s',_,h=>by
  simp only [brs,Option.some.injEq,Prod.mk.injEq] at h
  rw [<-h.2];exact BKp.refl _ _
 | m :: l,s,xs,s',hf,h=>by
  unfold brs at h
  obtain ⟨⟨x,s1⟩,h1,h⟩:=Option.bind_eq_some_iff.1 h
  obtain ⟨⟨ys,s2⟩,h2,h⟩:=Option.bind_eq_some_iff.1 h
  simp only [Option.some.injEq,Prod.mk.injEq] at h h2
  rw [<-h.2]
  exact (hf m (by simp) _ _ _ h1).trans (brs_keep l _ _ _ (fun m hm=>hf m (by simp [hm])) h2)
theorem bF_keep (B:Bd):∀ (k:Nat) (j:Job) (s:Bs) (x:S31) (s':Bs),bF B k j s=some (x,s')->BKp (Tch B j) s s'
 | 0,j,s,x,s',h=>by cases j <;> simp [bF] at h
 | k+1,.tree n,s,x,s',h=>by
  unfold bF at h
  have hm:∀ z,Tch B (.within n (kidsOf B.kids n)) z->Tch B (.tree n) z:=fun z ⟨c,hc,hd⟩=>Desc.front hc hd
  split at h
  ·exact (bF_keep B k _ s x s' h).mono hm
  ·next v hv =>
   split at h
   ·obtain ⟨⟨y,s1⟩,h1,h⟩:=Option.bind_eq_some_iff.1 h
    simp only [Option.some.injEq,Prod.mk.injEq] at h
    rw [<-h.2]
    refine BKp.trans ?_ ((bF_keep B k _ _ _ _ h1).mono hm)
    refine ⟨Nat.le_succ _,fun z=>?_,fun z hz=>⟨?_,rfl⟩⟩
    ·show mget (mput s.loops n s.n) z≠none↔_
     rw [mget_put]
     split
     ·next e=>rw [e,hv];simp
     ·rfl
    ·show mget (mput s.loops n s.n) z=_
     rw [mget_put,if_neg]
     rintro rfl
     exact hz Desc.refl
   ·cases h
 | k+1,.within n (a :: r),s,x,s',h=>by
  unfold bF at h
  split at h
  ·obtain ⟨⟨y,s1⟩,h1,h⟩:=Option.bind_eq_some_iff.1 h
   obtain ⟨⟨y2,s2⟩,h2,h⟩:=Option.bind_eq_some_iff.1 h
   simp only [Option.some.injEq,Prod.mk.injEq] at h h2
   rw [<-h.2]
   refine BKp.trans (BKp.trans ?_ ((bF_keep B k _ _ _ _ h1).mono fun z ⟨c,hc,hd⟩=>⟨c,by simp only [List.cons_append,List.mem_cons];exact .inr hc,hd⟩)) ((bF_keep B k _ _ _ _ h2).mono fun z hd=>⟨a,by simp,hd⟩)
   refine ⟨Nat.le_succ _,fun z=>Iff.rfl,fun z hz=>⟨rfl,?_⟩⟩
   show mget (mput s.blocks a s.n) z=_
   rw [mget_put,if_neg]
   rintro rfl
   exact hz ⟨z,by simp,Desc.refl⟩
  ·cases h
 | k+1,.within n [],s,x,s',h=>by
  unfold bF at h
  split at h
  ·obtain ⟨⟨y,s1⟩,h1,h⟩:=Option.bind_eq_some_iff.1 h
   simp only [Option.some.injEq,Prod.mk.injEq] at h
   rw [<-h.2]
   refine brs_keep _ _ _ _ (fun m hm s x s' h=>?_) h1
   refine (bF_keep B k _ _ _ _ h).mono fun z ⟨h1,h2⟩=>⟨m,?_,h2⟩
   refine List.mem_append.2 (.inr (List.mem_filter.2 ⟨hm,?_⟩))
   simp only [Bool.and_eq_true,decide_eq_true_eq,Bool.not_eq_true']
   exact ⟨h1.1,by simpa using h1.2⟩
  ·cases h
 | k+1,.branch n m,s,x,s',h=>by
  unfold bF at h
  split at h
  ·simp only [Option.some.injEq,Prod.mk.injEq] at h;rw [<-h.2];exact BKp.refl _ _
  ·next h1 =>
   split at h
   ·simp only [Option.some.injEq,Prod.mk.injEq] at h;rw [<-h.2];exact BKp.refl _ _
   ·next h2=>exact (bF_keep B k _ _ _ _ h).mono fun z hz=>⟨⟨h1,h2⟩,hz⟩
inductive FI where
 | lo (h:Int)
 | bl (y:Int)
def FI.z:FI->Int
 | .lo h=>h
 | .bl y=>y
section
variable (ph : Int → Int)
def Vis (ss:List Stp) (q:Nat) (y:Int):Prop:=∃ p,ss[q]?=some p/\p.kind=0/\p.node=ph y
def Goes (c:Cs) (I:List FI) (t:Nat) (y:Int):Prop :=
 Vis ph c.steps t y∨(∃ q:Nat,c.steps[t]?=some ⟨1,0,[(q:Int)]⟩/\Vis ph c.steps q y)∨∃ (i:Nat) (f:Frm),c.steps[t]?=some ⟨1,0,[]⟩/\c.frames[i]?=some f/\(t:Int)∈f.brk/\I[i]?=some (FI.bl y)
def VOkG (B:Bd) (r:List Int) (G:Nat->Int->Prop) (ss:List Stp) (i:Nat):Prop :=
 ∀ p,ss[i]?=some p->p.kind=0->∃ u∈r,p.node=ph u/\p.tos.length=(succs B.succ u).length/\∀ (j:Nat) (y:Int),(succs B.succ u)[j]?=some y->∃ t:Nat,p.tos[j]?=some (t:Int)/\G t y
def VOk (B:Bd) (r:List Int) (c:Cs) (I:List FI) (i:Nat):Prop:=VOkG ph B r (Goes ph c I) c.steps i
structure Ctx (s:Bs) (c:Cs) (I:List FI) (pend:Option Int):Prop where
 bad:c.bad=false
 len:c.frames.length=I.length
 lo:∀ (i:Nat) (f:Frm) (h:Int),c.frames[i]?=some f->I[i]?=some (FI.lo h)->f.loop=true/\mget s.loops h=some f.label/\∃ q:Nat,f.start=q/\(Vis ph c.steps q h∨(pend=some h/\q=c.steps.length))
 bl:∀ (i:Nat) (f:Frm) (y:Int),c.frames[i]?=some f->I[i]?=some (FI.bl y)->f.loop=false/\mget s.blocks y=some f.label
 lab:∀ (i:Nat) (f:Frm),c.frames[i]?=some f->0<=f.label/\f.label < s.n
 uniq:∀ (i j:Nat) (f f':Frm),c.frames[i]?=some f->c.frames[j]?=some f'->f.label=f'.label->i=j
 used:∀ u∈c.used,u < (s.n:Int)
 brk:∀ (i:Nat) (f:Frm) (t:Int),c.frames[i]?=some f->t∈f.brk->∃ q:Nat,t=q/\c.steps[q]?=some ⟨1,0,[]⟩
 sep:∀ (i j:Nat) (f f':Frm) (t:Int),c.frames[i]?=some f->c.frames[j]?=some f'->t∈f.brk->t∈f'.brk->i=j
structure KExt (c c':Cs):Prop where
 len:c.steps.length<=c'.steps.length
 keep:∀ i,i < c.steps.length->c'.steps[i]?=c.steps[i]?
 fr:∀ (i:Nat) (f:Frm),c.frames[i]?=some f->∃ new:List Int,c'.frames[i]?=some { f with brk:=f.brk++new }/\∀ t∈new,(c.steps.length:Int)<=t
end
theorem KExt.refl (c:Cs):KExt c c:=⟨Nat.le_refl _,fun _ _=>rfl,fun i f h=>⟨[],by simp [h],by simp⟩⟩
theorem KExt.trans {c c1 c2:Cs} (h:KExt c c1) (h':KExt c1 c2):KExt c c2:=by
 refine ⟨Nat.le_trans h.len h'.len,fun i hi=>(h'.keep i (Nat.lt_of_lt_of_le hi h.len)).trans (h.keep i hi),fun i f hf=>?_⟩
 obtain ⟨n1,e1,h1⟩:=h.fr i f hf
 obtain ⟨n2,e2,h2⟩:=h'.fr i _ e1
 refine ⟨n1++n2,by rw [e2];simp,fun t ht=>?_⟩
 have:=h.len
 rcases List.mem_append.1 ht with ht | ht
 ·exact h1 t ht
 ·have:=h2 t ht;omega
section
variable {ph : Int → Int} {B : Bd} {r : List Int}
theorem lt_of_get {α:Type} {l:List α} {i:Nat} {a:α} (h:l[i]?=some a):i < l.length:=by
 rcases Nat.lt_or_ge i l.length with h' | h'
 ·exact h'
 ·rw [List.getElem?_eq_none h'] at h;cases h
theorem Vis.ext {c c':Cs} (h:KExt c c') {q:Nat} {y:Int} (hv:Vis ph c.steps q y):Vis ph c'.steps q y:=by
 obtain ⟨p,h1,h2⟩:=hv
 exact ⟨p,(h.keep q (lt_of_get h1)).trans h1,h2⟩
theorem Goes.ext {c c':Cs} (h:KExt c c') {I:List FI} {t:Nat} {y:Int} (hg:Goes ph c I t y):Goes ph c' I t y:=by
 rcases hg with hg | ⟨q,h1,h2⟩ | ⟨i,f,h1,h2,h3,h4⟩
 ·exact .inl (hg.ext h)
 ·exact .inr (.inl ⟨q,(h.keep t (lt_of_get h1)).trans h1,h2.ext h⟩)
 ·obtain ⟨new,e,_⟩:=h.fr i f h2
  exact .inr (.inr ⟨i,_,(h.keep t (lt_of_get h1)).trans h1,e,by simp [h3],h4⟩)
theorem VOk.ext {c c':Cs} (h:KExt c c') {I:List FI} {i:Nat} (hi:i < c.steps.length) (hv:VOk ph B r c I i):VOk ph B r c' I i:=fun p hp hk=>by
 rw [h.keep i hi] at hp
 obtain ⟨u,h1,h2,h3,h4⟩:=hv p hp hk
 exact ⟨u,h1,h2,h3,fun j y hy=>by obtain ⟨t,h5,h6⟩:=h4 j y hy;exact ⟨t,h5,h6.ext h⟩⟩
end
section
variable {ph : Int → Int} {B : Bd} {r : List Int}
theorem VOkG.mono {G G':Nat->Int->Prop} {ss:List Stp} {i:Nat} (h:VOkG ph B r G ss i) (hg:∀ t y,G t y->G' t y):VOkG ph B r G' ss i:=fun p hp hk=>by
 obtain ⟨u,h1,h2,h3,h4⟩:=h p hp hk
 exact ⟨u,h1,h2,h3,fun j y hy=>by obtain ⟨t,h5,h6⟩:=h4 j y hy;exact ⟨t,h5,hg _ _ h6⟩⟩
theorem land_get:∀ (es:List Int) (c:Cs),(∀ e∈es,0<=e)->((c.land es).frames=c.frames/\(c.land es).used=c.used/\(c.land es).bad=c.bad/\(c.land es).steps.length=c.steps.length)/\∀ i:Nat,(c.land es).steps[i]?=if (i:Int)∈es then c.steps[i]?.map (fun p=>{ p with tos:=[(c.steps.length:Int)] }) else c.steps[i]?
 | [],c,_=>⟨⟨rfl,rfl,rfl,rfl⟩,fun i=>by simp [Cs.land]⟩
 | e :: es,c,h=>by
  have he:=h e (by simp)
  obtain ⟨⟨h1,h2,h3,h4⟩,h5⟩:=land_get es (c.setTo e.toNat [(c.steps.length:Int)]) fun x hx=>h x (by simp [hx])
  have hl:(c.setTo e.toNat [(c.steps.length:Int)]).steps.length=c.steps.length:=by simp [Cs.setTo,setTos]
  unfold Cs.land
  refine ⟨⟨h1,h2,h3,h4.trans hl⟩,fun i=>?_⟩
  rw [h5 i,hl]
  have hg:(c.setTo e.toNat [(c.steps.length:Int)]).steps[i]?=if (i:Int)=e then c.steps[i]?.map (fun p=>{ p with tos:=[(c.steps.length:Int)] }) else c.steps[i]?:=by
   simp only [Cs.setTo,setTos,List.getElem?_modify]
   by_cases hc:(i:Int)=e
   ·have:e.toNat=i:=by omega
    rw [if_pos hc]
    simp [this]
   ·have:¬ e.toNat=i:=by omega
    rw [if_neg hc]
    simp [this]
  rw [hg]
  simp only [List.mem_cons]
  by_cases c1:(i:Int)=e
  ·by_cases c2:(i:Int)∈es
   ·simp only [c1,true_or,if_true]
    rw [<-c1,if_pos c2]
    cases c.steps[i]? <;> rfl
   ·rw [if_neg c2,if_pos c1,if_pos (.inl c1)]
  ·simp [c1]
theorem Vis.upd {ss ss':List Stp} {es:List Int} {v:Int} (hg:∀ i:Nat,ss'[i]?=if (i:Int)∈es then ss[i]?.map (fun p=>{ p with tos:=[v] }) else ss[i]?) {q:Nat} {y:Int} (h:Vis ph ss q y):Vis ph ss' q y:=by
 obtain ⟨p,h1,h2,h3⟩:=h
 by_cases hc:(q:Int)∈es
 ·exact ⟨{ p with tos:=[v] },by rw [hg,if_pos hc,h1];rfl,h2,h3⟩
 ·exact ⟨p,by rw [hg,if_neg hc,h1],h2,h3⟩
theorem goes_upd {c c':Cs} {I I':List FI} {es:List Int} {v:Int} (hg:∀ i:Nat,c'.steps[i]?=if (i:Int)∈es then c.steps[i]?.map (fun p=>{ p with tos:=[v] }) else c.steps[i]?)
  (hes:∀ q:Nat,(q:Int)∈es->c.steps[q]?=some ⟨1,0,[]⟩) {P:Prop} {t:Nat} {y:Int} (h:Goes ph c I t y) (h0:Goes ph c' I' t y->P)
  (h3:∀ (i:Nat) (f:Frm),c.steps[t]?=some ⟨1,0,[]⟩->c.frames[i]?=some f->(t:Int)∈f.brk->I[i]?=some (FI.bl y)->P):P:=by
 rcases h with h | ⟨q,h1,h2⟩ | ⟨i,f,h1,h2,h4,h5⟩
 ·exact h0 (.inl (h.upd hg))
 ·refine h0 (.inr (.inl ⟨q,?_,h2.upd hg⟩))
  rw [hg,if_neg,h1]
  intro hc
  have:=hes t hc
  rw [h1] at this
  simp at this
 ·exact h3 i f h1 h2 h4 h5
theorem VOkG.upd {ss ss':List Stp} {es:List Int} {v:Int} {G:Nat->Int->Prop} (hg:∀ i:Nat,ss'[i]?=if (i:Int)∈es then ss[i]?.map (fun p=>{ p with tos:=[v] }) else ss[i]?)
  (hes:∀ q:Nat,(q:Int)∈es->ss[q]?=some ⟨1,0,[]⟩) {i:Nat} (h:VOkG ph B r G ss i):VOkG ph B r G ss' i:=fun p hp hk=>by
 rw [hg] at hp
 split at hp
 ·next hc =>
  rw [hes i hc] at hp
  simp only [Option.map_some,Option.some.injEq] at hp
  rw [<-hp] at hk
  simp at hk
 ·exact h p hp hk
structure Post (ph:Int->Int) (B:Bd) (r:List Int) (s':Bs) (c c':Cs) (I:List FI):Prop where
 ctx:Ctx ph s' c' I none
 ext:KExt c c'
 vis:∀ i,c.steps.length<=i->VOk ph B r c' I i
theorem Post.trans {s1 s2:Bs} {c c1 c2:Cs} {I:List FI} (h:Post ph B r s1 c c1 I) (h':Post ph B r s2 c1 c2 I):Post ph B r s2 c c2 I:=by
 refine ⟨h'.ctx,h.ext.trans h'.ext,fun i hi=>?_⟩
 by_cases hc:i < c1.steps.length
 ·exact (h.vis i hi).ext h'.ext hc
 ·exact h'.vis i (by omega)
theorem open_ctx {s:Bs} {c:Cs} {I:List FI} {pend pend':Option Int} (h:Ctx ph s c I pend) {s1:Bs} (fi:FI) (loop:Bool) (hn:s1.n=s.n+1)
  (hold:∀ f∈I,match f with | .lo h=>mget s1.loops h=mget s.loops h | .bl y=>mget s1.blocks y=mget s.blocks y)
  (hnew:match fi with | .lo h=>loop=true/\mget s1.loops h=some (s.n:Int)/\pend'=some h | .bl y=>loop=false/\mget s1.blocks y=some (s.n:Int))
  (hp:∀ h,pend=some h->pend'=some h):Ctx ph s1 (c.open s.n loop) (I++[fi]) pend':=by
 have hgf:∀ (i:Nat) (f:Frm),(c.open s.n loop).frames[i]?=some f->(i < I.length/\c.frames[i]?=some f)∨(i=I.length/\f=⟨s.n,c.steps.length,loop,[]⟩):=fun i f hf=>by
  simp only [Cs.open] at hf
  rw [List.getElem?_append] at hf
  split at hf
  ·next hi=>exact .inl ⟨by rw [<-h.len];exact hi,hf⟩
  ·next hi =>
   rw [h.len] at hf hi
   have:=lt_of_get hf
   simp at this
   have hi':i=I.length:=by omega
   subst hi'
   simp at hf
   exact .inr ⟨rfl,hf.symm⟩
 have hgi:∀ (i:Nat) (f:FI),i < I.length->(I++[fi])[i]?=some f->I[i]?=some f:=fun i f hi hf=>by rwa [List.getElem?_append_left hi] at hf
 have hgl:(I++[fi])[I.length]?=some fi:=by simp
 refine ⟨h.bad,by simp [Cs.open,h.len],fun i f hh hf hi=>?_,fun i f y hf hi=>?_,fun i f hf=>?_,fun i j f f' hf hf' e=>?_,fun u hu=>?_,fun i f t hf ht=>?_,fun i j f f' t hf hf' ht ht'=>?_⟩
 ·rcases hgf i f hf with ⟨h1,h2⟩ | ⟨rfl,rfl⟩
  ·have h3:=hgi i _ h1 hi
   obtain ⟨a,b,q,e,d⟩:=h.lo i f hh h2 h3
   have:=hold _ (List.mem_of_getElem? h3)
   refine ⟨a,this.trans b,q,e,?_⟩
   rcases d with d | ⟨d1,d2⟩
   ·exact .inl d
   ·exact .inr ⟨hp _ d1,d2⟩
  ·rw [hgl,Option.some.injEq] at hi
   subst hi
   obtain ⟨a,b,d⟩:=hnew
   exact ⟨a,b,c.steps.length,rfl,.inr ⟨d,rfl⟩⟩
 ·rcases hgf i f hf with ⟨h1,h2⟩ | ⟨rfl,rfl⟩
  ·have h3:=hgi i _ h1 hi
   obtain ⟨a,b⟩:=h.bl i f y h2 h3
   have:=hold _ (List.mem_of_getElem? h3)
   exact ⟨a,this.trans b⟩
  ·rw [hgl,Option.some.injEq] at hi
   subst hi
   exact hnew
 ·rcases hgf i f hf with ⟨h1,h2⟩ | ⟨rfl,rfl⟩
  ·have:=h.lab i f h2;rw [hn];omega
  ·rw [hn];exact ⟨by show (0:Int)<=s.n;omega,by show (s.n:Int) < _;omega⟩
 ·rcases hgf i f hf with ⟨h1,h2⟩ | ⟨rfl,rfl⟩ <;> rcases hgf j f' hf' with ⟨h1',h2'⟩ | ⟨rfl,rfl⟩
  ·exact h.uniq i j f f' h2 h2' e
  ·have:=h.lab i f h2;simp only at e;omega
  ·have:=h.lab j f' h2';simp only at e;omega
  ·rfl
 ·simp only [Cs.open,List.mem_append,List.mem_singleton] at hu
  rw [hn]
  rcases hu with hu | rfl
  ·have:=h.used u hu;omega
  ·omega
 ·rcases hgf i f hf with ⟨h1,h2⟩ | ⟨rfl,rfl⟩
  ·exact h.brk i f t h2 ht
  ·simp at ht
 ·rcases hgf i f hf with ⟨h1,h2⟩ | ⟨rfl,rfl⟩ <;> rcases hgf j f' hf' with ⟨h1',h2'⟩ | ⟨rfl,rfl⟩
  ·exact h.sep i j f f' t h2 h2' ht ht'
  ·simp at ht'
  ·simp at ht
  ·rfl
theorem close_ok {s':Bs} {c c2:Cs} {I:List FI} {label:Int} {loop:Bool} {fi:FI} {start:Nat} (hl:c.frames.length=I.length) (h:Post ph B r s' (c.open label loop) c2 (I++[fi])) :
  Ctx ph s' (c2.close loop start) I none/\KExt c (c2.close loop start)/\c2.steps.length<=(c2.close loop start).steps.length /\
   (∀ q y,Vis ph c2.steps q y->Vis ph (c2.close loop start).steps q y) /\
   ∀ i,c.steps.length<=i->VOkG ph B r (fun t z=>Goes ph (c2.close loop start) I t z∨(fi=.bl z/\(c2.close loop start).steps[t]?=some ⟨1,0,[((c2.close loop start).steps.length:Int)]⟩)) (c2.close loop start).steps i:=by
 have hx:=h.ctx
 have hlen2:c2.frames.length=I.length+1:=by rw [hx.len];simp
 obtain ⟨new,hf2,hnew⟩:=h.ext.fr I.length ⟨label,c.steps.length,loop,[]⟩ (by simp [Cs.open,<-hl])
 have hbr:c2.breaks=new:=by
  unfold Cs.breaks
  rw [hlen2,Nat.add_sub_cancel,hf2]
  simp
 have hnew':∀ t∈new,∃ q:Nat,t=q/\c2.steps[q]?=some ⟨1,0,[]⟩:=fun t ht=>hx.brk _ _ t hf2 (by simpa using ht)
 obtain ⟨d,hd⟩:∃ d:Cs,d=if loop then Cs.emit { c2 with frames:=c2.frames.take (c2.frames.length - 1) } ⟨1,0,[(start:Int)]⟩ else { c2 with frames:=c2.frames.take (c2.frames.length - 1) }:=⟨_,rfl⟩
 have hc3:c2.close loop start=d.land new:=by rw [hd,<-hbr];rfl
 have hdf:d.frames=c2.frames.take I.length:=by rw [hd];split <;> simp [Cs.emit,hlen2]
 have hdu:d.used=c2.used:=by rw [hd];split <;> rfl
 have hdb:d.bad=false:=by rw [hd];split <;> exact hx.bad
 have hds:∃ e:List Stp,d.steps=c2.steps++e/\∀ p∈e,p.kind=1/\p.tos≠[]:=by
  rw [hd];split
  ·exact ⟨[⟨1,0,[(start:Int)]⟩],rfl,by simp⟩
  ·exact ⟨[],by simp,by simp⟩
 obtain ⟨e,hds,hek⟩:=hds
 have hdg:∀ i,i < c2.steps.length->d.steps[i]?=c2.steps[i]?:=fun i hi=>by rw [hds,List.getElem?_append_left hi]
 obtain ⟨⟨l1,l2,l3,l4⟩,lg⟩:=land_get new d fun x hx'=>by obtain ⟨q,rfl,_⟩:=hnew' x hx';omega
 have hes:∀ q:Nat,(q:Int)∈new->d.steps[q]?=some ⟨1,0,[]⟩:=fun q hq=>by
  obtain ⟨q',e',h'⟩:=hnew' _ hq
  have:q=q':=by omega
  subst this
  rw [hdg q (lt_of_get h'),h']
 rw [hc3]
 have hgf:∀ (i:Nat) (f:Frm),(d.land new).frames[i]?=some f->i < I.length/\c2.frames[i]?=some f:=fun i f hf=>by
  rw [l1,hdf,List.getElem?_take] at hf
  split at hf
  ·next hi=>exact ⟨hi,hf⟩
  ·cases hf
 have hgI:∀ (i:Nat) (f:FI),I[i]?=some f->(I++[fi])[i]?=some f:=fun i f hf=>by rw [List.getElem?_append_left (lt_of_get hf)];exact hf
 have hvd:∀ (q:Nat) (y:Int),Vis ph c2.steps q y->Vis ph d.steps q y:=fun q y ⟨p,h1,h2⟩=>⟨p,by rw [hdg q (lt_of_get h1),h1],h2⟩
 have hv3:∀ (q:Nat) (y:Int),Vis ph c2.steps q y->Vis ph (d.land new).steps q y:=fun q y hv=>(hvd q y hv).upd lg
 have hoff:∀ (i:Nat) (f:Frm) (t:Int),i < I.length->c2.frames[i]?=some f->t∈f.brk->t ∉ new:=fun i f t hi hf ht hc=>by
  have:=hx.sep i I.length f _ t hf hf2 ht (by simpa using hc)
  omega
 have hlen3:(d.land new).steps.length=d.steps.length:=l4
 have hcl:c.steps.length<=c2.steps.length:=h.ext.len
 refine ⟨⟨l3.trans hdb,by rw [l1,hdf,List.length_take,hlen2];omega,fun i f hh hf hi=>?_,fun i f y hf hi=>?_,fun i f hf=>hx.lab i f (hgf i f hf).2,fun i j f f' hf hf'=>hx.uniq i j f f' (hgf i f hf).2 (hgf j f' hf').2,fun u hu=>hx.used u (by rw [<-hdu,<-l2];exact hu),fun i f t hf ht=>?_,fun i j f f' t hf hf'=>hx.sep i j f f' t (hgf i f hf).2 (hgf j f' hf').2⟩,⟨?_,fun i hi=>?_,fun i f hf=>?_⟩,by rw [hlen3,hds];simp,hv3,fun i hi=>?_⟩
 ·obtain ⟨h1,h2⟩:=hgf i f hf
  obtain ⟨a,b,q,e',w⟩:=hx.lo i f hh h2 (hgI i _ hi)
  refine ⟨a,b,q,e',.inl ?_⟩
  rcases w with w | ⟨w,_⟩
  ·exact hv3 q hh w
  ·cases w
 ·obtain ⟨h1,h2⟩:=hgf i f hf
  exact hx.bl i f y h2 (hgI i _ hi)
 ·obtain ⟨h1,h2⟩:=hgf i f hf
  obtain ⟨q,e',h3⟩:=hx.brk i f t h2 ht
  refine ⟨q,e',?_⟩
  rw [lg,if_neg (by rw [<-e'];exact hoff i f t h1 h2 ht),hdg q (lt_of_get h3),h3]
 ·rw [hlen3,hds];simp;omega
 ·rw [lg,if_neg,hdg i (by omega)]
  ·exact h.ext.keep i hi
  ·intro hc
   have:=hnew _ hc
   simp only [Cs.open] at this
   omega
 ·have hi:=lt_of_get hf
  obtain ⟨nw,e1,e2⟩:=h.ext.fr i f (by simp only [Cs.open];rw [List.getElem?_append_left hi];exact hf)
  refine ⟨nw,?_,e2⟩
  rw [l1,hdf,List.getElem?_take,if_pos (by omega)]
  exact e1
 ·have hvk:VOkG ph B r (Goes ph c2 (I++[fi])) d.steps i:=fun p hp hk=>by
   have hi2:i < c2.steps.length:=by
    refine Classical.byContradiction fun hc=>?_
    rw [hds,List.getElem?_append_right (by omega)] at hp
    have:=(hek p (List.mem_of_getElem? hp)).1
    omega
   rw [hdg i hi2] at hp
   exact h.vis i hi p hp hk
  refine (hvk.upd lg hes).mono fun t z hg=>?_
  have hg':Goes ph { d with frames:=c2.frames } (I++[fi]) t z:=by
   rcases hg with hg | ⟨q,h1,h2⟩ | ⟨i',f,h1,h2,h3,h4⟩
   ·exact .inl (hvd _ _ hg)
   ·exact .inr (.inl ⟨q,(hdg t (lt_of_get h1)).trans h1,hvd _ _ h2⟩)
   ·exact .inr (.inr ⟨i',f,(hdg t (lt_of_get h1)).trans h1,h2,h3,h4⟩)
  refine goes_upd (c:={ d with frames:=c2.frames }) (c':=d.land new) (I':=I) lg hes hg' .inl fun i' f h1 h2 h3 h4=>?_
  by_cases hi':i' < I.length
  ·refine .inl (.inr (.inr ⟨i',f,?_,?_,h3,?_⟩))
   ·rw [lg,if_neg (hoff i' f _ hi' h2 h3)];exact h1
   ·rw [l1,hdf,List.getElem?_take,if_pos hi'];exact h2
   ·rwa [List.getElem?_append_left hi'] at h4
  ·have:=lt_of_get h4
   simp at this
   have e':i'=I.length:=by omega
   subst e'
   have h2:c2.frames[I.length]?=some f:=h2
   rw [hf2] at h2
   simp only [Option.some.injEq] at h2
   rw [<-h2] at h3
   simp at h3 h4
   refine .inr ⟨h4,?_⟩
   rw [lg,if_pos h3,hlen3]
   have h1:d.steps[t]?=some ⟨1,0,[]⟩:=h1
   rw [h1];rfl
end
theorem encl_at {t:Frm->Bool} {fs:List Frm} {i:Nat} {f:Frm} (hi:fs[i]?=some f) (ht:t f=true) (hu:∀ (j:Nat) (f':Frm),fs[j]?=some f'->t f'=true->j=i):∀ k,i < k->enclF t fs k=(i:Int)
 | 0,h=>by omega
 | k+1,h=>by
  unfold enclF
  by_cases hc:k=i
  ·subst hc;simp [hi,ht]
  ·rw [if_neg,encl_at hi ht hu k (by omega)]
   cases e:fs[k]? with
   | none=>simp
   | some f'=>simp only [Option.map_some,Option.getD_some];exact fun h'=>hc (hu k f' e h')
section
variable {ph : Int → Int} {B : Bd} {r : List Int}
theorem emit_get (c:Cs) (p:Stp) (i:Nat):(c.emit p).steps[i]?=if i=c.steps.length then some p else c.steps[i]?:=by
 simp only [Cs.emit,List.getElem?_append]
 split
 ·rw [if_neg (by omega)]
 ·split
  ·next h=>simp [h]
  ·rw [List.getElem?_eq_none (by simp;omega),List.getElem?_eq_none (by omega)]
theorem emit_ext (c:Cs) (p:Stp):KExt c (c.emit p):=⟨by simp [Cs.emit],fun i hi=>by rw [emit_get,if_neg (by omega)],fun i f hf=>⟨[],by simp [Cs.emit,hf],by simp⟩⟩
theorem emit_ctx {s:Bs} {c:Cs} {I:List FI} {pend:Option Int} (h:Ctx ph s c I pend) (p:Stp) (hp:∀ y,pend=some y->p.kind=0/\p.node=ph y):Ctx ph s (c.emit p) I none:=by
 have hx:=emit_ext c p
 refine ⟨h.bad,h.len,fun i f hh hf hi=>?_,h.bl,h.lab,h.uniq,h.used,fun i f t hf ht=>?_,h.sep⟩
 ·obtain ⟨a,b,q,e,w⟩:=h.lo i f hh hf hi
  refine ⟨a,b,q,e,.inl ?_⟩
  rcases w with w | ⟨w1,w2⟩
  ·exact w.ext hx
  ·exact ⟨p,by rw [emit_get,if_pos w2],hp _ w1⟩
 ·obtain ⟨q,e,h1⟩:=h.brk i f t hf ht
  exact ⟨q,e,(hx.keep q (lt_of_get h1)).trans h1⟩
theorem emit_post {s:Bs} {c:Cs} {I:List FI} (h:Ctx ph s c I none) (p:Stp) (hp:p.kind=1):Post ph B r s c (c.emit p) I:=by
 refine ⟨emit_ctx h p (fun y hy=>by cases hy),emit_ext c p,fun i hi q hq hk=>?_⟩
 rw [emit_get] at hq
 split at hq
 ·simp only [Option.some.injEq] at hq;rw [<-hq] at hk;omega
 ·have:=lt_of_get hq;omega
theorem leave_cont {s:Bs} {c:Cs} {I:List FI} {m:Int} (h:Ctx ph s c I none) (hm:FI.lo m∈I):Post ph B r s c (c.leave 6 0 (mI0 s.loops m) []) I/\Goes ph (c.leave 6 0 (mI0 s.loops m) []) I c.steps.length m:=by
 obtain ⟨i,hi⟩:=List.mem_iff_getElem?.1 hm
 have hil:i < c.frames.length:=by rw [h.len];exact lt_of_get hi
 obtain ⟨f,hf⟩:∃ f,c.frames[i]?=some f:=⟨_,List.getElem?_eq_getElem hil⟩
 obtain ⟨h1,h2,q,h3,h4⟩:=h.lo i f m hf hi
 have hlab:mI0 s.loops m=f.label:=by unfold mI0;rw [h2];rfl
 have hen:enclF (fun f=>decide (f.label=mI0 s.loops m) && (!decide ((6:Int)=6) || f.loop)) c.frames c.frames.length=(i:Int) :=
  encl_at hf (by simp [hlab,h1]) (fun j f' hj ht=>(h.uniq i j f f' hf hj (by simp only [Bool.and_eq_true,decide_eq_true_eq] at ht;rw [ht.1,hlab])).symm) _ hil
 have e:c.leave 6 0 (mI0 s.loops m) []=c.emit ⟨1,0,[(q:Int)]⟩:=by
  unfold Cs.leave
  dsimp only
  rw [hen,if_neg (by simp),if_neg (by omega)]
  simp only [Cs.emit,Cs.setTo,setTos,Int.toNat_natCast,hf,Option.map_some,Option.getD_some,h3]
  congr 1
  apply List.ext_getElem?
  intro k
  rw [List.getElem?_modify,List.getElem?_append,List.getElem?_append]
  rcases Nat.lt_trichotomy k c.steps.length with hk | hk | hk
  ·have:¬ c.steps.length=k:=by omega
   simp [hk,this]
  ·simp [hk]
  ·have:¬ k < c.steps.length:=by omega
   have h5:¬ c.steps.length=k:=by omega
   rw [if_neg this,if_neg this,List.getElem?_eq_none (by simp;omega),List.getElem?_eq_none (by simp;omega)]
   simp
 rw [e]
 have hp:=emit_post (B:=B) (r:=r) h ⟨1,0,[(q:Int)]⟩ rfl
 refine ⟨hp,.inr (.inl ⟨q,by rw [emit_get,if_pos rfl],?_⟩)⟩
 rcases h4 with h4 | ⟨h4,_⟩
 ·exact h4.ext hp.ext
 ·cases h4
theorem leave_brk {s:Bs} {c:Cs} {I:List FI} {y:Int} (h:Ctx ph s c I none) (hy:FI.bl y∈I):Post ph B r s c (c.leave 5 0 (mI0 s.blocks y) []) I/\Goes ph (c.leave 5 0 (mI0 s.blocks y) []) I c.steps.length y:=by
 obtain ⟨i,hi⟩:=List.mem_iff_getElem?.1 hy
 have hil:i < c.frames.length:=by rw [h.len];exact lt_of_get hi
 obtain ⟨f,hf⟩:∃ f,c.frames[i]?=some f:=⟨_,List.getElem?_eq_getElem hil⟩
 obtain ⟨h1,h2⟩:=h.bl i f y hf hi
 have hlab:mI0 s.blocks y=f.label:=by unfold mI0;rw [h2];rfl
 have hen:enclF (fun f=>decide (f.label=mI0 s.blocks y) && (!decide ((5:Int)=6) || f.loop)) c.frames c.frames.length=(i:Int) :=
  encl_at hf (by simp [hlab]) (fun j f' hj ht=>(h.uniq i j f f' hf hj (by simp only [Bool.and_eq_true,decide_eq_true_eq] at ht;rw [ht.1,hlab])).symm) _ hil
 have e:c.leave 5 0 (mI0 s.blocks y) []={ c.emit ⟨1,0,[]⟩ with frames:=addBrk c.frames i c.steps.length }:=by
  unfold Cs.leave
  dsimp only
  rw [hen,if_neg (by simp)]
  simp [Cs.emit]
 rw [e]
 have hp:=emit_post (B:=B) (r:=r) h ⟨1,0,[]⟩ rfl
 have hg:∀ (j:Nat) (f':Frm),(addBrk c.frames i c.steps.length)[j]?=some f'->∃ f0,c.frames[j]?=some f0/\f'={ f0 with brk:=f0.brk++(if j=i then [(c.steps.length:Int)] else []) }:=fun j f' hj=>by
  unfold addBrk at hj
  rw [List.getElem?_modify] at hj
  cases e:c.frames[j]? with
  | none=>rw [e] at hj;simp at hj
  | some f0 =>
   rw [e] at hj
   refine ⟨f0,rfl,?_⟩
   simp only [Option.map_eq_map,Option.map_some,Option.some.injEq] at hj
   rw [<-hj]
   by_cases hc:i=j
   ·simp [hc]
   ·rw [if_neg hc,if_neg (Ne.symm hc)];simp
 have hlt:∀ (j:Nat) (f0:Frm) (t:Int),c.frames[j]?=some f0->t∈f0.brk->t < c.steps.length:=fun j f0 t hj ht=>by
  obtain ⟨q,rfl,h3⟩:=h.brk j f0 t hj ht
  have:=lt_of_get h3
  omega
 have hx:=emit_ext c ⟨1,0,[]⟩
 refine ⟨⟨⟨h.bad,by simp [addBrk,h.len],fun j f' hh hj hi'=>?_,fun j f' z hj hi'=>?_,fun j f' hj=>?_,fun j k f' f'' hj hk e=>?_,h.used,fun j f' t hj ht=>?_,fun j k f' f'' t hj hk ht ht'=>?_⟩,⟨hx.len,hx.keep,fun j f' hj=>?_⟩,fun j hj p hp' hk=>?_⟩,?_⟩
 ·obtain ⟨f0,e1,rfl⟩:=hg j f' hj
  exact hp.ctx.lo j f0 hh e1 hi'
 ·obtain ⟨f0,e1,rfl⟩:=hg j f' hj
  exact h.bl j f0 z e1 hi'
 ·obtain ⟨f0,e1,rfl⟩:=hg j f' hj
  exact h.lab j f0 e1
 ·obtain ⟨f0,e1,rfl⟩:=hg j f' hj
  obtain ⟨f1,e2,rfl⟩:=hg k f'' hk
  exact h.uniq j k f0 f1 e1 e2 e
 ·obtain ⟨f0,e1,rfl⟩:=hg j f' hj
  rcases List.mem_append.1 ht with ht | ht
  ·exact hp.ctx.brk j f0 t e1 ht
  ·split at ht
   ·exact ⟨c.steps.length,by simpa using ht,by show (c.emit _).steps[_]?=_;rw [emit_get,if_pos rfl]⟩
   ·simp at ht
 ·obtain ⟨f0,e1,rfl⟩:=hg j f' hj
  obtain ⟨f1,e2,rfl⟩:=hg k f'' hk
  rcases List.mem_append.1 ht with ht | ht <;> rcases List.mem_append.1 ht' with ht' | ht'
  ·exact h.sep j k f0 f1 t e1 e2 ht ht'
  ·have:=hlt j f0 t e1 ht
   split at ht'
   ·simp at ht';omega
   ·simp at ht'
  ·have:=hlt k f1 t e2 ht'
   split at ht
   ·simp at ht;omega
   ·simp at ht
  ·split at ht
   ·split at ht'
    ·omega
    ·simp at ht'
   ·simp at ht
 ·refine ⟨if j=i then [(c.steps.length:Int)] else [],?_,?_⟩
  ·show (addBrk c.frames i c.steps.length)[j]?=_
   unfold addBrk
   rw [List.getElem?_modify,hj]
   by_cases hc:i=j
   ·simp [hc]
   ·rw [if_neg (Ne.symm hc)];simp [hc]
  ·intro t ht
   split at ht
   ·simp at ht;omega
   ·simp at ht
 ·have hp':(c.emit ⟨1,0,[]⟩).steps[j]?=some p:=hp'
  rw [emit_get] at hp'
  split at hp'
  ·simp only [Option.some.injEq] at hp';rw [<-hp'] at hk;simp at hk
  ·have:=lt_of_get hp';omega
 ·refine .inr (.inr ⟨i,{ f with brk:=f.brk++[(c.steps.length:Int)] },?_,?_,by simp,hi⟩)
  ·show (c.emit _).steps[_]?=_
   rw [emit_get,if_pos rfl]
  ·show (addBrk c.frames i c.steps.length)[i]?=_
   unfold addBrk
   rw [List.getElem?_modify,hf];simp
theorem kids_ok {f:Int->Bs->Option (S31 × Bs)} {g0:List (List Int)} {I:List FI} {St:Bs->Prop} :
  ∀ (l:List Int) (xs:List S31) (s s':Bs) (c:Cs) (a b:List Int),(∀ m∈l,∀ (s:Bs) (x:S31) (s':Bs) (c:Cs),f m s=some (x,s')->St s->Ctx ph s c I none->Post ph B r s' c (shapeF g0 x c) I/\Goes ph (shapeF g0 x c) I c.steps.length m/\St s') ->
   brs f l s=some (xs,s')->St s->Ctx ph s c I none ->
   xs.length=l.length/\Post ph B r s' c (kidsF g0 xs c a b).1 I/\(∃ ts:List Int,(kidsF g0 xs c a b).2.1=a++ts/\ts.length=l.length/\∀ (j:Nat) (y:Int),l[j]?=some y->∃ t:Nat,ts[j]?=some (t:Int)/\Goes ph (kidsF g0 xs c a b).1 I t y) /\
    ∃ es:List Int,(kidsF g0 xs c a b).2.2=b++es/\∀ e∈es,∃ q:Nat,e=q/\c.steps.length<=q/\(kidsF g0 xs c a b).1.steps[q]?=some ⟨1,0,[]⟩/\∀ (i:Nat) (f:Frm),(kidsF g0 xs c a b).1.frames[i]?=some f->e ∉ f.brk
 | [],xs,s,s',c,a,b,_,h,_,hc=>by
  simp only [brs,Option.some.injEq,Prod.mk.injEq] at h
  obtain ⟨rfl,rfl⟩:=h
  simp only [kidsF]
  exact ⟨rfl,⟨hc,KExt.refl c,fun i hi p hp=>by have:=lt_of_get hp;omega⟩,⟨[],by simp,rfl,fun j y hj=>by simp at hj⟩,[],by simp,by simp⟩
 | m :: l,xs,s,s',c,a,b,hf,h,hst,hc=>by
  unfold brs at h
  obtain ⟨⟨x,s1⟩,h1,h⟩:=Option.bind_eq_some_iff.1 h
  obtain ⟨⟨ys,s2⟩,h2,h⟩:=Option.bind_eq_some_iff.1 h
  simp only [Option.some.injEq,Prod.mk.injEq] at h h2
  obtain ⟨rfl,rfl⟩:=h
  obtain ⟨p1,g1,st1⟩:=hf m (by simp) s x s1 c h1 hst hc
  obtain ⟨d,hd⟩:∃ d,d=shapeF g0 x c:=⟨_,rfl⟩
  rw [<-hd] at p1 g1
  have pe:=emit_post (B:=B) (r:=r) p1.ctx ⟨1,0,[]⟩ rfl
  have p2:=p1.trans pe
  obtain ⟨n1,p3,⟨ts,t1,t2,t3⟩,es,e1,e2⟩:=kids_ok l ys s1 s2 (d.emit ⟨1,0,[]⟩) (a++[(c.steps.length:Int)]) (b++[(d.steps.length:Int)]) (fun m hm=>hf m (by simp [hm])) h2 st1 pe.ctx
  have ek:kidsF g0 (x :: ys) c a b=kidsF g0 ys (d.emit ⟨1,0,[]⟩) (a++[(c.steps.length:Int)]) (b++[(d.steps.length:Int)]):=by rw [hd];rfl
  rw [ek]
  refine ⟨by simp [n1],p2.trans p3,⟨(c.steps.length:Int) :: ts,by rw [t1];simp,by simp [t2],fun j y hj=>?_⟩,(d.steps.length:Int) :: es,by rw [e1];simp,fun e he=>?_⟩
  ·cases j with
   | zero =>
    simp only [List.getElem?_cons_zero,Option.some.injEq] at hj
    subst hj
    exact ⟨c.steps.length,by simp,(g1.ext pe.ext).ext p3.ext⟩
   | succ j =>
    simp only [List.getElem?_cons_succ] at hj ⊢
    exact t3 j y hj
  ·have hcd:=p1.ext.len
   rcases List.mem_cons.1 he with rfl | he
   ·have hde:(d.emit ⟨1,0,[]⟩).steps[d.steps.length]?=some ⟨1,0,[]⟩:=by rw [emit_get,if_pos rfl]
    refine ⟨d.steps.length,rfl,hcd,(p3.ext.keep _ (lt_of_get hde)).trans hde,fun i f hfi hm=>?_⟩
    have hil:i < I.length:=by rw [<-p3.ctx.len];exact lt_of_get hfi
    obtain ⟨f0,hf0⟩:∃ f0,(d.emit ⟨1,0,[]⟩).frames[i]?=some f0:=⟨_,List.getElem?_eq_getElem (by rw [pe.ctx.len];exact hil)⟩
    obtain ⟨new,hn1,hn2⟩:=p3.ext.fr i f0 hf0
    rw [hfi,Option.some.injEq] at hn1
    rw [hn1] at hm
    rcases List.mem_append.1 hm with hm | hm
    ·obtain ⟨q,hq1,hq2⟩:=p1.ctx.brk i f0 _ hf0 hm
     have:=lt_of_get hq2
     omega
    ·have:=hn2 _ hm
     simp [Cs.emit] at this
     omega
   ·obtain ⟨q,h3,h4,h5⟩:=e2 e he
    exact ⟨q,h3,by simp [Cs.emit] at h4;omega,h5⟩
end
structure BOk (ph:Int->Int) (B:Bd) (r:List Int) (hd:Int->Prop):Prop where
 forest:Forest r (chF B) (mI0 B.att)
 closed:∀ n∈r,∀ s∈succs B.succ n,s∈r
 back:∀ n∈r,∀ s∈succs B.succ n,mI0 B.att s<=mI0 B.att n->hd s/\Desc (chF B) s n
 fwd:∀ n∈r,∀ s∈succs B.succ n,¬ mI0 B.att s<=mI0 B.att n->mB0 B.merged s=true->∃ D∈r,s∈kidsOf B.kids D/\Desc (chF B) D n
 sorted:∀ n,(kidsOf B.kids n).Pairwise fun a b=>mI0 B.att b < mI0 B.att a
 node:∀ n∈r,B.node.getD n.toNat 0=ph n
def Proj (ph:Int->Int) (B:Bd) (r:List Int) (g0:List (List Int)):Prop:=∀ n∈r,0<=ph n/\ph n < g0.length/\(g0.getD (ph n).toNat []).length=(succs B.succ n).length
section
variable {ph : Int → Int} {B : Bd} {r : List Int} {hd : Int → Prop}
structure Env (B:Bd) (r:List Int) (hd:Int->Prop) (I:List FI) (n:Int) (incl:Prop):Prop where
 mem:n∈r
 lo:∀ h,hd h->Desc (chF B) h n->(incl∨h≠n)->FI.lo h∈I
 bl:∀ D∈r,∀ y∈kidsOf B.kids D,Desc (chF B) D n->D≠n->mI0 B.att n < mI0 B.att y->FI.bl y∈I
def Pre (B:Bd) (r:List Int) (hd:Int->Prop) (I:List FI):Job->Option Int->Prop
 | .tree n,pend=>pend=none/\Env B r hd I n False/\∀ f∈I,¬ Desc (chF B) n f.z
 | .within n xs,pend=>(∀ h,pend=some h->h=n)/\Env B r hd I n True/\(∃ pre,kidsOf B.kids n=pre++xs/\∀ y∈pre,FI.bl y∈I)/\∀ f∈I,∀ c∈xs++inl B n,¬ Desc (chF B) c f.z
 | .branch n m,pend=>pend=none/\Env B r hd I n True/\m∈succs B.succ n/\(∀ y∈kidsOf B.kids n,FI.bl y∈I)/\∀ f∈I,m∈inl B n->¬ Desc (chF B) m f.z
def Ent (ph:Int->Int) (c c':Cs) (I:List FI):Job->Prop
 | .tree n=>Vis ph c'.steps c.steps.length n
 | .within n _=>Vis ph c'.steps c.steps.length n
 | .branch _ m=>Goes ph c' I c.steps.length m
theorem Forest.up {ch:Int->List Int} {att:Int->Int} (hF:Forest r ch att) {n c h:Int} (hn:n∈r) (hc:c∈ch n) (hh:h∈r) (hd:Desc ch h c) (hne:h≠c):Desc ch h n:=by
 cases hd with
 | refl=>exact absurd rfl hne
 | @step b _ hb hb' =>
  have:=hF.uniq b (hF.desc hh hb).1 n hn c hb' hc
  rwa [<-this]
theorem Env.kid (hB:BOk ph B r hd) {I I':List FI} {n c:Int} (hhr:∀ h,hd h->h∈r) (h:Env B r hd I n True) (hc:c∈chF B n) (hI:∀ h,FI.lo h∈I->FI.lo h∈I') (hI':∀ D∈r,D≠n->∀ y∈kidsOf B.kids D,FI.bl y∈I->FI.bl y∈I') (hk:∀ y∈kidsOf B.kids n,mI0 B.att c < mI0 B.att y->FI.bl y∈I'):Env B r hd I' c False:=by
 have hcr:=hB.forest.mem n h.mem c hc
 refine ⟨hcr.1,fun z hz hd' hne=>hI _ (h.lo z hz (hB.forest.up h.mem hc (hhr z hz) hd' (hne.resolve_left id)) (.inl trivial)),fun D hD y hy hd' hne hlt=>?_⟩
 have hDn:=hB.forest.up h.mem hc hD hd' hne
 by_cases e:D=n
 ·subst e;exact hk y hy hlt
 ·exact hI' D hD e y hy (h.bl D hD y hy hDn e (by omega))
theorem visit_ok {s s':Bs} {c:Cs} {I:List FI} {pend:Option Int} {n:Int} {g0:List (List Int)} {xs:List S31} {St:Bs->Prop} {f:Int->Bs->Option (S31 × Bs)} (hn:n∈r) (hpj:Proj ph B r g0) (hc:Ctx ph s c I pend) (hp:∀ h,pend=some h->h=n) (hst:St s)
  (hf:∀ m∈succs B.succ n,∀ (s:Bs) (x:S31) (s':Bs) (c:Cs),f m s=some (x,s')->St s->Ctx ph s c I none->Post ph B r s' c (shapeF g0 x c) I/\Goes ph (shapeF g0 x c) I c.steps.length m/\St s')
  (h:brs f (succs B.succ n) s=some (xs,s')):Post ph B r s' c (shapeF g0 ⟨2,ph n,0,xs⟩ c) I/\Vis ph (shapeF g0 ⟨2,ph n,0,xs⟩ c).steps c.steps.length n:=by
 obtain ⟨h1,h2,h3⟩:=hpj n hn
 have hc0:Ctx ph s (c.emit ⟨0,ph n,[]⟩) I none:=emit_ctx hc _ fun y hy=>by rw [hp y hy];exact ⟨rfl,rfl⟩
 have hx0:=emit_ext c ⟨0,ph n,[]⟩
 obtain ⟨hl,p,⟨ts,t1,t2,t3⟩,es,e1,e2⟩:=kids_ok (ph:=ph) (B:=B) (r:=r) (g0:=g0) (I:=I) (St:=St) (succs B.succ n) xs s s' (c.emit ⟨0,ph n,[]⟩) [] [] hf h hst hc0
 have es0:shapeF g0 ⟨2,ph n,0,xs⟩ c=((kidsF g0 xs (c.emit ⟨0,ph n,[]⟩) [] []).1.setTo c.steps.length (kidsF g0 xs (c.emit ⟨0,ph n,[]⟩) [] []).2.1).land (kidsF g0 xs (c.emit ⟨0,ph n,[]⟩) [] []).2.2:=by
  rw [shapeF,if_neg (by rw [hc.bad];simp),if_neg (by omega),if_pos rfl,if_neg (by omega)]
 rw [es0,t1,e1,List.nil_append,List.nil_append]
 obtain ⟨q,hq⟩:∃ q,q=(kidsF g0 xs (c.emit ⟨0,ph n,[]⟩) [] []).1:=⟨_,rfl⟩
 rw [<-hq] at p t3 e2 ⊢
 have hel:(c.emit ⟨0,ph n,[]⟩).steps.length=c.steps.length+1:=by simp [Cs.emit]
 have hq0:q.steps[c.steps.length]?=some ⟨0,ph n,[]⟩:=by rw [p.ext.keep _ (by omega),emit_get,if_pos rfl]
 obtain ⟨c5,h5⟩:∃ c5,c5=q.setTo c.steps.length ts:=⟨_,rfl⟩
 rw [<-h5]
 have g5:∀ i:Nat,c5.steps[i]?=if i=c.steps.length then some ⟨0,ph n,ts⟩ else q.steps[i]?:=fun i=>by
  rw [h5]
  simp only [Cs.setTo,setTos,List.getElem?_modify]
  by_cases hi:i=c.steps.length
  ·subst hi;simp [hq0]
  ·have:¬ c.steps.length=i:=by omega
   simp [hi,this]
 have f5:c5.frames=q.frames:=by rw [h5];rfl
 have u5:c5.used=q.used:=by rw [h5];rfl
 have b5:c5.bad=q.bad:=by rw [h5];rfl
 have l5:c5.steps.length=q.steps.length:=by rw [h5];simp [Cs.setTo,setTos]
 have hcq:c.steps.length+1<=q.steps.length:=by have:=p.ext.len;omega
 have v5:∀ (i:Nat) (y:Int),Vis ph q.steps i y->Vis ph c5.steps i y:=fun i y ⟨pp,a1,a2,a3⟩=>by
  by_cases hi:i=c.steps.length
  ·subst hi
   rw [hq0,Option.some.injEq] at a1
   exact ⟨_,by rw [g5,if_pos rfl],rfl,by rw [<-a1] at a3;exact a3⟩
  ·exact ⟨pp,by rw [g5,if_neg hi,a1],a2,a3⟩
 have k5:∀ (i:Nat) (pp:Stp),q.steps[i]?=some pp->pp.kind=1->c5.steps[i]?=some pp:=fun i pp a1 a2=>by
  rw [g5,if_neg,a1]
  rintro rfl
  rw [hq0,Option.some.injEq] at a1
  rw [<-a1] at a2;simp at a2
 have go5:∀ (t:Nat) (y:Int),Goes ph q I t y->Goes ph c5 I t y:=fun t y hg=>by
  rcases hg with hg | ⟨q',a1,a2⟩ | ⟨i,ff,a1,a2,a3,a4⟩
  ·exact .inl (v5 _ _ hg)
  ·exact .inr (.inl ⟨q',k5 _ _ a1 rfl,v5 _ _ a2⟩)
  ·exact .inr (.inr ⟨i,ff,k5 _ _ a1 rfl,by rw [f5];exact a2,a3,a4⟩)
 obtain ⟨⟨m1,m2,m3,m4⟩,lg⟩:=land_get es c5 fun e he=>by obtain ⟨q',rfl,_⟩:=e2 e he;omega
 have hes:∀ q':Nat,(q':Int)∈es->c5.steps[q']?=some ⟨1,0,[]⟩:=fun q' hq'=>by
  obtain ⟨q2,a1,_,a2,_⟩:=e2 _ hq'
  have:q'=q2:=by omega
  subst this
  exact k5 _ _ a2 rfl
 have hesb:∀ q':Nat,(q':Int)∈es->∀ (i:Nat) (ff:Frm),q.frames[i]?=some ff->(q':Int) ∉ ff.brk:=fun q' hq'=>by
  obtain ⟨_,_,_,_,a2⟩:=e2 _ hq'
  exact a2
 have go6:∀ (t:Nat) (y:Int),Goes ph q I t y->Goes ph (c5.land es) I t y:=fun t y hg =>
  goes_upd lg hes (go5 t y hg) id fun i ff a1 a2 a3 a4=>by
   rw [f5] at a2
   refine .inr (.inr ⟨i,ff,?_,by rw [m1,f5];exact a2,a3,a4⟩)
   rw [lg,if_neg (fun hc=>hesb t hc i ff a2 a3),a1]
 have v6:∀ (i:Nat) (y:Int),Vis ph q.steps i y->Vis ph (c5.land es).steps i y:=fun i y hv=>(v5 i y hv).upd lg
 refine ⟨⟨⟨m3.trans (b5.trans p.ctx.bad),by rw [m1,f5];exact p.ctx.len,fun i ff hh hfi hi=>?_,fun i ff y hfi hi=>?_,fun i ff hfi=>?_,fun i j ff f' hfi hfj=>?_,fun u hu=>?_,fun i ff t hfi ht=>?_,fun i j ff f' t hfi hfj=>?_⟩,⟨by rw [m4,l5];omega,fun i hi=>?_,fun i ff hfi=>?_⟩,fun i hi=>?_⟩,v6 _ _ ⟨_,hq0,rfl,rfl⟩⟩
 ·rw [m1,f5] at hfi
  obtain ⟨a,b,q',e,w⟩:=p.ctx.lo i ff hh hfi hi
  refine ⟨a,b,q',e,.inl ?_⟩
  rcases w with w | ⟨w,_⟩
  ·exact v6 _ _ w
  ·cases w
 ·rw [m1,f5] at hfi;exact p.ctx.bl i ff y hfi hi
 ·rw [m1,f5] at hfi;exact p.ctx.lab i ff hfi
 ·rw [m1,f5] at hfi hfj;exact p.ctx.uniq i j ff f' hfi hfj
 ·rw [m2,u5] at hu;exact p.ctx.used u hu
 ·rw [m1,f5] at hfi
  obtain ⟨q',rfl,a2⟩:=p.ctx.brk i ff t hfi ht
  exact ⟨q',rfl,by rw [lg,if_neg (fun hc=>hesb q' hc i ff hfi ht)];exact k5 _ _ a2 rfl⟩
 ·rw [m1,f5] at hfi hfj;exact p.ctx.sep i j ff f' t hfi hfj
 ·rw [lg,if_neg,g5,if_neg (by omega),p.ext.keep i (by omega),hx0.keep i hi]
  intro hc
  obtain ⟨q2,a1,a3,_⟩:=e2 _ hc
  omega
 ·obtain ⟨new,n1,n2⟩:=p.ext.fr i ff hfi
  exact ⟨new,by rw [m1,f5];exact n1,fun t ht=>by have:=n2 t ht;omega⟩
 ·have hv5:VOkG ph B r (Goes ph q I) c5.steps i:=by
   intro pp hpp hk
   rw [g5] at hpp
   split at hpp
   ·simp only [Option.some.injEq] at hpp
    subst hpp
    exact ⟨n,hn,rfl,t2,t3⟩
   ·exact p.vis i (by omega) pp hpp hk
  exact (hv5.upd lg hes).mono go6
theorem comp_ok (hB:BOk ph B r hd) (hhr:∀ h,hd h->h∈r) {g0:List (List Int)} (hpj:Proj ph B r g0) :
  ∀ (k:Nat) (j:Job) (s:Bs) (x:S31) (s':Bs) (c:Cs) (I:List FI) (pend:Option Int),bF B k j s=some (x,s')->Pre B r hd I j pend->(∀ z,mget s.loops z≠none↔hd z)->Ctx ph s c I pend ->
   Post ph B r s' c (shapeF g0 x c) I/\Ent ph c (shapeF g0 x c) I j
 | 0,j,s,x,s',c,I,pend,h,_,_,_=>by cases j <;> simp [bF] at h
 | k+1,.tree n,s,x,s',c,I,pend,h,hp,hl,hc=>by
  obtain ⟨rfl,hE,hI⟩:=hp
  have hwI:∀ f∈I,∀ c∈kidsOf B.kids n++inl B n,¬ Desc (chF B) c f.z:=fun f hf c hc hd=>hI f hf (Desc.front (ch:=chF B) hc hd)
  unfold bF at h
  split at h
  ·next hz =>
   have hnh:¬ hd n:=fun hh=>(hl n).2 hh hz
   exact comp_ok hB hhr hpj k (.within n (kidsOf B.kids n)) s x s' c I none h ⟨by simp,⟨hE.mem,fun h hh hd _=>hE.lo h hh hd (.inr fun e=>hnh (e ▸ hh)),hE.bl⟩,⟨[],by simp,by simp⟩,hwI⟩ hl hc
  ·next v hv =>
   split at h
   ·obtain ⟨⟨y,s1⟩,h1,h⟩:=Option.bind_eq_some_iff.1 h
    simp only [Option.some.injEq,Prod.mk.injEq] at h
    obtain ⟨rfl,rfl⟩:=h
    have hop:=open_ctx hc (s1:={ s with loops:=mput s.loops n s.n,n:=s.n+1 }) (pend':=some n) (.lo n) true rfl (fun f hf=>by
     cases f with
     | lo h =>
      show mget (mput s.loops n s.n) h=_
      rw [mget_put,if_neg]
      rintro rfl
      exact hI _ hf Desc.refl
     | bl y=>rfl) ⟨rfl,by show mget (mput s.loops n s.n) n=_;rw [mget_put,if_pos rfl],rfl⟩ (fun h hh=>by cases hh)
    obtain ⟨p,en⟩:=comp_ok hB hhr hpj k (.within n (kidsOf B.kids n)) _ y s1 (c.open s.n true) (I++[.lo n]) (some n) h1 ⟨fun h hh=>by simpa using hh.symm,⟨hE.mem,fun h hh hd _=>by
      by_cases e:h=n
      ·subst e;simp
      ·exact List.mem_append.2 (.inl (hE.lo h hh hd (.inr e))),fun D hD y hy hd hne hlt=>List.mem_append.2 (.inl (hE.bl D hD y hy hd hne hlt))⟩,⟨[],by simp,by simp⟩,fun f hf c hcc hd=>by
      rcases List.mem_append.1 hf with hf | hf
      ·exact hwI f hf c hcc hd
      ·rw [List.mem_singleton.1 hf] at hd
       have h2:=hB.forest.mem n hE.mem c hcc
       have:=(hB.forest.desc h2.1 hd).2
       simp only [FI.z] at this
       omega⟩ (fun z=>by
      show mget (mput s.loops n s.n) z≠none↔_
      rw [<-hl z,mget_put]
      split
      ·next e=>rw [e,hv];simp
      ·rfl) hop
    obtain ⟨k1,k2,k3,k4,k5⟩:=close_ok (fi:=.lo n) (start:=c.steps.length) hc.len p
    have e0:shapeF g0 ⟨3,0,s.n,[y]⟩ c=(shapeF g0 y (c.open s.n true)).close true c.steps.length:=by
     have hu:c.used.contains (s.n:Int)=false:=by
      rw [Bool.eq_false_iff]
      intro hh
      have:=hc.used _ (List.contains_iff_mem.1 hh)
      omega
     rw [shapeF,if_neg (by rw [hc.bad];simp),if_neg (by omega),if_neg (by omega),if_pos (by simp),if_neg (by rw [hu];simp)]
     rfl
    rw [e0]
    exact ⟨⟨k1,k2,fun i hi=>(k5 i hi).mono fun t z hg=>hg.resolve_right fun hh=>by cases hh.1⟩,k4 _ _ en⟩
   ·cases h
 | k+1,.within n (a :: l),s,x,s',c,I,pend,h,hp,hl,hc=>by
  obtain ⟨hpe,hE,⟨pre,hpre,hbl⟩,hI⟩:=hp
  unfold bF at h
  split at h
  ·obtain ⟨⟨y,s1⟩,h1,h⟩:=Option.bind_eq_some_iff.1 h
   obtain ⟨⟨y2,s2⟩,h2,h⟩:=Option.bind_eq_some_iff.1 h
   simp only [Option.some.injEq,Prod.mk.injEq] at h h2
   obtain ⟨rfl,rfl⟩:=h
   have hak:a∈kidsOf B.kids n:=by rw [hpre];simp
   have hac:a∈chF B n:=List.mem_append.2 (.inl hak)
   have hndk:=hB.forest.knd n hE.mem
   have hoth:∀ c∈l++inl B n,¬ Desc (chF B) c a:=fun c hcc hd=>by
    have hcm:c∈chF B n:=by
     rw [chF_eq,hpre]
     rcases List.mem_append.1 hcc with h | h <;> simp [h]
    have:=hB.forest.apart hE.mem hcm hac hd Desc.refl
    subst this
    rw [chF_eq,hpre,List.append_assoc] at hndk
    have:=(List.nodup_append.1 hndk).2.1
    rw [List.cons_append,List.nodup_cons] at this
    exact this.1 hcc
   have hop:=open_ctx hc (s1:={ s with blocks:=mput s.blocks a s.n,n:=s.n+1 }) (pend':=pend) (.bl a) false rfl (fun f hf=>by
     cases f with
     | lo h=>rfl
     | bl y =>
      show mget (mput s.blocks a s.n) y=_
      rw [mget_put,if_neg]
      rintro rfl
      exact hI _ hf y (by simp) Desc.refl) ⟨rfl,by show mget (mput s.blocks a s.n) a=_;rw [mget_put,if_pos rfl]⟩ (fun h hh=>hh)
   obtain ⟨p,en⟩:=comp_ok hB hhr hpj k (.within n l) _ y s1 (c.open s.n false) (I++[.bl a]) pend h1 ⟨hpe,⟨hE.mem,fun h hh hd hi=>List.mem_append.2 (.inl (hE.lo h hh hd hi)),fun D hD y hy hd hne hlt=>List.mem_append.2 (.inl (hE.bl D hD y hy hd hne hlt))⟩,⟨pre++[a],by rw [hpre];simp,fun y hy=>by
     rcases List.mem_append.1 hy with hy | hy
     ·exact List.mem_append.2 (.inl (hbl y hy))
     ·rw [List.mem_singleton.1 hy];simp⟩,fun f hf c hcc hd=>by
     rcases List.mem_append.1 hf with hf | hf
     ·exact hI f hf c (by rw [List.cons_append,List.mem_cons];exact .inr hcc) hd
     ·rw [List.mem_singleton.1 hf] at hd
      exact hoth c hcc hd⟩ hl hop
   obtain ⟨k1,k2,k3,k4,k5⟩:=close_ok (fi:=.bl a) (start:=c.steps.length) hc.len p
   have hk1:=bF_keep B k _ _ _ _ h1
   obtain ⟨c3,hc3⟩:∃ c3,c3=(shapeF g0 y (c.open s.n false)).close false c.steps.length:=⟨_,rfl⟩
   have e0:shapeF g0 ⟨1,0,0,[⟨4,0,s.n,[y]⟩,y2]⟩ c=shapeF g0 y2 c3:=by
    have hu:c.used.contains (s.n:Int)=false:=by
     rw [Bool.eq_false_iff]
     intro hh
     have:=hc.used _ (List.contains_iff_mem.1 hh)
     omega
    rw [shapeF,if_neg (by rw [hc.bad];simp),if_pos rfl,if_neg (by simp),seqF,seqF,seqF,shapeF,if_neg (by rw [hc.bad];simp),if_neg (by omega),if_neg (by omega),if_pos (by simp),if_neg (by rw [hu];simp)]
    rw [hc3];rfl
   rw [<-hc3] at k1 k2 k3 k4 k5
   have hsrt:=hB.sorted n
   obtain ⟨p2,en2⟩:=comp_ok hB hhr hpj k (.tree a) s1 y2 s2 c3 I none h2 ⟨rfl,Env.kid hB hhr hE hac (fun _ h=>h) (fun _ _ _ _ _ h=>h) (fun z hz hlt=>by
     rw [hpre] at hz hsrt
     rcases List.mem_append.1 hz with hz | hz
     ·exact hbl z hz
     ·exfalso
      have hs2:=(List.pairwise_append.1 hsrt).2.1
      rcases List.mem_cons.1 hz with rfl | hz
      ·omega
      ·have:=(List.pairwise_cons.1 hs2).1 z hz
       omega),fun f hf hd=>hI f hf a (by simp) hd⟩ (fun z=>(hk1.2.1 z).trans (hl z)) k1
   rw [e0]
   refine ⟨⟨p2.ctx,k2.trans p2.ext,fun i hi=>?_⟩,?_⟩
   ·by_cases hi3:i < c3.steps.length
    ·intro pp hpp hk
     rw [p2.ext.keep i hi3] at hpp
     obtain ⟨u,a1,a2,a3,a4⟩:=k5 i hi pp hpp hk
     refine ⟨u,a1,a2,a3,fun j z hj=>?_⟩
     obtain ⟨t,b1,b2⟩:=a4 j z hj
     refine ⟨t,b1,?_⟩
     rcases b2 with b2 | ⟨b2,b3⟩
     ·exact b2.ext p2.ext
     ·injection b2 with b2
      subst b2
      exact .inr (.inl ⟨c3.steps.length,(p2.ext.keep t (lt_of_get b3)).trans b3,en2⟩)
    ·exact p2.vis i (by omega)
   ·exact (k4 _ _ en).ext p2.ext
  ·cases h
 | k+1,.within n [],s,x,s',c,I,pend,h,hp,hl,hc=>by
  obtain ⟨hpe,hE,⟨pre,hpre,hbl⟩,hI⟩:=hp
  rw [List.append_nil] at hpre
  unfold bF at h
  split at h
  ·obtain ⟨⟨ys,s1⟩,h1,h⟩:=Option.bind_eq_some_iff.1 h
   simp only [Option.some.injEq,Prod.mk.injEq] at h
   obtain ⟨rfl,rfl⟩:=h
   rw [hB.node n hE.mem]
   exact visit_ok (St:=fun s=>∀ z,mget s.loops z≠none↔hd z) hE.mem hpj hc hpe hl (fun m hm s x s' c h hst hcc=>by
    obtain ⟨a,b⟩:=comp_ok hB hhr hpj k (.branch n m) s x s' c I none h ⟨rfl,hE,hm,fun y hy=>hbl y (by rw [<-hpre];exact hy),fun f hf hmi=>hI f hf m (by simpa using hmi)⟩ hst hcc
    exact ⟨a,b,fun z=>((bF_keep B k _ _ _ _ h).2.1 z).trans (hst z)⟩) h1
  ·cases h
 | k+1,.branch n m,s,x,s',c,I,pend,h,hp,hl,hc=>by
  obtain ⟨rfl,hE,hm,hkb,hI⟩:=hp
  unfold bF at h
  split at h
  ·next h1 =>
   simp only [Option.some.injEq,Prod.mk.injEq] at h
   obtain ⟨rfl,rfl⟩:=h
   obtain ⟨b1,b2⟩:=hB.back n hE.mem m hm h1
   rw [shapeF,if_neg (by rw [hc.bad];simp),if_neg (by omega),if_neg (by omega),if_neg (by omega),if_pos (by simp)]
   exact leave_cont hc (hE.lo m b1 b2 (.inl trivial))
  ·next h1 =>
   split at h
   ·next h2 =>
    simp only [Option.some.injEq,Prod.mk.injEq] at h
    obtain ⟨rfl,rfl⟩:=h
    obtain ⟨D,d1,d2,d3⟩:=hB.fwd n hE.mem m hm h1 h2
    rw [shapeF,if_neg (by rw [hc.bad];simp),if_neg (by omega),if_neg (by omega),if_neg (by omega),if_pos (by simp)]
    refine leave_brk hc ?_
    by_cases e:D=n
    ·subst e;exact hkb m d2
    ·exact hE.bl D d1 m d2 d3 e (by omega)
   ·next h2 =>
    have hmi:m∈inl B n:=List.mem_filter.2 ⟨hm,by simp only [Bool.and_eq_true,decide_eq_true_eq,Bool.not_eq_true'];exact ⟨h1,by simpa using h2⟩⟩
    have hmc:m∈chF B n:=List.mem_append.2 (.inr hmi)
    obtain ⟨a,b⟩:=comp_ok hB hhr hpj k (.tree m) s x s' c I none h ⟨rfl,Env.kid hB hhr hE hmc (fun _ h=>h) (fun _ _ _ _ _ h=>h) (fun y hy _=>hkb y hy),fun f hf hd=>hI f hf hmi hd⟩ hl hc
    exact ⟨a,.inl b⟩
end
mutual
def visL:S31->List Int
 | ⟨k,n,_,ks⟩=>(if k=2 then [n] else [])++visLs ks
def visLs:List S31->List Int
 | []=>[]
 | x :: xs=>visL x++visLs xs
end
mutual
def loopL:S31->List Int
 | ⟨k,n,l,ks⟩=>(if k=3 then (visL ⟨k,n,l,ks⟩).take 1 else [])++loopLs ks
def loopLs:List S31->List Int
 | []=>[]
 | x :: xs=>loopL x++loopLs xs
end
mutual
def cntK (kind:Int):S31->Nat
 | ⟨k,_,_,ks⟩=>(if k=kind then 1 else 0)+cntKs kind ks
def cntKs (kind:Int):List S31->Nat
 | []=>0
 | x :: xs=>cntK kind x+cntKs kind xs
end
section
variable {ph : Int → Int} {B : Bd} {r : List Int} {hd : Int → Prop}
structure VF (ph:Int->Int) (B:Bd) (r:List Int) (T H:Int->Prop) (xs:List S31):Prop where
 vis:∃ w:List Int,visLs xs=w.map ph/\w.Nodup/\∀ z,z∈w↔T z
 lop:∃ w:List Int,loopLs xs=w.map ph/\w.Nodup/\∀ z,z∈w↔H z
 cnt:cntKs 3 xs=(loopLs xs).length
 acy:(∀ n∈r,∀ s∈succs B.succ n,¬ mI0 B.att s<=mI0 B.att n)->cntKs 6 xs=0
theorem VF.cons {T1 H1 T2 H2:Int->Prop} {x:S31} {xs:List S31} (h1:VF ph B r T1 H1 [x]) (h2:VF ph B r T2 H2 xs) (hT:∀ z,T1 z->¬ T2 z) (hH:∀ z,H1 z->¬ H2 z):VF ph B r (fun z=>T1 z∨T2 z) (fun z=>H1 z∨H2 z) (x :: xs):=by
 obtain ⟨⟨w1,a1,a2,a3⟩,⟨v1,b1,b2,b3⟩,c1,d1⟩:=h1
 obtain ⟨⟨w2,a4,a5,a6⟩,⟨v2,b4,b5,b6⟩,c2,d2⟩:=h2
 simp only [visLs,loopLs,cntKs,List.append_nil,Nat.add_zero] at a1 b1 c1 d1
 refine ⟨⟨w1++w2,by simp [visLs,a1,a4],List.nodup_append.2 ⟨a2,a5,fun a ha b hb e=>?_⟩,fun z=>by rw [List.mem_append,a3,a6]⟩,⟨v1++v2,by simp [loopLs,b1,b4],List.nodup_append.2 ⟨b2,b5,fun a ha b hb e=>?_⟩,fun z=>by rw [List.mem_append,b3,b6]⟩,by simp [cntKs,loopLs,c1,c2],fun h=>by simp [cntKs,d1 h,d2 h]⟩
 ·subst e;exact hT a ((a3 a).1 ha) ((a6 a).1 hb)
 ·subst e;exact hH a ((b3 a).1 ha) ((b6 a).1 hb)
theorem VF.iff {T H T' H':Int->Prop} {xs:List S31} (h:VF ph B r T H xs) (hT:∀ z,T z↔T' z) (hH:∀ z,H z↔H' z):VF ph B r T' H' xs:=by
 obtain ⟨⟨w1,a1,a2,a3⟩,⟨v1,b1,b2,b3⟩,c1,d1⟩:=h
 exact ⟨⟨w1,a1,a2,fun z=>(a3 z).trans (hT z)⟩,⟨v1,b1,b2,fun z=>(b3 z).trans (hH z)⟩,c1,d1⟩
theorem VF.nil:VF ph B r (fun _=>False) (fun _=>False) []:=⟨⟨[],rfl,by simp,by simp⟩,⟨[],rfl,by simp,by simp⟩,rfl,fun _=>rfl⟩
theorem VF.wrap {T H:Int->Prop} {xs:List S31} (h:VF ph B r T H xs) (k n l:Int) (hk:k≠2/\k≠3/\k≠6):VF ph B r T H [⟨k,n,l,xs⟩]:=by
 obtain ⟨⟨w1,a1,a2,a3⟩,⟨v1,b1,b2,b3⟩,c1,d1⟩:=h
 exact ⟨⟨w1,by simp [visLs,visL,hk,a1],a2,a3⟩,⟨v1,by simp [loopLs,loopL,hk,b1],b2,b3⟩,by simp [cntKs,cntK,loopLs,loopL,hk,c1],fun h=>by simp [cntKs,cntK,hk,d1 h]⟩
theorem brs_vis {f:Int->Bs->Option (S31 × Bs)} {St:Bs->Prop} {T H:Int->Int->Prop}:∀ (l:List Int) (s:Bs) (xs:List S31) (s':Bs),(∀ m∈l,∀ (s:Bs) (x:S31) (s':Bs),f m s=some (x,s')->St s->VF ph B r (T m) (H m) [x]/\St s') ->
  brs f l s=some (xs,s')->St s->l.Pairwise (fun a b=>∀ z,T a z->¬ T b z)->l.Pairwise (fun a b=>∀ z,H a z->¬ H b z)->VF ph B r (fun z=>∃ m∈l,T m z) (fun z=>∃ m∈l,H m z) xs
 | [],s,xs,s',_,h,_,_,_=>by
  simp only [brs,Option.some.injEq,Prod.mk.injEq] at h
  rw [<-h.1]
  exact VF.nil.iff (by simp) (by simp)
 | m :: l,s,xs,s',hf,h,hst,hp,hq=>by
  unfold brs at h
  obtain ⟨⟨x,s1⟩,h1,h⟩:=Option.bind_eq_some_iff.1 h
  obtain ⟨⟨ys,s2⟩,h2,h⟩:=Option.bind_eq_some_iff.1 h
  simp only [Option.some.injEq,Prod.mk.injEq] at h h2
  obtain ⟨p1,p2⟩:=List.pairwise_cons.1 hp
  obtain ⟨q1,q2⟩:=List.pairwise_cons.1 hq
  obtain ⟨v1,st1⟩:=hf m (by simp) s x s1 h1 hst
  have v2:=brs_vis l s1 ys s2 (fun m hm=>hf m (by simp [hm])) h2 st1 p2 q2
  rw [<-h.1]
  exact (v1.cons v2 (fun z hz ⟨m',hm',hz'⟩=>p1 m' hm' z hz hz') (fun z hz ⟨m',hm',hz'⟩=>q1 m' hm' z hz hz')).iff (by simp) (by simp)
def JT (B:Bd):Job->Int->Prop
 | .tree n,z=>Desc (chF B) n z
 | .within n xs,z=>z=n∨∃ c∈xs++inl B n,Desc (chF B) c z
 | .branch n m,z=>m∈inl B n/\Desc (chF B) m z
def JH (B:Bd) (hd:Int->Prop):Job->Int->Prop
 | .tree n,z=>Desc (chF B) n z/\hd z
 | .within n xs,z=>(∃ c∈xs++inl B n,Desc (chF B) c z)/\hd z
 | .branch n m,z=>(m∈inl B n/\Desc (chF B) m z)/\hd z
def JIn (B:Bd) (r:List Int):Job->Prop
 | .tree n=>n∈r
 | .within n xs=>n∈r/\∃ pre,kidsOf B.kids n=pre++xs
 | .branch n m=>n∈r/\m∈succs B.succ n
def JF (ph:Int->Int) (x:S31):Job->Prop
 | .tree n=>(visL x).take 1=[ph n]
 | .within n _=>(visL x).take 1=[ph n]
 | .branch _ _=>True
theorem desc_kids {ch:Int->List Int} {n z:Int}:Desc ch n z↔z=n∨∃ c∈ch n,Desc ch c z:=by
 constructor
 ·intro h
  induction h with
  | refl=>exact .inl rfl
  | @step b c h hc ih =>
   rcases ih with rfl | ⟨d,h1,h2⟩
   ·exact .inr ⟨c,hc,.refl⟩
   ·exact .inr ⟨d,h1,.step h2 hc⟩
 ·rintro (rfl | ⟨c,hc,h⟩)
  ·exact .refl
  ·exact Desc.front hc h
theorem pair_inl (hF:Forest r (chF B) (mI0 B.att)) {n:Int} (hn:n∈r):∀ l:List Int,(∀ m∈l,m∈succs B.succ n)->(l.filter fun m=>decide (¬ mI0 B.att m<=mI0 B.att n) && !mB0 B.merged m).Nodup->l.Pairwise (fun a b=>∀ z,(a∈inl B n/\Desc (chF B) a z)->¬ (b∈inl B n/\Desc (chF B) b z))
 | [],_,_=>by simp
 | a :: l,hs,hd=>by
  refine List.pairwise_cons.2 ⟨fun b hb z ⟨h1,h2⟩ ⟨h3,h4⟩=>?_,pair_inl hF hn l (fun m hm=>hs m (by simp [hm])) (hd.sublist ((List.sublist_cons_self a l).filter _))⟩
  have e:=hF.apart hn (List.mem_append.2 (.inr h1)) (List.mem_append.2 (.inr h3)) h2 h4
  subst e
  have hp:=(List.mem_filter.1 h1).2
  rw [List.filter_cons,if_pos hp] at hd
  exact (List.nodup_cons.1 hd).1 (List.mem_filter.2 ⟨hb,hp⟩)
theorem shape_vis (hB:BOk ph B r hd):∀ (k:Nat) (j:Job) (s:Bs) (x:S31) (s':Bs),bF B k j s=some (x,s')->JIn B r j->(∀ z,mget s.loops z≠none↔hd z)->VF ph B r (JT B j) (JH B hd j) [x]/\JF ph x j
 | 0,j,s,x,s',h,_,_=>by cases j <;> simp [bF] at h
 | k+1,.tree n,s,x,s',h,hn,hl=>by
  have hn:n∈r:=hn
  have eT:∀ z,JT B (.within n (kidsOf B.kids n)) z↔JT B (.tree n) z:=fun z=>(desc_kids (ch:=chF B)).symm
  unfold bF at h
  split at h
  ·next hz =>
   have hnh:¬ hd n:=fun hh=>(hl n).2 hh hz
   obtain ⟨h1,h2⟩:=shape_vis hB k _ s x s' h ⟨hn,[],by simp⟩ hl
   refine ⟨h1.iff eT fun z=>?_,h2⟩
   show _↔Desc (chF B) n z/\hd z
   rw [desc_kids (ch:=chF B)]
   constructor
   ·rintro ⟨h3,h4⟩;exact ⟨.inr h3,h4⟩
   ·rintro ⟨rfl | h3,h4⟩
    ·exact absurd h4 hnh
    ·exact ⟨h3,h4⟩
  ·next v hv =>
   split at h
   ·obtain ⟨⟨y,s1⟩,h1,h⟩:=Option.bind_eq_some_iff.1 h
    simp only [Option.some.injEq,Prod.mk.injEq] at h
    obtain ⟨rfl,rfl⟩:=h
    have hhn:hd n:=(hl n).1 (by rw [hv];simp)
    obtain ⟨p1,p2⟩:=shape_vis hB k _ _ y s1 h1 ⟨hn,[],by simp⟩ (fun z=>by
      show mget (mput s.loops n s.n) z≠none↔_
      rw [<-hl z,mget_put]
      split
      ·next e=>rw [e,hv];simp
      ·rfl)
    obtain ⟨⟨w1,a1,a2,a3⟩,⟨v1,b1,b2,b3⟩,c1,d1⟩:=p1.iff eT (H':=JH B hd (.within n (kidsOf B.kids n))) fun _=>Iff.rfl
    have ef:(visL ⟨3,0,s.n,[y]⟩).take 1=[ph n]:=by
     have p2:(visL y).take 1=[ph n]:=p2
     simpa [visL,visLs] using p2
    have nin:n ∉ v1:=fun hc=>by
     obtain ⟨⟨c,hc1,hc2⟩,_⟩:=(b3 n).1 hc
     have h2:=hB.forest.mem n hn c hc1
     have:=(hB.forest.desc h2.1 hc2).2
     omega
    refine ⟨⟨⟨w1,?_,a2,a3⟩,⟨n :: v1,?_,List.nodup_cons.2 ⟨nin,b2⟩,fun z=>?_⟩,?_,fun h=>?_⟩,ef⟩
    ·simp [visLs,visL] at a1 ⊢;exact a1
    ·simp only [loopLs,List.append_nil] at b1
     rw [loopLs,loopLs,loopL,if_pos rfl,ef,loopLs,loopLs,List.append_nil,b1];simp
    ·rw [List.mem_cons,b3]
     show _↔Desc (chF B) n z/\hd z
     rw [desc_kids (ch:=chF B)]
     constructor
     ·rintro (rfl | ⟨h3,h4⟩)
      ·exact ⟨.inl rfl,hhn⟩
      ·exact ⟨.inr h3,h4⟩
     ·rintro ⟨rfl | h3,h4⟩
      ·exact .inl rfl
      ·exact .inr ⟨h3,h4⟩
    ·simp only [cntKs,loopLs,List.append_nil,Nat.add_zero] at c1
     rw [loopLs,loopLs,loopL,if_pos rfl,ef,loopLs,loopLs,cntKs,cntKs,cntK,cntKs,cntKs,c1]
     simp
     omega
    ·have:=d1 h
     simp [cntKs,cntK] at this ⊢
     exact this
   ·cases h
 | k+1,.within n (a :: l),s,x,s',h,hn,hl=>by
  obtain ⟨hn,pre,hpre⟩:=hn
  unfold bF at h
  split at h
  ·obtain ⟨⟨y,s1⟩,h1,h⟩:=Option.bind_eq_some_iff.1 h
   obtain ⟨⟨y2,s2⟩,h2,h⟩:=Option.bind_eq_some_iff.1 h
   simp only [Option.some.injEq,Prod.mk.injEq] at h h2
   obtain ⟨rfl,rfl⟩:=h
   have hak:a∈kidsOf B.kids n:=by rw [hpre];simp
   have hac:a∈chF B n:=List.mem_append.2 (.inl hak)
   have har:=hB.forest.mem n hn a hac
   obtain ⟨p1,q1⟩:=shape_vis hB k _ _ y s1 h1 ⟨hn,pre++[a],by rw [hpre];simp⟩ hl
   have hk1:=bF_keep B k _ _ _ _ h1
   obtain ⟨p2,_⟩:=shape_vis hB k _ _ y2 s2 h2 har.1 (fun z=>(hk1.2.1 z).trans (hl z))
   have hndk:=hB.forest.knd n hn
   have hoth:∀ z,(∃ c∈l++inl B n,Desc (chF B) c z)->¬ Desc (chF B) a z:=fun z ⟨c,hcc,hd⟩ hd'=>by
    have hcm:c∈chF B n:=by
     rw [chF_eq,hpre]
     rcases List.mem_append.1 hcc with h | h <;> simp [h]
    have:=hB.forest.apart hn hcm hac hd hd'
    subst this
    rw [chF_eq,hpre,List.append_assoc] at hndk
    have:=(List.nodup_append.1 hndk).2.1
    rw [List.cons_append,List.nodup_cons] at this
    exact this.1 hcc
   have hna:¬ Desc (chF B) a n:=fun hd=>by
    have:=(hB.forest.desc har.1 hd).2
    omega
   have hc:=(p1.wrap 4 0 s.n (by decide)).cons p2 (fun z hz hz'=>by
    rcases hz with rfl | hz
    ·exact hna hz'
    ·exact hoth z hz hz') (fun z hz hz'=>hoth z hz.1 hz'.1)
   refine ⟨(hc.wrap 1 0 0 (by decide)).iff (fun z=>?_) (fun z=>?_),?_⟩
   ·show ((z=n∨∃ c∈l++inl B n,Desc (chF B) c z)∨Desc (chF B) a z)↔(z=n∨∃ c∈(a :: l)++inl B n,Desc (chF B) c z)
    simp only [List.cons_append,List.mem_cons,exists_eq_or_imp]
    rw [or_assoc]
    exact or_congr_right or_comm
   ·show (((∃ c∈l++inl B n,Desc (chF B) c z)/\hd z)∨(Desc (chF B) a z/\hd z))↔((∃ c∈(a :: l)++inl B n,Desc (chF B) c z)/\hd z)
    simp only [List.cons_append,List.mem_cons,exists_eq_or_imp]
    rw [<-or_and_right]
    exact and_congr_left fun _=>or_comm
   ·have q1:(visL y).take 1=[ph n]:=q1
    show (visL ⟨1,0,0,[⟨4,0,s.n,[y]⟩,y2]⟩).take 1=[ph n]
    have e:visL ⟨1,0,0,[⟨4,0,s.n,[y]⟩,y2]⟩=visL y++visL y2:=by simp [visL,visLs]
    rw [e]
    cases hv:visL y with
    | nil=>rw [hv] at q1;simp at q1
    | cons u us=>rw [hv] at q1;simpa using q1
  ·cases h
 | k+1,.within n [],s,x,s',h,hn,hl=>by
  obtain ⟨hn,pre,hpre⟩:=hn
  unfold bF at h
  split at h
  ·obtain ⟨⟨ys,s1⟩,h1,h⟩:=Option.bind_eq_some_iff.1 h
   simp only [Option.some.injEq,Prod.mk.injEq] at h
   obtain ⟨rfl,rfl⟩:=h
   have hpw:=pair_inl hB.forest hn (succs B.succ n) (fun _ h=>h) ((List.nodup_append.1 (hB.forest.knd n hn)).2.1)
   have hv:=brs_vis (ph:=ph) (B:=B) (r:=r) (St:=fun s=>∀ z,mget s.loops z≠none↔hd z) (T:=fun m=>JT B (.branch n m)) (H:=fun m=>JH B hd (.branch n m)) _ _ _ _ (fun m hm s x s' h hst=>⟨(shape_vis hB k (.branch n m) s x s' h ⟨hn,hm⟩ hst).1,fun z=>((bF_keep B k _ _ _ _ h).2.1 z).trans (hst z)⟩) h1 hl hpw (hpw.imp fun h z hz hz'=>h z hz.1 hz'.1)
   obtain ⟨⟨w1,a1,a2,a3⟩,⟨v1,b1,b2,b3⟩,c1,d1⟩:=hv
   rw [hB.node n hn]
   have e1:∀ z,(∃ m∈succs B.succ n,JT B (.branch n m) z)↔∃ c∈[]++inl B n,Desc (chF B) c z:=fun z=>by
    constructor
    ·rintro ⟨m,_,h2,h3⟩;exact ⟨m,by simpa using h2,h3⟩
    ·rintro ⟨m,h2,h3⟩
     have h2:m∈inl B n:=by simpa using h2
     exact ⟨m,(List.mem_filter.1 h2).1,h2,h3⟩
   have hnw:n ∉ w1:=fun hc=>by
    obtain ⟨c,hc1,hc2⟩:=(e1 n).1 ((a3 n).1 hc)
    have h2:=hB.forest.mem n hn c (List.mem_append.2 (.inr (by rw [List.nil_append] at hc1;exact hc1)))
    have:=(hB.forest.desc h2.1 hc2).2
    omega
   refine ⟨⟨⟨n :: w1,by simp [visLs,visL,a1],List.nodup_cons.2 ⟨hnw,a2⟩,fun z=>?_⟩,⟨v1,by simp [loopLs,loopL,b1],b2,fun z=>?_⟩,by simp [cntKs,cntK,loopLs,loopL,c1],fun h=>by simp [cntKs,cntK,d1 h]⟩,by show (visL _).take 1=_;simp [visL]⟩
   ·rw [List.mem_cons,a3,e1];rfl
   ·rw [b3]
    show _↔(∃ c∈[]++inl B n,Desc (chF B) c z)/\hd z
    rw [<-e1]
    constructor
    ·rintro ⟨m,hm,h2,h3⟩;exact ⟨⟨m,hm,h2⟩,h3⟩
    ·rintro ⟨⟨m,hm,h2⟩,h3⟩;exact ⟨m,hm,h2,h3⟩
  ·cases h
 | k+1,.branch n m,s,x,s',h,hn,hl=>by
  obtain ⟨hn,hm⟩:=hn
  have nin:∀ {P:Prop},(mI0 B.att m<=mI0 B.att n∨mB0 B.merged m=true)->∀ z,¬ (m∈inl B n/\Desc (chF B) m z):=fun h z ⟨h1,_⟩=>by
   have h2:=(List.mem_filter.1 h1).2
   simp only [Bool.and_eq_true,decide_eq_true_eq,Bool.not_eq_true'] at h2
   rcases h with h | h
   ·exact h2.1 h
   ·rw [h] at h2;simp at h2
  unfold bF at h
  split at h
  ·next h1 =>
   simp only [Option.some.injEq,Prod.mk.injEq] at h
   obtain ⟨rfl,rfl⟩:=h
   have hno:=nin (P:=True) (.inl h1)
   refine ⟨⟨⟨[],by simp [visLs,visL],by simp,fun z=>?_⟩,⟨[],by simp [loopLs,loopL],by simp,fun z=>?_⟩,by simp [cntKs,cntK,loopLs,loopL],fun h=>absurd h1 (h n hn m hm)⟩,trivial⟩
   ·simp only [List.not_mem_nil,false_iff];exact hno z
   ·simp only [List.not_mem_nil,false_iff];exact fun hc=>hno z hc.1
  ·next h1 =>
   split at h
   ·next h2 =>
    simp only [Option.some.injEq,Prod.mk.injEq] at h
    obtain ⟨rfl,rfl⟩:=h
    have hno:=nin (P:=True) (.inr h2)
    refine ⟨⟨⟨[],by simp [visLs,visL],by simp,fun z=>?_⟩,⟨[],by simp [loopLs,loopL],by simp,fun z=>?_⟩,by simp [cntKs,cntK,loopLs,loopL],fun h=>by simp [cntKs,cntK]⟩,trivial⟩
    ·simp only [List.not_mem_nil,false_iff];exact hno z
    ·simp only [List.not_mem_nil,false_iff];exact fun hc=>hno z hc.1
   ·next h2 =>
    have hmi:m∈inl B n:=List.mem_filter.2 ⟨hm,by simp only [Bool.and_eq_true,decide_eq_true_eq,Bool.not_eq_true'];exact ⟨h1,by simpa using h2⟩⟩
    obtain ⟨p1,_⟩:=shape_vis hB k (.tree m) s x s' h (hB.closed n hn m hm) hl
    exact ⟨p1.iff (fun z=>⟨fun h=>⟨hmi,h⟩,fun h=>h.2⟩) (fun z=>⟨fun h=>⟨⟨hmi,h.1⟩,h.2⟩,fun h=>⟨h.1.2,h.2⟩⟩),trivial⟩
end
def RedG (g:List (List Int)) (r:List Int) (m:List (Int × Int)):Prop:=∀ u∈r,∀ s∈succs g u,mI0 m s<=mI0 m u->Dm g s u
section
variable {g : List (List Int)} {node : List Int} {B : Bd} {l : List (Int × Int)} {r : List Int} {m : List (Int × Int)} {p : List (List Int)} {d : List Int}
theorem BdIs.attf (h:BdIs g node B l r m p d):mI0 B.att=mI0 m:=funext h.att
theorem DomOk.edge (h:DomOk g r m p d) {u s x:Int} (hu:u∈r) (hs:s∈succs g u) (hx:Dm g x s) (hne:x≠s):Dm g x u:=fun hc=>hx (.step hc hs (fun e=>hne e.symm))
theorem DomOk.anti (h:DomOk g r m p d) {a b:Int} (ha:a∈r) (hb:b∈r) (h1:Anc d a b) (h2:Anc d b a):a=b:=by
 have:=(h.tree.anc_le h1 (h.full b hb)).1
 have:=(h.tree.anc_le h2 (h.full a ha)).1
 exact h.view.pos_inj ha hb (by omega)
theorem BdIs.inl_par (h:BdIs g node B l r m p d) (hred:RedG g r m) {b c:Int} (hb:b∈r) (hc:c∈inl B b):par d c=b:=by
 have hV:=h.dom.view
 obtain ⟨h1,h2⟩:=List.mem_filter.1 hc
 rw [h.succ] at h1
 simp only [Bool.and_eq_true,decide_eq_true_eq,Bool.not_eq_true',h.att] at h2
 have hcr:=hV.ord.closed b hb c h1
 have h5:¬ fwdc g m r c > 1:=fun hc'=>by have:=(h.merged c).2 ⟨hcr,hc'⟩;rw [this] at h2;simp at h2
 have hc0:c≠0:=fun e=>by rw [e,hV.pos_zero] at h2;have:=hV.pos_nn b;omega
 have hbc:b≠c:=fun e=>by rw [e] at h2;omega
 have key:∀ z,RA g b 0 z->z∈r/\RA g c 0 z:=fun z hz=>by
  have:∀ a z,RA g b a z->a=0->z∈r/\RA g c 0 z:=fun a z hz=>by
   induction hz with
   | refl hne =>
    rintro rfl
    exact ⟨hV.zero_mem,.refl fun e=>hc0 e.symm⟩
   | @step u z hzu hz hzb ih =>
    intro e
    obtain ⟨hur,hra⟩:=ih e
    refine ⟨hV.ord.closed _ hur _ hz,?_⟩
    by_cases hcz:z=c
    ·subst hcz
     exfalso
     by_cases hle:mI0 m z<=mI0 m u
     ·exact hred u hur z hz hle hra
     ·have h6:=two_le_sum (succ:=g) (att:=m) r b u hV.ord.nd hb hur (fun e=>hzu.ne e.symm) h2.1 hle
      have h7:=List.count_pos_iff.2 h1
      have h8:=List.count_pos_iff.2 hz
      omega
    ·exact .step hra hz hcz
  exact this 0 z hz rfl
 have hdb:Anc d b c:=(h.dom.dom c hcr b).2 fun hra=>(key c hra).2.ne rfl
 have h3:=(h.dom.tree.anc_lt hdb (h.dom.full c hcr) hbc).2.2
 have hpu:=h.dom.tree.up c (h.dom.full c hcr) hc0
 have hpr:=h.dom.tree.out _ hpu.1
 have h4:Anc d (par d c) b:=(h.dom.dom b hb _).2 (h.dom.edge hb h1 ((h.dom.dom c hcr _).1 (.step .refl hc0)) (fun e=>by rw [e] at hpu;omega))
 exact h.dom.anti hpr hb h4 h3
theorem BdIs.ch_par (h:BdIs g node B l r m p d) (hred:RedG g r m) {b c:Int} (hb:b∈r) (hc:c∈chF B b):c∈r/\c≠0/\par d c=b:=by
 have hm:=h.forest.mem b hb c hc
 have h0:c≠0:=fun e=>by have:=h.dom.view.pos_nn b;rw [e,h.dom.view.pos_zero] at hm;omega
 rcases List.mem_append.1 hc with h1 | h1
 ·exact ⟨hm.1,h0,((h.kids b c).1 h1).2.2⟩
 ·exact ⟨hm.1,h0,h.inl_par hred hb h1⟩
theorem BdIs.par_ch (h:BdIs g node B l r m p d) (hred:RedG g r m) {c:Int} (hc:c∈r) (h0:c≠0):par d c∈r/\c∈chF B (par d c):=by
 have hV:=h.dom.view
 have hpr:=h.dom.tree.out _ (h.dom.tree.up c (h.dom.full c hc) h0).1
 refine ⟨hpr,?_⟩
 by_cases hf:fwdc g m r c > 1
 ·exact List.mem_append.2 (.inl ((h.kids _ c).2 ⟨hc,hf,rfl⟩))
 ·obtain ⟨q,hq,hqr,hql⟩:=hV.fwd hc h0
  have hqs:=((hV.preds _ _).1 hq).2
  rw [Int.toNat_of_nonneg (hV.ord.rng c hc).1] at hqs
  have hi:c∈inl B q:=by
   refine List.mem_filter.2 ⟨by rw [h.succ];exact hqs,?_⟩
   simp only [Bool.and_eq_true,decide_eq_true_eq,Bool.not_eq_true',h.att]
   refine ⟨by omega,?_⟩
   rw [Bool.eq_false_iff]
   exact fun hc'=>hf ((h.merged c).1 hc').2
  rw [h.inl_par hred hqr hi]
  exact List.mem_append.2 (.inr hi)
theorem BdIs.desc_anc (h:BdIs g node B l r m p d) (hred:RedG g r m) {a z:Int} (ha:a∈r) (hd:Desc (chF B) a z):Anc d a z/\z∈r:=by
 induction hd with
 | refl=>exact ⟨.refl,ha⟩
 | step _ hc ih =>
  obtain ⟨h1,h2,h3⟩:=h.ch_par hred ih.2 hc
  exact ⟨.step (by rw [h3];exact ih.1) h2,h1⟩
theorem BdIs.anc_desc (h:BdIs g node B l r m p d) (hred:RedG g r m) {a z:Int} (hd:Anc d a z):z∈r->Desc (chF B) a z:=by
 induction hd with
 | refl=>exact fun _=>.refl
 | step _ h0 ih =>
  intro hz
  obtain ⟨h1,h2⟩:=h.par_ch hred hz h0
  exact .step (ih h1) h2
def HdG (g:List (List Int)) (r:List Int) (m:List (Int × Int)) (y:Int):Prop:=∃ x∈r,y∈succs g x/\mI0 m y<=mI0 m x
theorem BdIs.bok (h:BdIs g node B l r m p d) (hred:RedG g r m):BOk (fun n=>node.getD n.toNat 0) B r (HdG g r m):=by
 have hV:=h.dom.view
 refine ⟨by rw [h.attf];exact h.forest,fun n hn s hs=>hV.ord.closed n hn s (by rw [<-h.succ];exact hs),fun n hn s hs hle=>?_,fun n hn s hs hle hm=>?_,fun n=>by rw [h.attf];exact h.srt n,fun n hn=>by rw [h.node]⟩
 ·rw [h.succ] at hs
  rw [h.att,h.att] at hle
  exact ⟨⟨n,hn,hs,hle⟩,h.anc_desc hred ((h.dom.dom n hn s).2 (hred n hn s hs hle)) hn⟩
 ·rw [h.succ] at hs
  rw [h.att,h.att] at hle
  obtain ⟨h1,h2⟩:=(h.merged s).1 hm
  have h0:s≠0:=fun e=>by rw [e,hV.pos_zero] at hle;have:=hV.pos_nn n;omega
  have hpu:=h.dom.tree.up s (h.dom.full s h1) h0
  have hpr:=h.dom.tree.out _ hpu.1
  refine ⟨par d s,hpr,(h.kids _ s).2 ⟨h1,h2,rfl⟩,h.anc_desc hred ((h.dom.dom n hn _).2 (h.dom.edge hn hs ((h.dom.dom s h1 _).1 (.step .refl h0)) (fun e=>by rw [e] at hpu;omega))) hn⟩
theorem BdIs.hdl (h:BdIs g node B l r m p d):∀ z,mget l z≠none↔HdG g r m z:=h.loops
theorem BdIs.hdr (h:BdIs g node B l r m p d):∀ z,HdG g r m z->z∈r:=fun z ⟨x,hx,hz,_⟩=>h.dom.view.ord.closed x hx z hz
theorem BdIs.root (h:BdIs g node B l r m p d) (hred:RedG g r m):∀ n∈r,Desc (chF B) n 0->n=0:=fun n hn hd=>h.dom.tree.anc_zero (h.desc_anc hred hn hd).1
theorem BdIs.all (h:BdIs g node B l r m p d) (hred:RedG g r m) (z:Int):Desc (chF B) 0 z↔z∈r:=by
 constructor
 ·exact fun hd=>(h.desc_anc hred h.dom.view.zero_mem hd).2
 ·intro hz
  refine h.anc_desc hred ((h.dom.dom z hz 0).2 fun hc=>?_) hz
  have:∀ a b,RA g 0 a b->a≠0:=fun a b hc=>by
   induction hc with
   | refl h=>exact h
   | step _ _ _ ih=>exact ih
  exact this _ _ hc rfl
theorem BdIs.vis (h:BdIs g node B l r m p d) (hred:RedG g r m) {k:Nat} {x:S31} {s9:Bs} (hx:bF B k (.tree 0) ⟨l,[],0⟩=some (x,s9)) :
  VF (fun n=>node.getD n.toNat 0) B r (·∈r) (HdG g r m) [x]:=by
 have:=(shape_vis (h.bok hred) k _ _ _ _ hx h.dom.view.zero_mem h.hdl).1
 exact this.iff (h.all hred) fun z=>⟨fun h1=>h1.2,fun h1=>⟨(h.all hred z).2 (h.hdr z h1),h1⟩⟩
theorem redOut_red (h:DomOk g r m p d):∀ (k:Nat) (xs:List Int) (b:Bool),(∀ x∈xs,x∈r)->redOut k g m d xs=some b->(b=true↔∀ u∈xs,∀ s∈succs g u,mI0 m s<=mI0 m u->Dm g s u)
 | k,[],b,_,e=>by simp only [redOut,Option.some.injEq] at e;rw [<-e];simp
 | k,u :: xs,b,hx,e=>by
  have hu:=hx u (by simp)
  have hin:∀ (l:List Int) (b:Bool),(∀ s∈l,s∈r)->redIn k m d u l=some b->(b=true↔∀ s∈l,mI0 m s<=mI0 m u->Dm g s u):=fun l=>by
   induction l with
   | nil=>intro b _ e;simp only [redIn,Option.some.injEq] at e;rw [<-e];simp
   | cons s l ih =>
    intro b hl e
    unfold redIn at e
    split at e
    ·next hle =>
     obtain ⟨a',e1,e⟩:=Option.bind_eq_some_iff.1 e
     obtain ⟨c1,c2,c3,c4⟩:=climb_spec h.tree h.view (h.view.pos_nn s) k u a' (h.full u hu) e1
     split at e
     ·next has =>
      rw [ih b (fun s hs=>hl s (by simp [hs])) e]
      simp only [List.mem_cons,forall_eq_or_imp]
      refine ⟨fun hh=>⟨fun _=>(h.dom u hu s).1 (by rw [<-has];exact c2),hh⟩,fun hh=>hh.2⟩
     ·next has =>
      simp only [Option.some.injEq] at e
      rw [<-e]
      simp only [List.mem_cons,forall_eq_or_imp,Bool.false_eq_true,false_iff]
      intro hh
      have hsr:=hl s (by simp)
      have h1:=(h.dom u hu s).2 (hh.1 hle)
      have h2:=c4 s h1 (Int.le_refl _)
      have h3:=(h.tree.anc_le h2 c1).1
      exact has (h.view.pos_inj (h.tree.out _ c1) hsr (by omega))
    ·next hle =>
     rw [ih b (fun s hs=>hl s (by simp [hs])) e]
     simp only [List.mem_cons,forall_eq_or_imp]
     exact ⟨fun hh=>⟨fun h'=>absurd h' hle,hh⟩,fun hh=>hh.2⟩
  unfold redOut at e
  split at e
  ·obtain ⟨b1,e1,e⟩:=Option.bind_eq_some_iff.1 e
   have h1:=hin _ b1 (h.view.ord.closed u hu) e1
   split at e
   ·next hb =>
    rw [redOut_red h k xs b (fun x hx'=>hx x (by simp [hx'])) e]
    simp only [List.mem_cons,forall_eq_or_imp]
    exact ⟨fun hh=>⟨h1.1 hb,hh⟩,fun hh=>hh.2⟩
   ·next hb =>
    simp only [Option.some.injEq] at e
    rw [<-e]
    simp only [List.mem_cons,forall_eq_or_imp,Bool.false_eq_true,false_iff]
    exact fun hh=>hb (h1.2 hh.1)
  ·cases e
end
end Go.Proofs.Ytfiiihpdekppiaa
end
