/- A part of the proof that vellumlaw12.ShapeAcyclic is true for every input: walks of functions that the row reaches and plain laws that they need. Conditions: none. Joined by merge.py out of T17 T18 T19 T20 T7; a part that began as a print is named P or W there and is trimmed. -/
import Derived.Test.YtfiiihpdekppiaaA10
import Derived.Test.YtfiiihpdekppiaaA13
import Derived.Test.YtfiiihpdekppiaaA14
set_option linter.unusedVariables false
set_option linter.unusedSimpArgs false
section
namespace Go.Proofs.Ytfiiihpdekppiaa
inductive Via (g:List (List Int)) (X:Int->Prop):Int->Int->Prop
 | refl {a:Int}:X a->Via g X a a
 | step {a b c:Int}:Via g X a b->c∈succs g b->X c->Via g X a c
def Cyc (g:List (List Int)) (X:Int->Prop):Prop:=(∃ a,X a)/\∀ a b,X a->X b->∃ c,c∈succs g a/\Via g X c b
theorem Via.left {g:List (List Int)} {X:Int->Prop} {a b:Int} (h:Via g X a b):X a:=by induction h <;> assumption
theorem Via.right {g:List (List Int)} {X:Int->Prop} {a b:Int} (h:Via g X a b):X b:=by cases h <;> assumption
theorem Via.trans {g:List (List Int)} {X:Int->Prop} {a b c:Int} (h:Via g X a b) (h':Via g X b c):Via g X a c:=by
 induction h' with
 | refl=>exact h
 | step _ hc hx ih=>exact ih.step hc hx
theorem Via.mono {g:List (List Int)} {X Y:Int->Prop} {a b:Int} (h:Via g X a b) (hxy:∀ x,X x->Y x):Via g Y a b:=by
 induction h with
 | refl h=>exact .refl (hxy _ h)
 | step _ hc hx ih=>exact ih.step hc (hxy _ hx)
theorem Via.keep {g:List (List Int)} {X Q:Int->Prop} {a b:Int} (h:Via g X a b) (ha:Q a) (hq:∀ u w,X u->Q u->w∈succs g u->X w->Q w):Q b:=by
 induction h with
 | refl=>exact ha
 | step h hc hx ih=>exact hq _ _ h.right ih hc hx
section
variable {succ : List (List Int)} {set : List (Int × Bool)} {L : Int}
def Dn (s:Tar) (x:Int):Prop:=mget s.idx x≠none/\x ∉ s.st
structure TJ (succ:List (List Int)) (set:List (Int × Bool)) (L:Int) (s:Tar):Prop where
 pos:∀ x,mget s.idx x≠none->mI0 s.idx x < s.idx.length
 st:∀ x∈s.st,mget s.idx x≠none
 srt:s.st.Pairwise fun a b=>mI0 s.idx a < mI0 s.idx b
 on:∀ x,mB0 s.on x=true↔x∈s.st
 setx:∀ x,mget s.idx x≠none->mB0 set x=true
 cl:∀ u,Dn s u->∀ w∈succs succ u,mB0 set w=true->Dn s w
 cov:∀ X:Int->Prop,(∀ a,X a->mB0 set a=true)->Cyc succ X->(∃ a,X a/\Dn s a)->∃ p∈s.out,∀ a,X a->a∈p
 lb:∀ x∈s.st,L<=mI0 s.idx x/\L<=mI0 s.low x
 lbn:L<=s.idx.length
def Edg (s:Tar) (v w:Int):Prop:=Dn s w∨(w∈s.st/\v<=mI0 s.idx w)
structure TPost (succ:List (List Int)) (set:List (Int × Bool)) (L:Int) (s:Tar) (n:Int) (s':Tar):Prop where
 j:TJ succ set L s'
 t:∃ t,s'.st=s.st++t/\(∀ x∈t,mget s.idx x=none)/\(∀ x∈t,∀ w∈succs succ x,mB0 set w=true->Edg s' (mI0 s'.low n) w)/\(t=[]∨mI0 s'.low n≠mI0 s'.idx n)
 idx:∀ x v,mget s.idx x=some v->mget s'.idx x=some v
 low:∀ x∈s.st,mI0 s'.low x=mI0 s.low x
 self:mget s'.idx n=some (s.idx.length:Int)/\mI0 s'.low n<=mI0 s'.idx n/\L<=mI0 s'.low n
theorem mI0_some {l:List (Int × Int)} {x v:Int} (h:mget l x=some v):mI0 l x=v:=by unfold mI0;rw [h];rfl
structure KI (succ:List (List Int)) (set:List (Int × Bool)) (L:Int) (base:List Int) (n:Int) (s1 s:Tar) (done:List Int):Prop where
 j:TJ succ set L s
 st:∃ seg,s.st=base++n :: seg/\(∀ x∈seg,mget s1.idx x=none)/\∀ x∈seg,∀ w∈succs succ x,mB0 set w=true->Edg s (mI0 s.low n) w
 done:∀ w∈done,mB0 set w=true->Edg s (mI0 s.low n) w
 le:mI0 s.low n<=mI0 s.idx n
 idx:∀ x v,mget s1.idx x=some v->mget s.idx x=some v
 low:∀ x∈base,mI0 s.low x=mI0 s1.low x
theorem Edg.le {s:Tar} {v v' w:Int} (h:Edg s v w) (hv:v'<=v):Edg s v' w:=h.imp id fun ⟨a,b⟩=>⟨a,by omega⟩
theorem KI.lower {base:List Int} {n:Int} {s1 s:Tar} {done:List Int} (h:KI succ set L base n s1 s done) (hnb:n ∉ base) {v:Int} (hv:v<=mI0 s.low n) (hL:L<=v) (done':List Int) (hd:∀ w∈done',mB0 set w=true->Edg s v w):KI succ set L base n s1 { s with low:=mput s.low n v } (done++done'):=by
 have hlow:mI0 (mput s.low n v) n=v:=by rw [mI0_put,if_pos rfl]
 obtain ⟨seg,e1,e2,e3⟩:=h.st
 refine ⟨⟨h.j.pos,h.j.st,h.j.srt,h.j.on,h.j.setx,h.j.cl,h.j.cov,fun x hx=>⟨(h.j.lb x hx).1,?_⟩,h.j.lbn⟩,⟨seg,e1,e2,fun x hx w hw hs=>?_⟩,fun w hw hs=>?_,?_,h.idx,fun x hx=>?_⟩
 ·show L<=mI0 (mput s.low n v) x
  rw [mI0_put];split
  ·exact hL
  ·exact (h.j.lb x hx).2
 ·show Edg s (mI0 (mput s.low n v) n) w
  rw [hlow];exact (e3 x hx w hw hs).le hv
 ·show Edg s (mI0 (mput s.low n v) n) w
  rw [hlow]
  rcases List.mem_append.1 hw with hw | hw
  ·exact (h.done w hw hs).le hv
  ·exact hd w hw hs
 ·show mI0 (mput s.low n v) n<=_
  rw [hlow]
  have:=h.le
  show v<=mI0 s.idx n
  omega
 ·show mI0 (mput s.low n v) x=_
  rw [mI0_put,if_neg (fun e:x=n=>hnb (e ▸ hx)),h.low x hx]
theorem tarKids_j {f:Tar->Int->Option Tar} {base:List Int} {n:Int} {s1:Tar} (hnb:n ∉ base) (hf:∀ (s:Tar) (m:Int) (s':Tar),TJ succ set L s->mget s.idx m=none->mB0 set m=true->f s m=some s'->TPost succ set L s m s') :
  ∀ (l:List Int) (s s':Tar) (done:List Int),KI succ set L base n s1 s done->tarKids set f n l s=some s'->KI succ set L base n s1 s' (done++l)
 | [],s,s',done,h,e=>by
  simp only [tarKids,Option.some.injEq] at e
  rw [<-e,List.append_nil];exact h
 | m :: l,s,s',done,h,e=>by
  have hL:L<=mI0 s.low n:=by
   obtain ⟨seg,e1,_⟩:=h.st
   exact (h.j.lb n (by rw [e1];simp)).2
  have ea:done++m :: l=(done++[m])++l:=by simp
  have skip:mB0 set m=false∨Dn s m->KI succ set L base n s1 s (done++[m]):=fun hc =>
   ⟨h.j,h.st,fun w hw hs=>by
    rcases List.mem_append.1 hw with hw | hw
    ·exact h.done w hw hs
    ·rw [List.mem_singleton.1 hw] at hs ⊢
     rcases hc with hc | hc
     ·rw [hc] at hs;cases hs
     ·exact .inl hc,h.le,h.idx,h.low⟩
  unfold tarKids at e
  split at e
  ·next h1 =>
   rw [ea]
   exact tarKids_j hnb hf l s s' _ (skip (.inl h1)) e
  ·next h1 =>
   have hms:mB0 set m=true:=by simpa using h1
   split at e
   ·next h2 =>
    obtain ⟨s2,e2,e⟩:=Option.bind_eq_some_iff.1 e
    have P:=hf s m s2 h.j h2 hms e2
    obtain ⟨seg,st1,st2,st3⟩:=h.st
    obtain ⟨t,t1,t2,t3,t4⟩:=P.t
    have hnst:n∈s.st:=by rw [st1];simp
    have hlown:mI0 s2.low n=mI0 s.low n:=P.low n hnst
    have hixk:∀ x,mget s.idx x≠none->mI0 s2.idx x=mI0 s.idx x/\mget s2.idx x≠none:=fun x hx=>by
     obtain ⟨v,hv⟩:=Option.ne_none_iff_exists'.1 hx
     exact ⟨by rw [mI0_some hv,mI0_some (P.idx x v hv)],by rw [P.idx x v hv];simp⟩
    have hdn:∀ x,Dn s x->Dn s2 x:=fun x hx=>⟨(hixk x hx.1).2,fun hc=>by
     rw [t1] at hc
     rcases List.mem_append.1 hc with hc | hc
     ·exact hx.2 hc
     ·exact hx.1 (t2 x hc)⟩
    have hedg:∀ v w,Edg s v w->Edg s2 v w:=fun v w hw=>by
     rcases hw with hw | ⟨hw,hv⟩
     ·exact .inl (hdn w hw)
     ·exact .inr ⟨by rw [t1];simp [hw],by rw [(hixk w (h.j.st w hw)).1];exact hv⟩
    have K2:KI succ set L base n s1 { s2 with low:=mput s2.low n (min (mI0 s2.low n) (mI0 s2.low m)) } (done++[m]):=by
     have hlow:mI0 (mput s2.low n (min (mI0 s2.low n) (mI0 s2.low m))) n=min (mI0 s2.low n) (mI0 s2.low m):=by rw [mI0_put,if_pos rfl]
     have hmin:min (mI0 s2.low n) (mI0 s2.low m)<=mI0 s.low n:=by rw [hlown];omega
     have hmin2:min (mI0 s2.low n) (mI0 s2.low m)<=mI0 s2.low m:=by omega
     refine ⟨⟨P.j.pos,P.j.st,P.j.srt,P.j.on,P.j.setx,P.j.cl,P.j.cov,fun x hx=>⟨(P.j.lb x hx).1,?_⟩,P.j.lbn⟩,⟨seg++t,by show s2.st=_;rw [t1,st1];simp,fun x hx=>?_,fun x hx w hw hs=>?_⟩,fun w hw hs=>?_,?_,fun x v hx=>P.idx x v (h.idx x v hx),fun x hx=>?_⟩
     ·show L<=mI0 (mput s2.low n _) x
      rw [mI0_put];split
      ·have:=P.self.2.2;rw [hlown];omega
      ·exact (P.j.lb x hx).2
     ·rcases List.mem_append.1 hx with hx | hx
      ·exact st2 x hx
      ·refine Classical.byContradiction fun hc=>?_
       obtain ⟨v,hv⟩:=Option.ne_none_iff_exists'.1 hc
       have:=t2 x hx
       rw [h.idx x v hv] at this
       cases this
     ·show Edg s2 (mI0 (mput s2.low n _) n) w
      rw [hlow]
      rcases List.mem_append.1 hx with hx | hx
      ·exact (hedg _ _ (st3 x hx w hw hs)).le hmin
      ·exact (t3 x hx w hw hs).le hmin2
     ·show Edg s2 (mI0 (mput s2.low n _) n) w
      rw [hlow]
      rcases List.mem_append.1 hw with hw | hw
      ·exact (hedg _ _ (h.done w hw hs)).le hmin
      ·rw [List.mem_singleton.1 hw]
       by_cases hm:m∈s2.st
       ·exact .inr ⟨hm,by have:=P.self.2.1;omega⟩
       ·exact .inl ⟨by rw [P.self.1];simp,hm⟩
     ·show mI0 (mput s2.low n _) n<=mI0 s2.idx n
      rw [hlow,(hixk n (h.j.st n hnst)).1]
      have:=h.le
      omega
     ·show mI0 (mput s2.low n _) x=_
      rw [mI0_put,if_neg (fun e:x=n=>hnb (e ▸ hx)),P.low x (by rw [st1];simp [hx]),h.low x hx]
    rw [ea]
    exact tarKids_j hnb hf l _ s' _ K2 e
   ·next h2 =>
    split at e
    ·next h3 =>
     rw [ea]
     have hmst:=(h.j.on m).1 h3
     refine tarKids_j hnb hf l _ s' _ (h.lower hnb (v:=min (mI0 s.low n) (mI0 s.idx m)) (by omega) (by have:=(h.j.lb m hmst).1;omega) [m] fun w hw _=>?_) e
     rw [List.mem_singleton.1 hw]
     exact .inr ⟨hmst,by omega⟩
    ·next h3 =>
     rw [ea]
     exact tarKids_j hnb hf l s s' _ (skip (.inr ⟨h2,fun hc=>h3 ((h.j.on m).2 hc)⟩)) e
theorem mput_len {β:Type} {k:Int} {v:β}:∀ {l:List (Int × β)},mget l k=none->(mput l k v).length=l.length+1
 | [],_=>rfl
 | p :: l,h=>by
  have e:¬ p.1=k:=fun e=>by simp [mget,e] at h
  have h':mget l k=none:=by
   unfold mget at h ⊢
   rwa [List.find?_cons,show (p.1 == k)=false by simpa using e] at h
  unfold mput
  rw [if_neg e,List.length_cons,mput_len h',List.length_cons]
theorem foldl_off:∀ (xs:List Int) (m:List (Int × Bool)) (x:Int),mB0 (xs.foldl (fun m x=>mput m x false) m) x=true↔mB0 m x=true/\x ∉ xs
 | [],m,x=>by simp
 | a :: xs,m,x=>by
  rw [List.foldl_cons,foldl_off xs,mB0_put,List.mem_cons]
  by_cases e:x=a
  ·simp [e]
  ·simp [e]
theorem tarVisit_j:∀ (k:Nat) (s:Tar) (n:Int) (s':Tar),TJ succ set L s->mget s.idx n=none->mB0 set n=true->tarVisit succ set k s n=some s'->TPost succ set L s n s'
 | 0,_,_,_,_,_,_,e=>by simp [tarVisit] at e
 | k+1,s,n,s',h,h1,h2,e=>by
  have hnst:n ∉ s.st:=fun hc=>h.st n hc h1
  unfold tarVisit at e
  split at e
  ·obtain ⟨s2,e2,e⟩:=Option.bind_eq_some_iff.1 e
   obtain ⟨s1,hs1⟩:∃ s1:Tar,s1={ idx:=mput s.idx n s.idx.length,low:=mput s.low n s.idx.length,st:=s.st++[n],on:=mput s.on n true,out:=s.out }:=⟨_,rfl⟩
   rw [<-hs1] at e2
   have i1:∀ x,mget s1.idx x=if x=n then some (s.idx.length:Int) else mget s.idx x:=fun x=>by rw [hs1];exact mget_put ..
   have l1:∀ x,mI0 s1.low x=if x=n then (s.idx.length:Int) else mI0 s.low x:=fun x=>by rw [hs1];exact mI0_put
   have st1:s1.st=s.st++[n]:=by rw [hs1]
   have o1:s1.out=s.out:=by rw [hs1]
   have len1:s1.idx.length=s.idx.length+1:=by rw [hs1];exact mput_len h1
   have on1:∀ x,mB0 s1.on x=if x=n then true else mB0 s.on x:=fun x=>by rw [hs1];exact mB0_put
   have m1:∀ x,mI0 s1.idx x=if x=n then (s.idx.length:Int) else mI0 s.idx x:=fun x=>by unfold mI0;rw [i1];split <;> rfl
   have hold:∀ x v,mget s.idx x=some v->mget s1.idx x=some v:=fun x v hv=>by
    rw [i1,if_neg,hv]
    rintro rfl
    rw [h1] at hv;cases hv
   have d1:∀ x,Dn s1 x↔Dn s x:=fun x=>by
    unfold Dn
    rw [i1,st1,List.mem_append,List.mem_singleton]
    by_cases ex:x=n
    ·subst ex;simp [h1]
    ·simp [ex]
   have J1:TJ succ set L s1:=by
    refine ⟨fun x hx=>?_,fun x hx=>?_,?_,fun x=>?_,fun x hx=>?_,fun u hu w hw hs=>?_,fun X hX hc ⟨a,ha,hd⟩=>?_,fun x hx=>?_,by have:=h.lbn;omega⟩
    ·rw [m1,len1]
     split
     ·omega
     ·next ex =>
      rw [i1,if_neg ex] at hx
      have:=h.pos x hx
      omega
    ·rw [st1] at hx
     rw [i1]
     split
     ·simp
     ·next ex =>
      rcases List.mem_append.1 hx with hx | hx
      ·exact h.st x hx
      ·exact absurd (List.mem_singleton.1 hx) ex
    ·rw [st1]
     refine List.pairwise_append.2 ⟨h.srt.imp_of_mem fun {a b} ha hb hab=>?_,by simp,fun a ha b hb=>?_⟩
     ·rw [m1,m1,if_neg (fun e:a=n=>hnst (e ▸ ha)),if_neg (fun e:b=n=>hnst (e ▸ hb))];exact hab
     ·rw [List.mem_singleton.1 hb,m1,m1,if_pos rfl,if_neg (fun e:a=n=>hnst (e ▸ ha))]
      exact h.pos a (h.st a ha)
    ·rw [on1,st1,List.mem_append,List.mem_singleton]
     by_cases ex:x=n
     ·simp [ex]
     ·simp [ex,h.on x]
    ·rw [i1] at hx
     split at hx
     ·next ex=>rw [ex];exact h2
     ·exact h.setx x hx
    ·exact (d1 w).2 (h.cl u ((d1 u).1 hu) w hw hs)
    ·rw [o1];exact h.cov X hX hc ⟨a,ha,(d1 a).1 hd⟩
    ·rw [m1,l1]
     split
     ·exact ⟨h.lbn,h.lbn⟩
     ·next ex =>
      rw [st1] at hx
      rcases List.mem_append.1 hx with hx | hx
      ·exact h.lb x hx
      ·exact absurd (List.mem_singleton.1 hx) ex
   have K:=tarKids_j (succ:=succ) (set:=set) (L:=L) (base:=s.st) (n:=n) (s1:=s1) hnst (fun s m s' a b c d=>tarVisit_j k s m s' a b c d) (succ.getD n.toNat []) s1 s2 [] ⟨J1,⟨[],st1,by simp,by simp⟩,by simp,by rw [l1,m1,if_pos rfl,if_pos rfl];exact Int.le_refl _,fun x v hx=>hx,fun x _=>rfl⟩ e2
   rw [List.nil_append] at K
   obtain ⟨seg,sg1,sg2,sg3⟩:=K.st
   have hn2:mget s2.idx n=some (s.idx.length:Int):=K.idx n _ (by rw [i1,if_pos rfl])
   have hkeep:∀ x v,mget s.idx x=some v->mget s2.idx x=some v:=fun x v hx=>K.idx x v (hold x v hx)
   have hlowk:∀ x∈s.st,mI0 s2.low x=mI0 s.low x:=fun x hx=>by rw [K.low x hx,l1,if_neg (fun e:x=n=>hnst (e ▸ hx))]
   have hnew:∀ x∈n :: seg,mget s.idx x=none:=fun x hx=>by
    rcases List.mem_cons.1 hx with rfl | hx
    ·exact h1
    ·have:=sg2 x hx
     rw [i1] at this
     split at this
     ·cases this
     ·exact this
   have hLn:=K.j.lb n (by rw [sg1];simp)
   have hall:∀ x∈n :: seg,∀ w∈succs succ x,mB0 set w=true->Edg s2 (mI0 s2.low n) w:=fun x hx w hw hs=>by
    rcases List.mem_cons.1 hx with rfl | hx
    ·exact K.done w hw hs
    ·exact sg3 x hx w hw hs
   split at e
   ·next hl =>
    split at e
    ·have hix:s2.st.idxOf n=s.st.length:=by
      rw [sg1,List.idxOf_append,if_neg hnst];simp
     have etk:s2.st.take (s2.st.idxOf n)=s.st:=by rw [hix,sg1];simp
     have edr:s2.st.drop (s2.st.idxOf n)=n :: seg:=by rw [hix,sg1];simp
     rw [etk,edr] at e
     simp only [Option.some.injEq] at e
     obtain ⟨out,hout⟩:∃ out,out=if 1 < (n :: seg).length∨(succ.getD n.toNat []).contains n=true then s2.out++[sortI (n :: seg)] else s2.out:=⟨_,rfl⟩
     rw [<-hout] at e
     have hsrt:=K.j.srt
     rw [sg1] at hsrt
     have hin:∀ x∈n :: seg,∀ w∈succs succ x,mB0 set w=true->Dn s2 w∨w∈n :: seg:=fun x hx w hw hs=>by
      rcases hall x hx w hw hs with hd | ⟨hw2,hv⟩
      ·exact .inl hd
      ·rw [sg1] at hw2
       rcases List.mem_append.1 hw2 with hw2 | hw2
       ·have:=(List.pairwise_append.1 hsrt).2.2 w hw2 n (by simp)
        omega
       ·exact .inr hw2
     have hd':∀ x,Dn s' x↔(Dn s2 x∨x∈n :: seg):=fun x=>by
      rw [<-e]
      show (mget s2.idx x≠none/\x ∉ s.st)↔((mget s2.idx x≠none/\x ∉ s2.st)∨x∈n :: seg)
      rw [sg1,List.mem_append]
      constructor
      ·rintro ⟨a,b⟩
       by_cases hx:x∈n :: seg
       ·exact .inr hx
       ·exact .inl ⟨a,fun hc=>hc.elim b hx⟩
      ·rintro (⟨a,b⟩ | hx)
       ·exact ⟨a,fun hc=>b (.inl hc)⟩
       ·exact ⟨K.j.st x (by rw [sg1];exact List.mem_append.2 (.inr hx)),fun hc=>by
         have:=(List.pairwise_append.1 hsrt).2.2 x hc x hx
         omega⟩
     have hoo:∀ p,p∈s2.out->p∈out:=fun p hp=>by rw [hout];split <;> simp [hp]
     refine ⟨⟨?_,?_,?_,?_,?_,?_,?_,?_,?_⟩,⟨[],?_,by simp,by simp,.inl rfl⟩,?_,?_,?_⟩
     ·rw [<-e];exact K.j.pos
     ·rw [<-e];exact fun x hx=>K.j.st x (by rw [sg1];exact List.mem_append.2 (.inl hx))
     ·rw [<-e];exact (List.pairwise_append.1 hsrt).1
     ·rw [<-e]
      intro x
      show mB0 ((n :: seg).foldl _ s2.on) x=true↔x∈s.st
      rw [foldl_off,K.j.on x,sg1,List.mem_append]
      constructor
      ·rintro ⟨a | a,b⟩
       ·exact a
       ·exact absurd a b
      ·exact fun hx=>⟨.inl hx,fun hc=>by have:=(List.pairwise_append.1 hsrt).2.2 x hx x hc;omega⟩
     ·rw [<-e];exact K.j.setx
     ·intro u hu w hw hs
      rw [hd'] at hu ⊢
      rcases hu with hu | hu
      ·exact .inl (K.j.cl u hu w hw hs)
      ·exact hin u hu w hw hs
     ·intro X hX hc ⟨a,ha,hda⟩
      have eo:s'.out=out:=by rw [<-e]
      rw [eo]
      by_cases hold':∃ a,X a/\Dn s2 a
      ·obtain ⟨p,hp,hpa⟩:=K.j.cov X hX hc hold'
       exact ⟨p,hoo p hp,hpa⟩
      ·have hno:∀ b,X b->¬ Dn s2 b:=fun b hb hd=>hold' ⟨b,hb,hd⟩
       have haq:a∈n :: seg:=((hd' a).1 hda).resolve_left (hno a ha)
       have hstep:∀ u w,X u->u∈n :: seg->w∈succs succ u->X w->w∈n :: seg:=fun u w hu huq hw hxw=>(hin u huq w hw (hX w hxw)).resolve_left (hno w hxw)
       have hallq:∀ b,X b->b∈n :: seg:=fun b hb=>by
        obtain ⟨c,hc1,hc2⟩:=hc.2 a b ha hb
        exact hc2.keep (hstep a c ha haq hc1 hc2.left) hstep
       refine ⟨sortI (n :: seg),?_,fun b hb=>(sortI_permT _).mem_iff.2 (hallq b hb)⟩
       rw [hout,if_pos]
       ·simp
       ·by_cases hs:seg=[]
        ·right
         subst hs
         obtain ⟨c,hc1,hc2⟩:=hc.2 a a ha ha
         have e1:a=n:=by simpa using haq
         have e3:=hallq c hc2.left
         have e2:c=n:=by simpa using e3
         subst e1;subst e2
         exact List.contains_iff_mem.2 hc1
        ·left
         have:=List.length_pos_iff.2 hs
         simp only [List.length_cons];omega
     ·rw [<-e];exact fun x hx=>K.j.lb x (by rw [sg1];exact List.mem_append.2 (.inl hx))
     ·rw [<-e];exact K.j.lbn
     ·rw [<-e];simp
     ·rw [<-e];exact hkeep
     ·rw [<-e];exact hlowk
     ·rw [<-e];exact ⟨hn2,K.le,hLn.2⟩
    ·cases e
   ·next hl =>
    simp only [Option.some.injEq] at e
    subst e
    exact ⟨K.j,⟨n :: seg,sg1,hnew,hall,.inr hl⟩,hkeep,hlowk,hn2,K.le,hLn.2⟩
  ·cases e
theorem TJ.relb {L':Int} {s:Tar} (h:TJ succ set L s) (hst:s.st=[]) (hL:L'<=s.idx.length):TJ succ set L' s :=
 ⟨h.pos,h.st,h.srt,h.on,h.setx,h.cl,h.cov,by rw [hst];simp,hL⟩
theorem tarAll_j {k:Nat}:∀ (l:List Int) (s s':Tar) (L:Int),(∀ x∈l,mB0 set x=true)->TJ succ set L s->s.st=[]->tarAll succ set k l s=some s' ->
  (∃ L,TJ succ set L s')/\s'.st=[]/\(∀ x,mget s.idx x≠none->mget s'.idx x≠none)/\∀ x∈l,mget s'.idx x≠none
 | [],s,s',L,_,h,hst,e=>by
  simp only [tarAll,Option.some.injEq] at e
  subst e
  exact ⟨⟨L,h⟩,hst,fun _ h=>h,by simp⟩
 | n :: l,s,s',L,hl,h,hst,e=>by
  unfold tarAll at e
  split at e
  ·next h1 =>
   obtain ⟨s2,e2,e⟩:=Option.bind_eq_some_iff.1 e
   have P:=tarVisit_j k s n s2 (h.relb hst (Int.le_refl _)) h1 (hl n (by simp)) e2
   obtain ⟨t,t1,_,_,t4⟩:=P.t
   have hix:=mI0_some P.self.1
   have ht:t=[]:=t4.resolve_right fun hne=>hne (by have:=P.self.2;omega)
   rw [hst,ht] at t1
   obtain ⟨a1,a2,a3,a4⟩:=tarAll_j l s2 s' _ (fun x hx=>hl x (by simp [hx])) P.j t1 e
   refine ⟨a1,a2,fun x hx=>a3 x ?_,fun x hx=>?_⟩
   ·obtain ⟨v,hv⟩:=Option.ne_none_iff_exists'.1 hx
    rw [P.idx x v hv];simp
   ·rcases List.mem_cons.1 hx with rfl | hx
    ·exact a3 x (by rw [P.self.1];simp)
    ·exact a4 x hx
  ·next h1 =>
   obtain ⟨a1,a2,a3,a4⟩:=tarAll_j l s s' L (fun x hx=>hl x (by simp [hx])) h hst e
   refine ⟨a1,a2,a3,fun x hx=>?_⟩
   rcases List.mem_cons.1 hx with rfl | hx
   ·exact a3 x h1
   ·exact a4 x hx
theorem parts_cover (hS:SetOk set) {k:Nat} {ps:List (List Int)} (e:partsF k succ set=some ps) (X:Int->Prop) (hX:∀ a,X a->a∈keys set) (hc:Cyc succ X):∃ p∈ps,∀ a,X a->a∈p:=by
 unfold partsF at e
 obtain ⟨s,e1,e2⟩:=Option.map_eq_some_iff.1 e
 have h0:TJ succ set 0 { idx:=[],low:=[],st:=[],on:=[],out:=[] }:=by
  have hn:∀ x,mget ([]:List (Int × Int)) x=none:=fun _=>rfl
  refine ⟨fun x hx=>absurd (hn x) hx,by simp,by simp,fun x=>by simp [mB0,mget],fun x hx=>absurd (hn x) hx,fun u hu=>absurd (hn u) hu.1,fun X _ _ ⟨a,_,hd⟩=>absurd (hn a) hd.1,by simp,by simp⟩
 obtain ⟨⟨L,J⟩,hst,_,hall⟩:=tarAll_j (succ:=succ) (set:=set) (k:=k) (sortI (set.map (·.1))) _ s 0 (fun x hx=>hS.yes x (show x∈set.map (·.1) from (sortI_permT _).mem_iff.1 hx)) h0 rfl e1
 obtain ⟨a,ha⟩:=hc.1
 obtain ⟨p,hp,hpa⟩:=J.cov X (fun a ha=>hS.yes a (hX a ha)) hc ⟨a,ha,hall a ((sortI_permT _).mem_iff.2 (hX a ha)),by rw [hst];simp⟩
 exact ⟨p,by rw [<-e2];exact hp,hpa⟩
end
structure VS (s:Sp):Prop where
 val:ValidG s.succ
 len:s.node.length=s.succ.length
 pos:0 < s.succ.length
structure PI (pi:Int->Int) (S:Int->Prop) (s s':Sp):Prop where
 len:s.succ.length<=s'.succ.length
 old:∀ n:Int,0<=n->n < s.succ.length->pi n=n
 new:∀ n:Int,s.succ.length<=n->n < s'.succ.length->S (pi n)
 rng:∀ n:Int,0<=n->n < s'.succ.length->0<=pi n/\pi n < s.succ.length
 edge:∀ n:Int,0<=n->n < s'.succ.length->(succs s'.succ n).map pi=succs s.succ (pi n)
 nod:∀ n:Int,0<=n->n < s'.succ.length->s'.node.getD n.toNat 0=s.node.getD (pi n).toNat 0
theorem PI.id (S:Int->Prop) (s:Sp):PI (fun n=>n) S s s:=⟨Nat.le_refl _,fun _ _ _=>rfl,fun n h1 h2=>by omega,fun n h1 h2=>⟨h1,h2⟩,fun n _ _=>by simp,fun _ _ _=>rfl⟩
theorem PI.comp {p1 p2:Int->Int} {S1 S2 S:Int->Prop} {s s1 s2:Sp} (h1:PI p1 S1 s s1) (h2:PI p2 S2 s1 s2) (hS1:∀ x,S1 x->S x) (hS2:∀ x,S2 x->x < s.succ.length->S x):PI (fun n=>p1 (p2 n)) S s s2:=by
 refine ⟨Nat.le_trans h1.len h2.len,fun n a b=>?_,fun n a b=>?_,fun n a b=>?_,fun n a b=>?_,fun n a b=>?_⟩
 ·have:=h1.len
  show p1 (p2 n)=n
  rw [h2.old n a (by omega),h1.old n a b]
 ·show S (p1 (p2 n))
  by_cases hn:n < s1.succ.length
  ·rw [h2.old n (by omega) hn];exact hS1 _ (h1.new n a hn)
  ·have hr:=h2.rng n (by omega) b
   by_cases hp:p2 n < s.succ.length
   ·rw [h1.old _ hr.1 hp];exact hS2 _ (h2.new n (by omega) b) hp
   ·exact hS1 _ (h1.new _ (by omega) hr.2)
 ·have hr:=h2.rng n a b
  exact h1.rng _ hr.1 hr.2
 ·have hr:=h2.rng n a b
  rw [show (fun n=>p1 (p2 n))=p1 ∘ p2 from rfl,<-List.map_map,h2.edge n a b,h1.edge _ hr.1 hr.2]
 ·have hr:=h2.rng n a b
  rw [h2.nod n a b,h1.nod _ hr.1 hr.2]
section
variable {pi : Int → Int} {S : Int → Prop} {s s' : Sp}
theorem VS.rng (h:VS s) {n m:Int} (hm:m∈succs s.succ n):0<=m/\m < s.succ.length:=succs_mem h.val hm
theorem VS.reach (h:VS s) {a:Int} (ha:Reach s.succ 0 a):0<=a/\a < s.succ.length:=by
 cases ha with
 | refl=>have:=h.pos;omega
 | step _ hc=>exact h.rng hc
theorem PI.step (h:PI pi S s s') {u w:Int} (hu:0<=u/\u < s'.succ.length) (hw:w∈succs s'.succ u):pi w∈succs s.succ (pi u):=by
 rw [<-h.edge u hu.1 hu.2];exact List.mem_map.2 ⟨w,hw,rfl⟩
theorem PI.zero (h:PI pi S s s') (hv:VS s):pi 0=0:=h.old 0 (Int.le_refl _) (by have:=hv.pos;omega)
theorem PI.reach (h:PI pi S s s') (hv:VS s) (hv':VS s') {a b:Int} (hr:Reach s'.succ a b):a=0->Reach s.succ 0 (pi b):=by
 induction hr with
 | refl=>rintro rfl;rw [h.zero hv];exact .refl _
 | @step b c hr hc ih =>
  rintro rfl
  exact (ih rfl).step (h.step (hv'.reach hr) hc)
theorem PI.via (h:PI pi S s s') (hv':VS s') {X:Int->Prop} {a b:Int} (ha:0<=a/\a < s'.succ.length) (hr:Via s'.succ X a b):Via s.succ (fun y=>∃ x,X x/\pi x=y) (pi a) (pi b)/\0<=b/\b < s'.succ.length:=by
 induction hr with
 | refl hx=>exact ⟨.refl ⟨_,hx,rfl⟩,ha⟩
 | @step b c hr hc hx ih=>exact ⟨ih.1.step (h.step ih.2 hc) ⟨c,hx,rfl⟩,hv'.rng hc⟩
theorem PI.cyc (h:PI pi S s s') (hv':VS s') {X:Int->Prop} (hX:∀ a,X a->0<=a/\a < s'.succ.length) (hc:Cyc s'.succ X):Cyc s.succ (fun y=>∃ x,X x/\pi x=y):=by
 obtain ⟨⟨a,ha⟩,hc⟩:=hc
 refine ⟨⟨pi a,a,ha,rfl⟩,?_⟩
 rintro _ _ ⟨a,ha,rfl⟩ ⟨b,hb,rfl⟩
 obtain ⟨c,h1,h2⟩:=hc a b ha hb
 exact ⟨pi c,h.step (hX a ha) h1,(h.via hv' (hX c h2.left) h2).1⟩
theorem PI.ra (h:PI pi S s s') (hv:VS s) (hv':VS s') {x:Int} (hx:¬ S x) {a b:Int} (hr:RA s'.succ x a b):a=0->RA s.succ x 0 (pi b)/\0<=b/\b < s'.succ.length:=by
 have hne:∀ z:Int,0<=z/\z < s'.succ.length->z≠x->pi z≠x:=fun z hz hzx e=>by
  by_cases hz':z < s.succ.length
  ·rw [h.old z hz.1 hz'] at e;exact hzx e
  ·have:=h.new z (by omega) hz.2
   rw [e] at this;exact hx this
 have hp:=hv'.pos
 induction hr with
 | refl hax =>
  rintro rfl
  have h0:(0:Int)<=0/\(0:Int) < s'.succ.length:=by omega
  rw [h.zero hv]
  exact ⟨.refl hax,h0⟩
 | @step b c hr hc hcx ih =>
  intro e
  obtain ⟨i1,i2⟩:=ih e
  exact ⟨i1.step (h.step i2 hc) (hne c (hv'.rng hc) hcx),hv'.rng hc⟩
theorem PI.dm (h:PI pi S s s') (hv:VS s) (hv':VS s') {x a:Int} (hx:¬ S x) (hd:Dm s.succ x (pi a)):Dm s'.succ x a:=fun hr=>hd (h.ra hv hv' hx hr rfl).1
def Cl (g:List (List Int)) (T:Int->Prop):Prop:=∀ X:Int->Prop,(∀ a,X a->T a/\Reach g 0 a)->Cyc g X->∃ h,X h/\∀ a,X a->Dm g h a
theorem Cl.mono {g:List (List Int)} {T T':Int->Prop} (h:Cl g T) (ht:∀ x,T' x->Reach g 0 x->T x):Cl g T':=fun X hX hc=>h X (fun a ha=>⟨ht a (hX a ha).1 (hX a ha).2,(hX a ha).2⟩) hc
theorem PI.frame (h:PI pi S s s') (hv:VS s) (hv':VS s') {T:Int->Prop} (hT:∀ x,T x->¬ S x/\0<=x/\x < s.succ.length) (hc:Cl s.succ T):Cl s'.succ T:=fun X hX hcy=>by
 have hid:∀ a,X a->pi a=a:=fun a ha=>by
  have:=hT a (hX a ha).1
  exact h.old a this.2.1 this.2.2
 obtain ⟨z,⟨x,hx,e⟩,hz⟩:=hc (fun y=>∃ x,X x/\pi x=y) (fun a ⟨x,hx,e⟩=>by
  rw [<-e]
  refine ⟨by rw [hid x hx];exact (hX x hx).1,h.reach hv hv' (hX x hx).2 rfl⟩) (h.cyc hv' (fun a ha=>hv'.reach (hX a ha).2) hcy)
 rw [hid x hx] at e
 subst e
 exact ⟨x,hx,fun a ha=>h.dm hv hv' (hT x (hX x hx).1).1 (hz (pi a) ⟨a,ha,rfl⟩)⟩
end
theorem reachLoop_cl {succ:List (List Int)} {set:List (Int × Bool)}:∀ (k:Nat) (out:List (Int × Bool)) (st:List Int) (o:List (Int × Bool)),reachLoop succ set k out st=some o->SetOk out ->
  (∀ n∈keys out,∀ m∈succs succ n,mB0 set m=true->m∈keys out∨m∈st) ->
  SetOk o/\(∀ x∈keys out,x∈keys o)/\(∀ x∈st,mB0 set x=true->x∈keys o)/\(∀ n∈keys o,∀ m∈succs succ n,mB0 set m=true->m∈keys o)/\∀ x∈keys o,x∈keys out∨mB0 set x=true
 | 0,_,_,_,e,_,_=>by simp [reachLoop] at e
 | k+1,out,[],o,e,h,hi=>by
  simp only [reachLoop,Option.some.injEq] at e
  subst e
  exact ⟨h,fun _ h=>h,by simp,fun n hn m hm hs=>(hi n hn m hm hs).resolve_right (by simp),fun _ h=>.inl h⟩
 | k+1,out,n :: st,o,e,h,hi=>by
  unfold reachLoop at e
  split at e
  ·next hc =>
   split at e
   ·obtain ⟨a1,a2,a3,a4,a5⟩:=reachLoop_cl k (mput out n true) ((succ.getD n.toNat []).reverse++st) o e (h.put n) (fun x hx m hm hs=>by
     rcases mem_keys_put.1 hx with rfl | hx
     ·exact .inr (List.mem_append.2 (.inl (List.mem_reverse.2 hm)))
     ·rcases hi x hx m hm hs with h1 | h1
      ·exact .inl (mem_keys_put.2 (.inr h1))
      ·rcases List.mem_cons.1 h1 with rfl | h1
       ·exact .inl (mem_keys_put.2 (.inl rfl))
       ·exact .inr (by simp [h1]))
    refine ⟨a1,fun x hx=>a2 x (mem_keys_put.2 (.inr hx)),fun x hx hs=>?_,a4,fun x hx=>?_⟩
    ·rcases List.mem_cons.1 hx with rfl | hx
     ·exact a2 _ (mem_keys_put.2 (.inl rfl))
     ·exact a3 x (by simp [hx]) hs
    ·rcases a5 x hx with h1 | h1
     ·rcases mem_keys_put.1 h1 with rfl | h1
      ·exact .inr hc.1
      ·exact .inl h1
     ·exact .inr h1
   ·cases e
  ·next hc =>
   obtain ⟨a1,a2,a3,a4,a5⟩:=reachLoop_cl k out st o e h (fun x hx m hm hs=>by
    rcases hi x hx m hm hs with h1 | h1
    ·exact .inl h1
    ·rcases List.mem_cons.1 h1 with rfl | h1
     ·refine .inl (Classical.byContradiction fun hno=>hc ⟨hs,?_⟩)
      rw [Bool.eq_false_iff]
      exact fun h'=>hno (mB0_keys h')
     ·exact .inr h1)
   refine ⟨a1,a2,fun x hx hs=>?_,a4,a5⟩
   rcases List.mem_cons.1 hx with rfl | hx
   ·refine Classical.byContradiction fun hno=>hc ⟨hs,?_⟩
    rw [Bool.eq_false_iff]
    exact fun h'=>hno (a2 _ (mB0_keys h'))
   ·exact a3 x hx hs
theorem entries_cl {succ:List (List Int)} (hv:ValidG succ) (h0:0 < succ.length) {k:Nat} {part es:List Int} (hp:∀ x∈part,0<=x) (e:entriesF k succ part (setF (-1) part [])=some es) :
  es.Sublist part/\((0:Int)∈part->(0:Int)∈es)/\∀ u,Reach succ 0 u->u ∉ part->∀ v∈succs succ u,v∈part->v∈es:=by
 unfold entriesF at e
 obtain ⟨live,e1,e2⟩:=Option.map_eq_some_iff.1 e
 obtain ⟨hS,hSx⟩:=setF_ok (-1) (rangeI succ.length) [] .nil
 have hall:∀ x:Int,0<=x->x < succ.length->mB0 (setF (-1) (rangeI succ.length) []) x=true:=fun x a b=>hS.yes x ((hSx x).2 (.inl ⟨rangeI_mem.2 ⟨a,b⟩,by omega⟩))
 obtain ⟨l1,_,l3,l4,_⟩:=reachLoop_cl k [] [0] live e1 .nil (by simp [keys])
 have hlive:∀ a u,Reach succ a u->a=0->u∈keys live/\0<=u/\u < succ.length:=fun a u hr=>by
  induction hr with
  | refl=>rintro rfl;exact ⟨l3 0 (by simp) (hall 0 (by omega) (by omega)),by omega,by omega⟩
  | @step b c hr hc ih =>
   intro e0
   have hcr:=succs_mem hv hc
   exact ⟨l4 b (ih e0).1 c hc (hall c hcr.1 hcr.2),hcr⟩
 obtain ⟨hI,hIx⟩:=setF_ok (-1) part [] .nil
 rw [<-e2]
 refine ⟨List.filter_sublist,fun h=>List.mem_filter.2 ⟨h,by simp [outsideB]⟩,fun u hu hup v hv' hvp=>List.mem_filter.2 ⟨hvp,?_⟩⟩
 obtain ⟨k1,k2,k3⟩:=hlive 0 u hu rfl
 unfold outsideB
 rw [Bool.or_eq_true,List.any_eq_true]
 refine .inr ⟨u.toNat,List.mem_range.2 (by omega),?_⟩
 rw [Int.toNat_of_nonneg k2,l1.yes u k1]
 simp only [Bool.true_and,Bool.and_eq_true,Bool.not_eq_true']
 refine ⟨?_,List.contains_iff_mem.2 hv'⟩
 rw [Bool.eq_false_iff]
 intro hc
 rcases (hIx u).1 (mB0_keys hc) with h | h
 ·exact hup h.1
 ·simp [keys] at h
theorem copyAdd_eq (first:Nat):∀ (ns:List Int) (i:Nat) (tom:List (Int × Int)) (out:List (Int × Bool)) (succ:List (List Int)) (node:List Int) (q:List (Int × Int) × List (Int × Bool) × List (List Int) × List Int),
  copyAdd first ns i tom out succ node=some q->ns.Nodup->SetOk out->(∀ n∈ns,0<=n/\n < succ.length/\n < node.length) ->
  (∀ x,mget q.1 x=if x∈ns then some (((first+i+ns.idxOf x:Nat)):Int) else mget tom x)/\SetOk q.2.1/\(∀ x:Int,x∈keys q.2.1↔x∈keys out∨(((first+i:Nat):Int)<=x/\x < ((first+i+ns.length:Nat):Int))) /\
   q.2.2.1=succ++ns.map (fun n=>succ.getD n.toNat [])/\q.2.2.2=node++ns.map (fun n=>node.getD n.toNat 0)
 | [],i,tom,out,succ,node,q,e,_,h,_=>by
  simp only [copyAdd,Option.some.injEq] at e
  subst e
  refine ⟨by simp,h,fun x=>?_,by simp,by simp⟩
  constructor
  ·exact fun h=>.inl h
  ·rintro (h | h)
   ·exact h
   ·simp only [List.length_nil] at h;omega
 | n :: r,i,tom,out,succ,node,q,e,hnd,h,hr=>by
  obtain ⟨hn1,hn2⟩:=List.nodup_cons.1 hnd
  unfold copyAdd at e
  split at e
  ·obtain ⟨a1,a2,a3,a4,a5⟩:=copyAdd_eq first r (i+1) _ _ _ _ q e hn2 (h.put _) (fun m hm=>by have:=hr m (by simp [hm]);simp only [List.length_append,List.length_singleton];omega)
   refine ⟨fun x=>?_,a2,fun x=>?_,?_,?_⟩
   ·rw [a1,mget_put]
    simp only [List.mem_cons]
    by_cases ex:x=n
    ·subst ex
     rw [if_neg hn1,if_pos rfl,if_pos (.inl rfl),List.idxOf_cons_self];rfl
    ·have:(n :: r).idxOf x=r.idxOf x+1:=by rw [List.idxOf_cons,show (n == x)=false by simpa using fun h=>ex h.symm];rfl
     simp only [ex,false_or,this,if_false]
     split
     ·congr 2;omega
     ·rfl
   ·rw [a3,mem_keys_put,List.length_cons]
    constructor
    ·rintro ((rfl | h1) | h1)
     ·right;omega
     ·exact .inl h1
     ·right;omega
    ·rintro (h1 | h1)
     ·exact .inl (.inr h1)
     ·by_cases hx:x=(first:Int)+i
      ·exact .inl (.inl hx)
      ·right;omega
   ·rw [a4,List.append_assoc,List.singleton_append,List.map_cons]
    congr 2
    refine List.map_congr_left fun m hm=>?_
    have:=hr m (by simp [hm])
    rw [List.getD_eq_getElem?_getD,List.getElem?_append_left (by omega),List.getD_eq_getElem?_getD]
   ·rw [a5,List.append_assoc,List.singleton_append,List.map_cons]
    congr 2
    refine List.map_congr_left fun m hm=>?_
    have:=hr m (by simp [hm])
    rw [List.getD_eq_getElem?_getD,List.getElem?_append_left (by omega),List.getD_eq_getElem?_getD]
  ·cases e
theorem copyF_cl {s s':Sp} (h:VS s) {nodes copied:List (Int × Bool)} (hN:SetOk nodes) (hr:∀ x∈keys nodes,0<=x/\x < s.succ.length) {inside:List (Int × Bool)} {es:List Int} (e:copyF s nodes inside es=some (some (s',copied))) :
  VS s'/\SetOk copied/\s'.succ.length=s.succ.length+nodes.length/\(∀ x:Int,x∈keys copied↔(s.succ.length:Int)<=x/\x < s'.succ.length) /\
  ∃ pi,PI pi (·∈keys nodes) s s' /\
   (∀ u:Int,0<=u->u < s.succ.length->mB0 inside u=true->succs s'.succ u=succs s.succ u) /\
   (∀ u:Int,0<=u->u < s.succ.length->mB0 inside u=false->∀ v∈succs s'.succ u,(v:Int) < s.succ.length->v∈succs s.succ u/\¬ (v∈es/\v∈keys nodes)) /\
   ∀ u:Int,s.succ.length<=u->u < s'.succ.length->∀ v∈succs s'.succ u,(v:Int) < s.succ.length->v∈succs s.succ (pi u)/\v ∉ keys nodes:=by
 unfold copyF at e
 split at e
 ·split at e
  ·simp at e
  ·obtain ⟨q,e1,e⟩:=Option.bind_eq_some_iff.1 e
   split at e
   ·obtain ⟨ord,hord⟩:∃ ord,ord=sortI (nodes.map (·.1)):=⟨_,rfl⟩
    rw [<-hord] at e1
    have hom:∀ x,x∈ord↔x∈keys nodes:=fun x=>by rw [hord];exact (sortI_permT _).mem_iff
    have hond:ord.Nodup:=by rw [hord];exact (sortI_permT _).nodup_iff.2 hN.nd
    obtain ⟨a1,a2,a3,a4,a5⟩:=copyAdd_eq s.succ.length ord 0 [] [] s.succ s.node q e1 hond .nil (fun n hn=>by have:=hr n ((hom n).1 hn);have:=h.len;omega)
    simp only [Option.some.injEq,Prod.mk.injEq] at e
    obtain ⟨e2,e3⟩:=e
    have es':s'.succ=redAll q.1 inside es s.succ.length q.2.2.1:=by rw [<-e2]
    have en':s'.node=q.2.2.2:=by rw [<-e2]
    have hlen:s'.succ.length=s.succ.length+ord.length:=by rw [es'];simp [redAll,a4]
    have htom:∀ m c,mget q.1 m=some c->m∈ord/\c=((s.succ.length+ord.idxOf m:Nat):Int):=fun m c hm=>by
     rw [a1] at hm
     split at hm
     ·next hmo=>simp only [Option.some.injEq] at hm;exact ⟨hmo,by rw [<-hm];simp⟩
     ·simp [mget] at hm
    have htin:∀ m,m∈ord->mget q.1 m=some (((s.succ.length+ord.idxOf m:Nat)):Int):=fun m hm=>by rw [a1,if_pos hm];simp
    obtain ⟨pi,hpi⟩:∃ pi:Int->Int,pi=fun n:Int=>if n < (s.succ.length:Int) then n else ord.getD (n - s.succ.length).toNat 0:=⟨_,rfl⟩
    have pold:∀ n:Int,n < s.succ.length->pi n=n:=fun n hn=>by rw [hpi];simp [hn]
    have pnew:∀ i,i < ord.length->pi ((s.succ.length+i:Nat):Int)=ord.getD i 0:=fun i hi=>by
     rw [hpi]
     simp only
     rw [if_neg (by omega),show (((s.succ.length+i:Nat):Int) - s.succ.length).toNat=i by omega]
    have ppr:∀ (m:Int) (want:Int->Bool),0<=m->m < s.succ.length->pi (redM q.1 want m)=m:=fun m want h1 h2=>by
     unfold redM
     split
     ·next c hc =>
      split
      ·obtain ⟨hmo,rfl⟩:=htom m c hc
       have hlt:=List.idxOf_lt_length_of_mem hmo
       rw [pnew _ hlt,List.getD_eq_getElem?_getD,List.getElem?_eq_getElem hlt,List.getElem_idxOf hlt];rfl
      ·exact pold m h2
     ·exact pold m h2
    have hrowO:∀ u:Int,0<=u->u < s.succ.length->succs s'.succ u=redRow q.1 inside es s.succ.length u.toNat (succs s.succ u):=fun u h1 h2=>by
     unfold succs
     rw [es',List.getD_eq_getElem?_getD]
     simp only [redAll,List.getElem?_mapIdx,a4]
     rw [List.getElem?_append_left (by omega),List.getElem?_eq_getElem (by omega)]
     simp only [Option.map_some,Option.getD_some]
     rw [List.getD_eq_getElem?_getD,List.getElem?_eq_getElem (by omega)];rfl
    have hrowN:∀ i,i < ord.length->succs s'.succ ((s.succ.length+i:Nat):Int)=(succs s.succ (ord.getD i 0)).map (redM q.1 fun _=>true):=fun i hi=>by
     unfold succs
     rw [es',List.getD_eq_getElem?_getD,Int.toNat_natCast]
     simp only [redAll,List.getElem?_mapIdx,a4]
     rw [List.getElem?_append_right (by omega),List.getElem?_map,show s.succ.length+i - s.succ.length=i by omega,List.getElem?_eq_getElem hi]
     simp only [Option.map_some,Option.getD_some]
     unfold redRow
     rw [if_pos (by omega),List.getD_eq_getElem?_getD (l:=ord),List.getElem?_eq_getElem hi];rfl
    have hov:∀ i,i < ord.length->0<=ord.getD i 0/\ord.getD i 0 < s.succ.length/\ord.getD i 0∈keys nodes:=fun i hi=>by
     have hm:ord.getD i 0∈ord:=by rw [List.getD_eq_getElem?_getD,List.getElem?_eq_getElem hi];exact List.getElem_mem _
     have:=hr _ ((hom _).1 hm)
     exact ⟨this.1,this.2,(hom _).1 hm⟩
    have hsplit:∀ u:Int,(s.succ.length:Int)<=u->u < s'.succ.length->∃ i,i < ord.length/\u=((s.succ.length+i:Nat):Int):=fun u h1 h2=>⟨(u - s.succ.length).toNat,by omega,by omega⟩
    have hmapI:∀ (l:List Int) (want:Int->Bool),(∀ m∈l,0<=m/\m < s.succ.length)->(l.map (redM q.1 want)).map pi=l:=fun l want hl=>by
     rw [List.map_map]
     conv=>rhs;rw [<-List.map_id l]
     exact List.map_congr_left fun m hm=>ppr m want (hl m hm).1 (hl m hm).2
    have hredr:∀ (m:Int) (want:Int->Bool),0<=m->m < s.succ.length->0<=redM q.1 want m/\redM q.1 want m < s'.succ.length:=fun m want h1 h2=>by
     unfold redM
     split
     ·next c hc =>
      split
      ·obtain ⟨hmo,rfl⟩:=htom m c hc
       have hlt:=List.idxOf_lt_length_of_mem hmo
       omega
      ·omega
     ·omega
    have hVS:VS s':=by
     refine ⟨?_,by rw [en',a5,hlen];simp [h.len],by have:=h.pos;omega⟩
     intro l hl x hx
     obtain ⟨i,hi,rfl⟩:=List.mem_iff_getElem.1 hl
     have hx':x∈succs s'.succ (i:Int):=by
      unfold succs
      rw [Int.toNat_natCast,List.getD_eq_getElem?_getD,List.getElem?_eq_getElem hi];exact hx
     by_cases hio:i < s.succ.length
     ·rw [hrowO i (by omega) (by omega)] at hx'
      unfold redRow at hx'
      split at hx'
      ·obtain ⟨m,hm,rfl⟩:=List.mem_map.1 hx'
       exact hredr m _ (h.rng hm).1 (h.rng hm).2
      ·split at hx'
       ·have:=h.rng hx';omega
       ·obtain ⟨m,hm,rfl⟩:=List.mem_map.1 hx'
        exact hredr m _ (h.rng hm).1 (h.rng hm).2
     ·obtain ⟨j,hj,ej⟩:=hsplit i (by omega) (by omega)
      rw [ej,hrowN j hj] at hx'
      obtain ⟨m,hm,rfl⟩:=List.mem_map.1 hx'
      exact hredr m _ (h.rng hm).1 (h.rng hm).2
    refine ⟨hVS,by rw [<-e3];exact a2,by rw [hlen,hord,(sortI_permT _).length_eq,List.length_map],fun x=>?_,pi,⟨by omega,fun n _ h2=>pold n h2,fun n h1 h2=>?_,fun n h1 h2=>?_,fun n h1 h2=>?_,fun n h1 h2=>?_⟩,fun u h1 h2 h3=>?_,fun u h1 h2 h3 v hv hlt=>?_,fun u h1 h2 v hv hlt=>?_⟩
    ·rw [<-e3,a3,hlen]
     simp only [keys,List.map_nil,List.not_mem_nil,false_or]
     omega
    ·obtain ⟨i,hi,rfl⟩:=hsplit n h1 h2
     rw [pnew i hi];exact (hov i hi).2.2
    ·by_cases hn:n < s.succ.length
     ·rw [pold n hn];exact ⟨h1,hn⟩
     ·obtain ⟨i,hi,rfl⟩:=hsplit n (by omega) h2
      rw [pnew i hi];exact ⟨(hov i hi).1,(hov i hi).2.1⟩
    ·by_cases hn:n < s.succ.length
     ·rw [pold n hn,hrowO n h1 hn]
      unfold redRow
      split
      ·omega
      ·split
       ·conv=>rhs;rw [<-List.map_id (succs s.succ n)]
        exact List.map_congr_left fun m hm=>pold m (h.rng hm).2
       ·exact hmapI _ _ fun m hm=>h.rng hm
     ·obtain ⟨i,hi,rfl⟩:=hsplit n (by omega) h2
      rw [pnew i hi,hrowN i hi]
      exact hmapI _ _ fun m hm=>h.rng hm
    ·rw [en',a5]
     by_cases hn:n < s.succ.length
     ·rw [pold n hn,List.getD_eq_getElem?_getD,List.getD_eq_getElem?_getD,List.getElem?_append_left (by have:=h.len;omega)]
     ·obtain ⟨i,hi,rfl⟩:=hsplit n (by omega) h2
      have hl:=h.len
      rw [pnew i hi,List.getD_eq_getElem?_getD,Int.toNat_natCast,List.getElem?_append_right (by omega),List.getElem?_map,hl,show s.succ.length+i - s.succ.length=i by omega,List.getElem?_eq_getElem hi,List.getD_eq_getElem?_getD (l:=ord),List.getElem?_eq_getElem hi];rfl
    ·rw [hrowO u h1 h2]
     unfold redRow
     rw [if_neg (by omega),Int.toNat_of_nonneg h1,if_pos h3]
    ·rw [hrowO u h1 h2] at hv
     unfold redRow at hv
     rw [if_neg (by omega),Int.toNat_of_nonneg h1,if_neg (by rw [h3];simp)] at hv
     obtain ⟨m,hm,rfl⟩:=List.mem_map.1 hv
     unfold redM at hlt ⊢
     split at hlt
     ·next c hc =>
      split at hlt
      ·obtain ⟨_,rfl⟩:=htom m c hc;omega
      ·next hw =>
       simp only [if_neg hw]
       refine ⟨hm,fun ⟨h5,_⟩=>hw (List.contains_iff_mem.2 h5)⟩
     ·next hc =>
      exact ⟨hm,fun ⟨_,h5⟩=>by rw [htin m ((hom m).2 h5)] at hc;cases hc⟩
    ·obtain ⟨i,hi,rfl⟩:=hsplit u h1 h2
     rw [hrowN i hi] at hv
     rw [pnew i hi]
     obtain ⟨m,hm,rfl⟩:=List.mem_map.1 hv
     unfold redM at hlt ⊢
     split at hlt
     ·next c hc =>
      rw [if_pos rfl] at hlt
      obtain ⟨_,rfl⟩:=htom m c hc;omega
     ·next hc =>
      exact ⟨hm,fun h5=>by rw [htin m ((hom m).2 h5)] at hc;cases hc⟩
   ·cases e
 ·cases e
def SrtO (s:Tar):Prop:=∀ p∈s.out,p.Pairwise fun a b=>a<=b
theorem sortI_srt (xs:List Int):(sortI xs).Pairwise fun a b=>a<=b:=by
 have:=List.pairwise_mergeSort (le:=fun (x y:Int)=>decide (x<=y)) (fun a b c h1 h2=>by simp only [decide_eq_true_eq] at *;omega) (fun a b=>by simp only [Bool.or_eq_true,decide_eq_true_eq];omega) xs
 exact this.imp fun h=>by simpa using h
theorem tarKids_s {set:List (Int × Bool)} {f:Tar->Int->Option Tar} {n:Int} (hf:∀ (s:Tar) (m:Int) (s':Tar),SrtO s->f s m=some s'->SrtO s'):∀ (l:List Int) (s s':Tar),SrtO s->tarKids set f n l s=some s'->SrtO s'
 | [],s,s',h,e=>by simp only [tarKids,Option.some.injEq] at e;rw [<-e];exact h
 | m :: l,s,s',h,e=>by
  unfold tarKids at e
  split at e
  ·exact tarKids_s hf l s s' h e
  ·split at e
   ·obtain ⟨s2,e2,e⟩:=Option.bind_eq_some_iff.1 e
    refine tarKids_s hf l _ s' ?_ e
    exact fun p hp=>hf s m s2 h e2 p hp
   ·split at e
    ·refine tarKids_s hf l _ s' ?_ e
     exact fun p hp=>h p hp
    ·exact tarKids_s hf l s s' h e
theorem tarVisit_s {succ:List (List Int)} {set:List (Int × Bool)}:∀ (k:Nat) (s:Tar) (n:Int) (s':Tar),SrtO s->tarVisit succ set k s n=some s'->SrtO s'
 | 0,_,_,_,_,e=>by simp [tarVisit] at e
 | k+1,s,n,s',h,e=>by
  unfold tarVisit at e
  split at e
  ·obtain ⟨s2,e2,e⟩:=Option.bind_eq_some_iff.1 e
   have h2:SrtO s2:=by
    refine tarKids_s (f:=tarVisit succ set k) (fun s m s' a b=>tarVisit_s k s m s' a b) _ _ s2 ?_ e2
    exact fun p hp=>h p hp
   split at e
   ·split at e
    ·simp only [Option.some.injEq] at e
     rw [<-e]
     intro p hp
     have hp:p∈(if 1 < (s2.st.drop (s2.st.idxOf n)).length∨(succ.getD n.toNat []).contains n=true then s2.out++[sortI (s2.st.drop (s2.st.idxOf n))] else s2.out):=hp
     split at hp
     ·rcases List.mem_append.1 hp with hp | hp
      ·exact h2 p hp
      ·rw [List.mem_singleton.1 hp];exact sortI_srt _
     ·exact h2 p hp
    ·cases e
   ·simp only [Option.some.injEq] at e
    rw [<-e];exact h2
  ·cases e
theorem tarAll_s {succ:List (List Int)} {set:List (Int × Bool)} {k:Nat}:∀ (l:List Int) (s s':Tar),SrtO s->tarAll succ set k l s=some s'->SrtO s'
 | [],s,s',h,e=>by simp only [tarAll,Option.some.injEq] at e;rw [<-e];exact h
 | n :: l,s,s',h,e=>by
  unfold tarAll at e
  split at e
  ·obtain ⟨s2,e2,e⟩:=Option.bind_eq_some_iff.1 e
   exact tarAll_s l s2 s' (tarVisit_s k s n s2 h e2) e
  ·exact tarAll_s l s s' h e
theorem parts_sorted {succ:List (List Int)} {set:List (Int × Bool)} {k:Nat} {ps:List (List Int)} (e:partsF k succ set=some ps):∀ p∈ps,p.Pairwise fun a b=>a<=b:=by
 unfold partsF at e
 obtain ⟨s,e1,e2⟩:=Option.map_eq_some_iff.1 e
 rw [<-e2]
 exact tarAll_s _ _ s (fun p hp=>by simp at hp) e1
def Split (S:Int->Prop) (s s':Sp):Prop:=VS s'/\∃ pi,PI pi S s s'/\Cl s'.succ fun x=>0<=x/\x < s'.succ.length/\S (pi x)
structure G1 (part:List Int) (head:Int) (C:Int->Prop) (s s1:Sp):Prop where
 vs:VS s1
 pc:∃ pc,PI pc (fun x=>x∈part/\x≠head) s s1
 new:∀ x:Int,s.succ.length<=x->x < s1.succ.length->C x
 newC:∀ x:Int,C x->s.succ.length<=x
 same:∀ u∈part,succs s1.succ u=succs s.succ u
 only:∀ u v,Reach s1.succ 0 u->u ∉ part->v∈succs s1.succ u->v∈part->v=head
theorem part_core {part:List Int} {head:Int} {C:Int->Prop} {R:Int->Prop} {s s1 s1' s2:Sp} (hvs:VS s) (hr:∀ x∈part,0<=x/\x < s.succ.length) (hh:head∈part) (h0:(0:Int)∈part->head=0) (hR:∀ x,R x↔x∈part/\x≠head) (h:G1 part head C s s1)
  (hs1:VS s1'/\∃ p1,PI p1 C s1 s1'/\Cl s1'.succ fun x=>0<=x/\x < s1'.succ.length/\C (p1 x)) (hs2:Split R s1' s2):Split (·∈part) s s2:=by
 obtain ⟨v1',p1,P1,K1⟩:=hs1
 obtain ⟨v2,p2,P2,K2⟩:=hs2
 obtain ⟨pc,PC⟩:=h.pc
 have hRr:∀ x,R x->0<=x/\x < s.succ.length:=fun x hx=>hr x ((hR x).1 hx).1
 have hCR:∀ x,C x->¬ R x:=fun x hc hx=>by have:=h.newC x hc;have:=hRr x hx;omega
 have hl1:=PC.len
 have hl2:=P1.len
 have hl3:=P2.len
 have RH:=PI.comp (S:=fun x=>C x∨R x) P1 P2 (fun x=>.inl) (fun x hx _=>.inr hx)
 have PA:=PI.comp (S:=(·∈part)) PC RH (fun x hx=>hx.1) (fun x hx hlt=>by
  rcases hx with hx | hx
  ·have:=h.newC x hx;omega
  ·exact ((hR x).1 hx).1)
 refine ⟨v2,_,PA,fun X hX hc=>?_⟩
 have hXr:∀ a,X a->0<=a/\a < s2.succ.length:=fun a ha=>⟨(hX a ha).1.1,(hX a ha).1.2.1⟩
 have hYc:=RH.cyc v2 hXr hc
 have hYl:∀ a,X a->Reach s1.succ 0 (p1 (p2 a)):=fun a ha=>RH.reach h.vs v2 (hX a ha).2 rfl
 have hY:∀ a,X a->p1 (p2 a)∈part∨C (p1 (p2 a)):=fun a ha=>by
  have h1:=RH.rng a (hXr a ha).1 (hXr a ha).2
  have h2:=(hX a ha).1.2.2
  by_cases hlt:p1 (p2 a) < s.succ.length
  ·have h2:pc (p1 (p2 a))∈part:=h2
   rw [PC.old _ h1.1 hlt] at h2
   exact .inl h2
  ·exact .inr (h.new _ (by omega) h1.2)
 have hdom:∀ b∈part,Dm s1.succ head b:=fun b hb hra=>by
  have:∀ a z,RA s1.succ head a z->a=0->z ∉ part/\Reach s1.succ 0 z:=fun a z hz=>by
   induction hz with
   | refl hne=>rintro rfl;exact ⟨fun hp=>hne (h0 hp).symm,.refl _⟩
   | @step u v _ hv hne ih =>
    intro e
    obtain ⟨i1,i2⟩:=ih e
    exact ⟨fun hp=>hne (h.only u v i2 i1 hv hp),i2.step hv⟩
  exact (this 0 b hra rfl).1 hb
 have hnh:¬ (C head∨R head):=by
  rintro (hc' | hr')
  ·have:=h.newC _ hc';have:=hr head hh;omega
  ·exact ((hR head).1 hr').2 rfl
 by_cases hex:∃ a,X a/\p1 (p2 a)∈part
 ·obtain ⟨a0,ha0,hp0⟩:=hex
  have hall:∀ a,X a->p1 (p2 a)∈part:=fun a ha=>by
   have hstep:∀ u w,(∃ x,X x/\p1 (p2 x)=u)->u∈part->w∈succs s1.succ u->(∃ x,X x/\p1 (p2 x)=w)->w∈part:=fun u w _ hu hw ⟨x,hx,e⟩=>by
    rw [h.same u hu] at hw
    have:=hvs.rng hw
    rcases hY x hx with h1 | h1
    ·rw [<-e];exact h1
    ·rw [e] at h1;have:=h.newC _ h1;omega
   obtain ⟨c,hc1,hc2⟩:=hYc.2 _ _ ⟨a0,ha0,rfl⟩ ⟨a,ha,rfl⟩
   exact hc2.keep (hstep _ _ ⟨a0,ha0,rfl⟩ hp0 hc1 hc2.left) hstep
  by_cases hhX:X head
  ·exact ⟨head,hhX,fun a ha=>RH.dm h.vs v2 hnh (hdom _ (hall a ha))⟩
  ·refine K2 X (fun a ha=>⟨⟨(hXr a ha).1,(hXr a ha).2,?_⟩,(hX a ha).2⟩) hc
   have h1:=hall a ha
   have hz:=P2.rng a (hXr a ha).1 (hXr a ha).2
   have hne:p1 (p2 a)≠head:=fun e=>by
    by_cases hlt:a < s1.succ.length
    ·rw [P2.old a (hXr a ha).1 (by omega),P1.old a (hXr a ha).1 hlt] at e
     rw [e] at ha;exact hhX ha
    ·have:=RH.new a (by omega) (hXr a ha).2
     have this:C (p1 (p2 a))∨R (p1 (p2 a)):=this
     rw [e] at this;exact hnh this
   have hRp:R (p1 (p2 a)):=(hR _).2 ⟨h1,hne⟩
   by_cases hlt:p2 a < s1.succ.length
   ·rw [P1.old _ hz.1 hlt] at hRp;exact hRp
   ·exact absurd hRp (hCR _ (P1.new _ (by omega) hz.2))
 ·have hallC:∀ a,X a->C (p1 (p2 a)):=fun a ha=>(hY a ha).resolve_left fun hp=>hex ⟨a,ha,hp⟩
  have hF:=P2.frame v1' v2 (T:=fun x=>0<=x/\x < s1'.succ.length/\C (p1 x)) (fun x ⟨a,b,c⟩=>⟨fun hx=>by
   have:=hRr x hx
   rw [P1.old x a (by omega)] at c
   exact hCR x c hx,a,b⟩) K1
  refine hF X (fun a ha=>⟨?_,(hX a ha).2⟩) hc
  have hz:=P2.rng a (hXr a ha).1 (hXr a ha).2
  have hCa:=hallC a ha
  by_cases hlt:a < s1'.succ.length
  ·rw [P2.old a (hXr a ha).1 hlt] at hCa
   exact ⟨(hXr a ha).1,hlt,hCa⟩
  ·exfalso
   have hx:=P2.new a (by omega) (hXr a ha).2
   have:=hRr _ hx
   rw [P1.old _ hz.1 (by omega)] at hCa
   exact hCR _ hCa hx
theorem Split.parts {part:List Int} {ps:List (List Int)} {s s2 s':Sp} (hvs:VS s) (hnd:(part++ps.flatten).Nodup) (hr:∀ x∈part++ps.flatten,0<=x/\x < s.succ.length) (h1:Split (·∈part) s s2)
  (h2:VS s'/\∃ pi,PI pi (·∈ps.flatten) s2 s'/\∀ p∈ps,Cl s'.succ fun x=>0<=x/\x < s'.succ.length/\pi x∈p) :
  VS s'/\∃ pi,PI pi (·∈(part :: ps).flatten) s s'/\∀ p∈part :: ps,Cl s'.succ fun x=>0<=x/\x < s'.succ.length/\pi x∈p:=by
 obtain ⟨v2,p1,P1,K1⟩:=h1
 obtain ⟨v',p2,P2,K2⟩:=h2
 have hapart:∀ x∈part,x ∉ ps.flatten:=fun x hx hx'=>(List.nodup_append.1 hnd).2.2 x hx x hx' rfl
 have hrp:∀ x∈ps.flatten,0<=x/\x < s.succ.length:=fun x hx=>hr x (List.mem_append.2 (.inr hx))
 have hl1:=P1.len
 refine ⟨v',_,PI.comp (S:=(·∈(part :: ps).flatten)) P1 P2 (fun x hx=>by simp only [List.flatten_cons,List.mem_append];exact .inl hx) (fun x hx _=>by simp only [List.flatten_cons,List.mem_append];exact .inr hx),fun p hp=>?_⟩
 rcases List.mem_cons.1 hp with rfl | hp
 ·refine (P2.frame v2 v' (T:=fun x=>0<=x/\x < s2.succ.length/\p1 x∈p) (fun x ⟨a,b,c⟩=>⟨fun hx=>?_,a,b⟩) K1).mono fun x ⟨a,b,c⟩ _=>?_
  ·rw [P1.old x a (hrp x hx).2] at c
   exact hapart x c hx
  ·have c:p1 (p2 x)∈p:=c
   by_cases hlt:x < s2.succ.length
   ·rw [P2.old x a hlt] at c;exact ⟨a,hlt,c⟩
   ·exfalso
    have hx:=P2.new x (by omega) b
    rw [P1.old _ (hrp _ hx).1 (hrp _ hx).2] at c
    exact hapart _ c hx
 ·refine (K2 p hp).mono fun x ⟨a,b,c⟩ _=>⟨a,b,?_⟩
  have c:p1 (p2 x)∈p:=c
  have hz:=P2.rng x a b
  have hcf:p1 (p2 x)∈ps.flatten:=List.mem_flatten.2 ⟨p,hp,c⟩
  by_cases hlt:p2 x < s.succ.length
  ·rw [P1.old _ hz.1 hlt] at c;exact c
  ·exact absurd hcf (hapart _ (P1.new _ (by omega) hz.2))
theorem splitParts_cl {sp:Sp->List (Int × Bool)->Option (Option Sp)} {k N:Nat} (hsp:∀ (s:Sp) (nodes:List (Int × Bool)) (s':Sp),VS s->SetOk nodes->(∀ x∈keys nodes,0<=x/\x < s.succ.length)->nodes.length < N->sp s nodes=some (some s')->Split (·∈keys nodes) s s') :
  ∀ (ps:List (List Int)) (s s':Sp),VS s->ps.flatten.length<=N->ps.flatten.Nodup->(∀ x∈ps.flatten,0<=x/\x < s.succ.length)->(∀ p∈ps,p.Pairwise fun a b=>a<=b)->splitParts sp k ps s=some (some s') ->
   VS s'/\∃ pi,PI pi (·∈ps.flatten) s s'/\∀ p∈ps,Cl s'.succ fun x=>0<=x/\x < s'.succ.length/\pi x∈p
 | [],s,s',h,_,_,_,_,e=>by
  simp only [splitParts,Option.some.injEq] at e
  subst e
  exact ⟨h,_,PI.id _ s,by simp⟩
 | part :: ps,s,s',h,hN,hnd,hr,hsrt,e=>by
  rw [List.flatten_cons] at hnd hr hN
  rw [List.length_append] at hN
  obtain ⟨hnd1,hnd2,_⟩:=List.nodup_append.1 hnd
  have hr1:∀ x∈part,0<=x/\x < s.succ.length:=fun x hx=>hr x (List.mem_append.2 (.inl hx))
  have hr2:∀ x∈ps.flatten,0<=x/\x < s.succ.length:=fun x hx=>hr x (List.mem_append.2 (.inr hx))
  unfold splitParts at e
  split at e
  ·obtain ⟨es,e1,e⟩:=Option.bind_eq_some_iff.1 e
   obtain ⟨hsub,hz,hent⟩:=entries_cl h.val h.pos (fun x hx=>(hr1 x hx).1) e1
   match es,hsub,hz,hent,e with
   | [],_,hz,hent,e =>
    have hdead:∀ a z,Reach s.succ a z->a=0->z ∉ part:=fun a z hz'=>by
     induction hz' with
     | refl=>rintro rfl hp;simpa using hz hp
     | @step u v hu hv ih=>intro e0 hp;subst e0;simpa using hent u hu (ih rfl) v hv hp
    refine Split.parts h hnd hr ⟨h,_,PI.id _ s,fun X hX hc=>?_⟩ (splitParts_cl hsp ps s s' h (by omega) hnd2 hr2 (fun p hp=>hsrt p (by simp [hp])) e)
    obtain ⟨a,ha⟩:=hc.1
    exact absurd (hX a ha).1.2.2 (hdead 0 a (hX a ha).2 rfl)
   | head :: others,hsub,hz,hent,e =>
    have hhead:head∈part:=hsub.subset (by simp)
    have h0:(0:Int)∈part->head=0:=fun hp=>by
     rcases List.mem_cons.1 (hz hp) with h1 | h1
     ·exact h1.symm
     ·have:=((hsrt part (by simp)).sublist hsub)
      have:=(List.pairwise_cons.1 this).1 0 h1
      have:=(hr1 head hhead).1
      omega
    obtain ⟨hW,hWx⟩:=setF_ok head part [] .nil
    have hWk:∀ x,x∈keys (setF head part [])↔x∈part/\x≠head:=fun x=>by
     rw [hWx];simp [keys]
    have hWl:∀ m:List (Int × Bool),SetOk m->(∀ x∈keys m,x∈part/\x≠head)->m.length < N:=fun m hm hx=>by
     have:=(without hnd1 hhead).2.2 m hm hx
     omega
    dsimp only at e
    obtain ⟨r,er,e⟩:=Option.bind_eq_some_iff.1 e
    cases r with
    | none=>simp at e
    | some s1' =>
     simp only at e
     obtain ⟨r2,er2,e⟩:=Option.bind_eq_some_iff.1 e
     cases r2 with
     | none=>simp at e
     | some s2 =>
      simp only at e
      have hfirst:∃ (C:Int->Prop) (s1:Sp),G1 part head C s s1/\VS s1'/\∃ p1,PI p1 C s1 s1'/\Cl s1'.succ fun x=>0<=x/\x < s1'.succ.length/\C (p1 x):=by
       match others,hsub,hent,er with
       | [],_,hent,er =>
        simp only [Option.some.injEq] at er
        subst er
        refine ⟨fun _=>False,s,⟨h,⟨_,PI.id _ s⟩,fun x a b=>by omega,fun x hx=>hx.elim,fun _ _=>rfl,fun u v hu hup hv hvp=>by simpa using hent u hu hup v hv hvp⟩,h,_,PI.id _ s,fun X hX hc=>?_⟩
        obtain ⟨a,ha⟩:=hc.1
        exact absurd (hX a ha).1.2.2 id
       | o :: os,hsub,hent,er =>
        simp only at er
        obtain ⟨reach,er1,er⟩:=Option.bind_eq_some_iff.1 er
        obtain ⟨c,er3,er⟩:=Option.bind_eq_some_iff.1 er
        obtain ⟨l1,_,l3,l4,l5⟩:=reachLoop_cl k [] (o :: os).reverse reach er1 .nil (by simp [keys])
        have hK:∀ x∈keys reach,x∈part/\x≠head:=fun x hx=>(hWk x).1 (mB0_keys ((l5 x hx).resolve_left (by simp [keys])))
        have hnde:=hnd1.sublist hsub
        have hoth:∀ x∈o :: os,x∈keys reach:=fun x hx=>l3 x (List.mem_reverse.2 hx) (hW.yes x ((hWk x).2 ⟨hsub.subset (List.mem_cons_of_mem _ hx),fun e=>(List.nodup_cons.1 hnde).1 (e ▸ hx)⟩))
        cases c with
        | none=>simp at er
        | some q =>
         obtain ⟨s1,copied⟩:=q
         simp only at er
         obtain ⟨v1,c1,cl,c2,pc,PC,d1,d2,d3⟩:=copyF_cl h l1 (fun x hx=>hr1 x (hK x hx).1) er3
         obtain ⟨hI,hIx⟩:=setF_ok (-1) part [] .nil
         have hin:∀ u∈part,mB0 (setF (-1) part []) u=true:=fun u hu=>hI.yes u ((hIx u).2 (.inl ⟨hu,by have:=(hr1 u hu).1;omega⟩))
         have hout:∀ u,u ∉ part->mB0 (setF (-1) part []) u=false:=fun u hu=>by
          rw [Bool.eq_false_iff]
          intro hc
          rcases (hIx u).1 (mB0_keys hc) with h | h
          ·exact hu h.1
          ·simp [keys] at h
         have hcl:copied.length<=reach.length:=by
          have:=c1.len_le (xs:=(rangeI reach.length).map fun j=>(s.succ.length:Int)+j) fun x hx=>by
           have:=(c2 x).1 hx
           exact List.mem_map.2 ⟨x - s.succ.length,rangeI_mem.2 (by omega),by omega⟩
          simpa [rangeI] using this
         have hsp1:=hsp s1 copied s1' v1 c1 (fun x hx=>by have:=(c2 x).1 hx;omega) (by have:=hWl reach l1 hK;omega) er
         refine ⟨(·∈keys copied),s1,⟨v1,⟨pc,PC.len,PC.old,fun n a b=>hK _ (PC.new n a b),PC.rng,PC.edge,PC.nod⟩,fun x a b=>(c2 x).2 ⟨a,b⟩,fun x hx=>((c2 x).1 hx).1,fun u hu=>d1 u (hr1 u hu).1 (hr1 u hu).2 (hin u hu),fun u v hu hup hv hvp=>?_⟩,hsp1⟩
         have hur:=v1.reach hu
         by_cases hlt:u < s.succ.length
         ·obtain ⟨f1,f2⟩:=d2 u hur.1 hlt (hout u hup) v hv (hr1 v hvp).2
          have hu':=PC.reach h v1 hu rfl
          rw [PC.old u hur.1 hlt] at hu'
          rcases List.mem_cons.1 (hent u hu' hup v f1 hvp) with h1 | h1
          ·exact h1
          ·exact absurd ⟨h1,hoth v h1⟩ f2
         ·obtain ⟨f1,f2⟩:=d3 u (by omega) hur.2 v hv (hr1 v hvp).2
          refine Classical.byContradiction fun hne=>f2 ?_
          exact l4 _ (PC.new u (by omega) hur.2) v f1 (hW.yes v ((hWk v).2 ⟨hvp,hne⟩))
      obtain ⟨C,s1,hG,v1',p1,P1,K1⟩:=hfirst
      have hl1:=(hG.pc.choose_spec).len
      have hl2:=P1.len
      have h2:=hsp s1' (setF head part []) s2 v1' hW (fun x hx=>by have:=hr1 x ((hWk x).1 hx).1;omega) (hWl _ hW fun x hx=>(hWk x).1 hx) er2
      have hone:Split (·∈part) s s2:=part_core h hr1 hhead h0 hWk hG ⟨v1',p1,P1,K1⟩ h2
      have hl3:=(h2.2.choose_spec).1.len
      exact Split.parts h hnd hr hone (splitParts_cl hsp ps s2 s' h2.1 (by omega) hnd2 (fun x hx=>by have:=hr2 x hx;omega) (fun p hp=>hsrt p (by simp [hp])) e)
  ·cases e
theorem splitF_cl:∀ (k:Nat) (s:Sp) (nodes:List (Int × Bool)) (s':Sp),VS s->SetOk nodes->(∀ x∈keys nodes,0<=x/\x < s.succ.length)->nodes.length < k->splitF k s nodes=some (some s')->Split (·∈keys nodes) s s'
 | 0,_,_,_,_,_,_,_,e=>by simp [splitF] at e
 | k+1,s,nodes,s',h,hN,hr,hk,e=>by
  unfold splitF at e
  split at e
  ·next hb =>
   obtain ⟨ps,e1,e⟩:=Option.bind_eq_some_iff.1 e
   split at e
   ·obtain ⟨ps',e2,p1,p2,p3⟩:=partsF_ok hN hr hb.1 (k:=k) (by omega)
    have:ps=ps':=by rw [e2] at e1;exact (Option.some.inj e1).symm
    subst this
    have hfl:ps.flatten.length<=nodes.length:=by
     have:=nodup_sub_len p1 p2
     rwa [keys_len] at this
    obtain ⟨v',pi,P,K⟩:=splitParts_cl (N:=nodes.length) (fun s nodes s' a b c d e=>splitF_cl k s nodes s' a b c (by omega) e) ps s s' h hfl p1 (fun x hx=>hr x (p2 x hx)) (parts_sorted e1) e
    refine ⟨v',pi,⟨P.len,P.old,fun n a b=>p2 _ (P.new n a b),P.rng,P.edge,P.nod⟩,fun X hX hc=>?_⟩
    obtain ⟨p,hp,hpa⟩:=parts_cover hN e1 (fun y=>∃ x,X x/\pi x=y) (fun a ⟨x,hx,e⟩=>by rw [<-e];exact (hX x hx).1.2.2) (P.cyc v' (fun a ha=>⟨(hX a ha).1.1,(hX a ha).1.2.1⟩) hc)
    exact K p hp X (fun a ha=>⟨⟨(hX a ha).1.1,(hX a ha).1.2.1,hpa _ ⟨a,ha,rfl⟩⟩,(hX a ha).2⟩) hc
   ·cases e
  ·cases e
theorem OI.init {g:List (List Int)} (h0:0 < g.length):OI g ((List.replicate g.length false).set 0 true) [(0,0)] []:=by
 refine ⟨by simp,by simp;omega,by simp,?_,by simp,by simp,by simp,?_,?_,?_,.inl ⟨[],0,rfl⟩,?_,by simp⟩
 ·intro v h1 h2
  simp only [List.map_cons,List.map_nil,List.nil_append,List.mem_singleton]
  rw [List.getD_eq_getElem?_getD,List.getElem?_set]
  by_cases hv0:v=0
  ·subst hv0;simp [h0]
  ·rw [if_neg (by omega)]
   have:((List.replicate g.length false)[v.toNat]?).getD false=false:=by rw [List.getElem?_replicate];split <;> rfl
   simp [this,hv0]
 ·intro a p b e j s hj
  cases a with
  | nil=>simp at e;obtain ⟨rfl,_⟩:=e;simp at hj;omega
  | cons x a=>simp at e
 ·intro a p b e q hq
  cases a with
  | nil=>simp at e;obtain ⟨_,rfl⟩:=e;simp at hq
  | cons x a=>simp at e
 ·simp;exact .refl _
 ·intro a x y b e
  cases a with
  | nil=>simp at e
  | cons z a=>simp at e
def Aft (r:List Int) (s v:Int):Prop:=v=s∨∃ a b,r=a++s :: b/\v∈b
def Back (g:List (List Int)) (r:List Int):Prop:=∀ u∈r,∀ s∈succs g u,(∃ a b,r=a++u :: b/\s∈b)∨(s∈r/\Via g (Aft r s) s u)
structure BJ (g:List (List Int)) (ns acc:List Int):Prop where
 adj:∀ a x y b,ns=a++x :: y :: b->x∈succs g y
 fin:∀ u∈acc,∀ s∈succs g u,(∃ a b,acc=a++u :: b/\s∈b)∨(s∈acc/\Via g (Aft acc s) s u)∨∃ a b,ns=a++s :: b/\Via g (fun v=>v=s∨v∈a∨v∈acc) s u
theorem Aft.cons {r:List Int} {s v n:Int} (h:Aft r s v):Aft (n :: r) s v:=h.imp id fun ⟨a,b,e,hv⟩=>⟨n :: a,b,by rw [e];rfl,hv⟩
theorem BJ.push {g:List (List Int)} {n s:Int} {ns acc:List Int} (h:BJ g (n :: ns) acc) (hs:s∈succs g n):BJ g (s :: n :: ns) acc:=by
 refine ⟨fun a x y b e=>?_,fun u hu t ht=>?_⟩
 ·cases a with
  | nil=>simp only [List.nil_append,List.cons.injEq] at e;obtain ⟨rfl,rfl,rfl⟩:=e;exact hs
  | cons z a=>simp only [List.cons_append,List.cons.injEq] at e;exact h.adj a x y b e.2
 ·rcases h.fin u hu t ht with h1 | h1 | ⟨a,b,e,h1⟩
  ·exact .inl h1
  ·exact .inr (.inl h1)
  ·exact .inr (.inr ⟨s :: a,b,by rw [e];rfl,h1.mono fun v hv=>hv.imp id (Or.imp (List.mem_cons_of_mem _) id)⟩)
theorem BJ.chain {g:List (List Int)} {s:Int} {b:List Int}:∀ (a1:List Int) (n:Int),(∀ a x y c,n :: a1++s :: b=a++x :: y :: c->x∈succs g y)->Via g (fun v=>v=s∨v∈a1∨v=n) s n
 | [],n,h=>.step (.refl (.inl rfl)) (h [] n s b rfl) (.inr (.inr rfl))
 | y :: a1,n,h=>by
  have ih:=BJ.chain (g:=g) (s:=s) (b:=b) a1 y (fun a x z c e=>h (n :: a) x z c (by rw [List.cons_append,List.cons_append,List.cons_append] at *;rw [e]))
  refine .step (ih.mono fun v hv=>?_) (h [] n y (a1++s :: b) rfl) (.inr (.inr rfl))
  rcases hv with hv | hv | hv
  ·exact .inl hv
  ·exact .inr (.inl (by simp [hv]))
  ·exact .inr (.inl (by simp [hv]))
theorem BJ.pop {g:List (List Int)} {n:Int} {ns acc:List Int} (h:BJ g (n :: ns) acc) (hn:∀ s∈succs g n,s∈acc∨s=n∨s∈ns):BJ g ns (n :: acc):=by
 refine ⟨fun a x y b e=>h.adj (n :: a) x y b (by rw [e];rfl),fun u hu s hs=>?_⟩
 rcases List.mem_cons.1 hu with rfl | hu
 ·rcases hn s hs with h1 | rfl | h1
  ·exact .inl ⟨[],acc,rfl,h1⟩
  ·exact .inr (.inl ⟨by simp,.refl (.inl rfl)⟩)
  ·obtain ⟨a1,b,rfl⟩:=List.append_of_mem h1
   refine .inr (.inr ⟨a1,b,rfl,(BJ.chain a1 u fun a x y c e=>h.adj a x y c (by rw [<-e];rfl)).mono fun v hv=>?_⟩)
   rcases hv with hv | hv | hv
   ·exact .inl hv
   ·exact .inr (.inl hv)
   ·exact .inr (.inr (by simp [hv]))
 ·rcases h.fin u hu s hs with ⟨a,b,e,h1⟩ | ⟨h1,h2⟩ | ⟨a,b,e,h1⟩
  ·exact .inl ⟨n :: a,b,by rw [e];rfl,h1⟩
  ·exact .inr (.inl ⟨by simp [h1],h2.mono fun v hv=>hv.cons⟩)
  ·cases a with
   | nil =>
    simp only [List.nil_append,List.cons.injEq] at e
    obtain ⟨rfl,rfl⟩:=e
    refine .inr (.inl ⟨by simp,h1.mono fun v hv=>?_⟩)
    rcases hv with hv | hv | hv
    ·exact .inl hv
    ·simp at hv
    ·exact .inr ⟨[],acc,rfl,hv⟩
   | cons z a =>
    simp only [List.cons_append,List.cons.injEq] at e
    obtain ⟨rfl,rfl⟩:=e
    refine .inr (.inr ⟨a,b,rfl,h1.mono fun v hv=>?_⟩)
    rcases hv with hv | hv | hv
    ·exact .inl hv
    ·rcases List.mem_cons.1 hv with rfl | hv
     ·exact .inr (.inr (by simp))
     ·exact .inr (.inl hv)
    ·exact .inr (.inr (by simp [hv]))
theorem ordLoop_back {g:List (List Int)} (hv:ValidG g):∀ (k:Nat) (seen:List Bool) (st:List (Int × Int)) (acc r:List Int),OI g seen st acc->BJ g (st.map (·.1)) acc->ordLoop g k seen st acc=some r->Back g r
 | 0,_,_,_,_,_,_,e=>by simp [ordLoop] at e
 | k+1,seen,[],acc,r,h,hb,e=>by
  simp only [ordLoop,Option.some.injEq] at e
  subst e
  intro u hu s hs
  rcases hb.fin u hu s hs with h1 | h1 | ⟨a,b,e,_⟩
  ·exact .inl h1
  ·exact .inr h1
  ·simp at e
 | k+1,seen,(n,i) :: st,acc,r,h,hb,e=>by
  have hn:=h.rng n (by simp)
  have hi:=h.ix (n,i) (by simp)
  simp only [succs] at hi
  unfold ordLoop at e
  rw [if_pos hn] at e
  by_cases h1:i=(g.getD n.toNat []).length
  ·rw [if_pos h1] at e
   split at e
   ·refine ordLoop_back hv k _ _ _ r (h.pop h1) (BJ.pop hb fun s hs=>?_) e
    obtain ⟨j,hj⟩:=List.mem_iff_getElem?.1 hs
    have hjl:=(List.getElem?_eq_some_iff.1 hj).1
    rcases h.cur [] _ _ rfl j s (by simp only [succs] at hjl ⊢;omega) hj with h2 | h2 | h2
    ·exact .inl h2
    ·exact .inr (by simpa using h2.2)
    ·simp at h2
   ·cases e
  ·have hi1:i < (succs g n).length:=by unfold succs;omega
   obtain ⟨s,hs⟩:∃ s,(succs g n)[i.toNat]?=some s:=⟨_,List.getElem?_eq_getElem (by omega)⟩
   have hsm:=succs_mem hv (List.mem_of_getElem? hs)
   have hsg:(g.getD n.toNat []).getD i.toNat 0=s:=by rw [List.getD_eq_getElem?_getD (l:=g.getD n.toNat [])];unfold succs at hs;rw [hs];rfl
   rw [if_neg h1,if_pos ⟨hi.1,by omega⟩,hsg,if_pos ⟨hsm.1,by rw [h.len];exact hsm.2⟩] at e
   by_cases hseen:seen.getD s.toNat false=true
   ·rw [if_pos hseen] at e
    exact ordLoop_back hv k _ _ _ r (h.next hi1 hs ((h.sn s hsm.1 hsm.2).1 hseen)) hb e
   ·rw [if_neg hseen] at e
    have hseen':seen.getD s.toNat false=false:=by simpa using hseen
    split at e
    ·exact ordLoop_back hv k _ _ _ r (h.push hv hi1 hs hseen') (BJ.push hb (List.mem_of_getElem? hs)) e
    ·cases e
theorem order_back {g:List (List Int)} (hv:ValidG g) {r:List Int} (h:OrderIs g r):Back g r:=by
 obtain ⟨h0,_,_,⟨k,e⟩,_⟩:=h
 refine ordLoop_back hv k _ _ _ r (OI.init h0) ⟨fun a x y b e=>?_,by simp⟩ e
 cases a with
 | nil=>simp at e
 | cons z a=>simp at e
theorem Via.head {g:List (List Int)} {X:Int->Prop} {a b:Int} (h:Via g X a b):a=b∨∃ c,c∈succs g a/\Via g X c b:=by
 induction h with
 | refl=>exact .inl rfl
 | step _ hc hx ih =>
  rcases ih with rfl | ⟨d,h1,h2⟩
  ·exact .inr ⟨_,hc,.refl hx⟩
  ·exact .inr ⟨d,h1,h2.step hc hx⟩
theorem Via.reach {g:List (List Int)} {X:Int->Prop} {a b:Int} (h:Via g X a b):Reach g a b:=by
 induction h with
 | refl=>exact .refl _
 | step _ hc _ ih=>exact ih.step hc
def RedC (g:List (List Int)):Prop:=Cl g fun _=>True
theorem redG_of {g:List (List Int)} {r:List Int} {m:List (Int × Int)} {p:List (List Int)} (hV:ViewOk g r m p) (hB:Back g r) (h:RedC g):RedG g r m:=fun u hu s hs hle=>by
 have hpos:∀ a b x y,r=a++x :: b->y∈b->mI0 m x < mI0 m y:=fun a b x y e hy=>by
  have h1:=hV.pos_pw
  rw [e] at h1
  exact (List.pairwise_cons.1 (List.pairwise_append.1 h1).2.1).1 y hy
 rcases hB u hu s hs with ⟨a,b,e,hb⟩ | ⟨hsr,hvia⟩
 ·have:=hpos a b u s e hb;omega
 ·have hpre:∀ a b c,Via g (Aft r s) b c->b∈succs g a->Aft r s a->Via g (Aft r s) a c:=fun a b c h1 h2 h3=>by
   induction h1 with
   | refl h=>exact .step (.refl h3) h2 h
   | step _ hc hx ih=>exact ih.step hc hx
  have hX:∀ a b,Via g (Aft r s) a b->Via g (Aft r s) s a->Via g (Aft r s) b u->Via g (fun v=>Via g (Aft r s) s v/\Via g (Aft r s) v u) a b:=fun a b hab hsa=>by
   induction hab with
   | refl _=>exact fun h=>.refl ⟨hsa,h⟩
   | @step b c hab hc hx ih=>exact fun h=>(ih (hpre b c u h hc hab.right)).step hc ⟨(hsa.trans hab).step hc hx,h⟩
  obtain ⟨z,⟨hz1,hz2⟩,hz⟩:=h (fun v=>Via g (Aft r s) s v/\Via g (Aft r s) v u) (fun a ha=>⟨trivial,(hV.ord.reach s hsr).trans ha.1.reach⟩) ⟨⟨s,.refl hvia.left,hvia⟩,fun a b ⟨ha1,ha2⟩ ⟨hb1,hb2⟩=>by
   have hsb:=hX s b hb1 (.refl hvia.left) hb2
   rcases ha2.head with rfl | ⟨c,hc,hcu⟩
   ·exact ⟨s,hs,hsb⟩
   ·have h1:=hX c u hcu (ha1.step hc hcu.left) (.refl hvia.right)
    exact ⟨c,hc,h1.trans (.trans (.step (.refl h1.right) hs ⟨.refl hvia.left,hvia⟩) hsb)⟩⟩
  rcases hz1.right with rfl | ⟨a,b,e,hb⟩
  ·exact hz u ⟨hvia,.refl hvia.right⟩
  ·have h1:=hpos a b s z e hb
   have h2:=((hz s ⟨.refl hvia.left,hvia⟩).le hV s hsr).2
   omega
def insI (x:Int):List Int->List Int
 | []=>[x]
 | y :: l=>if x<=y then x :: y :: l else y :: insI x l
def isort (xs:List Int):List Int:=xs.foldr insI []
theorem insI_perm (x:Int):∀ l,(insI x l).Perm (x :: l)
 | []=>List.Perm.refl _
 | y :: l=>by
  unfold insI
  split
  ·exact List.Perm.refl _
  ·exact ((insI_perm x l).cons y).trans (List.Perm.swap x y l)
theorem insI_sorted (x:Int):∀ l,l.Pairwise (·<=·)->(insI x l).Pairwise (·<=·)
 | [],_=>by simp [insI]
 | y :: l,h=>by
  obtain ⟨h1,h2⟩:=List.pairwise_cons.1 h
  unfold insI
  split
  ·next hxy =>
   refine List.pairwise_cons.2 ⟨fun z hz=>?_,h⟩
   rcases List.mem_cons.1 hz with rfl | hz
   ·exact hxy
   ·have:=h1 z hz;omega
  ·next hxy =>
   refine List.pairwise_cons.2 ⟨fun z hz=>?_,insI_sorted x l h2⟩
   rcases List.mem_cons.1 ((insI_perm x l).mem_iff.1 hz) with rfl | hz
   ·omega
   ·exact h1 z hz
theorem isort_perm:∀ xs,(isort xs).Perm xs
 | []=>List.Perm.refl _
 | x :: xs=>(insI_perm x _).trans ((isort_perm xs).cons x)
theorem isort_sorted:∀ xs,(isort xs).Pairwise (·<=·)
 | []=>List.Pairwise.nil
 | x :: xs=>insI_sorted x _ (isort_sorted xs)
theorem sortI_perm' (xs:List Int):(sortI xs).Perm xs:=List.mergeSort_perm _ _
theorem sortI_sorted (xs:List Int):(sortI xs).Pairwise (·<=·):=by
 have:=List.pairwise_mergeSort (le:=fun (x y:Int)=>decide (x<=y)) (fun a b c h1 h2=>by simp at *;omega) (fun a b=>by simp;omega) xs
 exact this.imp (fun h=>by simpa using h)
theorem sortI_isort:sortI=isort:=by
 funext xs
 exact List.Perm.eq_of_pairwise (le:=fun x y:Int=>x<=y) (fun a b _ _ h1 h2=>Int.le_antisymm h1 h2) (sortI_sorted xs) (isort_sorted xs) ((sortI_perm' xs).trans (isort_perm xs).symm)
section
variable (srt : List Int → List Int)
def tarVisitG (succ:List (List Int)) (set:List (Int × Bool)):Nat->Tar->Int->Option Tar
 | 0,_,_=>none
 | k+1,s,n =>
  if (0<=n/\n < succ.length)/\s.st.length<=1000000 then
   (tarKids set (tarVisitG succ set k) n (succ.getD n.toNat []) { idx:=mput s.idx n s.idx.length,low:=mput s.low n s.idx.length,st:=s.st++[n],on:=mput s.on n true,out:=s.out }).bind fun s =>
    if mI0 s.low n=mI0 s.idx n then
     if s.st.idxOf n < s.st.length/\s.st.length<=1000000/\s.out.length<=1000000 then
      some { s with st:=s.st.take (s.st.idxOf n),on:=(s.st.drop (s.st.idxOf n)).foldl (fun m x=>mput m x false) s.on,out:=if 1 < (s.st.drop (s.st.idxOf n)).length∨(succ.getD n.toNat []).contains n=true then s.out++[srt (s.st.drop (s.st.idxOf n))] else s.out }
     else none
    else some s
  else none
def tarAllG (succ:List (List Int)) (set:List (Int × Bool)) (k:Nat):List Int->Tar->Option Tar
 | [],s=>some s
 | n :: l,s=>if mget s.idx n=none then (tarVisitG srt succ set k s n).bind fun s'=>tarAllG succ set k l s' else tarAllG succ set k l s
def partsG (k:Nat) (succ:List (List Int)) (set:List (Int × Bool)):Option (List (List Int)) :=
 (tarAllG srt succ set k (srt (set.map (·.1))) { idx:=[],low:=[],st:=[],on:=[],out:=[] }).map (·.out)
def copyG (s:Sp) (nodes inside:List (Int × Bool)) (es:List Int):Option (Option (Sp × List (Int × Bool))) :=
 if nodes.length<=1000000/\0<=s.copies/\s.copies<=1000000000/\es.length<=1000000 then
  if s.budget < s.copies+nodes.length then some none
  else (copyAdd s.succ.length (srt (nodes.map (·.1))) 0 [] [] s.succ s.node).bind fun q =>
   if q.2.2.1.length<=1000000/\(∀ l∈q.2.2.1,l.length<=1000000000) then
    some (some ({ succ:=redAll q.1 inside es s.succ.length q.2.2.1,node:=q.2.2.2,copies:=s.copies+nodes.length,budget:=s.budget },q.2.1))
   else none
 else none
def splitPartsG (sp:Sp->List (Int × Bool)->Option (Option Sp)) (k:Nat):List (List Int)->Sp->Option (Option Sp)
 | [],s=>some (some s)
 | part :: ps,s =>
  if part.length<=1000000/\s.succ.length<=1000000/\(∀ l∈s.succ,l.length<=1000000000) then
   (entriesF k s.succ part (setF (-1) part [])).bind fun es =>
    match es with
    | []=>splitPartsG sp k ps s
    | head :: others =>
     (match others with
      | []=>some (some s)
      | o :: os =>
       (reachLoop s.succ (setF head part []) k [] (o :: os).reverse).bind fun reach =>
        (copyG srt s reach (setF (-1) part []) (o :: os)).bind fun c =>
         match c with
         | none=>some none
         | some (s1,copied)=>sp s1 copied).bind fun r =>
      match r with
      | none=>some none
      | some s1 =>
       (sp s1 (setF head part [])).bind fun r2 =>
        match r2 with
        | none=>some none
        | some s2=>splitPartsG sp k ps s2
  else none
def splitG:Nat->Sp->List (Int × Bool)->Option (Option Sp)
 | 0,_,_=>none
 | k+1,s,nodes =>
  if nodes.length<=1000000/\s.succ.length<=1000000/\(∀ l∈s.succ,l.length<=1000000000) then
   (partsG srt k s.succ nodes).bind fun ps=>if ps.length<=1000000 then splitPartsG srt (splitG k) k ps s else none
  else none
end
theorem tarVisitG_eq (succ:List (List Int)) (set:List (Int × Bool)):∀ k,tarVisitG sortI succ set k=tarVisit succ set k
 | 0=>rfl
 | k+1=>by
  funext s n
  unfold tarVisitG tarVisit
  rw [tarVisitG_eq succ set k]
theorem tarAllG_eq (succ:List (List Int)) (set:List (Int × Bool)) (k:Nat):∀ l s,tarAllG sortI succ set k l s=tarAll succ set k l s
 | [],_=>rfl
 | n :: l,s=>by
  unfold tarAllG tarAll
  rw [tarVisitG_eq]
  simp only [tarAllG_eq succ set k l]
theorem partsG_eq (k:Nat) (succ:List (List Int)) (set:List (Int × Bool)):partsG sortI k succ set=partsF k succ set:=by
 unfold partsG partsF
 rw [tarAllG_eq]
theorem copyG_eq (s:Sp) (nodes inside:List (Int × Bool)) (es:List Int):copyG sortI s nodes inside es=copyF s nodes inside es:=rfl
theorem splitPartsG_eq (sp:Sp->List (Int × Bool)->Option (Option Sp)) (k:Nat):∀ ps s,splitPartsG sortI sp k ps s=splitParts sp k ps s
 | [],_=>rfl
 | p :: ps,s=>by
  unfold splitPartsG splitParts
  simp only [splitPartsG_eq sp k ps,copyG_eq]
  rfl
theorem splitG_eq:∀ k,splitG sortI k=splitF k
 | 0=>rfl
 | k+1=>by
  funext s nodes
  unfold splitG splitF
  simp only [splitG_eq k,partsG_eq,splitPartsG_eq]
theorem split_eval (k:Nat) (s:Sp) (nodes:List (Int × Bool)):splitF k s nodes=splitG isort k s nodes:=by rw [<-splitG_eq,sortI_isort]
end Go.Proofs.Ytfiiihpdekppiaa
end
