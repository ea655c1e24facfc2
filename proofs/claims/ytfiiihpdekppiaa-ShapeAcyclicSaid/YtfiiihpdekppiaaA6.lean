/- A part of the proof that vellumlaw12.ShapeAcyclic is true for every input: walks of functions that the row reaches and plain laws that they need. Conditions: none. Joined by merge.py out of T5 T6 S6 T10 T11 L0 B3; a part that began as a print is named P or W there and is trimmed. -/
import Derived.Test.YtfiiihpdekppiaaA1
import Derived.Test.YtfiiihpdekppiaaA5
import Derived.Ground.Names2Prog
import Derived.Shelf.Sort.Plain
import Derived.Shelf.Slices.Reverse
import Derived.Shelf.Slices.Clone
import Derived.Shelf.Slices.In.SortNone
import Derived.Test.YtfiiihpdekppiaaProg
set_option linter.unusedVariables false
set_option linter.unusedSimpArgs false
section
namespace Go.Proofs.Ytfiiihpdekppiaa
open Go.RowKit Go.Proofs Go.Proofs.YtfiiihpdekppiaaW.PrintWords
section
variable {g : List (List Int)} {r : List Int} {m : List (Int × Int)} {p : List (List Int)} {S0 S1 cur : List Int}
def Low (m:List (Int × Int)) (S0:List Int) (n q c:Int):Prop:=Anc S0 c q/\mI0 m c < mI0 m n/\∀ c',Anc S0 c' q->mI0 m c' < mI0 m n->Anc S0 c' c
def Eqn (p:List (List Int)) (m:List (Int × Int)) (S0 S1:List Int) (n:Int):Prop :=
 ∀ x,x≠n->(Anc S1 x n↔(∀ q∈p.getD n.toNat [],mI0 m q < mI0 m n->Anc S1 x q)/\(∀ q∈p.getD n.toNat [],mI0 m n<=mI0 m q->inT S0 q->∃ c,Low m S0 n q c/\Anc S1 x c))
theorem par_set {n d:Int} (hn:0<=n/\n < S0.length) (a:Int) (ha:0<=a):par (S0.set n.toNat d) a=if a=n then d else par S0 a:=by
 unfold par
 rw [List.getD_eq_getElem?_getD,List.getElem?_set]
 by_cases e:a=n
 ·subst e;rw [if_pos rfl,if_pos (by omega),if_pos rfl];rfl
 ·rw [if_neg (by omega),if_neg e,List.getD_eq_getElem?_getD]
theorem inT_par {idom:List Int} {a:Int}:inT idom a↔0<=a/\a < idom.length/\0<=par idom a:=Iff.rfl
theorem anc_zero_iff {x:Int}:Anc S0 x 0↔x=0:=by
 constructor
 ·intro h1;cases h1 with
  | refl=>rfl
  | step _ h0=>exact absurd rfl h0
 ·rintro rfl;exact .refl
theorem anc_iff {x a:Int} (h0:a≠0):Anc S0 x a↔x=a∨Anc S0 x (par S0 a):=by
 constructor
 ·intro h1;cases h1 with
  | refl=>exact .inl rfl
  | step h _=>exact .inr h
 ·rintro (rfl | h)
  ·exact .refl
  ·exact .step h h0
theorem TreeOkT.ind (h:TreeOkT g r m S0) (hV:ViewOk g r m p) {C:Int->Prop} (h0:C 0) (hs:∀ a,inT S0 a->a≠0->C (par S0 a)->C a):∀ a,inT S0 a->C a:=by
 have:∀ (k:Nat) (a:Int),mI0 m a < k->inT S0 a->C a:=by
  intro k
  induction k with
  | zero=>intro a hk ha;have:=(hV.pos_lt (h.out _ ha)).1;omega
  | succ k ih =>
   intro a hk ha
   by_cases e:a=0
   ·rw [e];exact h0
   ·obtain ⟨h1,h2⟩:=h.up _ ha e
    exact hs a ha e (ih _ (by omega) h1)
 intro a ha
 exact this (mI0 m a).toNat.succ a (by omega) ha
theorem anc_agree (h:TreeOkT g r m S0) (hV:ViewOk g r m p) {P:Int} (ha:∀ a,inT S0 a->mI0 m a<=P->par S1 a=par S0 a) {x:Int}:∀ (a:Int),inT S0 a->mI0 m a<=P->(Anc S1 x a↔Anc S0 x a):=by
 refine h.ind hV ?_ ?_
 ·intro _;rw [anc_zero_iff,anc_zero_iff]
 ·intro a haT e ih hP
  obtain ⟨h1,h2⟩:=h.up _ haT e
  rw [anc_iff e,anc_iff e,ha a haT hP,ih (by omega)]
theorem low_ex (h:TreeOkT g r m cur) (hV:ViewOk g r m p) {n:Int} (hn:0 < mI0 m n) (hag:∀ a,inT cur a->mI0 m n<=mI0 m a->par cur a=par S0 a) :
  ∀ q,inT cur q->∃ c,inT cur c/\Low m S0 n q c/\∀ x,mI0 m x < mI0 m n->(Anc cur x q↔Anc cur x c):=by
 have base:∀ q,inT cur q->mI0 m q < mI0 m n->∃ c,inT cur c/\Low m S0 n q c/\∀ x,mI0 m x < mI0 m n->(Anc cur x q↔Anc cur x c):=fun q hq hlt=>⟨q,hq,⟨.refl,hlt,fun c' hc _=>hc⟩,fun x _=>Iff.rfl⟩
 refine h.ind hV (base 0 h.root (by rw [hV.pos_zero];exact hn)) ?_
 intro q hq e ih
 by_cases hlt:mI0 m q < mI0 m n
 ·exact base q hq hlt
 ·obtain ⟨c,h1,⟨h2,h3,h4⟩,h5⟩:=ih
  have he:=hag q hq (by omega)
  rw [he] at h2 h4
  refine ⟨c,h1,⟨.step h2 e,h3,fun c' hc hlt'=>h4 c' ?_ hlt'⟩,fun x hx=>?_⟩
  ·rcases (anc_iff e).1 hc with rfl | hc
   ·omega
   ·exact hc
  ·rw [anc_iff e,<-h5 x hx]
   constructor
   ·rintro (rfl | h6)
    ·omega
    ·exact h6
   ·exact .inr
theorem TreeOkT.low_uniq (h:TreeOkT g r m S0) (hV:ViewOk g r m p) {n q c c':Int} (hq:inT S0 q) (h1:Low m S0 n q c) (h2:Low m S0 n q c'):c=c':=by
 have h3:=h1.2.2 c' h2.1 h2.2.1
 have h4:=h2.2.2 c h1.1 h1.2.1
 have h5:=(h.anc_le h1.1 hq).2
 have h6:=(h.anc_le h2.1 hq).2
 exact hV.pos_inj (h.out _ h5) (h.out _ h6) (Int.le_antisymm (h.anc_le h4 h6).1 (h.anc_le h3 h5).1)
theorem ViewOk.fwd (h:ViewOk g r m p) {n:Int} (hn:n∈r) (h0:n≠0):∃ q∈p.getD n.toNat [],q∈r/\mI0 m q < mI0 m n:=by
 obtain ⟨u,h1,a,b,e,h2⟩:=h.ord.tree n hn h0
 have hu:u∈r:=by rw [e];simp [h2]
 refine ⟨u,(h.preds _ _).2 ⟨hu,by have:=(h.ord.rng n hn).1;rw [Int.toNat_of_nonneg this];exact h1⟩,hu,?_⟩
 have hnd:=h.ord.nd
 rw [h.pos hu,h.pos hn]
 rw [e] at hnd ⊢
 have hna:n ∉ a:=fun hc=>by
  have:=(List.nodup_append.1 hnd).2.2 n hc n (by simp)
  exact this rfl
 rw [List.idxOf_append,if_pos h2,List.idxOf_append,if_neg hna,List.idxOf_cons_self]
 have:=List.idxOf_lt_length_of_mem h2
 omega
structure PassI (g:List (List Int)) (r:List Int) (m:List (Int × Int)) (p:List (List Int)) (S0:List Int) (rest:List Int) (cur:List Int):Prop where
 tree:TreeOkT g r m cur
 zero:par cur 0=0
 old:∀ a:Int,0<=a->a < g.length->a=0∨a ∉ r∨a∈rest->par cur a=par S0 a
 new:∀ n∈r,n≠0->n ∉ rest->inT cur n/\Eqn p m S0 cur n
theorem pass_step (hV:ViewOk g r m p) {done rest:List Int} {n:Int} (hT0:TreeOkT g r m S0) (hr:r=done++n :: rest) (hn0:n≠0) (h:PassI g r m p S0 (n :: rest) cur) :
  (0<=n/\n < cur.length)/\(treeB r m cur=true/\∀ q∈p.getD n.toNat [],0<=q/\q < cur.length)/\PassI g r m p S0 rest (cur.set n.toNat (foldT r m cur (p.getD n.toNat [])))/\0<=foldT r m cur (p.getD n.toNat []):=by
 have hnr:n∈r:=by rw [hr];simp
 have hn:=hV.ord.rng n hnr
 have hnd:=hV.ord.nd
 have hlen:=h.tree.len
 have hB:=h.tree.treeB hV h.zero
 have hps:∀ q∈p.getD n.toNat [],q∈r:=fun q hq=>((hV.preds _ _).1 hq).1
 have hpr:∀ q∈p.getD n.toNat [],0<=q/\q < cur.length:=fun q hq=>by have:=hV.ord.rng q (hps q hq);omega
 have hnp:0 < mI0 m n:=hV.pos_pos hnr hn0
 have hahead:∀ a∈r,(a∈n :: rest↔mI0 m n<=mI0 m a):=fun a ha=>by
  have hna:n ∉ done:=fun hc=>by rw [hr] at hnd;exact (List.nodup_append.1 hnd).2.2 n hc n (by simp) rfl
  rw [hV.pos hnr,hV.pos ha,hr,List.idxOf_append,if_neg hna,List.idxOf_cons_self,List.idxOf_append]
  by_cases had:a∈done
  ·rw [if_pos had]
   have h1:=List.idxOf_lt_length_of_mem had
   have h2:a ∉ n :: rest:=fun hc=>by rw [hr] at hnd;exact (List.nodup_append.1 hnd).2.2 a had a hc rfl
   constructor
   ·intro h3;exact absurd h3 h2
   ·intro h3;omega
  ·rw [if_neg had]
   have h2:a∈n :: rest:=by rw [hr] at ha;simpa [had] using ha
   constructor
   ·intro _;omega
   ·intro _;exact h2
 have hold:∀ a,inT cur a->mI0 m n<=mI0 m a->par cur a=par S0 a:=fun a ha hle=>by
  have har:=h.tree.out a ha
  have:=hV.ord.rng a har
  exact h.old a this.1 this.2 (.inr (.inr ((hahead a har).2 hle)))
 obtain ⟨q0,hq0,hq0r,hq0l⟩:=hV.fwd hnr hn0
 have hq0T:inT cur q0:=by
  by_cases e:q0=0
  ·rw [e];exact h.tree.root
  ·exact (h.new q0 hq0r e (fun hc=>by have:=(hahead q0 hq0r).1 hc;omega)).1
 obtain ⟨d,hd⟩:∃ d,d=foldT r m cur (p.getD n.toNat []):=⟨_,rfl⟩
 rcases fold_spec h.tree hV hB (p.getD n.toNat []) (-1) (.inl rfl) hpr with ⟨_,_,e3⟩ | ⟨hdT,hdA⟩
 ·exact absurd hq0T (e3 q0 hq0)
 change inT cur (foldT r m cur (p.getD n.toNat [])) at hdT
 change ∀ x,Anc cur x (foldT r m cur (p.getD n.toNat []))↔_ at hdA
 rw [<-hd] at hdT hdA ⊢
 have hdl:mI0 m d < mI0 m n:=by
  have:=(h.tree.anc_le (((hdA d).1 .refl).2 q0 hq0 hq0T) hq0T).1
  omega
 have hnc:0<=n/\n < cur.length:=by omega
 have hps2:∀ a,0<=a->par (cur.set n.toNat d) a=if a=n then d else par cur a:=fun a ha=>par_set hnc a ha
 have hT2:∀ a,inT (cur.set n.toNat d) a↔inT cur a∨a=n:=fun a=>by
  rw [inT_par,inT_par,List.length_set]
  constructor
  ·rintro ⟨h1,h2,h3⟩
   rw [hps2 a h1] at h3
   by_cases e:a=n
   ·exact .inr e
   ·rw [if_neg e] at h3;exact .inl ⟨h1,h2,h3⟩
  ·rintro (⟨h1,h2,h3⟩ | rfl)
   ·refine ⟨h1,h2,?_⟩
    rw [hps2 a h1]
    split
    ·exact hdT.1
    ·exact h3
   ·refine ⟨hnc.1,hnc.2,?_⟩
    rw [hps2 a hnc.1,if_pos rfl];exact hdT.1
 have hag:∀ a,inT cur a->mI0 m a<=mI0 m n - 1->par (cur.set n.toNat d) a=par cur a:=fun a ha hle=>by
  rw [hps2 a ha.1,if_neg (fun e=>by rw [e] at hle;omega)]
 have hA:∀ x a,inT cur a->mI0 m a < mI0 m n->(Anc (cur.set n.toNat d) x a↔Anc cur x a):=fun x a ha hl=>anc_agree h.tree hV hag a ha (by omega)
 have hTree:TreeOkT g r m (cur.set n.toNat d):=by
  refine ⟨by rw [List.length_set];exact hlen,fun a ha=>?_,fun a ha ha0=>?_,(hT2 0).2 (.inl h.tree.root),fun a h0 hl hna=>?_⟩
  ·rcases (hT2 a).1 ha with h1 | rfl
   ·exact h.tree.out a h1
   ·exact hnr
  ·rw [hps2 a ha.1]
   by_cases e:a=n
   ·rw [if_pos e,e];exact ⟨(hT2 _).2 (.inl hdT),hdl⟩
   ·rw [if_neg e]
    have h1:=((hT2 a).1 ha).resolve_right e
    have h2:=h.tree.up a h1 ha0
    exact ⟨(hT2 _).2 (.inl h2.1),h2.2⟩
  ·rw [hT2] at hna
   rw [hps2 a h0,if_neg (fun e=>hna (.inr e))]
   exact h.tree.neg a h0 hl (fun e=>hna (.inl e))
 refine ⟨hnc,⟨hB,hpr⟩,⟨hTree,?_,fun a h0 hl hc=>?_,fun a ha ha0 hc=>?_⟩,hdT.1⟩
 ·rw [hps2 0 (Int.le_refl _),if_neg (fun e=>hn0 e.symm)];exact h.zero
 ·have hne:a≠n:=by
   rintro rfl
   rcases hc with hc | hc | hc
   ·exact hn0 hc
   ·exact hc hnr
   ·rw [hr] at hnd
    exact (List.nodup_cons.1 (List.nodup_append.1 hnd).2.1).1 hc
  rw [hps2 a h0,if_neg hne]
  refine h.old a h0 hl ?_
  rcases hc with hc | hc | hc
  ·exact .inl hc
  ·exact .inr (.inl hc)
  ·exact .inr (.inr (by simp [hc]))
 ·by_cases e:a=n
  ·subst e
   refine ⟨(hT2 a).2 (.inr rfl),fun x hx=>?_⟩
   rw [anc_iff hn0,hps2 a hnc.1,if_pos rfl,hA x d hdT hdl,hdA x]
   have hor:(x=a∨(-1=(-1:Int)∨Anc cur x (-1))/\∀ q∈p.getD a.toNat [],inT cur q->Anc cur x q)↔∀ q∈p.getD a.toNat [],inT cur q->Anc cur x q:=⟨fun h=>(h.resolve_left hx).2,fun h=>.inr ⟨.inl rfl,h⟩⟩
   rw [hor]
   have hfT:∀ q∈p.getD a.toNat [],mI0 m q < mI0 m a->inT cur q:=fun q hq hl=>by
    by_cases e:q=0
    ·rw [e];exact h.tree.root
    ·exact (h.new q (hps q hq) e (fun hc=>by have:=(hahead q (hps q hq)).1 hc;omega)).1
   have hTS:∀ q,q∈r->mI0 m a<=mI0 m q->(inT cur q↔inT S0 q):=fun q hq hle=>by
    have h1:=hV.ord.rng q hq
    have h2:=h.old q h1.1 h1.2 (.inr (.inr ((hahead q hq).2 hle)))
    rw [inT_par,inT_par,h2]
    constructor
    ·rintro ⟨h3,h4,h5⟩
     exact ⟨h3,by rw [hT0.len];omega,h5⟩
    ·rintro ⟨h3,h4,h5⟩
     exact ⟨h3,by omega,h5⟩
   constructor
   ·intro hall
    refine ⟨fun q hq hl=>(hA x q (hfT q hq hl) hl).2 (hall q hq (hfT q hq hl)),fun q hq hle hqT=>?_⟩
    have hqT':=(hTS q (hps q hq) hle).2 hqT
    obtain ⟨c,c1,c2,c3⟩:=low_ex h.tree hV hnp hold q hqT'
    have hxq:=hall q hq hqT'
    have hxl:mI0 m x < mI0 m a:=by
     have:=(h.tree.anc_le (hall q0 hq0 hq0T) hq0T).1
     omega
    exact ⟨c,c2,(hA x c c1 c2.2.1).2 ((c3 x hxl).1 hxq)⟩
   ·rintro ⟨h1,h2⟩ q hq hqT
    rcases Int.lt_or_le (mI0 m q) (mI0 m a) with hl | hle
    ·exact (hA x q hqT hl).1 (h1 q hq hl)
    ·obtain ⟨c,c1,c2,c3⟩:=low_ex h.tree hV hnp hold q hqT
     have hqT0:=(hTS q (hps q hq) hle).1 hqT
     obtain ⟨c',d1,d2⟩:=h2 q hq hle hqT0
     obtain rfl:c'=c:=hT0.low_uniq hV hqT0 d1 c2
     have hxl:mI0 m x < mI0 m a:=by
      have:=(hTree.anc_le d2 ((hT2 _).2 (.inl c1))).1
      have:=c2.2.1
      omega
     exact (c3 x hxl).2 ((hA x c' c1 c2.2.1).1 d2)
  ·have h1:=h.new a ha ha0 (by simp [e,hc])
   have hal:mI0 m a < mI0 m n:=by
    rcases Int.lt_or_le (mI0 m a) (mI0 m n) with h2 | h2
    ·exact h2
    ·exact absurd ((hahead a ha).2 h2) (by simp [e,hc])
   have hT3:∀ q∈r,mI0 m q < mI0 m a->inT cur q:=fun q hq hl=>by
    by_cases e:q=0
    ·rw [e];exact h.tree.root
    ·exact (h.new q hq e (fun hc=>by have:=(hahead q hq).1 hc;omega)).1
   have hps3:∀ q∈p.getD a.toNat [],q∈r:=fun q hq=>((hV.preds _ _).1 hq).1
   refine ⟨(hT2 a).2 (.inl h1.1),fun x hx=>?_⟩
   rw [hA x a h1.1 hal,h1.2 x hx]
   constructor
   ·rintro ⟨h2,h3⟩
    refine ⟨fun q hq hl=>(hA x q (hT3 q (hps3 q hq) hl) (by omega)).2 (h2 q hq hl),fun q hq hle hqT=>?_⟩
    obtain ⟨c,c1,c2⟩:=h3 q hq hle hqT
    have hcT:=(hT0.anc_le c1.1 hqT).2
    exact ⟨c,c1,(hA x c (hT3 c (hT0.out c hcT) c1.2.1) (by have:=c1.2.1;omega)).2 c2⟩
   ·rintro ⟨h2,h3⟩
    refine ⟨fun q hq hl=>(hA x q (hT3 q (hps3 q hq) hl) (by omega)).1 (h2 q hq hl),fun q hq hle hqT=>?_⟩
    obtain ⟨c,c1,c2⟩:=h3 q hq hle hqT
    have hcT:=(hT0.anc_le c1.1 hqT).2
    exact ⟨c,c1,(hA x c (hT3 c (hT0.out c hcT) c1.2.1) (by have:=c1.2.1;omega)).1 c2⟩
end
inductive RA (g:List (List Int)) (x:Int):Int->Int->Prop
 | refl {a:Int} (h:a≠x):RA g x a a
 | step {a b c:Int}:RA g x a b->c∈succs g b->c≠x->RA g x a c
theorem RA.ne {g:List (List Int)} {x a b:Int} (h:RA g x a b):b≠x:=by cases h <;> assumption
def Dm (g:List (List Int)) (x n:Int):Prop:=¬ RA g x 0 n
section
variable {g : List (List Int)} {r : List Int} {m : List (Int × Int)} {p : List (List Int)} {S0 S1 S2 cur : List Int}
theorem ViewOk.pos_nn (h:ViewOk g r m p) (x:Int):0<=mI0 m x:=by
 unfold mI0
 rw [h.att]
 split <;> simp
theorem domPass_ok (hV:ViewOk g r m p) (hT0:TreeOkT g r m S0):∀ (rest done:List Int) (cur:List Int) (ch:Bool),r=done++rest->(0:Int) ∉ rest->PassI g r m p S0 rest cur ->
  (ch=false->cur=S0)->(ch=true->∃ n∈r,n≠0/\n ∉ rest/\par cur n≠par S0 n) ->
  ∃ S1 ch',domPass r m p rest cur ch=some (S1,ch')/\PassI g r m p S0 [] S1/\(ch'=false->S1=S0)/\(ch'=true->∃ n∈r,n≠0/\par S1 n≠par S0 n)
 | [],done,cur,ch,hr,h0,h,h1,h2=>⟨cur,ch,rfl,h,h1,fun e=>by obtain ⟨n,a,b,_,c⟩:=h2 e;exact ⟨n,a,b,c⟩⟩
 | n :: rest,done,cur,ch,hr,h0,h,h1,h2=>by
  have hn0:n≠0:=fun e=>h0 (by simp [e])
  obtain ⟨a1,a2,a3,a4⟩:=pass_step hV hT0 hr hn0 h
  have hnr:n∈r:=by rw [hr];simp
  have hnd:=hV.ord.nd
  rw [hr] at hnd
  have hnrest:n ∉ rest:=(List.nodup_cons.1 (List.nodup_append.1 hnd).2.1).1
  unfold domPass
  rw [if_pos a1,if_pos a2]
  have hpn:par cur n=par S0 n:=h.old n (hV.ord.rng n hnr).1 (hV.ord.rng n hnr).2 (.inr (.inr (by simp)))
  by_cases e:cur.getD n.toNat 0=foldT r m cur (p.getD n.toNat [])
  ·rw [if_pos e]
   have hset:cur.set n.toNat (foldT r m cur (p.getD n.toNat []))=cur:=by
    rw [<-e]
    apply List.ext_getElem?
    intro i
    rw [List.getElem?_set]
    split
    ·next hi =>
     subst hi
     rw [if_pos (by omega),List.getD_eq_getElem?_getD,List.getElem?_eq_getElem (by omega)];rfl
    ·rfl
   rw [hset] at a3
   exact domPass_ok hV hT0 rest (done++[n]) cur ch (by rw [hr];simp) (fun hc=>h0 (by simp [hc])) a3 h1 (fun hc=>by
    obtain ⟨x,b1,b2,b3,b4⟩:=h2 hc
    exact ⟨x,b1,b2,fun hx=>b3 (by simp [hx]),b4⟩)
  ·rw [if_neg e]
   refine domPass_ok hV hT0 rest (done++[n]) _ true (by rw [hr];simp) (fun hc=>h0 (by simp [hc])) a3 (fun hc=>by cases hc) (fun _=>⟨n,hnr,hn0,hnrest,?_⟩)
   rw [par_set a1 n a1.1,if_pos rfl,<-hpn]
   exact fun h=>e h.symm
structure Pass (g:List (List Int)) (r:List Int) (m:List (Int × Int)) (p:List (List Int)) (S0 S1:List Int):Prop where
 tree:TreeOkT g r m S1
 zero:par S1 0=0
 full:∀ n∈r,inT S1 n
 eqn:∀ n∈r,n≠0->Eqn p m S0 S1 n
theorem pass_ok (hV:ViewOk g r m p) (hT0:TreeOkT g r m S0) (hz:par S0 0=0):∃ S1 ch,domPass r m p r.tail S0 false=some (S1,ch)/\Pass g r m p S0 S1/\(ch=false->S1=S0)/\(ch=true->∃ n∈r,n≠0/\par S1 n≠par S0 n):=by
 obtain ⟨t,e⟩:=hV.ord.root
 have hnd:=hV.ord.nd
 rw [e] at hnd
 obtain ⟨S1,ch,h1,h2,h3,h4⟩:=domPass_ok hV hT0 t [0] S0 false e (List.nodup_cons.1 hnd).1 ⟨hT0,hz,fun _ _ _ _=>rfl,fun n hn h0 hnt=>by
  rw [e] at hn;exact absurd ((List.mem_cons.1 hn).resolve_left h0) hnt⟩ (fun _=>rfl) (fun h=>by cases h)
 refine ⟨S1,ch,by rw [e] at h1 ⊢;exact h1,⟨h2.tree,h2.zero,fun n hn=>?_,fun n hn h0=>(h2.new n hn h0 (by simp)).2⟩,h3,h4⟩
 by_cases h0:n=0
 ·rw [h0];exact h2.tree.root
 ·exact (h2.new n hn h0 (by simp)).1
theorem Pass.fwd (h:Pass g r m p S0 S1) {x n q:Int} (hn:n∈r) (h0:n≠0) (hx:x≠n) (ha:Anc S1 x n) (hq:q∈p.getD n.toNat []) (hl:mI0 m q < mI0 m n):Anc S1 x q:=((h.eqn n hn h0 x hx).1 ha).1 q hq hl
theorem ViewOk.ind (h:ViewOk g r m p) {C:Int->Prop} (hs:∀ n∈r,(∀ q∈r,mI0 m q < mI0 m n->C q)->C n):∀ n∈r,C n:=by
 have:∀ (k:Nat) (n:Int),n∈r->mI0 m n < k->C n:=by
  intro k
  induction k with
  | zero=>intro n hn hk;have:=(h.pos_lt hn).1;omega
  | succ k ih=>intro n hn hk;exact hs n hn (fun q hq hl=>ih q hq (by omega))
 intro n hn
 exact this (mI0 m n).toNat.succ n hn (by have:=(h.pos_lt hn).1;omega)
theorem key (hV:ViewOk g r m p) (hF0:∀ x n q,n∈r->n≠0->x≠n->Anc S0 x n->q∈p.getD n.toNat []->mI0 m q < mI0 m n->Anc S0 x q) (h0T:TreeOkT g r m S0) (h0f:∀ n∈r,inT S0 n) (h1:Pass g r m p S1 S2) {x c:Int} (hl:mI0 m x < mI0 m c) :
  ∀ n∈r,Anc S2 x n->Anc S0 c n->Anc S2 x c:=by
 refine hV.ind fun n hn ih hx hc=>?_
 by_cases e:c=n
 ·rw [e];exact hx
 ·have hn0:n≠0:=fun h=>e (by rw [h] at hc ⊢;exact anc_zero_iff.1 hc)
  obtain ⟨q,hq,hqr,hql⟩:=hV.fwd hn hn0
  have hcq:=hF0 c n q hn hn0 e hc hq hql
  have hcl:=(h0T.anc_le hc (h0f n hn)).1
  have hxn:x≠n:=fun h=>by rw [h] at hl;omega
  exact ih q hqr hql (h1.fwd hn hn0 hxn hx hq hql) hcq
def Sub (r:List Int) (S1 S0:List Int):Prop:=∀ n∈r,∀ x,Anc S1 x n->Anc S0 x n
theorem sub_first (hV:ViewOk g r m p) (hi:∀ a,inT S0 a->a=0) (h1:Pass g r m p S0 S1) (h2:Pass g r m p S1 S2):Sub r S2 S1:=by
 refine hV.ind fun n hn ih x hx=>?_
 by_cases e:x=n
 ·rw [e];exact .refl
 ·by_cases hn0:n=0
  ·rw [hn0] at hx ⊢;exact anc_zero_iff.2 (anc_zero_iff.1 hx)
  ·refine (h1.eqn n hn hn0 x e).2 ⟨fun q hq hl=>ih q ((hV.preds _ _).1 hq).1 hl x (h2.fwd hn hn0 e hx hq hl),fun q hq hle hqT=>?_⟩
   have:=hi q hqT
   rw [this,hV.pos_zero] at hle
   have:=hV.pos_pos hn hn0
   omega
theorem sub_next (hV:ViewOk g r m p) (h0T:TreeOkT g r m S0) (h0f:∀ n∈r,inT S0 n) (hF0:∀ x n q,n∈r->n≠0->x≠n->Anc S0 x n->q∈p.getD n.toNat []->mI0 m q < mI0 m n->Anc S0 x q)
  (h1:Pass g r m p S0 S1) (h2:Pass g r m p S1 S2) (hs:Sub r S1 S0):Sub r S2 S1:=by
 refine hV.ind fun n hn ih x hx=>?_
 by_cases e:x=n
 ·rw [e];exact .refl
 ·by_cases hn0:n=0
  ·rw [hn0] at hx ⊢;exact anc_zero_iff.2 (anc_zero_iff.1 hx)
  ·have he:=(h2.eqn n hn hn0 x e).1 hx
   refine (h1.eqn n hn hn0 x e).2 ⟨fun q hq hl=>ih q ((hV.preds _ _).1 hq).1 hl x (he.1 q hq hl),fun q hq hle hqT=>?_⟩
   have hqr:=((hV.preds _ _).1 hq).1
   obtain ⟨c,⟨c1,c2,c3⟩,c4⟩:=he.2 q hq hle (h1.full q hqr)
   obtain ⟨c',d1,d2,_⟩:=low_ex (S0:=S0) h0T hV (hV.pos_pos hn hn0) (fun _ _ _=>rfl) q hqT
   have hcr:=h1.tree.out c (h1.tree.anc_le c1 (h1.full q hqr)).2
   have hxc:Anc S1 x c:=ih c hcr c2 x c4
   have hxq:Anc S1 x q:=hxc.trans c1
   have hcc:Anc S0 c c':=d2.2.2 c (hs q hqr c c1) c2
   have hle2:=(h0T.anc_le hcc d1).1
   have hxl:=(h1.tree.anc_le hxc (h1.full c hcr)).1
   refine ⟨c',d2,?_⟩
   by_cases exc:mI0 m x < mI0 m c'
   ·exact key hV hF0 h0T h0f h1 exc q hqr hxq d2.1
   ·have hxr:=h1.tree.out x (h1.tree.anc_le hxc (h1.full c hcr)).2
    have:x=c':=hV.pos_inj hxr (h0T.out _ d1) (by omega)
    rw [this];exact .refl
def weight (r:List Int) (m:List (Int × Int)) (S:List Int):Nat:=(r.map fun n=>(mI0 m (par S n)).toNat).sum
theorem sum_le {α:Type}:∀ (l:List α) (f h:α->Nat),(∀ x∈l,f x<=h x)->(l.map f).sum<=(l.map h).sum
 | [],_,_,_=>Nat.le_refl _
 | a :: l,f,h,hle=>by
  simp only [List.map_cons,List.sum_cons]
  have h1:=hle a (by simp)
  have:=sum_le l f h (fun x hx=>hle x (by simp [hx]))
  omega
theorem sum_lt {α:Type}:∀ (l:List α) (f h:α->Nat),(∀ x∈l,f x<=h x)->(∃ x∈l,f x < h x)->(l.map f).sum < (l.map h).sum
 | [],_,_,_,h=>by obtain ⟨_,h,_⟩:=h;simp at h
 | a :: l,f,h,hle,⟨x,hx,hlt⟩=>by
  simp only [List.map_cons,List.sum_cons]
  have h1:=hle a (by simp)
  have hle':∀ x∈l,f x<=h x:=fun x hx=>hle x (by simp [hx])
  rcases List.mem_cons.1 hx with rfl | hx
  ·have:=sum_le l f h hle'
   omega
  ·have:=sum_lt l f h hle' ⟨x,hx,hlt⟩
   omega
theorem weight_lt (hV:ViewOk g r m p) (h1:Pass g r m p S0 S1) (h2:Pass g r m p S1 S2) (hs:Sub r S2 S1) (hc:∃ n∈r,n≠0/\par S2 n≠par S1 n):weight r m S2 < weight r m S1:=by
 have hle:∀ n∈r,n≠0->Anc S1 (par S2 n) (par S1 n)/\inT S1 (par S1 n)/\par S2 n∈r:=fun n hn h0=>by
  have ha:Anc S2 (par S2 n) n:=.step .refl h0
  have h3:=hs n hn _ ha
  have hne:par S2 n≠n:=fun e=>by have:=(h2.tree.up n (h2.full n hn) h0).2;rw [e] at this;omega
  exact ⟨(h1.tree.anc_lt h3 (h1.full n hn) hne).2.2,(h1.tree.up n (h1.full n hn) h0).1,h2.tree.out _ (h2.tree.up n (h2.full n hn) h0).1⟩
 refine sum_lt r _ _ (fun n hn=>?_) ?_
 ·by_cases h0:n=0
  ·rw [h0,h1.zero,h2.zero];exact Nat.le_refl _
  ·obtain ⟨a,b,_⟩:=hle n hn h0
   have:=(h1.tree.anc_le a b).1
   omega
 ·obtain ⟨n,hn,h0,hne⟩:=hc
  obtain ⟨a,b,c⟩:=hle n hn h0
  have h3:=(h1.tree.anc_lt a b hne).1
  have:=(hV.pos_lt c).1
  exact ⟨n,hn,by omega⟩
theorem Pass.hF (h:Pass g r m p S0 S1):∀ x n q,n∈r->n≠0->x≠n->Anc S1 x n->q∈p.getD n.toNat []->mI0 m q < mI0 m n->Anc S1 x q:=fun _ _ _ hn h0 hx ha hq hl=>h.fwd hn h0 hx ha hq hl
def Sound (g:List (List Int)) (r S:List Int):Prop:=∀ n∈r,inT S n->∀ x,Dm g x n->Anc S x n
theorem Dm.pred (hV:ViewOk g r m p) {x n q:Int} (h:Dm g x n) (hx:x≠n) (hq:q∈p.getD n.toNat []) (hn:n∈r):Dm g x q:=fun hc=>by
 have:=((hV.preds _ _).1 hq).2
 rw [Int.toNat_of_nonneg (hV.ord.rng n hn).1] at this
 exact h (.step hc this (fun e=>hx e.symm))
theorem Dm.le (hV:ViewOk g r m p) {x:Int}:∀ n∈r,Dm g x n->x∈r/\mI0 m x<=mI0 m n:=by
 refine hV.ind fun n hn ih h=>?_
 by_cases e:x=n
 ·rw [e];exact ⟨hn,Int.le_refl _⟩
 ·by_cases h0:n=0
  ·exact absurd (RA.refl (fun h'=>e (by rw [h0];exact h'.symm))) (by rw [h0] at h;exact h)
  ·obtain ⟨q,hq,hqr,hql⟩:=hV.fwd hn h0
   have:=ih q hqr hql (h.pred hV e hq hn)
   exact ⟨this.1,by omega⟩
theorem sound_next (hV:ViewOk g r m p) (h0T:TreeOkT g r m S0) (hFR:∀ x c n,n∈r->inT S0 n->Anc S0 c n->mI0 m x < mI0 m c->RA g x 0 c->RA g x 0 n) (h1:Pass g r m p S0 S1) (hs:Sound g r S0):Sound g r S1:=by
 have:∀ n∈r,∀ x,Dm g x n->Anc S1 x n:=by
  refine hV.ind fun n hn ih x hx=>?_
  by_cases e:x=n
  ·rw [e];exact .refl
  ·by_cases hn0:n=0
   ·exact absurd (RA.refl (fun h'=>e (by rw [hn0];exact h'.symm))) (by rw [hn0] at hx;exact hx)
   ·obtain ⟨q0,hq0,hq0r,hq0l⟩:=hV.fwd hn hn0
    have hxl:mI0 m x < mI0 m n:=by have:=((hx.pred hV e hq0 hn).le hV q0 hq0r).2;omega
    refine (h1.eqn n hn hn0 x e).2 ⟨fun q hq hl=>ih q ((hV.preds _ _).1 hq).1 hl x (hx.pred hV e hq hn),fun q hq hle hqT=>?_⟩
    have hqr:=((hV.preds _ _).1 hq).1
    have hdq:=hx.pred hV e hq hn
    obtain ⟨c,d1,d2,_⟩:=low_ex (S0:=S0) h0T hV (hV.pos_pos hn hn0) (fun _ _ _=>rfl) q hqT
    have hxq:=hs q hqr hqT x hdq
    have hxc:=d2.2.2 x hxq hxl
    refine ⟨c,d2,?_⟩
    have hcr:=h0T.out _ d1
    by_cases exc:x=c
    ·rw [exc];exact .refl
    ·have hlt:=(h0T.anc_lt hxc d1 exc).1
     exact ih c hcr d2.2.1 x (fun hra=>hdq (hFR x c q hqr hqT d2.1 hlt hra))
 exact fun n hn _ x hx=>this n hn x hx
theorem hFR_pass (hV:ViewOk g r m p) (h:Pass g r m p S0 S1):∀ x c n,n∈r->inT S1 n->Anc S1 c n->mI0 m x < mI0 m c->RA g x 0 c->RA g x 0 n:=by
 intro x c n hn _ hc hl hra
 have:∀ n∈r,Anc S1 c n->RA g x 0 n:=by
  refine hV.ind fun n hn ih hc=>?_
  by_cases e:c=n
  ·rw [<-e];exact hra
  ·have hn0:n≠0:=fun h=>e (by rw [h] at hc ⊢;exact anc_zero_iff.1 hc)
   obtain ⟨q,hq,hqr,hql⟩:=hV.fwd hn hn0
   have h3:=ih q hqr hql (h.fwd hn hn0 e hc hq hql)
   have h4:=((hV.preds _ _).1 hq).2
   rw [Int.toNat_of_nonneg (hV.ord.rng n hn).1] at h4
   refine h3.step h4 (fun e2=>?_)
   have:=(h.tree.anc_le hc (h.full n hn)).1
   rw [e2] at this
   omega
 exact this n hn hc
structure DomOk (g:List (List Int)) (r:List Int) (m:List (Int × Int)) (p:List (List Int)) (d:List Int):Prop where
 view:ViewOk g r m p
 tree:TreeOkT g r m d
 zero:par d 0=0
 full:∀ n∈r,inT d n
 dom:∀ n∈r,∀ x,Anc d x n↔Dm g x n
theorem fix_dom (hV:ViewOk g r m p) (h:Pass g r m p S1 S1) (hs:Sound g r S1):DomOk g r m p S1:=by
 refine ⟨hV,h.tree,h.zero,h.full,fun n hn x=>⟨fun ha hra=>?_,fun hd=>hs n hn (h.full n hn) x hd⟩⟩
 have:∀ a b,RA g x a b->a=0->b∈r->Anc S1 x b->False:=by
  intro a b hra
  induction hra with
  | refl hne=>intro h0 _ h2;rw [h0] at hne h2;exact hne (anc_zero_iff.1 h2).symm
  | @step b c h1 h2 h3 ih =>
   intro h0 hcr hac
   have hbr:b∈r:=by
    have:∀ a b,RA g x a b->a∈r->b∈r:=by
     intro a b h
     induction h with
     | refl _=>exact fun h=>h
     | step _ hc _ ih=>exact fun h=>hV.ord.closed _ (ih h) _ hc
    exact this _ _ h1 (by rw [h0];exact hV.zero_mem)
   refine ih h0 hbr ?_
   by_cases hc0:c=0
   ·rw [hc0] at hac;exact absurd (by rw [hc0];exact (anc_zero_iff.1 hac).symm) h3
   ·have hbp:b∈p.getD c.toNat []:=(hV.preds _ _).2 ⟨hbr,by rw [Int.toNat_of_nonneg (hV.ord.rng c hcr).1];exact h2⟩
    have he:=(h.eqn c hcr hc0 x (fun e=>h3 e.symm)).1 hac
    rcases Int.lt_or_le (mI0 m b) (mI0 m c) with hl | hle
    ·exact he.1 b hbp hl
    ·obtain ⟨d,d1,d2⟩:=he.2 b hbp hle (h.full b hbr)
     exact d2.trans d1.1
 exact this 0 n hra rfl hn ha
theorem domLoop_ok (hV:ViewOk g r m p):∀ (k:Nat) (S0 S1:List Int),TreeOkT g r m S0->Pass g r m p S0 S1->(∀ a,inT S0 a->a=0)∨(Sub r S1 S0/\(∀ n∈r,inT S0 n)/\∀ x n q,n∈r->n≠0->x≠n->Anc S0 x n->q∈p.getD n.toNat []->mI0 m q < mI0 m n->Anc S0 x q) ->
  Sound g r S1->weight r m S1 < k->∃ d,domLoop r m p k S1=some d/\DomOk g r m p d
 | 0,_,_,_,_,_,_,hk=>by omega
 | k+1,S0,S1,h0T,h1,hor,hs,hk=>by
  obtain ⟨S2,ch,a1,a2,a3,a4⟩:=pass_ok hV h1.tree h1.zero
  unfold domLoop
  rw [a1]
  simp only [Option.bind_some]
  have hsub:Sub r S2 S1:=by
   rcases hor with hi | ⟨b1,b2,b3⟩
   ·exact sub_first hV hi h1 a2
   ·exact sub_next hV h0T b2 b3 h1 a2 b1
  cases ch with
  | false =>
   have e:=a3 rfl
   subst e
   exact ⟨S2,by simp,fix_dom hV a2 hs⟩
  | true =>
   rw [if_pos rfl]
   have hw:=weight_lt hV h1 a2 hsub (a4 rfl)
   exact domLoop_ok hV k S1 S2 h1.tree a2 (.inr ⟨hsub,h1.full,h1.hF⟩) (sound_next hV h1.tree (hFR_pass hV h1) a2 hs) (by omega)
theorem doms_ok (hV:ViewOk g r m p) (h0:0 < g.length):∃ k d,domsF k r m p g.length=some d/\DomOk g r m p d:=by
 have hpar:∀ a:Int,0<=a->a < g.length->par ((List.replicate g.length (-1)).set 0 0) a=if a=0 then 0 else -1:=fun a ha hl=>by
  have:=par_set (S0:=List.replicate g.length (-1)) (n:=0) (d:=0) (by simp;omega) a ha
  rw [Int.toNat_zero] at this
  rw [this]
  split
  ·rfl
  ·unfold par
   rw [List.getD_eq_getElem?_getD,List.getElem?_replicate,if_pos (by omega)];rfl
 have hi:∀ a,inT ((List.replicate g.length (-1)).set 0 0) a->a=0:=fun a ha=>by
  rw [inT_par] at ha
  obtain ⟨h1,h2,h3⟩:=ha
  simp only [List.length_set,List.length_replicate] at h2
  rw [hpar a h1 h2] at h3
  split at h3
  ·assumption
  ·omega
 have hT0:TreeOkT g r m ((List.replicate g.length (-1)).set 0 0):=by
  refine ⟨by simp,fun a ha=>?_,fun a ha h=>absurd (hi a ha) h,?_,fun a h1 h2 h3=>?_⟩
  ·rw [hi a ha];exact hV.zero_mem
  ·rw [inT_par]
   refine ⟨Int.le_refl _,by simp;omega,?_⟩
   rw [hpar 0 (Int.le_refl _) (by omega)];decide
  ·rw [hpar a h1 h2,if_neg]
   rintro rfl
   apply h3
   rw [inT_par]
   refine ⟨Int.le_refl _,by simp;omega,?_⟩
   rw [hpar 0 (Int.le_refl _) (by omega)];decide
 have hz:par ((List.replicate g.length (-1)).set 0 0) 0=0:=by rw [hpar 0 (Int.le_refl _) (by omega)];rfl
 obtain ⟨S1,ch,a1,a2,a3,a4⟩:=pass_ok hV hT0 hz
 have hs1:Sound g r S1:=by
  refine sound_next hV hT0 ?_ a2 ?_
  ·intro x c n hn hT hc hl _
   have:=hi n hT
   rw [this] at hc
   have:=anc_zero_iff.1 hc
   rw [this,hV.pos_zero] at hl
   have:=hV.pos_nn x
   omega
  ·intro n hn hT x hx
   rw [hi n hT] at hx ⊢
   exact anc_zero_iff.2 (Classical.byContradiction fun e=>hx (.refl (fun h=>e h.symm)))
 cases ch with
 | false =>
  have e:=a3 rfl
  subst e
  exact ⟨1,_,by unfold domsF domLoop;rw [a1];simp,fix_dom hV a2 hs1⟩
 | true =>
  obtain ⟨d,b1,b2⟩:=domLoop_ok hV (weight r m S1+1) _ S1 hT0 a2 (.inl hi) hs1 (by omega)
  refine ⟨weight r m S1+2,d,?_,b2⟩
  unfold domsF domLoop
  rw [a1]
  simpa using b1
end
end Go.Proofs.Ytfiiihpdekppiaa
end
section
namespace Go.Proofs.Ytfiiihpdekppiaa
structure Sp where
 succ:List (List Int)
 node:List Int
 copies:Int
 budget:Int
def redM (tom:List (Int × Int)) (want:Int->Bool) (m:Int):Int :=
 match mget tom m with
 | some c=>if want m then c else m
 | none=>m
def copyAdd (first:Nat):List Int->Nat->List (Int × Int)->List (Int × Bool)->List (List Int)->List Int->Option (List (Int × Int) × List (Int × Bool) × List (List Int) × List Int)
 | [],_,tom,out,succ,node=>some (tom,out,succ,node)
 | n :: r,k,tom,out,succ,node =>
  if (0<=n/\n < succ.length)/\n < node.length/\(k+first<=1000000/\succ.length<=1000000/\node.length<=1000000)/\(succ.getD n.toNat []).length<=1000000000 then
   copyAdd first r (k+1) (mput tom n (first+k)) (mput out (first+k) true) (succ++[succ.getD n.toNat []]) (node++[node.getD n.toNat 0])
  else none
def redRow (tom:List (Int × Int)) (inside:List (Int × Bool)) (es:List Int) (first n:Nat) (l:List Int):List Int :=
 if first<=n then l.map (redM tom fun _=>true) else if mB0 inside n then l else l.map (redM tom fun m=>es.contains m)
def redAll (tom:List (Int × Int)) (inside:List (Int × Bool)) (es:List Int) (first:Nat) (succ:List (List Int)):List (List Int):=succ.mapIdx (redRow tom inside es first)
def copyF (s:Sp) (nodes inside:List (Int × Bool)) (es:List Int):Option (Option (Sp × List (Int × Bool))) :=
 if nodes.length<=1000000/\0<=s.copies/\s.copies<=1000000000/\es.length<=1000000 then
  if s.budget < s.copies+nodes.length then some none
  else (copyAdd s.succ.length (sortI (nodes.map (·.1))) 0 [] [] s.succ s.node).bind fun q =>
   if q.2.2.1.length<=1000000/\(∀ l∈q.2.2.1,l.length<=1000000000) then
    some (some ({ succ:=redAll q.1 inside es s.succ.length q.2.2.1,node:=q.2.2.2,copies:=s.copies+nodes.length,budget:=s.budget },q.2.1))
   else none
 else none
def splitParts (sp:Sp->List (Int × Bool)->Option (Option Sp)) (k:Nat):List (List Int)->Sp->Option (Option Sp)
 | [],s=>some (some s)
 | part :: ps,s =>
  if part.length<=1000000/\s.succ.length<=1000000/\(∀ l∈s.succ,l.length<=1000000000) then
   (entriesF k s.succ part (setF (-1) part [])).bind fun es =>
    match es with
    | []=>splitParts sp k ps s
    | head :: others =>
     (match others with
      | []=>some (some s)
      | o :: os =>
       (reachLoop s.succ (setF head part []) k [] (o :: os).reverse).bind fun reach =>
        (copyF s reach (setF (-1) part []) (o :: os)).bind fun c =>
         match c with
         | none=>some none
         | some (s1,copied)=>sp s1 copied).bind fun r =>
      match r with
      | none=>some none
      | some s1 =>
       (sp s1 (setF head part [])).bind fun r2 =>
        match r2 with
        | none=>some none
        | some s2=>splitParts sp k ps s2
  else none
def splitF:Nat->Sp->List (Int × Bool)->Option (Option Sp)
 | 0,_,_=>none
 | k+1,s,nodes =>
  if nodes.length<=1000000/\s.succ.length<=1000000/\(∀ l∈s.succ,l.length<=1000000000) then
   (partsF k s.succ nodes).bind fun ps=>if ps.length<=1000000 then splitParts (splitF k) k ps s else none
  else none
end Go.Proofs.Ytfiiihpdekppiaa
end
section
namespace Go.Proofs.Ytfiiihpdekppiaa
open Go.RowKit Go.Proofs Go.Proofs.YtfiiihpdekppiaaW.PrintWords
def keys {β:Type} (l:List (Int × β)):List Int:=l.map (·.1)
theorem mget_keys {β:Type} {l:List (Int × β)} {k:Int}:mget l k≠none↔k∈keys l:=by
 induction l with
 | nil=>simp [mget,keys]
 | cons p l ih =>
  have e:keys (p :: l)=p.1 :: keys l:=rfl
  rw [e,List.mem_cons,<-ih]
  by_cases h:p.1=k
  ·simp [mget,h]
  ·have h':¬ k=p.1:=fun e=>h e.symm
   have e2:mget (p :: l) k=mget l k:=by unfold mget;rw [List.find?_cons,show (p.1 == k)=false by simpa using h]
   rw [e2];simp [h']
theorem mem_keys_put {β:Type} {l:List (Int × β)} {k x:Int} {v:β}:x∈keys (mput l k v)↔x=k∨x∈keys l:=by
 rw [<-mget_keys,<-mget_keys,mget_put]
 by_cases h:x=k <;> simp [h]
theorem keys_put_nodup {β:Type} {k:Int} {v:β}:∀ {l:List (Int × β)},(keys l).Nodup->(keys (mput l k v)).Nodup
 | [],_=>by simp [mput,keys]
 | p :: l,h=>by
  have h':=List.nodup_cons.1 (show (p.1 :: keys l).Nodup from h)
  unfold mput
  by_cases e:p.1=k
  ·rw [if_pos e]
   show (k :: keys l).Nodup
   rw [<-e];exact h
  ·rw [if_neg e]
   show (p.1 :: keys (mput l k v)).Nodup
   refine List.nodup_cons.2 ⟨fun hm=>?_,keys_put_nodup h'.2⟩
   rcases mem_keys_put.1 hm with h1 | h1
   ·exact e h1
   ·exact h'.1 h1
theorem mB0_put {l:List (Int × Bool)} {k j:Int} {v:Bool}:mB0 (mput l k v) j=if j=k then v else mB0 l j:=by
 unfold mB0;rw [mget_put];split <;> rfl
theorem mB0_keys {l:List (Int × Bool)} {x:Int} (h:mB0 l x=true):x∈keys l:=by
 rw [<-mget_keys];intro e;simp [mB0,e] at h
structure SetOk (l:List (Int × Bool)):Prop where
 nd:(keys l).Nodup
 yes:∀ x∈keys l,mB0 l x=true
theorem SetOk.nil:SetOk []:=⟨by simp [keys],by simp [keys]⟩
theorem SetOk.put {l:List (Int × Bool)} (h:SetOk l) (k:Int):SetOk (mput l k true):=by
 refine ⟨keys_put_nodup h.nd,fun x hx=>?_⟩
 rw [mB0_put]
 split
 ·rfl
 ·exact h.yes x ((mem_keys_put.1 hx).resolve_left ‹_›)
theorem keys_len {β:Type} (l:List (Int × β)):(keys l).length=l.length:=by simp [keys]
theorem setF_ok (wo:Int):∀ (xs:List Int) (m:List (Int × Bool)),SetOk m->SetOk (setF wo xs m)/\∀ x,x∈keys (setF wo xs m)↔(x∈xs/\x≠wo)∨x∈keys m
 | [],m,h=>⟨h,by simp [setF]⟩
 | a :: xs,m,h=>by
  by_cases e:a≠wo
  ·have:=setF_ok wo xs _ (h.put a)
   have e2:setF wo (a :: xs) m=setF wo xs (mput m a true):=by simp [setF,e]
   rw [e2]
   refine ⟨this.1,fun x=>?_⟩
   rw [this.2,mem_keys_put,List.mem_cons]
   constructor
   ·rintro (⟨h1,h2⟩ | rfl | h1)
    ·exact .inl ⟨.inr h1,h2⟩
    ·exact .inl ⟨.inl rfl,e⟩
    ·exact .inr h1
   ·rintro (⟨rfl | h1,h2⟩ | h1)
    ·exact .inr (.inl rfl)
    ·exact .inl ⟨h1,h2⟩
    ·exact .inr (.inr h1)
  ·have:=setF_ok wo xs _ h
   have e2:setF wo (a :: xs) m=setF wo xs m:=by simp only [setF,List.foldl_cons,if_neg e]
   rw [e2]
   refine ⟨this.1,fun x=>?_⟩
   rw [this.2,List.mem_cons]
   have e3:a=wo:=by simpa using e
   constructor
   ·rintro (⟨h1,h2⟩ | h1)
    ·exact .inl ⟨.inr h1,h2⟩
    ·exact .inr h1
   ·rintro (⟨rfl | h1,h2⟩ | h1)
    ·exact absurd e3 h2
    ·exact .inl ⟨h1,h2⟩
    ·exact .inr h1
section
variable {succ : List (List Int)} {set : List (Int × Bool)}
structure TI (set:List (Int × Bool)) (s:Tar):Prop where
 nd:(s.out.flatten++s.st).Nodup
 idx:∀ x∈s.out.flatten++s.st,mget s.idx x≠none/\mB0 set x=true
 ne:∀ p∈s.out,p≠[]
def un (set:List (Int × Bool)) (s:Tar):Nat:=(keys set).countP fun x=>decide (mget s.idx x=none)
structure TExt (set:List (Int × Bool)) (s s':Tar):Prop where
 ok:TI set s'
 st:∃ t,s'.st=s.st++t
 idx:∀ x,mget s.idx x≠none->mget s'.idx x≠none
theorem TExt.refl {s:Tar} (h:TI set s):TExt set s s:=⟨h,⟨[],by simp⟩,fun _ h=>h⟩
theorem TExt.trans {s s' s'':Tar} (h:TExt set s s') (h':TExt set s' s''):TExt set s s'':=by
 obtain ⟨t,e⟩:=h.st
 obtain ⟨t',e'⟩:=h'.st
 exact ⟨h'.ok,⟨t++t',by rw [e',e,List.append_assoc]⟩,fun x hx=>h'.idx x (h.idx x hx)⟩
theorem TExt.un {s s':Tar} (h:TExt set s s'):un set s'<=un set s:=by
 apply List.countP_mono_left
 intro x _ hx
 simp only [decide_eq_true_eq] at hx ⊢
 exact Classical.byContradiction fun hn=>h.idx x hn hx
theorem TI.low {s:Tar} (h:TI set s) (l:List (Int × Int)):TI set { s with low:=l }:=⟨h.nd,h.idx,h.ne⟩
theorem TExt.low {s s':Tar} (h:TExt set s s') (l:List (Int × Int)):TExt set s { s' with low:=l }:=⟨h.ok.low l,h.st,h.idx⟩
theorem flatten_len:∀ {ps:List (List Int)},(∀ p∈ps,p≠[])->ps.length<=ps.flatten.length
 | [],_=>by simp
 | p :: ps,h=>by
  have:=flatten_len fun q hq=>h q (List.mem_cons_of_mem p hq)
  have:=List.length_pos_iff.2 (h p (by simp))
  simp only [List.length_cons,List.flatten_cons,List.length_append]
  omega
theorem TI.len {s:Tar} (h:TI set s):s.out.flatten.length+s.st.length<=set.length:=by
 have:=nodup_sub_len h.nd fun x hx=>mB0_keys (h.idx x hx).2
 rw [keys_len,List.length_append] at this
 exact this
theorem tarKids_ok {k:Nat} {f:Tar->Int->Option Tar} {n:Int} (hf:∀ s m,TI set s->mget s.idx m=none->mB0 set m=true->un set s<=k->∃ s',f s m=some s'/\TExt set s s') :
  ∀ (l:List Int) (s:Tar),TI set s->un set s<=k->∃ s',tarKids set f n l s=some s'/\TExt set s s'
 | [],s,h,_=>⟨s,rfl,.refl h⟩
 | m :: l,s,h,hk=>by
  unfold tarKids
  by_cases h1:mB0 set m=false
  ·rw [if_pos h1];exact tarKids_ok hf l s h hk
  rw [if_neg h1]
  by_cases h2:mget s.idx m=none
  ·rw [if_pos h2]
   obtain ⟨s',e,hE⟩:=hf s m h h2 (by simpa using h1) hk
   rw [e]
   simp only [Option.bind_some]
   have hE':=hE.low (mput s'.low n (min (mI0 s'.low n) (mI0 s'.low m)))
   obtain ⟨s'',e',hE''⟩:=tarKids_ok hf l _ hE'.ok (Nat.le_trans hE'.un hk)
   exact ⟨s'',e',hE'.trans hE''⟩
  rw [if_neg h2]
  by_cases h3:mB0 s.on m=true
  ·rw [if_pos h3]
   have hE':=(TExt.refl h).low (mput s.low n (min (mI0 s.low n) (mI0 s.idx m)))
   obtain ⟨s'',e',hE''⟩:=tarKids_ok hf l _ hE'.ok (Nat.le_trans hE'.un hk)
   exact ⟨s'',e',hE'.trans hE''⟩
  ·rw [if_neg h3];exact tarKids_ok hf l s h hk
theorem sortI_permT (xs:List Int):(sortI xs).Perm xs:=List.mergeSort_perm _ _
theorem countP_lt {α:Type} {l:List α} {p q:α->Bool} {a:α} (h:∀ x∈l,q x=true->p x=true) (ha:a∈l) (hp:p a=true) (hq:q a=false):l.countP q < l.countP p:=by
 induction l with
 | nil=>simp at ha
 | cons b l ih =>
  have hm:=List.countP_mono_left (l:=l) (p:=q) (q:=p) fun x hx=>h x (List.mem_cons_of_mem _ hx)
  rw [List.countP_cons,List.countP_cons]
  rcases List.mem_cons.1 ha with rfl | ha'
  ·rw [hp,hq,if_pos rfl,if_neg (by simp)];omega
  ·have h1:=ih (fun x hx=>h x (List.mem_cons_of_mem _ hx)) ha'
   have h2:=h b (by simp)
   cases hqb:q b
   ·rw [if_neg (by simp)];omega
   ·rw [h2 hqb,if_pos rfl];omega
theorem tarVisit_ok (hr:∀ x,mB0 set x=true->0<=x/\x < succ.length) (hs:set.length<=1000000) :
  ∀ (k:Nat) (s:Tar) (n:Int),TI set s->mget s.idx n=none->mB0 set n=true->un set s<=k->∃ s',tarVisit succ set k s n=some s'/\TExt set s s'/\mget s'.idx n≠none
 | 0,s,n,h,h1,h2,hk=>by
  have:0 < (keys set).countP fun x=>decide (mget s.idx x=none):=List.countP_pos_iff.2 ⟨n,mB0_keys h2,by simpa using h1⟩
  unfold un at hk
  omega
 | k+1,s,n,h,h1,h2,hk=>by
  have hlen:=h.len
  have hns:n ∉ s.out.flatten++s.st:=fun hm=>(h.idx n hm).1 h1
  unfold tarVisit
  rw [if_pos ⟨hr n h2,by omega⟩]
  have T0:TI set { idx:=mput s.idx n s.idx.length,low:=mput s.low n s.idx.length,st:=s.st++[n],on:=mput s.on n true,out:=s.out }:=by
   refine ⟨?_,?_,h.ne⟩
   ·show (s.out.flatten++(s.st++[n])).Nodup
    rw [<-List.append_assoc]
    refine List.nodup_append.2 ⟨h.nd,by simp,fun a ha b hb e=>?_⟩
    rw [List.mem_singleton.1 hb] at e
    exact hns (e ▸ ha)
   ·intro x hx
    show mget (mput s.idx n _) x≠none/\_
    rw [mget_put]
    have hx':x∈s.out.flatten++s.st∨x=n:=by
     have:x∈s.out.flatten++(s.st++[n]):=hx
     rw [<-List.append_assoc,List.mem_append,List.mem_singleton] at this
     exact this
    rcases hx' with h3 | rfl
    ·refine ⟨?_,(h.idx x h3).2⟩
     split
     ·simp
     ·exact (h.idx x h3).1
    ·simp [h2]
  have hun:un set { idx:=mput s.idx n (s.idx.length:Int),low:=mput s.low n (s.idx.length:Int),st:=s.st++[n],on:=mput s.on n true,out:=s.out } < un set s:=by
   apply countP_lt (a:=n)
   ·intro x _ hx
    simp only [decide_eq_true_eq,mget_put] at hx ⊢
    split at hx
    ·simp at hx
    ·exact hx
   ·exact mB0_keys h2
   ·simpa using h1
   ·simp [mget_put]
  obtain ⟨s2,e2,E2⟩:=tarKids_ok (k:=k) (n:=n) (fun s m a b c d=>by obtain ⟨s',e,E,_⟩:=tarVisit_ok hr hs k s m a b c d;exact ⟨s',e,E⟩) (succ.getD n.toNat []) _ T0 (by omega)
  rw [e2]
  simp only [Option.bind_some]
  obtain ⟨t,et⟩:=E2.st
  have et:s2.st=s.st++(n :: t):=by simpa using et
  have hn2:mget s2.idx n≠none:=E2.idx n (by show mget (mput s.idx n _) n≠none;simp [mget_put])
  have hgrow:∀ x,mget s.idx x≠none->mget s2.idx x≠none:=fun x hx=>E2.idx x (by
   show mget (mput s.idx n _) x≠none
   rw [mget_put];split
   ·simp
   ·exact hx)
  by_cases hl:mI0 s2.low n=mI0 s2.idx n
  ·rw [if_pos hl]
   have hlen2:=E2.ok.len
   have hfl:=flatten_len E2.ok.ne
   have hix:s2.st.idxOf n=s.st.length:=by
    rw [et,List.idxOf_append,if_neg fun hm=>hns (List.mem_append.2 (.inr hm))]
    simp
   have hlt:s2.st.idxOf n < s2.st.length:=by rw [hix,et];simp
   rw [if_pos ⟨hlt,by omega,by omega⟩]
   have etk:s2.st.take (s2.st.idxOf n)=s.st:=by rw [hix,et];simp
   have edr:s2.st.drop (s2.st.idxOf n)=n :: t:=by rw [hix,et];simp
   refine ⟨_,rfl,⟨?_,⟨[],by show s2.st.take _=_;rw [etk];simp⟩,hgrow⟩,hn2⟩
   have hnd2:(s2.out.flatten++(s.st++(n :: t))).Nodup:=by rw [<-et];exact E2.ok.nd
   rw [etk,edr]
   by_cases hc:1 < (n :: t).length∨(succ.getD n.toNat []).contains n=true
   ·rw [if_pos hc]
    have hp:((s2.out++[sortI (n :: t)]).flatten++s.st).Perm (s2.out.flatten++(s.st++(n :: t))):=by
     rw [List.flatten_append,List.append_assoc]
     refine List.Perm.append_left _ ?_
     simp only [List.flatten_cons,List.flatten_nil,List.append_nil]
     exact ((sortI_permT _).append_right _).trans List.perm_append_comm
    refine ⟨hp.nodup_iff.2 hnd2,fun x hx=>?_,fun p hp=>?_⟩
    ·have:=hp.mem_iff.1 hx
     rw [<-et] at this
     exact E2.ok.idx x this
    ·rcases List.mem_append.1 hp with h3 | h3
     ·exact E2.ok.ne p h3
     ·rw [List.mem_singleton.1 h3]
      intro e
      have:=(sortI_permT (n :: t)).length_eq
      rw [e] at this
      simp at this
   ·rw [if_neg hc]
    have hsub:(s2.out.flatten++s.st).Sublist (s2.out.flatten++(s.st++(n :: t))):=List.Sublist.append_left (List.sublist_append_left _ _) _
    refine ⟨hnd2.sublist hsub,fun x hx=>?_,E2.ok.ne⟩
    have:=hsub.subset hx
    rw [<-et] at this
    exact E2.ok.idx x this
  ·rw [if_neg hl]
   exact ⟨s2,rfl,⟨E2.ok,⟨n :: t,et⟩,hgrow⟩,hn2⟩
theorem un_le (s:Tar):un set s<=set.length:=by
 have:=List.countP_le_length (p:=fun x=>decide (mget s.idx x=none)) (l:=keys set)
 rw [keys_len] at this
 exact this
theorem tarAll_ok (hr:∀ x,mB0 set x=true->0<=x/\x < succ.length) (hs:set.length<=1000000) {k:Nat} (hk:set.length<=k) :
  ∀ (l:List Int) (s:Tar),(∀ x∈l,mB0 set x=true)->TI set s->∃ s',tarAll succ set k l s=some s'/\TExt set s s'
 | [],s,_,h=>⟨s,rfl,.refl h⟩
 | n :: l,s,hl,h=>by
  unfold tarAll
  by_cases h1:mget s.idx n=none
  ·rw [if_pos h1]
   obtain ⟨s',e,E,_⟩:=tarVisit_ok hr hs k s n h h1 (hl n (by simp)) (Nat.le_trans (un_le s) hk)
   rw [e]
   simp only [Option.bind_some]
   obtain ⟨s'',e',E'⟩:=tarAll_ok hr hs hk l s' (fun x hx=>hl x (by simp [hx])) E.ok
   exact ⟨s'',e',E.trans E'⟩
  ·rw [if_neg h1]
   exact tarAll_ok hr hs hk l s (fun x hx=>hl x (by simp [hx])) h
theorem partsF_ok (hS:SetOk set) (hr:∀ x∈keys set,0<=x/\x < succ.length) (hs:set.length<=1000000) {k:Nat} (hk:set.length<=k) :
  ∃ ps,partsF k succ set=some ps/\ps.flatten.Nodup/\(∀ x∈ps.flatten,x∈keys set)/\∀ p∈ps,p≠[]:=by
 obtain ⟨s,e,E⟩:=tarAll_ok (succ:=succ) (set:=set) (fun x hx=>hr x (mB0_keys hx)) hs hk (sortI (set.map (·.1))) { idx:=[],low:=[],st:=[],on:=[],out:=[] } (fun x hx=>hS.yes x (show x∈set.map (·.1) from (sortI_permT _).mem_iff.1 hx)) ⟨by simp,by simp,by simp⟩
 refine ⟨s.out,by unfold partsF;rw [e];rfl,(List.nodup_append.1 E.ok.nd).1,fun x hx=>mB0_keys (E.ok.idx x (List.mem_append.2 (.inl hx))).2,E.ok.ne⟩
end
def cst:Nat->Nat
 | 0=>0
 | k+1=>k+2 * cst k
theorem cst_add (b:Nat):∀ a,cst a+cst b<=cst (a+b)
 | 0=>by simp [cst]
 | a+1=>by
  have:=cst_add b a
  rw [show a+1+b=(a+b)+1 by omega]
  have e1:cst (a+1)=a+2 * cst a:=rfl
  have e2:cst (a+b+1)=a+b+2 * cst (a+b):=rfl
  omega
theorem cst_mono {a b:Nat} (h:a<=b):cst a<=cst b:=by
 have:=cst_add (b - a) a
 rw [show a+(b - a)=b by omega] at this
 omega
structure SpOk (n0:Nat) (s:Sp):Prop where
 val:ValidG s.succ
 len:s.node.length=s.succ.length
 cop:0<=s.copies/\(s.succ.length:Int)=n0+s.copies
 bud:s.copies<=s.budget/\s.budget+n0<=10000
 row:∀ l∈s.succ,l.length<=1000
 nod:∀ x∈s.node,0<=x/\x < n0
theorem SpOk.size {n0:Nat} {s:Sp} (h:SpOk n0 s):s.succ.length<=10000:=by
 have:=h.cop;have:=h.bud;omega
theorem row_at {succ:List (List Int)} (h:∀ l∈succ,l.length<=1000) (n:Nat):(succ.getD n []).length<=1000:=by
 rw [List.getD_eq_getElem?_getD]
 cases e:succ[n]? with
 | none=>simp
 | some l=>exact h l (List.mem_of_getElem? e)
def unm (set out:List (Int × Bool)):Nat:=(keys set).countP fun x=>decide (mB0 out x=false)
theorem unm_le (set out:List (Int × Bool)):unm set out<=set.length:=by
 have:=List.countP_le_length (p:=fun x=>decide (mB0 out x=false)) (l:=keys set)
 rw [keys_len] at this
 exact this
theorem reachLoop_ok {succ:List (List Int)} {set:List (Int × Bool)} (hr:∀ x,mB0 set x=true->0<=x/\x < succ.length) (hrow:∀ l∈succ,l.length<=1000) :
  ∀ (k:Nat) (out:List (Int × Bool)) (st:List Int),SetOk out->st.length+1001 * unm set out < k->st.length+1000 * unm set out<=1000000000 ->
   ∃ o,reachLoop succ set k out st=some o/\SetOk o/\∀ x∈keys o,x∈keys out∨mB0 set x=true
 | 0,out,st,_,hk,_=>by omega
 | k+1,out,[],h,_,_=>⟨out,rfl,h,fun _ hx=>.inl hx⟩
 | k+1,out,n :: st,h,hk,hb=>by
  unfold reachLoop
  simp only [List.length_cons] at hk hb
  by_cases hc:mB0 set n=true/\mB0 out n=false
  ·have hl:=row_at hrow n.toNat
   have hlt:unm set (mput out n true) < unm set out:=by
    apply countP_lt (a:=n)
    ·intro x _ hx
     simp only [decide_eq_true_eq,mB0_put] at hx ⊢
     split at hx
     ·simp at hx
     ·exact hx
    ·exact mB0_keys hc.1
    ·simpa using hc.2
    ·simp [mB0_put]
   rw [if_pos hc,if_pos ⟨hr n hc.1,by omega⟩]
   obtain ⟨o,e,ho,hs⟩:=reachLoop_ok hr hrow k (mput out n true) ((succ.getD n.toNat []).reverse++st) (h.put n) (by simp only [List.length_append,List.length_reverse];omega) (by simp only [List.length_append,List.length_reverse];omega)
   refine ⟨o,e,ho,fun x hx=>?_⟩
   rcases hs x hx with h1 | h1
   ·rcases mem_keys_put.1 h1 with rfl | h2
    ·exact .inr hc.1
    ·exact .inl h2
   ·exact .inr h1
  ·rw [if_neg hc]
   exact reachLoop_ok hr hrow k out st h (by omega) (by omega)
def enough:Nat:=20000000
theorem reach_ok {succ:List (List Int)} {set:List (Int × Bool)} (hr:∀ x,mB0 set x=true->0<=x/\x < succ.length) (hrow:∀ l∈succ,l.length<=1000) (hs:set.length<=10000) {k:Nat} (hk:enough < k) (st:List Int) (hst:st.length<=10000) :
  ∃ o,reachLoop succ set k [] st=some o/\SetOk o/\∀ x∈keys o,mB0 set x=true:=by
 have hu:=unm_le set []
 have hk':20000000 < k:=hk
 obtain ⟨o,e,h1,h2⟩:=reachLoop_ok hr hrow k [] st .nil (by omega) (by omega)
 exact ⟨o,e,h1,fun x hx=>(h2 x hx).resolve_left (by simp [keys])⟩
theorem rangeI_mem {n:Nat} {x:Int}:x∈rangeI n↔0<=x/\x < n:=by
 unfold rangeI
 rw [List.mem_map]
 constructor
 ·rintro ⟨i,hi,rfl⟩
  have:=List.mem_range.1 hi
  omega
 ·intro h
  exact ⟨x.toNat,List.mem_range.2 (by omega),by omega⟩
theorem SetOk.len_le {m:List (Int × Bool)} (h:SetOk m) {xs:List Int} (hx:∀ x∈keys m,x∈xs):m.length<=xs.length:=by
 have:=nodup_sub_len h.nd hx
 rwa [keys_len] at this
theorem entries_ok {succ:List (List Int)} (hrow:∀ l∈succ,l.length<=1000) (hs:succ.length<=10000) {k:Nat} (hk:enough < k) (part:List Int) (inside:List (Int × Bool)) :
  ∃ es,entriesF k succ part inside=some es/\es.Sublist part:=by
 obtain ⟨h1,h2⟩:=setF_ok (-1) (rangeI succ.length) [] .nil
 have hm:∀ x∈keys (setF (-1) (rangeI succ.length) []),x∈rangeI succ.length:=fun x hx=>by
  rcases (h2 x).1 hx with h | h
  ·exact h.1
  ·simp [keys] at h
 have hl:=h1.len_le hm
 have hrl:(rangeI succ.length).length=succ.length:=by simp [rangeI]
 obtain ⟨o,e,_,_⟩:=reach_ok (succ:=succ) (set:=setF (-1) (rangeI succ.length) []) (fun x hx=>rangeI_mem.1 (hm x (mB0_keys hx))) hrow (by omega) hk [0] (by simp)
 exact ⟨_,by unfold entriesF;rw [e];rfl,List.filter_sublist⟩
theorem copyAdd_ok (first:Nat):∀ (ns:List Int) (i:Nat) (tom:List (Int × Int)) (out:List (Int × Bool)) (succ:List (List Int)) (node:List Int),SetOk out ->
  (∀ n∈ns,0<=n/\n < succ.length)->node.length=succ.length->first+i+ns.length<=100000->succ.length+ns.length<=100000->(∀ l∈succ,l.length<=1000) ->
  ∃ q,copyAdd first ns i tom out succ node=some q/\SetOk q.2.1/\(∀ x c,mget q.1 x=some c->mget tom x=some c∨(((first+i:Nat):Int)<=c/\c < ((first+i+ns.length:Nat):Int))) /\
   (∀ x∈keys q.2.1,x∈keys out∨(((first+i:Nat):Int)<=x/\x < ((first+i+ns.length:Nat):Int)))/\(∀ l∈q.2.2.1,l∈succ)/\q.2.2.1.length=succ.length+ns.length/\(∀ x∈q.2.2.2,x∈node)/\q.2.2.2.length=node.length+ns.length
 | [],i,tom,out,succ,node,h,_,_,_,_,_=>⟨(tom,out,succ,node),rfl,h,fun _ _ h=>.inl h,fun _ h=>.inl h,fun _ h=>h,by simp,fun _ h=>h,by simp⟩
 | n :: r,i,tom,out,succ,node,h,hn,hl,hf,hs,hrow=>by
  have hn0:=hn n (by simp)
  have hrl:=row_at hrow n.toNat
  simp only [List.length_cons] at hf hs
  unfold copyAdd
  rw [if_pos ⟨hn0,by omega,⟨by omega,by omega,by omega⟩,by omega⟩]
  have hmem:succ.getD n.toNat []∈succ:=by
   rw [List.getD_eq_getElem?_getD,List.getElem?_eq_getElem (by omega)]
   exact List.getElem_mem _
  have hmemn:node.getD n.toNat 0∈node:=by
   rw [List.getD_eq_getElem?_getD,List.getElem?_eq_getElem (by omega)]
   exact List.getElem_mem _
  have hsub:∀ l∈succ++[succ.getD n.toNat []],l∈succ:=fun l hl=>by
   rcases List.mem_append.1 hl with h1 | h1
   ·exact h1
   ·rw [List.mem_singleton.1 h1];exact hmem
  obtain ⟨q,e,q1,q2,q3,q4,q5,q6,q7⟩:=copyAdd_ok first r (i+1) (mput tom n (first+i)) (mput out (first+i) true) (succ++[succ.getD n.toNat []]) (node++[node.getD n.toNat 0]) (h.put _)
   (fun m hm=>by have:=hn m (by simp [hm]);simp only [List.length_append,List.length_singleton];omega) (by simp [hl]) (by omega) (by simp only [List.length_append,List.length_singleton];omega) (fun l hl=>hrow l (hsub l hl))
  refine ⟨q,e,q1,fun x c hx=>?_,fun x hx=>?_,fun l hl=>hsub l (q4 l hl),by rw [q5];simp;omega,fun x hx=>?_,by rw [q7];simp;omega⟩
  ·simp only [List.length_cons]
   rcases q2 x c hx with h1 | h1
   ·rw [mget_put] at h1
    split at h1
    ·right
     have:((first:Int)+i)=c:=by simpa using h1
     omega
    ·exact .inl h1
   ·right;omega
  ·simp only [List.length_cons]
   rcases q3 x hx with h1 | h1
   ·rcases mem_keys_put.1 h1 with h2 | h2
    ·right;omega
    ·exact .inl h2
   ·right;omega
  ·rcases List.mem_append.1 (q6 x hx) with h1 | h1
   ·exact h1
   ·rw [List.mem_singleton.1 h1];exact hmemn
theorem redRow_len (tom:List (Int × Int)) (inside:List (Int × Bool)) (es:List Int) (first n:Nat) (l:List Int):(redRow tom inside es first n l).length=l.length:=by
 unfold redRow
 split
 ·simp
 ·split <;> simp
theorem redRow_mem {tom:List (Int × Int)} {inside:List (Int × Bool)} {es:List Int} {first n:Nat} {l:List Int} {x:Int} (h:x∈redRow tom inside es first n l):x∈l∨∃ m,mget tom m=some x:=by
 have key:∀ (want:Int->Bool),x∈l.map (redM tom want)->x∈l∨∃ m,mget tom m=some x:=fun want hx=>by
  obtain ⟨m,hm,e⟩:=List.mem_map.1 hx
  unfold redM at e
  split at e
  ·split at e
   ·subst e;exact .inr ⟨m,‹_›⟩
   ·subst e;exact .inl hm
  ·subst e;exact .inl hm
 unfold redRow at h
 split at h
 ·exact key _ h
 ·split at h
  ·exact .inl h
  ·exact key _ h
theorem copyF_ok {n0:Nat} {s:Sp} (h:SpOk n0 s) {nodes:List (Int × Bool)} (hN:SetOk nodes) (hr:∀ x∈keys nodes,0<=x/\x < s.succ.length) (inside:List (Int × Bool)) (es:List Int) (hes:es.length<=10000) :
  (copyF s nodes inside es=some none/\s.budget < s.copies+nodes.length) ∨
  ∃ s' copied,copyF s nodes inside es=some (some (s',copied))/\SpOk n0 s'/\s'.budget=s.budget/\s'.copies=s.copies+nodes.length/\SetOk copied/\copied.length<=nodes.length/\∀ x∈keys copied,0<=x/\x < s'.succ.length:=by
 have hsz:=h.size
 have hcop:=h.cop
 have hbud:=h.bud
 have hnl:nodes.length<=10000:=by
  have:=hN.len_le (xs:=rangeI s.succ.length) fun x hx=>rangeI_mem.2 (hr x hx)
  have hrl:(rangeI s.succ.length).length=s.succ.length:=by simp [rangeI]
  omega
 unfold copyF
 rw [if_pos ⟨by omega,by omega,by omega,by omega⟩]
 by_cases hb:s.budget < s.copies+nodes.length
 ·exact .inl ⟨by rw [if_pos hb],hb⟩
 right
 rw [if_neg hb]
 have hkl:(sortI (nodes.map (·.1))).length=nodes.length:=by rw [(sortI_permT _).length_eq];simp
 obtain ⟨q,e,q1,q2,q3,q4,q5,q6,q7⟩:=copyAdd_ok s.succ.length (sortI (nodes.map (·.1))) 0 [] [] s.succ s.node .nil (fun n hn=>hr n (show n∈nodes.map (·.1) from (sortI_permT _).mem_iff.1 hn)) h.len (by omega) (by omega) h.row
 rw [e]
 simp only [Option.bind_some]
 rw [hkl] at q2 q3 q5 q7
 rw [if_pos ⟨by omega,fun l hl=>by have:=h.row l (q4 l hl);omega⟩]
 have hlen:(redAll q.1 inside es s.succ.length q.2.2.1).length=s.succ.length+nodes.length:=by simp [redAll,q5]
 refine ⟨_,_,rfl,⟨?_,?_,⟨by show 0<=s.copies+_;omega,?_⟩,⟨by show s.copies+_<=s.budget;omega,hbud.2⟩,?_,fun x hx=>h.nod x (q6 x hx)⟩,rfl,rfl,q1,?_,?_⟩
 ·intro l hl x hx
  show 0<=x/\x < ((redAll q.1 inside es s.succ.length q.2.2.1).length:Int)
  rw [hlen]
  obtain ⟨i,hi,rfl⟩:=List.mem_mapIdx.1 (show l∈q.2.2.1.mapIdx (redRow q.1 inside es s.succ.length) from hl)
  rcases redRow_mem hx with h1 | ⟨m,hm⟩
  ·have:=h.val _ (q4 _ (List.getElem_mem hi)) x h1
   omega
  ·rcases q2 m x hm with h1 | h1
   ·simp [mget] at h1
   ·omega
 ·show q.2.2.2.length=(redAll q.1 inside es s.succ.length q.2.2.1).length
  rw [hlen,q7,h.len]
 ·show ((redAll q.1 inside es s.succ.length q.2.2.1).length:Int)=n0+(s.copies+nodes.length)
  rw [hlen]
  have:=hcop.2
  omega
 ·intro l hl
  obtain ⟨i,hi,rfl⟩:=List.mem_mapIdx.1 (show l∈q.2.2.1.mapIdx (redRow q.1 inside es s.succ.length) from hl)
  rw [redRow_len]
  exact h.row _ (q4 _ (List.getElem_mem hi))
 ·have hx:∀ x∈keys q.2.1,x∈(rangeI nodes.length).map fun j=>(s.succ.length:Int)+j:=fun x hx=>by
   rcases q3 x hx with h1 | h1
   ·simp [keys] at h1
   ·exact List.mem_map.2 ⟨x - s.succ.length,rangeI_mem.2 (by omega),by omega⟩
  have:=q1.len_le hx
  simpa [rangeI] using this
 ·intro x hx
  show 0<=x/\x < ((redAll q.1 inside es s.succ.length q.2.2.1).length:Int)
  rw [hlen]
  rcases q3 x hx with h1 | h1
  ·simp [keys] at h1
  ·omega
def Res (n0:Nat) (s:Sp) (c:Nat) (r:Option Sp):Prop :=
 (r=none/\s.budget < s.copies+c)∨∃ s',r=some s'/\SpOk n0 s'/\s'.budget=s.budget/\s.copies<=s'.copies/\s'.copies<=s.copies+c
theorem Res.mono {n0:Nat} {s:Sp} {a b:Nat} {r:Option Sp} (h:Res n0 s a r) (hab:a<=b):Res n0 s b r:=by
 rcases h with ⟨h1,h2⟩ | ⟨s',h1,h2,h3,h4,h5⟩
 ·exact .inl ⟨h1,by omega⟩
 ·exact .inr ⟨s',h1,h2,h3,h4,by omega⟩
theorem Res.andThen {n0:Nat} {s s':Sp} {a b:Nat} {r:Option Sp} (hb:s'.budget=s.budget) (hc:s.copies<=s'.copies/\s'.copies<=s.copies+a) (h:Res n0 s' b r):Res n0 s (a+b) r:=by
 rcases h with ⟨h1,h2⟩ | ⟨s'',h1,h2,h3,h4,h5⟩
 ·exact .inl ⟨h1,by omega⟩
 ·exact .inr ⟨s'',h1,h2,by omega,by omega,by omega⟩
theorem SpOk.grown {n0:Nat} {s s':Sp} (h:SpOk n0 s) (h':SpOk n0 s') (hc:s.copies<=s'.copies) {x:Int} (hx:0<=x/\x < s.succ.length):0<=x/\x < s'.succ.length:=by
 have:=h.cop.2;have:=h'.cop.2;omega
theorem without {head:Int} {part:List Int} (hnd:part.Nodup) (hh:head∈part):SetOk (setF head part [])/\(∀ x∈keys (setF head part []),x∈part/\x≠head)/\∀ m:List (Int × Bool),SetOk m->(∀ x∈keys m,x∈part/\x≠head)->m.length+1<=part.length:=by
 obtain ⟨h1,h2⟩:=setF_ok head part [] .nil
 refine ⟨h1,fun x hx=>?_,fun m hm hx=>?_⟩
 ·rcases (h2 x).1 hx with h | h
  ·exact h
  ·simp [keys] at h
 ·have:=nodup_sub_len (List.nodup_cons.2 ⟨fun hc=>(hx head hc).2 rfl,hm.nd⟩) (m:=part) fun x hx'=>by
   rcases List.mem_cons.1 hx' with rfl | h
   ·exact hh
   ·exact (hx x h).1
  simpa [keys_len] using this
theorem bind_to {α β:Type} {x:Option α} {r:α} {F:α->Option β} {C:β->Prop} (e:x=some r) (h:∃ q,F r=some q/\C q):∃ q,x.bind F=some q/\C q:=by
 rw [e];exact h
theorem splitParts_ok {n0 N:Nat} {sp:Sp->List (Int × Bool)->Option (Option Sp)} {k:Nat} (hk:enough < k)
  (hsp:∀ s nodes,SpOk n0 s->SetOk nodes->(∀ x∈keys nodes,0<=x/\x < s.succ.length)->nodes.length < N->∃ r,sp s nodes=some r/\Res n0 s (cst nodes.length) r) :
  ∀ (ps:List (List Int)) (s:Sp),SpOk n0 s->ps.flatten.Nodup->(∀ x∈ps.flatten,0<=x/\x < s.succ.length)->ps.flatten.length<=N ->
   ∃ r,splitParts sp k ps s=some r/\Res n0 s (cst ps.flatten.length) r
 | [],s,h,_,_,_=>⟨some s,rfl,.inr ⟨s,rfl,h,rfl,by omega,by omega⟩⟩
 | part :: ps,s,h,hnd,hx,hN=>by
  rw [List.flatten_cons] at hnd hx hN
  rw [List.length_append] at hN
  have hsz:=h.size
  obtain ⟨hnd1,hnd2,_⟩:=List.nodup_append.1 hnd
  have hx1:∀ x∈part,0<=x/\x < s.succ.length:=fun x h=>hx x (List.mem_append.2 (.inl h))
  have hx2:∀ x∈ps.flatten,0<=x/\x < s.succ.length:=fun x h=>hx x (List.mem_append.2 (.inr h))
  have hpl:part.length<=10000:=by
   have:=nodup_sub_len hnd1 (m:=rangeI s.succ.length) fun x hx=>rangeI_mem.2 (hx1 x hx)
   have hrl:(rangeI s.succ.length).length=s.succ.length:=by simp [rangeI]
   omega
  have hca:=cst_add ps.flatten.length part.length
  rw [List.flatten_cons,List.length_append]
  unfold splitParts
  rw [if_pos ⟨by omega,by omega,fun l hl=>by have:=h.row l hl;omega⟩]
  obtain ⟨es,e,hsub⟩:=entries_ok h.row hsz hk part (setF (-1) part [])
  rw [e]
  simp only [Option.bind_some]
  match es,hsub with
  | [],_ =>
   obtain ⟨r,er,hr⟩:=splitParts_ok hk hsp ps s h hnd2 hx2 (by omega)
   exact ⟨r,er,hr.mono (by omega)⟩
  | head :: others,hsub =>
   have hhead:head∈part:=hsub.subset (by simp)
   obtain ⟨hW,hWx,hWl⟩:=without hnd1 hhead
   have hWlen:=hWl _ hW hWx
   have hfirst:∃ r,(match others with
      | []=>some (some s)
      | o :: os =>
       (reachLoop s.succ (setF head part []) k [] (o :: os).reverse).bind fun reach =>
        (copyF s reach (setF (-1) part []) (o :: os)).bind fun c =>
         match c with
         | none=>some none
         | some (s1,copied)=>sp s1 copied)=some r/\Res n0 s (part.length - 1+cst (part.length - 1)) r:=by
    match others with
    | []=>exact ⟨some s,rfl,.inr ⟨s,rfl,h,rfl,by omega,by omega⟩⟩
    | o :: os =>
     have hol:(o :: os).length<=part.length:=by have:=hsub.length_le;simp only [List.length_cons] at this ⊢;omega
     obtain ⟨reach,er,hR,hRx⟩:=reach_ok (succ:=s.succ) (set:=setF head part []) (fun x hx=>hx1 x (hWx x (mB0_keys hx)).1) h.row (by omega) hk (o :: os).reverse (by rw [List.length_reverse];omega)
     have hRx':∀ x∈keys reach,x∈part/\x≠head:=fun x hx=>hWx x (mB0_keys (hRx x hx))
     have hRl:=hWl _ hR hRx'
     simp only
     rw [er]
     simp only [Option.bind_some]
     rcases copyF_ok h hR (fun x hx=>hx1 x (hRx' x hx).1) (setF (-1) part []) (o :: os) (by omega) with ⟨ec,hb⟩ | ⟨s1,copied,ec,h1,hb1,hc1,hC,hCl,hCx⟩
     ·rw [ec]
      exact ⟨none,rfl,.inl ⟨rfl,by omega⟩⟩
     ·rw [ec]
      simp only [Option.bind_some]
      obtain ⟨r,e2,hr⟩:=hsp s1 copied h1 hC hCx (by omega)
      have:=cst_mono (show copied.length<=part.length - 1 by omega)
      exact ⟨r,e2,Res.andThen hb1 (by omega) (hr.mono this)⟩
   obtain ⟨r,er,hr⟩:=hfirst
   have hcp:cst part.length=part.length - 1+2 * cst (part.length - 1):=by
    have:part.length=(part.length - 1)+1:=by omega
    rw [this];simp [cst]
   dsimp only
   refine bind_to (r:=r) er ?_
   rcases hr with ⟨rfl,hb⟩ | ⟨s1,rfl,h1,hb1,hc1,hc1'⟩
   ·exact ⟨none,rfl,.inl ⟨rfl,by omega⟩⟩
   ·simp only
    obtain ⟨r2,e2,hr2⟩:=hsp s1 (setF head part []) h1 hW (fun x hx=>h.grown h1 hc1 (hx1 x (hWx x hx).1)) (by omega)
    have hm:=cst_mono (show (setF head part []).length<=part.length - 1 by omega)
    rw [e2]
    simp only [Option.bind_some]
    rcases hr2 with ⟨rfl,hb⟩ | ⟨s2,rfl,h2,hb2,hc2,hc2'⟩
    ·exact ⟨none,rfl,.inl ⟨rfl,by omega⟩⟩
    ·simp only
     obtain ⟨r3,e3,hr3⟩:=splitParts_ok hk hsp ps s2 h2 hnd2 (fun x hx=>h.grown h2 (by omega) (hx2 x hx)) (by omega)
     exact ⟨r3,e3,(Res.andThen (a:=cst part.length) (by omega) (by omega) hr3).mono (by omega)⟩
theorem splitF_ok {n0:Nat}:∀ (k:Nat) (s:Sp) (nodes:List (Int × Bool)),SpOk n0 s->SetOk nodes->(∀ x∈keys nodes,0<=x/\x < s.succ.length)->enough+1+nodes.length < k ->
  ∃ r,splitF k s nodes=some r/\Res n0 s (cst nodes.length) r
 | 0,_,_,_,_,_,hk=>by omega
 | k+1,s,nodes,h,hN,hx,hk=>by
  have hsz:=h.size
  have hnl:nodes.length<=10000:=by
   have:=hN.len_le (xs:=rangeI s.succ.length) fun x h=>rangeI_mem.2 (hx x h)
   have hrl:(rangeI s.succ.length).length=s.succ.length:=by simp [rangeI]
   omega
  unfold splitF
  rw [if_pos ⟨by omega,by omega,fun l hl=>by have:=h.row l hl;omega⟩]
  obtain ⟨ps,e,p1,p2,p3⟩:=partsF_ok hN hx (by omega) (k:=k) (by omega)
  have hfl:=flatten_len p3
  have hpl:ps.flatten.length<=nodes.length:=by
   have:=nodup_sub_len p1 p2
   rwa [keys_len] at this
  rw [e]
  simp only [Option.bind_some]
  rw [if_pos (by omega)]
  obtain ⟨r,er,hr⟩:=splitParts_ok (N:=nodes.length) (k:=k) (by omega) (fun s' nodes' a b c d=>splitF_ok k s' nodes' a b c (by omega)) ps s h p1 (fun x hx'=>hx x (p2 x hx')) hpl
  exact ⟨r,er,hr.mono (cst_mono hpl)⟩
end Go.Proofs.Ytfiiihpdekppiaa
end
section
namespace Go.Proofs
open Go.Shelf
def Try.lays189_ren:Go.Shelf.Ren:=⟨fun | 189=>81 | 125=>97 | 257=>96 | 128=>112 | 129=>113 | 294=>103 | 295=>104 | 296=>105 | 297=>106 | 298=>107 | 299=>108 | 216=>109 | 300=>110 | 301=>111 | 328=>115 | 329=>116 | 330=>117 | 331=>118 | 332=>119 | 215=>120 | 343=>121 | n=>n,fun | 28=>23 | 3=>3 | 46=>93 | 0=>0 | 51=>154 | 53=>157 | 4=>4 | 183=>162 | 182=>161 | 131=>131 | 5=>5 | 9=>9 | 218=>168 | 222=>172 | 228=>174 | 229=>175 | n=>n,fun | n=>n⟩
theorem Try.lays189:Go.Proofs.Lays.n189 Try.prog Try.lays189_ren:={
 mixed:=by kernel_rfl
 f125:=Try.func97.trans (congrArg some (by kernel_rfl))
 f128:=Try.func112.trans (congrArg some (by kernel_rfl))
 f129:=Try.func113.trans (congrArg some (by kernel_rfl))
 f189:=Try.func81.trans (congrArg some (by kernel_rfl))
 f215:=Try.func120.trans (congrArg some (by kernel_rfl))
 f216:=Try.func109.trans (congrArg some (by kernel_rfl))
 f257:=Try.func96.trans (congrArg some (by kernel_rfl))
 f294:=Try.func103.trans (congrArg some (by kernel_rfl))
 f295:=Try.func104.trans (congrArg some (by kernel_rfl))
 f296:=Try.func105.trans (congrArg some (by kernel_rfl))
 f297:=Try.func106.trans (congrArg some (by kernel_rfl))
 f298:=Try.func107.trans (congrArg some (by kernel_rfl))
 f299:=Try.func108.trans (congrArg some (by kernel_rfl))
 f300:=Try.func110.trans (congrArg some (by kernel_rfl))
 f301:=Try.func111.trans (congrArg some (by kernel_rfl))
 f328:=Try.func115.trans (congrArg some (by kernel_rfl))
 f329:=Try.func116.trans (congrArg some (by kernel_rfl))
 f330:=Try.func117.trans (congrArg some (by kernel_rfl))
 f331:=Try.func118.trans (congrArg some (by kernel_rfl))
 f332:=Try.func119.trans (congrArg some (by kernel_rfl))
 f343:=Try.func121.trans (congrArg some (by kernel_rfl))
 t0:=Try.underlying0
 a0:=Try.isAgg0
 z0:=Try.sizeOf0
 v0:=Try.zeroValue0
 t3:=Try.underlying3
 a3:=Try.isAgg3
 z3:=Try.sizeOf3
 v3:=Try.zeroValue3
 t4:=Try.underlying4
 a4:=Try.isAgg4
 z4:=Try.sizeOf4
 v4:=Try.zeroValue4
 t5:=Try.underlying5
 a5:=Try.isAgg5
 z5:=Try.sizeOf5
 v5:=Try.zeroValue5
 t9:=Try.underlying9
 a9:=Try.isAgg9
 z9:=Try.sizeOf9
 v9:=Try.zeroValue9
 t28:=Try.underlying23
 a28:=Try.isAgg23
 z28:=Try.sizeOf23
 v28:=Try.zeroValue23
 t46:=Try.underlying93
 a46:=Try.isAgg93
 z46:=Try.sizeOf93
 v46:=Try.zeroValue93
 t51:=Try.underlying154
 a51:=Try.isAgg154
 z51:=Try.sizeOf154
 v51:=Try.zeroValue154
 t53:=Try.underlying157
 a53:=Try.isAgg157
 z53:=Try.sizeOf157
 v53:=Try.zeroValue157
 t131:=Try.underlying131
 a131:=Try.isAgg131
 z131:=Try.sizeOf131
 v131:=Try.zeroValue131
 t182:=Try.underlying161
 a182:=Try.isAgg161
 z182:=Try.sizeOf161
 v182:=Try.zeroValue161
 t183:=Try.underlying162
 a183:=Try.isAgg162
 z183:=Try.sizeOf162
 v183:=Try.zeroValue162
 t218:=Try.underlying168
 a218:=Try.isAgg168
 z218:=Try.sizeOf168
 v218:=Try.zeroValue168
 t222:=Try.underlying172
 a222:=Try.isAgg172
 z222:=Try.sizeOf172
 v222:=Try.zeroValue172
 t228:=Try.underlying174
 a228:=Try.isAgg174
 z228:=Try.sizeOf174
 v228:=Try.zeroValue174
 t229:=Try.underlying175
 a229:=Try.isAgg175
 z229:=Try.sizeOf175
 v229:=Try.zeroValue175 }
open Go.Sort Go.RowKit in
theorem Try.slices_Sort_int (blk off cap:Nat) (zs:List Int) (w:World) (hH:Holds (Value.int .i64) w blk off zs.toArray) (hblk:blk < w.heap.size) (hsz:zs.length < 4611686018427387904) :
  Calls Try.prog 81 #[.slice (some ⟨blk,off,none⟩) zs.length cap] w fun e w' =>
   e=.returned (.tuple #[])/\∃ n os,w'=grow (putRow (Value.int .i64) (Sort.ahead w n) blk off (zs.mergeSort fun x y=>decide (x<=y)).toArray) os:=Any.slices_Sort_int Try.lays189 blk off cap zs w hH hblk hsz
def Try.laysNm215_ren:Go.Shelf.Ren:=⟨fun | 15=>37 | n=>n,fun | 22=>23 | 3=>3 | 4=>4 | n=>n,fun | n=>n⟩
theorem Try.laysNm215:Go.Proofs.Lays2.n15 Try.prog Try.laysNm215_ren:={
 mixed:=by kernel_rfl
 f15:=Try.func37.trans (congrArg some (by kernel_rfl))
 t3:=Try.underlying3
 a3:=Try.isAgg3
 z3:=Try.sizeOf3
 v3:=Try.zeroValue3
 t4:=Try.underlying4
 a4:=Try.isAgg4
 z4:=Try.sizeOf4
 v4:=Try.zeroValue4
 t22:=Try.underlying23
 a22:=Try.isAgg23
 z22:=Try.sizeOf23
 v22:=Try.zeroValue23
 i3:=by kernel_rfl }
open Go.RowKit Go.Lib in
theorem Try.slices_Clone_int_nil (n c:Nat) (w:World) :
  Calls Try.prog 37 #[.slice none n c] w fun e w'=>e=.returned (.slice none 0 0)/\w'=w:=Any.slices_Clone_int_nil Try.laysNm215 n c w
open Go.RowKit Go.Sort in
theorem Try.slices_Sort_int_none (p:Option Addr) (cap:Nat) (w:World) :
  Calls Try.prog 81 #[.slice p 0 cap] w fun e w'=>e=.returned (.tuple #[])/\w'=w:=Any.slices_Sort_int_none Try.lays189 p cap w
end Go.Proofs
end
section
namespace Go.Proofs.Ytfiiihpdekppiaa
open Go.RowKit Go.Proofs Go.Proofs.YtfiiihpdekppiaaW.PrintWords
abbrev nilS:Value:=.slice none 0 0
structure Rows3 (w:World) (base:Nat) (vs:List Value) (xss:List (List Int)):Prop where
 len:vs.length=xss.length
 row:∀ i,i < vs.length->w.ownsRow base 3 1 (vs.getD i nilS) (xss.getD i []).length (nums .i64 (xss.getD i []))
 apart:∀ i j,i < vs.length->j < vs.length->i≠j->(vs.getD i nilS).ownBlock=none∨(vs.getD i nilS).ownBlock≠(vs.getD j nilS).ownBlock
theorem Rows3.nil (w:World) (base:Nat):Rows3 w base [] []:=⟨rfl,fun i hi=>by simp at hi,fun i j hi=>by simp at hi⟩
theorem Rows3.move {w w1:World} {base:Nat} {vs:List Value} {xss:List (List Int)} (h:Rows3 w base vs xss) (hm:∀ i k,i < vs.length->(vs.getD i nilS).ownBlock=some k->w1.heap[k]?=w.heap[k]?):Rows3 w1 base vs xss :=
 ⟨h.len,fun i hi=>own_move (h.row i hi) (fun k hk=>hm i k hi hk),h.apart⟩
theorem Rows3.typed {w w1:World} {base:Nat} {vs:List Value} {xss:List (List Int)} (h:Rows3 w base vs xss) (hm:∀ (k:Nat) (cs:Array Value),w.heap[k]?=some (Obj.cells cs 3 (0,0))->w1.heap[k]?=w.heap[k]?):Rows3 w1 base vs xss :=
 h.move (fun i k hi hk=>by obtain ⟨cs,hc⟩:=own_typed (h.row i hi) k hk;exact hm k cs hc)
theorem Rows3.drew {w:World} {base:Nat} {vs:List Value} {xss:List (List Int)} (h:Rows3 w base vs xss):Rows3 w.drew base vs xss:=h.move (fun _ _ _ _=>rfl)
theorem Rows3.below {w w1:World} {base:Nat} {vs:List Value} {xss:List (List Int)} (h:Rows3 w base vs xss) (hb:Below w.heap.size w w1):Rows3 w1 base vs xss :=
 h.move (fun i k hi hk=>hb.block k (own_lt (h.row i hi) k hk))
theorem Rows3.other {w w1:World} {base base':Nat} {e size n:Nat} {v:Value} {xs:List Value} {vs:List Value} {xss:List (List Int)} (h:Rows3 w base vs xss) (hg:w.grownBy w1 v.ownBlock) (ho:w.ownsRow base' e size v n xs) (he:e≠3):Rows3 w1 base vs xss :=
 h.typed (fun k cs hk=>by rw [grown_blk hg ho hk he,hk])
theorem Rows3.setCell {w:World} {base:Nat} {vs:List Value} {xss:List (List Int)} (h:Rows3 w base vs xss) {b i t:Nat} {cs:Array Value} {fr:Nat × Nat} (hb:w.heap[b]?=some (.cells cs t fr)) (ht:t≠3) (u:Value):Rows3 (w.setCell ⟨b,i,none⟩ u) base vs xss :=
 h.typed (fun k _ hk=>Below.heap_setCell w _ u k (blk_ne' hk hb (Ne.symm ht)))
theorem getD_set_self {α:Type} {l:List α} {i:Nat} (hi:i < l.length) (a d:α):(l.set i a).getD i d=a:=by simp [List.getD_eq_getElem?_getD,hi]
theorem getD_set_other {α:Type} {l:List α} {i j:Nat} (hij:i≠j) (a d:α):(l.set i a).getD j d=l.getD j d:=by simp [List.getD_eq_getElem?_getD,List.getElem?_set_ne hij]
theorem getD_snoc_old {α:Type} {l:List α} {i:Nat} (hi:i < l.length) (a d:α):(l++[a]).getD i d=l.getD i d:=by simp [List.getD_eq_getElem?_getD,List.getElem?_append_left hi]
theorem getD_snoc_new {α:Type} {l:List α} (a d:α):(l++[a]).getD l.length d=a:=by simp [List.getD_eq_getElem?_getD]
theorem getD_rep {α:Type} {n i:Nat} (hi:i < n) {a d:α}:(List.replicate n a).getD i d=a:=by simp [List.getD_eq_getElem?_getD,hi]
theorem Rows3.turned {w w1:World} {base:Nat} {vs:List Value} {xss:List (List Int)} (h:Rows3 w base vs xss) {i:Nat} (hi:i < vs.length) {v':Value} {xs':List Int}
  (ho:w1.ownsRow base 3 1 v' xs'.length (nums .i64 xs')) (hg:w.grownBy w1 (vs.getD i nilS).ownBlock) (hat:v'.ownBlock=(vs.getD i nilS).ownBlock∨∃ b,v'.ownBlock=some b/\w.heap.size<=b):Rows3 w1 base (vs.set i v') (xss.set i xs'):=by
 have hlen:=h.len
 have hfar:∀ j,j < vs.length->j≠i->(vs.getD j nilS).ownBlock=none∨(vs.getD j nilS).ownBlock≠v'.ownBlock:=by
  intro j hj hji
  rcases hat with e | ⟨b,e,hb⟩
  ·rw [e];exact h.apart j i hj hi hji
  ·cases hv:(vs.getD j nilS).ownBlock with
   | none=>exact .inl rfl
   | some k=>refine .inr fun e'=>?_;rw [e] at e';have:=own_lt (h.row j hj) k hv;injection e' with e';omega
 refine ⟨by simpa using hlen,fun j hj=>?_,fun j j' hj hj' hne=>?_⟩
 ·rw [List.length_set] at hj
  by_cases hji:i=j
  ·subst hji
   rw [getD_set_self hi,getD_set_self (by omega)]
   exact ho
  ·rw [getD_set_other hji,getD_set_other hji]
   exact (h.row j hj).kept hg (h.apart j i hj hi (Ne.symm hji))
 ·rw [List.length_set] at hj hj'
  by_cases hji:i=j
  ·subst hji
   rw [getD_set_self hi,getD_set_other hne]
   rcases hfar j' hj' (Ne.symm hne) with e | e
   ·cases hv:v'.ownBlock with
    | none=>exact .inl rfl
    | some k=>exact .inr (by rw [e];simp)
   ·exact .inr (Ne.symm e)
  ·rw [getD_set_other hji]
   by_cases hji':i=j'
   ·subst hji'
    rw [getD_set_self hi]
    exact hfar j hj hne
   ·rw [getD_set_other hji']
    exact h.apart j j' hj hj' hne
theorem Rows3.push {w:World} {base:Nat} {vs:List Value} {xss:List (List Int)} (h:Rows3 w base vs xss) {v':Value} {xs':List Int} (ho:w.ownsRow base 3 1 v' xs'.length (nums .i64 xs'))
  (hfar:∀ j,j < vs.length->(vs.getD j nilS).ownBlock=none∨(vs.getD j nilS).ownBlock≠v'.ownBlock):Rows3 w base (vs++[v']) (xss++[xs']):=by
 have hlen:=h.len
 refine ⟨by simp [hlen],fun j hj=>?_,fun j j' hj hj' hne=>?_⟩
 ·rw [List.length_append,List.length_singleton] at hj
  rcases Nat.lt_or_ge j vs.length with hj' | hj'
  ·rw [getD_snoc_old hj',getD_snoc_old (by omega)];exact h.row j hj'
  ·have:j=vs.length:=by omega
   subst this
   rw [getD_snoc_new,hlen,getD_snoc_new]
   exact ho
 ·rw [List.length_append,List.length_singleton] at hj hj'
  rcases Nat.lt_or_ge j vs.length with h1 | h1 <;> rcases Nat.lt_or_ge j' vs.length with h2 | h2
  ·rw [getD_snoc_old h1,getD_snoc_old h2];exact h.apart j j' h1 h2 hne
  ·have:j'=vs.length:=by omega
   subst this
   rw [getD_snoc_old h1,getD_snoc_new];exact hfar j h1
  ·have:j=vs.length:=by omega
   subst this
   rw [getD_snoc_old h2,getD_snoc_new]
   rcases hfar j' h2 with e | e
   ·cases hv:v'.ownBlock with
    | none=>exact .inl rfl
    | some k=>exact .inr (by rw [e];simp)
   ·exact .inr (Ne.symm e)
  ·omega
theorem Rows3.push_nil {w:World} {base:Nat} {vs:List Value} {xss:List (List Int)} (h:Rows3 w base vs xss):Rows3 w base (vs++[nilS]) (xss++[[]]) :=
 h.push (own_nil _ _ _ _) (fun j _=>by cases hv:(vs.getD j nilS).ownBlock <;> simp [Value.ownBlock])
theorem Rows3.push_new {w:World} {base:Nat} {vs:List Value} {xss:List (List Int)} (h:Rows3 w base vs xss) {w1:World} (hb:Below w.heap.size w w1) {v':Value} {xs':List Int} (ho:w1.ownsRow base 3 1 v' xs'.length (nums .i64 xs')) (hn:∀ k,v'.ownBlock=some k->w.heap.size<=k):Rows3 w1 base (vs++[v']) (xss++[xs']) :=
 (h.below hb).push ho (fun j hj=>by
  cases hv:(vs.getD j nilS).ownBlock with
  | none=>exact .inl rfl
  | some k=>refine .inr fun e=>?_;have:=own_lt (h.row j hj) k hv;have:=hn k e.symm;omega)
theorem Rows3.nils (w:World) (base n:Nat):Rows3 w base (List.replicate n nilS) (List.replicate n []):=by
 refine ⟨by simp,fun i hi=>?_,fun i j hi _ _=>?_⟩
 ·simp only [List.length_replicate] at hi
  rw [getD_rep hi,getD_rep hi]
  exact own_nil _ _ _ _
 ·simp only [List.length_replicate] at hi
  rw [getD_rep hi]
  exact .inl rfl
theorem own_C {w:World} {base:Nat} {v:Value} {xs:List Int} (h:w.ownsRow base 3 1 v xs.length (nums .i64 xs)):∃ A c,v=.slice A xs.length c/\xs.length<=c/\kI.C w A xs.length xs:=by
 have:kI.R 3 w base (fun _=>True) v xs:=Kd.R_of_own (by simpa [nums,encs] using h) (fun _ _=>trivial)
 exact Kd.R_reads this
theorem Rows3.read {w:World} {base base':Nat} {v:Value} {vs:List Value} {xss:List (List Int)} (h:Rows3 w base vs xss) (ho:w.ownsRow base' 23 1 v vs.length vs):∃ A c,v=.slice A xss.length c/\xss.length<=c/\kG.C w A xss.length xss:=by
 have hr:OwnRow (kG.K w) 23 1 w base' v xss:=by
  refine ⟨vs,by rw [<-h.len];exact ho,by rw [h.len,Nat.mul_one],fun j p hj=>?_⟩
  have hj1:=(List.getElem?_eq_some_iff.1 hj).1
  have hj2:j < vs.length:=by rw [h.len];exact hj1
  obtain ⟨A,c,h1,h2,h3⟩:=own_C (h.row j hj2)
  have e1:(vs.drop (j * 1)).take 1=[vs.getD j nilS]:=by
   rw [Nat.mul_one,List.drop_eq_getElem_cons hj2,List.take_succ_cons,List.take_zero,List.getD_eq_getElem?_getD,List.getElem?_eq_getElem hj2]
   rfl
  have e2:xss.getD j []=p:=by simp [List.getD_eq_getElem?_getD,hj]
  rw [e1]
  refine ⟨A,c,?_,?_,?_⟩
  ·rw [h1,e2]
  ·rw [e2] at h2;exact h2
  ·rw [e2] at h3;exact h3
 exact OwnRow.reads hr
end Go.Proofs.Ytfiiihpdekppiaa
end
