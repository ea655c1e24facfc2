/- A part of the proof that vellumlaw12.ShapeAcyclic is true for every input: walks of functions that the row reaches and plain laws that they need. Conditions: none. Joined by merge.py out of C6 C7 C8 C9; a part that began as a print is named P or W there and is trimmed. -/
import Derived.Test.YtfiiihpdekppiaaA1
import Derived.Test.YtfiiihpdekppiaaA4
import Derived.Test.YtfiiihpdekppiaaA6
import Derived.Test.YtfiiihpdekppiaaA7
import Derived.Sort.OwnSortedInts
set_option linter.unusedVariables false
set_option linter.unusedSimpArgs false
section
namespace Go.Proofs.Ytfiiihpdekppiaa
open Go.RowKit Go.Shelf Go.Proofs Go.Proofs.YtfiiihpdekppiaaW.PrintWords
attribute [local go_sem] Oper.semAt_some
abbrev mk0 (D:Nat):Deferred:={ target:=.collected D,args:=#[] }
theorem leaves_marks {n:Nat} {fn:Func} {tmps:Array Value} {R:Ending->World->Prop} {B:Nat}:∀ (Ds:List Nat) (W:World),Ds.Nodup->(∀ D∈Ds,B<=D/\W.heap[D]?=some (.deferred (some []))) ->
  (∀ W',Below B W W'->(∀ (k:Nat) (cs:Array Value) (t:TypeId) (fr:Nat × Nat),W.heap[k]?=some (Obj.cells cs t fr)->W'.heap[k]?=some (Obj.cells cs t fr))->LeavesInM Fence.wide n Try.prog fn tmps R [] .returning W')->LeavesInM Fence.wide n Try.prog fn tmps R (Ds.map mk0) .returning W
 | [],W,_,_,h=>h W (Below.refl _ _) (fun _ _ _ _ h=>h)
 | D :: Ds,W,hn,hD,h=>by
  obtain ⟨h1,h2⟩:=hD D (by simp)
  have hn2:=List.nodup_cons.1 hn
  have hlt:=blk_lt' h2
  refine ⟨by simp,.inl ⟨D,_,rfl,run_takeDeferred h2,?_⟩⟩
  have hb:Below B W (W.putObj D (.deferred none)):=⟨rfl,rfl,rfl,by simp,fun k hk=>World.putObj_heap_other (by omega)⟩
  refine leaves_marks Ds _ hn2.2 (fun E hE=>⟨(hD E (by simp [hE])).1,(World.putObj_heap_other (fun e=>hn2.1 (by rw [<-e];exact hE))).trans (hD E (by simp [hE])).2⟩) (fun W' hW' hc=>h W' (hb.trans hW') (fun k cs t fr hk=>hc k cs t fr ((World.putObj_heap_other (fun e=>by subst e;rw [h2] at hk;cases hk)).trans hk)))
structure ViewRd (w:World) (bv bm:Nat) (vo vp:Value) (order:List Int) (m:List (Int × Int)) (preds:List (List Int)):Prop where
 h2:w.heap[bv]?=some (.cells #[vo,.map (some bm),vp] 99 (0,0))
 h3:w.heap[bm]?=some (mI m)
 ho:∃ Ao co,vo=.slice Ao order.length co/\order.length<=co/\kI.C w Ao order.length order
 hp:∃ Ap cp,vp=.slice Ap preds.length cp/\preds.length<=cp/\kG.C w Ap preds.length preds
theorem ViewRd.below {w w':World} {bv bm:Nat} {vo vp:Value} {order:List Int} {m:List (Int × Int)} {preds:List (List Int)} (h:ViewRd w bv bm vo vp order m preds) (hb:Below w.heap.size w w'):ViewRd w' bv bm vo vp order m preds where
 h2:=(hb.block _ (blk_lt' h.h2)).trans h.h2
 h3:=(hb.block _ (blk_lt' h.h3)).trans h.h3
 ho:=by obtain ⟨Ao,co,h1,h2,h3⟩:=h.ho;exact ⟨Ao,co,h1,h2,Kd.C_below h3 hb⟩
 hp:=by obtain ⟨Ao,co,h1,h2,h3⟩:=h.hp;exact ⟨Ao,co,h1,h2,Kd.C_below h3 hb⟩
theorem store_func {W:World} {p:Addr} {u:Value} {f:Fn} {a b:Array Value} (h:W.cell? p=some u) (hf:W.frozen? p=false):(store p (.func f a b)).run Try.prog W=.ok () (W.setCell p (.func f a b)):=by
 rw [run_store Try.prog W p _ _ rfl,h]
 simp [hf]
structure DomSt (w0 w:World) (bx bxi bf bv gi N ci:Nat) (idom:List Int):Prop where
 hx:w.heap[bx]?=some (.cells #[.pointer (some ⟨bv,0,none⟩)] 94 (0,0))
 hi:w.heap[bxi]?=some (.cells #[.slice (some ⟨gi,0,none⟩) N ci] 23 (0,0))
 hf:w.heap[bf]?=some (.cells #[.func (.func 76) #[] #[.pointer (some ⟨bx,0,none⟩),.pointer (some ⟨bxi,0,none⟩)]] 59 (0,0))
 ho:w.ownsRow w0.heap.size 3 1 (.slice (some ⟨gi,0,none⟩) N ci) N (nums .i64 idom)
 hb:Below w0.heap.size w0 w
 len:idom.length=N
 bx0:w0.heap.size<=bx
 bi0:w0.heap.size<=bxi
 bf0:w0.heap.size<=bf
theorem KeepsOthers.of_same {w w':World} (h:Same w w'):KeepsOthers w w':=⟨by rw [h.heap];exact Nat.le_refl _,fun k o hk _=>by rw [h.heap];exact hk⟩
def Marks (B:Nat) (W:World) (ds:List Deferred):Prop:=∃ Ds:List Nat,ds=Ds.map mk0/\Ds.Nodup/\∀ D∈Ds,B<=D/\W.heap[D]?=some (.deferred (some []))
theorem Marks.nil (B:Nat) (W:World):Marks B W []:=⟨[],rfl,by simp,by simp⟩
theorem Marks.keep {B:Nat} {W W':World} {ds:List Deferred} (h:Marks B W ds) (hk:∀ D,B<=D->W.heap[D]?=some (.deferred (some []))->W'.heap[D]?=some (.deferred (some []))):Marks B W' ds:=by
 obtain ⟨Ds,h1,h2,h3⟩:=h
 exact ⟨Ds,h1,h2,fun D hD=>⟨(h3 D hD).1,hk D (h3 D hD).1 (h3 D hD).2⟩⟩
theorem Marks.cons {B D:Nat} {W W':World} {ds:List Deferred} (h:Marks B W ds) (hk:∀ D,B<=D->W.heap[D]?=some (.deferred (some []))->W'.heap[D]?=some (.deferred (some []))) (hD:W.heap.size<=D) (hB:B<=D) (h':W'.heap[D]?=some (.deferred (some []))) :
  Marks B W' ({ target:=.collected D,args:=#[] } :: ds):=by
 obtain ⟨Ds,h1,h2,h3⟩:=h
 refine ⟨D :: Ds,by rw [h1];rfl,List.nodup_cons.2 ⟨fun h4=>?_,h2⟩,fun E hE=>?_⟩
 ·have:=blk_lt' (h3 D h4).2;omega
 ·rcases List.mem_cons.1 hE with rfl | hE
  ·exact ⟨hB,h'⟩
  ·exact ⟨(h3 E hE).1,hk E (h3 E hE).1 (h3 E hE).2⟩
theorem Marks.drew {B:Nat} {W:World} {ds:List Deferred} (h:Marks B W ds):Marks B W.drew ds:=h.keep (fun _ _ h=>h)
theorem Marks.alloc {B:Nat} {W:World} {ds:List Deferred} (h:Marks B W ds) (o:Obj):Marks B (W.alloc o) ds:=h.keep (fun _ _ h=>(heap_alloc_old W o (blk_lt' h)).trans h)
theorem Marks.setCell {B b i:Nat} {W:World} {ds:List Deferred} (h:Marks B W ds) {cs:Array Value} {t:TypeId} {fr:Nat × Nat} (hb:W.heap[b]?=some (.cells cs t fr)) (u:Value):Marks B (W.setCell ⟨b,i,none⟩ u) ds :=
 h.keep (fun D _ hD=>(Below.heap_setCell W _ u D (fun e=>by subst e;rw [hb] at hD;cases hD)).trans hD)
theorem DomSt.move {w0 w w':World} {bx bxi bf bv gi N ci:Nat} {idom:List Int} (h:DomSt w0 w bx bxi bf bv gi N ci idom) {B:Nat} {S:Nat->Prop} (hb:Bel B S w w') (hB:w.heap.size<=B) (hS:∀ k,S k->bx < k/\bxi < k/\bf < k/\gi < k/\w0.heap.size<=k):DomSt w0 w' bx bxi bf bv gi N ci idom where
 hx:=(hb.block _ (by have:=blk_lt' h.hx;omega) (fun e=>by have:=hS _ e;omega)).trans h.hx
 hi:=(hb.block _ (by have:=blk_lt' h.hi;omega) (fun e=>by have:=hS _ e;omega)).trans h.hi
 hf:=(hb.block _ (by have:=blk_lt' h.hf;omega) (fun e=>by have:=hS _ e;omega)).trans h.hf
 ho:=own_move h.ho (fun k hk=>hb.block _ (by have:=own_lt h.ho k hk;omega) (fun e=>by
  simp only [Value.ownBlock,Option.some.injEq] at hk
  have:=hS _ e;omega))
 hb:=h.hb.trans (hb.to_below (by have:=h.hb.size;omega) (fun k hk e=>by have:=hS _ e;omega))
 len:=h.len
 bx0:=h.bx0
 bi0:=h.bi0
 bf0:=h.bf0
theorem DomSt.store {w0 w:World} {bx bxi bf bv gi N ci:Nat} {idom:List Int} (h:DomSt w0 w bx bxi bf bv gi N ci idom) (n:Nat) (d:Int):DomSt w0 (w.setCell ⟨gi,n,none⟩ (.int .i64 d)) bx bxi bf bv gi N ci (idom.set n d):=by
 obtain ⟨cs,hg⟩:=own_typed h.ho gi rfl
 refine ⟨set_blk h.hx (blk_ne' h.hx hg (by decide)),set_blk h.hi (blk_ne' h.hi hg (by decide)),set_blk h.hf (blk_ne' h.hf hg (by decide)),?_,h.hb.setCell (own_base h.ho gi rfl) _,by rw [List.length_set];exact h.len,h.bx0,h.bi0,h.bf0⟩
 have:=(h.ho.stored n (.int .i64 d)).1
 have e:nums .i64 (idom.set n d)=(nums .i64 idom).set n (.int .i64 d):=by simp [nums,List.map_set]
 rw [e]
 exact this
theorem DomSt.meet {w0 w:World} {bx bxi bf bv gi N ci bm:Nat} {idom:List Int} {vo vp:Value} {order:List Int} {m:List (Int × Int)} {preds:List (List Int)} (h:DomSt w0 w bx bxi bf bv gi N ci idom) (hv:ViewRd w0 bv bm vo vp order m preds):MeetSt w bv bm bx bxi m (some ⟨gi,0,none⟩) ci idom where
 h1:=cell_blk h.hx rfl
 h2:=cell_blk (hv.below h.hb).h2 rfl
 h3:=(hv.below h.hb).h3
 h4:=by rw [h.len];exact cell_blk h.hi rfl
 h5:=by
  have:=h.ho
  rw [<-h.len] at this
  obtain ⟨A',c',he,_,hc⟩:=own_C this
  cases he
  exact hc
theorem nd_list {N:Nat}:∀ l:List Int,(∀ p∈l,0<=p/\p < N)->∃ xs:List (Nd N),xs.map (·.1)=l
 | [],_=>⟨[],rfl⟩
 | a :: l,h=>by
  obtain ⟨xs,e⟩:=nd_list l (fun p hp=>h p (by simp [hp]))
  exact ⟨⟨a,h a (by simp)⟩ :: xs,by simp [e]⟩
def vals {N:Nat} (l:List (Nd N)):List Int:=l.map (·.1)
theorem vals_snoc {N:Nat} (l:List (Nd N)) (x:Nd N):vals (l++[x])=vals l++[x.1]:=by simp [vals]
structure FoldI (W0:World) (bd:Nat) (d:Int) (W:World):Prop where
 hB:Bel W0.heap.size (fun k=>k=bd) W0 W
 hd:W.heap[bd]?=some (.cells #[.int .i64 d] 3 (0,0))
theorem FoldI.own {β:Type} (W0:World) (bd:Nat) (f:β->Int) (hlt:bd < W0.heap.size):OwnFrom W0.heap.size (fun (s:β) W=>FoldI W0 bd (f s) W):=fun s W W' row hs hg hr =>
 ⟨hs.hB.grown hg (fun k hk hlt=>by have:=(hr k hk).1;omega) hs.hB.size,(hg.block bd (by have:=hs.hB.size;omega) (fun e=>by have:=(hr bd e.symm).1;omega)).trans hs.hd⟩
set_option maxRecDepth 100000 in
set_option maxHeartbeats 4000000 in
theorem dominators_any (w:World) (bv bm:Nat) (vo vp:Value) (order:List Int) (m:List (Int × Int)) (preds:List (List Int)) (N k:Nat) (r:List Int) (hv:ViewRd w bv bm vo vp order m preds) (hN:0 < N) (hN':N<=1000000) (hpl:preds.length=N)
  (hol:0 < order.length) (h:domsF k order m preds N=some r) :
  Calls Try.prog 56 #[.pointer (some ⟨bv,0,none⟩),.int .i64 N] w fun e w'=>∃ v,e=.returned v/\kI.R 3 w' w.heap.size (fun _=>True) v r/\Below w.heap.size w w':=by
 obtain ⟨Ao,co,rfl,hoc,hoC⟩:=hv.ho
 obtain ⟨ado,rfl,_⟩:=C_num hoC 0 hol
 obtain ⟨Ap,cp,rfl,hpc,hpC⟩:=hv.hp
 have HOC:=ak_ hoC
 have HPC:=ak_ hpC
 clear hoC hpC
 refine callsIn_wide.1 (callsIn_of_wp_marks (n:=5) Try.func56 rfl trivial ?_ rfl)
 refine wpIn_wide.2 ?_
 obtain ⟨Q',hQ'⟩:∃ Q',Q'=bodyPostM Fence.wide 5 Try.prog Try.f56 (fun e w'=>∃ v,e=.returned v/\kI.R 3 w' w.heap.size (fun _=>True) v r/\Below w.heap.size w w'):=⟨_,rfl⟩
 rw [<-hQ']
 have HQ:=ak_ hQ'
 have HV:=ak_ hv
 have H:=ak_ h
 have HP:=ak_ hpl
 clear hQ' hv h hpl
 simp only [Try.ntmps56,List.size_toArray,List.length_cons,List.length_nil,Nat.reduceAdd,Nat.reduceSub,Array.replicate_succ,Array.replicate_zero,List.push_toArray,List.append_toArray,List.nil_append,List.cons_append]
 go_wp2_with (first
  | (go_at_call 75;refine (repeat_any _ (w.heap.size+1) (-1) N (cell_blk (heap_alloc_at _ _ (by simp)) rfl) hN hN').mono ?_;rintro e w1 ⟨vi,rfl,hr,hb1⟩;have hr:=Kd.R_lower hr (base':=w.heap.size) (by simp <;> omega);obtain ⟨gi,ci,rfl,hgb,hgl,_⟩:=Kd.R_form hr (by simpa using hN);have hown:=Kd.own_of_R hr;have f1:(w1.alloc (.cells #[.slice (some ⟨gi,0,none⟩) N ci] 23)).cell? ⟨gi,0,none⟩=some (.int .i64 (-1)):=cell_alloc _ (own_cell hown 0 (by simpa using hN) (by simp [encs,hN]));have f2:(w1.alloc (.cells #[.slice (some ⟨gi,0,none⟩) N ci] 23)).frozen? ⟨gi,0,none⟩=false:=(hown.alloc _).frozenAt 0;have f3:(((w1.setCell ⟨gi,0,none⟩ (.int .i64 0)).alloc (.cells #[.slice (some ⟨gi,0,none⟩) N ci] 23)).alloc (.cells #[.nilFunc] 59)).cell? ⟨w1.heap.size+1,0,none⟩=some .nilFunc:=cell_blk (heap_alloc_at _ _ (by simp)) rfl;have f4:(((w1.setCell ⟨gi,0,none⟩ (.int .i64 0)).alloc (.cells #[.slice (some ⟨gi,0,none⟩) N ci] 23)).alloc (.cells #[.nilFunc] 59)).frozen? ⟨w1.heap.size+1,0,none⟩=false:=free_blk (heap_alloc_at _ _ (by simp));have f5:=store_func (f:=.func 76) (a:=#[]) (b:=#[.pointer (some ⟨w.heap.size,0,none⟩),.pointer (some ⟨w1.heap.size,0,none⟩)]) f3 f4;have O1:=ak_ hown;have B1:=ak_ hb1;clear hr hb1 hown)
  | (go_at_call 77;fail))
 obtain ⟨bx,hbx⟩:∃ bx,bx=w.heap.size:=⟨_,rfl⟩
 obtain ⟨bxi,hbxi⟩:∃ bxi,bxi=w1.heap.size:=⟨_,rfl⟩
 obtain ⟨bf,hbf⟩:∃ bf,bf=w1.heap.size+1:=⟨_,rfl⟩
 have D0:DomSt w ((((w1.setCell ⟨gi,0,none⟩ (.int .i64 0)).alloc (.cells #[.slice (some ⟨gi,0,none⟩) N ci] 23)).alloc (.cells #[.func (.func 76) #[] #[.pointer (some ⟨w.heap.size,0,none⟩),.pointer (some ⟨w1.heap.size,0,none⟩)]] 59))) w.heap.size w1.heap.size (w1.heap.size+1) bv gi N ci ((List.replicate N (-1)).set 0 0):=by
  have hz:=B1.out.size
  simp only [heap_push,Array.size_push] at hz
  have q1:w1.heap[w.heap.size]?=some (.cells #[.pointer (some ⟨bv,0,none⟩)] 94 (0,0)):=(B1.out.block _ (by simp;omega)).trans (by rw [heap_alloc_old _ _ (by simp)];exact heap_alloc_new _ _)
  have hgt:=own_typed O1.out gi rfl
  obtain ⟨csg,hgt⟩:=hgt
  have hne:w.heap.size≠gi:=fun e=>by rw [<-e,q1] at hgt;cases hgt
  refine ⟨?_,?_,?_,?_,?_,by simp,Nat.le_refl _,by omega,by omega⟩
  ·rw [heap_alloc_old _ _ (by simp;omega),heap_alloc_old _ _ (by simp;omega)]
   exact (Below.heap_setCell _ _ _ _ hne).trans q1
  ·rw [heap_alloc_old _ _ (by simp)]
   exact heap_alloc_at _ _ (by simp)
  ·exact heap_alloc_at _ _ (by simp)
  ·have:=((O1.out.stored 0 (.int .i64 0)).1.alloc (.cells #[.slice (some ⟨gi,0,none⟩) N ci] 23)).alloc (.cells #[.func (.func 76) #[] #[.pointer (some ⟨w.heap.size,0,none⟩),.pointer (some ⟨w1.heap.size,0,none⟩)]] 59)
   simpa [nums,encs] using this
  ·have:=(((Below.refl w.heap.size w).alloc (Nat.le_refl _) (.cells #[.pointer (some ⟨bv,0,none⟩)] 94)).alloc (by simp) (.cells #[.int .i64 (-1)] 3)).trans (B1.out.mono (by simp;omega))
   exact ((this.setCell (p:=⟨gi,0,none⟩) hgb _).alloc (by simp;omega) _).alloc (by simp;omega) _
 rw [<-hbf,<-hbxi,<-hbx] at D0
 rw [<-hbf,<-hbxi,<-hbx]
 have DD:=ak_ D0
 have HD:=ak_ (show domLoop order m preds k ((List.replicate N (-1)).set 0 0)=some r from H.out)
 clear D0 f1 f2 f3 f4 f5
 obtain ⟨wL,hwL⟩:∃ wL,wL=(((w1.setCell ⟨gi,0,none⟩ (.int .i64 0)).alloc (.cells #[.slice (some ⟨gi,0,none⟩) N ci] 23)).alloc (.cells #[.func (.func 76) #[] #[.pointer (some ⟨bx,0,none⟩),.pointer (some ⟨bxi,0,none⟩)]] 59)):=⟨_,rfl⟩
 obtain ⟨b12,hb12⟩:∃ b12,b12=bx+1:=⟨_,rfl⟩
 rw [<-hwL] at DD ⊢
 rw [<-hb12]
 clear hwL hb12 hbx hbxi hbf O1 B1
 refine wp_loop_ghost_k (fun kq a W=>∃ (ch:Bool) (u9 u10 u11 u18 u19 u20 u21 u22 u23 u24 u25 u26 u27 u28 u29 u30 u31 u32 u33 u34 u35 u36 u37 u38 u39 u40 u41 u42 u43 u44 u45 u46 u47 u48 u49 u50 u51 u52 u53 u54 u55 u56 u57:Value) (ds:List Deferred),a={ tmps:=#[.pointer (some ⟨bv,0,none⟩),.int .i64 N,.pointer (some ⟨bx,0,none⟩),undef,.slice none 0 0,.pointer (some ⟨bxi,0,none⟩),.pointer (some ⟨bf,0,none⟩),.bool ch,undef,u9,u10,u11,.slice (some ⟨b12,0,none⟩) 1 1,.int .i64 N,.slice (some ⟨gi,0,none⟩) N ci,.slice (some ⟨gi,0,none⟩) N ci,.pointer (some ⟨gi,0,none⟩),.func (.func 76) #[] #[.pointer (some ⟨bx,0,none⟩),.pointer (some ⟨bxi,0,none⟩)],u18,u19,u20,u21,u22,u23,u24,u25,u26,u27,u28,u29,u30,u31,u32,u33,u34,u35,u36,u37,u38,u39,u40,u41,u42,u43,u44,u45,u46,u47,u48,u49,u50,u51,u52,u53,u54,u55,u56,u57,undef],defers:=ds }/\Aside0 (Marks w.heap.size W ds)/\∃ idom:List Int,Aside0 (if ch=true then domLoop order m preds kq idom=some r else idom=r)/\Aside0 (DomSt w W bx bxi bf bv gi N ci idom)) k ?_ ?_
 ·repeat apply Exists.intro
  refine ⟨rfl,⟨Marks.nil _ _⟩,_,?_,DD⟩
  exact ⟨by simpa using HD.out⟩
 ·intro kq a W hI J K hJ hK
  obtain ⟨ch,u9,u10,u11,u18,u19,u20,u21,u22,u23,u24,u25,u26,u27,u28,u29,u30,u31,u32,u33,u34,u35,u36,u37,u38,u39,u40,u41,u42,u43,u44,u45,u46,u47,u48,u49,u50,u51,u52,u53,u54,u55,u56,u57,ds,rfl,hM,idom,hL,hD⟩:=hI
  cases ch with
  | false =>
   have hr2:=hL.out
   rw [if_neg (by decide)] at hr2
   have HR:=ak_ hr2
   have c1:W.cell? ⟨bxi,0,none⟩=some (.slice (some ⟨gi,0,none⟩) N ci):=cell_blk hD.out.hi rfl
   clear hr2 hL
   go_wp2
   rw [HQ.out]
   obtain ⟨Ds,rfl,hn,hDs⟩:=hM.out
   refine leaves_marks (B:=w.heap.size) Ds W hn hDs (fun W' hW' hc=>?_)
   refine ⟨_,results_tmp rfl _ _ _,_,rfl,?_,hD.out.hb.trans hW'⟩
   have ho:=own_move (w1:=W') hD.out.ho (fun k hk=>by obtain ⟨cs,hk⟩:=own_typed hD.out.ho k hk;rw [hk,hc _ _ _ _ hk])
   have hlen:r.length=N:=by rw [<-HR.out];exact hD.out.len
   rw [HR.out] at ho
   exact Kd.R_of_own (by rw [hlen];simpa [nums,encs] using ho) (by simp)
  | true =>
   have hL2:=hL.out
   rw [if_pos rfl] at hL2
   cases hk:kq with
   | zero=>rw [hk] at hL2;simp [domLoop] at hL2
   | succ k' =>
    rw [hk] at hL2
    simp only [domLoop] at hL2
    obtain ⟨⟨idom9,ch9⟩,hp,hq⟩:=Option.bind_eq_some_iff.1 hL2
    have HP1:=ak_ hp
    have HQ1:=ak_ hq
    have HK:=ak_ hk
    have c1:W.cell? ⟨bx,0,none⟩=some (.pointer (some ⟨bv,0,none⟩)):=cell_blk hD.out.hx rfl
    have c2:W.cell? ⟨bv,0,none⟩=some (.slice (some ado) order.length co):=cell_blk (HV.out.below hD.out.hb).h2 rfl
    have hol9:order.length<=9223372036854775807:=HOC.out.2.1
    clear hp hq hk hL hL2
    by_cases hol1:1 < order.length
    ·have hco:1 < co:=by omega
     go_wp2_with (first | (go_at_call 77;fail))
     obtain ⟨ad1,had1⟩:∃ ad1,ad1=(⟨ado.block,ado.off+1,none⟩:Addr):=⟨_,rfl⟩
     have HA1:=ak_ (show ∀ j,j+1 < order.length->w.cell? (ad1.add j)=some (.int .i64 (order.getD (j+1) 0)) from fun j hj=>by
      obtain ⟨ad',he,hc⟩:=C_num HOC.out (j+1) hj
      cases he
      rw [<-hc,had1]
      congr 1
      unfold Addr.add
      split <;> simp_all;omega)
     rw [<-had1]
     clear had1
     refine wp_loop_ghost_k (fun kq2 a W=>∃ (i:Nat) (ch:Bool) (u9 u10 u11 u26 u27 u28 u29 u30 u31 u32 u33 u34 u35 u36 u37 u38 u39 u40 u41 u42 u43 u44 u45 u46 u47 u48 u49 u50 u51 u52 u53 u54 u55 u56 u57:Value) (ds:List Deferred),a={ tmps:=#[.pointer (some ⟨bv,0,none⟩),.int .i64 N,.pointer (some ⟨bx,0,none⟩),undef,.slice none 0 0,.pointer (some ⟨bxi,0,none⟩),.pointer (some ⟨bf,0,none⟩),.bool ch,undef,u9,u10,u11,.slice (some ⟨b12,0,none⟩) 1 1,.int .i64 N,.slice (some ⟨gi,0,none⟩) N ci,.slice (some ⟨gi,0,none⟩) N ci,.pointer (some ⟨gi,0,none⟩),.func (.func 76) #[] #[.pointer (some ⟨bx,0,none⟩),.pointer (some ⟨bxi,0,none⟩)],.bool true,.pointer (some ⟨bv,0,none⟩),.pointer (some ⟨bv,0,none⟩),.pointer (some ⟨bv,0,none⟩),.slice (some ado) order.length co,.slice (some ad1) (order.length - 1) (co - 1),.int .i64 (order.length - 1:Nat),.int .i64 i,u26,u27,u28,u29,u30,u31,u32,u33,u34,u35,u36,u37,u38,u39,u40,u41,u42,u43,u44,u45,u46,u47,u48,u49,u50,u51,u52,u53,u54,u55,u56,u57,undef],defers:=ds }/\i+kq2+1=order.length/\Aside0 (Marks w.heap.size W ds)/\∃ idom:List Int,Aside0 (domPass order m preds (order.drop (i+1)) idom ch=some (idom9,ch9))/\Aside0 (DomSt w W bx bxi bf bv gi N ci idom)) (order.length - 1) ?_ ?_
     ·refine ⟨0,false,?_⟩
      repeat apply Exists.intro
      refine ⟨rfl,by omega,hM,_,⟨by simpa using HP1.out⟩,hD⟩
     ·intro kq2 a W2 hI2 J2 K2 hJ2 hK2
      obtain ⟨i,ch,u9,u10,u11,u26,u27,u28,u29,u30,u31,u32,u33,u34,u35,u36,u37,u38,u39,u40,u41,u42,u43,u44,u45,u46,u47,u48,u49,u50,u51,u52,u53,u54,u55,u56,u57,ds,rfl,hkq,hM2,idom,hL,hD2⟩:=hI2
      cases kq2 with
      | zero =>
       have hi1:i+1=order.length:=by omega
       have hi2:i=order.length - 1:=by omega
       have h1:=hL.out
       rw [List.drop_of_length_le (by omega)] at h1
       simp only [domPass,Option.some.injEq,Prod.mk.injEq] at h1
       obtain ⟨rfl,rfl⟩:=h1
       have hi3:¬ (i:Int) < (order.length - 1:Nat):=by omega
       have HI:=ak_ hi2
       have HKQ:=ak_ hkq
       clear hi1 hi2 hkq
       go_wp2_with (first | (go_at_call 77;fail))
       refine Handed.intro k' (by have:=HK.out;omega) (hJ _ _ _ ?_)
       repeat apply Exists.intro
       refine ⟨rfl,hM2,_,⟨?_⟩,hD2⟩
       have:=HQ1.out
       cases ch <;> simpa using this
      | succ kq2 =>
       have h1:=hL.out
       have hi1:i+1 < order.length:=by omega
       obtain ⟨n,hn⟩:∃ n,n=order.getD (i+1) 0:=⟨_,rfl⟩
       rw [List.drop_eq_getElem_cons hi1,show order[i+1]=n by simp [hn,List.getD_eq_getElem?_getD,hi1]] at h1
       simp only [domPass] at h1
       by_cases hn2:0<=n/\n < idom.length
       ·rw [if_pos hn2] at h1
        obtain ⟨n,rfl⟩:=Int.eq_ofNat_of_zero_le hn2.1
        rw [Int.toNat_natCast] at h1
        by_cases ht:treeB order m idom=true/\(∀ p∈preds.getD n [],0<=p/\p < idom.length)
        ·rw [if_pos ht] at h1
         have c3:W2.cell? (ad1.add i)=some (.int .i64 n):=by rw [pw_cell_below hD2.out.hb (HA1.out i hi1),<-hn]
         have hi3:(i:Int) < (order.length - 1:Nat):=by omega
         have hn3:=ak_ hn2.2
         have HT:=ak_ ht
         have H1:=ak_ h1
         have HN:=ak_ hn
         have HKQ:=ak_ hkq
         have c4:(W2.alloc (.cells #[.int .i64 (-1)] 3)).cell? ⟨bx,0,none⟩=some (.pointer (some ⟨bv,0,none⟩)):=cell_alloc _ (cell_blk hD2.out.hx rfl)
         clear h1 hn hkq ht hn2 hL
         go_wp2_with (first | (go_at_call 77;refine (before_any _ bv n).mono ?_;rintro e w3 ⟨rfl,rfl⟩))
         obtain ⟨bd,hbd⟩:∃ bd,bd=W2.heap.size:=⟨_,rfl⟩
         obtain ⟨W0,hW0⟩:∃ W0,W0=((W2.alloc (.cells #[.int .i64 (-1)] 3)).alloc (.cells #[.pointer (some ⟨bv,0,none⟩)] 94)).alloc (.cells #[.int .i64 n] 3):=⟨_,rfl⟩
         simp only [World.size_alloc,<-hbd]
         rw [<-hW0]
         have hsz:W0.heap.size=bd+3:=by rw [hW0,hbd];simp
         have hDz:=hD2.out.hb.size
         have D0:DomSt w W0 bx bxi bf bv gi N ci idom:=hD2.out.move (B:=W2.heap.size) (S:=fun _=>False) (by rw [hW0];exact (((Bel.refl _ _ _).alloc (Nat.le_refl _) _).alloc (by simp) _).alloc (by simp;omega) _) (Nat.le_refl _) (fun _ h=>h.elim)
         have M0:Marks w.heap.size W0 ds:=by rw [hW0];exact ((hM2.out.alloc _).alloc _).alloc _
         have F0:FoldI W0 bd (-1) W0:=⟨Bel.refl _ _ _,by rw [hW0,heap_alloc_old _ _ (by simp;omega),heap_alloc_old _ _ (by simp;omega)];exact heap_alloc_at _ _ hbd⟩
         have hS:∀ k,k=bd->bx < k/\bxi < k/\bf < k/\gi < k/\w.heap.size<=k:=fun k e=>by
          have:=blk_lt' hD2.out.hx
          have:=blk_lt' hD2.out.hi
          have:=blk_lt' hD2.out.hf
          have:=own_lt hD2.out.ho gi rfl
          omega
         have hNl:=D0.len
         obtain ⟨xs,hxs⟩:=nd_list (N:=N) (preds.getD n []) (by rw [<-hNl];exact HT.out.2)
         have hnN:n < preds.length:=by have:=HP.out;have:=hn3.out;omega
         obtain ⟨adp,A0,c0,rfl,g1,g2,g3⟩:=C_row HPC.out n hnN
         rw [<-hxs] at g1 g2 g3
         simp only [List.length_map] at g1 g2 g3
         have VW:=HV.out.below D0.hb
         have DA:=ak_ D0
         have MA:=ak_ M0
         have FA:=ak_ F0
         have HXS:=ak_ hxs
         have HNL:=ak_ hNl
         have HW0:=ak_ hW0
         have HSZ:=ak_ hsz
         have HBD0:=ak_ hbd
         have hSEQ:=before_stops 3 (bd+1) bv W0.heap.size (fun k=>k=bd) n _ A0 N preds.length cp c0 xs W0 (Nat.le_refl _) (cell_blk (by rw [hW0,heap_alloc_old _ _ (by simp;omega)];exact heap_alloc_at _ _ (by simp;omega)) rfl) (cell_blk (by rw [hW0];exact heap_alloc_at _ _ (by simp;omega)) rfl) (cell_blk VW.h2 rfl) hnN
           (fun ad e=>by cases e;exact pw_cell_below D0.hb g1) (by simp) (fun W' h=>Kd.C_below g3 (D0.hb.trans (h.to_below (by have:=D0.hb.size;omega) (fun k hk e=>by have:=hS k e;omega))))
         have hlt0:bd < W0.heap.size:=by omega
         have SEQ:=ak_ hSEQ
         clear hbd hsz hW0 hNl hSEQ hxs
         refine (wpIn_wide (n:=5)).1 ?_
         refine wpIn_rangeFunc_ownG (F:=Fence.wide) (n:=5) rfl (by decide) (gf:=95) (lb:=#[.pointer (some ⟨bd+1,0,none⟩),.pointer (some ⟨bd+1+1,0,none⟩)]) rfl trivial (enters_of Try.func95 (by kernel_rfl) rfl)
          SEQ.out
          (fun h k=>h.trans k) (fun W l o o' hl _ _ _=>(Bel.refl _ _ _).putObj hl o') (Below.refl _ _) (fun _=>rfl)
          (fun pre W=>FoldI W0 bd (foldT order m idom (vals pre)) W) (fun _ _ _=>False) (FoldI.own W0 bd _ hlt0) (fun _ _ _ _ _ h _ _=>h) (by simpa [foldT,vals] using F0)
          (fun x=>{ tmps:=#[.pointer (some ⟨bv,0,none⟩),.int .i64 N,.pointer (some ⟨bx,0,none⟩),undef,.slice none 0 0,.pointer (some ⟨bxi,0,none⟩),.pointer (some ⟨bf,0,none⟩),.bool ch,undef,.int .i64 n,.pointer (some ⟨bd,0,none⟩),.int .i64 x.1,.slice (some ⟨b12,0,none⟩) 1 1,.int .i64 N,.slice (some ⟨gi,0,none⟩) N ci,.slice (some ⟨gi,0,none⟩) N ci,.pointer (some ⟨gi,0,none⟩),.func (.func 76) #[] #[.pointer (some ⟨bx,0,none⟩),.pointer (some ⟨bxi,0,none⟩)],.bool true,.pointer (some ⟨bv,0,none⟩),.pointer (some ⟨bv,0,none⟩),.pointer (some ⟨bv,0,none⟩),.slice (some ado) order.length co,.slice (some ad1) (order.length - 1) (co - 1),.int .i64 (order.length - 1:Nat),.int .i64 i,.bool true,.pointer (some (ad1.add i)),.int .i64 n,.pointer (some ⟨bv,0,none⟩),.int .i64 n,.func (.func 95) #[] #[.pointer (some ⟨bd+1,0,none⟩),.pointer (some ⟨bd+1+1,0,none⟩)],.int .i64 x.1,u33,u34,u35,u36,u37,u38,u39,u40,u41,u42,u43,u44,u45,u46,u47,u48,u49,u50,u51,u52,u53,u54,u55,u56,u57,undef],defers:=[] }) ?assign ?body ?done ?stop
         case assign =>
          intro l x W K hK
          gi_wp2
          exact hK
         case stop=>exact fun _ _ _ _ _ _ h=>h.elim
         case done =>
          rintro D ys W hDge rfl hF hK
          have DW:=DA.out.move hF.hB (Nat.le_refl _) hS
          have MW:Marks w.heap.size W ({ target:=.collected D,args:=#[] } :: ds):=MA.out.cons (fun E _ hE=>(hF.hB.block E (blk_lt' hE) (fun e=>by rw [e,FA.out.hd] at hE;cases hE)).trans hE) hDge (by have:=DA.out.hb.size;omega) hK
          obtain ⟨wd,hwd⟩:∃ wd,wd=W.drew:=⟨_,rfl⟩
          have DD2:DomSt w wd bx bxi bf bv gi N ci idom:=DW.move (B:=W.heap.size) (S:=fun _=>False) (by rw [hwd];exact (Bel.refl _ _ _).drew) (Nat.le_refl _) (fun _ h=>h.elim)
          have MD:=ak_ (show Marks w.heap.size wd ({ target:=.collected D,args:=#[] } :: ds) by rw [hwd];exact MW.drew)
          obtain ⟨d,hd⟩:∃ d,d=foldT order m idom (preds.getD n []):=⟨_,rfl⟩
          have hbdc:=hF.hd
          rw [show vals ys=preds.getD n [] from HXS.out,<-hd] at hbdc
          have hnN3:n < N:=by have:=hn3.out;have:=HNL.out;omega
          have hnN4:(n:Int) < N:=by omega
          obtain ⟨v,hv⟩:∃ v,v=idom.getD n 0:=⟨_,rfl⟩
          have e5:wd.cell? ⟨bxi,0,none⟩=some (.slice (some ⟨gi,0,none⟩) N ci):=cell_blk DD2.hi rfl
          have e6:wd.cell? ⟨gi,n,none⟩=some (.int .i64 v):=own_cell DD2.ho n hnN3 (by simp [nums,hv,List.getD_eq_getElem?_getD,HNL.out,hnN3])
          have e6f:wd.frozen? ⟨gi,n,none⟩=false:=DD2.ho.frozenAt n
          have e7:wd.cell? ⟨bd,0,none⟩=some (.int .i64 d):=by rw [hwd];exact cell_blk hbdc rfl
          have h1:=H1.out
          rw [<-hv,<-hd] at h1
          have HD:=ak_ hwd
          have DD2':=ak_ DD2
          have HIQ:i+1<=9223372036854775807:=by omega
          clear hwd hF hK hbdc hd hv DW MW DD2 c1 c2 c3 c4 VW D0 F0 M0 hS g1
          by_cases hvd:v=d
          ·rw [if_pos hvd] at h1
           have H2:=ak_ h1
           have HVD:=ak_ hvd
           subst hvd
           clear h1 HVD
           go_wp2_with (first | (rw [<-HD.out]) | (refine wp_region_txt (fun _=>True) [] (by kernel_rfl) (by kernel_rfl) ?_) | (with_reducible refine wpT_nil ?_) | (refine wpT_W (v:=?_) trivial (by decide) (wn_ rfl) (fun _ hS_=>?_) ?_;rotate_left;(focus ((try dsimp only at hS_);go_simp;rfl));(simp only [Act.put,sA_,sB_,sC_])) | (refine wpT_R (v:=?_) trivial (by decide) (wn_ rfl) ?_ ?_;rotate_left;(focus (go_simp;rfl));(simp only [Act.put,sA_,sB_,sC_])) | (refine wpT_A (v:=?_) (ob:=?_) trivial (by decide) (wn_ rfl) ?_ ?_ ?_;rotate_left 2;(focus (go_simp;first | (constructor <;> rfl) | rfl));(focus (exact trivial));(simp only [Act.put,sA_,sB_,sC_])))
           refine Handed.intro kq2 (by omega) (hJ2 _ _ _ ?_)
           refine ⟨i+1,ch,?_⟩
           repeat apply Exists.intro
           refine ⟨rfl,by have:=HKQ.out;omega,MD,_,H2,DD2'⟩
          ·rw [if_neg hvd] at h1
           have H2:=ak_ h1
           clear h1
           go_wp2_with (first | (rw [<-HD.out]) | (refine wp_region_txt (fun _=>True) [] (by kernel_rfl) (by kernel_rfl) ?_) | (with_reducible refine wpT_nil ?_) | (refine wpT_W (v:=?_) trivial (by decide) (wn_ rfl) (fun _ hS_=>?_) ?_;rotate_left;(focus ((try dsimp only at hS_);go_simp;rfl));(simp only [Act.put,sA_,sB_,sC_])) | (refine wpT_R (v:=?_) trivial (by decide) (wn_ rfl) ?_ ?_;rotate_left;(focus (go_simp;rfl));(simp only [Act.put,sA_,sB_,sC_])) | (refine wpT_A (v:=?_) (ob:=?_) trivial (by decide) (wn_ rfl) ?_ ?_ ?_;rotate_left 2;(focus (go_simp;first | (constructor <;> rfl) | rfl));(focus (exact trivial));(simp only [Act.put,sA_,sB_,sC_])))
           refine Handed.intro kq2 (by omega) (hJ2 _ _ _ ?_)
           refine ⟨i+1,true,?_⟩
           repeat apply Exists.intro
           obtain ⟨csg,hcsg⟩:=own_typed DD2'.out.ho gi rfl
           refine ⟨rfl,by have:=HKQ.out;omega,⟨MD.out.setCell hcsg _⟩,_,H2,⟨DD2'.out.store n d⟩⟩
         case body =>
          rintro l pre ⟨x,hx0,hxN⟩ W hF hlen
          obtain ⟨p,rfl⟩:=Int.eq_ofNat_of_zero_le hx0
          have DW:=D0.move hF.hB (Nat.le_refl _) hS
          have MS:=ak_ (DW.meet HV.out)
          obtain ⟨d,hd⟩:∃ d,d=foldT order m idom (vals pre):=⟨_,rfl⟩
          have hdT:d=-1∨inT idom d:=by rw [hd];exact foldT_good HT.out.1 _ _ (.inl rfl) (fun q hq=>by obtain ⟨y,_,rfl⟩:=List.mem_map.1 hq;rw [HNL.out];exact y.2)
          have hpN:p < N:=by omega
          obtain ⟨v,hv⟩:∃ v,v=idom.getD p 0:=⟨_,rfl⟩
          have c5:W.cell? ⟨bxi,0,none⟩=some (.slice (some ⟨gi,0,none⟩) N ci):=cell_blk DW.hi rfl
          have c6:W.cell? ⟨gi,p,none⟩=some (.int .i64 v):=own_cell DW.ho p hpN (by simp [nums,hv,List.getD_eq_getElem?_getD,HNL.out,hpN])
          have hbdc:=hF.hd
          simp only [<-hd] at hbdc
          have c7:W.cell? ⟨bd,0,none⟩=some (.int .i64 d):=cell_blk hbdc rfl
          have c7f:W.frozen? ⟨bd,0,none⟩=false:=free_blk hbdc
          have c8:W.cell? ⟨bf,0,none⟩=some (.func (.func 76) #[] #[.pointer (some ⟨bx,0,none⟩),.pointer (some ⟨bxi,0,none⟩)]):=cell_blk DW.hf rfl
          have hst:=stepT_good HT.out.1 (d:=d) (p:=p) (by rw [HNL.out];omega) hdT
          rw [Int.toNat_natCast] at hst
          rw [<-hv] at hst
          obtain ⟨s,hs⟩:∃ s,s=stepT order m idom d p:=⟨_,rfl⟩
          rw [<-hs] at hst
          have hfold:foldT order m idom (vals (pre++[(⟨(p:Int),hx0,hxN⟩:Nd N)]))=s:=by rw [vals_snoc,foldT_snoc,<-hd];exact hs.symm
          have hs':s=if v < 0 then d else if d < 0 then (p:Int) else (meetF m idom (2 * order.length+2) p d).getD 0:=by rw [hs,stepT,Int.toNat_natCast,<-hv]
          have hpN2:(p:Int) < N:=by omega
          have HB:=ak_ hF.hB
          have HBD:=ak_ hbdc
          have HFO:=ak_ hfold
          have HST:=ak_ hst.2
          have HS':=ak_ hs'
          clear hst hs' hfold hF hbdc hd hs hv hdT DW hlen c1 c2 c3 c4 VW D0 F0 M0 hS g1
          by_cases hv0:v < 0
          ·have E:=ak_ (show s=d by have e:=HS'.out;rw [if_pos hv0] at e;exact e)
           gi_wp2
           refine ⟨(KeepsOthers.refl _).from _,Bel.refl _ _ _,?_⟩
           show FoldI W0 bd (foldT order m idom (vals (pre++[(⟨(p:Int),hx0,hxN⟩:Nd N)]))) W
           rw [HFO.out,E.out]
           exact ⟨HB.out,HBD.out⟩
          ·have hv1:0<=v:=by omega
           by_cases hd0:d < 0
           ·have E:=ak_ (show s=p by have e:=HS'.out;rw [if_neg hv0,if_pos hd0] at e;exact e)
            gi_wp2
            refine ⟨(KeepsOthers.setCell _ _ _).from _,(Bel.refl _ (fun k=>k=bd) _).setCell (p:=⟨bd,0,none⟩) (fun _=>rfl) _,?_⟩
            show FoldI W0 bd (foldT order m idom (vals (pre++[(⟨(p:Int),hx0,hxN⟩:Nd N)]))) _
            rw [HFO.out,E.out]
            exact ⟨HB.out.setCell (p:=⟨bd,0,none⟩) (fun _=>rfl) _,by rw [set_here HBD.out];rfl⟩
           ·have hd1:0<=d:=by omega
            have hmeet:=ak_ (HST.out hv0 hd0)
            gi_wp2_with (refine ⟨trivial,?_⟩;gi_at_call 76;refine (CallsIn.inRound l (callsIn_wide.2 (meet_any W bv bm bx bxi m _ ci idom _ p d s MS.out hmeet.out))).mono ?_;rintro e w4 ⟨rfl,hs4⟩;have d7:w4.cell? ⟨bd,0,none⟩=some (.int .i64 d):=hs4.cell c7;have d7f:w4.frozen? ⟨bd,0,none⟩=false:=free_blk (hs4.blk HBD.out);have HS4:=ak_ hs4;clear hs4)
            refine ⟨((KeepsOthers.of_same HS4.out).trans (KeepsOthers.setCell _ _ _)).from _,(Bel.below (S:=fun k=>k=bd) HS4.out.hb (HB.out.size)).setCell (p:=⟨bd,0,none⟩) (fun _=>rfl) _,?_⟩
            show FoldI W0 bd (foldT order m idom (vals (pre++[(⟨(p:Int),hx0,hxN⟩:Nd N)]))) _
            rw [HFO.out]
            exact ⟨(HB.out.trans (Bel.below HS4.out.hb (HB.out.size))).setCell (p:=⟨bd,0,none⟩) (fun _=>rfl) _,by rw [set_here (HS4.out.blk HBD.out)];rfl⟩
        ·rw [if_neg ht] at h1;cases h1
       ·rw [if_neg hn2] at h1;cases h1
    ·have hol2:order.length=1:=by omega
     go_wp2_with (first | (go_at_call 77;fail))
     all_goals
      refine wp_loop_ghost_k (fun _ a' W''=>a'=_/\W''=W) 0 ⟨rfl,rfl⟩ ?_
      rintro _ _ _ ⟨rfl,rfl⟩ J2 K2 _ _
      go_wp2_with (first | (go_at_call 77;fail))
      refine Handed.intro k' (by have:=HK.out;omega) (hJ _ _ _ ?_)
      repeat apply Exists.intro
      refine ⟨rfl,hM,_,⟨?_⟩,hD⟩
      have hp:=HP1.out
      rw [show order.tail=[] from List.eq_nil_of_length_eq_zero (by simp;omega)] at hp
      simp only [domPass,Option.some.injEq,Prod.mk.injEq] at hp
      obtain ⟨rfl,rfl⟩:=hp
      simpa using HQ1.out
end Go.Proofs.Ytfiiihpdekppiaa
end
section
namespace Go.Proofs.Ytfiiihpdekppiaa
open Go.RowKit Go.Proofs Go.Proofs.YtfiiihpdekppiaaW.PrintWords
open PShapeReducible (flow_Valid.f slices_Reverse_int_int.f)
theorem Rows3.tail {w:World} {base:Nat} {v:Value} {vs:List Value} {xs:List Int} {xss:List (List Int)} (h:Rows3 w base (v :: vs) (xs :: xss)):Rows3 w base vs xss :=
 ⟨by have:=h.len;simpa using this,fun i hi=>by have:=h.row (i+1) (by simpa using hi);simpa using this,fun i j hi hj hne=>by have:=h.apart (i+1) (j+1) (by simpa using hi) (by simpa using hj) (by omega);simpa using this⟩
theorem ViewSt.rd {w0 w:World} {bg bv bm c:Nat} {A:Option Addr} {g:List (List Int)} {vo vp:Value} {order:List Int} {vs:List Value} {m:List (Int × Int)} {p:List (List Int)}
  (h:ViewSt w0 w bg bv bm c A g vo vp order vs m p):ViewRd w bv bm vo vp order m p where
 h2:=h.h2
 h3:=h.h3
 ho:=by have:=own_C (h.hr.row 0 (by simp));simpa using this
 hp:=by obtain ⟨A,c,e1,e2,e3⟩:=h.hr.tail.read h.hp;exact ⟨A,c,e1,e2,e3⟩
theorem R_C {w:World} {base:Nat} {ok:Nat->Prop} {v:Value} {xs:List Int} (h:kI.R 3 w base ok v xs):∃ A c,v=.slice A xs.length c/\xs.length<=c/\kI.C w A xs.length xs :=
 own_C (by have:=Kd.own_of_R h;simpa [nums,encs] using this)
theorem view_is (w:World) (A:Option Addr) (c:Nat) (g:List (List Int)) (r:List Int) (m:List (Int × Int)) (p:List (List Int)) (hC:kG.C w A g.length g) (hc:g.length<=c) (h:ViewIs g r m p) :
  Calls Try.prog 55 #[.agg #[.slice A g.length c]] w fun e w'=>∃ bv bm vo vp,e=.returned (.pointer (some ⟨bv,0,none⟩))/\ViewRd w' bv bm vo vp r m p/\Below w.heap.size w w':=by
 obtain ⟨⟨h1,h2,⟨kv,h3⟩,⟨k,h4⟩,⟨kr,h5⟩⟩,h6,_⟩:=h
 refine (view_any w A c g k kv kr r m p hC hc h2 h1 h3 h4 h5 h6).mono ?_
 rintro e w' ⟨bg,bv,bm,vo,vp,vs,rfl,hst⟩
 exact ⟨bv,bm,vo,vp,rfl,hst.rd,hst.hb⟩
theorem doms_is (w:World) (bv bm:Nat) (vo vp:Value) (g:List (List Int)) (r:List Int) (m:List (Int × Int)) (p:List (List Int)) (d:List Int) (hv:ViewRd w bv bm vo vp r m p) (h:DomIs g r m p d) :
  Calls Try.prog 56 #[.pointer (some ⟨bv,0,none⟩),.int .i64 g.length] w fun e w'=>∃ v,e=.returned v/\kI.R 3 w' w.heap.size (fun _=>True) v d/\Below w.heap.size w w':=by
 obtain ⟨⟨⟨h1,h2,_⟩,_,h3⟩,h4,_,k,h5⟩:=h
 exact dominators_any w bv bm vo vp r m p g.length k d hv h1 h2 h3 h4 h5
set_option maxRecDepth 100000 in
set_option maxHeartbeats 4000000 in
theorem dominates_any (w:World) (bv bm:Nat) (vo vp:Value) (r:List Int) (m:List (Int × Int)) (p:List (List Int)) (idom:List Int) (A:Option Addr) (c k:Nat) (s u n:Int) (hv:ViewRd w bv bm vo vp r m p) (hi:kI.C w A idom.length idom) (h:climb m idom k u s=some n) :
  Calls Try.prog 57 #[.pointer (some ⟨bv,0,none⟩),.slice A idom.length c,.int .i64 s,.int .i64 u] w fun e w'=>e=.returned (.bool (decide (n=s)))/\Same w w':=by
 have H:=ak_ h
 have VV:=ak_ hv
 have HI:=ak_ hi
 have W0:=ak_ (Same.refl w)
 clear h hv hi
 go_enter Try.func57,Try.ntmps57
 go_wp2
 go_loopg [3] k (fun kq v3 wq=>∃ a,v3=.int .i64 a/\Aside0 (climb m idom kq a s=some n)/\Aside0 (Same w wq))
 case atStart=>exact ⟨u,rfl,H,W0⟩
 case round =>
  obtain ⟨x,rfl,hC,hS2⟩:=hrel
  have h:=hC.out
  cases hk2:gk with
  | zero=>rw [hk2] at h;simp [climb] at h
  | succ gk2 =>
   rw [hk2] at h
   simp only [climb] at h
   obtain ⟨wd,hwd⟩:∃ wd,wd=wr.drew:=⟨_,rfl⟩
   have SD:=ak_ (show Same w wd by rw [hwd];exact hS2.out.drew)
   have VD:=VV.out.below SD.out.hb
   have d5:=Kd.C_below HI.out SD.out.hb
   have d2:wd.cell? ⟨bv,1,none⟩=some (.map (some bm)):=cell_blk VD.h2 rfl
   have d3:=VD.h3
   have L1:=look_I d3 x
   have L2:=look_I d3 s
   have HD:=ak_ hwd
   have hk2:=ak_ hk2
   by_cases hgt:mI0 m x > mI0 m s
   ·rw [if_pos hgt] at h
    by_cases hx:0<=x/\x < idom.length
    ·rw [if_pos hx] at h
     have H5:=ak_ h
     obtain ⟨x,rfl⟩:=Int.eq_ofNat_of_zero_le hx.1
     have hx2:x < idom.length:=by omega
     have hx3:(x:Int) < idom.length:=hx.2
     obtain ⟨ad,had,e1⟩:=C_num d5 x hx2
     cases had
     obtain ⟨v,hv⟩:∃ v,v=idom.getD x 0:=⟨_,rfl⟩
     rw [<-hv] at e1
     have HV:=ak_ hv
     clear h hv hwd d5 d3 hx hC VD
     go_wp2_with (first | (rw [<-HD.out]) | (refine wp_region_txt (fun _=>True) [] (by kernel_rfl) (by kernel_rfl) ?_) | (with_reducible refine wpT_nil ?_) | (refine wpT_W (v:=?_) trivial (by decide) (wn_ rfl) (fun _ hS_=>?_) ?_;rotate_left;(focus ((try dsimp only at hS_);go_simp;rfl));(simp only [Act.put,sA_,sB_,sC_])) | (refine wpT_R (v:=?_) trivial (by decide) (wn_ rfl) ?_ ?_;rotate_left;(focus (go_simp;rfl));(simp only [Act.put,sA_,sB_,sC_])) | (refine wpT_A (v:=?_) (ob:=?_) trivial (by decide) (wn_ rfl) ?_ ?_ ?_;rotate_left 2;(focus (go_simp;first | (constructor <;> rfl) | rfl));(focus (exact trivial));(simp only [Act.put,sA_,sB_,sC_])))
     go_roundg gk2
     case measure=>have:=hk2.out;omega
     case rel=>exact ⟨_,rfl,⟨by have:=H5.out;rw [Int.toNat_natCast] at this;rw [HV.out];exact this⟩,SD⟩
    ·rw [if_neg hx] at h;cases h
   ·rw [if_neg hgt] at h
    have H5:=ak_ (Option.some.inj h)
    clear h hwd d5 d3 hC VD
    go_wp2_with (first | (rw [<-HD.out]) | (refine wp_region_txt (fun _=>True) [] (by kernel_rfl) (by kernel_rfl) ?_) | (with_reducible refine wpT_nil ?_) | (refine wpT_W (v:=?_) trivial (by decide) (wn_ rfl) (fun _ hS_=>?_) ?_;rotate_left;(focus ((try dsimp only at hS_);go_simp;rfl));(simp only [Act.put,sA_,sB_,sC_])) | (refine wpT_R (v:=?_) trivial (by decide) (wn_ rfl) ?_ ?_;rotate_left;(focus (go_simp;rfl));(simp only [Act.put,sA_,sB_,sC_])) | (refine wpT_A (v:=?_) (ob:=?_) trivial (by decide) (wn_ rfl) ?_ ?_ ?_;rotate_left 2;(focus (go_simp;first | (constructor <;> rfl) | rfl));(focus (exact trivial));(simp only [Act.put,sA_,sB_,sC_])))
    go_ret
    have e5:=H5.out
    subst e5
    refine ⟨?_,SD.out⟩
    by_cases hxs:x=s
    ·subst hxs;simp
    ·simp [hxs]
structure RedSt (w:World) (bx bv bm c ci:Nat) (A Ai:Option Addr) (g:List (List Int)) (vo vp:Value) (r:List Int) (m:List (Int × Int)) (p:List (List Int)) (d:List Int):Prop where
 hx:w.heap[bx]?=some (.cells #[.slice A g.length c] 27 (0,0))
 hg:kG.C w A g.length g
 hv:ViewRd w bv bm vo vp r m p
 hi:kI.C w Ai d.length d
theorem RedSt.below {w w':World} {bx bv bm c ci:Nat} {A Ai:Option Addr} {g:List (List Int)} {vo vp:Value} {r:List Int} {m:List (Int × Int)} {p:List (List Int)} {d:List Int} (h:RedSt w bx bv bm c ci A Ai g vo vp r m p d) (hb:Below w.heap.size w w'):RedSt w' bx bv bm c ci A Ai g vo vp r m p d :=
 ⟨(hb.block _ (blk_lt' h.hx)).trans h.hx,Kd.C_below h.hg hb,h.hv.below hb,Kd.C_below h.hi hb⟩
set_option maxRecDepth 100000 in
set_option maxHeartbeats 4000000 in
theorem reducible_any (w:World) (A:Option Addr) (c:Nat) (g:List (List Int)) (b:Bool) (hC:kG.C w A g.length g) (hc:g.length<=c) (h:RedIs g b) :
  Calls Try.prog 38 #[.agg #[.slice A g.length c]] w fun e w'=>e=.returned (.bool b)/\Below w.heap.size w w':=by
 have HC:=ak_ hC
 have hcc:=ak_ hc
 clear hC hc
 rcases h with ⟨⟨kv,hv⟩,rfl⟩ | ⟨r,m,p,d,k,hd,hr⟩
 ·have HV:=ak_ hv
  clear hv
  go_enter Try.func38,Try.ntmps38
  go_wp2_with (first
   | (go_at_call 36;refine (PShapeReducible.flow_Valid.calls kv A c g false _ (Kd.C_alloc HC.out _) hcc.out HV.out).mono ?_;rintro e w1 ⟨rfl,hb1⟩;have B1:=ak_ hb1;clear hb1))
  go_ret
  exact ⟨rfl,((Below.refl _ _).alloc (Nat.le_refl _) _).trans (B1.out.mono (by simp))⟩
 ·obtain ⟨kv,hv⟩:=hd.1.1.2.2.1
  have HV:=ak_ hv
  have HDM:=ak_ hd
  have HR:=ak_ hr
  clear hv hd hr
  go_enter Try.func38,Try.ntmps38
  go_wp2_with (first
   | (go_at_call 36;refine (PShapeReducible.flow_Valid.calls kv A c g true _ (Kd.C_alloc HC.out _) hcc.out HV.out).mono ?_;rintro e w1 ⟨rfl,hb1⟩;have hB1:Below w.heap.size w w1:=((Below.refl _ _).alloc (Nat.le_refl _) _).trans (hb1.mono (by simp));have B1:=ak_ hB1;have hk1:w1.heap[w.heap.size]?=some (.cells #[.slice A g.length c] 27 (0,0)):=(hb1.block _ (by simp)).trans (heap_alloc_new _ _);have K1:=ak_ hk1;have k1:w1.cell? ⟨w.heap.size,0,none⟩=some (.slice A g.length c):=cell_blk hk1 rfl;clear hb1 hB1 hk1)
   | (go_at_call 55;refine (view_is _ A c g r m p (Kd.C_below HC.out B1.out) hcc.out HDM.out.1).mono ?_;rintro e w2 ⟨bv,bm,vo,vp,rfl,hv,hb2⟩;obtain ⟨Ao,co,rfl,hoc,hoC⟩:=hv.ho;have HOC:=ak_ hoC;clear hoC;have k2:w2.cell? ⟨w.heap.size,0,none⟩=some (.slice A g.length c):=pw_cell_below hb2 k1;have V2:=ak_ hv;have B2:=ak_ hb2;clear hv hb2)
   | (go_at_call 56;refine (doms_is _ bv bm _ vp g r m p d V2.out HDM.out).mono ?_;rintro e w3 ⟨v,rfl,hr3,hb3⟩;obtain ⟨Ai,ci,rfl,_,hi3⟩:=R_C hr3;have RS:=ak_ (show RedSt w3 w.heap.size bv bm c ci A Ai g _ vp r m p d from ⟨(hb3.block _ (blk_lt' ((B2.out.block _ (blk_lt' K1.out)).trans K1.out))).trans ((B2.out.block _ (blk_lt' K1.out)).trans K1.out),Kd.C_below (Kd.C_below (Kd.C_below HC.out B1.out) B2.out) hb3,V2.out.below hb3,hi3⟩);have k3:w3.cell? ⟨bv,0,none⟩=some (.slice Ao r.length co):=cell_blk (V2.out.below hb3).h2 rfl;have B3:=ak_ (B1.out.trans ((B2.out.mono B1.out.size).trans (hb3.mono (by have:=B1.out.size;have:=B2.out.size;omega))));clear hr3 hb3 k1 k2))
  clear k3
  go_loopw [24] (fun t wr=>∃ i:Nat,t=.int .i64 i/\i<=r.length/\Aside0 (redOut k g m d (r.drop i)=some b)/\Aside0 (RedSt wr w.heap.size bv bm c ci A Ai g (.slice Ao r.length co) vp r m p d)/\Aside0 (Below w.heap.size w wr)) (fun t _=>r.length - (intOf t).toNat)
  case atStart=>exact ⟨0,rfl,Nat.zero_le _,by simpa using HR,RS,B3⟩
  case round =>
   obtain ⟨i,rfl,hi,hH,hS,hB⟩:=hrel
   have h:=hH.out
   by_cases hlt:i < r.length
   ·obtain ⟨n,hn⟩:∃ n,n=r.getD i 0:=⟨_,rfl⟩
    rw [List.drop_eq_getElem_cons hlt,show r[i]=n by simp [hn,List.getD_eq_getElem?_getD,hlt]] at h
    simp only [redOut] at h
    by_cases hn2:0<=n/\n < g.length
    ·rw [if_pos hn2] at h
     obtain ⟨n,rfl⟩:=Int.eq_ofNat_of_zero_le hn2.1
     rw [Int.toNat_natCast] at h
     obtain ⟨b',hb1,hb2⟩:=Option.bind_eq_some_iff.1 h
     obtain ⟨Ao',co',he,_,hoC⟩:=hS.out.hv.ho
     cases he
     obtain ⟨ado,rfl,e1⟩:=C_num hoC i hlt
     rw [<-hn] at e1
     obtain ⟨ad,A0,c0,rfl,g1,g2,g3⟩:=C_row hS.out.hg n (by omega)
     obtain ⟨l,hl⟩:∃ l,l=g.getD n []:=⟨_,rfl⟩
     rw [<-hl] at hb1 g1 g2 g3
     have e2:wr.cell? ⟨w.heap.size,0,none⟩=some (.slice (some ad) g.length c):=cell_blk hS.out.hx rfl
     have e3:wr.cell? ⟨bv,0,none⟩=some (.slice (some ado) r.length co):=cell_blk hS.out.hv.h2 rfl
     have hn3:(n:Int) < g.length:=hn2.2
     have hlt':(i:Int) < r.length:=by omega
     have hi9:r.length<=9223372036854775807:=hoC.2.1
     have hl9:l.length<=9223372036854775807:=g3.2.1
     have HB1:=ak_ hb1
     have HB2:=ak_ hb2
     have G3:=ak_ g3
     clear h hH hn hb1 hb2 hl g2 g3 hoC hn2
     go_wp2_with fail
     clear e1 e2 e3 g1
     go_loopw [34] (fun t wq=>∃ j:Nat,t=.int .i64 j/\j<=l.length/\Aside0 (redIn k m d n (l.drop j)=some b')/\Aside0 (RedSt wq w.heap.size bv bm c ci (some ad) Ai g (.slice (some ado) r.length co) vp r m p d)/\Aside0 (kI.C wq A0 l.length l)/\Aside0 (Below w.heap.size w wq)) (fun t _=>l.length - (intOf t).toNat)
     case atStart=>exact ⟨0,rfl,Nat.zero_le _,by simpa using HB1,hS,G3,hB⟩
     case round =>
      obtain ⟨j,rfl,hj,hH2,hS2,hC2,hB2⟩:=hrel
      have h2:=hH2.out
      by_cases hjl:j < l.length
      ·obtain ⟨s,hs⟩:∃ s,s=l.getD j 0:=⟨_,rfl⟩
       rw [List.drop_eq_getElem_cons hjl,show l[j]=s by simp [hs,List.getD_eq_getElem?_getD,hjl]] at h2
       simp only [redIn] at h2
       obtain ⟨ad2,rfl,e6⟩:=C_num hC2.out j hjl
       rw [<-hs] at e6
       obtain ⟨wd,hwd⟩:∃ wd,wd=wr.drew:=⟨_,rfl⟩
       have hbd:Below wr.heap.size wr wd:=by rw [hwd];exact (Below.refl _ _).drew
       have SD:=ak_ (hS2.out.below hbd)
       have CD:=ak_ (Kd.C_below hC2.out hbd)
       have BD:=ak_ (show Below w.heap.size w wd by rw [hwd];exact hB2.out.drew)
       have d2:wd.cell? ⟨bv,1,none⟩=some (.map (some bm)):=cell_blk SD.out.hv.h2 rfl
       have L1:=look_I SD.out.hv.h3 s
       have L2:=look_I SD.out.hv.h3 n
       have hjl':(j:Int) < l.length:=by omega
       have HD:=ak_ hwd
       clear hs hwd hbd hH2
       by_cases hle:mI0 m s<=mI0 m n
       ·rw [if_pos hle] at h2
        obtain ⟨n',h3,h4⟩:=Option.bind_eq_some_iff.1 h2
        have H3:=ak_ h3
        have H4:=ak_ h4
        clear h2 h3 h4
        go_wp2_with (first | (rw [<-HD.out]) | (refine wp_region_txt (fun _=>True) [] (by kernel_rfl) (by kernel_rfl) ?_) | (with_reducible refine wpT_nil ?_) | (refine wpT_W (v:=?_) trivial (by decide) (by first | exact wn_ rfl | rfl) (fun _ hS_=>?_) ?_;rotate_left;(focus ((try dsimp only at hS_);go_simp;rfl));(simp only [Act.put,sA_,sB_,sC_])) | (refine wpT_R (v:=?_) trivial (by decide) (by first | exact wn_ rfl | rfl) ?_ ?_;rotate_left;(focus (go_simp;rfl));(simp only [Act.put,sA_,sB_,sC_])) | (refine wpT_A (v:=?_) (ob:=?_) trivial (by decide) (by first | exact wn_ rfl | rfl) ?_ ?_ ?_;rotate_left 2;(focus (go_simp;first | (constructor <;> rfl) | rfl));(focus (exact trivial));(simp only [Act.put,sA_,sB_,sC_])) | (refine wpT_no trivial rfl (by decide) ?_;(simp only [Act.put,sA_,sB_,sC_])))
        refine wpT_L trivial (by decide) (by first | exact wn_ rfl | rfl) (fun K_ hK_=>?_)
        go_wp2_with (go_at_call 57;refine (dominates_any wd bv bm _ vp r m p d Ai ci k s n n' SD.out.hv SD.out.hi H3.out).mono ?_;rintro e w4 ⟨rfl,hs4⟩;have HS4:=ak_ hs4;clear hs4)
        refine hK_ _ _ trivial ?_
        clear hK_
        have SD4:=ak_ (SD.out.below HS4.out.hb)
        have CD4:=ak_ (Kd.C_below CD.out HS4.out.hb)
        have BD4:=ak_ (BD.out.trans (HS4.out.hb.mono BD.out.size))
        have h4:=H4.out
        by_cases hns:n'=s
        ·rw [if_pos hns] at h4
         have H5:=ak_ h4
         subst hns
         clear h4 H4
         iterate 3 ((first | (with_reducible refine wpT_nil ?_) | (refine wpT_W (v:=?_) trivial (by decide) (by first | exact wn_ rfl | rfl) (fun _ hS_=>?_) ?_;rotate_left;(focus ((try dsimp only at hS_);go_simp;rfl))) | (refine wpT_R (v:=?_) trivial (by decide) (by first | exact wn_ rfl | rfl) ?_ ?_;rotate_left;(focus (go_simp;rfl))) | (refine wpT_A (v:=?_) (ob:=?_) trivial (by decide) (by first | exact wn_ rfl | rfl) ?_ ?_ ?_;rotate_left 2;(focus (go_simp;first | (constructor <;> rfl) | rfl));(focus (exact trivial))) | (refine wpT_no trivial rfl (by decide) ?_));(try simp only [Act.put,sA_,sB_,sC_]))
         go_wp2
         go_roundw
         case rel=>exact ⟨j+1,by go_num,by omega,H5,SD4,CD4,BD4⟩
         case measure=>simp [intOf];omega
        ·rw [if_neg hns] at h4
         have hb:b=false:=by
          have e:=Option.some.inj h4
          have:=HB2.out
          rw [<-e,if_neg (by decide)] at this
          exact (Option.some.inj this).symm
         subst hb
         clear h4 H4
         iterate 3 ((first | (with_reducible refine wpT_nil ?_) | (refine wpT_W (v:=?_) trivial (by decide) (by first | exact wn_ rfl | rfl) (fun _ hS_=>?_) ?_;rotate_left;(focus ((try dsimp only at hS_);go_simp;rfl))) | (refine wpT_R (v:=?_) trivial (by decide) (by first | exact wn_ rfl | rfl) ?_ ?_;rotate_left;(focus (go_simp;rfl))) | (refine wpT_A (v:=?_) (ob:=?_) trivial (by decide) (by first | exact wn_ rfl | rfl) ?_ ?_ ?_;rotate_left 2;(focus (go_simp;first | (constructor <;> rfl) | rfl));(focus (exact trivial))) | (refine wpT_no trivial rfl (by decide) ?_));(try simp only [Act.put,sA_,sB_,sC_]))
         go_wp2
         go_ret
         exact ⟨rfl,BD4.out⟩
       ·rw [if_neg hle] at h2
        have H4:=ak_ h2
        clear h2
        go_wp2_with (first | (rw [<-HD.out]) | (refine wp_region_txt (fun _=>True) [] (by kernel_rfl) (by kernel_rfl) ?_) | (with_reducible refine wpT_nil ?_) | (refine wpT_W (v:=?_) trivial (by decide) (by first | exact wn_ rfl | rfl) (fun _ hS_=>?_) ?_;rotate_left;(focus ((try dsimp only at hS_);go_simp;rfl));(simp only [Act.put,sA_,sB_,sC_])) | (refine wpT_R (v:=?_) trivial (by decide) (by first | exact wn_ rfl | rfl) ?_ ?_;rotate_left;(focus (go_simp;rfl));(simp only [Act.put,sA_,sB_,sC_])) | (refine wpT_A (v:=?_) (ob:=?_) trivial (by decide) (by first | exact wn_ rfl | rfl) ?_ ?_ ?_;rotate_left 2;(focus (go_simp;first | (constructor <;> rfl) | rfl));(focus (exact trivial));(simp only [Act.put,sA_,sB_,sC_])) | (refine wpT_no trivial rfl (by decide) ?_;(simp only [Act.put,sA_,sB_,sC_])))
        go_roundw
        case rel=>exact ⟨j+1,by go_num,by omega,H4,SD,CD,BD⟩
        case measure=>simp [intOf];omega
      ·have:j=l.length:=by omega
       subst this
       rw [List.drop_length] at h2
       simp only [redIn,Option.some.injEq] at h2
       subst h2
       have H4:=ak_ (show redOut k g m d (r.drop (i+1))=some b by have:=HB2.out;rwa [if_pos rfl] at this)
       go_wp2
       go_roundw
       case rel=>exact ⟨i+1,by go_num,by omega,H4,hS2,hB2⟩
       case measure=>simp [intOf];omega
    ·rw [if_neg hn2] at h;cases h
   ·obtain rfl:i=r.length:=by omega
    rw [List.drop_length] at h
    simp only [redOut,Option.some.injEq] at h
    subst h
    go_wp2
    go_ret
    exact ⟨rfl,hB.out⟩
set_option maxRecDepth 100000 in
set_option maxHeartbeats 4000000 in
theorem dominators_is (w:World) (A:Option Addr) (c:Nat) (g:List (List Int)) (d:List Int) (hC:kG.C w A g.length g) (hc:g.length<=c) (h:DominatorsIs g d) :
  Calls Try.prog 65 #[.agg #[.slice A g.length c]] w fun e w'=>∃ v,e=.returned v/\kI.R 3 w' w.heap.size (fun _=>True) v d/\Below w.heap.size w w':=by
 obtain ⟨r,m,p,d',hd,rfl⟩:=h
 obtain ⟨kv,hv⟩:=hd.1.1.2.2.1
 have hg0:0 < d'.length:=by have:=hd.1.1.1;have:=hd.2.2.1;omega
 have HC:=ak_ hC
 have hcc:=ak_ hc
 have HV:=ak_ hv
 have HDM:=ak_ hd
 clear hC hc hv hd
 go_enter Try.func65,Try.ntmps65
 go_wp2_with (first
  | (go_at_call 36;refine (PShapeReducible.flow_Valid.calls kv A c g true _ (Kd.C_alloc HC.out _) hcc.out HV.out).mono ?_;rintro e w1 ⟨rfl,hb1⟩;have hB1:Below w.heap.size w w1.drew:=(((Below.refl _ _).alloc (Nat.le_refl _) _).trans (hb1.mono (by simp))).drew;have B1:=ak_ hB1;have hk1:w1.drew.heap[w.heap.size]?=some (.cells #[.slice A g.length c] 27 (0,0)):=(hb1.block _ (by simp)).trans (heap_alloc_new _ _);have K1:=ak_ hk1;have k1:w1.drew.cell? ⟨w.heap.size,0,none⟩=some (.slice A g.length c):=cell_blk hk1 rfl;have k1':w1.cell? ⟨w.heap.size,0,none⟩=some (.slice A g.length c):=k1;clear hb1 hB1 hk1)
  | (refine wp_region_txt (fun W=>W.cell? ⟨w.heap.size,0,none⟩=some (.slice A g.length c)) [3] (by kernel_rfl) (by kernel_rfl) ?_))
 ((first | (with_reducible refine wpT_nil ?_) | (refine wpT_W (v:=?_) (by assumption) (by decide) (wn_ rfl) (fun _ hS_=>?_) ?_;rotate_left;(focus ((try dsimp only at hS_);go_simp;rfl))) | (refine wpT_R (v:=?_) (by assumption) (by decide) (wn_ rfl) ?_ ?_;rotate_left;(focus (go_simp;rfl))) | (refine wpT_A (v:=?_) (ob:=?_) (by assumption) (by decide) (wn_ rfl) ?_ ?_ ?_;rotate_left 2;(focus (go_simp;first | (constructor <;> rfl) | rfl));(focus (apply cell_alloc;assumption))));(try simp only [Act.put,sA_,sB_,sC_]))
 refine wpT_L k1 (by decide) (wn_ rfl) (fun K_ hK_=>?_)
 go_wp2_with (go_at_call 55;refine (view_is _ A c g r m p (Kd.C_below HC.out B1.out) hcc.out HDM.out.1).mono ?_;rintro e w2 ⟨bv,bm,vo,vp,rfl,hv,hb2⟩;have k2:w2.cell? ⟨w.heap.size,0,none⟩=some (.slice A g.length c):=pw_cell_below hb2 k1;have V2:=ak_ hv;have B2:=ak_ (B1.out.trans (hb2.mono B1.out.size));clear hv hb2)
 refine hK_ _ _ k2 ?_
 clear hK_ k1 k1'
 ((first | (with_reducible refine wpT_nil ?_) | (refine wpT_W (v:=?_) (by assumption) (by decide) (wn_ rfl) (fun _ hS_=>?_) ?_;rotate_left;(focus ((try dsimp only at hS_);go_simp;rfl))) | (refine wpT_R (v:=?_) (by assumption) (by decide) (wn_ rfl) ?_ ?_;rotate_left;(focus (go_simp;rfl))) | (refine wpT_A (v:=?_) (ob:=?_) (by assumption) (by decide) (wn_ rfl) ?_ ?_ ?_;rotate_left 2;(focus (go_simp;first | (constructor <;> rfl) | rfl));(focus (apply cell_alloc;assumption))));(try simp only [Act.put,sA_,sB_,sC_]))
 ((first | (with_reducible refine wpT_nil ?_) | (refine wpT_W (v:=?_) (by assumption) (by decide) (wn_ rfl) (fun _ hS_=>?_) ?_;rotate_left;(focus ((try dsimp only at hS_);go_simp;rfl))) | (refine wpT_R (v:=?_) (by assumption) (by decide) (wn_ rfl) ?_ ?_;rotate_left;(focus (go_simp;rfl))) | (refine wpT_A (v:=?_) (ob:=?_) (by assumption) (by decide) (wn_ rfl) ?_ ?_ ?_;rotate_left 2;(focus (go_simp;first | (constructor <;> rfl) | rfl));(focus (apply cell_alloc;assumption))));(try simp only [Act.put,sA_,sB_,sC_]))
 ((first | (with_reducible refine wpT_nil ?_) | (refine wpT_W (v:=?_) (by assumption) (by decide) (wn_ rfl) (fun _ hS_=>?_) ?_;rotate_left;(focus ((try dsimp only at hS_);go_simp;rfl))) | (refine wpT_R (v:=?_) (by assumption) (by decide) (wn_ rfl) ?_ ?_;rotate_left;(focus (go_simp;rfl))) | (refine wpT_A (v:=?_) (ob:=?_) (by assumption) (by decide) (wn_ rfl) ?_ ?_ ?_;rotate_left 2;(focus (go_simp;first | (constructor <;> rfl) | rfl));(focus (apply cell_alloc;assumption))));(try simp only [Act.put,sA_,sB_,sC_]))
 refine wpT_L k2 (by decide) (wn_ rfl) (fun K_ hK_=>?_)
 go_wp2_with (go_at_call 56;refine (doms_is _ bv bm vo vp g r m p d' V2.out HDM.out).mono ?_;rintro e w3 ⟨v,rfl,hr3,hb3⟩;have hr3:=Kd.R_lower hr3 (base':=w.heap.size) B2.out.size;obtain ⟨gi,ci,rfl,hgb,_⟩:=Kd.R_form hr3 (by simpa using hg0);have k3:w3.cell? ⟨w.heap.size,0,none⟩=some (.slice A g.length c):=pw_cell_below hb3 k2;have R3:=ak_ hr3;have B3:=ak_ (B2.out.trans (hb3.mono B2.out.size));clear hr3 hb3)
 refine hK_ _ _ k3 ?_
 clear hK_ k2
 iterate 2 ((first | (with_reducible refine wpT_nil ?_) | (refine wpT_W (v:=?_) (by assumption) (by decide) (wn_ rfl) (fun _ hS_=>?_) ?_;rotate_left;(focus ((try dsimp only at hS_);go_simp;rfl))) | (refine wpT_R (v:=?_) (by assumption) (by decide) (wn_ rfl) ?_ ?_;rotate_left;(focus (go_simp;rfl))) | (refine wpT_A (v:=?_) (ob:=?_) (by assumption) (by decide) (wn_ rfl) ?_ ?_ ?_;rotate_left 2;(focus (go_simp;first | (constructor <;> rfl) | rfl));(focus (apply cell_alloc;assumption))));(try simp only [Act.put,sA_,sB_,sC_]))
 have hown:=Kd.own_of_R R3.out
 have f1:w3.cell? ⟨gi,0,none⟩=some (.int .i64 (d'.getD 0 0)):=own_cell hown 0 hg0 (by simp [encs,List.getD_eq_getElem?_getD,hg0])
 have f2:w3.frozen? ⟨gi,0,none⟩=false:=hown.frozenAt 0
 have hd0:0 < (d'.length:Int):=by omega
 have HO:=ak_ hown
 clear hown k3
 go_wp2
 go_ret
 refine ⟨_,rfl,?_,B3.out.setCell (p:=⟨gi,0,none⟩) hgb _⟩
 have:=(HO.out.stored 0 (.int .i64 (-1))).1
 exact Kd.R_of_own (by simpa [encs,List.map_set] using this) (by simp)
end Go.Proofs.Ytfiiihpdekppiaa
end
section
namespace Go.Proofs.Ytfiiihpdekppiaa
open Go.RowKit Go.Proofs Go.Sort Go.Proofs.YtfiiihpdekppiaaW.PrintWords
theorem sortI_length (xs:List Int):(sortI xs).length=xs.length:=by simp [sortI]
theorem sort_any (w:World) (base:Nat) (v:Value) (xs:List Int) (ho:w.ownsRow base 3 1 v xs.length (nums .i64 xs)) (hl:xs.length<=1000000000) :
  Calls Try.prog 81 #[v] w fun e w'=>e=.returned (.tuple #[])/\w'.ownsRow base 3 1 v xs.length (nums .i64 (sortI xs))/\w.grownBy w' v.ownBlock:=by
 rcases ho.2 with ⟨rfl,h0⟩ | ⟨g,cap,cur,rfl,hb,hg,hn,hcap,hsz,ht⟩
 ·obtain rfl:xs=[]:=List.eq_nil_of_length_eq_zero h0
  refine (Try.slices_Sort_int_none none 0 w).mono ?_
  rintro e w' ⟨rfl,rfl⟩
  exact ⟨rfl,by simpa [sortI] using ho,World.grownBy.refl w' _⟩
 ·have hH:=holds_of_blockI (ss:=xs) hg (by rw [Nat.mul_one] at ht;rw [ht];rfl)
  refine (Try.slices_Sort_int g 0 cap xs w hH (blk_lt' hg) (by omega)).mono ?_
  rintro e w' ⟨rfl,n,os,rfl⟩
  refine ⟨rfl,?_,grownBy_sortedI _⟩
  exact ownsRow_sortedI (ts:=sortI xs) (sortI_length xs) hb hg hn hcap (by rw [hsz])
theorem own_lit0 (w:World):(w.alloc (.cells #[] 3)).ownsRow w.heap.size 3 1 (.slice (some ⟨w.heap.size,0,none⟩) 0 0) ([]:List Int).length (encs (Value.int .i64) ([]:List Int)) :=
 ⟨by simp [encs],.inr ⟨w.heap.size,0,#[],rfl,Nat.le_refl _,heap_alloc_new _ _,Nat.le_refl _,by simp [maxLen],by simp,by simp [encs]⟩⟩
set_option maxRecDepth 100000 in
set_option maxHeartbeats 4000000 in
theorem clone_any (w:World) (A:Option Addr) (c:Nat) (xs:List Int) (hC:kI.C w A xs.length xs) (hl:xs.length<=1000000000) :
  Calls Try.prog 37 #[.slice A xs.length c] w fun e w'=>∃ v,e=.returned v/\kI.R 3 w' w.heap.size (fun _=>True) v xs/\Below w.heap.size w w':=by
 have HC:=ak_ hC
 clear hC
 cases A with
 | none =>
  have h0:xs=[]:=by
   cases xs with
   | nil=>rfl
   | cons x l=>obtain ⟨ad,h,_⟩:=C_num HC.out 0 (by simp);cases h
  subst h0
  refine (Try.slices_Clone_int_nil 0 c w).mono ?_
  rintro e w' ⟨rfl,rfl⟩
  exact ⟨_,rfl,Kd.R_of_own (by simpa [encs] using own_nil w' w'.heap.size 3 1) (by simp),Below.refl _ _⟩
 | some a =>
  have q22:∀ (w:World) (a:Option Addr) (n c n' c':Nat),(binOp .eql 23 (.slice a n c) (.slice none n' c')).run Try.prog w=.ok (.bool a.isNone) w:=fun w a n c n' c'=>Lib.run_eql_slice_nil w _ _ a n c n' c' Try.underlying23
  go_enter Try.func37,Try.ntmps37
  go_wp2_with (first
   | ((with_reducible refine gate_dst (N:=7) rfl ?_);refine Kd.R_append_row (Value.int .i64) (0:Int) (h1:=fun _=>rfl) (w0:=w) w.heap.size rfl (.tmp 5) (.tmp 6) 23 3 (.int .i64 0) 8 rfl Try.underlying23 PShapeReducible.info3 rfl (by decide) _ [] xs (some a) xs.length c (fun _=>True) rfl rfl (fun _ _=>trivial) (Kd.R_of_own (own_lit0 w) (by simp)) (Kd.C_alloc HC.out _) ((Below.refl _ _).alloc (Nat.le_refl _) _) (by simp) (by simp;omega) ?_;intro v1 w1 hr hb _ _;obtain ⟨A1,c1,rfl⟩:=Kd.R_slice hr;have R1:=ak_ hr;have B1:=ak_ hb;clear hr hb))
  go_ret
  exact ⟨_,rfl,R1.out,B1.out⟩
end Go.Proofs.Ytfiiihpdekppiaa
end
section
namespace Go.Proofs.Ytfiiihpdekppiaa
open Go.RowKit Go.Proofs Go.Proofs.YtfiiihpdekppiaaW.PrintWords
open Go.ChangeMaps (setBlock heap_setBlock_same heap_setBlock_other)
theorem zero4 (w:World):(zeroValue 4).run Try.prog w=.ok (.bool false) w:=by kernel_rfl
def mB (l:List (Int × Bool)):Obj:=mObj (l.map fun p=>(p.1,.bool p.2))
theorem look_B {w:World} {b:Nat} {m:List (Int × Bool)} (h:w.heap[b]?=some (mB m)) (k:Int):(Instr.lookup 68 (.map (some b)) (.int .i64 k) false).run Try.prog w=.ok (.bool (mB0 m k)) w:=by
 rw [run_look Try.underlying68 Try.underlying3 h zero4]
 congr 1
 rw [mget_map,mB0]
 cases mget m k <;> rfl
theorem put_B {w:World} {b:Nat} {m:List (Int × Bool)} (h:w.heap[b]?=some (mB m)) (k:Int) (v:Bool):(Instr.mapUpdate 68 (.map (some b)) (.int .i64 k) (.bool v)).run Try.prog w=.ok () (setBlock w b (mB (mput m k v))):=by
 rw [run_put Try.underlying68 Try.underlying3 h]
 congr 2
 unfold mB
 rw [<-mput_map]
theorem below_setBlock {B b:Nat} {w w':World} {es:Array MapEntry} {ck:Nat} (h:Below B w w') (hb:B<=b) (hm:w'.heap[b]?=some (.map es ck)) (o:Obj):Below B w (setBlock w' b o) :=
 ⟨h.os,h.tape,h.output,by simpa [setBlock] using h.size,fun k hk=>(heap_setBlock_other hm o (by omega)).trans (h.block k hk)⟩
set_option maxRecDepth 100000 in
set_option maxHeartbeats 4000000 in
theorem set_any (w:World) (A:Option Addr) (c:Nat) (xs:List Int) (wo:Int) (hC:kI.C w A xs.length xs) :
  Calls Try.prog 40 #[.slice A xs.length c,.int .i64 wo] w fun e w'=>∃ b,e=.returned (.map (some b))/\w'.heap[b]?=some (mB (setF wo xs []))/\w.heap.size<=b/\Below w.heap.size w w':=by
 have HC:=ak_ hC
 have hl9:xs.length<=9223372036854775807:=hC.2.1
 have hmm:=@run_makeMap Try.prog
 clear hC
 go_enter Try.func40,Try.ntmps40
 go_wp2
 have M0:(w.alloc (.map #[] 0)).heap[w.heap.size]?=some (mB []):=heap_alloc_new _ _
 have B0:Below w.heap.size w (w.alloc (.map #[] 0)):=(Below.refl _ _).alloc (Nat.le_refl _) _
 have M0:=ak_ M0
 have B0:=ak_ B0
 clear hmm
 go_loopw [11] (fun t wr=>∃ (i:Nat),t=.int .i64 i/\i<=xs.length/\Aside0 (wr.heap[w.heap.size]?=some (mB (setF wo (xs.take i) [])))/\Aside0 (Below w.heap.size w wr)) (fun t _=>xs.length - (intOf t).toNat)
 case atStart=>exact ⟨0,rfl,Nat.zero_le _,M0,B0⟩
 case round =>
  obtain ⟨i,rfl,hi,hM,hB⟩:=hrel
  by_cases hlt:i < xs.length
  ·obtain ⟨ad,rfl,e1⟩:=C_num (Kd.C_below HC.out hB.out) i hlt
   obtain ⟨x,hx⟩:∃ x,x=xs.getD i 0:=⟨_,rfl⟩
   rw [<-hx] at e1
   have hset:setF wo (xs.take (i+1)) []=if x≠wo then mput (setF wo (xs.take i) []) x true else setF wo (xs.take i) []:=by
    rw [List.take_succ_eq_append_getElem hlt,show xs[i]=x by simp [hx,List.getD_eq_getElem?_getD,hlt]]
    simp [setF]
   have hput:=put_B hM.out x true
   obtain ⟨w5,hw5⟩:∃ w5,w5=setBlock wr w.heap.size (mB (mput (setF wo (xs.take i) []) x true)):=⟨_,rfl⟩
   rw [<-hw5] at hput
   have hlt':(i:Int) < xs.length:=by omega
   have HS:=ak_ hset
   have HW:=ak_ hw5
   clear hset hx hw5
   by_cases hne:x=wo
   ·have E:=ak_ (show setF wo (xs.take (i+1)) []=setF wo (xs.take i) [] by rw [HS.out,if_neg (by simpa using hne)])
    subst hne
    clear hput
    go_wp2
    go_roundw
    case rel=>exact ⟨i+1,by go_num,by omega,⟨by rw [E.out];exact hM.out⟩,hB⟩
    case measure=>simp [intOf];omega
   ·have E:=ak_ (show setF wo (xs.take (i+1)) []=mput (setF wo (xs.take i) []) x true by rw [HS.out,if_pos hne])
    have hne':x≠wo:=hne
    go_wp2
    go_roundw
    case rel=>exact ⟨i+1,by go_num,by omega,⟨by rw [E.out,HW.out];exact heap_setBlock_same hM.out _⟩,⟨by rw [HW.out];exact below_setBlock hB.out (Nat.le_refl _) hM.out _⟩⟩
    case measure=>simp [intOf];omega
  ·obtain rfl:i=xs.length:=by omega
   go_wp2
   go_ret
   exact ⟨_,rfl,by simpa using hM.out,Nat.le_refl _,hB.out⟩
theorem R_own {w:World} {base:Nat} {v:Value} {xs:List Int} (h:w.ownsRow base 3 1 v xs.length (nums .i64 xs)):kI.R 3 w base (fun _=>True) v xs:=Kd.R_of_own (by simpa [nums,encs] using h) (by simp)
theorem own_R {w:World} {base:Nat} {ok:Nat->Prop} {v:Value} {xs:List Int} (h:kI.R 3 w base ok v xs):w.ownsRow base 3 1 v xs.length (nums .i64 xs):=by have:=Kd.own_of_R h;simpa [nums,encs] using this
theorem blk_below {w w':World} {b:Nat} {o:Obj} (h:w.heap[b]?=some o) (hb:Below w.heap.size w w'):w'.heap[b]?=some o:=(hb.block _ (blk_lt' h)).trans h
structure ReachSt (w0 w:World) (b:Nat) (v:Value) (out:List (Int × Bool)) (st:List Int):Prop where
 hm:w.heap[b]?=some (mB out)
 ho:w.ownsRow w0.heap.size 3 1 v st.length (nums .i64 st.reverse)
 hb:Below w0.heap.size w0 w
 b0:w0.heap.size<=b
set_option maxRecDepth 100000 in
set_option maxHeartbeats 4000000 in
theorem reachable_any (w:World) (bs bset:Nat) (As A:Option Addr) (cs c:Nat) (succ:List (List Int)) (set:List (Int × Bool)) (xs:List Int) (out:List (Int × Bool)) (k:Nat)
  (h1:w.cell? ⟨bs,0,none⟩=some (.slice As succ.length cs)) (h2:kG.C w As succ.length succ) (h3:w.heap[bset]?=some (mB set)) (hC:kI.C w A xs.length xs) (hl:xs.length<=1000000000) (h:reachLoop succ set k [] xs.reverse=some out) :
  Calls Try.prog 61 #[.pointer (some ⟨bs,0,none⟩),.slice A xs.length c,.map (some bset)] w fun e w'=>∃ b,e=.returned (.map (some b))/\w'.heap[b]?=some (mB out)/\w.heap.size<=b/\Below w.heap.size w w':=by
 have HC:=ak_ hC
 have H1:=ak_ h1
 have H2:=ak_ h2
 have H3:=ak_ h3
 have H:=ak_ h
 have hmm:=@run_makeMap Try.prog
 clear hC h h1 h2 h3
 go_enter Try.func61,Try.ntmps61
 go_wp2_with (go_at_call 37;refine (clone_any _ A c xs (Kd.C_alloc HC.out _) hl).mono ?_;rintro e w1 ⟨v,rfl,hr,hb⟩;have hz:=hb.size;have ST:=ak_ (show ReachSt w w1 w.heap.size v [] xs.reverse from ⟨(hb.block _ (by simp)).trans (heap_alloc_new _ _),by rw [List.length_reverse,List.reverse_reverse];exact own_R (Kd.R_lower hr (base':=w.heap.size) (by simp)),((Below.refl _ _).alloc (Nat.le_refl _) _).trans (hb.mono (by simp)),Nat.le_refl _⟩);clear hr hb hz)
 clear hmm
 obtain ⟨bo,hbo⟩:∃ bo,bo=w.heap.size:=⟨_,rfl⟩
 have ST:Aside0 (ReachSt w w1 bo v [] xs.reverse):=by rw [hbo];exact ST
 rw [<-hbo]
 clear hbo
 go_loopg [8] k (fun kq v8 wr=>∃ (st:List Int) (o:List (Int × Bool)),Aside0 (reachLoop succ set kq o st=some out)/\Aside0 (ReachSt w wr bo v8 o st))
 case atStart=>exact ⟨_,_,H,ST⟩
 case round =>
  obtain ⟨st,o,hH,hS⟩:=hrel
  have h:=hH.out
  cases hk:gk with
  | zero=>rw [hk] at h;simp [reachLoop] at h
  | succ gk' =>
   rw [hk] at h
   have HK:=ak_ hk
   clear hH hk
   match st,h,hS with
   | [],h,hS =>
    have hE:=ak_ (show o=out by simpa [reachLoop] using h)
    obtain ⟨A8,c8,rfl⟩:=own_slice hS.out.ho
    clear h
    go_wp2
    go_ret
    exact ⟨_,rfl,by rw [<-hE.out];exact hS.out.hm,hS.out.b0,hS.out.hb⟩
   | n :: st,h,hS =>
    have ho:=hS.out.ho
    simp only [List.length_cons,List.reverse_cons] at ho
    obtain ⟨A8,c8,rfl⟩:=own_slice ho
    obtain ⟨b8,rfl,ho2⟩:=own_pop (xs:=nums .i64 st.reverse) (ys:=[.int .i64 n]) (by simpa [nums] using ho) rfl
    have e1:wr.cell? ⟨b8,st.length,none⟩=some (.int .i64 n):=own_cell ho st.length (by omega) (by simp [nums])
    have hl9:st.length+1<=9223372036854775807:=own_len ho
    have hcap:=own_capn ho
    simp only [reachLoop] at h
    have L1:=look_B (blk_below H3.out hS.out.hb) n
    have L2:=look_B hS.out.hm n
    have HO:=ak_ (show wr.ownsRow w.heap.size 3 1 (.slice (some ⟨b8,0,none⟩) st.length c8) st.length (nums .i64 st.reverse) from ho2)
    clear ho ho2
    by_cases hcond:mB0 set n=true/\mB0 o n=false
    ·rw [if_pos hcond] at h
     obtain ⟨q1,q2⟩:=hcond
     rw [q1] at L1
     rw [q2] at L2
     by_cases hg:(0<=n/\n < succ.length)/\st.length+(succ.getD n.toNat []).length<=1000000000
     ·rw [if_pos hg] at h
      obtain ⟨n,rfl⟩:=Int.eq_ofNat_of_zero_le hg.1.1
      rw [Int.toNat_natCast] at h hg
      obtain ⟨l,hl'⟩:∃ l,l=succ.getD n []:=⟨_,rfl⟩
      rw [<-hl'] at h hg
      have hput:=put_B hS.out.hm (n:Int) true
      obtain ⟨w5,hw5⟩:∃ w5,w5=setBlock wr bo (mB (mput o n true)):=⟨_,rfl⟩
      rw [<-hw5] at hput
      have B5:Below w.heap.size w w5:=by rw [hw5];exact below_setBlock hS.out.hb hS.out.b0 hS.out.hm _
      have M5:w5.heap[bo]?=some (mB (mput o n true)):=by rw [hw5];exact heap_setBlock_same hS.out.hm _
      have O5:w5.ownsRow w.heap.size 3 1 (.slice (some ⟨b8,0,none⟩) st.length c8) st.length (nums .i64 st.reverse):=own_move HO.out (fun k hk=>by
       obtain ⟨csx,hcx⟩:=own_typed HO.out k hk
       rw [hw5]
       exact heap_setBlock_other hS.out.hm _ (blk_ne_map hcx hS.out.hm))
      obtain ⟨ad,A0,c0,rfl,g1,g2,g3⟩:=C_row (Kd.C_below H2.out B5) n (by omega)
      rw [<-hl'] at g1 g2 g3
      have k1:w5.cell? ⟨bs,0,none⟩=some (.slice (some ad) succ.length cs):=pw_cell_below B5 H1.out
      have hlt:(n:Int) < succ.length:=hg.1.2
      have hlen:=ak_ hg.2
      have H5:=ak_ h
      have B5':=ak_ B5
      have M5':=ak_ M5
      have G3:=ak_ g3
      have O5':=ak_ (show kI.R 3 w5 w.heap.size (fun _=>True) (.slice (some ⟨b8,0,none⟩) st.length c8) st.reverse from R_own (by simpa using O5))
      clear h hg q1 q2 hw5 hl' B5 M5 g3 O5
      go_wp2_with (first
       | ((with_reducible refine gate_dst (N:=46) rfl ?_);refine Kd.R_append_row (Value.int .i64) (0:Int) (h1:=fun _=>rfl) (w0:=w) w.heap.size rfl (.tmp 38) (.tmp 45) 23 3 (.int .i64 0) 8 rfl Try.underlying23 PShapeReducible.info3 rfl (by decide) _ st.reverse l A0 l.length c0 (fun _=>True) rfl rfl (fun _ _=>trivial) O5'.out G3.out B5'.out B5'.out.size (by have:=hlen.out;simp;omega) ?_;intro v6 w6 hr6 hb6 hg6 _;have R6:=ak_ (show kI.R 3 w6 w.heap.size (fun _=>True) v6 (st.reverse++l) from hr6);have B6:=ak_ hb6;have M6:=ak_ (show w6.heap[bo]?=some (mB (mput o n true)) from (hg6.block _ (blk_lt' M5'.out) (fun e=>by obtain ⟨csx,hcx⟩:=own_typed (own_R O5'.out) bo e.symm;exact blk_ne_map hcx M5'.out rfl)).trans M5'.out);clear hr6 hb6 hg6))
      go_roundg gk'
      case measure=>have:=HK.out;omega
      case rel =>
       refine ⟨l.reverse++st,_,H5,⟨M6.out,?_,B6.out,hS.out.b0⟩⟩
       have:=own_R R6.out
       simpa [Nat.add_comm] using this
     ·rw [if_neg hg] at h;cases h
    ·rw [if_neg hcond] at h
     have H5:=ak_ h
     have S5:=ak_ (show ReachSt w wr bo (.slice (some ⟨b8,0,none⟩) st.length c8) o st from ⟨hS.out.hm,HO.out,hS.out.hb,hS.out.b0⟩)
     cases q1:mB0 set n with
     | false =>
      rw [q1] at L1
      clear h hcond q1 L2
      go_wp2
      go_roundg gk'
      case measure=>have:=HK.out;omega
      case rel=>exact ⟨_,_,H5,S5⟩
     | true =>
      cases q2:mB0 o n with
      | false=>exact absurd ⟨q1,q2⟩ hcond
      | true =>
       rw [q1] at L1
       rw [q2] at L2
       clear h hcond q1 q2
       go_wp2
       go_roundg gk'
       case measure=>have:=HK.out;omega
       case rel=>exact ⟨_,_,H5,S5⟩
end Go.Proofs.Ytfiiihpdekppiaa
end
