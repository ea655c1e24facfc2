/- A part of the proof that vellumlaw12.ShapeAcyclic is true for every input: walks of functions that the row reaches and plain laws that they need. Conditions: none. Joined by merge.py out of C1 C2 C3 C4 C5; a part that began as a print is named P or W there and is trimmed. -/
import Derived.Test.YtfiiihpdekppiaaA1
import Derived.Test.YtfiiihpdekppiaaA4
import Derived.Test.YtfiiihpdekppiaaA5
import Derived.Test.YtfiiihpdekppiaaA6
import Derived.Deep.RegionHeld3
import Derived.Deep.DeepCutAuto
import Derived.RangeFuncNested
import Derived.RangeFuncBound
import Derived.RangeFuncCalls
import Derived.RangeFuncLeaves
import Derived.Shelf.Abstract
import Derived.Shelf.RegionOpen
import Derived.OwnWalkIn
import Derived.TacticsInMore
import Derived.LoopNIn
import Derived.LoopIn
import Derived.Laws.CopyOwn
import Derived.Laws.Bits64b
set_option linter.unusedVariables false
set_option linter.unusedSimpArgs false
section
namespace Go.Proofs.Ytfiiihpdekppiaa
open Go.RowKit Go.Proofs Go.Proofs.YtfiiihpdekppiaaW.PrintWords
def frs (st:List (Int × Int)):List Value:=st.flatMap fun p=>[.int .i64 p.1,.int .i64 p.2]
theorem frs_append (a b:List (Int × Int)):frs (a++b)=frs a++frs b:=by simp [frs]
theorem info108:(Try.prog.info? 108).map (fun i=>(i.zero,i.size,i.bytes))=some (some (.agg #[.int .i64 0,.int .i64 0]),2,16):=by kernel_rfl
theorem info4':(Try.prog.info? 4).map (fun i=>(i.zero,i.size,i.bytes))=some (some (.bool false),1,1):=by kernel_rfl
set_option maxHeartbeats 400000 in
theorem enter_any (w:World) (base bs bst gs cs:Nat) (vst:Value) (seen:List Bool) (st:List (Int × Int)) (x:Int)
  (h1:w.heap[bs]?=some (.cells #[.slice (some ⟨gs,0,none⟩) seen.length cs] 52 (0,0))) (h2:w.heap[bst]?=some (.cells #[vst] 106 (0,0)))
  (hs:w.ownsRow base 4 1 (.slice (some ⟨gs,0,none⟩) seen.length cs) seen.length (bools seen)) (ht:w.ownsRow base 108 2 vst st.length (frs st))
  (hx0:0<=x) (hx1:x < seen.length) (hl:st.length<=1000000000) (hb:base<=w.heap.size) :
  Calls Try.prog 62 #[.int .i64 x,.pointer (some ⟨bs,0,none⟩),.pointer (some ⟨bst,0,none⟩)] w fun e w'=>e=.returned (.tuple #[])/\∃ vst',
   w'.heap[bs]?=some (.cells #[.slice (some ⟨gs,0,none⟩) seen.length cs] 52 (0,0))/\w'.heap[bst]?=some (.cells #[vst'] 106 (0,0)) /\
   w'.ownsRow base 4 1 (.slice (some ⟨gs,0,none⟩) seen.length cs) seen.length (bools (seen.set x.toNat true))/\w'.ownsRow base 108 2 vst' (st.length+1) (frs (st++[(x,0)])) /\
   Chg (fun k=>k=bst∨k=gs∨some k=vst.ownBlock) w w':=by
 have hc1:w.cell? ⟨bs,0,none⟩=some (.slice (some ⟨gs,0,none⟩) seen.length cs):=cell_blk h1 rfl
 have hc2:w.cell? ⟨bst,0,none⟩=some vst:=cell_blk h2 rfl
 obtain ⟨x,rfl⟩:=Int.eq_ofNat_of_zero_le hx0
 have hx1':x < seen.length:=by omega
 have HS:=ak_ hs
 have HT:=ak_ ht
 have H1:=ak_ h1
 have H2:=ak_ h2
 have hg1:w.cell? ⟨gs,x,none⟩=some (.bool (seen[x]'hx1')):=(hs.cellAt x (by omega)).trans (show (bools seen)[x]?=some (.bool (seen[x]'hx1')) by simp [bools,hx1'])
 have hgf:=hs.frozenAt x
 have hne1:bst≠gs:=fun e=>row_ne_blk hs h2 (by decide) (by rw [e];rfl)
 obtain ⟨w1,hw1⟩:∃ w1,w1=w.setCell ⟨gs,x,none⟩ (.bool true):=⟨_,rfl⟩
 have r1:w1.heap[bs]?=some (.cells #[.slice (some ⟨gs,0,none⟩) seen.length cs] 52 (0,0)):=by rw [hw1];exact set_blk h1 (fun e=>row_ne_blk hs h1 (by decide) (by rw [e];rfl))
 have r2:w1.heap[bst]?=some (.cells #[vst] 106 (0,0)):=by rw [hw1];exact set_blk h2 hne1
 have r3:w1.ownsRow base 4 1 (.slice (some ⟨gs,0,none⟩) seen.length cs) seen.length (bools (seen.set x true)):=by
  rw [hw1,show bools (seen.set x true)=(bools seen).set x (.bool true) by simp [bools,List.map_set]]
  exact (hs.stored x (.bool true)).1
 have r4:w1.ownsRow base 108 2 vst st.length (frs st):=by
  rw [hw1];exact set_row ht (fun e=>by rcases own_type_ne ht hs (by decide) with h | h <;> simp_all [Value.ownBlock])
 have r5:Chg (fun k=>k=bst∨k=gs∨some k=vst.ownBlock) w w1:=by rw [hw1];exact (Chg.refl _ _).setCell (fun _=>.inr (.inl rfl)) _
 have hb1:base<=w1.heap.size:=by rw [hw1];simpa [World.setCell] using hb
 have d1:w1.cell? ⟨bst,0,none⟩=some vst:=cell_blk r2 rfl
 have d2:=free_blk (i:=0) r2
 have R1:=ak_ r1
 have R2:=ak_ r2
 have R3:=ak_ r3
 have R4:=ak_ r4
 have R5:=ak_ r5
 have HW1:=ak_ hw1
 clear hc2 hne1 r1 r2 r3 r4 r5 hw1 hs ht h1 h2
 go_enter Try.func62,Try.ntmps62
 go_wp2_with (first
  | (rw [<-HW1.out])
  | (at_builtin;refine print_append_cells (w0:=w1) base rfl (.tmp 7) (.tmp 10) 106 108 (.agg #[.int .i64 0,.int .i64 0]) 2 16 rfl Try.underlying106 info108 rfl (by decide) (by decide) vst st.length (frs st) [.int .i64 x,.int .i64 0] rfl rfl rfl (by simp [Value.oneCell']) R4.out (Below.refl _ _) hb1 (by omega) ?_;intro v2 w2 ho2 _ hg2 hat2;obtain ⟨A2,c2,rfl⟩:=own_slice ho2;have e1:w2.cell? ⟨bst,0,none⟩=some vst:=cell_blk (grown_blk hg2 R4.out R2.out (by decide)) rfl;have e2:w2.frozen? ⟨bst,0,none⟩=false:=free_blk (grown_blk hg2 R4.out R2.out (by decide));have O2:=ak_ ho2;have G2:=ak_ hg2;clear ho2 hg2 hat2))
 go_end0
 rw [Int.toNat_natCast]
 refine ⟨rfl,.slice A2 (st.length+1) c2,?_,?_,?_,?_,?_⟩
 ·exact set_blk (grown_blk G2.out R4.out R1.out (by decide)) (blk_ne' R1.out R2.out (by decide))
 ·exact set_here (grown_blk G2.out R4.out R2.out (by decide))
 ·exact set_row (grown_row G2.out R4.out R3.out (by decide)) (row_ne_blk (grown_row G2.out R4.out R3.out (by decide)) (grown_blk G2.out R4.out R2.out (by decide)) (by decide))
 ·rw [frs_append];exact set_row O2.out (row_ne_blk O2.out (grown_blk G2.out R4.out R2.out (by decide)) (by decide))
 ·exact (R5.out.grown G2.out (fun k _ h=>.inr (.inr h.symm))).setCell (fun _=>.inl rfl) _
open PShapeReducible (flow_Valid.f slices_Reverse_int_int.f)
theorem frs_top {w:World} {base:Nat} {v:Value} {n i:Int} {st:List (Int × Int)} (h:w.ownsRow base 108 2 v (st.length+1) (frs ((n,i) :: st).reverse)) :
  ∃ b cap,v=.slice (some ⟨b,0,none⟩) (st.length+1) cap/\st.length+1<=9223372036854775807/\st.length+1<=cap/\w.cell? ⟨b,st.length * 2,none⟩=some (.int .i64 n)/\w.cell? ⟨b,st.length * 2+1,none⟩=some (.int .i64 i)/\w.frozen? ⟨b,st.length * 2+1,none⟩=false /\
   w.ownsRow base 108 2 (.slice (some ⟨b,0,none⟩) st.length cap) st.length (frs st.reverse) /\
   ∀ j:Int,(w.setCell ⟨b,st.length * 2+1,none⟩ (.int .i64 j)).ownsRow base 108 2 v (st.length+1) (frs ((n,j) :: st).reverse):=by
 obtain ⟨b,cap,rfl,_,_⟩:=h.form (by omega)
 have e:frs ((n,i) :: st).reverse=frs st.reverse++[.int .i64 n,.int .i64 i]:=by simp [frs]
 have el:(frs st.reverse).length=st.length * 2:=by
  have:=h.1;rw [e] at this;simp at this;omega
 rw [e] at h
 have hm:st.length+1<=9223372036854775807:=own_len h
 refine ⟨b,cap,rfl,hm,own_capn h,?_,?_,h.frozenAt _,?_,fun j=>?_⟩
 ·rw [h.cellAt _ (by omega),List.getElem?_append_right (by omega)];simp [el]
 ·rw [h.cellAt _ (by omega),List.getElem?_append_right (by omega)];simp [el]
 ·obtain ⟨b',hb',h'⟩:=own_pop h rfl
  simp only [Option.some.injEq,Addr.mk.injEq,and_true] at hb'
  rw [hb'];exact h'
 ·have:=(h.stored (st.length * 2+1) (.int .i64 j)).1
  rw [List.set_append_right _ _ (by omega),el,show st.length * 2+1 - st.length * 2=1 by omega] at this
  have e':frs ((n,j) :: st).reverse=frs st.reverse++[.int .i64 n,.int .i64 j]:=by simp [frs]
  rw [e']
  exact this
structure OrdSt (w0 w:World) (bg bs bst gs cs c:Nat) (A:Option Addr) (g:List (List Int)) (seen:List Bool) (st:List (Int × Int)) (acc:List Int) (vst v4:Value):Prop where
 h1:w.heap[bs]?=some (.cells #[.slice (some ⟨gs,0,none⟩) g.length cs] 52 (0,0))
 h2:w.heap[bst]?=some (.cells #[vst] 106 (0,0))
 h3:w.heap[bg]?=some (.cells #[.slice A g.length c] 27 (0,0))
 hs:w.ownsRow w0.heap.size 4 1 (.slice (some ⟨gs,0,none⟩) g.length cs) g.length (bools seen)
 ht:w.ownsRow w0.heap.size 108 2 vst st.length (frs st.reverse)
 hp:w.ownsRow w0.heap.size 3 1 v4 acc.length (nums .i64 acc.reverse)
 hb:Below w0.heap.size w0 w
 b1:w0.heap.size<=bs
 b2:w0.heap.size<=bst
 hsl:seen.length=g.length
theorem enter_st {w0 w:World} {bg bs bst gs cs c:Nat} {A:Option Addr} {g:List (List Int)} {seen:List Bool} {st:List (Int × Int)} {acc:List Int} {vst v4:Value} (x:Int)
  (h:OrdSt w0 w bg bs bst gs cs c A g seen st acc vst v4) (hx0:0<=x) (hx1:x < g.length) (hl:st.length<=1000000000) :
  Calls Try.prog 62 #[.int .i64 x,.pointer (some ⟨bs,0,none⟩),.pointer (some ⟨bst,0,none⟩)] w fun e w'=>e=.returned (.tuple #[])/\∃ vst',OrdSt w0 w' bg bs bst gs cs c A g (seen.set x.toNat true) ((x,0) :: st) acc vst' v4:=by
 have hsl:=h.hsl
 refine (enter_any w w0.heap.size bs bst gs cs vst seen st.reverse x (by rw [hsl];exact h.h1) h.h2 (by rw [hsl];exact h.hs) (by simpa using h.ht) hx0 (by omega) (by simpa using hl) h.hb.size).mono ?_
 rintro e w' ⟨rfl,vst',r1,r2,r3,r4,r5⟩
 have n1:∀ {k t:Nat} {cs':Array Value} {fr:Nat × Nat},w.heap[k]?=some (.cells cs' t fr)->t≠106->t≠4->t≠108->¬ (k=bst∨k=gs∨some k=vst.ownBlock):=by
  intro k t cs' fr hk t1 t2 t3 hor
  rcases hor with rfl | rfl | hv
  ·exact blk_ne' hk h.h2 t1 rfl
  ·exact row_ne_blk h.hs hk (Ne.symm t2) rfl
  ·exact row_ne_blk h.ht hk (Ne.symm t3) hv.symm
 refine ⟨rfl,vst',by rw [hsl] at r1;exact r1,r2,r5.blk h.h3 (n1 h.h3 (by decide) (by decide) (by decide)),by rw [hsl] at r3;exact r3,by simpa [frs_append] using r4,?_,?_,h.b1,h.b2,by simpa using hsl⟩
 ·refine r5.own h.hp (fun k hk=>?_)
  obtain ⟨cells,hc⟩:=own_typed h.hp k hk
  exact n1 hc (by decide) (by decide) (by decide)
 ·refine h.hb.trans (r5.to_below h.hb.size (fun k hk hor=>?_))
  rcases hor with rfl | rfl | hv
  ·have:=h.b2;omega
  ·have:=own_base h.hs _ rfl;simp only [] at this;omega
  ·have:=own_base h.ht k hv.symm;omega
theorem OrdSt.drew {w0 w:World} {bg bs bst gs cs c:Nat} {A:Option Addr} {g:List (List Int)} {seen:List Bool} {st:List (Int × Int)} {acc:List Int} {vst v4:Value}
  (h:OrdSt w0 w bg bs bst gs cs c A g seen st acc vst v4):OrdSt w0 w.drew bg bs bst gs cs c A g seen st acc vst v4:=⟨h.h1,h.h2,h.h3,h.hs,h.ht,h.hp,h.hb.drew,h.b1,h.b2,h.hsl⟩
theorem OrdSt.pop {w0 w w5:World} {bg bs bst gs cs c b cap:Nat} {A:Option Addr} {g:List (List Int)} {seen:List Bool} {n i:Int} {st:List (Int × Int)} {acc:List Int} {v4 v5:Value}
  (h:OrdSt w0 w bg bs bst gs cs c A g seen ((n,i) :: st) acc (.slice (some ⟨b,0,none⟩) (st.length+1) cap) v4) (ht:w.ownsRow w0.heap.size 108 2 (.slice (some ⟨b,0,none⟩) st.length cap) st.length (frs st.reverse))
  (hp:w5.ownsRow w0.heap.size 3 1 v5 (acc.length+1) (nums .i64 acc.reverse++[.int .i64 n])) (hg:w.grownBy w5 v4.ownBlock) (hb:Below w0.heap.size w0 w5) :
  OrdSt w0 (w5.setCell ⟨bst,0,none⟩ (.slice (some ⟨b,0,none⟩) st.length cap)) bg bs bst gs cs c A g seen st (n :: acc) (.slice (some ⟨b,0,none⟩) st.length cap) v5 where
 h1:=set_blk (grown_blk hg h.hp h.h1 (by decide)) (blk_ne' h.h1 h.h2 (by decide))
 h2:=set_here (grown_blk hg h.hp h.h2 (by decide))
 h3:=set_blk (grown_blk hg h.hp h.h3 (by decide)) (blk_ne' h.h3 h.h2 (by decide))
 hs:=set_row (grown_row hg h.hp h.hs (by decide)) (row_ne_blk (grown_row hg h.hp h.hs (by decide)) (grown_blk hg h.hp h.h2 (by decide)) (by decide))
 ht:=set_row (grown_row hg h.hp ht (by decide)) (row_ne_blk (grown_row hg h.hp ht (by decide)) (grown_blk hg h.hp h.h2 (by decide)) (by decide))
 hp:=by
  have:=set_row (p:=⟨bst,0,none⟩) (u:=.slice (some ⟨b,0,none⟩) st.length cap) hp (row_ne_blk hp (grown_blk hg h.hp h.h2 (by decide)) (by decide))
  simpa [nums] using this
 hb:=hb.setCell h.b2 _
 b1:=h.b1
 b2:=h.b2
 hsl:=h.hsl
theorem OrdSt.next {w0 w:World} {bg bs bst gs cs c b cap:Nat} {A:Option Addr} {g:List (List Int)} {seen:List Bool} {n i:Int} {st:List (Int × Int)} {acc:List Int} {v4:Value}
  (h:OrdSt w0 w bg bs bst gs cs c A g seen ((n,i) :: st) acc (.slice (some ⟨b,0,none⟩) (st.length+1) cap) v4) (j:Int)
  (ht:(w.setCell ⟨b,st.length * 2+1,none⟩ (.int .i64 j)).ownsRow w0.heap.size 108 2 (.slice (some ⟨b,0,none⟩) (st.length+1) cap) (st.length+1) (frs ((n,j) :: st).reverse)) :
  OrdSt w0 (w.setCell ⟨b,st.length * 2+1,none⟩ (.int .i64 j)) bg bs bst gs cs c A g seen ((n,j) :: st) acc (.slice (some ⟨b,0,none⟩) (st.length+1) cap) v4 where
 h1:=set_blk h.h1 (fun e=>row_ne_blk h.ht h.h1 (by decide) (by rw [e];rfl))
 h2:=set_blk h.h2 (fun e=>row_ne_blk h.ht h.h2 (by decide) (by rw [e];rfl))
 h3:=set_blk h.h3 (fun e=>row_ne_blk h.ht h.h3 (by decide) (by rw [e];rfl))
 hs:=set_row h.hs (fun e=>by rcases own_type_ne h.hs h.ht (by decide) with h' | h' <;> simp_all [Value.ownBlock])
 ht:=ht
 hp:=set_row h.hp (fun e=>by rcases own_type_ne h.hp h.ht (by decide) with h' | h' <;> simp_all [Value.ownBlock])
 hb:=h.hb.setCell (own_base h.ht b rfl) _
 b1:=h.b1
 b2:=h.b2
 hsl:=h.hsl
set_option maxRecDepth 100000 in
set_option maxHeartbeats 4000000 in
theorem order_any (w:World) (A:Option Addr) (c:Nat) (g:List (List Int)) (k kv kr:Nat) (r:List Int) (hC:kG.C w A g.length g) (hc:g.length<=c) (hn:g.length<=1000000) (hp:0 < g.length)
  (hv:flow_Valid.f kv g=some true) (h:orderF k g=some r) (hr:slices_Reverse_int_int.f kr r.reverse=some r) :
  Calls Try.prog 41 #[.agg #[.slice A g.length c]] w fun e w'=>∃ v,e=.returned v/\kI.R 3 w' w.heap.size (fun _=>True) v r/\Below w.heap.size w w':=by
 have HC:=ak_ hC
 have HV:=ak_ hv
 have HR:=ak_ hr
 have H:=ak_ h
 have HB:=ak_ (Below.refl w.heap.size w)
 have hcc:=ak_ hc
 clear hC hv hr h hc
 go_enter Try.func41,Try.ntmps41
 go_wp2_with (first
  | (go_at_call 36;refine (PShapeReducible.flow_Valid.calls kv A c g true _ (Kd.C_alloc HC.out _) hcc.out HV.out).mono ?_;rintro e w1 ⟨rfl,hb1⟩;have B1:=ak_ hb1;have HB1:Below w.heap.size w w1:=((Below.refl _ _).alloc (Nat.le_refl _) _).trans (hb1.mono (by simp));have HB1:=ak_ HB1;have k1:w1.cell? ⟨w.heap.size,0,none⟩=some (.slice A g.length c):=cell_blk ((hb1.block _ (by simp)).trans (heap_alloc_new _ _)) rfl;clear hb1)
  | ((with_reducible refine gate_dst (N:=16) rfl ?_);refine Kd.R_make Kd.bool (w0:=w) w.heap.size 4 rfl (N:=16) rfl 52 _ _ rfl (g.length:Int) rfl rfl Try.underlying52 (.bool false) 1 info4' rfl (by decide) (by decide) false (ok:=fun _=>True) (okp:=fun _=>True) rfl (fun _ h=>h) trivial (by omega) (by omega) HB1.out HB1.out.size ?_;intro v2 w2 hr2 hb2 hg2 hf2;obtain ⟨gs,cs,rfl,hgb,hgl,_⟩:=Kd.R_form hr2 (by simpa using hp);have R2:=ak_ hr2;have HB2:=ak_ hb2;have k2:=ak_ hg2;clear hr2 hb2 hg2 hf2 k1)
  | (go_at_call 62;fail))
 have st0:OrdSt w ((w2.alloc (Obj.cells #[Value.slice (some { block:=gs,off:=0 }) g.length cs] 52)).alloc (Obj.cells #[Value.slice none 0 0] 106)) w.heap.size w2.heap.size (w2.heap.size+1) gs cs c A g (List.replicate g.length false) [] [] (.slice none 0 0) (.slice none 0 0):=by
  have hz:=HB2.out.size
  have q1:w2.heap[w.heap.size]?=some (.cells #[.slice A g.length c] 27 (0,0)):=(k2.out.block _ (by have:=B1.out.size;simp at this;omega) (by simp)).trans ((B1.out.block _ (by simp)).trans (heap_alloc_new _ _))
  refine ⟨?_,?_,?_,?_,?_,?_,?_,hz,by omega,by simp⟩
  ·rw [heap_alloc_old _ _ (by simp)];exact heap_alloc_new _ _
  ·exact heap_alloc_at _ _ (by simp)
  ·rw [heap_alloc_old _ _ (by simp;omega),heap_alloc_old _ _ (by omega)];exact q1
  ·have:=((Kd.own_of_R R2.out).alloc (Obj.cells #[Value.slice (some { block:=gs,off:=0 }) g.length cs] 52)).alloc (Obj.cells #[Value.slice none 0 0] 106)
   simpa [bools,encs] using this
  ·exact own_nil _ _ _ _
  ·exact own_nil _ _ _ _
  ·exact (HB2.out.alloc hz _).alloc (by simp;omega) _
 refine (enter_st 0 st0 (by omega) (by omega) (by simp)).mono ?_
 rintro e w3 ⟨rfl,vst,hst⟩
 have ST:=ak_ hst
 clear st0 hst
 go_wp2_with fail
 obtain ⟨bs,hbs⟩:∃ bs,bs=w2.heap.size:=⟨_,rfl⟩
 obtain ⟨bst,hbst⟩:∃ bst,bst=w2.heap.size+1:=⟨_,rfl⟩
 obtain ⟨bg,hbg⟩:∃ bg,bg=w.heap.size:=⟨_,rfl⟩
 rw [<-hbst,<-hbs]
 have ST:Aside0 (OrdSt w w3 bg bs bst gs cs c A g ((List.replicate g.length false).set 0 true) [(0,0)] [] vst (.slice none 0 0)):=by rw [hbst,hbs,hbg];simpa using ST
 clear hbs hbst
 have H':=ak_ (show ordLoop g k ((List.replicate g.length false).set 0 true) [(0,0)] []=some r from H.out)
 simp only [<-hbg]
 clear hbg
 go_loopg [4] k (fun kq v4 w'=>∃ seen st acc vst,Aside0 (ordLoop g kq seen st acc=some r)/\Aside0 (OrdSt w w' bg bs bst gs cs c A g seen st acc vst v4))
 case atStart=>exact ⟨_,_,_,_,H',ST⟩
 case round =>
  obtain ⟨seen,st,acc,vst,hH,hST⟩:=hrel
  have hH:=hH.out
  have hST:=hST.out
  have hC':=Kd.C_below HC.out hST.hb
  cases hk:gk with
  | zero=>rw [hk] at hH;simp [ordLoop] at hH
  | succ gk' =>
   rw [hk] at hH
   have c1:wr.cell? ⟨bst,0,none⟩=some vst:=cell_blk hST.h2 rfl
   have c2:wr.cell? ⟨bg,0,none⟩=some (.slice A g.length c):=cell_blk hST.h3 rfl
   match st,hH,hST with
   | [],hH,hST =>
    obtain rfl:acc=r:=by simpa [ordLoop] using hH
    obtain ⟨As,cs',rfl⟩:∃ As cs',vst=.slice As 0 cs':=own_slice hST.ht
    have ST:=ak_ hST
    have CC:=ak_ hC'
    clear hST hC' hH
    go_wp2_with (first
     | (go_at_call 63;refine (PShapeReducible.slices_Reverse_int_int.calls kr (fun _=>True) _ acc.reverse acc w _ ST.out.hb (Kd.R_of_own (by have:=ST.out.hp;simpa [nums,encs] using this) (fun _ _=>trivial)) HR.out).mono ?_;rintro e w4 ⟨rfl,hr4,hb4,_⟩;have R4:=ak_ hr4;have B4:=ak_ hb4;clear hr4 hb4))
    go_ret
    exact ⟨_,rfl,Kd.R_mono R4.out (fun _ _=>trivial),B4.out⟩
   | (n,i) :: st,hH,hST =>
    obtain ⟨b,cap,rfl,hm,hcap,t1,t2,t3,t4,t5⟩:=frs_top hST.ht
    simp only [ordLoop] at hH
    by_cases hn1:0<=n/\n < g.length
    ·rw [if_pos hn1] at hH
     obtain ⟨n,rfl⟩:=Int.eq_ofNat_of_zero_le hn1.1
     rw [Int.toNat_natCast] at hH
     obtain ⟨ad,A0,c0,rfl,g1,g2,g3⟩:=C_row hC' n (by omega)
     obtain ⟨l,hl⟩:∃ l,l=g.getD n []:=⟨_,rfl⟩
     rw [<-hl] at hH g1 g2 g3
     clear hl
     have hnl:(n:Int) < g.length:=hn1.2
     have hn0:n < g.length:=by omega
     by_cases hi:i=l.length
     ·rw [if_pos hi] at hH
      by_cases ha:acc.length < 1000000000
      ·rw [if_pos ha] at hH
       subst hi
       obtain ⟨wd,hwd⟩:∃ wd,wd=wr.drew:=⟨_,rfl⟩
       have ST:=ak_ (show OrdSt w wd bg bs bst gs cs c (some ad) g seen ((↑n,↑l.length) :: st) acc _ u4 by rw [hwd];exact hST.drew)
       have T4:=ak_ (show wd.ownsRow w.heap.size 108 2 (.slice (some ⟨b,0,none⟩) st.length cap) st.length (frs st.reverse) by rw [hwd];exact t4)
       have d1:wd.cell? ⟨bst,0,none⟩=some (.slice (some ⟨b,0,none⟩) (st.length+1) cap):=cell_blk ST.out.h2 rfl
       have d2:wd.cell? ⟨bg,0,none⟩=some (.slice (some ad) g.length c):=cell_blk ST.out.h3 rfl
       have d3:wd.cell? ⟨b,st.length * 2,none⟩=some (.int .i64 n):=by rw [hwd];exact t1
       have d4:wd.cell? ⟨b,st.length * 2+1,none⟩=some (.int .i64 l.length):=by rw [hwd];exact t2
       have d5:wd.cell? (ad.add n)=some (.slice A0 l.length c0):=by rw [hwd];exact g1
       have HD:=ak_ hwd
       have hH:=ak_ hH
       clear hST hC' t3 t4 t5 g2 g3 hn1 hwd
       go_wp2_with (first
        | (rw [<-HD.out]) | (refine wp_region_txt (fun _=>True) [] (by kernel_rfl) (by kernel_rfl) ?_) | (with_reducible refine wpT_nil ?_) | (refine wpT_W (v:=?_) trivial (by decide) (wn_ rfl) (fun _ hS_=>?_) ?_;rotate_left;(focus ((try dsimp only at hS_);go_simp;rfl));(simp only [Act.put,sA_,sB_,sC_])) | (refine wpT_R (v:=?_) trivial (by decide) (wn_ rfl) ?_ ?_;rotate_left;(focus (go_simp;rfl));(simp only [Act.put,sA_,sB_,sC_])) | (refine wpT_A (v:=?_) (ob:=?_) trivial (by decide) (wn_ rfl) ?_ ?_ ?_;rotate_left 2;(focus (go_simp;first | (constructor <;> rfl) | rfl));(focus (exact trivial));(simp only [Act.put,sA_,sB_,sC_]))
        | ((with_reducible refine gate_dst (N:=49) rfl ?_);refine print_append_cells (w0:=w) w.heap.size rfl (.tmp 43) (.tmp 48) 23 3 (.int .i64 0) 1 8 rfl Try.underlying23 PShapeReducible.info3 rfl (by decide) (by decide) u4 acc.length (nums .i64 acc.reverse) [.int .i64 n] rfl rfl rfl (by simp [Value.oneCell']) ST.out.hp ST.out.hb ST.out.hb.size (by omega) ?_;intro v5 w5 ho5 hb5 hg5 _;obtain ⟨A5,c5,rfl⟩:=own_slice ho5;have e1:w5.cell? ⟨bst,0,none⟩=some (.slice (some ⟨b,0,none⟩) (st.length+1) cap):=cell_blk (grown_blk hg5 ST.out.hp ST.out.h2 (by decide)) rfl;have e2:w5.frozen? ⟨bst,0,none⟩=false:=free_blk (grown_blk hg5 ST.out.hp ST.out.h2 (by decide));have O5:=ak_ ho5;have G5:=ak_ hg5;have B5:=ak_ hb5;clear ho5 hg5 hb5))
       go_roundg gk'
       case measure=>omega
       case rel=>exact ⟨_,_,_,_,hH,⟨OrdSt.pop ST.out T4.out O5.out G5.out B5.out⟩⟩
      ·rw [if_neg ha] at hH;cases hH
     ·rw [if_neg hi] at hH
      by_cases hi2:0<=i/\i < l.length
      ·rw [if_pos hi2] at hH
       obtain ⟨i,rfl⟩:=Int.eq_ofNat_of_zero_le hi2.1
       rw [Int.toNat_natCast] at hH
       have hi3:i < l.length:=by omega
       by_cases hm1:0<=l.getD i 0/\l.getD i 0 < seen.length
       ·rw [if_pos hm1] at hH
        obtain ⟨ad2,rfl,e6⟩:=C_num g3 i hi3
        obtain ⟨m,hmm⟩:∃ m:Nat,l.getD i 0=m:=⟨_,(Int.toNat_of_nonneg hm1.1).symm⟩
        rw [hmm] at hH hm1 e6
        rw [Int.toNat_natCast] at hH
        have hsl:=hST.hsl
        have hm2:m < seen.length:=by omega
        have hm3:m < g.length:=by omega
        have hm4:(m:Int) < g.length:=by omega
        have hi4:(i:Int) < l.length:=by omega
        have hb1:i+1<=9223372036854775807:=by have:=g3.2.1;omega
        obtain ⟨wd,hwd⟩:∃ wd,wd=wr.drew:=⟨_,rfl⟩
        have ST:=ak_ (show OrdSt w wd bg bs bst gs cs c (some ad) g seen ((↑n,↑i) :: st) acc _ u4 by rw [hwd];exact hST.drew)
        have d1:wd.cell? ⟨bst,0,none⟩=some (.slice (some ⟨b,0,none⟩) (st.length+1) cap):=cell_blk ST.out.h2 rfl
        have d2:wd.cell? ⟨bg,0,none⟩=some (.slice (some ad) g.length c):=cell_blk ST.out.h3 rfl
        have d3:wd.cell? ⟨b,st.length * 2,none⟩=some (.int .i64 n):=by rw [hwd];exact t1
        have d4:wd.cell? ⟨b,st.length * 2+1,none⟩=some (.int .i64 i):=by rw [hwd];exact t2
        have d4f:wd.frozen? ⟨b,st.length * 2+1,none⟩=false:=by rw [hwd];exact t3
        have d5:wd.cell? (ad.add n)=some (.slice (some ad2) l.length c0):=by rw [hwd];exact g1
        have d6:wd.cell? (ad2.add i)=some (.int .i64 m):=by rw [hwd];exact e6
        obtain ⟨w5,hw5⟩:∃ w5,w5=wd.setCell ⟨b,st.length * 2+1,none⟩ (.int .i64 (i+1)):=⟨_,rfl⟩
        have S5:=ak_ (show OrdSt w w5 bg bs bst gs cs c (some ad) g seen ((↑n,↑i+1) :: st) acc (.slice (some ⟨b,0,none⟩) (st.length+1) cap) u4 by rw [hw5];exact OrdSt.next ST.out _ (by rw [hwd];exact t5 _))
        have k1:w5.cell? ⟨bs,0,none⟩=some (.slice (some ⟨gs,0,none⟩) g.length cs):=cell_blk S5.out.h1 rfl
        have k2:w5.cell? ⟨gs,m,none⟩=some (.bool (seen.getD m false)):=own_cell S5.out.hs m hm3 (by simp [bools,hm2])
        have hne:((i:Int) == (l.length:Int))=false:=beq_eq_false_iff_ne.2 hi
        have hm5:=ak_ hm
        have HD:=ak_ hwd
        have HD5:=ak_ hw5
        have HI:=ak_ hi
        have hH:=ak_ hH
        clear hST hC' t1 t2 t3 t4 t5 g2 g3 g1 e6 hn1 hwd hw5 hi hi2 hm1 hmm
        cases hsn:seen.getD m false with
        | true =>
         rw [hsn] at k2
         have hH:=ak_ (show ordLoop g gk' seen ((↑n,↑i+1) :: st) acc=some r by have:=hH.out;rw [if_pos hsn] at this;exact this)
         clear hsn
         go_wp2_with (first
          | (rw [<-HD.out]) | (rw [<-HD5.out]) | (refine wp_region_txt (fun _=>True) [] (by kernel_rfl) (by kernel_rfl) ?_) | (with_reducible refine wpT_nil ?_) | (refine wpT_W (v:=?_) trivial (by decide) (wn_ rfl) (fun _ hS_=>?_) ?_;rotate_left;(focus ((try dsimp only at hS_);go_simp;rfl));(simp only [Act.put,sA_,sB_,sC_])) | (refine wpT_R (v:=?_) trivial (by decide) (wn_ rfl) ?_ ?_;rotate_left;(focus (go_simp;rfl));(simp only [Act.put,sA_,sB_,sC_])) | (refine wpT_A (v:=?_) (ob:=?_) trivial (by decide) (wn_ rfl) ?_ ?_ ?_;rotate_left 2;(focus (go_simp;first | (constructor <;> rfl) | rfl));(focus (exact trivial));(simp only [Act.put,sA_,sB_,sC_])))
         go_roundg gk'
         case measure=>omega
         case rel=>exact ⟨_,_,_,_,hH,S5⟩
        | false =>
         rw [hsn] at k2
         have hH2:=hH.out
         rw [if_neg (by rw [hsn];decide)] at hH2
         by_cases hcap2:st.length < 1000000
         ·rw [if_pos hcap2] at hH2
          have hH:=ak_ hH2
          clear hsn hH2
          go_wp2_with (first
           | (rw [<-HD.out]) | (rw [<-HD5.out]) | (refine wp_region_txt (fun _=>True) [] (by kernel_rfl) (by kernel_rfl) ?_) | (with_reducible refine wpT_nil ?_) | (refine wpT_W (v:=?_) trivial (by decide) (wn_ rfl) (fun _ hS_=>?_) ?_;rotate_left;(focus ((try dsimp only at hS_);go_simp;rfl));(simp only [Act.put,sA_,sB_,sC_])) | (refine wpT_R (v:=?_) trivial (by decide) (wn_ rfl) ?_ ?_;rotate_left;(focus (go_simp;rfl));(simp only [Act.put,sA_,sB_,sC_])) | (refine wpT_A (v:=?_) (ob:=?_) trivial (by decide) (wn_ rfl) ?_ ?_ ?_;rotate_left 2;(focus (go_simp;first | (constructor <;> rfl) | rfl));(focus (exact trivial));(simp only [Act.put,sA_,sB_,sC_]))
           | (go_at_call 62;refine (enter_st (m:Int) S5.out (by omega) hm4 (by simp;omega)).mono ?_;rintro e w6 ⟨rfl,vst6,hst6⟩;have S6:=ak_ hst6;clear hst6))
          go_roundg gk'
          case measure=>omega
          case rel=>exact ⟨_,_,_,_,hH,by simpa using S6⟩
         ·rw [if_neg hcap2] at hH2;cases hH2
       ·rw [if_neg hm1] at hH;cases hH
      ·rw [if_neg hi2] at hH;cases hH
    ·rw [if_neg hn1] at hH;cases hH
end Go.Proofs.Ytfiiihpdekppiaa
end
section
namespace Go.Proofs.Ytfiiihpdekppiaa
open Go.RowKit Go.Proofs Go.Proofs.YtfiiihpdekppiaaW.PrintWords
open Go.ChangeMaps (setBlock heap_setBlock_same heap_setBlock_other)
open PShapeReducible (flow_Valid.f slices_Reverse_int_int.f)
theorem info23:(Try.prog.info? 23).map (fun i=>(i.zero,i.size,i.bytes))=some (some (.slice none 0 0),1,24):=by kernel_rfl
theorem zero3 (w:World):(zeroValue 3).run Try.prog w=.ok (.int .i64 0) w:=by kernel_rfl
def mI (l:List (Int × Int)):Obj:=mObj (l.map fun p=>(p.1,.int .i64 p.2))
structure ViewSt (w0 w:World) (bg bv bm c:Nat) (A:Option Addr) (g:List (List Int)) (vo vp:Value) (order:List Int) (vs:List Value) (m:List (Int × Int)) (p:List (List Int)):Prop where
 h1:w.heap[bg]?=some (.cells #[.slice A g.length c] 27 (0,0))
 h2:w.heap[bv]?=some (.cells #[vo,.map (some bm),vp] 99 (0,0))
 h3:w.heap[bm]?=some (mI m)
 hp:w.ownsRow w0.heap.size 23 1 vp vs.length vs
 hr:Rows3 w w0.heap.size (vo :: vs) (order :: p)
 hb:Below w0.heap.size w0 w
 b2:w0.heap.size<=bv
 b3:w0.heap.size<=bm
theorem ViewSt.drew {w0 w:World} {bg bv bm c:Nat} {A:Option Addr} {g:List (List Int)} {vo vp:Value} {order:List Int} {vs:List Value} {m:List (Int × Int)} {p:List (List Int)}
  (h:ViewSt w0 w bg bv bm c A g vo vp order vs m p):ViewSt w0 w.drew bg bv bm c A g vo vp order vs m p:=⟨h.h1,h.h2,h.h3,h.hp,h.hr.drew,h.hb.drew,h.b2,h.b3⟩
theorem blk_ne_map {w:World} {a b:Nat} {cs:Array Value} {t:TypeId} {fr:Nat × Nat} {es:Array MapEntry} {ck:Nat} (h:w.heap[a]?=some (.cells cs t fr)) (h':w.heap[b]?=some (.map es ck)):a≠b:=by
 rintro rfl
 rw [h] at h'
 cases h'
theorem ViewSt.putm {w0 w:World} {bg bv bm c:Nat} {A:Option Addr} {g:List (List Int)} {vo vp:Value} {order:List Int} {vs:List Value} {m:List (Int × Int)} {p:List (List Int)}
  (h:ViewSt w0 w bg bv bm c A g vo vp order vs m p) (m':List (Int × Int)):ViewSt w0 (setBlock w bm (mI m')) bg bv bm c A g vo vp order vs m' p where
 h1:=(heap_setBlock_other h.h3 _ (blk_ne_map h.h1 h.h3)).trans h.h1
 h2:=(heap_setBlock_other h.h3 _ (blk_ne_map h.h2 h.h3)).trans h.h2
 h3:=heap_setBlock_same h.h3 _
 hp:=own_move h.hp (fun k hk=>by obtain ⟨cs,hc⟩:=own_typed h.hp k hk;exact heap_setBlock_other h.h3 _ (blk_ne_map hc h.h3))
 hr:=h.hr.typed (fun k cs hk=>heap_setBlock_other h.h3 _ (blk_ne_map hk h.h3))
 hb:=⟨h.hb.os,h.hb.tape,h.hb.output,by simpa [setBlock] using h.hb.size,fun k hk=>(heap_setBlock_other h.h3 _ (by have:=h.b3;omega)).trans (h.hb.block k hk)⟩
 b2:=h.b2
 b3:=h.b3
theorem ViewSt.app {w0 w w6:World} {bg bv bm c bp n cap j:Nat} {A:Option Addr} {g:List (List Int)} {vo v':Value} {order:List Int} {vs:List Value} {m:List (Int × Int)} {p:List (List Int)} {x:Int}
  (h:ViewSt w0 w bg bv bm c A g vo (.slice (some ⟨bp,0,none⟩) n cap) order vs m p) (hj:j < vs.length)
  (ho:w6.ownsRow w0.heap.size 3 1 v' ((p.getD j []).length+1) (nums .i64 (p.getD j [])++[.int .i64 x])) (hg:w.grownBy w6 (vs.getD j nilS).ownBlock) (hat:v'.ownBlock=(vs.getD j nilS).ownBlock∨∃ b,v'.ownBlock=some b/\w.heap.size<=b) :
  ViewSt w0 (w6.setCell ⟨bp,j,none⟩ v') bg bv bm c A g vo (.slice (some ⟨bp,0,none⟩) n cap) order (vs.set j v') m (p.set j (p.getD j []++[x])):=by
 have hro:=h.hr.row (j+1) (by simpa using hj)
 simp only [List.getD_cons_succ] at hro
 have q2:=grown_blk hg hro h.h2 (by decide)
 have q1:=grown_blk hg hro h.h1 (by decide)
 have qp:=grown_row hg hro h.hp (by decide)
 have hn:n=vs.length:=by
  rcases h.hp.2 with ⟨e,_⟩ | ⟨_,_,_,e,_⟩ <;> simp only [Value.slice.injEq] at e
  ·simp at e
  ·omega
 have q3:w6.heap[bm]?=some (mI m):=by
  refine (hg.block bm (blk_lt' h.h3) (fun e=>?_)).trans h.h3
  obtain ⟨cs,hc⟩:=own_typed hro bm e.symm
  exact blk_ne_map hc h.h3 rfl
 have hr6:Rows3 w6 w0.heap.size (vo :: vs.set j v') (order :: p.set j (p.getD j []++[x])):=by
  have:=h.hr.turned (i:=j+1) (by simpa using hj) (v':=v') (xs':=p.getD j []++[x]) (by simpa [nums] using ho) (by simpa using hg) (by simpa using hat)
  simpa using this
 have hbp:=own_typed qp bp rfl
 obtain ⟨cs,hbp⟩:=hbp
 refine ⟨set_blk q1 (fun e=>?_),set_blk q2 (fun e=>?_),?_,?_,?_,?_,h.b2,h.b3⟩
 ·exact blk_ne' q1 hbp (by decide) e
 ·exact blk_ne' q2 hbp (by decide) e
 ·exact set_blk q3 (fun e=>blk_ne_map hbp q3 e.symm)
 ·subst hn
  have:=(qp.stored j v').1
  rw [List.length_set]
  exact this
 ·exact hr6.setCell hbp (by decide) v'
 ·have hbb:=own_base h.hp bp rfl
  have:Below w0.heap.size w0 w6:=h.hb.grown hg h.hb.size (fun k hk=>own_base hro k hk)
  exact this.setCell hbb v'
theorem heap_push (w:World) (o:Obj):(w.alloc o).heap=w.heap.push o:=rfl
theorem heap_drew (w:World):w.drew.heap=w.heap:=rfl
theorem view_start {w wc:World} {bv bm bp c:Nat} {A:Option Addr} {g:List (List Int)} {vo:Value} {r:List Int} (hb:Below w.heap.size w wc)
  (h1:wc.heap[w.heap.size]?=some (.cells #[.slice A g.length c] 27 (0,0))) (h2:wc.heap[bv]?=some (.cells #[vo,.map (some bm),.slice (some ⟨bp,0,none⟩) g.length g.length] 99 (0,0)))
  (h3:wc.heap[bm]?=some (.map #[] 0)) (h4:wc.heap[bp]?=some (.cells (madeCells #[nilS] g.length) 23 (0,0))) (ho:kI.R 3 wc w.heap.size (fun _=>True) vo r) (b2:w.heap.size<=bv) (b3:w.heap.size<=bm) (b4:w.heap.size<=bp) (hn:g.length<=1000000) :
  ViewSt w wc w.heap.size bv bm c A g vo (.slice (some ⟨bp,0,none⟩) g.length g.length) r (List.replicate g.length nilS) [] (List.replicate g.length []) where
 h1:=h1
 h2:=h2
 h3:=h3
 hp:=by
  have e:(madeCells #[nilS] g.length).toList=List.replicate g.length nilS:=by
   apply List.ext_getElem <;> simp [madeCells,Nat.mod_one]
  refine ⟨by simp,.inr ⟨bp,g.length,_,by simp,b4,h4,by simp,by simp only [maxLen];omega,by simp [size_madeCells],?_⟩⟩
  rw [e];simp
 hr:=by
  have h:=Rows3.nils wc w.heap.size g.length
  have ho':=Kd.own_of_R ho
  refine ⟨by simp,fun i hi=>?_,fun i j hi hj hne=>?_⟩
  ·cases i with
   | zero=>simpa [nums,encs] using ho'
   | succ i=>simpa using h.row i (by simpa using hi)
  ·cases i with
   | zero=>cases j with
    | zero=>exact absurd rfl hne
    | succ j =>
     have hj':j < g.length:=by simpa using hj
     rw [List.getD_cons_zero,List.getD_cons_succ,getD_rep hj']
     cases vo.ownBlock <;> simp [Value.ownBlock]
   | succ i =>
    have hi':i < g.length:=by simpa using hi
    left
    rw [List.getD_cons_succ,getD_rep hi'];rfl
 hb:=hb
 b2:=b2
 b3:=b3
set_option maxRecDepth 100000 in
set_option maxHeartbeats 4000000 in
theorem view_any (w:World) (A:Option Addr) (c:Nat) (g:List (List Int)) (k kv kr:Nat) (r:List Int) (m:List (Int × Int)) (p:List (List Int)) (hC:kG.C w A g.length g) (hc:g.length<=c) (hn:g.length<=1000000) (hp:0 < g.length)
  (hv:flow_Valid.f kv g=some true) (h:orderF k g=some r) (hr:slices_Reverse_int_int.f kr r.reverse=some r) (hl:viewLoop g r 0 [] (List.replicate g.length [])=some (m,p)) :
  Calls Try.prog 55 #[.agg #[.slice A g.length c]] w fun e w'=>∃ bg bv bm vo vp vs,e=.returned (.pointer (some ⟨bv,0,none⟩))/\ViewSt w w' bg bv bm c A g vo vp r vs m p:=by
 have HC:=ak_ hC
 have HV:=ak_ hv
 have HR:=ak_ hr
 have H:=ak_ h
 have HL:=ak_ hl
 have hcc:=ak_ hc
 have hmm:=@run_makeMap Try.prog
 have hmk:=print_make_of (P:=Try.prog) 25 23 nilS 24 Try.underlying25 info23 rfl (by decide) g.length (by omega)
 clear hC hv hr h hc hl
 go_enter Try.func55,Try.ntmps55
 go_upto_region 1 with (fail)
 go_cut [3] (fun v3 wc=>∃ bv bm vo vp,v3=.pointer (some ⟨bv,0,none⟩)/\Aside0 (ViewSt w wc w.heap.size bv bm c A g vo vp r (List.replicate g.length nilS) [] (List.replicate g.length [])))
 case first =>
  go_region_held3 (fun W=>W.cell? ⟨w.heap.size,0,none⟩=some (.slice A g.length c)) (first | exact k1 | exact cell_alloc _ k1 | exact cell_alloc _ (cell_alloc _ k1) | exact cell_alloc _ (cell_alloc _ (cell_alloc _ k1)) | (go_simp;done)) (first | (go_at_call 41;refine (order_any _ A c g k kv kr r (by repeat (first | exact HC.out | apply Kd.C_alloc | apply Kd.C_drew)) hcc.out hn hp HV.out H.out HR.out).mono ?_;rintro e w1 ⟨vo,rfl,ho,hb⟩;obtain ⟨Ao,co,rfl⟩:=Kd.R_slice ho;have k1:w1.cell? ⟨w.heap.size,0,none⟩=some (.slice A g.length c):=(hb.cell (p:=⟨w.heap.size,0,none⟩) (by simp <;> omega)).trans (by first | assumption | go_simp);have RO:=ak_ (Kd.R_lower ho (base':=w.heap.size) (by simp <;> omega));have kb:w1.heap[w.heap.size]?=some (.cells #[.slice A g.length c] 27 (0,0)):=(hb.block _ (by simp <;> omega)).trans (by rw [heap_drew];(repeat (first | exact heap_alloc_new _ _ | rw [heap_alloc_old _ _ (by simp <;> omega)])));have KB:=ak_ kb;have BO:=ak_ (Below.trans (a:=w) (B:=w.heap.size) (by repeat (first | exact Below.refl _ _ | apply Below.drew | refine Below.alloc ?_ (by simp <;> omega) _)) (hb.mono (by simp <;> omega)));have BX:=ak_ hb;clear ho hb kb))
  all_goals
   have bO:=BO.out
   have hz:=bO.size
   have hlt:=blk_lt' KB.out
   have hx:=BX.out.size
   simp only [heap_drew,heap_push,Array.size_push] at hx
   go_wp2
   go_meet
   case rel =>
    refine ⟨_,_,_,_,rfl,⟨view_start ?_ ?_ (heap_alloc_at _ _ (by simp)) ?_ ?_ ?_ ?_ ?_ ?_ hn⟩⟩
    all_goals first
     | omega
     | (simp;omega)
     | ((repeat (first | exact bO | (refine Below.alloc ?_ ?_ _;rotate_left;(focus (first | omega | (simp;done) | (simp;omega)))) | with_reducible apply Below.drew));done)
     | ((repeat (first | exact RO.out | apply Kd.R_alloc | with_reducible apply Kd.R_drew));done)
     | ((repeat (first | exact KB.out | exact heap_alloc_at _ _ rfl | exact heap_alloc_at _ _ (by simp) | (rw [heap_alloc_old];rotate_left;(focus (first | omega | (simp;done) | (simp;omega)))) | (rw [BX.out.block];rotate_left;(focus (first | omega | (simp;done) | (simp;omega)))) | rw [heap_drew]));done)
 case rest =>
  obtain ⟨bv,bm,vo,vp,rfl,hst⟩:=hcut
  have hst:=hst.out
  have hvo:=own_slice (hst.hr.row 0 (by simp))
  simp only [List.getD_cons_zero] at hvo
  obtain ⟨Ao,co,rfl⟩:=hvo
  have c1:wc.cell? ⟨bv,0,none⟩=some (.slice Ao r.length co):=cell_blk hst.h2 rfl
  have ST:=ak_ hst
  clear hst
  go_wp2_with fail
  go_loopw [22] (fun t wr=>∃ (i:Nat) (m':List (Int × Int)) (p':List (List Int)) (vs:List Value),t=.int .i64 i/\i<=r.length/\Aside0 (viewLoop g (r.drop i) i m' p'=some (m,p))/\Aside0 (ViewSt w wr w.heap.size bv bm c A g (.slice Ao r.length co) vp r vs m' p')) (fun t _=>r.length - (intOf t).toNat)
  case atStart=>exact ⟨0,_,_,_,rfl,Nat.zero_le _,by simpa using HL,ST⟩
  case round =>
   obtain ⟨i,m',p',vs,rfl,hi,hH,hS⟩:=hrel
   by_cases hlt:i < r.length
   ·have h1:=hH.out
    obtain ⟨n,hn1⟩:∃ n,n=r.getD i 0:=⟨_,rfl⟩
    rw [List.drop_eq_getElem_cons hlt,show r[i]=n by simp [hn1,List.getD_eq_getElem?_getD,hlt]] at h1
    simp only [viewLoop] at h1
    by_cases hn2:0<=n/\n < g.length
    ·rw [if_pos hn2] at h1
     have hrow:=hS.out.hr.row 0 (by simp)
     simp only [List.getD_cons_zero] at hrow
     obtain ⟨bo,co',he,hbo,_⟩:=hrow.form (by omega)
     simp only [Value.slice.injEq,true_and] at he
     obtain ⟨rfl,rfl⟩:=he
     have e1:wr.cell? ⟨bo,i,none⟩=some (.int .i64 n):=own_cell hrow i hlt (by simp [nums,hn1,List.getD_eq_getElem?_getD,hlt])
     have e2:wr.cell? ⟨bv,1,none⟩=some (.map (some bm)):=cell_blk hS.out.h2 rfl
     have hi9:r.length<=9223372036854775807:=own_len hrow
     have hmu:(Instr.mapUpdate 97 (.map (some bm)) (.int .i64 n) (.int .i64 i)).run Try.prog wr=.ok () (setBlock wr bm (mI (mput m' n i))):=by
      have:=run_put (P:=Try.prog) (t:=97) Try.underlying97 Try.underlying3 hS.out.h3 n (.int .i64 i)
      rw [this]
      congr 2
      unfold mI
      rw [<-mput_map]
     obtain ⟨w5,hw5⟩:∃ w5,w5=setBlock wr bm (mI (mput m' n i)):=⟨_,rfl⟩
     have S5:=ak_ (show ViewSt w w5 w.heap.size bv bm c A g (.slice (some ⟨bo,0,none⟩) r.length co) vp r vs (mput m' n i) p' by rw [hw5];exact hS.out.putm _)
     obtain ⟨n,rfl⟩:=Int.eq_ofNat_of_zero_le hn2.1
     rw [Int.toNat_natCast] at h1
     have hn3:n < g.length:=by omega
     have hn4:(n:Int) < g.length:=by omega
     have hn5:(0:Int)<=n:=by omega
     obtain ⟨ad,A0,c0,rfl,g1,g2,g3⟩:=C_row HC.out n hn3
     have g1:=pw_cell_below S5.out.hb g1
     obtain ⟨l,hl⟩:∃ l,l=g.getD n []:=⟨_,rfl⟩
     rw [<-hl] at h1 g1 g2 g3
     have e3:w5.cell? ⟨w.heap.size,0,none⟩=some (.slice (some ad) g.length c):=cell_blk S5.out.h1 rfl
     have HD5:=ak_ hw5
     have H1:=ak_ h1
     have G3:=ak_ g3
     clear hrow h1 hw5 hl hn1 hn2 g2 g3 hH
     have hlt':(i:Int) < r.length:=by omega
     go_wp2_with (first | (rw [<-HD5.out]))
     clear g1 e1 e2 hmu c1 e3
     go_loopw [39] (fun t wq=>∃ (j:Nat) (p'':List (List Int)) (vs'':List Value),t=.int .i64 j/\j<=l.length/\Aside0 ((predsIn n (l.drop j) p'').bind (fun q=>viewLoop g (r.drop (i+1)) (i+1) (mput m' n i) q)=some (m,p))/\Aside0 (ViewSt w wq w.heap.size bv bm c (some ad) g (.slice (some ⟨bo,0,none⟩) r.length co) vp r vs'' (mput m' n i) p'')) (fun t _=>l.length - (intOf t).toNat)
     case atStart=>exact ⟨0,_,_,rfl,Nat.zero_le _,by simpa using H1,S5⟩
     case round =>
      obtain ⟨j,p'',vs'',rfl,hj,hH2,hS2⟩:=hrel
      by_cases hjl:j < l.length
      ·have h2:=hH2.out
       obtain ⟨s,hs1⟩:∃ s,s=l.getD j 0:=⟨_,rfl⟩
       rw [List.drop_eq_getElem_cons hjl,show l[j]=s by simp [hs1,List.getD_eq_getElem?_getD,hjl]] at h2
       simp only [predsIn] at h2
       by_cases hs2:0<=s/\s < p''.length
       ·rw [if_pos hs2] at h2
        obtain ⟨s,rfl⟩:=Int.eq_ofNat_of_zero_le hs2.1
        rw [Int.toNat_natCast] at h2
        by_cases hs3:(p''.getD s []).length < 1000000000
        ·rw [if_pos hs3] at h2
         have hlen:vs''.length=p''.length:=by have:=hS2.out.hr.len;simpa using this
         have hs4:s < vs''.length:=by omega
         obtain ⟨bp,cp,rfl,hbp,_⟩:=hS2.out.hp.form (by omega)
         have hro:=hS2.out.hr.row (s+1) (by simpa using hs4)
         simp only [List.getD_cons_succ] at hro
         obtain ⟨vi,hvi⟩:∃ vi,vi=vs''.getD s nilS:=⟨_,rfl⟩
         have e5:wr.cell? ⟨bp,s,none⟩=some vi:=own_cell hS2.out.hp s hs4 (by simp [hvi,List.getD_eq_getElem?_getD,hs4])
         rw [<-hvi] at hro
         obtain ⟨Ai,ci,rfl⟩:=own_slice hro
         obtain ⟨ad2,rfl,e6⟩:=C_num (Kd.C_below G3.out hS2.out.hb) j hjl
         rw [<-hs1] at e6
         obtain ⟨wd,hwd⟩:∃ wd,wd=wr.drew:=⟨_,rfl⟩
         have SD:=ak_ (show ViewSt w wd w.heap.size bv bm c (some ad) g (.slice (some ⟨bo,0,none⟩) r.length co) _ r vs'' (mput m' n i) p'' by rw [hwd];exact hS2.out.drew)
         have d2:wd.cell? ⟨bv,2,none⟩=some (.slice (some ⟨bp,0,none⟩) vs''.length cp):=cell_blk SD.out.h2 rfl
         have d3:wd.cell? ⟨bp,s,none⟩=some (.slice Ai (p''.getD s []).length ci):=by rw [hwd];exact e5
         have hro':wd.ownsRow w.heap.size 3 1 (.slice Ai (p''.getD s []).length ci) (p''.getD s []).length (nums .i64 (p''.getD s [])):=by rw [hwd];exact hro
         have RO:=ak_ hro'
         have HD:=ak_ hwd
         have VI:=ak_ hvi
         have H2:=ak_ h2
         have HS1:=ak_ hs1
         have hs5:(s:Int) < vs''.length:=by omega
         have hjl':(j:Int) < l.length:=by omega
         have hl9:l.length<=9223372036854775807:=G3.out.2.1
         clear hro hro' hvi e5 h2 hwd hs1 hs2 hH2 hlen
         go_wp2_with (first | (refine wp_region_txt (fun W=>W.cell? ⟨bv,2,none⟩=some (.slice (some ⟨bp,0,none⟩) vs''.length cp)) [3] (by kernel_rfl) (by kernel_rfl) ?_;rw [<-HD.out]))
         iterate 14 ((first | (with_reducible refine wpT_nil ?_) | (refine wpT_W (v:=?_) (by assumption) (by decide) (wn_ rfl) (fun _ hS_=>?_) ?_;rotate_left;(focus ((try dsimp only at hS_);go_simp;rfl))) | (refine wpT_R (v:=?_) (by assumption) (by decide) (wn_ rfl) ?_ ?_;rotate_left;(focus (go_simp;rfl))) | (refine wpT_A (v:=?_) (ob:=?_) (by assumption) (by decide) (wn_ rfl) ?_ ?_ ?_;rotate_left 2;(focus (go_simp;first | (constructor <;> rfl) | rfl));(focus (apply cell_alloc;assumption))));(try simp only [Act.put,sA_,sB_,sC_]))
         refine wpT_L (cell_alloc _ d2) (by decide) (wn_ rfl) (fun K hK=>?_)
         refine step_app (ops:=#[]) w.heap.size rfl (.tmp 54) (.tmp 56) 23 3 (.int .i64 0) 1 8 rfl Try.underlying23 PShapeReducible.info3 rfl (by decide) (by decide) _ _ _ [.int .i64 n] rfl rfl rfl (by simp [Value.oneCell']) RO.out SD.out.hb.size (by omega) ?_
         intro A6 c6 w6 ho6 hg6 hat6
         have S6:=ak_ (SD.out.app hs4 (v':=.slice A6 ((p''.getD s []).length+1) c6) (x:=(n:Int)) ho6 (by rw [<-VI.out];exact hg6) (by rw [<-VI.out];exact hat6))
         have q2:w6.cell? ⟨bv,2,none⟩=some (.slice (some ⟨bp,0,none⟩) vs''.length cp):=cell_blk (grown_blk hg6 RO.out SD.out.h2 (by decide)) rfl
         have q3:w6.ownsRow w.heap.size 23 1 (.slice (some ⟨bp,0,none⟩) vs''.length cp) vs''.length vs'':=grown_row hg6 RO.out SD.out.hp (by decide)
         have q4:w6.cell? ⟨bp,s,none⟩=some (.slice Ai (p''.getD s []).length ci):=(q3.cellAt s (by omega)).trans ((SD.out.hp.cellAt s (by omega)).symm.trans d3)
         have q5:w6.frozen? ⟨bp,s,none⟩=false:=q3.frozenAt s
         refine hK _ _ q2 ?_
         clear hK
         ((first | (with_reducible refine wpT_nil ?_) | (refine wpT_W (v:=?_) (by assumption) (by decide) (wn_ rfl) (fun _ hS_=>?_) ?_;rotate_left;(focus ((try dsimp only at hS_);go_simp;rfl))) | (refine wpT_R (v:=?_) (by assumption) (by decide) (wn_ rfl) ?_ ?_;rotate_left;(focus (go_simp;rfl))) | (refine wpT_A (v:=?_) (ob:=?_) (by assumption) (by decide) (wn_ rfl) ?_ ?_ ?_;rotate_left 2;(focus (go_simp;first | (constructor <;> rfl) | rfl));(focus (apply cell_alloc;assumption))));(try simp only [Act.put,sA_,sB_,sC_]))
         refine wpT_L q2 (by decide) (wn_ rfl) (fun K2 hK2=>?_)
         go_simp
         refine hK2 _ _ (cell_blk S6.out.h2 rfl) ?_
         clear hK2
         refine wpT_nil ?_
         go_wp2
         go_roundw
         case rel=>exact ⟨j+1,_,_,by go_num,by omega,H2,S6⟩
         case measure=>simp [intOf];omega
        ·rw [if_neg hs3] at h2;cases h2
       ·rw [if_neg hs2] at h2;cases h2
      ·have:j=l.length:=by omega
       subst this
       have h2:=hH2.out
       rw [List.drop_length] at h2
       simp only [predsIn,Option.bind_some] at h2
       have H2:=ak_ h2
       clear h2 hH2
       go_wp2
       go_roundw
       case rel=>exact ⟨i+1,_,_,_,by go_num,by omega,H2,hS2⟩
       case measure=>simp [intOf];omega
    ·rw [if_neg hn2] at h1;cases h1
   ·have:i=r.length:=by omega
    subst this
    have h1:=hH.out
    rw [List.drop_length] at h1
    simp only [viewLoop,Option.some.injEq,Prod.mk.injEq] at h1
    obtain ⟨rfl,rfl⟩:=h1
    go_wp2
    go_ret
    exact ⟨_,_,_,_,_,_,rfl,hS.out⟩
end Go.Proofs.Ytfiiihpdekppiaa
end
section
namespace Go.Proofs.Ytfiiihpdekppiaa
open Go.RowKit Go.Proofs Go.Proofs.YtfiiihpdekppiaaW.PrintWords
open Go.ChangeMaps (setBlock heap_setBlock_same heap_setBlock_other)
theorem look_I {w:World} {b:Nat} {m:List (Int × Int)} (h:w.heap[b]?=some (mI m)) (k:Int):(Instr.lookup 97 (.map (some b)) (.int .i64 k) false).run Try.prog w=.ok (.int .i64 (mI0 m k)) w:=by
 rw [run_look Try.underlying97 Try.underlying3 h zero3]
 congr 1
 rw [mget_map,mI0]
 cases mget m k <;> rfl
structure Same (w w':World):Prop where
 hb:Below w.heap.size w w'
 heap:w'.heap=w.heap
theorem Same.refl (w:World):Same w w:=⟨Below.refl _ _,rfl⟩
theorem Same.drew {w w':World} (h:Same w w'):Same w w'.drew:=⟨h.hb.drew,h.heap⟩
theorem Same.cell {w w':World} (h:Same w w') {p:Addr} {v:Value} (hc:w.cell? p=some v):w'.cell? p=some v:=by
 unfold World.cell? at hc ⊢;rw [h.heap];exact hc
theorem Same.blk {w w':World} (h:Same w w') {b:Nat} {o:Obj} (hc:w.heap[b]?=some o):w'.heap[b]?=some o:=by rw [h.heap];exact hc
structure MeetSt (w:World) (bv bm bx bxi:Nat) (m:List (Int × Int)) (A:Option Addr) (c:Nat) (idom:List Int):Prop where
 h1:w.cell? ⟨bx,0,none⟩=some (.pointer (some ⟨bv,0,none⟩))
 h2:w.cell? ⟨bv,1,none⟩=some (.map (some bm))
 h3:w.heap[bm]?=some (mI m)
 h4:w.cell? ⟨bxi,0,none⟩=some (.slice A idom.length c)
 h5:kI.C w A idom.length idom
theorem MeetSt.same {w w':World} {bv bm bx bxi:Nat} {m:List (Int × Int)} {A:Option Addr} {c:Nat} {idom:List Int} (h:MeetSt w bv bm bx bxi m A c idom) (k:Same w w'):MeetSt w' bv bm bx bxi m A c idom :=
 ⟨k.cell h.h1,k.cell h.h2,k.blk h.h3,k.cell h.h4,Kd.C_below h.h5 k.hb⟩
set_option maxRecDepth 100000 in
set_option maxHeartbeats 4000000 in
theorem meet_any (w:World) (bv bm bx bxi:Nat) (m:List (Int × Int)) (A:Option Addr) (c:Nat) (idom:List Int) (k:Nat) (a b r:Int)
  (hs:MeetSt w bv bm bx bxi m A c idom)
  (h:meetF m idom k a b=some r):Calls Try.prog 76 #[.int .i64 a,.int .i64 b,.pointer (some ⟨bx,0,none⟩),.pointer (some ⟨bxi,0,none⟩)] w fun e w'=>e=.returned (.int .i64 r)/\Same w w':=by
 have H:=ak_ h
 have ST:=ak_ hs
 have W0:=ak_ (Same.refl w)
 clear h hs
 go_enter Try.func76,Try.ntmps76
 go_wp2
 go_loopg [0,1] k (fun kq v0 v1 wq=>∃ a b,v0=.int .i64 a/\v1=.int .i64 b/\Aside0 (meetF m idom kq a b=some r)/\Aside0 (Same w wq))
 case atStart=>exact ⟨a,b,rfl,rfl,H,W0⟩
 case round =>
  obtain ⟨a,b,rfl,rfl,hH,hS⟩:=hrel
  have h:=hH.out
  cases hk:gk with
  | zero=>rw [hk] at h;simp [meetF] at h
  | succ gk' =>
   rw [hk] at h
   simp only [meetF] at h
   by_cases hab:a=b
   ·rw [if_neg (by simpa using hab)] at h
    have hab2:=ak_ hab
    have hra:=ak_ (Option.some.inj h)
    clear h hH hk
    subst hab
    clear hab2
    go_wp2
    go_ret
    exact ⟨by rw [hra.out];rfl,hS.out⟩
   ·rw [if_pos hab] at h
    obtain ⟨a',h1,h⟩:=Option.bind_eq_some_iff.1 h
    obtain ⟨b',h2,h⟩:=Option.bind_eq_some_iff.1 h
    have H1:=ak_ h1
    have H2:=ak_ h2
    have H3:=ak_ h
    have hk:=ak_ hk
    clear h hH h1 h2
    go_wp2
    go_loopg [0] gk' (fun kq v0 wq=>∃ a,v0=.int .i64 a/\Aside0 (climb m idom kq a b=some a')/\Aside0 (Same w wq))
    case atStart=>exact ⟨a,rfl,H1,hS⟩
    case round =>
     obtain ⟨x,rfl,hC,hS2⟩:=hrel
     have h:=hC.out
     cases hk2:gk with
     | zero=>rw [hk2] at h;simp [climb] at h
     | succ gk2 =>
      rw [hk2] at h
      simp only [climb] at h
      obtain ⟨wd,hwd⟩:∃ wd,wd=wr.drew:=⟨_,rfl⟩
      have SD:=ak_ (show Same w wd by rw [hwd];exact hS2.out.drew)
      obtain ⟨d1,d2,d3,d4,d5⟩:=ST.out.same SD.out
      have L1:=look_I d3 x
      have L2:=look_I d3 b
      have HD:=ak_ hwd
      have G5:=ak_ d5
      have hk2:=ak_ hk2
      by_cases hgt:mI0 m x > mI0 m b
      ·rw [if_pos hgt] at h
       by_cases hx:0<=x/\x < idom.length
       ·rw [if_pos hx] at h
        have H5:=ak_ h
        obtain ⟨x,rfl⟩:=Int.eq_ofNat_of_zero_le hx.1
        have hx2:x < idom.length:=by omega
        have hx3:(x:Int) < idom.length:=hx.2
        obtain ⟨ad,had,e1⟩:=C_num d5 x hx2
        cases had
        obtain ⟨v,hv⟩:∃ v,v=idom.getD x 0:=⟨_,rfl⟩
        rw [<-hv] at e1
        have HV:=ak_ hv
        clear h hv hwd d5 d3 hx hC
        go_wp2_with (first | (rw [<-HD.out]) | (refine wp_region_txt (fun _=>True) [] (by kernel_rfl) (by kernel_rfl) ?_) | (with_reducible refine wpT_nil ?_) | (refine wpT_W (v:=?_) trivial (by decide) (wn_ rfl) (fun _ hS_=>?_) ?_;rotate_left;(focus ((try dsimp only at hS_);go_simp;rfl));(simp only [Act.put,sA_,sB_,sC_])) | (refine wpT_R (v:=?_) trivial (by decide) (wn_ rfl) ?_ ?_;rotate_left;(focus (go_simp;rfl));(simp only [Act.put,sA_,sB_,sC_])) | (refine wpT_A (v:=?_) (ob:=?_) trivial (by decide) (wn_ rfl) ?_ ?_ ?_;rotate_left 2;(focus (go_simp;first | (constructor <;> rfl) | rfl));(focus (exact trivial));(simp only [Act.put,sA_,sB_,sC_])))
        go_roundg gk2
        case measure=>have:=hk2.out;omega
        case rel=>exact ⟨_,rfl,⟨by have:=H5.out;rw [Int.toNat_natCast] at this;rw [HV.out];exact this⟩,SD⟩
       ·rw [if_neg hx] at h;cases h
      ·rw [if_neg hgt] at h
       have H5:=ak_ (Option.some.inj h)
       clear h hwd d5 d3 hC
       go_wp2_with (first | (rw [<-HD.out]) | (refine wp_region_txt (fun _=>True) [] (by kernel_rfl) (by kernel_rfl) ?_) | (with_reducible refine wpT_nil ?_) | (refine wpT_W (v:=?_) trivial (by decide) (wn_ rfl) (fun _ hS_=>?_) ?_;rotate_left;(focus ((try dsimp only at hS_);go_simp;rfl));(simp only [Act.put,sA_,sB_,sC_])) | (refine wpT_R (v:=?_) trivial (by decide) (wn_ rfl) ?_ ?_;rotate_left;(focus (go_simp;rfl));(simp only [Act.put,sA_,sB_,sC_])) | (refine wpT_A (v:=?_) (ob:=?_) trivial (by decide) (wn_ rfl) ?_ ?_ ?_;rotate_left 2;(focus (go_simp;first | (constructor <;> rfl) | rfl));(focus (exact trivial));(simp only [Act.put,sA_,sB_,sC_])))
       have e5:=H5.out
       subst e5
       clear H5
       go_loopg [1] gk' (fun kq v0 wq=>∃ b,v0=.int .i64 b/\Aside0 (climb m idom kq b x=some b')/\Aside0 (Same w wq))
       case atStart=>exact ⟨b,rfl,H2,SD⟩
       case round =>
        obtain ⟨y,rfl,hC,hS2⟩:=hrel
        have h:=hC.out
        cases hk2:gk with
        | zero=>rw [hk2] at h;simp [climb] at h
        | succ gk2 =>
         rw [hk2] at h
         simp only [climb] at h
         obtain ⟨wd,hwd⟩:∃ wd,wd=wr.drew:=⟨_,rfl⟩
         have SD:=ak_ (show Same w wd by rw [hwd];exact hS2.out.drew)
         obtain ⟨d1,d2,d3,d4,d5⟩:=ST.out.same SD.out
         have L1:=look_I d3 y
         have L2:=look_I d3 x
         have HD:=ak_ hwd
         have G5:=ak_ d5
         have hk2:=ak_ hk2
         by_cases hgt:mI0 m y > mI0 m x
         ·rw [if_pos hgt] at h
          by_cases hx:0<=y/\y < idom.length
          ·rw [if_pos hx] at h
           have H5:=ak_ h
           obtain ⟨y,rfl⟩:=Int.eq_ofNat_of_zero_le hx.1
           have hx2:y < idom.length:=by omega
           have hx3:(y:Int) < idom.length:=hx.2
           obtain ⟨ad,had,e1⟩:=C_num d5 y hx2
           cases had
           obtain ⟨v,hv⟩:∃ v,v=idom.getD y 0:=⟨_,rfl⟩
           rw [<-hv] at e1
           have HV:=ak_ hv
           clear h hv hwd d5 d3 hx hC
           go_wp2_with (first | (rw [<-HD.out]) | (refine wp_region_txt (fun _=>True) [] (by kernel_rfl) (by kernel_rfl) ?_) | (with_reducible refine wpT_nil ?_) | (refine wpT_W (v:=?_) trivial (by decide) (wn_ rfl) (fun _ hS_=>?_) ?_;rotate_left;(focus ((try dsimp only at hS_);go_simp;rfl));(simp only [Act.put,sA_,sB_,sC_])) | (refine wpT_R (v:=?_) trivial (by decide) (wn_ rfl) ?_ ?_;rotate_left;(focus (go_simp;rfl));(simp only [Act.put,sA_,sB_,sC_])) | (refine wpT_A (v:=?_) (ob:=?_) trivial (by decide) (wn_ rfl) ?_ ?_ ?_;rotate_left 2;(focus (go_simp;first | (constructor <;> rfl) | rfl));(focus (exact trivial));(simp only [Act.put,sA_,sB_,sC_])))
           go_roundg gk2
           case measure=>have:=hk2.out;omega
           case rel=>exact ⟨_,rfl,⟨by have:=H5.out;rw [Int.toNat_natCast] at this;rw [HV.out];exact this⟩,SD⟩
          ·rw [if_neg hx] at h;cases h
         ·rw [if_neg hgt] at h
          have H5:=ak_ (Option.some.inj h)
          clear h hwd d5 d3 hC
          go_wp2_with (first | (rw [<-HD.out]) | (refine wp_region_txt (fun _=>True) [] (by kernel_rfl) (by kernel_rfl) ?_) | (with_reducible refine wpT_nil ?_) | (refine wpT_W (v:=?_) trivial (by decide) (wn_ rfl) (fun _ hS_=>?_) ?_;rotate_left;(focus ((try dsimp only at hS_);go_simp;rfl));(simp only [Act.put,sA_,sB_,sC_])) | (refine wpT_R (v:=?_) trivial (by decide) (wn_ rfl) ?_ ?_;rotate_left;(focus (go_simp;rfl));(simp only [Act.put,sA_,sB_,sC_])) | (refine wpT_A (v:=?_) (ob:=?_) trivial (by decide) (wn_ rfl) ?_ ?_ ?_;rotate_left 2;(focus (go_simp;first | (constructor <;> rfl) | rfl));(focus (exact trivial));(simp only [Act.put,sA_,sB_,sC_])))
          have e5:=H5.out
          subst e5
          clear H5
          go_roundg gk'
          case measure=>have:=hk.out;omega
          case rel=>exact ⟨_,_,rfl,rfl,H3,SD⟩
end Go.Proofs.Ytfiiihpdekppiaa
end
section
namespace Go.Proofs.Ytfiiihpdekppiaa
open Go.RowKit Go.Shelf Go.Proofs Go.Proofs.YtfiiihpdekppiaaW.PrintWords
attribute [local go_sem] Oper.semAt_some
structure Bel (B:Nat) (S:Nat->Prop) (w w':World):Prop where
 os:w'.os=w.os
 tape:w'.tape=w.tape
 output:w'.output=w.output
 size:w.heap.size<=w'.heap.size
 block:∀ k,k < B->¬ S k->w'.heap[k]?=w.heap[k]?
theorem Bel.refl (B:Nat) (S:Nat->Prop) (w:World):Bel B S w w:=⟨rfl,rfl,rfl,Nat.le_refl _,fun _ _ _=>rfl⟩
theorem Bel.trans {B:Nat} {S:Nat->Prop} {a b c:World} (h:Bel B S a b) (k:Bel B S b c):Bel B S a c :=
 ⟨k.os.trans h.os,k.tape.trans h.tape,k.output.trans h.output,Nat.le_trans h.size k.size,fun i hi hn=>(k.block i hi hn).trans (h.block i hi hn)⟩
theorem Bel.drew {B:Nat} {S:Nat->Prop} {a b:World} (h:Bel B S a b):Bel B S a b.drew:=⟨h.os,h.tape,h.output,h.size,h.block⟩
theorem Bel.alloc {B:Nat} {S:Nat->Prop} {a b:World} (h:Bel B S a b) (hB:B<=b.heap.size) (o:Obj):Bel B S a (b.alloc o) :=
 h.trans ⟨rfl,rfl,rfl,by simp,fun k hk _=>heap_alloc_old b o (by omega)⟩
theorem Bel.setCell {B:Nat} {S:Nat->Prop} {a b:World} (h:Bel B S a b) {p:Addr} (hp:p.block < B->S p.block) (u:Value):Bel B S a (b.setCell p u) :=
 h.trans ⟨rfl,rfl,rfl,by simp [World.setCell],fun k hk hn=>Below.heap_setCell b p u k (fun e=>hn (by rw [e];exact hp (by omega)))⟩
theorem Bel.below {B B':Nat} {S:Nat->Prop} {a b:World} (h:Below B' a b) (hB:B<=B'):Bel B S a b:=⟨h.os,h.tape,h.output,h.size,fun k hk _=>h.block k (by omega)⟩
theorem Bel.to_below {B B':Nat} {S:Nat->Prop} {a b:World} (h:Bel B S a b) (hB:B'<=B) (hS:∀ k,k < B'->¬ S k):Below B' a b:=⟨h.os,h.tape,h.output,h.size,fun k hk=>h.block k (by omega) (hS k hk)⟩
theorem Bel.putObj {B:Nat} {S:Nat->Prop} {a b:World} (h:Bel B S a b) {l:Nat} (hl:B<=l) (o:Obj):Bel B S a (b.putObj l o) :=
 h.trans ⟨rfl,rfl,rfl,by simp,fun k hk _=>World.putObj_heap_other (by omega)⟩
theorem Bel.grown {B:Nat} {S:Nat->Prop} {a b c:World} {row:Option Nat} (h:Bel B S a b) (hg:b.grownBy c row) (hr:∀ k,row=some k->k < B->S k) (hB:B<=b.heap.size):Bel B S a c :=
 h.trans ⟨hg.os,hg.tape,hg.output,hg.size,fun k hk hn=>hg.block k (by omega) (fun e=>hn (hr k e.symm hk))⟩
theorem Bel.cell {B:Nat} {S:Nat->Prop} {a b:World} (h:Bel B S a b) {p:Addr} {v:Value} (hp:p.block < B) (hS:¬ S p.block) (hv:a.cell? p=some v):b.cell? p=some v:=by
 unfold World.cell? at hv ⊢;rw [h.block _ hp hS];exact hv
theorem before_any (w:World) (bv:Nat) (n:Int):Calls Try.prog 77 #[.pointer (some ⟨bv,0,none⟩),.int .i64 n] w fun e w' =>
  e=.returned (.func (.func 95) #[] #[.pointer (some ⟨w.heap.size,0,none⟩),.pointer (some ⟨w.heap.size+1,0,none⟩)])/\w'=(w.alloc (.cells #[.pointer (some ⟨bv,0,none⟩)] 94)).alloc (.cells #[.int .i64 n] 3):=by
 go_enter Try.func77,Try.ntmps77
 go_wp2
 go_ret
 exact ⟨by simp,rfl⟩
abbrev Nd (N:Nat):={ p:Int // 0<=p/\p < N }
set_option maxRecDepth 100000 in
set_option maxHeartbeats 4000000 in
theorem yields (n l bb bv B:Nat) (S:Nat->Prop) (nn:Nat) (A A0:Option Addr) (N M c c0:Nat) (xs:List (Nd N)) (J Jx:List (Nd N)->World->Prop)
  (hY:∀ pre x W1,J pre W1->pre.length < xs.length->YieldAt Fence.wide n Try.prog l #[.int .i64 x.1] W1 fun e W' =>
   (e=.returned (.bool true)/\J (pre++[x]) W'/\Bel B S W1 W')∨(e=.returned (.bool false)/\Jx (pre++[x]) W'))
  (W:World) (h1:W.cell? ⟨bb,0,none⟩=some (.pointer (some ⟨bv,0,none⟩))) (h1':W.cell? ⟨bb+1,0,none⟩=some (.int .i64 nn)) (h2:W.cell? ⟨bv,2,none⟩=some (.slice A M c)) (hnn:nn < M)
  (h3:∀ ad,A=some ad->W.cell? (ad.add nn)=some (.slice A0 xs.length c0)) (hA:A≠none)
  (h4:∀ W',Bel B S W W'->kI.C W' A0 xs.length (xs.map (·.1))) (h0:J [] W) (hJd:∀ pre W,J pre W->J pre W.drew) :
  CallsIn Fence.wide (n+1) Try.prog 95 #[.func (.yield l) #[] #[],.pointer (some ⟨bb,0,none⟩),.pointer (some ⟨bb+1,0,none⟩)] W fun e W'=>(∃ v,e=.returned v)/\((∃ ys,ys=xs/\J ys W')∨(∃ pre,pre <+: xs/\Jx pre W')):=by
 cases A with
 | none=>exact absurd rfl hA
 | some ad =>
 have h3:=h3 ad rfl
 have H4:=ak_ h4
 have H0:=ak_ h0
 have BB:=ak_ (Bel.refl B S W)
 clear h4 h0 hA
 refine callsIn_of_wp Try.func95 rfl trivial ?_ rfl
 simp only [Try.ntmps95,List.size_toArray,List.length_cons,List.length_nil,Nat.reduceAdd,Nat.reduceSub,Array.replicate_succ,Array.replicate_zero,List.push_toArray,List.append_toArray,List.nil_append,List.cons_append]
 obtain ⟨wd,hwd⟩:∃ wd,wd=W.drew:=⟨_,rfl⟩
 have J0:=ak_ (show J [] wd from hwd ▸ hJd _ _ H0.out)
 have BD:=ak_ (show Bel B S W wd by rw [hwd];exact (Bel.refl B S W).drew)
 have d1:wd.cell? ⟨bb,0,none⟩=some (.pointer (some ⟨bv,0,none⟩)):=by rw [hwd];exact h1
 have d2:wd.cell? ⟨bb+1,0,none⟩=some (.int .i64 nn):=by rw [hwd];exact h1'
 have d3:wd.cell? ⟨bv,2,none⟩=some (.slice (some ad) M c):=by rw [hwd];exact h2
 have d4:wd.cell? (ad.add nn)=some (.slice A0 xs.length c0):=by rw [hwd];exact h3
 have hnm:(nn:Int) < M:=by omega
 have HD:=ak_ hwd
 clear hwd h1 h1' h2 h3
 gi_wp2_with (first | (rw [<-HD.out]) | (refine wpIn_wide.2 (wp_region_txt (fun _=>True) [] (by kernel_rfl) (by kernel_rfl) ?_)) | (with_reducible refine wpT_nil ?_) | (refine wpT_W (v:=?_) trivial (by decide) (wn_ rfl) (fun _ hS_=>?_) ?_;rotate_left;(focus ((try dsimp only at hS_);go_simp;rfl));(simp only [Act.put,sA_,sB_,sC_])) | (refine wpT_R (v:=?_) trivial (by decide) (wn_ rfl) ?_ ?_;rotate_left;(focus (go_simp;rfl));(simp only [Act.put,sA_,sB_,sC_])) | (refine wpT_A (v:=?_) (ob:=?_) trivial (by decide) (wn_ rfl) ?_ ?_ ?_;rotate_left 2;(focus (go_simp;first | (constructor <;> rfl) | rfl));(focus (exact trivial));(simp only [Act.put,sA_,sB_,sC_])))
 gi_loopw [14] (fun t wr=>∃ i:Nat,t=.int .i64 i/\i<=xs.length/\Aside0 (J (xs.take i) wr)/\Aside0 (Bel B S W wr)) (fun t _=>xs.length - (intOf t).toNat)
 case atStart=>exact ⟨0,rfl,Nat.zero_le _,⟨by simpa using J0.out⟩,BD⟩
 case round =>
  obtain ⟨i,rfl,hi,hJ,hB⟩:=hrel
  by_cases hlt:i < xs.length
  ·obtain ⟨x,hx⟩:∃ x,x=xs[i]:=⟨_,rfl⟩
   have h5:=H4.out _ hB.out
   have hi9:xs.length<=9223372036854775807:=h5.2.1
   obtain ⟨ad2,rfl,e0⟩:=C_num (xs:=xs.map (·.1)) (by simpa using h5) i (by simpa using hlt)
   have e1:wr.cell? (ad2.add i)=some (.int .i64 x.1):=by rw [e0];simp [List.getD_eq_getElem?_getD,hlt,hx]
   obtain ⟨fn,tmps,assign,body,hy,hR⟩:=hY _ x wr hJ.out (by simp;omega)
   have HX:=ak_ hx
   have HR:=ak_ hR
   have hlt':(i:Int) < xs.length:=by omega
   clear hR hx h5 e0
   gi_wp2
   refine HR.out.mono ?_
   rintro e W3 (⟨rfl,hJ3,hk3⟩ | ⟨rfl,hJx3⟩)
   ·have J3:=ak_ (show J (xs.take (i+1)) W3 by rw [List.take_succ_eq_append_getElem hlt,<-HX.out];exact hJ3)
    have B3:=ak_ (hB.out.trans hk3)
    clear hJ3 hk3 HR
    gi_wp2
    go_roundw
    case rel=>exact ⟨i+1,by go_num,by omega,J3,B3⟩
    case measure=>simp [intOf];omega
   ·have J3:=ak_ (show Jx (xs.take (i+1)) W3 by rw [List.take_succ_eq_append_getElem hlt,<-HX.out];exact hJx3)
    clear hJx3 HR
    gi_wp2
    refine bodyPost_ret (results_none rfl _ _ _) rfl ?_
    exact ⟨⟨_,rfl⟩,.inr ⟨_,List.take_prefix _ _,J3.out⟩⟩
  ·obtain rfl:i=xs.length:=by omega
   gi_wp2
   go_end0
   exact ⟨⟨_,rfl⟩,.inl ⟨_,rfl,by simpa using hJ.out⟩⟩
theorem before_stops (n bb bv B:Nat) (S:Nat->Prop) (nn:Nat) (A A0:Option Addr) (N M c c0:Nat) (xs:List (Nd N)) (w:World) (hB:B<=w.heap.size)
  (h1:w.cell? ⟨bb,0,none⟩=some (.pointer (some ⟨bv,0,none⟩))) (h1':w.cell? ⟨bb+1,0,none⟩=some (.int .i64 nn)) (h2:w.cell? ⟨bv,2,none⟩=some (.slice A M c)) (hnn:nn < M)
  (h3:∀ ad,A=some ad->w.cell? (ad.add nn)=some (.slice A0 xs.length c0)) (hA:A≠none)
  (h4:∀ W',Bel B S w W'->kI.C W' A0 xs.length (xs.map (·.1))) :
  SeqStopsK Fence.wide (n+1) Try.prog 95 #[.pointer (some ⟨bb,0,none⟩),.pointer (some ⟨bb+1,0,none⟩)] (fun x:Nd N=>#[.int .i64 x.1]) (Bel B S) (fun ys=>ys=xs) (fun pre=>pre <+: xs) xs.length w:=by
 intro l J Jx W hW hJ _ hY h0
 exact yields n l bb bv B S nn A A0 N M c c0 xs J Jx hY W (pw_cell_below hW h1) (pw_cell_below hW h1') (pw_cell_below hW h2) hnn (fun ad e=>pw_cell_below hW (h3 ad e)) hA (fun W' h=>h4 W' ((Bel.below hW hB).trans h)) h0
  (fun pre W1 h=>hJ pre W1 _ none h ⟨rfl,rfl,rfl,Nat.le_refl _,fun _ _ _=>rfl⟩ (fun r e=>by cases e))
end Go.Proofs.Ytfiiihpdekppiaa
end
section
namespace Go.Proofs.Ytfiiihpdekppiaa
open Go.RowKit Go.Proofs Go.Proofs.YtfiiihpdekppiaaW.PrintWords
open PShapeReducible (bits_Mul.f)
theorem and_low {n:Int} (h0:0<=n) (h1:n < 4294967296):Go.bits .and .u64 n 4294967295=n:=by
 obtain ⟨n,rfl⟩:=Int.eq_ofNat_of_zero_le h0
 have h2:n < 2 ^ 32:=by omega
 have:=Go.bits_and_u64_nat n 4294967295 (by omega) (by decide)
 rw [show ((4294967295:Nat):Int)=4294967295 from rfl] at this
 rw [this,show 4294967295=2 ^ 32 - 1 from rfl,Nat.and_two_pow_sub_one_eq_mod,Nat.mod_eq_of_lt h2]
theorem wrapu {n:Int} (h0:0<=n) (h1:n < 18446744073709551616):IntKind.u64.wrap n=n:=by
 simp [IntKind.wrap,IntKind.bits,IntKind.signed]
 omega
theorem mul_one' {n:Int} (h0:0<=n) (h1:n < 4294967296):bits_Mul.f 1 n=some (0,n):=by
 have e1:=and_low h0 h1
 have e2:Go.bits .and .u64 1 4294967295=1:=and_low (by decide) (by decide)
 have e4:Go.bits .and .u64 0 4294967295=0:=and_low (by decide) (by decide)
 have e3:n / 4294967296=0:=by omega
 have e5:IntKind.u64.wrap n=n:=wrapu h0 (by omega)
 have e6:IntKind.u64.wrap 0=0:=wrapu (by decide) (by decide)
 have e7:(1:Int) / 4294967296=0:=by decide
 have e8:(0:Int) / 4294967296=0:=by decide
 simp only [bits_Mul.f,PShapeReducible.bits_Mul64.f,e1,e2,e3,e4,e5,e6,e7,e8,Int.zero_mul,Int.mul_zero,Int.one_mul,Int.add_zero,Option.bind_some]
structure RepSt (w0 w:World) (nb n k:Nat) (v:Int) (cur:List Value):Prop where
 h:w.heap[nb]?=some (.cells cur.toArray 3 (0,0))
 len:cur.length=n
 cell:∀ j,j < k->cur[j]?=some (.int .i64 v)
 hb:Below w0.heap.size w0 w
 b:w0.heap.size<=nb
theorem RepSt.copy {w0 w:World} {nb n k c2:Nat} {v:Int} {cur:List Value} (h:RepSt w0 w nb n k v cur) (hk:k < n) (a:Addr) (m:Nat) (hm:0 < m) (ha:∀ j,j < min m (n - k)->w.cell? (a.add j)=some (.int .i64 v)) (c1:Nat) (ty:TypeId) :
  ∃ w' cur',(Builtin.copy_ #[23,23] ty #[.slice (some ⟨nb,k,none⟩) (n - k) c1,.slice (some a) m c2]).run Try.prog w=.ok (goInt (min m (n - k):Nat)) w'/\RepSt w0 w' nb n (k+min m (n - k)) v cur':=by
 have hl:=h.len
 have hle:min m (n - k)<=n - k:=Nat.min_le_right _ _
 have e:(List.replicate (min m (n - k)) (Value.int .i64 v)).length=min m (n - k):=by simp
 have:=run_copy_row (P:=Try.prog) w 23 23 ty 3 nb k (n - k) c1 a m c2 cur.toArray 3 (List.replicate (min m (n - k)) (.int .i64 v)) Try.underlying23 (by have:=PShapeReducible.info3;obtain ⟨i,h1,h2⟩:=Option.map_eq_some_iff.1 this;rw [h1];simp at h2 ⊢;exact h2.2.1) h.h (by simp)
  (fun j u hu=>by
   have hj:j < min m (n - k):=by
    rcases Nat.lt_or_ge j (min m (n - k)) with h' | h'
    ·exact h'
    ·rw [List.getElem?_eq_none (by simpa using h')] at hu;cases hu
   rw [List.getElem?_replicate_of_lt hj] at hu
   rw [ha j hj,hu]) (by simp;omega) (fun u hu=>by rw [List.eq_of_mem_replicate hu];rfl)
 rw [e] at this
 generalize min m (n - k)=q at *
 refine ⟨_,_,this,⟨setRow_heap w nb cur.toArray _ 3 _ h.h,?_,?_,below_setRow h.hb h.b _,h.b⟩⟩
 ·simp;omega
 ·intro j hj
  rcases Nat.lt_or_ge j k with h' | h'
  ·rw [List.append_assoc,List.getElem?_append_left (by simp;omega)]
   simp only [List.getElem?_take,h',if_true]
   exact h.cell j h'
  ·have e5:(cur.toArray.toList.take k).length=k:=by simp;omega
   rw [List.append_assoc,List.getElem?_append_right (by omega),e5,List.getElem?_append_left (by rw [List.length_replicate];omega)]
   rw [List.getElem?_replicate_of_lt (by omega)]
set_option maxRecDepth 100000 in
set_option maxHeartbeats 4000000 in
theorem repeat_any (w:World) (b:Nat) (v:Int) (n:Nat) (hb:w.cell? ⟨b,0,none⟩=some (.int .i64 v)) (hn:0 < n) (hn':n<=1000000) :
  Calls Try.prog 75 #[.slice (some ⟨b,0,none⟩) 1 1,.int .i64 n] w fun e w'=>∃ v',e=.returned v'/\kI.R 3 w' w.heap.size (fun _=>True) v' (List.replicate n v)/\Below w.heap.size w w':=by
 have hmul:=ak_ (mul_one' (n:=(n:Int)) (by omega) (by omega))
 have hmk:=print_make_of (P:=Try.prog) 23 3 (.int .i64 0) 8 Try.underlying23 PShapeReducible.info3 rfl (by decide) n (by omega)
 have HB:=ak_ hb
 clear hb
 go_enter Try.func75,Try.ntmps75
 go_wp2_with (first
  | (go_at_call 94;refine (PShapeReducible.bits_Mul.calls 1 n 0 n _ hmul.out).mono ?_;rintro e w1 ⟨rfl,hd⟩;have HD:=ak_ hd;clear hd;have st0:RepSt w (w1.alloc (.cells (madeCells #[.int .i64 0] n) 3)) w1.heap.size n 0 v (List.replicate n (.int .i64 0)):=⟨by rw [heap_alloc_new];congr 2;apply Array.toList_inj.1;apply List.ext_getElem <;> simp [madeCells,Nat.mod_one],by simp,by simp,HD.out.below.alloc HD.out.below.size _,HD.out.below.size⟩;obtain ⟨w2,cur,hcp,hst⟩:=st0.copy (c2:=1) hn ⟨b,0,none⟩ 1 (by omega) (fun j hj=>by obtain rfl:j=0:=(by omega);exact cell_alloc _ (pw_cell_below HD.out.below HB.out)) n 3;rw [show min 1 (n - 0)=1 by omega] at hcp hst;simp only [Nat.sub_zero,Nat.zero_add] at hcp hst;have ST:=ak_ hst;clear hst st0))
 obtain ⟨nb,hnb⟩:∃ nb,nb=w1.heap.size:=⟨_,rfl⟩
 rw [<-hnb]
 rw [<-hnb] at ST
 clear hnb hcp hmk
 go_loopw [8] (fun t wr=>∃ (k:Nat) (cur:List Value),t=.int .i64 k/\0 < k/\k<=n/\Aside0 (RepSt w wr nb n k v cur)) (fun t _=>n - (intOf t).toNat)
 case atStart=>exact ⟨1,_,rfl,by omega,by omega,ST⟩
 case round =>
  obtain ⟨k,cur,rfl,hk0,hk,hS⟩:=hrel
  by_cases hlt:k < n
  ·obtain ⟨wd,hwd⟩:∃ wd,wd=wr.drew:=⟨_,rfl⟩
   have hS2:RepSt w wd nb n k v cur:=by rw [hwd];exact ⟨hS.out.h,hS.out.len,hS.out.cell,hS.out.hb.drew,hS.out.b⟩
   obtain ⟨q,hq⟩:∃ q,q=min k (n - k):=⟨_,rfl⟩
   obtain ⟨w2,cur2,hcp,hst⟩:=hS2.copy (c2:=n) hlt ⟨nb,0,none⟩ k hk0 (fun j hj=>by
    have e:(⟨nb,0,none⟩:Addr).add j=⟨nb,j,none⟩:=by unfold Addr.add;split <;> simp_all
    rw [e];exact cell_blk hS2.h (by simpa using hS2.cell j (by omega))) (n - k) 3
   rw [<-hq] at hcp hst
   have hq2:k+q<=9223372036854775807:=by omega
   have hq3:0 < q:=by omega
   have hqw:IntKind.i64.wrap ((k:Int)+q)=k+q:=by simp [IntKind.wrap,IntKind.bits,IntKind.signed];omega
   have hq4:k+q<=n:=by omega
   have ST:=ak_ hst
   have HD:=ak_ hwd
   have hk9:(k:Int) < n:=by omega
   clear hq hwd hst hS2
   go_wp2_with (first | (rw [<-HD.out]) | (refine wp_region_txt (fun _=>True) [] (by kernel_rfl) (by kernel_rfl) ?_) | (with_reducible refine wpT_nil ?_) | (refine wpT_W (v:=?_) trivial (by decide) (wn_ rfl) (fun _ hS_=>?_) ?_;rotate_left;(focus ((try dsimp only at hS_);go_simp;rfl));(simp only [Act.put,sA_,sB_,sC_])) | (refine wpT_R (v:=?_) trivial (by decide) (wn_ rfl) ?_ ?_;rotate_left;(focus (go_simp;rfl));(simp only [Act.put,sA_,sB_,sC_])) | (refine wpT_A (v:=?_) (ob:=?_) trivial (by decide) (wn_ rfl) ?_ ?_ ?_;rotate_left 2;(focus (go_simp;first | (constructor <;> rfl) | rfl));(focus (exact trivial));(simp only [Act.put,sA_,sB_,sC_])))
   (refine wpT_L trivial (by decide) (wn_ rfl) (fun K_ hK_=>?_);go_simp;refine hK_ _ _ trivial ?_;clear hK_)
   iterate 3 ((first | (with_reducible refine wpT_nil ?_) | (refine wpT_W (v:=?_) trivial (by decide) (wn_ rfl) (fun _ hS_=>?_) ?_;rotate_left;(focus ((try dsimp only at hS_);go_simp;rfl))) | (refine wpT_R (v:=?_) trivial (by decide) (wn_ rfl) ?_ ?_;rotate_left;(focus (go_simp;rfl))) | (refine wpT_A (v:=?_) (ob:=?_) trivial (by decide) (wn_ rfl) ?_ ?_ ?_;rotate_left 2;(focus (go_simp;first | (constructor <;> rfl) | rfl));(focus (exact trivial))));(try simp only [Act.put,sA_,sB_,sC_]))
   go_wp2
   go_roundw
   case rel=>exact ⟨k+q,_,by go_num,by omega,hq4,ST⟩
   case measure=>simp [intOf];omega
  ·obtain rfl:k=n:=by omega
   go_wp2
   go_ret
   refine ⟨.slice (some ⟨nb,0,none⟩) k k,rfl,Kd.R_of_own (xs:=List.replicate k v) ?_ (by simp),hS.out.hb⟩
   have h:=hS.out
   have hl:=h.len
   refine ⟨by simp [encs],.inr ⟨nb,k,_,by simp,h.b,h.h,by simp,by simp only [maxLen];omega,by simp [hl],?_⟩⟩
   simp only [List.length_replicate,Nat.mul_one]
   apply List.ext_getElem?
   intro j
   rcases Nat.lt_or_ge j k with h' | h'
   ·simp [encs,h',h.cell j h']
   ·rw [List.getElem?_eq_none (by simp;omega),List.getElem?_eq_none (by simp [encs];omega)]
end Go.Proofs.Ytfiiihpdekppiaa
end
