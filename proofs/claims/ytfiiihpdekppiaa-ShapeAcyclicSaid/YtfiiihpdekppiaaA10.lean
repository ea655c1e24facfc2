/- A part of the proof that vellumlaw12.ShapeAcyclic is true for every input: walks of functions that the row reaches and plain laws that they need. Conditions: none. Joined by merge.py out of B4 C13 B5 B6 B7 B8 S7; a part that began as a print is named P or W there and is trimmed. -/
import Derived.Test.YtfiiihpdekppiaaA1
import Derived.Test.YtfiiihpdekppiaaA4
import Derived.Test.YtfiiihpdekppiaaA6
import Derived.Test.YtfiiihpdekppiaaA9
import Derived.Maps.RangeRun
import Derived.Lib.JoinLaws
set_option linter.unusedVariables false
set_option linter.unusedSimpArgs false
section
namespace Go.Proofs.Ytfiiihpdekppiaa
open Go.RowKit Go.Proofs
open Go.ChangeMaps (setBlock heap_setBlock_same heap_setBlock_other)
variable {P : Program}
theorem ents_get:∀ (l:List (Int × Value)) (j i:Nat),(ents j l)[i]?=(l[i]?).map fun p=>{ key:=.int .i64 p.1,val:=p.2,born:=j+i }
 | [],_,_=>rfl
 | p :: r,j,0=>rfl
 | p :: r,j,i+1=>by
  simp only [ents,List.getElem?_cons_succ]
  rw [ents_get r (j+1) i]
  cases r[i]? with
  | none=>rfl
  | some q=>simp only [Option.map_some];congr 2;omega
theorem ents_born (l:List (Int × Value)) (j:Nat):(ents j l).map (·.born)=List.range' j l.length:=by
 induction l generalizing j with
 | nil=>rfl
 | cons p r ih=>simp [ents,ih,List.range'_succ]
structure ItSt (w:World) (r bm:Nat) (l:List (Int × Value)) (seen:List Nat):Prop where
 hr:w.heap[r]?=some (.mapIter (some bm) l.length seen.toArray l.length)
 hb:w.heap[bm]?=some (mObj l)
 nd:seen.Nodup
 lt:∀ i∈seen,i < l.length
theorem it_start {w:World} {bm:Nat} {l:List (Int × Value)} {t k e:TypeId} (ht:P.underlying t=some (.map k e)) (hb:w.heap[bm]?=some (mObj l)) :
  (Instr.range t (.map (some bm))).run P w=.ok (.pointer (some ⟨w.heap.size,0,none⟩)) (w.alloc (.mapIter (some bm) l.length #[] l.length))/\ItSt (w.alloc (.mapIter (some bm) l.length #[] l.length)) w.heap.size bm l [] :=
 ⟨run_range_map w t k e bm _ _ ht hb,heap_alloc_new _ _,(heap_alloc_old _ _ (blk_lt' hb)).trans hb,by simp,by simp⟩
theorem it_next {w:World} {r bm:Nat} {l:List (Int × Value)} {seen:List Nat} (h:ItSt w r bm l seen) (ty:TypeId) :
  (seen.length=l.length/\(Instr.next (.pointer (some ⟨r,0,none⟩)) false ty).run P w=.ok (.tuple #[.bool false]) w) ∨
  ∃ (i:Nat) (hi:i < l.length) (w1 w2:World),i ∉ seen/\(w1=w∨w1=w.drew)/\w2=setBlock w1 r (.mapIter (some bm) l.length (seen++[i]).toArray l.length)/\(Instr.next (.pointer (some ⟨r,0,none⟩)) false ty).run P w=.ok (.tuple #[.bool true,.int .i64 l[i].1,l[i].2]) w2 /\
   (Instr.entry (.pointer (some ⟨r,0,none⟩))).run P w2=.ok (.tuple #[.int .i64 l[i].1,l[i].2]) w2/\ItSt w2 r bm l (seen++[i]):=by
 have hold:∀ x∈(ents 0 l).toArray.toList,x.born < l.length:=by
  intro x hx
  have:x.born∈(ents 0 l).map (·.born):=List.mem_map.2 ⟨x,by simpa using hx,rfl⟩
  rw [ents_born] at this
  simp at this
  exact this
 rcases run_next_at (P:=P) w ty r bm l.length l.length seen.toArray (ents 0 l).toArray l.length h.hr h.hb hold (Nat.le_refl _) with ⟨h0,hrun⟩ | ⟨e,he,w1,hw1,hrun⟩
 ·left
  refine ⟨?_,hrun⟩
  have hall:∀ i,i < l.length->i∈seen:=by
   intro i hi
   have h1:leftOf (ents 0 l).toArray seen.toArray=#[]:=Array.eq_empty_of_size_eq_zero h0
   unfold leftOf at h1
   rw [Array.filter_eq_empty_iff] at h1
   have h2:=ents_get l 0 i
   rw [List.getElem?_eq_getElem hi] at h2
   have h3:({ key:=.int .i64 l[i].1,val:=l[i].2,born:=0+i }:MapEntry)∈(ents 0 l).toArray:=by
    rw [List.mem_toArray]
    exact List.mem_of_getElem? h2
   have h4:=h1 _ h3
   simpa using h4
  have h5:List.range l.length ⊆ seen:=fun i hi=>hall i (by simpa using hi)
  have h6:seen ⊆ List.range l.length:=fun i hi=>by simpa using h.lt i hi
  have h7:=(List.nodup_range (n:=l.length)).length_le_of_subset h5
  have h8:=h.nd.length_le_of_subset h6
  simp at h7 h8
  omega
 ·right
  obtain ⟨he1,he2⟩:e∈ents 0 l/\e.born ∉ seen:=by
   unfold leftOf at he
   simp only [Array.toList_filter,List.mem_filter] at he
   exact ⟨by simpa using he.1,by simpa using he.2⟩
  obtain ⟨i,hi⟩:=List.mem_iff_getElem?.1 he1
  have hi2:=hi
  rw [ents_get] at hi
  have hlt:i < l.length:=by
   rcases Nat.lt_or_ge i l.length with h' | h'
   ·exact h'
   ·rw [List.getElem?_eq_none h'] at hi;cases hi
  rw [List.getElem?_eq_getElem hlt] at hi
  simp only [Option.map_some,Option.some.injEq] at hi
  subst hi
  simp only [Nat.zero_add] at he2 hrun
  rw [show seen.toArray.push i=(seen++[i]).toArray by simp] at hrun
  have hr1:w1.heap[r]?=some (.mapIter (some bm) l.length seen.toArray l.length):=by rcases hw1 with rfl | rfl <;> exact h.hr
  have hb1:w1.heap[bm]?=some (mObj l):=by rcases hw1 with rfl | rfl <;> exact h.hb
  have hne:r≠bm:=fun e=>by rw [<-e,hr1] at hb1;cases hb1
  have hlt1:=blk_lt' hr1
  have k1:(setBlock w1 r (.mapIter (some bm) l.length (seen++[i]).toArray l.length)).heap[r]?=some (.mapIter (some bm) l.length (seen++[i]).toArray l.length):=by
   simp [setBlock,hlt1]
  have k2:(setBlock w1 r (.mapIter (some bm) l.length (seen++[i]).toArray l.length)).heap[bm]?=some (mObj l):=by
   rw [<-hb1];simp [setBlock,hne]
  refine ⟨i,hlt,w1,_,he2,hw1,rfl,hrun,?_,k1,k2,?_,?_⟩
  ·have:=run_entry_at (P:=P) _ r bm l.length seen.toArray (ents 0 l).toArray l.length { key:=.int .i64 l[i].1,val:=l[i].2,born:=0+i } (by rw [k1];simp) k2 (by simpa using he1) (by
    rw [ents_born]
    exact List.nodup_range')
   exact this
  ·exact List.nodup_append.2 ⟨h.nd,by simp,fun a ha b hb e=>he2 (by simp at hb;rw [<-hb,<-e];exact ha)⟩
  ·intro j hj
   rcases List.mem_append.1 hj with hj | hj
   ·exact h.lt j hj
   ·simp at hj;omega
theorem sortI_perm {a b:List Int} (h:a.Perm b):sortI a=sortI b:=by
 have tr:∀ (x y z:Int),decide (x<=y)=true->decide (y<=z)=true->decide (x<=z)=true:=fun x y z h1 h2=>by simp at *;omega
 have tt:∀ (x y:Int),(decide (x<=y) || decide (y<=x))=true:=fun x y=>by simp;omega
 refine List.Perm.eq_of_pairwise (le:=fun x y=>decide (x<=y)=true) (fun x y _ _ h1 h2=>by simp at h1 h2;omega) (List.pairwise_mergeSort tr tt a) (List.pairwise_mergeSort tr tt b) ?_
 exact (List.mergeSort_perm a _).trans (h.trans (List.mergeSort_perm b _).symm)
theorem seen_keys {l:List (Int × Value)} {seen:List Nat} (hn:seen.Nodup) (hl:∀ i∈seen,i < l.length) (he:seen.length=l.length):(seen.map fun i=>(l.getD i (0,.int .i64 0)).1).Perm (l.map (·.1)):=by
 have h1:seen.Perm (List.range l.length):=by
  refine (List.perm_ext_iff_of_nodup hn List.nodup_range).2 fun i=>⟨fun h=>by simpa using hl i h,fun h=>?_⟩
  by_cases hi:i∈seen
  ·exact hi
  ·exfalso
   have h2:(i :: seen).Nodup:=List.nodup_cons.2 ⟨hi,hn⟩
   have h3:=h2.length_le_of_subset (l₂:=List.range l.length) (fun j hj=>by
    rcases List.mem_cons.1 hj with rfl | hj
    ·exact h
    ·simpa using hl j hj)
   simp at h3
   omega
 refine (h1.map _).trans (List.Perm.of_eq ?_)
 apply List.ext_getElem
 ·simp
 ·intro i h2 h3
  simp only [List.length_map,List.length_range] at h2
  simp [List.getD_eq_getElem?_getD,h2]
end Go.Proofs.Ytfiiihpdekppiaa
end
section
namespace Go.Proofs.Ytfiiihpdekppiaa
open Go.RowKit Go.Proofs Go.Proofs.YtfiiihpdekppiaaW.PrintWords
open Go.ChangeMaps (setBlock heap_setBlock_same heap_setBlock_other)
theorem len_B {w:World} {b:Nat} {m:List (Int × Bool)} (h:w.heap[b]?=some (mB m)) (ty:TypeId):(Builtin.len_ #[68] ty #[.map (some b)]).run Try.prog w=.ok (.int .i64 m.length) w:=by
 rw [run_mlen h Try.underlying68]
 simp
section
variable {w0 w w' : World} {B : TarB} {ex : List (List Int)} {vs vo : Value} {vals rv : List Value} {rx : List (List Int)} {s : Tar}
theorem TarSt.turnedEv {vn v':Value} {xs xs':List Int} (h:TarSt w0 w B [vn] [xs] vs vo vals rv rx s) (hg:w.grownBy w' vn.ownBlock) (ho:w'.ownsRow w0.heap.size 3 1 v' xs'.length (nums .i64 xs')) (hat:v'.ownBlock=vn.ownBlock∨∃ b,v'.ownBlock=some b/\w.heap.size<=b):TarSt w0 w' B [v'] [xs'] vs vo vals rv rx s:=by
 have hs:=h.hr.row 1 (by simp)
 simp only [List.getD_cons_succ,List.singleton_append,List.getD_cons_zero] at hs
 have q:∀ (k:Nat) (cs:Array Value) (t:TypeId) (fr:Nat × Nat),w.heap[k]?=some (Obj.cells cs t fr)->t≠3->w'.heap[k]?=some (Obj.cells cs t fr):=fun k cs t fr hk ht=>grown_blk hg hs hk (Ne.symm ht)
 have hr6:=h.hr.turned (i:=1) (by simp) (v':=v') (xs':=xs') ho (by simpa using hg) (by simpa using hat)
 exact ⟨q _ _ _ _ h.bi (by decide),q _ _ _ _ h.bl (by decide),q _ _ _ _ h.bst (by decide),q _ _ _ _ h.bon (by decide),q _ _ _ _ h.bsp (by decide),q _ _ _ _ h.bse (by decide),q _ _ _ _ h.bf (by decide),q _ _ _ _ h.bo (by decide),grown_map hg hs h.mi,grown_map hg hs h.ml,grown_map hg hs h.mo,
  grown_row hg hs h.hout (by decide),h.len,by simpa using hr6,by simp,h.hb.grown hg h.hb.size (fun k hk=>own_base hs k hk),h.ne1,h.ne2,h.ne3,h.ne4,h.b1,h.b2,h.b3,h.b4,h.b5⟩
theorem parts_rows {vn:Value} {xs:List Int} (h:TarSt w0 w B [vn] [xs] vs vo vals [] [] s):Rows3 w w0.heap.size vals s.out:=by
 have hr:Rows3 w w0.heap.size (vs :: vn :: vals) (s.st :: xs :: s.out):=by have:=h.hr;simpa using this
 have hlen:=h.len
 refine ⟨hlen,fun i hi=>?_,fun i j hi hj hne=>?_⟩
 ·have:=hr.row (i+2) (by simp;omega)
  simpa using this
 ·have:=hr.apart (i+2) (j+2) (by simp;omega) (by simp;omega) (by omega)
  simpa using this
theorem TarSt.ahead {vn:Value} {xs:List Int} (h:TarSt w0 w B [vn] [xs] vs vo vals rv rx s):w.ownsRow w0.heap.size 3 1 vn xs.length (nums .i64 xs):=by
 have hs:=h.hr.row 1 (by simp)
 simpa using hs
theorem TarSt.lay {vn:Value} {xs:List Int} (h:TarSt w0 w B [] [] nilS vo [] [] [] { s with st:=[],out:=[] }) (hb:Below w.heap.size w w') (ho:w'.ownsRow w0.heap.size 3 1 vn xs.length (nums .i64 xs)) (hn:∀ k,vn.ownBlock=some k->w.heap.size<=k):TarSt w0 w' B [vn] [xs] nilS vo [] [] [] { s with st:=[],out:=[] }:=by
 have h':=h.below hb
 have hr:=h.hr.push_new hb ho hn
 exact ⟨h'.bi,h'.bl,h'.bst,h'.bon,h'.bsp,h'.bse,h'.bf,h'.bo,h'.mi,h'.ml,h'.mo,h'.hout,h'.len,by simpa using hr,rfl,h'.hb,h'.ne1,h'.ne2,h'.ne3,h'.ne4,h'.b1,h'.b2,h'.b3,h'.b4,h'.b5⟩
theorem TarSt.iter {ev:List Value} (h:TarSt w0 w B ev ex vs vo vals rv rx s) {b bm m c:Nat} {sn:Array Nat} (hi:w.heap[b]?=some (.mapIter (some bm) m sn c)) (hb:w0.heap.size<=b) (o:Obj):TarSt w0 (setBlock w b o) B ev ex vs vo vals rv rx s:=by
 have hk:∀ (k:Nat) (o':Obj),w.heap[k]?=some o'->k≠b->(setBlock w b o).heap[k]?=some o':=fun k o' hk hne=>by
  rw [<-hk];simp [setBlock,Ne.symm hne]
 have hc:∀ (k:Nat) (cs:Array Value) (t:TypeId) (fr:Nat × Nat),w.heap[k]?=some (Obj.cells cs t fr)->(setBlock w b o).heap[k]?=some (Obj.cells cs t fr):=fun k cs t fr h'=>hk _ _ h' (fun e=>by subst e;rw [hi] at h';cases h')
 have hm:∀ (k:Nat) (es:Array MapEntry) (ck:Nat),w.heap[k]?=some (Obj.map es ck)->(setBlock w b o).heap[k]?=some (Obj.map es ck):=fun k es ck h'=>hk _ _ h' (fun e=>by subst e;rw [hi] at h';cases h')
 exact ⟨hc _ _ _ _ h.bi,hc _ _ _ _ h.bl,hc _ _ _ _ h.bst,hc _ _ _ _ h.bon,hc _ _ _ _ h.bsp,hc _ _ _ _ h.bse,hc _ _ _ _ h.bf,hc _ _ _ _ h.bo,hm _ _ _ h.mi,hm _ _ _ h.ml,hm _ _ _ h.mo,
  own_move h.hout (fun k hk'=>by obtain ⟨cs,h'⟩:=own_typed h.hout k hk';rw [h',hc _ _ _ _ h']),h.len,h.hr.typed (fun k cs h'=>by rw [h',hc _ _ _ _ h']),h.elen,
  ⟨h.hb.os,h.hb.tape,h.hb.output,by simpa [setBlock] using h.hb.size,fun k hk'=>by rw [<-h.hb.block k hk'];simp [setBlock,show b≠k by omega]⟩,h.ne1,h.ne2,h.ne3,h.ne4,h.b1,h.b2,h.b3,h.b4,h.b5⟩
end
theorem grown_obj {w w1:World} {base n k:Nat} {e:TypeId} {size:Nat} {v:Value} {xs:List Value} {o:Obj} (hg:w.grownBy w1 v.ownBlock) (ho:w.ownsRow base e size v n xs) (hb:w.heap[k]?=some o) (hc:o.isCells=false):w1.heap[k]?=some o :=
 (hg.block k (blk_lt' hb) (fun e'=>by obtain ⟨cs,hc'⟩:=own_typed ho k e'.symm;rw [hb] at hc';cases hc';simp [Obj.isCells] at hc)).trans hb
theorem ItSt.grown {w w1:World} {base n:Nat} {e:TypeId} {size:Nat} {v:Value} {xs:List Value} {r bm:Nat} {l:List (Int × Value)} {seen:List Nat} (h:ItSt w r bm l seen) (hg:w.grownBy w1 v.ownBlock) (ho:w.ownsRow base e size v n xs):ItSt w1 r bm l seen :=
 ⟨grown_obj hg ho h.hr rfl,grown_obj hg ho h.hb rfl,h.nd,h.lt⟩
def keysOf (l:List (Int × Value)) (seen:List Nat):List Int:=seen.map fun i=>(l.getD i (0,.int .i64 0)).1
theorem keysOf_snoc (l:List (Int × Value)) (seen:List Nat) (i:Nat) (hi:i < l.length):keysOf l (seen++[i])=keysOf l seen++[l[i].1]:=by simp [keysOf,List.getD_eq_getElem?_getD,hi]
set_option maxRecDepth 100000 in
set_option maxHeartbeats 4000000 in
theorem parts_any (w:World) (bs mse:Nat) (As:Option Addr) (cs k:Nat) (succ:List (List Int)) (set:List (Int × Bool)) (r:List (List Int)) (h1:w.cell? ⟨bs,0,none⟩=some (.slice As succ.length cs)) (h2:kG.C w As succ.length succ)
  (h3:w.heap[mse]?=some (mB set)) (hl:∀ l∈succ,l.length<=1000000000) (hsl:set.length<=1000000) (h:partsF k succ set=some r) :
  Calls Try.prog 58 #[.pointer (some ⟨bs,0,none⟩),.map (some mse)] w fun e w'=>∃ v vals,e=.returned v/\w'.ownsRow w.heap.size 23 1 v vals.length vals/\Rows3 w' w.heap.size vals r/\Below w.heap.size w w':=by
 have H1:=ak_ h1
 have H2:=ak_ h2
 have H3:=ak_ h3
 have HL:=ak_ hl
 have H:=ak_ h
 have hmm:=@run_makeMap Try.prog
 clear h1 h2 h3 hl h
 go_enter Try.func58,Try.ntmps58
 have f5:=store_func (W:=(((((((((((w.alloc (.cells #[.pointer (some ⟨bs,0,none⟩)] 63)).alloc (.cells #[.map (some mse)] 68)).alloc (.map #[] 0)).alloc (.map #[] 0)).alloc (.cells #[.map (some (w.heap.size+1+1))] 97)).alloc (.cells #[.map (some (w.heap.size+1+1+1))] 97)).alloc (.cells #[.slice none 0 0] 23)).alloc (.map #[] 0)).alloc (.cells #[.map (some (w.heap.size+1+1+1+1+1+1+1))] 68)).alloc (.cells #[.slice none 0 0] 25)).alloc (.cells #[.nilFunc] 109))) (p:=⟨w.heap.size+1+1+1+1+1+1+1+1+1+1,0,none⟩) (f:=.func 78) (a:=#[]) (b:=#[.pointer (some ⟨w.heap.size+1+1+1+1,0,none⟩),.pointer (some ⟨w.heap.size+1+1+1+1+1,0,none⟩),.pointer (some ⟨w.heap.size+1+1+1+1+1+1,0,none⟩),.pointer (some ⟨w.heap.size+1+1+1+1+1+1+1+1,0,none⟩),.pointer (some ⟨w.heap.size,0,none⟩),.pointer (some ⟨w.heap.size+1,0,none⟩),.pointer (some ⟨w.heap.size+1+1+1+1+1+1+1+1+1+1,0,none⟩),.pointer (some ⟨w.heap.size+1+1+1+1+1+1+1+1+1,0,none⟩)]) (cell_blk (heap_alloc_at _ _ (by simp)) rfl) (free_blk (heap_alloc_at _ _ (by simp)))
 go_upto_region 7 with (fail)
 obtain ⟨b10,hb10⟩:∃ b,b=w.heap.size+1+1+1+1+1+1+1+1+1+1:=⟨_,rfl⟩
 obtain ⟨b9,hb9⟩:∃ b,b=w.heap.size+1+1+1+1+1+1+1+1+1:=⟨_,rfl⟩
 obtain ⟨b8,hb8⟩:∃ b,b=w.heap.size+1+1+1+1+1+1+1+1:=⟨_,rfl⟩
 obtain ⟨b7,hb7⟩:∃ b,b=w.heap.size+1+1+1+1+1+1+1:=⟨_,rfl⟩
 obtain ⟨b6,hb6⟩:∃ b,b=w.heap.size+1+1+1+1+1+1:=⟨_,rfl⟩
 obtain ⟨b5,hb5⟩:∃ b,b=w.heap.size+1+1+1+1+1:=⟨_,rfl⟩
 obtain ⟨b4,hb4⟩:∃ b,b=w.heap.size+1+1+1+1:=⟨_,rfl⟩
 obtain ⟨b3,hb3⟩:∃ b,b=w.heap.size+1+1+1:=⟨_,rfl⟩
 obtain ⟨b2,hb2⟩:∃ b,b=w.heap.size+1+1:=⟨_,rfl⟩
 obtain ⟨b1,hb1⟩:∃ b,b=w.heap.size+1:=⟨_,rfl⟩
 obtain ⟨b0,hb0⟩:∃ b,b=w.heap.size:=⟨_,rfl⟩
 rw [<-hb10,<-hb9,<-hb8,<-hb7,<-hb6,<-hb5,<-hb4,<-hb3,<-hb2,<-hb1,<-hb0]
 obtain ⟨W,hW⟩:∃ W,W=((((((((((w.alloc (.cells #[.pointer (some ⟨bs,0,none⟩)] 63)).alloc (.cells #[.map (some mse)] 68)).alloc (.map #[] 0)).alloc (.map #[] 0)).alloc (.cells #[.map (some b2)] 97)).alloc (.cells #[.map (some b3)] 97)).alloc (.cells #[.slice none 0 0] 23)).alloc (.map #[] 0)).alloc (.cells #[.map (some b7)] 68)).alloc (.cells #[.slice none 0 0] 25)).alloc (.cells #[.func (.func 78) #[] #[.pointer (some ⟨b4,0,none⟩),.pointer (some ⟨b5,0,none⟩),.pointer (some ⟨b6,0,none⟩),.pointer (some ⟨b8,0,none⟩),.pointer (some ⟨b0,0,none⟩),.pointer (some ⟨b1,0,none⟩),.pointer (some ⟨b10,0,none⟩),.pointer (some ⟨b9,0,none⟩)]] 109):=⟨_,rfl⟩
 rw [<-hW]
 obtain ⟨B,hB⟩:∃ B:TarB,B=⟨b4,b5,b6,b8,b0,b1,b10,b9,b2,b3,b7,bs,mse⟩:=⟨_,rfl⟩
 have T0:TarSt w W ⟨b4,b5,b6,b8,b0,b1,b10,b9,b2,b3,b7,bs,mse⟩ [] [] (.slice none 0 0) (.slice none 0 0) [] [] [] { idx:=[],low:=[],st:=[],on:=[],out:=[] }:=by
  have hbelow:Below w.heap.size w W:=by
   rw [hW]
   iterate 11 (refine Below.alloc ?_ (by first | omega | (simp only [World.size_alloc];omega)) _)
   exact Below.refl _ _
  refine ⟨?_,?_,?_,?_,?_,?_,?_,?_,?_,?_,?_,own_nil _ _ _ _,rfl,?_,rfl,hbelow,by simp;omega,by simp;omega,by simp;omega,by simp [Value.ownBlock],by simp;omega,by simp;omega,by simp;omega,by simp;omega,by simp;omega⟩
  all_goals first
   | (rw [hW];(repeat (first | (refine heap_alloc_at _ _ ?_;(first | omega | (simp;done) | (simp;omega))) | (rw [heap_alloc_old];rotate_left;(focus (first | omega | (simp;done) | (simp;omega))))));done)
   | (simpa using (Rows3.nil W w.heap.size).push_nil)
 have hse:W.cell? ⟨b1,0,none⟩=some (.map (some mse)):=cell_blk T0.bse rfl
 have hlen:=len_B (blk_below H3.out T0.hb) 3
 have hmk:=fun W=>Go.run_make_room (P:=Try.prog) 23 3 (.int .i64 0) 8 Try.underlying23 PShapeReducible.info3 rfl .i64 .i64 set.length (by omega) (by omega) W
 have TT:=ak_ T0
 have hrg:=fun (w':World) (hb:w'.heap[mse]?=some (mB set))=>it_start (P:=Try.prog) Try.underlying68 hb
 have hm1:(W.alloc (.cells (madeCells #[.int .i64 0] set.length) 3)).heap[mse]?=some (mB set):=(heap_alloc_old _ _ (blk_lt' (blk_below H3.out T0.hb))).trans (blk_below H3.out T0.hb)
 obtain ⟨hr1,hr2⟩:=hrg _ hm1
 have hse2:(W.alloc (.cells (madeCells #[.int .i64 0] set.length) 3)).cell? ⟨b1,0,none⟩=some (.map (some mse)):=cell_alloc _ hse
 have HB0:=ak_ hb0
 clear hW hB T0 hrg hm1 f5 hmm hb10 hb9 hb8 hb7 hb6 hb5 hb4 hb3 hb2 hb1 hb0
 obtain ⟨Bl,hBl⟩:∃ Bl:TarB,Bl=⟨b4,b5,b6,b8,b0,b1,b10,b9,b2,b3,b7,bs,mse⟩:=⟨_,rfl⟩
 obtain ⟨L,hLL⟩:∃ L,L=set.map fun p=>(p.1,Value.bool p.2):=⟨_,rfl⟩
 go_wp2_with fail
 obtain ⟨rI,hrI⟩:∃ rI,rI=W.heap.size+1:=⟨_,rfl⟩
 obtain ⟨W2,hW2⟩:∃ W2,W2=((W.alloc (.cells (madeCells #[.int .i64 0] set.length) 3)).alloc (.mapIter (some mse) set.length #[] set.length)):=⟨_,rfl⟩
 have IT0:ItSt W2 rI mse L []:=by rw [hW2,hrI,hLL];simpa using hr2
 have TS0:TarSt w W2 Bl [.slice (some ⟨W.heap.size,0,none⟩) 0 set.length] [keysOf L []] nilS nilS [] [] [] { idx:=[],low:=[],st:=[],on:=[],out:=[] }:=by
  rw [hBl,hW2]
  refine TarSt.lay (s:={ idx:=[],low:=[],st:=[],on:=[],out:=[] }) TT.out (((Below.refl _ _).alloc (Nat.le_refl _) _).alloc (by simp) _) ?_ (fun k hk=>by simp only [Value.ownBlock,Option.some.injEq] at hk;omega)
  have:=(World.ownsRow_made (base:=w.heap.size) (e:=3) (size:=1) W (madeCells #[.int .i64 0] set.length) set.length TT.out.hb.size (by simp only [maxLen];omega) (by rw [size_madeCells];omega)).alloc (.mapIter (some mse) set.length #[] set.length)
  simpa [keysOf,nums] using this
 rw [<-hrI,<-hW2]
 have hrw:w.heap.size<=rI:=by have:=TT.out.hb.size;omega
 have hLs:L.length=set.length:=by rw [hLL];simp
 have hkeys:L.map (·.1)=set.map (·.1):=by rw [hLL];simp
 have IT:=ak_ IT0
 have TS:=ak_ TS0
 have HLS:=ak_ hLs
 have HKEY:=ak_ hkeys
 have HBL:=ak_ hBl
 clear hse hlen hmk hr1 hr2 hse2 IT0 TS0 hrI hW2 hLL hLs hkeys hBl
 go_loopg [11] (set.length+1) (fun kq v11 wr=>∃ seen:List Nat,seen.length+kq=set.length+1/\Aside0 (ItSt wr rI mse L seen)/\Aside0 (TarSt w wr Bl [v11] [keysOf L seen] nilS nilS [] [] [] { idx:=[],low:=[],st:=[],on:=[],out:=[] }))
 case atStart=>exact ⟨[],by simp,IT,TS⟩
 case round =>
  obtain ⟨seen,hsn,hI,hT⟩:=hrel
  obtain ⟨A11,c11,rfl⟩:=own_slice hT.out.ahead
  rcases it_next (P:=Try.prog) hI.out 0 with ⟨hend,hrun⟩ | ⟨i,hi,w1,w2,hns,hw1,hw2,hrun,hentry,hI2⟩
  ·have hperm:=sortI_perm (seen_keys hI.out.nd hI.out.lt hend)
   have hks:sortI (keysOf L seen)=sortI (set.map (·.1)):=by rw [<-HKEY.out];exact hperm
   have HKS:=ak_ hks
   have HEND:=ak_ hend
   clear hperm hks hend
   have hkl:(keysOf L seen).length<=1000000:=by simp only [keysOf,List.length_map];have:=HEND.out;have:=HLS.out;omega
   obtain ⟨ns,hns⟩:∃ ns,ns=sortI (set.map (·.1)):=⟨_,rfl⟩
   obtain ⟨s9,hall,hout⟩:=Option.map_eq_some_iff.1 H.out
   rw [<-hns] at hall
   have hnsl:(keysOf L seen).length=ns.length:=by rw [hns,<-HKS.out,sortI_length]
   rw [hnsl] at hkl
   have HALL:=ak_ hall
   have HOUT:=ak_ hout
   have HNS:=ak_ hns
   have HNL:=ak_ hnsl
   clear hall hout hns hnsl
   go_wp2_with (go_at_call 81;refine (sort_any wr w.heap.size _ (keysOf L seen) hT.out.ahead (by have:=HNL.out;omega)).mono ?_;rintro e w10 ⟨rfl,ho10,hg10⟩;have T10:=hT.out.turnedEv (v':=.slice A11 (keysOf L seen).length c11) (xs':=ns) hg10 (by rw [HNS.out,<-HKS.out,sortI_length];exact ho10) (.inl rfl);rw [HNL.out] at T10;have T10:=ak_ T10;rw [HNL.out];clear ho10 hg10)
   obtain ⟨A11',c11',he11,hc11,hC11⟩:=own_C T10.out.ahead
   have CN:=ak_ hC11
   clear he11 hC11
   go_loopw [38] (fun t wr=>∃ (i:Nat) (sc:Tar) (vs vo:Value) (vals:List Value),t=.int .i64 i/\i<=ns.length/\Aside0 (tarAll succ set k (ns.drop i) sc=some s9)/\Aside0 (TarSt w wr Bl [.slice A11 ns.length c11] [ns] vs vo vals [] [] sc)) (fun t _=>ns.length - (intOf t).toNat)
   case atStart=>exact ⟨0,_,_,_,_,rfl,Nat.zero_le _,by simpa using HALL,T10⟩
   case round =>
    obtain ⟨i,sc,vs,vo,vals,rfl,hi,hA,hTv⟩:=hrel
    have h1:=hA.out
    by_cases hlt:i < ns.length
    ·obtain ⟨A12,c12,he12,hc12,hC12⟩:=own_C hTv.out.ahead
     simp only [Value.slice.injEq,true_and] at he12
     obtain ⟨rfl,rfl⟩:=he12
     obtain ⟨n,hn⟩:∃ n,n=ns.getD i 0:=⟨_,rfl⟩
     rw [List.drop_eq_getElem_cons hlt,show ns[i]=n by simp [hn,List.getD_eq_getElem?_getD,hlt]] at h1
     simp only [tarAll] at h1
     obtain ⟨adl,rfl,e1⟩:=C_num hC12 i hlt
     rw [<-hn] at e1
     have hlt':(i:Int) < ns.length:=by omega
     have b1:wr.cell? ⟨Bl.i,0,none⟩=some (.map (some Bl.mi)):=cell_blk hTv.out.bi rfl
     have L1:=look_I2 hTv.out.mi n
     rw [HBL.out] at b1 L1
     dsimp only at b1 L1
     clear hn hA hC12
     cases q2:mget sc.idx n with
     | none =>
      rw [if_pos q2] at h1
      rw [q2] at L1
      obtain ⟨s5,hv,h5⟩:=Option.bind_eq_some_iff.1 h1
      have HV:=ak_ hv
      have H5:=ak_ h5
      have b7:wr.cell? ⟨Bl.f,0,none⟩=some Bl.fv:=cell_blk hTv.out.bf rfl
      unfold TarB.fv at b7
      rw [HBL.out] at b7
      dsimp only at b7
      have VA:=ak_ (visit_any w Bl [.slice (some adl) ns.length c11] [ns] As cs succ set (by rw [HBL.out];exact ⟨H1.out,H2.out,H3.out,HL.out,fun _ _=>trivial⟩) k sc s5 n wr vs vo vals hTv.out HV.out)
      rw [HBL.out] at VA
      dsimp only at VA
      clear h1 hv h5 q2
      go_wp2_with (go_at_call 78;refine VA.out.mono ?_;rintro e w5 ⟨rfl,vs5,vo5,vals5,hT5⟩;rw [<-HBL.out] at hT5;have T5:=ak_ hT5;clear hT5)
      go_roundw
      case rel=>exact ⟨i+1,_,_,_,_,by go_num,by omega,H5,T5⟩
      case measure=>simp [intOf];omega
     | some ix =>
      rw [if_neg (by rw [q2];simp)] at h1
      rw [q2] at L1
      have H5:=ak_ h1
      clear h1 q2
      go_wp2
      go_roundw
      case rel=>exact ⟨i+1,_,_,_,_,by go_num,by omega,H5,hTv⟩
      case measure=>simp [intOf];omega
    ·obtain rfl:i=ns.length:=by omega
     rw [List.drop_length] at h1
     simp only [tarAll,Option.some.injEq] at h1
     subst h1
     have k9:wr.cell? ⟨Bl.o,0,none⟩=some vo:=cell_blk hTv.out.bo rfl
     rw [HBL.out] at k9
     dsimp only at k9
     have HR:=ak_ (parts_rows hTv.out)
     go_wp2
     go_ret
     exact ⟨_,_,rfl,hTv.out.hout,by rw [<-HOUT.out];exact HR.out,hTv.out.hb⟩
  ·have hT1:TarSt w w1 Bl [.slice A11 (keysOf L seen).length c11] [keysOf L seen] nilS nilS [] [] [] { idx:=[],low:=[],st:=[],on:=[],out:=[] }:=by rcases hw1 with rfl | rfl;exact hT.out;exact hT.out.drew
   have hr1:w1.heap[rI]?=some (.mapIter (some mse) L.length seen.toArray L.length):=by rcases hw1 with rfl | rfl <;> exact hI.out.hr
   have hT2:=hT1.iter hr1 hrw (.mapIter (some mse) L.length (seen++[i]).toArray L.length)
   rw [<-hw2] at hT2
   obtain ⟨x,hx⟩:∃ x,x=L[i].1:=⟨_,rfl⟩
   obtain ⟨y,hy⟩:∃ y,y=L[i].2:=⟨_,rfl⟩
   have hkx:keysOf L (seen++[i])=keysOf L seen++[x]:=by rw [keysOf_snoc L seen i hi,hx]
   rw [<-hx,<-hy] at hrun hentry
   have hslt:seen.length < set.length:=by
    have h2:=hI2.nd.length_le_of_subset (l₂:=List.range L.length) (fun j hj=>by simpa using hI2.lt j hj)
    simp at h2
    have:=HLS.out
    omega
   have hkl:(keysOf L seen).length=seen.length:=by simp [keysOf]
   have hkl6:(keysOf L seen).length<=1000000:=by omega
   have T2:=ak_ hT2
   have I2:=ak_ hI2
   have HKX:=ak_ hkx
   clear hT1 hr1 hT2 hI2 hkx hx hy hw1 hw2 hns hkl
   go_wp2_with (first
    | ((with_reducible refine gate_dst (N:=33) rfl ?_);refine print_append_cells (w0:=w) w.heap.size rfl (.tmp 30) (.tmp 32) 23 3 (.int .i64 0) 1 8 rfl Try.underlying23 PShapeReducible.info3 rfl (by decide) (by decide) _ (keysOf L seen).length (nums .i64 (keysOf L seen)) [.int .i64 x] rfl rfl rfl (by simp [Value.oneCell']) T2.out.ahead T2.out.hb T2.out.hb.size (by omega) ?_;intro v5 w5 ho5 hb5 hg5 hat5;obtain ⟨A5,c5,rfl⟩:=own_slice ho5;have T5:=ak_ (T2.out.turnedEv (xs':=keysOf L seen++[x]) hg5 (by simpa [nums] using ho5) hat5);have I5:=ak_ (I2.out.grown hg5 T2.out.ahead);clear ho5 hb5 hg5 hat5))
   go_roundg (gk - 1)
   case measure=>omega
   case rel=>exact ⟨seen++[i],by simp;omega,I5,by rw [HKX.out];exact T5⟩
structure Pc where
 foot:Nat->Prop
 says:World->Prop
 lt:∀ {w:World},says w->∀ {b},foot b->b < w.heap.size
 loc:∀ {w w':World},says w->(∀ b,foot b->w'.heap[b]?=w.heap[b]?)->says w'
def Pc.blk (b:Nat) (o:Obj):Pc where
 foot:=fun k=>k=b
 says:=fun w=>w.heap[b]?=some o
 lt:=fun h _ e=>by subst e;exact blk_lt' h
 loc:=fun h hb=>by rw [hb b rfl];exact h
def Pc.row (v:Value) (e size n:Nat) (xs:List Value):Pc where
 foot:=fun k=>v.ownBlock=some k
 says:=fun w=>w.ownsRow 0 e size v n xs
 lt:=fun h k e=>own_lt h k e
 loc:=fun h hb=>own_move h hb
def Pc.rows (vs:List Value) (xss:List (List Int)):Pc where
 foot:=fun k=>∃ i,i < vs.length/\(vs.getD i nilS).ownBlock=some k
 says:=fun w=>Rows3 w 0 vs xss
 lt:=fun h k ⟨i,hi,hk⟩=>own_lt (h.row i hi) k hk
 loc:=fun h hb=>h.move (fun i k hi hk=>hb k ⟨i,hi,hk⟩)
def Dis (c d:Pc):Prop:=∀ b,c.foot b->¬ d.foot b
theorem Dis.symm {c d:Pc} (h:Dis c d):Dis d c:=fun b hd hc=>h b hc hd
structure MemL (w0 w:World) (L:List Pc):Prop where
 hb:Below w0.heap.size w0 w
 says:∀ c∈L,c.says w
 base:∀ c∈L,∀ b,c.foot b->w0.heap.size<=b
 apart:L.Pairwise Dis
def Mem (w0 w:World) (F H:List Pc):Prop:=MemL w0 w (H++F)
section
variable {w0 w w' : World} {F H L : List Pc}
theorem MemL.perm {L':List Pc} (h:MemL w0 w L) (hp:L'.Perm L):MemL w0 w L' :=
 ⟨h.hb,fun c hc=>h.says c (hp.mem_iff.1 hc),fun c hc=>h.base c (hp.mem_iff.1 hc),(hp.pairwise_iff (fun {_ _}=>Dis.symm)).2 h.apart⟩
theorem MemL.step {c c':Pc} (h:MemL w0 w (c :: L)) (hw:Chg c.foot w w') (hs:c'.says w') (hf:∀ b,c'.foot b->c.foot b∨w.heap.size<=b):MemL w0 w' (c' :: L):=by
 have hap:=List.pairwise_cons.1 h.apart
 have hsz:=h.hb.size
 refine ⟨h.hb.trans (hw.to_below hsz (fun k hk hc=>by have:=h.base c (by simp) k hc;omega)),?_,?_,?_⟩
 ·intro d hd
  rcases List.mem_cons.1 hd with rfl | hd
  ·exact hs
  ·have hds:=h.says d (by simp [hd])
   exact d.loc hds (fun b hb=>hw.block b (d.lt hds hb) (fun hc=>hap.1 d hd b hc hb))
 ·intro d hd b hb
  rcases List.mem_cons.1 hd with rfl | hd
  ·rcases hf b hb with h1 | h1
   ·exact h.base c (by simp) b h1
   ·omega
  ·exact h.base d (by simp [hd]) b hb
 ·refine List.pairwise_cons.2 ⟨fun d hd b h1 h2=>?_,hap.2⟩
  rcases hf b h1 with h3 | h3
  ·exact hap.1 d hd b h3 h2
  ·have:=d.lt (h.says d (by simp [hd])) h2
   omega
theorem MemL.new {c:Pc} (h:MemL w0 w L) (hw:Below w.heap.size w w') (hs:c.says w') (hf:∀ b,c.foot b->w.heap.size<=b):MemL w0 w' (c :: L):=by
 have hsz:=h.hb.size
 refine ⟨h.hb.trans (hw.mono hsz),?_,?_,?_⟩
 ·intro d hd
  rcases List.mem_cons.1 hd with rfl | hd
  ·exact hs
  ·have hds:=h.says d hd
   exact d.loc hds (fun b hb=>hw.block b (d.lt hds hb))
 ·intro d hd b hb
  rcases List.mem_cons.1 hd with rfl | hd
  ·have:=hf b hb;omega
  ·exact h.base d hd b hb
 ·refine List.pairwise_cons.2 ⟨fun d hd b h1 h2=>?_,h.apart⟩
  have:=d.lt (h.says d hd) h2
  have:=hf b h1
  omega
theorem MemL.below (h:MemL w0 w L) (hw:Below w.heap.size w w'):MemL w0 w' L :=
 ⟨h.hb.trans (hw.mono h.hb.size),fun d hd=>d.loc (h.says d hd) (fun b hb=>hw.block b (d.lt (h.says d hd) hb)),h.base,h.apart⟩
theorem MemL.merge {c d e:Pc} (h:MemL w0 w (c :: d :: L)) (hs:e.says w) (hf:∀ b,e.foot b->c.foot b∨d.foot b):MemL w0 w (e :: L):=by
 have h1:=List.pairwise_cons.1 h.apart
 have h2:=List.pairwise_cons.1 h1.2
 refine ⟨h.hb,?_,?_,?_⟩
 ·intro x hx
  rcases List.mem_cons.1 hx with rfl | hx
  ·exact hs
  ·exact h.says x (by simp [hx])
 ·intro x hx b hb
  rcases List.mem_cons.1 hx with rfl | hx
  ·rcases hf b hb with h3 | h3
   ·exact h.base c (by simp) b h3
   ·exact h.base d (by simp) b h3
  ·exact h.base x (by simp [hx]) b hb
 ·refine List.pairwise_cons.2 ⟨fun x hx b hb hxb=>?_,h2.2⟩
  rcases hf b hb with h3 | h3
  ·exact h1.1 x (by simp [hx]) b h3 hxb
  ·exact h2.1 x hx b h3 hxb
theorem MemL.retell {c e:Pc} (h:MemL w0 w (c :: L)) (hs:e.says w) (hf:∀ b,e.foot b->c.foot b):MemL w0 w (e :: L) :=
 h.step ⟨rfl,rfl,rfl,Nat.le_refl _,fun _ _ _=>rfl⟩ hs (fun b hb=>.inl (hf b hb))
theorem MemL.lose {c:Pc} (h:MemL w0 w (c :: L)):MemL w0 w L :=
 ⟨h.hb,fun d hd=>h.says d (by simp [hd]),fun d hd=>h.base d (by simp [hd]),(List.pairwise_cons.1 h.apart).2⟩
theorem get_perm' {α:Type}:∀ {l:List α} {k:Nat} {c:α},l[k]?=some c->l.Perm (c :: l.eraseIdx k)
 | [],_,_,h=>by simp at h
 | a :: l,0,c,h=>by
  simp only [List.getElem?_cons_zero,Option.some.injEq] at h
  subst h
  exact List.Perm.refl _
 | a :: l,k+1,c,h=>by
  simp only [List.getElem?_cons_succ] at h
  rw [List.eraseIdx_cons_succ]
  exact ((get_perm' h).cons a).trans (List.Perm.swap c a _)
theorem set_perm' {α:Type}:∀ {l:List α} {k:Nat} {c:α},l[k]?=some c->∀ c':α,(l.set k c').Perm (c' :: l.eraseIdx k)
 | [],_,_,h,_=>by simp at h
 | a :: l,0,c,h,c'=>by simp
 | a :: l,k+1,c,h,c'=>by
  simp only [List.getElem?_cons_succ] at h
  rw [List.set_cons_succ,List.eraseIdx_cons_succ]
  exact ((set_perm' h c').cons a).trans (List.Perm.swap c' a _)
theorem Mem.front {k:Nat} {c:Pc} (h:Mem w0 w F H) (hk:H[k]?=some c):MemL w0 w (c :: (H.eraseIdx k++F)) :=
 MemL.perm h (List.Perm.append_right F (get_perm' hk)).symm
theorem Mem.back {k:Nat} {c c':Pc} (hk:H[k]?=some c) (h:MemL w0 w (c' :: (H.eraseIdx k++F))):Mem w0 w F (H.set k c') :=
 MemL.perm h (List.Perm.append_right F (set_perm' hk c'))
theorem Mem.step {k:Nat} {c:Pc} (h:Mem w0 w F H) (hk:H[k]?=some c) (c':Pc) (hw:Chg c.foot w w') (hs:c'.says w') (hf:∀ b,c'.foot b->c.foot b∨w.heap.size<=b):Mem w0 w' F (H.set k c') :=
 Mem.back hk ((h.front hk).step hw hs hf)
theorem Mem.retell {k:Nat} {c:Pc} (h:Mem w0 w F H) (hk:H[k]?=some c) (c':Pc) (hs:c'.says w) (hf:∀ b,c'.foot b->c.foot b):Mem w0 w F (H.set k c') :=
 Mem.back hk ((h.front hk).retell hs hf)
theorem Mem.new (h:Mem w0 w F H) (c:Pc) (hw:Below w.heap.size w w') (hs:c.says w') (hf:∀ b,c.foot b->w.heap.size<=b):Mem w0 w' F (H++[c]):=by
 have:=MemL.new h hw hs hf
 refine MemL.perm this ?_
 rw [List.append_assoc]
 exact List.perm_middle
theorem Mem.below (h:Mem w0 w F H) (hw:Below w.heap.size w w'):Mem w0 w' F H:=MemL.below h hw
theorem Mem.hb (h:Mem w0 w F H):Below w0.heap.size w0 w:=MemL.hb h
theorem Mem.size (h:Mem w0 w F H):w0.heap.size<=w.heap.size:=h.hb.size
theorem Mem.drew (h:Mem w0 w F H):∃ w2,w.drew=w2/\Mem w0 w2 F H:=⟨_,rfl,h.below (Below.refl _ _).drew⟩
theorem Mem.drawn (h:Mem w0 w F H) (hd:Drawn0 w w'):Mem w0 w' F H:=h.below hd.below
theorem Mem.lose {k:Nat} {c:Pc} (h:Mem w0 w F H) (hk:H[k]?=some c):Mem w0 w F (H.eraseIdx k):=(h.front hk).lose
theorem Mem.perm {F' H':List Pc} (h:Mem w0 w F H) (hp:(H'++F').Perm (H++F)):Mem w0 w F' H':=MemL.perm h hp
theorem Mem.says {k:Nat} {c:Pc} (h:Mem w0 w F H) (hk:H[k]?=some c):c.says w:=MemL.says h c (by simp [List.mem_of_getElem? hk])
theorem Mem.base {k:Nat} {c:Pc} (h:Mem w0 w F H) (hk:H[k]?=some c):∀ b,c.foot b->w0.heap.size<=b:=MemL.base h c (by simp [List.mem_of_getElem? hk])
theorem Mem.blk {k b:Nat} {o:Obj} (h:Mem w0 w F H) (hk:H[k]?=some (.blk b o)):w.heap[b]?=some o:=h.says hk
theorem Mem.cell {k b j t:Nat} {cs:Array Value} {fr:Nat × Nat} {u:Value} (h:Mem w0 w F H) (hk:H[k]?=some (.blk b (.cells cs t fr))) (hu:cs[j]?=some u):w.cell? ⟨b,j,none⟩=some u:=cell_blk (h.blk hk) hu
theorem Mem.free {k b j t:Nat} {cs:Array Value} (h:Mem w0 w F H) (hk:H[k]?=some (.blk b (.cells cs t (0,0)))):w.frozen? ⟨b,j,none⟩=false:=free_blk (h.blk hk)
theorem own_rebase {w:World} {b b' e size n:Nat} {v:Value} {xs:List Value} (h:w.ownsRow b e size v n xs) (hb:∀ k,v.ownBlock=some k->b'<=k):w.ownsRow b' e size v n xs:=by
 refine ⟨h.1,?_⟩
 rcases h.2 with h2 | ⟨g,cap,cur,rfl,_,hh,r⟩
 ·exact .inl h2
 ·exact .inr ⟨g,cap,cur,rfl,hb g rfl,hh,r⟩
theorem Mem.row {k e size n:Nat} {v:Value} {xs:List Value} (h:Mem w0 w F H) (hk:H[k]?=some (.row v e size n xs)):w.ownsRow w0.heap.size e size v n xs:=own_rebase (h.says hk) (fun b hb=>h.base hk b hb)
theorem Mem.rows {k:Nat} {vs:List Value} {xss:List (List Int)} (h:Mem w0 w F H) (hk:H[k]?=some (.rows vs xss)):Rows3 w w0.heap.size vs xss:=by
 have h0:Rows3 w 0 vs xss:=h.says hk
 exact ⟨h0.len,fun i hi=>own_rebase (h0.row i hi) (fun b hb=>h.base hk b ⟨i,hi,hb⟩),h0.apart⟩
theorem Rows3.low {w:World} {b:Nat} {vs:List Value} {xss:List (List Int)} (h:Rows3 w b vs xss):Rows3 w 0 vs xss:=⟨h.len,fun i hi=>own_weaken (h.row i hi) (Nat.zero_le _),h.apart⟩
theorem Mem.set {k b:Nat} (j:Nat) {t:Nat} {cs:Array Value} (h:Mem w0 w F H) (hk:H[k]?=some (.blk b (.cells cs t (0,0)))) (u:Value) :
  ∃ w2,w.setCell ⟨b,j,none⟩ u=w2/\Mem w0 w2 F (H.set k (.blk b (.cells (cs.setIfInBounds j u) t (0,0)))) :=
 ⟨_,rfl,h.step hk _ ((Chg.refl (fun k=>k=b) w).setCell (p:=⟨b,j,none⟩) (fun _=>rfl) u) (set_here (h.blk hk)) (fun _ hb=>.inl hb)⟩
theorem Mem.put {k b:Nat} {o:Obj} (h:Mem w0 w F H) (hk:H[k]?=some (.blk b o)) (o':Obj):Mem w0 (setBlock w b o') F (H.set k (.blk b o')):=by
 have hlt:=blk_lt' (h.blk hk)
 refine h.step hk _ ⟨rfl,rfl,rfl,by simp [setBlock],fun i _ hn=>?_⟩ ?_ (fun _ hb=>.inl hb)
 ·simp only [Pc.blk] at hn
  simp [setBlock,Ne.symm hn]
 ·simp [Pc.blk,setBlock,hlt]
theorem Mem.putI {k b:Nat} {m:List (Int × Int)} (h:Mem w0 w F H) (hk:H[k]?=some (.blk b (mI m))) (x v:Int) :
  ∃ w2,(Instr.mapUpdate 97 (.map (some b)) (.int .i64 x) (.int .i64 v)).run Try.prog w=.ok () w2/\Mem w0 w2 F (H.set k (.blk b (mI (mput m x v)))) :=
 ⟨_,put_I (h.blk hk) x v,h.put hk _⟩
theorem Mem.putB {k b:Nat} {m:List (Int × Bool)} (h:Mem w0 w F H) (hk:H[k]?=some (.blk b (mB m))) (x:Int) (v:Bool) :
  ∃ w2,(Instr.mapUpdate 68 (.map (some b)) (.int .i64 x) (.bool v)).run Try.prog w=.ok () w2/\Mem w0 w2 F (H.set k (.blk b (mB (mput m x v)))) :=
 ⟨_,put_B (h.blk hk) x v,h.put hk _⟩
theorem Mem.alloc (h:Mem w0 w F H) (o:Obj):∃ b w2,w.heap.size=b/\w.alloc o=w2/\Mem w0 w2 F (H++[.blk b o]) :=
 ⟨_,_,rfl,rfl,h.new (.blk w.heap.size o) ((Below.refl _ _).alloc (Nat.le_refl _) o) (heap_alloc_new _ _) (fun b hb=>by simp only [Pc.blk] at hb;omega)⟩
theorem Mem.grow {k e size n:Nat} {v:Value} {xs:List Value} (h:Mem w0 w F H) (hk:H[k]?=some (.row v e size n xs)) (hg:w.grownBy w' v.ownBlock) {b' e' size' n':Nat} {v':Value} {xs':List Value} (ho:w'.ownsRow b' e' size' v' n' xs')
  (hat:v'.ownBlock=v.ownBlock∨v'.ownBlock=none∨∃ b,v'.ownBlock=some b/\w.heap.size<=b):Mem w0 w' F (H.set k (.row v' e' size' n' xs')):=by
 refine h.step hk _ ((Chg.refl _ _).grown hg (fun i _ hi=>hi)) (own_weaken ho (Nat.zero_le _)) (fun b hb=>?_)
 simp only [Pc.row] at hb ⊢
 rcases hat with e1 | e1 | ⟨b1,e1,e2⟩
 ·left;rw [<-e1];exact hb
 ·rw [e1] at hb;cases hb
 ·right;rw [e1] at hb;injection hb with hb;omega
theorem Mem.newrow {b e size n:Nat} {v:Value} {xs:List Value} (h:Mem w0 w F H) (hw:Below w.heap.size w w') (ho:w'.ownsRow b e size v n xs) (hn:∀ k,v.ownBlock=some k->w.heap.size<=k):Mem w0 w' F (H++[.row v e size n xs]) :=
 h.new _ hw (own_weaken ho (Nat.zero_le _)) hn
theorem Mem.nilrow (h:Mem w0 w F H) (e size:Nat):Mem w0 w F (H++[.row nilS e size 0 []]) :=
 h.new _ (Below.refl _ _) (own_nil _ _ _ _) (fun b hb=>by simp [Pc.row,Value.ownBlock] at hb)
theorem Mem.norows (h:Mem w0 w F H):Mem w0 w F (H++[.rows [] []]) :=
 h.new _ (Below.refl _ _) (Rows3.nil _ _) (fun b ⟨i,hi,_⟩=>by simp at hi)
theorem Mem.rowsTurn {k i:Nat} {vs:List Value} {xss:List (List Int)} (h:Mem w0 w F H) (hk:H[k]?=some (.rows vs xss)) (hi:i < vs.length) {v':Value} {xs':List Int} {b':Nat} (hg:w.grownBy w' (vs.getD i nilS).ownBlock) (ho:w'.ownsRow b' 3 1 v' xs'.length (nums .i64 xs'))
  (hat:v'.ownBlock=(vs.getD i nilS).ownBlock∨∃ b,v'.ownBlock=some b/\w.heap.size<=b):Mem w0 w' F (H.set k (.rows (vs.set i v') (xss.set i xs'))):=by
 have hr:Rows3 w 0 vs xss:=h.says hk
 refine h.step hk _ ((Chg.refl _ _).grown hg (fun j _ hj=>⟨i,hi,hj⟩)) (hr.turned hi (own_weaken ho (Nat.zero_le _)) hg hat) ?_
 rintro b ⟨j,hj,hjb⟩
 rw [List.length_set] at hj
 by_cases hji:i=j
 ·subst hji
  rw [getD_set_self hi] at hjb
  rcases hat with e | ⟨b1,e1,e2⟩
  ·exact .inl ⟨i,hi,by rw [<-e];exact hjb⟩
  ·right;rw [e1] at hjb;injection hjb with hjb;omega
 ·rw [getD_set_other hji] at hjb
  exact .inl ⟨j,hj,hjb⟩
theorem Mem.join {k j:Nat} {vs:List Value} {xss:List (List Int)} {v:Value} {xs:List Int} (h:Mem w0 w F H) (hk:H[k]?=some (.rows vs xss)) (hj:(H.eraseIdx k)[j]?=some (.row v 3 1 xs.length (nums .i64 xs))):Mem w0 w F (.rows (vs++[v]) (xss++[xs]) :: (H.eraseIdx k).eraseIdx j):=by
 have h1:=h.front hk
 have hp:(Pc.rows vs xss :: .row v 3 1 xs.length (nums .i64 xs) :: ((H.eraseIdx k).eraseIdx j++F)).Perm (.rows vs xss :: (H.eraseIdx k++F)) :=
  List.Perm.cons _ (List.Perm.append_right F (get_perm' hj)).symm
 have h2:=h1.perm hp
 have hr:Rows3 w 0 vs xss:=h.says hk
 have ho:w.ownsRow 0 3 1 v xs.length (nums .i64 xs):=h2.says (.row v 3 1 xs.length (nums .i64 xs)) (by simp)
 have hdis:=(List.pairwise_cons.1 h2.apart).1 (.row v 3 1 xs.length (nums .i64 xs)) (by simp)
 refine h2.merge (hr.push ho (fun i hi=>?_)) ?_
 ·cases hv:(vs.getD i nilS).ownBlock with
  | none=>exact .inl rfl
  | some b=>exact .inr (fun e=>hdis b ⟨i,hi,hv⟩ e.symm)
 ·rintro b ⟨i,hi,hib⟩
  rw [List.length_append,List.length_singleton] at hi
  rcases Nat.lt_or_ge i vs.length with h3 | h3
  ·rw [getD_snoc_old h3] at hib;exact .inl ⟨i,h3,hib⟩
  ·have:i=vs.length:=by omega
   subst this
   rw [getD_snoc_new] at hib
   exact .inr hib
end
def pick (H:List Pc) (idx:List Nat):List Pc:=idx.filterMap fun i=>H[i]?
def rest (H:List Pc) (idx:List Nat):List Pc:=((List.range H.length).filter fun i=>!idx.contains i).filterMap fun i=>H[i]?
def okIdx (n:Nat):List Nat->Bool
 | []=>true
 | i :: r=>decide (i < n) && !r.contains i && okIdx n r
theorem okIdx_perm (n:Nat) (idx:List Nat) (h:okIdx n idx=true):(idx++(List.range n).filter fun i=>!idx.contains i).Perm (List.range n):=by
 have h1:idx.Nodup/\∀ i∈idx,i < n:=by
  induction idx with
  | nil=>simp
  | cons i r ih =>
   simp only [okIdx,Bool.and_eq_true,decide_eq_true_eq,Bool.not_eq_true'] at h
   obtain ⟨⟨h1,h2⟩,h3⟩:=h
   obtain ⟨h4,h5⟩:=ih h3
   have h6:i ∉ r:=by simpa using h2
   refine ⟨List.nodup_cons.2 ⟨h6,h4⟩,fun j hj=>?_⟩
   rcases List.mem_cons.1 hj with rfl | hj
   ·exact h1
   ·exact h5 j hj
 refine (List.perm_ext_iff_of_nodup (List.nodup_append.2 ⟨h1.1,List.nodup_range.filter _,?_⟩) List.nodup_range).2 ?_
 ·intro a ha b hb e
  subst e
  simp only [List.mem_filter,Bool.not_eq_true'] at hb
  simp [ha] at hb
 ·intro a
  simp only [List.mem_append,List.mem_filter,List.mem_range,Bool.not_eq_true']
  constructor
  ·rintro (h2 | h2)
   ·exact h1.2 a h2
   ·exact h2.1
  ·intro h2
   by_cases h3:a∈idx
   ·exact .inl h3
   ·exact .inr ⟨h2,by simpa using h3⟩
theorem range_get (H:List Pc):(List.range H.length).filterMap (fun i=>H[i]?)=H:=by
 induction H with
 | nil=>rfl
 | cons a r ih =>
  rw [List.length_cons,List.range_succ_eq_map,List.filterMap_cons]
  simp only [List.getElem?_cons_zero,List.filterMap_map]
  congr 1
theorem pick_perm (H:List Pc) (idx:List Nat) (h:okIdx H.length idx=true):(pick H idx++rest H idx).Perm H:=by
 have:=(okIdx_perm H.length idx h).filterMap (fun i=>H[i]?)
 rw [List.filterMap_append,range_get] at this
 exact this
section
variable {w0 w w' : World} {F H H' : List Pc}
theorem Mem.focus (h:Mem w0 w F H) (idx:List Nat) (hi:okIdx H.length idx=true):Mem w0 w (rest H idx++F) (pick H idx) :=
 h.perm (by rw [<-List.append_assoc];exact List.Perm.append_right F (pick_perm H idx hi))
theorem Mem.wide {R:List Pc} (h:Mem w0 w (R++F) H):Mem w0 w F (H++R):=h.perm (by rw [List.append_assoc])
theorem Mem.order (h:Mem w0 w F H) (idx:List Nat) (hi:okIdx H.length idx=true):Mem w0 w F (pick H idx++rest H idx):=(h.focus idx hi).wide
theorem Mem.start (w:World):Mem w w [] []:=⟨Below.refl _ _,by simp,by simp,by simp⟩
theorem Mem.sub {F':List Pc} (h:Mem w0 w (F'++F) H):Mem w0 w F H:=by
 have h1:Mem w0 w (F++F') H:=h.perm (List.Perm.append_left _ List.perm_append_comm)
 have:MemL w0 w ((H++F)++F'):=by rw [List.append_assoc];exact h1
 exact ⟨this.hb,fun c hc=>this.says c (by simp only [List.mem_append] at hc ⊢;exact .inl hc),fun c hc=>this.base c (by simp only [List.mem_append] at hc ⊢;exact .inl hc),(List.pairwise_append.1 this.apart).1⟩
end
theorem mem_append {P:Program} {ops:Array Oper} {rest_:List Oper} {o:Oper} {a:Act} {Q:Exit->Act->World->Prop} {w0 W:World} {F H:List Pc} (k:Nat) (s x:Operand) (t e:TypeId) (z:Value) (size bytes:Nat) (hgd:o.guard=none)
  (ho:o.op=.call { callee:=.builtin .append,args:=#[s,x],argTypes:=#[t,t] })
  (ht:P.underlying t=some (.slice e)) (hinfo:(P.info? e).map (fun i=>(i.zero,i.size,i.bytes))=some (some z,size,bytes)) (hz:z.cells.size=size) (hs0:0 < size) (hb0:0 < bytes)
  (v:Value) (n:Nat) (xs ys:List Value) (hs:a.eval s=v) (hx:a.eval x=.slice (some ⟨W.heap.size,0,none⟩) 1 1) (hys:ys.length=size) (h1:∀ u∈ys,u.oneCell'=true)
  (M:Mem w0 W F H) (hk:H[k]?=some (.row v e size n xs)) (hl:(n+1) * bytes<=140737488355328)
  (h:∀ A c w1,Mem w0 w1 F (H.set k (.row (.slice A (n+1) c) e size (n+1) (xs++ys)))->wpList P ops Q rest_ (a.put o.dst (.slice A (n+1) c)) w1) :
  wpList P ops Q (o :: rest_) a (W.alloc (.cells ys.toArray e)):=by
 refine print_append_cells (w0:=w0) w0.heap.size hgd s x t e z size bytes ho ht hinfo hz hs0 hb0 v n xs ys hs hx hys h1 (M.row hk) M.hb M.size hl ?_
 intro v1 w1 ho1 hb1 hg1 hat1
 obtain ⟨A,c,rfl⟩:=own_slice ho1
 exact h A c w1 (M.grow hk hg1 ho1 (hat1.imp id .inr))
def Pc.mat (v:Value) (vs:List Value) (xss:List (List Int)):Pc where
 foot:=fun k=>v.ownBlock=some k∨∃ i,i < vs.length/\(vs.getD i nilS).ownBlock=some k
 says:=fun w=>w.ownsRow 0 23 1 v vs.length vs/\Rows3 w 0 vs xss
 lt:=fun h k hk=>by
  rcases hk with hk | ⟨i,hi,hk⟩
  ·exact own_lt h.1 k hk
  ·exact own_lt (h.2.row i hi) k hk
 loc:=fun h hb=>⟨own_move h.1 (fun k hk=>hb k (.inl hk)),h.2.move (fun i k hi hk=>hb k (.inr ⟨i,hi,hk⟩))⟩
section
variable {w0 w w' : World} {F H : List Pc}
theorem Mem.mat {k:Nat} {v:Value} {vs:List Value} {xss:List (List Int)} (h:Mem w0 w F H) (hk:H[k]?=some (.mat v vs xss)):w.ownsRow w0.heap.size 23 1 v vs.length vs/\Rows3 w w0.heap.size vs xss:=by
 have h0:=h.says hk
 exact ⟨own_rebase h0.1 (fun b hb=>h.base hk b (.inl hb)),h0.2.len,fun i hi=>own_rebase (h0.2.row i hi) (fun b hb=>h.base hk b (.inr ⟨i,hi,hb⟩)),h0.2.apart⟩
theorem Mem.matLen {k:Nat} {v:Value} {vs:List Value} {xss:List (List Int)} (h:Mem w0 w F H) (hk:H[k]?=some (.mat v vs xss)):vs.length=xss.length:=(h.mat hk).2.len
theorem Mem.matC {k:Nat} {v:Value} {vs:List Value} {xss:List (List Int)} (h:Mem w0 w F H) (hk:H[k]?=some (.mat v vs xss)):∃ A c,v=.slice A xss.length c/\xss.length<=c/\kG.C w A xss.length xss :=
 (h.mat hk).2.read (h.mat hk).1
theorem Mem.matRow {k:Nat} {v:Value} {vs:List Value} {xss:List (List Int)} (h:Mem w0 w F H) (hk:H[k]?=some (.mat v vs xss)) {i:Nat} (hi:i < xss.length):∃ b c A n,v=.slice (some ⟨b,0,none⟩) xss.length c/\w.cell? ⟨b,i,none⟩=some (.slice A (xss.getD i []).length n)/\vs.getD i nilS=.slice A (xss.getD i []).length n/\(xss.getD i []).length<=n/\kI.C w A (xss.getD i []).length (xss.getD i []):=by
 obtain ⟨h1,h2⟩:=h.mat hk
 have hlen:=h2.len
 obtain ⟨b,c,rfl,_,hc⟩:=h1.form (by omega)
 obtain ⟨A,n,e1,e2,e3⟩:=own_C (h2.row i (by omega))
 refine ⟨b,c,A,n,by rw [hlen],?_,e1,e2,e3⟩
 have h3:=own_cell h1 i (by omega) (u:=vs.getD i nilS) (by rw [List.getD_eq_getElem?_getD,List.getElem?_eq_getElem (by omega)];rfl)
 rw [h3,e1]
theorem Mem.newmat {b:Nat} {v:Value} {vs:List Value} {xss:List (List Int)} (h:Mem w0 w F H) (hw:Below w.heap.size w w') (h1:w'.ownsRow w.heap.size 23 1 v vs.length vs) (h2:Rows3 w' w.heap.size vs xss):Mem w0 w' F (H++[.mat v vs xss]) :=
 h.new _ hw ⟨own_weaken h1 (Nat.zero_le _),h2.low⟩ (fun k hk=>by
  rcases hk with hk | ⟨i,hi,hk⟩
  ·exact own_base h1 k hk
  ·exact own_base (h2.row i hi) k hk)
theorem Mem.nilmat (h:Mem w0 w F H):Mem w0 w F (H++[.mat nilS [] []]) :=
 h.new _ (Below.refl _ _) ⟨own_nil _ _ _ _,Rows3.nil _ _⟩ (fun b hb=>by
  rcases hb with hb | ⟨i,hi,_⟩
  ·simp [Value.ownBlock] at hb
  ·simp at hi)
theorem Mem.matSet {k i j b n:Nat} {v:Value} {vs:List Value} {xss:List (List Int)} (h:Mem w0 w F H) (hk:H[k]?=some (.mat v vs xss)) (hi:i < xss.length) (hv:vs.getD i nilS=.slice (some ⟨b,0,none⟩) (xss.getD i []).length n) (x:Int) :
  ∃ w2,w.setCell ⟨b,j,none⟩ (.int .i64 x)=w2/\Mem w0 w2 F (H.set k (.mat v vs (xss.set i ((xss.getD i []).set j x)))):=by
 refine ⟨_,rfl,?_⟩
 obtain ⟨h1,h2⟩:=h.says hk
 have hlen:=h2.len
 have hrow:=h2.row i (by omega)
 rw [hv] at hrow
 have hst:=(hrow.stored j (.int .i64 x)).1
 have hty:=own_typed hrow b rfl
 obtain ⟨cs,hcs⟩:=hty
 have hg:w.grownBy (w.setCell ⟨b,j,none⟩ (.int .i64 x)) (vs.getD i nilS).ownBlock:=⟨rfl,rfl,rfl,by simp [World.setCell],fun q hq hn=>by
  rw [hv] at hn
  exact Below.heap_setCell w _ _ q (fun e=>hn (by rw [e];rfl))⟩
 have hr2:=h2.turned (i:=i) (by omega) (v':=vs.getD i nilS) (xs':=(xss.getD i []).set j x) (w1:=w.setCell ⟨b,j,none⟩ (.int .i64 x)) (by
  rw [hv]
  rw [List.length_set]
  have e:nums .i64 ((xss.getD i []).set j x)=(nums .i64 (xss.getD i [])).set j (.int .i64 x):=by simp [nums,List.map_set]
  rw [e]
  exact hst) hg (.inl rfl)
 have hset:vs.set i (vs.getD i nilS)=vs:=by
  rw [List.getD_eq_getElem?_getD,List.getElem?_eq_getElem (by omega)]
  simp
 rw [hset] at hr2
 refine h.step hk _ ((Chg.refl _ w).setCell (p:=⟨b,j,none⟩) (fun _=>.inr ⟨i,by omega,by rw [hv];rfl⟩) _) ⟨set_row h1 (fun e=>?_),hr2⟩ (fun b hb=>.inl hb)
 obtain ⟨cs',hcs'⟩:=own_typed h1 b e
 rw [hcs] at hcs'
 cases hcs'
theorem Mem.matJoin {k j:Nat} {v v':Value} {vs:List Value} {xss:List (List Int)} {vr:Value} {xs:List Int} (h:Mem w0 w F H) (hk:H[k]?=some (.mat v vs xss)) (hj:(H.eraseIdx k)[j]?=some (.row vr 3 1 xs.length (nums .i64 xs)))
  (hg:w.grownBy w' v.ownBlock) (ho:w'.ownsRow w0.heap.size 23 1 v' (vs++[vr]).length (vs++[vr])) (hat:v'.ownBlock=v.ownBlock∨∃ b,v'.ownBlock=some b/\w.heap.size<=b):Mem w0 w' F (.mat v' (vs++[vr]) (xss++[xs]) :: (H.eraseIdx k).eraseIdx j):=by
 have h1:=h.front hk
 have hp:(Pc.mat v vs xss :: .row vr 3 1 xs.length (nums .i64 xs) :: ((H.eraseIdx k).eraseIdx j++F)).Perm (.mat v vs xss :: (H.eraseIdx k++F)) :=
  List.Perm.cons _ (List.Perm.append_right F (get_perm' hj)).symm
 have h2:=h1.perm hp
 obtain ⟨hs1,hs2⟩:w.ownsRow 0 23 1 v vs.length vs/\Rows3 w 0 vs xss:=h.says hk
 have hro:w.ownsRow 0 3 1 vr xs.length (nums .i64 xs):=h2.says (.row vr 3 1 xs.length (nums .i64 xs)) (by simp)
 have hdis:=(List.pairwise_cons.1 h2.apart).1 (.row vr 3 1 xs.length (nums .i64 xs)) (by simp)
 have hr':Rows3 w 0 (vs++[vr]) (xss++[xs]):=hs2.push hro (fun i hi=>by
  cases hv:(vs.getD i nilS).ownBlock with
  | none=>exact .inl rfl
  | some b=>exact .inr (fun e=>hdis b (.inr ⟨i,hi,hv⟩) e.symm))
 have h3:MemL w0 w (.mat v (vs++[vr]) (xss++[xs]) :: ((H.eraseIdx k).eraseIdx j++F))->True:=fun _=>trivial
 let c:Pc:=⟨fun q=>(Pc.mat v vs xss).foot q∨(Pc.row vr 3 1 xs.length (nums .i64 xs)).foot q,fun W=>W.ownsRow 0 23 1 v vs.length vs/\Rows3 W 0 (vs++[vr]) (xss++[xs])/\∀ q,((Pc.mat v vs xss).foot q∨(Pc.row vr 3 1 xs.length (nums .i64 xs)).foot q)->q < W.heap.size,
  fun h q hq=>h.2.2 q hq,
  fun {W W'} h hb=>⟨own_move h.1 (fun q hq=>hb q (.inl (.inl hq))),h.2.1.move (fun i q hi hq=>hb q (by
    rw [List.length_append,List.length_singleton] at hi
    rcases Nat.lt_or_ge i vs.length with h4 | h4
    ·rw [getD_snoc_old h4] at hq;exact .inl (.inr ⟨i,h4,hq⟩)
    ·have:i=vs.length:=by omega
     subst this
     rw [getD_snoc_new] at hq
     exact .inr hq)),fun q hq=>by
   have h5:=h.2.2 q hq
   have h6:=hb q hq
   rw [Array.getElem?_eq_getElem h5] at h6
   exact (Array.getElem?_eq_some_iff.1 h6).1⟩⟩
 have h4:MemL w0 w (c :: ((H.eraseIdx k).eraseIdx j++F)):=h2.merge (e:=c) ⟨hs1,hr',fun q hq=>by
  rcases hq with hq | hq
  ·exact (Pc.mat v vs xss).lt (h.says hk) hq
  ·exact own_lt hro q hq⟩ (fun b hb=>hb)
 refine h4.step (c':=.mat v' (vs++[vr]) (xss++[xs])) ((Chg.refl _ _).grown hg (fun q _ hq=>.inl (.inl hq))) ⟨own_weaken ho (Nat.zero_le _),hr'.other hg hs1 (by decide)⟩ ?_
 rintro b (hb | ⟨i,hi,hb⟩)
 ·rcases hat with e | ⟨b1,e1,e2⟩
  ·exact .inl (.inl (.inl (by rw [<-e];exact hb)))
  ·right;rw [e1] at hb;injection hb with hb;omega
 ·rw [List.length_append,List.length_singleton] at hi
  left
  rcases Nat.lt_or_ge i vs.length with h5 | h5
  ·rw [getD_snoc_old h5] at hb;exact .inl (.inr ⟨i,h5,hb⟩)
  ·have:i=vs.length:=by omega
   subst this
   rw [getD_snoc_new] at hb
   exact .inr hb
end
section
variable {w0 w w' : World} {F H : List Pc}
theorem Mem.next {P:Program} {k j r bm n:Nat} {l:List (Int × Value)} {seen:List Nat} (h:Mem w0 w F H) (hk:H[k]?=some (.blk r (.mapIter (some bm) n seen.toArray n))) (hj:H[j]?=some (.blk bm (mObj l))) (hn:l.length=n) (nd:seen.Nodup) (lt:∀ i∈seen,i < n) (ty:TypeId) :
  (seen.length=n/\(Instr.next (.pointer (some ⟨r,0,none⟩)) false ty).run P w=.ok (.tuple #[.bool false]) w) ∨
  ∃ (i:Nat) (x:Int) (y:Value) (w2:World),l[i]?=some (x,y)/\i ∉ seen/\(seen++[i]).Nodup/\(∀ j∈seen++[i],j < n)/\seen.length < n/\(Instr.next (.pointer (some ⟨r,0,none⟩)) false ty).run P w=.ok (.tuple #[.bool true,.int .i64 x,y]) w2 /\
   (Instr.entry (.pointer (some ⟨r,0,none⟩))).run P w2=.ok (.tuple #[.int .i64 x,y]) w2/\Mem w0 w2 F (H.set k (.blk r (.mapIter (some bm) n (seen++[i]).toArray n))):=by
 subst hn
 have hI:ItSt w r bm l seen:=⟨h.blk hk,h.blk hj,nd,lt⟩
 rcases it_next (P:=P) hI ty with ⟨hend,hrun⟩ | ⟨i,hi,w1,w2,hns,hw1,hw2,hrun,hentry,hI2⟩
 ·exact .inl ⟨hend,hrun⟩
 ·right
  have M1:Mem w0 w1 F H:=by rcases hw1 with rfl | rfl;exact h;exact h.below (Below.refl _ _).drew
  have hlt:seen.length < l.length:=by
   have h2:=hI2.nd.length_le_of_subset (l₂:=List.range l.length) (fun j hj=>by simpa using hI2.lt j hj)
   simp at h2
   omega
  refine ⟨i,l[i].1,l[i].2,w2,by simp [hi],hns,hI2.nd,hI2.lt,hlt,hrun,hentry,?_⟩
  rw [hw2]
  exact M1.put hk _
theorem Mem.range {P:Program} {j bm n:Nat} {l:List (Int × Value)} {t kt e:TypeId} (h:Mem w0 w F H) (ht:P.underlying t=some (.map kt e)) (hj:H[j]?=some (.blk bm (mObj l))) (hn:l.length=n) :
  ∃ b w2,(Instr.range t (.map (some bm))).run P w=.ok (.pointer (some ⟨b,0,none⟩)) w2/\Mem w0 w2 F (H++[.blk b (.mapIter (some bm) n ([]:List Nat).toArray n)]):=by
 subst hn
 obtain ⟨b,w2,hb,hw,M⟩:=h.alloc (.mapIter (some bm) l.length #[] l.length)
 have:=(it_start (P:=P) ht (h.blk hj)).1
 rw [hb,hw] at this
 exact ⟨b,w2,this,M⟩
theorem Mem.make (h:Mem w0 w F H) (n:Nat) (hn:n<=1000000000):∃ b w2,w.heap.size=b/\w.alloc (.cells (madeCells #[.int .i64 0] n) 3)=w2/\Mem w0 w2 F (H++[.row (.slice (some ⟨b,0,none⟩) 0 n) 3 1 0 []]):=by
 refine ⟨_,_,rfl,rfl,h.newrow ((Below.refl _ _).alloc (Nat.le_refl _) _) (World.ownsRow_made (base:=w.heap.size) (e:=3) (size:=1) w (madeCells #[.int .i64 0] n) n (Nat.le_refl _) (by simp only [maxLen];omega) (by rw [size_madeCells];simp)) (fun k hk=>by simp only [Value.ownBlock,Option.some.injEq] at hk;omega)⟩
theorem Mem.rowC {k n:Nat} {v:Value} {xs:List Int} (h:Mem w0 w F H) (hk:H[k]?=some (.row v 3 1 n (nums .i64 xs))) (hn:n=xs.length):∃ A c,v=.slice A xs.length c/\xs.length<=c/\kI.C w A xs.length xs:=by
 subst hn
 exact own_C (h.row hk)
theorem Mem.rowNum {k n i:Nat} {v:Value} {xs:List Int} (h:Mem w0 w F H) (hk:H[k]?=some (.row v 3 1 n (nums .i64 xs))) (hn:n=xs.length) (hi:i < xs.length):∃ b c,v=.slice (some ⟨b,0,none⟩) xs.length c/\w.cell? ⟨b,i,none⟩=some (.int .i64 (xs.getD i 0)):=by
 subst hn
 have ho:=h.row hk
 obtain ⟨b,c,rfl,_⟩:=ho.form (by omega)
 exact ⟨b,c,rfl,own_cell ho i hi (by simp [nums,List.getD_eq_getElem?_getD,hi])⟩
theorem Mem.rowSlice {k e size n:Nat} {v:Value} {xs:List Value} (h:Mem w0 w F H) (hk:H[k]?=some (.row v e size n xs)):∃ A c,v=.slice A n c:=own_slice (h.row hk)
theorem Mem.sort {k:Nat} {v:Value} {xs:List Int} (h:Mem w0 w F H) (hk:H[k]?=some (.row v 3 1 xs.length (nums .i64 xs))) (hl:xs.length<=1000000000):Calls Try.prog 81 #[v] w fun e w'=>e=.returned (.tuple #[])/\Mem w0 w' F (H.set k (.row v 3 1 xs.length (nums .i64 (sortI xs)))):=by
 refine (sort_any w w0.heap.size v xs (h.row hk) hl).mono ?_
 rintro e w' ⟨rfl,ho,hg⟩
 exact ⟨rfl,h.grow hk hg ho (.inl rfl)⟩
theorem Mem.clone {A:Option Addr} {c:Nat} {xs:List Int} (h:Mem w0 w F H) (hC:kI.C w A xs.length xs) (hl:xs.length<=1000000000):Calls Try.prog 37 #[.slice A xs.length c] w fun e w'=>∃ A' c',e=.returned (.slice A' xs.length c')/\Mem w0 w' F (H++[.row (.slice A' xs.length c') 3 1 xs.length (nums .i64 xs)])/\Ext w w':=by
 refine (clone_any w A c xs hC hl).mono ?_
 rintro e w' ⟨v,rfl,hr,hb⟩
 have ho:=own_R hr
 obtain ⟨A',c',rfl⟩:=own_slice ho
 exact ⟨A',c',rfl,h.newrow hb ho (fun k hk=>own_base ho k hk),⟨hb.size,hb.block⟩⟩
end
theorem step_mem_app {P:Program} {ops:Array Oper} {o:Oper} {a:Act} {Q:Exit->Act->World->Prop} {K:Act->World->Prop} {w0 W:World} {F H:List Pc} (k:Nat) (hgd:o.guard=none) (s x:Operand) (t e:TypeId) (z:Value) (size bytes:Nat)
  (ho:o.op=.call { callee:=.builtin .append,args:=#[s,x],argTypes:=#[t,t] })
  (ht:P.underlying t=some (.slice e)) (hinfo:(P.info? e).map (fun i=>(i.zero,i.size,i.bytes))=some (some z,size,bytes)) (hz:z.cells.size=size) (hs0:0 < size) (hb0:0 < bytes)
  (v:Value) (n:Nat) (xs ys:List Value) (hs:a.eval s=v) (hx:a.eval x=.slice (some ⟨W.heap.size,0,none⟩) 1 1) (hys:ys.length=size) (h1:∀ u∈ys,u.oneCell'=true)
  (M:Mem w0 W F H) (hk:H[k]?=some (.row v e size n xs)) (hl:(n+1) * bytes<=140737488355328)
  (h:∀ A c w1,Mem w0 w1 F (H.set k (.row (.slice A (n+1) c) e size (n+1) (xs++ys)))->K (a.put o.dst (.slice A (n+1) c)) w1) :
  o.wp P a (W.alloc (.cells ys.toArray e)) K Q :=
 step_app (ops:=ops) w0.heap.size hgd s x t e z size bytes ho ht hinfo hz hs0 hb0 v n xs ys hs hx hys h1 (M.row hk) M.size hl (fun A c w1 ho1 hg1 hat1=>h A c w1 (M.grow hk hg1 ho1 (hat1.imp id .inr)))
theorem step_mem_mat {P:Program} {ops:Array Oper} {o:Oper} {a:Act} {Q:Exit->Act->World->Prop} {K:Act->World->Prop} {w0 W:World} {F H:List Pc} (k j:Nat) (hgd:o.guard=none) (s x:Operand)
  (ho:o.op=.call { callee:=.builtin .append,args:=#[s,x],argTypes:=#[25,25] })
  (ht:P.underlying 25=some (.slice 23)) (hinfo:(P.info? 23).map (fun i=>(i.zero,i.size,i.bytes))=some (some (.slice none 0 0),1,24))
  (v:Value) (vs:List Value) (xss:List (List Int)) (vr:Value) (xs:List Int) (hs:a.eval s=v) (hx:a.eval x=.slice (some ⟨W.heap.size,0,none⟩) 1 1) (h1:vr.oneCell'=true)
  (M:Mem w0 W F H) (hk:H[k]?=some (.mat v vs xss)) (hj:(H.eraseIdx k)[j]?=some (.row vr 3 1 xs.length (nums .i64 xs))) (hl:xss.length < 1000000000)
  (h:∀ A c w1,Mem w0 w1 F (.mat (.slice A (xss.length+1) c) (vs++[vr]) (xss++[xs]) :: (H.eraseIdx k).eraseIdx j)->K (a.put o.dst (.slice A (xss.length+1) c)) w1) :
  o.wp P a (W.alloc (.cells #[vr] 23)) K Q:=by
 have hlen:=M.matLen hk
 refine step_app (ops:=ops) (ys:=[vr]) w0.heap.size hgd s x 25 23 (.slice none 0 0) 1 24 ho ht hinfo rfl (by decide) (by decide) v vs.length vs hs hx rfl (by simpa using h1) (M.mat hk).1 M.size (by omega) ?_
 intro A c w1 ho1 hg1 hat1
 rw [hlen] at ho1 hat1 ⊢
 exact h A c w1 (M.matJoin hk hj hg1 (by simpa [hlen] using ho1) hat1)
end Go.Proofs.Ytfiiihpdekppiaa
end
section
namespace Go.Proofs.Ytfiiihpdekppiaa
open Go.RowKit Go.Proofs Go.Proofs.YtfiiihpdekppiaaW.PrintWords
open Go.ChangeMaps (setBlock heap_setBlock_same heap_setBlock_other)
open PShapeReducible (S31 k31 k31_open k31_mkF)
abbrev Sh:=S31
theorem same_lt {w w':World} {b:Nat} (h:w'.heap[b]?=w.heap[b]?) (hb:b < w.heap.size):b < w'.heap.size:=by
 rw [Array.getElem?_eq_getElem hb] at h
 exact (Array.getElem?_eq_some_iff.1 h).1
def Pc.fk (ok:Nat->Prop) (x:Sh) (cs:List Value):Pc where
 foot:=ok
 says:=fun w=>Kd.FK k31 w ok x cs/\∀ b,ok b->b < w.heap.size
 lt:=fun h _ hk=>h.2 _ hk
 loc:=fun {w w'} h hb=>⟨Kd.FK_step h.1 (fun k hk _=>hb k hk),fun b hk=>same_lt (hb b hk) (h.2 b hk)⟩
def Pc.kidrow (ok:Nat->Prop) (v:Value) (xs:List Sh) (css:List (List Value)):Pc where
 foot:=fun k=>v.ownBlock=some k∨ok k
 says:=fun w=>w.ownsRow 0 31 4 v xs.length css.flatten/\css.length=xs.length/\(∀ (i:Nat) (x:Sh) (c:List Value),xs[i]?=some x->css[i]?=some c->Kd.FK k31 w ok x c)/\(∀ b,ok b->b < w.heap.size)/\∀ b,v.ownBlock=some b->¬ ok b
 lt:=fun {w} h b hb=>by
  rcases hb with hb | hb
  ·exact own_lt h.1 b hb
  ·exact h.2.2.2.1 b hb
 loc:=fun {w w'} h hb=>⟨own_move h.1 (fun k hk=>hb k (.inl hk)),h.2.1,fun i x c hx hc=>Kd.FK_step (h.2.2.1 i x c hx hc) (fun k hk _=>hb k (.inr hk)),fun b hk=>same_lt (hb b (.inr hk)) (h.2.2.2.1 b hk),h.2.2.2.2⟩
theorem flat_get {css:List (List Value)} (h4:∀ c∈css,c.length=4):∀ (j i:Nat) (c:List Value) (u:Value),css[j]?=some c->c[i]?=some u->css.flatten[j * 4+i]?=some u:=by
 induction css with
 | nil=>intro j i c u h;simp at h
 | cons a r ih =>
  intro j i c u hj hi
  have ha:=h4 a (by simp)
  cases j with
  | zero =>
   simp only [List.getElem?_cons_zero,Option.some.injEq] at hj
   subst hj
   have hlt:=(List.getElem?_eq_some_iff.1 hi).1
   rw [List.flatten_cons,List.getElem?_append_left (by omega)]
   simpa using hi
  | succ j =>
   simp only [List.getElem?_cons_succ] at hj
   rw [List.flatten_cons,List.getElem?_append_right (by omega),ha]
   have e:(j+1) * 4+i - 4=j * 4+i:=by omega
   rw [e]
   exact ih (fun c hc=>h4 c (by simp [hc])) j i c u hj hi
theorem addr0 (b i:Nat):(⟨b,0,none⟩:Addr).add i=⟨b,i,none⟩:=by unfold Addr.add;split <;> simp_all
theorem F_block {W:World} {b t:Nat} {fr:Nat × Nat} {cs:Array Value} {ok:Nat->Prop} {xs:List Sh} {css:List (List Value)} (hb:W.heap[b]?=some (.cells cs t fr)) (hcs:∀ i,i < css.flatten.length->cs[i]?=css.flatten[i]?) (hl:css.length=xs.length) (hm:xs.length<=9223372036854775807)
  (hf:∀ (i:Nat) (x:Sh) (c:List Value),xs[i]?=some x->css[i]?=some c->Kd.FK k31 W ok x c):Kd.F k31 W (fun k=>k=b∨ok k) (some ⟨b,0,none⟩) xs.length xs:=by
 intro W' hW
 have hb':W'.heap[b]?=some (.cells cs t fr):=(hW b (.inl rfl) (blk_lt' hb)).trans hb
 have h4:∀ c∈css,c.length=4:=by
  intro c hc
  obtain ⟨i,hi⟩:=List.getElem?_of_mem hc
  have hlt:=(List.getElem?_eq_some_iff.1 hi).1
  exact k31.K_len (Kd.FK_now (hf i xs[i] c (by simp) hi))
 refine ⟨rfl,hm,fun _=>⟨⟨b,0,none⟩,rfl,fun j p hj=>?_⟩⟩
 have hjl:=(List.getElem?_eq_some_iff.1 hj).1
 obtain ⟨c,hc⟩:∃ c,css[j]?=some c:=⟨css[j],by simp [hl,hjl]⟩
 have hfk:=hf j p c hj hc
 refine ⟨c,h4 c (List.mem_of_getElem? hc),hfk W' (fun k hk hlt=>hW k (.inr hk) hlt),fun i u hu=>?_⟩
 have h5:=flat_get h4 j i c u hc hu
 rw [addr0]
 refine cell_blk hb' ?_
 have hlt:=(List.getElem?_eq_some_iff.1 h5).1
 have hsz:k31.sz=4:=rfl
 rw [hsz,hcs _ hlt]
 exact h5
section
variable {w0 w w' : World} {F H : List Pc}
theorem Mem.newfk (h:Mem w0 w F H) {ok:Nat->Prop} {x:Sh} {cs:List Value} (hw:Below w.heap.size w w') (hf:Kd.FK k31 w' ok x cs) (hok:∀ b,ok b->w.heap.size<=b):Mem w0 w' F (H++[.fk (fun k=>ok k/\k < w'.heap.size) x cs]) :=
 h.new _ hw ⟨Kd.FK_bound hf,fun _ hb=>hb.2⟩ (fun b hb=>hok b hb.1)
theorem Mem.fk {k:Nat} {ok:Nat->Prop} {x:Sh} {cs:List Value} (h:Mem w0 w F H) (hk:H[k]?=some (.fk ok x cs)):Kd.FK k31 w ok x cs:=(h.says hk).1
theorem Mem.nokids (h:Mem w0 w F H):Mem w0 w F (H++[.kidrow (fun _=>False) nilS [] []]) :=
 h.new _ (Below.refl _ _) ⟨own_nil _ _ _ _,rfl,fun i x c hx=>by simp at hx,fun _ h=>h.elim,fun _ _ h=>h⟩ (fun b hb=>by
  rcases hb with hb | hb
  ·simp [Value.ownBlock] at hb
  ·exact hb.elim)
theorem kidrow_F {w:World} {ok:Nat->Prop} {v:Value} {xs:List Sh} {css:List (List Value)} (h:(Pc.kidrow ok v xs css).says w):∃ A c,v=.slice A xs.length c/\xs.length<=c/\Kd.F k31 w (fun k=>v.ownBlock=some k∨ok k) A xs.length xs:=by
 obtain ⟨h1,h2,h3,h4,h5⟩:=h
 rcases h1.2 with ⟨rfl,h0⟩ | ⟨g,cap,cur,rfl,_,hg,hn,hcap,hsz,ht⟩
 ·have:xs=[]:=List.eq_nil_of_length_eq_zero h0
  subst this
  exact ⟨none,0,rfl,Nat.le_refl _,Kd.F_nil _ _ _⟩
 ·refine ⟨some ⟨g,0,none⟩,cap,rfl,hn,?_⟩
  have hlen:=h1.1
  refine Kd.F_mono (F_block (css:=css) hg (fun i hi=>?_) h2 (by simp only [maxLen] at hcap;omega) h3) (fun k hk=>by
   rcases hk with rfl | hk
   ·exact .inl rfl
   ·exact .inr hk)
  rw [<-ht,List.getElem?_take,if_pos (by rw [hlen] at hi;exact hi)]
  simp
theorem Mem.kidsFk {k:Nat} {ok:Nat->Prop} {v:Value} {xs:List Sh} {css:List (List Value)} (h:Mem w0 w F H) (hk:H[k]?=some (.kidrow ok v xs css)) (a b c:Int):∃ A n,v=.slice A xs.length n/\Mem w0 w F (H.set k (.fk (fun q=>v.ownBlock=some q∨ok q) ⟨a,b,c,xs⟩ [.int .i64 a,.int .i64 b,.int .i64 c,.slice A xs.length n])):=by
 have hs:=h.says hk
 obtain ⟨A,n,e,hl,hF⟩:=kidrow_F hs
 refine ⟨A,n,e,h.retell hk _ ⟨k31_mkF w _ ⟨a,b,c,xs⟩ hl hF,fun q hq=>(Pc.kidrow ok v xs css).lt hs hq⟩ (fun _ hb=>hb)⟩
theorem fk_leaf (w:World) (a b c:Int):Kd.FK k31 w (fun _=>False) ⟨a,b,c,[]⟩ [.int .i64 a,.int .i64 b,.int .i64 c,.slice none 0 0] :=
 k31_mkF w _ ⟨a,b,c,[]⟩ (Nat.le_refl _) (Kd.F_nil _ _ _)
theorem Mem.leaf (h:Mem w0 w F H) (hw:Below w.heap.size w w') (a b c:Int):Mem w0 w' F (H++[.fk (fun _=>False) ⟨a,b,c,[]⟩ [.int .i64 a,.int .i64 b,.int .i64 c,.slice none 0 0]]) :=
 h.new _ hw ⟨fk_leaf w' a b c,fun _ h=>h.elim⟩ (fun _ h=>h.elim)
theorem Mem.wrap {k b:Nat} {ok:Nat->Prop} {x:Sh} {cs:List Value} (h:Mem w0 w F H) (hk:H[k]?=some (.fk ok x cs)) (hw:Below w.heap.size w w') (hb:w'.heap[b]?=some (.cells cs.toArray 31 (0,0))) (hbn:w.heap.size<=b) (a c d:Int) :
  Mem w0 w' F (H.set k (.fk (fun q=>q=b∨ok q) ⟨a,c,d,[x]⟩ [.int .i64 a,.int .i64 c,.int .i64 d,.slice (some ⟨b,0,none⟩) 1 1])):=by
 have hs:=h.says hk
 refine h.step hk _ (Chg.below hw) ⟨k31_mkF w' _ ⟨a,c,d,[x]⟩ (Nat.le_refl _) ?_,?_⟩ ?_
 ·refine F_block (css:=[cs]) hb (fun i _=>by simp) rfl (by simp) (fun i y c' hy hc'=>?_)
  cases i with
  | zero =>
   simp only [List.getElem?_cons_zero,Option.some.injEq] at hy hc'
   subst hy hc'
   exact Kd.FK_below hs.1 hw
  | succ i=>simp at hy
 ·rintro q (rfl | hq)
  ·exact blk_lt' hb
  ·exact Nat.lt_of_lt_of_le (hs.2 q hq) hw.size
 ·rintro q (rfl | hq)
  ·exact .inr hbn
  ·exact .inl hq
theorem Mem.wrap2 {k j b:Nat} {ok1 ok2:Nat->Prop} {x y:Sh} {cs1 cs2:List Value} (h:Mem w0 w F H) (hk:H[k]?=some (.fk ok1 x cs1)) (hj:(H.eraseIdx k)[j]?=some (.fk ok2 y cs2)) (hw:Below w.heap.size w w') (hb:w'.heap[b]?=some (.cells (cs1++cs2).toArray 31 (0,0))) (hbn:w.heap.size<=b) (a c d:Int) :
  Mem w0 w' F (.fk (fun q=>q=b∨ok1 q∨ok2 q) ⟨a,c,d,[x,y]⟩ [.int .i64 a,.int .i64 c,.int .i64 d,.slice (some ⟨b,0,none⟩) 2 2] :: (H.eraseIdx k).eraseIdx j):=by
 have h1:=h.front hk
 have hp:(Pc.fk ok1 x cs1 :: .fk ok2 y cs2 :: ((H.eraseIdx k).eraseIdx j++F)).Perm (.fk ok1 x cs1 :: (H.eraseIdx k++F)) :=
  List.Perm.cons _ (List.Perm.append_right F (get_perm' hj)).symm
 have h2:=h1.perm hp
 have s1:(Pc.fk ok1 x cs1).says w:=h.says hk
 have s2:(Pc.fk ok2 y cs2).says w:=h2.says (.fk ok2 y cs2) (by simp)
 have hne:w.heap.size < w'.heap.size:=Nat.lt_of_le_of_lt hbn (blk_lt' hb)
 let e:Pc:=⟨fun q=>ok1 q∨ok2 q,fun W=>(Pc.fk ok1 x cs1).says W/\(Pc.fk ok2 y cs2).says W,fun h q hq=>by
   rcases hq with hq | hq
   ·exact (Pc.fk ok1 x cs1).lt h.1 hq
   ·exact (Pc.fk ok2 y cs2).lt h.2 hq,fun h hb=>⟨(Pc.fk ok1 x cs1).loc h.1 (fun q hq=>hb q (.inl hq)),(Pc.fk ok2 y cs2).loc h.2 (fun q hq=>hb q (.inr hq))⟩⟩
 have h3:MemL w0 w (e :: ((H.eraseIdx k).eraseIdx j++F)):=h2.merge ⟨s1,s2⟩ (fun q hq=>hq)
 refine h3.step (Chg.below hw) ⟨k31_mkF w' _ ⟨a,c,d,[x,y]⟩ (Nat.le_refl _) ?_,?_⟩ ?_
 ·refine F_block (css:=[cs1,cs2]) hb (fun i _=>by simp) rfl (by simp) (fun i z c' hz hc'=>?_)
  match i,hz,hc' with
  | 0,hz,hc' =>
   simp only [List.getElem?_cons_zero,Option.some.injEq] at hz hc'
   subst hz hc'
   exact Kd.FK_mono (Kd.FK_below s1.1 hw) (fun _ h=>.inl h)
  | 1,hz,hc' =>
   simp only [List.getElem?_cons_succ,List.getElem?_cons_zero,Option.some.injEq] at hz hc'
   subst hz hc'
   exact Kd.FK_mono (Kd.FK_below s2.1 hw) (fun _ h=>.inr h)
  | i+2,hz,_=>simp at hz
 ·rintro q (rfl | hq | hq)
  ·exact blk_lt' hb
  ·exact Nat.lt_of_lt_of_le (s1.2 q hq) hw.size
  ·exact Nat.lt_of_lt_of_le (s2.2 q hq) hw.size
 ·rintro q (rfl | hq)
  ·exact .inr hbn
  ·exact .inl hq
end
theorem mem_append_kid {P:Program} {ops:Array Oper} {rest_:List Oper} {o:Oper} {a:Act} {Q:Exit->Act->World->Prop} {w0 W:World} {F H:List Pc} (k j:Nat) (s x:Operand) (hgd:o.guard=none)
  (ho:o.op=.call { callee:=.builtin .append,args:=#[s,x],argTypes:=#[29,29] })
  (ht:P.underlying 29=some (.slice 31)) (z:Value) (hz:z.cells.size=4) (hinfo:(P.info? 31).map (fun i=>(i.zero,i.size,i.bytes))=some (some z,4,48))
  (v:Value) (xs:List Sh) (css:List (List Value)) (ok1 ok2:Nat->Prop) (y:Sh) (cs:List Value) (hs:a.eval s=v) (hx:a.eval x=.slice (some ⟨W.heap.size,0,none⟩) 1 1)
  (M:Mem w0 W F H) (hk:H[k]?=some (.kidrow ok1 v xs css)) (hj:(H.eraseIdx k)[j]?=some (.fk ok2 y cs)) (hl:xs.length < 1000000000)
  (h:∀ A c w1,Mem w0 w1 F (.kidrow (fun q=>ok1 q∨ok2 q) (.slice A (xs.length+1) c) (xs++[y]) (css++[cs]) :: (H.eraseIdx k).eraseIdx j)->wpList P ops Q rest_ (a.put o.dst (.slice A (xs.length+1) c)) w1) :
  wpList P ops Q (o :: rest_) a (W.alloc (.cells cs.toArray 31)):=by
 have h1:=M.front hk
 have hp:(Pc.kidrow ok1 v xs css :: .fk ok2 y cs :: ((H.eraseIdx k).eraseIdx j++F)).Perm (.kidrow ok1 v xs css :: (H.eraseIdx k++F)) :=
  List.Perm.cons _ (List.Perm.append_right F (get_perm' hj)).symm
 have h2:=h1.perm hp
 have s1:(Pc.kidrow ok1 v xs css).says W:=M.says hk
 have s2:(Pc.fk ok2 y cs).says W:=h2.says (.fk ok2 y cs) (by simp)
 have hdis:=(List.pairwise_cons.1 h2.apart).1 (.fk ok2 y cs) (by simp)
 have hcl:cs.length=4:=k31.K_len (Kd.FK_now s2.1)
 have hone:=k31.K_one (Kd.FK_now s2.1)
 obtain ⟨t1,t2,t3,t4,t5⟩:=s1
 refine print_append_cells (w0:=w0) (ys:=cs) 0 hgd s x 29 31 z 4 48 ho ht hinfo hz (by decide) (by decide) v xs.length css.flatten hs hx hcl hone t1 (M.hb.mono (Nat.zero_le _)) (Nat.zero_le _) (by omega) ?_
 intro v1 w1 ho1 _ hg1 hat1
 obtain ⟨A,c,rfl⟩:=own_slice ho1
 let e:Pc:=⟨fun q=>(Pc.kidrow ok1 v xs css).foot q∨ok2 q,fun W=>(Pc.kidrow ok1 v xs css).says W/\(Pc.fk ok2 y cs).says W,fun h q hq=>by
   rcases hq with hq | hq
   ·exact (Pc.kidrow ok1 v xs css).lt h.1 hq
   ·exact (Pc.fk ok2 y cs).lt h.2 hq,fun h hb=>⟨(Pc.kidrow ok1 v xs css).loc h.1 (fun q hq=>hb q (.inl hq)),(Pc.fk ok2 y cs).loc h.2 (fun q hq=>hb q (.inr hq))⟩⟩
 have h3:MemL w0 W (e :: ((H.eraseIdx k).eraseIdx j++F)):=h2.merge ⟨⟨t1,t2,t3,t4,t5⟩,s2⟩ (fun q hq=>hq)
 have far:∀ q,ok1 q∨ok2 q->some q≠v.ownBlock:=by
  rintro q (hq | hq) he
  ·exact t5 q he.symm hq
  ·exact hdis q (.inl he.symm) hq
 have keep:∀ q,ok1 q∨ok2 q->q < W.heap.size->w1.heap[q]?=W.heap[q]?:=fun q hq hlt=>hg1.block q hlt (far q hq)
 refine h A c w1 (h3.step (c':=.kidrow (fun q=>ok1 q∨ok2 q) (.slice A (xs.length+1) c) (xs++[y]) (css++[cs])) ((Chg.refl _ _).grown hg1 (fun q _ hq=>.inl (.inl hq))) ⟨?_,?_,?_,?_,?_⟩ ?_)
 ·have:=ho1
  simp only [List.length_append,List.length_singleton,List.flatten_append,List.flatten_cons,List.flatten_nil,List.append_nil]
  exact own_weaken this (Nat.zero_le _)
 ·simp [t2]
 ·intro i z' c' hz' hc'
  rcases Nat.lt_or_ge i xs.length with hi | hi
  ·rw [List.getElem?_append_left hi] at hz'
   rw [List.getElem?_append_left (by omega)] at hc'
   exact Kd.FK_mono (Kd.FK_step (t3 i z' c' hz' hc') (fun q hq hlt=>keep q (.inl hq) hlt)) (fun _ h=>.inl h)
  ·have hi2:i < (xs++[y]).length:=(List.getElem?_eq_some_iff.1 hz').1
   have:i=xs.length:=by simp at hi2;omega
   subst this
   rw [List.getElem?_append_right (Nat.le_refl _),Nat.sub_self] at hz'
   rw [List.getElem?_append_right (by omega),t2,Nat.sub_self] at hc'
   simp only [List.getElem?_cons_zero,Option.some.injEq] at hz' hc'
   subst hz' hc'
   exact Kd.FK_mono (Kd.FK_step s2.1 (fun q hq hlt=>keep q (.inr hq) hlt)) (fun _ h=>.inr h)
 ·rintro b (hb | hb)
  ·exact Nat.lt_of_lt_of_le (t4 b hb) hg1.size
  ·exact Nat.lt_of_lt_of_le (s2.2 b hb) hg1.size
 ·intro b hb hok
  rcases hat1 with e1 | ⟨b1,e1,e2⟩
  ·rw [e1] at hb;exact far b hok hb.symm
  ·rw [e1] at hb
   injection hb with hb
   rcases hok with hok | hok
   ·have:=t4 b hok;omega
   ·have:=s2.2 b hok;omega
 ·rintro b (hb | hb)
  ·rcases hat1 with e1 | ⟨b1,e1,e2⟩
   ·left;left;left;rw [<-e1];exact hb
   ·right;rw [e1] at hb;injection hb with hb;omega
  ·rcases hb with hb | hb
   ·exact .inl (.inl (.inr hb))
   ·exact .inl (.inr hb)
end Go.Proofs.Ytfiiihpdekppiaa
end
section
namespace Go.Proofs.Ytfiiihpdekppiaa
open PShapeReducible (S31)
def kidsOf (kids:List (Int × List Int)) (n:Int):List Int:=(mget kids n).getD []
structure Bd where
 succ:List (List Int)
 node:List Int
 att:List (Int × Int)
 kids:List (Int × List Int)
 merged:List (Int × Bool)
structure Bs where
 loops:List (Int × Int)
 blocks:List (Int × Int)
 n:Nat
inductive Job where
 | tree (n:Int)
 | within (n:Int) (behind:List Int)
 | branch (n m:Int)
def brs (f:Int->Bs->Option (S31 × Bs)):List Int->Bs->Option (List S31 × Bs)
 | [],s=>some ([],s)
 | m :: l,s=>(f m s).bind fun q=>(brs f l q.2).bind fun p=>some (q.1 :: p.1,p.2)
def bF (B:Bd):Nat->Job->Bs->Option (S31 × Bs)
 | 0,_,_=>none
 | k+1,.tree n,s =>
  match mget s.loops n with
  | none=>bF B k (.within n (kidsOf B.kids n)) s
  | some _ =>
   if s.n<=1000000000 then (bF B k (.within n (kidsOf B.kids n)) { s with loops:=mput s.loops n s.n,n:=s.n+1 }).bind fun q=>some (⟨3,0,s.n,[q.1]⟩,q.2)
   else none
 | k+1,.within n (x :: r),s =>
  if s.n<=1000000000/\r.length<=1000000 then
   (bF B k (.within n r) { s with blocks:=mput s.blocks x s.n,n:=s.n+1 }).bind fun q =>
    (bF B k (.tree x) q.2).bind fun p=>some (⟨1,0,0,[⟨4,0,s.n,[q.1]⟩,p.1]⟩,p.2)
  else none
 | k+1,.within n [],s =>
  if (0<=n/\n < B.succ.length)/\n < B.node.length/\(B.succ.getD n.toNat []).length<=1000000 then
   (brs (fun m s=>bF B k (.branch n m) s) (B.succ.getD n.toNat []) s).bind fun q=>some (⟨2,B.node.getD n.toNat 0,0,q.1⟩,q.2)
  else none
 | k+1,.branch n m,s =>
  if mI0 B.att m<=mI0 B.att n then some (⟨6,0,mI0 s.loops m,[]⟩,s)
  else if mB0 B.merged m=true then some (⟨5,0,mI0 s.blocks m,[]⟩,s)
  else bF B k (.tree m) s
def posF:List Int->Nat->List (Int × Int)->List (Int × Int)
 | [],_,m=>m
 | x :: r,k,m=>posF r (k+1) (mput m x k)
def edgeF (att:List (Int × Int)) (x:Int):List Int->List (Int × Int) × List (Int × Int)->Option (List (Int × Int) × List (Int × Int))
 | [],s=>some s
 | y :: l,s =>
  if mI0 att y<=mI0 att x then edgeF att x l (mput s.1 y (-1),s.2)
  else if 0<=mI0 s.2 y/\mI0 s.2 y<=1000000000 then edgeF att x l (s.1,mput s.2 y (mI0 s.2 y+1))
  else none
def edgesF (succ:List (List Int)) (att:List (Int × Int)):List Int->List (Int × Int) × List (Int × Int)->Option (List (Int × Int) × List (Int × Int))
 | [],s=>some s
 | x :: r,s=>if (0<=x/\x < succ.length)/\(succ.getD x.toNat []).length<=1000000000 then (edgeF att x (succ.getD x.toNat []) s).bind fun s'=>edgesF succ att r s' else none
def mergeF (edges:List (Int × Int)) (dom:List Int):List Int->List (Int × Bool) × List (Int × List Int)->List (Int × Bool) × List (Int × List Int)
 | [],s=>s
 | x :: r,s=>mergeF edges dom r (if mI0 edges x > 1 then (mput s.1 x true,mput s.2 (dom.getD x.toNat 0) (kidsOf s.2 (dom.getD x.toNat 0)++[x])) else s)
end Go.Proofs.Ytfiiihpdekppiaa
end
