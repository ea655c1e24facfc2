/- A part of the proof that vellumlaw12.ShapeErrors is true for every input: walks of functions that the row reaches and plain laws that they need. Conditions: none. Joined by merge.py out of B6 B7 B8 B9 B10 S8 B11; a part that began as a print is named P or W there and is trimmed. -/
import Derived.Test.YtfiiihpdekppiaaE4
import Derived.Test.YtfiiihpdekppiaaE10
import Derived.OrdersIn
import Derived.RangeFuncCalls
import Derived.RangeFuncWrites
set_option linter.unusedVariables false
set_option linter.unusedSimpArgs false
section
namespace Go.Proofs.Ytfiiihpdekppiaa
open Go.RowKit Go.Proofs Go.Proofs.YtfiiihpdekppiaaW.PrintWords
open Go.ChangeMaps (setBlock heap_setBlock_same heap_setBlock_other)
def Pc.mat (v : Value) (vs : List Value) (xss : List (List Int)) : Pc where
 foot := fun k => v.ownBlock = some k ∨ ∃ i, i < vs.length ∧ (vs.getD i nilS).ownBlock = some k
 says := fun w => w.ownsRow 0 23 1 v vs.length vs ∧ Rows3 w 0 vs xss
 lt := fun h k hk => by
  rcases hk with hk | ⟨i, hi, hk⟩
  ·exact own_lt h.1 k hk
  ·exact own_lt (h.2.row i hi) k hk
 loc := fun h hb => ⟨own_move h.1 (fun k hk => hb k (.inl hk)), h.2.move (fun i k hi hk => hb k (.inr ⟨i, hi, hk⟩))⟩
section
variable {w0 w w' : World} {F H : List Pc}
theorem Mem.mat {k : Nat} {v : Value} {vs : List Value} {xss : List (List Int)} (h : Mem w0 w F H) (hk : H[k]? = some (.mat v vs xss)) : w.ownsRow w0.heap.size 23 1 v vs.length vs ∧ Rows3 w w0.heap.size vs xss := by
 have h0 := h.says hk
 exact ⟨own_rebase h0.1 (fun b hb => h.base hk b (.inl hb)), h0.2.len, fun i hi => own_rebase (h0.2.row i hi) (fun b hb => h.base hk b (.inr ⟨i, hi, hb⟩)), h0.2.apart⟩
theorem Mem.matLen {k : Nat} {v : Value} {vs : List Value} {xss : List (List Int)} (h : Mem w0 w F H) (hk : H[k]? = some (.mat v vs xss)) : vs.length = xss.length := (h.mat hk).2.len
theorem Mem.matC {k : Nat} {v : Value} {vs : List Value} {xss : List (List Int)} (h : Mem w0 w F H) (hk : H[k]? = some (.mat v vs xss)) : ∃ A c, v = .slice A xss.length c ∧ xss.length ≤ c ∧ kG.C w A xss.length xss :=
 (h.mat hk).2.read (h.mat hk).1
theorem Mem.matRow {k : Nat} {v : Value} {vs : List Value} {xss : List (List Int)} (h : Mem w0 w F H) (hk : H[k]? = some (.mat v vs xss)) {i : Nat} (hi : i < xss.length) : ∃ b c A n, v = .slice (some ⟨b, 0, none⟩) xss.length c ∧ w.cell? ⟨b, i, none⟩ = some (.slice A (xss.getD i []).length n) ∧ vs.getD i nilS = .slice A (xss.getD i []).length n ∧ (xss.getD i []).length ≤ n ∧ kI.C w A (xss.getD i []).length (xss.getD i []) := by
 obtain ⟨h1, h2⟩ := h.mat hk
 have hlen := h2.len
 obtain ⟨b, c, rfl, _, hc⟩ := h1.form (by omega)
 obtain ⟨A, n, e1, e2, e3⟩ := own_C (h2.row i (by omega))
 refine ⟨b, c, A, n, by rw [hlen], ?_, e1, e2, e3⟩
 have h3 := own_cell h1 i (by omega) (u := vs.getD i nilS) (by rw [List.getD_eq_getElem?_getD, List.getElem?_eq_getElem (by omega)]; rfl)
 rw [h3, e1]
theorem Mem.newmat {b : Nat} {v : Value} {vs : List Value} {xss : List (List Int)} (h : Mem w0 w F H) (hw : Below w.heap.size w w') (h1 : w'.ownsRow w.heap.size 23 1 v vs.length vs) (h2 : Rows3 w' w.heap.size vs xss) : Mem w0 w' F (H ++ [.mat v vs xss]) :=
 h.new _ hw ⟨own_weaken h1 (Nat.zero_le _), h2.low⟩ (fun k hk => by
  rcases hk with hk | ⟨i, hi, hk⟩
  ·exact own_base h1 k hk
  ·exact own_base (h2.row i hi) k hk)
theorem Mem.nilmat (h : Mem w0 w F H) : Mem w0 w F (H ++ [.mat nilS [] []]) :=
 h.new _ (Below.refl _ _) ⟨own_nil _ _ _ _, Rows3.nil _ _⟩ (fun b hb => by
  rcases hb with hb | ⟨i, hi, _⟩
  ·simp [Value.ownBlock] at hb
  ·simp at hi)
theorem Mem.matSet {k i j b n : Nat} {v : Value} {vs : List Value} {xss : List (List Int)} (h : Mem w0 w F H) (hk : H[k]? = some (.mat v vs xss)) (hi : i < xss.length) (hv : vs.getD i nilS = .slice (some ⟨b, 0, none⟩) (xss.getD i []).length n) (x : Int) :
  ∃ w2, w.setCell ⟨b, j, none⟩ (.int .i64 x) = w2 ∧ Mem w0 w2 F (H.set k (.mat v vs (xss.set i ((xss.getD i []).set j x)))) := by
 refine ⟨_, rfl, ?_⟩
 obtain ⟨h1, h2⟩ := h.says hk
 have hlen := h2.len
 have hrow := h2.row i (by omega)
 rw [hv] at hrow
 have hst := (hrow.stored j (.int .i64 x)).1
 have hty := own_typed hrow b rfl
 obtain ⟨cs, hcs⟩ := hty
 have hg : w.grownBy (w.setCell ⟨b, j, none⟩ (.int .i64 x)) (vs.getD i nilS).ownBlock := ⟨rfl, rfl, rfl, by simp [World.setCell], fun q hq hn => by
  rw [hv] at hn
  exact Below.heap_setCell w _ _ q (fun e => hn (by rw [e]; rfl))⟩
 have hr2 := h2.turned (i := i) (by omega) (v' := vs.getD i nilS) (xs' := (xss.getD i []).set j x) (w1 := w.setCell ⟨b, j, none⟩ (.int .i64 x)) (by
  rw [hv]
  rw [List.length_set]
  have e : nums .i64 ((xss.getD i []).set j x) = (nums .i64 (xss.getD i [])).set j (.int .i64 x) := by simp [nums, List.map_set]
  rw [e]
  exact hst) hg (.inl rfl)
 have hset : vs.set i (vs.getD i nilS) = vs := by
  rw [List.getD_eq_getElem?_getD, List.getElem?_eq_getElem (by omega)]
  simp
 rw [hset] at hr2
 refine h.step hk _ ((Chg.refl _ w).setCell (p := ⟨b, j, none⟩) (fun _ => .inr ⟨i, by omega, by rw [hv]; rfl⟩) _) ⟨set_row h1 (fun e => ?_), hr2⟩ (fun b hb => .inl hb)
 obtain ⟨cs', hcs'⟩ := own_typed h1 b e
 rw [hcs] at hcs'
 cases hcs'
theorem Mem.matJoin {k j : Nat} {v v' : Value} {vs : List Value} {xss : List (List Int)} {vr : Value} {xs : List Int} (h : Mem w0 w F H) (hk : H[k]? = some (.mat v vs xss)) (hj : (H.eraseIdx k)[j]? = some (.row vr 3 1 xs.length (nums .i64 xs)))
  (hg : w.grownBy w' v.ownBlock) (ho : w'.ownsRow w0.heap.size 23 1 v' (vs ++ [vr]).length (vs ++ [vr])) (hat : v'.ownBlock = v.ownBlock ∨ ∃ b, v'.ownBlock = some b ∧ w.heap.size ≤ b) : Mem w0 w' F (.mat v' (vs ++ [vr]) (xss ++ [xs]) :: (H.eraseIdx k).eraseIdx j) := by
 have h1 := h.front hk
 have hp : (Pc.mat v vs xss :: .row vr 3 1 xs.length (nums .i64 xs) :: ((H.eraseIdx k).eraseIdx j ++ F)).Perm (.mat v vs xss :: (H.eraseIdx k ++ F)) :=
  List.Perm.cons _ (List.Perm.append_right F (get_perm' hj)).symm
 have h2 := h1.perm hp
 obtain ⟨hs1, hs2⟩ : w.ownsRow 0 23 1 v vs.length vs ∧ Rows3 w 0 vs xss := h.says hk
 have hro : w.ownsRow 0 3 1 vr xs.length (nums .i64 xs) := h2.says (.row vr 3 1 xs.length (nums .i64 xs)) (by simp)
 have hdis := (List.pairwise_cons.1 h2.apart).1 (.row vr 3 1 xs.length (nums .i64 xs)) (by simp)
 have hr' : Rows3 w 0 (vs ++ [vr]) (xss ++ [xs]) := hs2.push hro (fun i hi => by
  cases hv : (vs.getD i nilS).ownBlock with
  | none => exact .inl rfl
  | some b => exact .inr (fun e => hdis b (.inr ⟨i, hi, hv⟩) e.symm))
 have h3 : MemL w0 w (.mat v (vs ++ [vr]) (xss ++ [xs]) :: ((H.eraseIdx k).eraseIdx j ++ F)) → True := fun _ => trivial
 let c : Pc := ⟨fun q => (Pc.mat v vs xss).foot q ∨ (Pc.row vr 3 1 xs.length (nums .i64 xs)).foot q, fun W => W.ownsRow 0 23 1 v vs.length vs ∧ Rows3 W 0 (vs ++ [vr]) (xss ++ [xs]) ∧ ∀ q, ((Pc.mat v vs xss).foot q ∨ (Pc.row vr 3 1 xs.length (nums .i64 xs)).foot q) → q < W.heap.size,
  fun h q hq => h.2.2 q hq,
  fun {W W'} h hb => ⟨own_move h.1 (fun q hq => hb q (.inl (.inl hq))), h.2.1.move (fun i q hi hq => hb q (by
    rw [List.length_append, List.length_singleton] at hi
    rcases Nat.lt_or_ge i vs.length with h4 | h4
    ·rw [getD_snoc_old h4] at hq; exact .inl (.inr ⟨i, h4, hq⟩)
    ·have : i = vs.length := by omega
     subst this
     rw [getD_snoc_new] at hq
     exact .inr hq)), fun q hq => by
   have h5 := h.2.2 q hq
   have h6 := hb q hq
   rw [Array.getElem?_eq_getElem h5] at h6
   exact (Array.getElem?_eq_some_iff.1 h6).1⟩⟩
 have h4 : MemL w0 w (c :: ((H.eraseIdx k).eraseIdx j ++ F)) := h2.merge (e := c) ⟨hs1, hr', fun q hq => by
  rcases hq with hq | hq
  ·exact (Pc.mat v vs xss).lt (h.says hk) hq
  ·exact own_lt hro q hq⟩ (fun b hb => hb)
 refine h4.step (c' := .mat v' (vs ++ [vr]) (xss ++ [xs])) ((Chg.refl _ _).grown hg (fun q _ hq => .inl (.inl hq))) ⟨own_weaken ho (Nat.zero_le _), hr'.other hg hs1 (by decide)⟩ ?_
 rintro b (hb | ⟨i, hi, hb⟩)
 ·rcases hat with e | ⟨b1, e1, e2⟩
  ·exact .inl (.inl (.inl (by rw [← e]; exact hb)))
  ·right; rw [e1] at hb; injection hb with hb; omega
 ·rw [List.length_append, List.length_singleton] at hi
  left
  rcases Nat.lt_or_ge i vs.length with h5 | h5
  ·rw [getD_snoc_old h5] at hb; exact .inl (.inr ⟨i, h5, hb⟩)
  ·have : i = vs.length := by omega
   subst this
   rw [getD_snoc_new] at hb
   exact .inr hb
end
end Go.Proofs.Ytfiiihpdekppiaa
end
section
namespace Go.Proofs.Ytfiiihpdekppiaa
open Go.RowKit Go.Proofs Go.Proofs.YtfiiihpdekppiaaW.PrintWords
open Go.ChangeMaps (setBlock heap_setBlock_same heap_setBlock_other)
section
variable {w0 w w' : World} {F H : List Pc}
theorem Mem.next {P : Program} {k j r bm n : Nat} {l : List (Int × Value)} {seen : List Nat} (h : Mem w0 w F H) (hk : H[k]? = some (.blk r (.mapIter (some bm) n seen.toArray n))) (hj : H[j]? = some (.blk bm (mObj l))) (hn : l.length = n) (nd : seen.Nodup) (lt : ∀ i ∈ seen, i < n) (ty : TypeId) :
  (seen.length = n ∧ (Instr.next (.pointer (some ⟨r, 0, none⟩)) false ty).run P w = .ok (.tuple #[.bool false]) w) ∨
  ∃ (i : Nat) (x : Int) (y : Value) (w2 : World), l[i]? = some (x, y) ∧ i ∉ seen ∧ (seen ++ [i]).Nodup ∧ (∀ j ∈ seen ++ [i], j < n) ∧ seen.length < n ∧ (Instr.next (.pointer (some ⟨r, 0, none⟩)) false ty).run P w = .ok (.tuple #[.bool true, .int .i64 x, y]) w2 ∧
   (Instr.entry (.pointer (some ⟨r, 0, none⟩))).run P w2 = .ok (.tuple #[.int .i64 x, y]) w2 ∧ Mem w0 w2 F (H.set k (.blk r (.mapIter (some bm) n (seen ++ [i]).toArray n))) := by
 subst hn
 have hI : ItSt w r bm l seen := ⟨h.blk hk, h.blk hj, nd, lt⟩
 rcases it_next (P := P) hI ty with ⟨hend, hrun⟩ | ⟨i, hi, w1, w2, hns, hw1, hw2, hrun, hentry, hI2⟩
 ·exact .inl ⟨hend, hrun⟩
 ·right
  have M1 : Mem w0 w1 F H := by rcases hw1 with rfl | rfl; exact h; exact h.below (Below.refl _ _).drew
  have hlt : seen.length < l.length := by
   have h2 := hI2.nd.length_le_of_subset (l₂ := List.range l.length) (fun j hj => by simpa using hI2.lt j hj)
   simp at h2
   omega
  refine ⟨i, l[i].1, l[i].2, w2, by simp [hi], hns, hI2.nd, hI2.lt, hlt, hrun, hentry, ?_⟩
  rw [hw2]
  exact M1.put hk _
theorem Mem.range {P : Program} {j bm n : Nat} {l : List (Int × Value)} {t kt e : TypeId} (h : Mem w0 w F H) (ht : P.underlying t = some (.map kt e)) (hj : H[j]? = some (.blk bm (mObj l))) (hn : l.length = n) :
  ∃ b w2, (Instr.range t (.map (some bm))).run P w = .ok (.pointer (some ⟨b, 0, none⟩)) w2 ∧ Mem w0 w2 F (H ++ [.blk b (.mapIter (some bm) n ([] : List Nat).toArray n)]) := by
 subst hn
 obtain ⟨b, w2, hb, hw, M⟩ := h.alloc (.mapIter (some bm) l.length #[] l.length)
 have := (it_start (P := P) ht (h.blk hj)).1
 rw [hb, hw] at this
 exact ⟨b, w2, this, M⟩
theorem Mem.make (h : Mem w0 w F H) (n : Nat) (hn : n ≤ 1000000000) : ∃ b w2, w.heap.size = b ∧ w.alloc (.cells (madeCells #[.int .i64 0] n) 3) = w2 ∧ Mem w0 w2 F (H ++ [.row (.slice (some ⟨b, 0, none⟩) 0 n) 3 1 0 []]) := by
 refine ⟨_, _, rfl, rfl, h.newrow ((Below.refl _ _).alloc (Nat.le_refl _) _) (World.ownsRow_made (base := w.heap.size) (e := 3) (size := 1) w (madeCells #[.int .i64 0] n) n (Nat.le_refl _) (by simp only [maxLen]; omega) (by rw [size_madeCells]; simp)) (fun k hk => by simp only [Value.ownBlock, Option.some.injEq] at hk; omega)⟩
theorem Mem.rowC {k n : Nat} {v : Value} {xs : List Int} (h : Mem w0 w F H) (hk : H[k]? = some (.row v 3 1 n (nums .i64 xs))) (hn : n = xs.length) : ∃ A c, v = .slice A xs.length c ∧ xs.length ≤ c ∧ kI.C w A xs.length xs := by
 subst hn
 exact own_C (h.row hk)
theorem Mem.rowNum {k n i : Nat} {v : Value} {xs : List Int} (h : Mem w0 w F H) (hk : H[k]? = some (.row v 3 1 n (nums .i64 xs))) (hn : n = xs.length) (hi : i < xs.length) : ∃ b c, v = .slice (some ⟨b, 0, none⟩) xs.length c ∧ w.cell? ⟨b, i, none⟩ = some (.int .i64 (xs.getD i 0)) := by
 subst hn
 have ho := h.row hk
 obtain ⟨b, c, rfl, _⟩ := ho.form (by omega)
 exact ⟨b, c, rfl, own_cell ho i hi (by simp [nums, List.getD_eq_getElem?_getD, hi])⟩
theorem Mem.rowSlice {k e size n : Nat} {v : Value} {xs : List Value} (h : Mem w0 w F H) (hk : H[k]? = some (.row v e size n xs)) : ∃ A c, v = .slice A n c := own_slice (h.row hk)
theorem Mem.sort {k : Nat} {v : Value} {xs : List Int} (h : Mem w0 w F H) (hk : H[k]? = some (.row v 3 1 xs.length (nums .i64 xs))) (hl : xs.length ≤ 1000000000) : Calls Try.prog 81 #[v] w fun e w' => e = .returned (.tuple #[]) ∧ Mem w0 w' F (H.set k (.row v 3 1 xs.length (nums .i64 (sortI xs)))) := by
 refine (sort_any w w0.heap.size v xs (h.row hk) hl).mono ?_
 rintro e w' ⟨rfl, ho, hg⟩
 exact ⟨rfl, h.grow hk hg ho (.inl rfl)⟩
theorem Mem.clone {A : Option Addr} {c : Nat} {xs : List Int} (h : Mem w0 w F H) (hC : kI.C w A xs.length xs) (hl : xs.length ≤ 1000000000) : Calls Try.prog 37 #[.slice A xs.length c] w fun e w' => ∃ A' c', e = .returned (.slice A' xs.length c') ∧ Mem w0 w' F (H ++ [.row (.slice A' xs.length c') 3 1 xs.length (nums .i64 xs)]) ∧ Ext w w' := by
 refine (clone_any w A c xs hC hl).mono ?_
 rintro e w' ⟨v, rfl, hr, hb⟩
 have ho := own_R hr
 obtain ⟨A', c', rfl⟩ := own_slice ho
 exact ⟨A', c', rfl, h.newrow hb ho (fun k hk => own_base ho k hk), ⟨hb.size, hb.block⟩⟩
end
theorem step_mem_app {P : Program} {ops : Array Oper} {o : Oper} {a : Act} {Q : Exit → Act → World → Prop} {K : Act → World → Prop} {w0 W : World} {F H : List Pc} (k : Nat) (hgd : o.guard = none) (s x : Operand) (t e : TypeId) (z : Value) (size bytes : Nat)
  (ho : o.op = .call { callee := .builtin .append, args := #[s, x], argTypes := #[t, t] })
  (ht : P.underlying t = some (.slice e)) (hinfo : (P.info? e).map (fun i => (i.zero, i.size, i.bytes)) = some (some z, size, bytes)) (hz : z.cells.size = size) (hs0 : 0 < size) (hb0 : 0 < bytes)
  (v : Value) (n : Nat) (xs ys : List Value) (hs : a.eval s = v) (hx : a.eval x = .slice (some ⟨W.heap.size, 0, none⟩) 1 1) (hys : ys.length = size) (h1 : ∀ u ∈ ys, u.oneCell' = true)
  (M : Mem w0 W F H) (hk : H[k]? = some (.row v e size n xs)) (hl : (n + 1) * bytes ≤ 140737488355328)
  (h : ∀ A c w1, Mem w0 w1 F (H.set k (.row (.slice A (n + 1) c) e size (n + 1) (xs ++ ys))) → K (a.put o.dst (.slice A (n + 1) c)) w1) :
  o.wp P a (W.alloc (.cells ys.toArray e)) K Q :=
 step_app (ops := ops) w0.heap.size hgd s x t e z size bytes ho ht hinfo hz hs0 hb0 v n xs ys hs hx hys h1 (M.row hk) M.size hl (fun A c w1 ho1 hg1 hat1 => h A c w1 (M.grow hk hg1 ho1 (hat1.imp id .inr)))
theorem step_mem_mat {P : Program} {ops : Array Oper} {o : Oper} {a : Act} {Q : Exit → Act → World → Prop} {K : Act → World → Prop} {w0 W : World} {F H : List Pc} (k j : Nat) (hgd : o.guard = none) (s x : Operand)
  (ho : o.op = .call { callee := .builtin .append, args := #[s, x], argTypes := #[25, 25] })
  (ht : P.underlying 25 = some (.slice 23)) (hinfo : (P.info? 23).map (fun i => (i.zero, i.size, i.bytes)) = some (some (.slice none 0 0), 1, 24))
  (v : Value) (vs : List Value) (xss : List (List Int)) (vr : Value) (xs : List Int) (hs : a.eval s = v) (hx : a.eval x = .slice (some ⟨W.heap.size, 0, none⟩) 1 1) (h1 : vr.oneCell' = true)
  (M : Mem w0 W F H) (hk : H[k]? = some (.mat v vs xss)) (hj : (H.eraseIdx k)[j]? = some (.row vr 3 1 xs.length (nums .i64 xs))) (hl : xss.length < 1000000000)
  (h : ∀ A c w1, Mem w0 w1 F (.mat (.slice A (xss.length + 1) c) (vs ++ [vr]) (xss ++ [xs]) :: (H.eraseIdx k).eraseIdx j) → K (a.put o.dst (.slice A (xss.length + 1) c)) w1) :
  o.wp P a (W.alloc (.cells #[vr] 23)) K Q := by
 have hlen := M.matLen hk
 refine step_app (ops := ops) (ys := [vr]) w0.heap.size hgd s x 25 23 (.slice none 0 0) 1 24 ho ht hinfo rfl (by decide) (by decide) v vs.length vs hs hx rfl (by simpa using h1) (M.mat hk).1 M.size (by omega) ?_
 intro A c w1 ho1 hg1 hat1
 rw [hlen] at ho1 hat1 ⊢
 exact h A c w1 (M.matJoin hk hj hg1 (by simpa [hlen] using ho1) hat1)
end Go.Proofs.Ytfiiihpdekppiaa
end
section
namespace Go.Proofs.Ytfiiihpdekppiaa
open Go.RowKit Go.Proofs Go.Proofs.YtfiiihpdekppiaaW.PrintWords
open Go.ChangeMaps (setBlock heap_setBlock_same heap_setBlock_other)
open PShapeReducible (S31 k31 k31_open k31_mkF)
abbrev Sh := S31
theorem same_lt {w w' : World} {b : Nat} (h : w'.heap[b]? = w.heap[b]?) (hb : b < w.heap.size) : b < w'.heap.size := by
 rw [Array.getElem?_eq_getElem hb] at h
 exact (Array.getElem?_eq_some_iff.1 h).1
def Pc.fk (ok : Nat → Prop) (x : Sh) (cs : List Value) : Pc where
 foot := ok
 says := fun w => Kd.FK k31 w ok x cs ∧ ∀ b, ok b → b < w.heap.size
 lt := fun h _ hk => h.2 _ hk
 loc := fun {w w'} h hb => ⟨Kd.FK_step h.1 (fun k hk _ => hb k hk), fun b hk => same_lt (hb b hk) (h.2 b hk)⟩
def Pc.kidrow (ok : Nat → Prop) (v : Value) (xs : List Sh) (css : List (List Value)) : Pc where
 foot := fun k => v.ownBlock = some k ∨ ok k
 says := fun w => w.ownsRow 0 31 4 v xs.length css.flatten ∧ css.length = xs.length ∧ (∀ (i : Nat) (x : Sh) (c : List Value), xs[i]? = some x → css[i]? = some c → Kd.FK k31 w ok x c) ∧ (∀ b, ok b → b < w.heap.size) ∧ ∀ b, v.ownBlock = some b → ¬ ok b
 lt := fun {w} h b hb => by
  rcases hb with hb | hb
  ·exact own_lt h.1 b hb
  ·exact h.2.2.2.1 b hb
 loc := fun {w w'} h hb => ⟨own_move h.1 (fun k hk => hb k (.inl hk)), h.2.1, fun i x c hx hc => Kd.FK_step (h.2.2.1 i x c hx hc) (fun k hk _ => hb k (.inr hk)), fun b hk => same_lt (hb b (.inr hk)) (h.2.2.2.1 b hk), h.2.2.2.2⟩
theorem flat_get {css : List (List Value)} (h4 : ∀ c ∈ css, c.length = 4) : ∀ (j i : Nat) (c : List Value) (u : Value), css[j]? = some c → c[i]? = some u → css.flatten[j * 4 + i]? = some u := by
 induction css with
 | nil => intro j i c u h; simp at h
 | cons a r ih =>
  intro j i c u hj hi
  have ha := h4 a (by simp)
  cases j with
  | zero =>
   simp only [List.getElem?_cons_zero, Option.some.injEq] at hj
   subst hj
   have hlt := (List.getElem?_eq_some_iff.1 hi).1
   rw [List.flatten_cons, List.getElem?_append_left (by omega)]
   simpa using hi
  | succ j =>
   simp only [List.getElem?_cons_succ] at hj
   rw [List.flatten_cons, List.getElem?_append_right (by omega), ha]
   have e : (j + 1) * 4 + i - 4 = j * 4 + i := by omega
   rw [e]
   exact ih (fun c hc => h4 c (by simp [hc])) j i c u hj hi
theorem addr0 (b i : Nat) : (⟨b, 0, none⟩ : Addr).add i = ⟨b, i, none⟩ := by unfold Addr.add; split <;> simp_all
theorem F_block {W : World} {b t : Nat} {fr : Nat × Nat} {cs : Array Value} {ok : Nat → Prop} {xs : List Sh} {css : List (List Value)} (hb : W.heap[b]? = some (.cells cs t fr)) (hcs : ∀ i, i < css.flatten.length → cs[i]? = css.flatten[i]?) (hl : css.length = xs.length) (hm : xs.length ≤ 9223372036854775807)
  (hf : ∀ (i : Nat) (x : Sh) (c : List Value), xs[i]? = some x → css[i]? = some c → Kd.FK k31 W ok x c) : Kd.F k31 W (fun k => k = b ∨ ok k) (some ⟨b, 0, none⟩) xs.length xs := by
 intro W' hW
 have hb' : W'.heap[b]? = some (.cells cs t fr) := (hW b (.inl rfl) (blk_lt' hb)).trans hb
 have h4 : ∀ c ∈ css, c.length = 4 := by
  intro c hc
  obtain ⟨i, hi⟩ := List.getElem?_of_mem hc
  have hlt := (List.getElem?_eq_some_iff.1 hi).1
  exact k31.K_len (Kd.FK_now (hf i xs[i] c (by simp) hi))
 refine ⟨rfl, hm, fun _ => ⟨⟨b, 0, none⟩, rfl, fun j p hj => ?_⟩⟩
 have hjl := (List.getElem?_eq_some_iff.1 hj).1
 obtain ⟨c, hc⟩ : ∃ c, css[j]? = some c := ⟨css[j], by simp [hl, hjl]⟩
 have hfk := hf j p c hj hc
 refine ⟨c, h4 c (List.mem_of_getElem? hc), hfk W' (fun k hk hlt => hW k (.inr hk) hlt), fun i u hu => ?_⟩
 have h5 := flat_get h4 j i c u hc hu
 rw [addr0]
 refine cell_blk hb' ?_
 have hlt := (List.getElem?_eq_some_iff.1 h5).1
 have hsz : k31.sz = 4 := rfl
 rw [hsz, hcs _ hlt]
 exact h5
section
variable {w0 w w' : World} {F H : List Pc}
theorem Mem.newfk (h : Mem w0 w F H) {ok : Nat → Prop} {x : Sh} {cs : List Value} (hw : Below w.heap.size w w') (hf : Kd.FK k31 w' ok x cs) (hok : ∀ b, ok b → w.heap.size ≤ b) : Mem w0 w' F (H ++ [.fk (fun k => ok k ∧ k < w'.heap.size) x cs]) :=
 h.new _ hw ⟨Kd.FK_bound hf, fun _ hb => hb.2⟩ (fun b hb => hok b hb.1)
theorem Mem.fk {k : Nat} {ok : Nat → Prop} {x : Sh} {cs : List Value} (h : Mem w0 w F H) (hk : H[k]? = some (.fk ok x cs)) : Kd.FK k31 w ok x cs := (h.says hk).1
theorem Mem.nokids (h : Mem w0 w F H) : Mem w0 w F (H ++ [.kidrow (fun _ => False) nilS [] []]) :=
 h.new _ (Below.refl _ _) ⟨own_nil _ _ _ _, rfl, fun i x c hx => by simp at hx, fun _ h => h.elim, fun _ _ h => h⟩ (fun b hb => by
  rcases hb with hb | hb
  ·simp [Value.ownBlock] at hb
  ·exact hb.elim)
theorem kidrow_F {w : World} {ok : Nat → Prop} {v : Value} {xs : List Sh} {css : List (List Value)} (h : (Pc.kidrow ok v xs css).says w) : ∃ A c, v = .slice A xs.length c ∧ xs.length ≤ c ∧ Kd.F k31 w (fun k => v.ownBlock = some k ∨ ok k) A xs.length xs := by
 obtain ⟨h1, h2, h3, h4, h5⟩ := h
 rcases h1.2 with ⟨rfl, h0⟩ | ⟨g, cap, cur, rfl, _, hg, hn, hcap, hsz, ht⟩
 ·have : xs = [] := List.eq_nil_of_length_eq_zero h0
  subst this
  exact ⟨none, 0, rfl, Nat.le_refl _, Kd.F_nil _ _ _⟩
 ·refine ⟨some ⟨g, 0, none⟩, cap, rfl, hn, ?_⟩
  have hlen := h1.1
  refine Kd.F_mono (F_block (css := css) hg (fun i hi => ?_) h2 (by simp only [maxLen] at hcap; omega) h3) (fun k hk => by
   rcases hk with rfl | hk
   ·exact .inl rfl
   ·exact .inr hk)
  rw [← ht, List.getElem?_take, if_pos (by rw [hlen] at hi; exact hi)]
  simp
theorem Mem.kidsFk {k : Nat} {ok : Nat → Prop} {v : Value} {xs : List Sh} {css : List (List Value)} (h : Mem w0 w F H) (hk : H[k]? = some (.kidrow ok v xs css)) (a b c : Int) : ∃ A n, v = .slice A xs.length n ∧ Mem w0 w F (H.set k (.fk (fun q => v.ownBlock = some q ∨ ok q) ⟨a, b, c, xs⟩ [.int .i64 a, .int .i64 b, .int .i64 c, .slice A xs.length n])) := by
 have hs := h.says hk
 obtain ⟨A, n, e, hl, hF⟩ := kidrow_F hs
 refine ⟨A, n, e, h.retell hk _ ⟨k31_mkF w _ ⟨a, b, c, xs⟩ hl hF, fun q hq => (Pc.kidrow ok v xs css).lt hs hq⟩ (fun _ hb => hb)⟩
theorem fk_leaf (w : World) (a b c : Int) : Kd.FK k31 w (fun _ => False) ⟨a, b, c, []⟩ [.int .i64 a, .int .i64 b, .int .i64 c, .slice none 0 0] :=
 k31_mkF w _ ⟨a, b, c, []⟩ (Nat.le_refl _) (Kd.F_nil _ _ _)
theorem Mem.leaf (h : Mem w0 w F H) (hw : Below w.heap.size w w') (a b c : Int) : Mem w0 w' F (H ++ [.fk (fun _ => False) ⟨a, b, c, []⟩ [.int .i64 a, .int .i64 b, .int .i64 c, .slice none 0 0]]) :=
 h.new _ hw ⟨fk_leaf w' a b c, fun _ h => h.elim⟩ (fun _ h => h.elim)
theorem Mem.wrap {k b : Nat} {ok : Nat → Prop} {x : Sh} {cs : List Value} (h : Mem w0 w F H) (hk : H[k]? = some (.fk ok x cs)) (hw : Below w.heap.size w w') (hb : w'.heap[b]? = some (.cells cs.toArray 31 (0, 0))) (hbn : w.heap.size ≤ b) (a c d : Int) :
  Mem w0 w' F (H.set k (.fk (fun q => q = b ∨ ok q) ⟨a, c, d, [x]⟩ [.int .i64 a, .int .i64 c, .int .i64 d, .slice (some ⟨b, 0, none⟩) 1 1])) := by
 have hs := h.says hk
 refine h.step hk _ (Chg.below hw) ⟨k31_mkF w' _ ⟨a, c, d, [x]⟩ (Nat.le_refl _) ?_, ?_⟩ ?_
 ·refine F_block (css := [cs]) hb (fun i _ => by simp) rfl (by simp) (fun i y c' hy hc' => ?_)
  cases i with
  | zero =>
   simp only [List.getElem?_cons_zero, Option.some.injEq] at hy hc'
   subst hy hc'
   exact Kd.FK_below hs.1 hw
  | succ i => simp at hy
 ·rintro q (rfl | hq)
  ·exact blk_lt' hb
  ·exact Nat.lt_of_lt_of_le (hs.2 q hq) hw.size
 ·rintro q (rfl | hq)
  ·exact .inr hbn
  ·exact .inl hq
theorem Mem.wrap2 {k j b : Nat} {ok1 ok2 : Nat → Prop} {x y : Sh} {cs1 cs2 : List Value} (h : Mem w0 w F H) (hk : H[k]? = some (.fk ok1 x cs1)) (hj : (H.eraseIdx k)[j]? = some (.fk ok2 y cs2)) (hw : Below w.heap.size w w') (hb : w'.heap[b]? = some (.cells (cs1 ++ cs2).toArray 31 (0, 0))) (hbn : w.heap.size ≤ b) (a c d : Int) :
  Mem w0 w' F (.fk (fun q => q = b ∨ ok1 q ∨ ok2 q) ⟨a, c, d, [x, y]⟩ [.int .i64 a, .int .i64 c, .int .i64 d, .slice (some ⟨b, 0, none⟩) 2 2] :: (H.eraseIdx k).eraseIdx j) := by
 have h1 := h.front hk
 have hp : (Pc.fk ok1 x cs1 :: .fk ok2 y cs2 :: ((H.eraseIdx k).eraseIdx j ++ F)).Perm (.fk ok1 x cs1 :: (H.eraseIdx k ++ F)) :=
  List.Perm.cons _ (List.Perm.append_right F (get_perm' hj)).symm
 have h2 := h1.perm hp
 have s1 : (Pc.fk ok1 x cs1).says w := h.says hk
 have s2 : (Pc.fk ok2 y cs2).says w := h2.says (.fk ok2 y cs2) (by simp)
 have hne : w.heap.size < w'.heap.size := Nat.lt_of_le_of_lt hbn (blk_lt' hb)
 let e : Pc := ⟨fun q => ok1 q ∨ ok2 q, fun W => (Pc.fk ok1 x cs1).says W ∧ (Pc.fk ok2 y cs2).says W, fun h q hq => by
   rcases hq with hq | hq
   ·exact (Pc.fk ok1 x cs1).lt h.1 hq
   ·exact (Pc.fk ok2 y cs2).lt h.2 hq, fun h hb => ⟨(Pc.fk ok1 x cs1).loc h.1 (fun q hq => hb q (.inl hq)), (Pc.fk ok2 y cs2).loc h.2 (fun q hq => hb q (.inr hq))⟩⟩
 have h3 : MemL w0 w (e :: ((H.eraseIdx k).eraseIdx j ++ F)) := h2.merge ⟨s1, s2⟩ (fun q hq => hq)
 refine h3.step (Chg.below hw) ⟨k31_mkF w' _ ⟨a, c, d, [x, y]⟩ (Nat.le_refl _) ?_, ?_⟩ ?_
 ·refine F_block (css := [cs1, cs2]) hb (fun i _ => by simp) rfl (by simp) (fun i z c' hz hc' => ?_)
  match i, hz, hc' with
  | 0, hz, hc' =>
   simp only [List.getElem?_cons_zero, Option.some.injEq] at hz hc'
   subst hz hc'
   exact Kd.FK_mono (Kd.FK_below s1.1 hw) (fun _ h => .inl h)
  | 1, hz, hc' =>
   simp only [List.getElem?_cons_succ, List.getElem?_cons_zero, Option.some.injEq] at hz hc'
   subst hz hc'
   exact Kd.FK_mono (Kd.FK_below s2.1 hw) (fun _ h => .inr h)
  | i + 2, hz, _ => simp at hz
 ·rintro q (rfl | hq | hq)
  ·exact blk_lt' hb
  ·exact Nat.lt_of_lt_of_le (s1.2 q hq) hw.size
  ·exact Nat.lt_of_lt_of_le (s2.2 q hq) hw.size
 ·rintro q (rfl | hq)
  ·exact .inr hbn
  ·exact .inl hq
end
theorem mem_append_kid {P : Program} {ops : Array Oper} {rest_ : List Oper} {o : Oper} {a : Act} {Q : Exit → Act → World → Prop} {w0 W : World} {F H : List Pc} (k j : Nat) (s x : Operand) (hgd : o.guard = none)
  (ho : o.op = .call { callee := .builtin .append, args := #[s, x], argTypes := #[29, 29] })
  (ht : P.underlying 29 = some (.slice 31)) (z : Value) (hz : z.cells.size = 4) (hinfo : (P.info? 31).map (fun i => (i.zero, i.size, i.bytes)) = some (some z, 4, 48))
  (v : Value) (xs : List Sh) (css : List (List Value)) (ok1 ok2 : Nat → Prop) (y : Sh) (cs : List Value) (hs : a.eval s = v) (hx : a.eval x = .slice (some ⟨W.heap.size, 0, none⟩) 1 1)
  (M : Mem w0 W F H) (hk : H[k]? = some (.kidrow ok1 v xs css)) (hj : (H.eraseIdx k)[j]? = some (.fk ok2 y cs)) (hl : xs.length < 1000000000)
  (h : ∀ A c w1, Mem w0 w1 F (.kidrow (fun q => ok1 q ∨ ok2 q) (.slice A (xs.length + 1) c) (xs ++ [y]) (css ++ [cs]) :: (H.eraseIdx k).eraseIdx j) → wpList P ops Q rest_ (a.put o.dst (.slice A (xs.length + 1) c)) w1) :
  wpList P ops Q (o :: rest_) a (W.alloc (.cells cs.toArray 31)) := by
 have h1 := M.front hk
 have hp : (Pc.kidrow ok1 v xs css :: .fk ok2 y cs :: ((H.eraseIdx k).eraseIdx j ++ F)).Perm (.kidrow ok1 v xs css :: (H.eraseIdx k ++ F)) :=
  List.Perm.cons _ (List.Perm.append_right F (get_perm' hj)).symm
 have h2 := h1.perm hp
 have s1 : (Pc.kidrow ok1 v xs css).says W := M.says hk
 have s2 : (Pc.fk ok2 y cs).says W := h2.says (.fk ok2 y cs) (by simp)
 have hdis := (List.pairwise_cons.1 h2.apart).1 (.fk ok2 y cs) (by simp)
 have hcl : cs.length = 4 := k31.K_len (Kd.FK_now s2.1)
 have hone := k31.K_one (Kd.FK_now s2.1)
 obtain ⟨t1, t2, t3, t4, t5⟩ := s1
 refine print_append_cells (w0 := w0) (ys := cs) 0 hgd s x 29 31 z 4 48 ho ht hinfo hz (by decide) (by decide) v xs.length css.flatten hs hx hcl hone t1 (M.hb.mono (Nat.zero_le _)) (Nat.zero_le _) (by omega) ?_
 intro v1 w1 ho1 _ hg1 hat1
 obtain ⟨A, c, rfl⟩ := own_slice ho1
 let e : Pc := ⟨fun q => (Pc.kidrow ok1 v xs css).foot q ∨ ok2 q, fun W => (Pc.kidrow ok1 v xs css).says W ∧ (Pc.fk ok2 y cs).says W, fun h q hq => by
   rcases hq with hq | hq
   ·exact (Pc.kidrow ok1 v xs css).lt h.1 hq
   ·exact (Pc.fk ok2 y cs).lt h.2 hq, fun h hb => ⟨(Pc.kidrow ok1 v xs css).loc h.1 (fun q hq => hb q (.inl hq)), (Pc.fk ok2 y cs).loc h.2 (fun q hq => hb q (.inr hq))⟩⟩
 have h3 : MemL w0 W (e :: ((H.eraseIdx k).eraseIdx j ++ F)) := h2.merge ⟨⟨t1, t2, t3, t4, t5⟩, s2⟩ (fun q hq => hq)
 have far : ∀ q, ok1 q ∨ ok2 q → some q ≠ v.ownBlock := by
  rintro q (hq | hq) he
  ·exact t5 q he.symm hq
  ·exact hdis q (.inl he.symm) hq
 have keep : ∀ q, ok1 q ∨ ok2 q → q < W.heap.size → w1.heap[q]? = W.heap[q]? := fun q hq hlt => hg1.block q hlt (far q hq)
 refine h A c w1 (h3.step (c' := .kidrow (fun q => ok1 q ∨ ok2 q) (.slice A (xs.length + 1) c) (xs ++ [y]) (css ++ [cs])) ((Chg.refl _ _).grown hg1 (fun q _ hq => .inl (.inl hq))) ⟨?_, ?_, ?_, ?_, ?_⟩ ?_)
 ·have := ho1
  simp only [List.length_append, List.length_singleton, List.flatten_append, List.flatten_cons, List.flatten_nil, List.append_nil]
  exact own_weaken this (Nat.zero_le _)
 ·simp [t2]
 ·intro i z' c' hz' hc'
  rcases Nat.lt_or_ge i xs.length with hi | hi
  ·rw [List.getElem?_append_left hi] at hz'
   rw [List.getElem?_append_left (by omega)] at hc'
   exact Kd.FK_mono (Kd.FK_step (t3 i z' c' hz' hc') (fun q hq hlt => keep q (.inl hq) hlt)) (fun _ h => .inl h)
  ·have hi2 : i < (xs ++ [y]).length := (List.getElem?_eq_some_iff.1 hz').1
   have : i = xs.length := by simp at hi2; omega
   subst this
   rw [List.getElem?_append_right (Nat.le_refl _), Nat.sub_self] at hz'
   rw [List.getElem?_append_right (by omega), t2, Nat.sub_self] at hc'
   simp only [List.getElem?_cons_zero, Option.some.injEq] at hz' hc'
   subst hz' hc'
   exact Kd.FK_mono (Kd.FK_step s2.1 (fun q hq hlt => keep q (.inr hq) hlt)) (fun _ h => .inr h)
 ·rintro b (hb | hb)
  ·exact Nat.lt_of_lt_of_le (t4 b hb) hg1.size
  ·exact Nat.lt_of_lt_of_le (s2.2 b hb) hg1.size
 ·intro b hb hok
  rcases hat1 with e1 | ⟨b1, e1, e2⟩
  ·rw [e1] at hb; exact far b hok hb.symm
  ·rw [e1] at hb
   injection hb with hb
   rcases hok with hok | hok
   ·have := t4 b hok; omega
   ·have := s2.2 b hok; omega
 ·rintro b (hb | hb)
  ·rcases hat1 with e1 | ⟨b1, e1, e2⟩
   ·left; left; left; rw [← e1]; exact hb
   ·right; rw [e1] at hb; injection hb with hb; omega
  ·rcases hb with hb | hb
   ·exact .inl (.inl (.inr hb))
   ·exact .inl (.inr hb)
end Go.Proofs.Ytfiiihpdekppiaa
end
section
namespace Go.Proofs.Ytfiiihpdekppiaa
open Go.RowKit Go.Proofs Go.Proofs.YtfiiihpdekppiaaW.PrintWords
open Go.ChangeMaps (setBlock heap_setBlock_same heap_setBlock_other)
def zipV (kids : List (Int × List Int)) (vs : List Value) : List (Int × Value) := List.zipWith (fun p v => (p.1, v)) kids vs
def Pc.km (bk : Nat) (vs : List Value) (kids : List (Int × List Int)) : Pc where
 foot := fun k => k = bk ∨ ∃ i, i < vs.length ∧ (vs.getD i nilS).ownBlock = some k
 says := fun w => w.heap[bk]? = some (mObj (zipV kids vs)) ∧ Rows3 w 0 vs (kids.map Prod.snd)
 lt := fun h k hk => by
  rcases hk with rfl | ⟨i, hi, hk⟩
  ·exact blk_lt' h.1
  ·exact own_lt (h.2.row i hi) k hk
 loc := fun h hb => ⟨by rw [hb _ (.inl rfl)]; exact h.1, h.2.move (fun i k hi hk => hb k (.inr ⟨i, hi, hk⟩))⟩
theorem kpos_at {β : Type} : ∀ (kids : List (Int × β)) (n : Int), (mpos kids n = none ∧ mget kids n = none) ∨ ∃ i x, mpos kids n = some i ∧ kids[i]? = some (n, x) ∧ mget kids n = some x
 | [], n => .inl ⟨rfl, rfl⟩
 | p :: r, n => by
  by_cases h : p.1 = n
  ·exact .inr ⟨0, p.2, by simp [mpos, h], by simp [← h], by simp [mget, h]⟩
  ·have h2 : (p.1 == n) = false := by simp [h]
   have hg : mget (p :: r) n = mget r n := by simp [mget, h2]
   have hp : mpos (p :: r) n = (mpos r n).map (· + 1) := by simp [mpos, h]
   rcases kpos_at r n with ⟨h3, h4⟩ | ⟨i, x, h3, h4, h5⟩
   ·exact .inl ⟨by rw [hp, h3]; rfl, by rw [hg]; exact h4⟩
   ·exact .inr ⟨i + 1, x, by rw [hp, h3]; rfl, by simpa using h4, by rw [hg]; exact h5⟩
theorem zipV_get : ∀ (kids : List (Int × List Int)) (vs : List Value) (n : Int), vs.length = kids.length → mget (zipV kids vs) n = (mpos kids n).bind fun i => vs[i]?
 | [], vs, n, h => by simp at h; subst h; rfl
 | p :: r, [], n, h => by simp at h
 | p :: r, v :: vs, n, h => by
  simp only [List.length_cons, Nat.add_right_cancel_iff] at h
  have ih := zipV_get r vs n h
  by_cases hp : p.1 = n
  ·simp [zipV, mget, mpos, hp]
  ·have h2 : (p.1 == n) = false := by simp [hp]
   have e1 : mget (zipV (p :: r) (v :: vs)) n = mget (zipV r vs) n := by simp [zipV, mget, h2]
   rw [e1, ih]
   simp only [mpos, hp, if_false]
   cases mpos r n <;> simp
theorem zipV_put_old : ∀ (kids : List (Int × List Int)) (vs : List Value) (n : Int) (i : Nat) (v : Value) (x : List Int), vs.length = kids.length → mpos kids n = some i → mput (zipV kids vs) n v = zipV (mput kids n x) (vs.set i v) ∧ (mput kids n x).map Prod.snd = (kids.map Prod.snd).set i x
 | [], _, _, _, _, _, _, h => by simp [mpos] at h
 | p :: r, [], _, _, _, _, h, _ => by simp at h
 | p :: r, u :: vs, n, i, v, x, h, hp => by
  simp only [List.length_cons, Nat.add_right_cancel_iff] at h
  by_cases hn : p.1 = n
  ·simp only [mpos, hn, if_true, Option.some.injEq] at hp
   subst hp
   simp [zipV, mput, hn]
  ·simp only [mpos, hn, if_false, Option.map_eq_some_iff] at hp
   obtain ⟨j, hj, rfl⟩ := hp
   obtain ⟨e1, e2⟩ := zipV_put_old r vs n j v x h hj
   have e1' : mput (List.zipWith (fun (p : Int × List Int) v => (p.1, v)) r vs) n v = List.zipWith (fun (p : Int × List Int) v => (p.1, v)) (mput r n x) (vs.set j v) := e1
   simp [zipV, mput, hn, e1', e2]
theorem zipV_put_new : ∀ (kids : List (Int × List Int)) (vs : List Value) (n : Int) (v : Value) (x : List Int), vs.length = kids.length → mpos kids n = none → mput (zipV kids vs) n v = zipV (mput kids n x) (vs ++ [v]) ∧ (mput kids n x).map Prod.snd = kids.map Prod.snd ++ [x]
 | [], vs, n, v, x, h, _ => by simp at h; subst h; simp [zipV, mput]
 | p :: r, [], _, _, _, h, _ => by simp at h
 | p :: r, u :: vs, n, v, x, h, hp => by
  simp only [List.length_cons, Nat.add_right_cancel_iff] at h
  by_cases hn : p.1 = n
  ·simp [mpos, hn] at hp
  ·simp only [mpos, hn, if_false, Option.map_eq_none_iff] at hp
   obtain ⟨e1, e2⟩ := zipV_put_new r vs n v x h hp
   have e1' : mput (List.zipWith (fun (p : Int × List Int) v => (p.1, v)) r vs) n v = List.zipWith (fun (p : Int × List Int) v => (p.1, v)) (mput r n x) (vs ++ [v]) := e1
   simp [zipV, mput, hn, e1', e2]
theorem zero23 (w : World) : (zeroValue 23).run Try.prog w = .ok nilS w := by kernel_rfl
def kmV (kids : List (Int × List Int)) (vs : List Value) (n : Int) : Value := (mget (zipV kids vs) n).getD nilS
section
variable {w0 w w' : World} {F H : List Pc}
theorem Mem.km {k bk : Nat} {vs : List Value} {kids : List (Int × List Int)} (h : Mem w0 w F H) (hk : H[k]? = some (.km bk vs kids)) : w.heap[bk]? = some (mObj (zipV kids vs)) ∧ Rows3 w 0 vs (kids.map Prod.snd) := h.says hk
theorem Mem.kmLook {k bk : Nat} {vs : List Value} {kids : List (Int × List Int)} (h : Mem w0 w F H) (hk : H[k]? = some (.km bk vs kids)) (n : Int) : (Instr.lookup 113 (.map (some bk)) (.int .i64 n) false).run Try.prog w = .ok (kmV kids vs n) w := by
 rw [run_look Try.underlying113 Try.underlying3 (h.km hk).1 zero23]
 rfl
theorem kmRow {W : World} {vs : List Value} {kids : List (Int × List Int)} (h : Rows3 W 0 vs (kids.map Prod.snd)) (n : Int) : W.ownsRow 0 3 1 (kmV kids vs n) (kidsOf kids n).length (nums .i64 (kidsOf kids n)) := by
 have hlen : vs.length = kids.length := by simpa using h.len
 unfold kmV kidsOf
 rw [zipV_get kids vs n hlen]
 rcases kpos_at kids n with ⟨h1, h2⟩ | ⟨i, x, h1, h2, h3⟩
 ·rw [h1, h2]
  exact own_nil _ _ _ _
 ·have hi : i < vs.length := by rw [hlen]; exact (List.getElem?_eq_some_iff.1 h2).1
  have := h.row i hi
  rw [h1, h3]
  simp only [Option.bind_some, List.getElem?_eq_getElem hi, Option.getD_some]
  have e1 : vs.getD i nilS = vs[i] := by simp [List.getD_eq_getElem?_getD, hi]
  have e2 : (kids.map Prod.snd).getD i [] = x := by simp [List.getD_eq_getElem?_getD, h2]
  rw [e1, e2] at this
  exact this
theorem kmC {W : World} {vs : List Value} {kids : List (Int × List Int)} {A : Option Addr} {m c : Nat} {n : Int} (h : Rows3 W 0 vs (kids.map Prod.snd)) (hv : kmV kids vs n = .slice A m c) : kI.C W A (kidsOf kids n).length (kidsOf kids n) ∧ (kidsOf kids n).length ≤ c ∧ m = (kidsOf kids n).length := by
 obtain ⟨A', c', e, hc, hC⟩ := own_C (kmRow h n)
 rw [hv] at e
 injection e with e1 e2 e3
 subst e1 e2 e3
 exact ⟨hC, hc, rfl⟩
theorem kmV_mem (kids : List (Int × List Int)) (vs : List Value) (n : Int) (hlen : vs.length = kids.length) : kmV kids vs n = nilS ∨ kmV kids vs n ∈ vs := by
 unfold kmV
 rw [zipV_get kids vs n hlen]
 rcases kpos_at kids n with ⟨h1, _⟩ | ⟨i, x, h1, h2, _⟩
 ·rw [h1]; exact .inl rfl
 ·have hi : i < vs.length := by rw [hlen]; exact (List.getElem?_eq_some_iff.1 h2).1
  rw [h1]
  simp only [Option.bind_some, List.getElem?_eq_getElem hi, Option.getD_some]
  exact .inr (List.getElem_mem hi)
theorem Mem.newkm (h : Mem w0 w F H) : ∃ b w2, w.heap.size = b ∧ w.alloc (.map #[] 0) = w2 ∧ Mem w0 w2 F (H ++ [.km b [] []]) :=
 ⟨_, _, rfl, rfl, h.new (.km w.heap.size [] []) ((Below.refl _ _).alloc (Nat.le_refl _) _) ⟨heap_alloc_new _ _, Rows3.nil _ _⟩ (fun b hb => by
  rcases hb with rfl | ⟨i, hi, _⟩
  ·exact Nat.le_refl _
  ·simp at hi)⟩
theorem Mem.kmAdd {k bk : Nat} {vs : List Value} {kids : List (Int × List Int)} (h : Mem w0 w F H) (hk : H[k]? = some (.km bk vs kids)) (n x : Int) {b' : Nat} {v' : Value} (hg : w.grownBy w' (kmV kids vs n).ownBlock) (ho : w'.ownsRow b' 3 1 v' (kidsOf kids n ++ [x]).length (nums .i64 (kidsOf kids n ++ [x])))
  (hat : v'.ownBlock = (kmV kids vs n).ownBlock ∨ ∃ b, v'.ownBlock = some b ∧ w.heap.size ≤ b) :
  w'.heap[bk]? = some (mObj (zipV kids vs)) ∧ ∃ w2 vs', (Instr.mapUpdate 113 (.map (some bk)) (.int .i64 n) v').run Try.prog w' = .ok () w2 ∧ w2 = setBlock w' bk (mObj (mput (zipV kids vs) n v')) ∧ (∀ u ∈ vs', u ∈ vs ∨ u = v') ∧ Mem w0 w2 F (H.set k (.km bk vs' (mput kids n (kidsOf kids n ++ [x])))) := by
 obtain ⟨h1, h2⟩ := h.km hk
 have hlen : vs.length = kids.length := by simpa using h2.len
 have hvo := kmRow h2 n
 have hbk : w'.heap[bk]? = some (mObj (zipV kids vs)) := grown_map hg hvo h1
 refine ⟨hbk, ?_⟩
 have hlt' := blk_lt' hbk
 have hput : ∀ o : Obj, (setBlock w' bk o).heap[bk]? = some o := fun o => by simp [setBlock, hlt']
 have hoth : ∀ (o : Obj) (q : Nat), q ≠ bk → (setBlock w' bk o).heap[q]? = w'.heap[q]? := fun o q hq => by simp [setBlock, Ne.symm hq]
 have hcell : ∀ {w'' : World} {q : Nat} {cs : Array Value}, w''.heap[q]? = some (.cells cs 3 (0, 0)) → w''.heap[bk]? = some (mObj (zipV kids vs)) → q ≠ bk := fun h3 h4 e => by subst e; rw [h3] at h4; cases h4
 have chg : ∀ o : Obj, Chg (Pc.km bk vs kids).foot w (setBlock w' bk o) := fun o =>
  ⟨hg.os, hg.tape, hg.output, by simpa [setBlock] using hg.size, fun q hq hn => by
   rw [hoth o q (fun e => hn (.inl e))]
   refine hg.block q hq (fun e => hn (.inr ?_))
   rcases kpos_at kids n with ⟨h3, h4⟩ | ⟨i, y, h3, h4, h5⟩
   ·exfalso
    unfold kmV at e
    rw [zipV_get kids vs n hlen, h3] at e
    simp [Value.ownBlock] at e
   ·have hi : i < vs.length := by rw [hlen]; exact (List.getElem?_eq_some_iff.1 h4).1
    refine ⟨i, hi, ?_⟩
    unfold kmV at e
    rw [zipV_get kids vs n hlen, h3] at e
    simp only [Option.bind_some, List.getElem?_eq_getElem hi, Option.getD_some] at e
    simpa [List.getD_eq_getElem?_getD, hi] using e.symm⟩
 refine ⟨_, (match mpos kids n with | some i => vs.set i v' | none => vs ++ [v']), run_put Try.underlying113 Try.underlying3 hbk n v', rfl, ?_, ?_⟩
 ·intro u hu
  cases hp : mpos kids n with
  | none => rw [hp] at hu; simpa using hu
  | some i => rw [hp] at hu; exact (List.mem_or_eq_of_mem_set hu)
 rcases kpos_at kids n with ⟨h3, h4⟩ | ⟨i, y, h3, h4, h5⟩
 ·rw [h3]
  obtain ⟨e1, e2⟩ := zipV_put_new kids vs n v' (kidsOf kids n ++ [x]) hlen h3
  have hv0 : kmV kids vs n = nilS := by unfold kmV; rw [zipV_get kids vs n hlen, h3]; rfl
  have hnew : ∀ q, v'.ownBlock = some q → w.heap.size ≤ q := fun q hq => by
   rcases hat with e | ⟨b, e, hb⟩
   ·rw [e, hv0] at hq; simp [Value.ownBlock] at hq
   ·rw [e] at hq; injection hq with hq; omega
  refine h.step hk _ (chg _) ⟨by rw [hput, e1], ?_⟩ ?_
  ·rw [e2]
   have r1 : Rows3 w' 0 vs (kids.map Prod.snd) := h2.move (fun i q hi hq => hg.block q (own_lt (h2.row i hi) q hq) (by rw [hv0]; simp [Value.ownBlock]))
   have r2 : Rows3 w' 0 (vs ++ [v']) (kids.map Prod.snd ++ [kidsOf kids n ++ [x]]) := r1.push (own_weaken ho (Nat.zero_le _)) (fun j hj => by
    cases hv : (vs.getD j nilS).ownBlock with
    | none => exact .inl rfl
    | some q => exact .inr (fun e => by have := own_lt (h2.row j hj) q hv; have := hnew q e.symm; omega))
   exact r2.typed (fun q cs hq => hoth _ q (hcell hq hbk))
  ·rintro q (rfl | ⟨j, hj, hq⟩)
   ·exact .inl (.inl rfl)
   ·simp only [List.length_append, List.length_singleton] at hj
    rcases Nat.lt_or_ge j vs.length with h6 | h6
    ·simp only [getD_snoc_old h6] at hq
     exact .inl (.inr ⟨j, h6, hq⟩)
    ·have : j = vs.length := by omega
     subst this
     simp only [getD_snoc_new] at hq
     exact .inr (hnew q hq)
 ·rw [h3]
  obtain ⟨e1, e2⟩ := zipV_put_old kids vs n i v' (kidsOf kids n ++ [x]) hlen h3
  have hi : i < vs.length := by rw [hlen]; exact (List.getElem?_eq_some_iff.1 h4).1
  have hv0 : kmV kids vs n = vs.getD i nilS := by
   unfold kmV
   rw [zipV_get kids vs n hlen, h3]
   simp [List.getD_eq_getElem?_getD, hi]
  rw [hv0] at hg hat
  refine h.step hk _ (chg _) ⟨by rw [hput, e1], ?_⟩ ?_
  ·rw [e2]
   have r2 := h2.turned hi (own_weaken ho (Nat.zero_le _)) hg hat
   exact r2.typed (fun q cs hq => hoth _ q (hcell hq hbk))
  ·rintro q (rfl | ⟨j, hj, hq⟩)
   ·exact .inl (.inl rfl)
   ·rw [List.length_set] at hj
    by_cases hji : i = j
    ·subst hji
     rw [getD_set_self hi] at hq
     rcases hat with e | ⟨b, e, hb⟩
     ·rw [e] at hq; exact .inl (.inr ⟨i, hi, hq⟩)
     ·rw [e] at hq; injection hq with hq; right; omega
    ·rw [getD_set_other hji] at hq
     exact .inl (.inr ⟨j, hj, hq⟩)
end
end Go.Proofs.Ytfiiihpdekppiaa
end
section
namespace Go.Proofs.Ytfiiihpdekppiaa
open Go Go.Proofs.YtfiiihpdekppiaaW.PrintWords
theorem rows_in {r n : Nat} {P : Program} {row : String} {args : Array Value} {w : World} {R : Value → World → Prop} (h : Rows P row args w R) : RowsIn (Fence.wide.inRound r) n P row args w R := fun c cs _ => by
 obtain ⟨v, w', h1, h2⟩ := h c cs
 exact ⟨v, w', h1, stepsIn_wide.2 h2⟩
theorem wpOp_in {r n : Nat} {P : Program} {ops : Array Oper} {Q : Exit → Act → World → Prop} (hQ : ¬ LetsOut Q) {i : Nat} (hnd : ∀ o, ops[i]? = some o → ∀ c, o.op ≠ .defer c) {K : Act → World → Prop} {a : Act} {w : World} (h : wpOp P ops Q i K a w) : wpOpIn (Fence.wide.inRound r) n P ops Q i K a w := by
 unfold wpOp at h
 unfold wpOpIn
 cases ho : ops[i]? with
 | none => rw [ho] at h; exact h
 | some o =>
  simp only [ho] at h ⊢
  split
  ·rename_i hw
   rw [if_pos hw] at h
   have h := h.resolve_right (fun h => hQ h.2)
   refine ⟨fun _ _ => trivial, ?_⟩
   rw [show (Fence.wide.inRound r).round = some r from rfl, Oper.semAt_some _ _ _ (hnd o ho)]
   unfold Oper.wp at h
   generalize (execOp a.eval o).run P w = x at *
   cases x with
   | ok nx w' =>
    cases nx with
    | value v => exact h
    | skip => exact h
    | defer d => exact h
    | enter f args =>
     refine ⟨fun hd => by simp [Fence.wide] at hd, CallsIn.inRound r (callsIn_wide.2 (Calls.mono h fun e w'' he => ?_))⟩
     cases e with
     | returned v => exact he
     | panicked c => exact he
     | outgrown => exact he
    | row row args => exact ⟨fun hd => by simp [Fence.wide] at hd, rows_in h⟩
    | _ => simp only [Oper.upon] at h
   | halt x w' => cases x <;> exact h
  ·rename_i hw
   rw [if_neg hw] at h
   exact ⟨fun _ _ => trivial, h⟩
theorem wpAny_in {r n : Nat} {P : Program} {md : Region.Mode} {ops : Array Oper} {Q : Exit → Act → World → Prop} (hQ : ¬ LetsOut Q) (hnd : ∀ (i : Nat) (o : Oper), ops[i]? = some o → ∀ c, o.op ≠ .defer c) : ∀ (fuel : Nat) (listed : Array Bool) (a : Act) (w : World), wpAny P md ops Q fuel listed a w → wpAnyIn (Fence.wide.inRound r) n P md ops Q fuel listed a w
 | 0, _, _, _, h => h
 | fuel + 1, listed, a, w, h => ⟨h.1, fun i hi => wpOpIn_mono (fun a' w' h' => wpAny_in hQ hnd fuel _ a' w' h') (wpOp_in hQ (hnd i) (h.2 i hi))⟩
def noDefer (ops : Array Oper) : Bool := ops.toList.all fun o => match o.op with | .defer _ => false | _ => true
theorem noDefer_spec {ops : Array Oper} (h : noDefer ops = true) : ∀ (i : Nat) (o : Oper), ops[i]? = some o → ∀ c, o.op ≠ .defer c := by
 intro i o ho c he
 have := List.all_eq_true.1 h o (by rw [Array.mem_toList_iff]; exact Array.mem_of_getElem? ho)
 rw [he] at this
 simp at this
theorem wpIn_region_txt {r n : Nat} {P : Program} {id : Nat} {l : List Oper} {Q : Exit → Act → World → Prop} {a : Act} {w : World} (S : World → Prop) (fl : List Nat) (hm : P.follows .mixedOrders = true) (hok : txtOk l.toArray fl = true) (hnd : noDefer l.toArray = true)
  (h : wpT P l.toArray S fl (Q .normal) 0 l a w.drew) : (Code.region id l.toArray true).wpIn (Fence.wide.inRound r) n P Q a w := by
 have hunl : unl l.toArray.size (Array.replicate l.toArray.size false) = List.range' 0 l.length := by
  rw [← List.range_eq_range']
  unfold unl
  simp only [List.size_toArray]
  refine List.filter_eq_self.2 fun i hi => ?_
  rw [List.mem_range] at hi
  simp [Array.getD_eq_getD_getElem?, hi]
 have h1 := wpAny_of_wpI (P := P) (ops := l.toArray) (S := S) (fl := fl) (Q := Q .normal) hok l.toArray.size (Array.replicate l.toArray.size false) a w.drew (by simp) (fun j oj hj hlj => by
   have hlt : j < l.toArray.size := (Array.getElem?_eq_some_iff.1 hj).1
   have hlt' : j < l.length := by simpa using hlt
   simp [Array.getD_eq_getD_getElem?, hlt'] at hlj) (by rw [hunl]; simp) (by rw [hunl]; exact wpI_of_wpT l 0 a _ (by simp) h)
 have h2 := wpIn_region_any (F := Fence.wide.inRound r) (n := n) (id := id) (ops := l.toArray) hm (wpAny_in (r := r) (n := n) (fun ⟨_, _, h⟩ => h) (noDefer_spec hnd) _ _ _ _ h1)
 exact Code.wpIn_mono (fun e a w h => by cases e <;> first | exact h | exact h.elim) h2
section
variable {w0 w w' : World} {F H : List Pc}
def Solid (B : Nat) (c : Pc) : Prop := ∀ W, c.says W → ∀ b, c.foot b → b < B ∨ ∃ cs t fr, W.heap[b]? = some (Obj.cells cs t fr)
theorem Solid.blk {B b : Nat} {o : Obj} (h : b < B) : Solid B (.blk b o) := fun _ _ k hk => by simp only [Pc.blk] at hk; exact .inl (by omega)
theorem Solid.cells {B b : Nat} {cs : Array Value} {t : Nat} {fr : Nat × Nat} : Solid B (.blk b (.cells cs t fr)) := fun _ hW k hk => by simp only [Pc.blk] at hk; subst hk; exact .inr ⟨_, _, _, hW⟩
theorem Solid.row {B : Nat} {v : Value} {e size n : Nat} {xs : List Value} : Solid B (.row v e size n xs) := fun _ hW k hk => by obtain ⟨cs, hc⟩ := own_typed hW k hk; exact .inr ⟨_, _, _, hc⟩
theorem Solid.km {B bk : Nat} {vs : List Value} {kids : List (Int × List Int)} (h : bk < B) : Solid B (.km bk vs kids) := fun _ hW k hk => by
 rcases hk with rfl | ⟨i, hi, hk⟩
 ·exact .inl h
 ·obtain ⟨cs, hc⟩ := own_typed (hW.2.row i hi) k hk
  exact .inr ⟨_, _, _, hc⟩
theorem Mem.otherRow {B : Nat} {row : Option Nat} (M : Mem w0 w F H) (hs : ∀ c ∈ H ++ F, Solid B c) (hB : w0.heap.size ≤ B) (hg : w.grownBy w' row) (hr : ∀ k, row = some k → B ≤ k ∧ ∃ o : Obj, w.heap[k]? = some o ∧ o.isCells = false) : Mem w0 w' F H := by
 refine ⟨M.hb.trans ⟨hg.os, hg.tape, hg.output, hg.size, fun k hk => hg.block k (by have := M.size; omega) (fun e => by have := (hr k e.symm).1; omega)⟩, ?_, MemL.base M, MemL.apart M⟩
 intro c hc
 have hcs := MemL.says M c hc
 refine c.loc hcs (fun b hb => hg.block b (c.lt hcs hb) (fun e => ?_))
 obtain ⟨h1, o, h2, h3⟩ := hr b e.symm
 rcases hs c hc w hcs b hb with h4 | ⟨cs, t, fr, h4⟩
 ·omega
 ·rw [h4] at h2
  cases h2
  simp [Obj.isCells] at h3
theorem Mem.mark {B D : Nat} {o : Obj} (M : Mem w0 w F H) (hs : ∀ c ∈ H ++ F, Solid B c) (hB : w0.heap.size ≤ B) (hD : B ≤ D) (ho : w.heap[D]? = some o) (hc : o.isCells = false) : Mem w0 w F (H ++ [.blk D o]) := by
 have h : MemL w0 w (.blk D o :: (H ++ F)) := by
  refine ⟨M.hb, ?_, ?_, List.pairwise_cons.2 ⟨fun c hc' b hb hcb => ?_, MemL.apart M⟩⟩
  ·intro c hc'
   rcases List.mem_cons.1 hc' with rfl | hc'
   ·exact ho
   ·exact MemL.says M c hc'
  ·intro c hc' b hb
   rcases List.mem_cons.1 hc' with rfl | hc'
   ·simp only [Pc.blk] at hb; omega
   ·exact MemL.base M c hc' b hb
  ·simp only [Pc.blk] at hb
   subst hb
   rcases hs c hc' w (MemL.says M c hc') b hcb with h4 | ⟨cs, t, fr, h4⟩
   ·omega
   ·rw [ho] at h4
    cases h4
    simp [Obj.isCells] at hc
 refine MemL.perm h ?_
 rw [List.append_assoc]
 exact List.perm_middle
theorem Mem.putO {k b : Nat} {o : Obj} (h : Mem w0 w F H) (hk : H[k]? = some (.blk b o)) (o' : Obj) : Mem w0 (w.putObj b o') F (H.set k (.blk b o')) := by
 have hlt := blk_lt' (h.blk hk)
 refine h.step hk _ ⟨rfl, rfl, rfl, by simp, fun i _ hn => World.putObj_heap_other (fun e => hn (by simp only [Pc.blk]; omega))⟩ ?_ (fun _ hb => .inl hb)
 simp only [Pc.blk]
 simp [World.putObj, hlt]
end
end Go.Proofs.Ytfiiihpdekppiaa
end
section
namespace Go.Proofs.Ytfiiihpdekppiaa
open Go.RowKit Go.Proofs Go.Proofs.YtfiiihpdekppiaaW.PrintWords
open PShapeReducible (S31)
structure Stp where
 kind : Int
 node : Int
 tos : List Int
structure Frm where
 label : Int
 start : Int
 loop : Bool
 brk : List Int
structure Cs where
 steps : List Stp
 frames : List Frm
 used : List Int
 bad : Bool
def enclF (t : Frm → Bool) (fs : List Frm) : Nat → Int
 | 0 => -1
 | k + 1 => if (fs[k]?.map t).getD false then (k : Int) else enclF t fs k
def Cs.emit (c : Cs) (p : Stp) : Cs := { c with steps := c.steps ++ [p] }
def setTos (ss : List Stp) (n : Nat) (xs : List Int) : List Stp := ss.modify n fun p => { p with tos := xs }
def Cs.setTo (c : Cs) (n : Nat) (xs : List Int) : Cs := { c with steps := setTos c.steps n xs }
def Cs.fail (c : Cs) : Cs := { c with bad := true }
def Cs.land (c : Cs) : List Int → Cs
 | [] => c
 | e :: es => (c.setTo e.toNat [(c.steps.length : Int)]).land es
def Cs.open (c : Cs) (label : Int) (loop : Bool) : Cs := { c with used := c.used ++ [label], frames := c.frames ++ [⟨label, c.steps.length, loop, []⟩] }
def Cs.breaks (c : Cs) : List Int := ((c.frames[c.frames.length - 1]?).map Frm.brk).getD []
def Cs.close (c : Cs) (loop : Bool) (start : Int) : Cs :=
 let d : Cs := { c with frames := c.frames.take (c.frames.length - 1) }
 (if loop then d.emit ⟨1, 0, [start]⟩ else d).land c.breaks
def addBrk (fs : List Frm) (n : Nat) (j : Int) : List Frm := fs.modify n fun f => { f with brk := f.brk ++ [j] }
def Cs.leave (c : Cs) (kind node label : Int) (kids : List S31) : Cs :=
 let n := enclF (fun f => decide (f.label = label) && (!decide (kind = 6) || f.loop)) c.frames c.frames.length
 if n < 0 ∨ kids.length ≠ 0 ∨ node ≠ 0 then c.fail
 else
  let j : Int := c.steps.length
  let d := c.emit ⟨1, 0, []⟩
  if kind = 5 then { d with frames := addBrk d.frames n.toNat j } else d.setTo j.toNat [((d.frames[n.toNat]?).map Frm.start).getD 0]
mutual
def shapeF (g : List (List Int)) : S31 → Cs → Cs
  | ⟨kind, node, label, kids⟩, c =>
    if c.bad = true then c
    else if kind = 1 then (if node ≠ 0 ∨ label ≠ 0 then c.fail else seqF g kids c)
    else if kind = 2 then
      (if node < 0 ∨ (g.length : Int) ≤ node ∨ kids.length ≠ (g.getD node.toNat []).length ∨ label ≠ 0 then c.fail
       else
        let r := kidsF g kids (c.emit ⟨0, node, []⟩) [] []
        (r.1.setTo c.steps.length r.2.1).land r.2.2)
    else if kind = 3 ∨ kind = 4 then
      (if kids.length ≠ 1 ∨ node ≠ 0 ∨ label < 0 ∨ c.used.contains label = true then c.fail
       else (seqF g kids (c.open label (decide (kind = 3)))).close (decide (kind = 3)) c.steps.length)
    else if kind = 5 ∨ kind = 6 then c.leave kind node label kids
    else c.fail
def seqF (g : List (List Int)) : List S31 → Cs → Cs
  | [], c => c
  | k :: ks, c => seqF g ks (shapeF g k c)
def kidsF (g : List (List Int)) : List S31 → Cs → List Int → List Int → Cs × List Int × List Int
  | [], c, a, b => (c, a, b)
  | k :: ks, c, a, b =>
    let d := shapeF g k c
    kidsF g ks (d.emit ⟨1, 0, []⟩) (a ++ [(c.steps.length : Int)]) (b ++ [(d.steps.length : Int)])
end
def clampT (ss : List Stp) : List Stp := ss.map fun p => { p with tos := p.tos.map fun x => min x ((ss.length : Int) - 1) }
def compileF (g : List (List Int)) (s : S31) : List Stp :=
 let c := shapeF g s ⟨[], [], [], false⟩
 if c.bad = true then [] else clampT (c.emit ⟨2, 0, []⟩).steps
end Go.Proofs.Ytfiiihpdekppiaa
end
section
namespace Go.Proofs.Ytfiiihpdekppiaa
open Go.RowKit Go.Proofs Go.Proofs.YtfiiihpdekppiaaW.PrintWords
open Go.ChangeMaps (setBlock heap_setBlock_same heap_setBlock_other)
def recs : List (List Value) → List Value → List Value
 | h :: hs, v :: vs => h ++ v :: recs hs vs
 | _, _ => []
theorem recs_len {m : Nat} : ∀ {hs : List (List Value)} {vs : List Value}, hs.length = vs.length → (∀ h ∈ hs, h.length = m) → (recs hs vs).length = hs.length * (m + 1)
 | [], [], _, _ => by simp [recs]
 | h :: hs, v :: vs, hl, hm => by
  have ih := recs_len (hs := hs) (vs := vs) (by simpa using hl) (fun x hx => hm x (by simp [hx]))
  have := hm h (by simp)
  simp only [recs, List.length_append, List.length_cons, ih, this, Nat.add_mul]
  omega
theorem recs_get {m : Nat} : ∀ {hs : List (List Value)} {vs : List Value}, hs.length = vs.length → (∀ h ∈ hs, h.length = m) → ∀ {i j : Nat}, i < hs.length → j ≤ m → (recs hs vs)[i * (m + 1) + j]? = (hs.getD i [] ++ [vs.getD i nilS])[j]?
 | [], _, _, _, i, j, hi, _ => by simp at hi
 | h :: hs, [], hl, _, _, _, _, _ => by simp at hl
 | h :: hs, v :: vs, hl, hm, i, j, hi, hj => by
  have h0 := hm h (by simp)
  cases i with
  | zero =>
   simp only [recs, Nat.zero_mul, Nat.zero_add, List.getD_cons_zero]
   rcases Nat.lt_or_ge j m with h1 | h1
   ·rw [List.getElem?_append_left (by omega), List.getElem?_append_left (by omega)]
   ·have : j = m := by omega
    subst this
    rw [List.getElem?_append_right (by omega), List.getElem?_append_right (by omega), h0]
    simp
  | succ i =>
   have ih := recs_get (hs := hs) (vs := vs) (by simpa using hl) (fun x hx => hm x (by simp [hx])) (i := i) (j := j) (by simpa using hi) hj
   simp only [recs, List.getD_cons_succ]
   rw [← ih, List.getElem?_append_right (by rw [h0, Nat.add_mul]; omega), h0, show (i + 1) * (m + 1) + j - m = (i * (m + 1) + j) + 1 by rw [Nat.add_mul]; omega, List.getElem?_cons_succ]
theorem recs_snoc : ∀ {hs : List (List Value)} {vs : List Value} (h : List Value) (v : Value), hs.length = vs.length → recs (hs ++ [h]) (vs ++ [v]) = recs hs vs ++ (h ++ [v])
 | [], [], h, v, _ => by simp [recs]
 | a :: hs, b :: vs, h, v, hl => by
  have ih := recs_snoc (hs := hs) (vs := vs) h v (by simpa using hl)
  simp only [List.cons_append, recs, ih, List.append_assoc]
 | [], _ :: _, _, _, hl => by simp at hl
 | _ :: _, [], _, _, hl => by simp at hl
theorem recs_set {m : Nat} : ∀ {hs : List (List Value)} {vs : List Value}, hs.length = vs.length → (∀ h ∈ hs, h.length = m) → ∀ {i : Nat}, i < hs.length → ∀ u : Value, (recs hs vs).set (i * (m + 1) + m) u = recs hs (vs.set i u)
 | [], _, _, _, i, hi, _ => by simp at hi
 | h :: hs, [], hl, _, _, _, _ => by simp at hl
 | h :: hs, v :: vs, hl, hm, i, hi, u => by
  have h0 := hm h (by simp)
  cases i with
  | zero =>
   simp only [recs, Nat.zero_mul, Nat.zero_add, List.set_cons_zero]
   rw [List.set_append_right _ _ (by omega), h0]
   simp
  | succ i =>
   have ih := recs_set (hs := hs) (vs := vs) (by simpa using hl) (fun x hx => hm x (by simp [hx])) (i := i) (by simpa using hi) u
   simp only [recs, List.set_cons_succ]
   rw [← ih, List.set_append_right _ _ (by rw [h0, Nat.add_mul]; omega), h0, show (i + 1) * (m + 1) + m - m = (i * (m + 1) + m) + 1 by rw [Nat.add_mul]; omega, List.set_cons_succ]
theorem recs_take {m : Nat} : ∀ {hs : List (List Value)} {vs : List Value}, hs.length = vs.length → (∀ h ∈ hs, h.length = m) → ∀ (k : Nat), (recs hs vs).take (k * (m + 1)) = recs (hs.take k) (vs.take k)
 | [], [], _, _, k => by simp [recs]
 | [], _ :: _, hl, _, _ => by simp at hl
 | h :: hs, [], hl, _, _ => by simp at hl
 | h :: hs, v :: vs, hl, hm, k => by
  have h0 := hm h (by simp)
  cases k with
  | zero => simp [recs]
  | succ k =>
   have ih := recs_take (hs := hs) (vs := vs) (by simpa using hl) (fun x hx => hm x (by simp [hx])) k
   simp only [recs, List.take_succ_cons, ← ih]
   rw [List.take_append, List.take_of_length_le (by rw [h0, Nat.add_mul]; omega), h0, show (k + 1) * (m + 1) - m = k * (m + 1) + 1 by rw [Nat.add_mul]; omega, List.take_succ_cons]
section
variable {w0 w w' : World} {F H L : List Pc}
theorem MemL.split {c d e : Pc} (h : MemL w0 w (c :: L)) (hd : d.says w) (he : e.says w) (hdf : ∀ b, d.foot b → c.foot b) (hef : ∀ b, e.foot b → c.foot b) (hap : Dis d e) : MemL w0 w (d :: e :: L) := by
 have h1 := List.pairwise_cons.1 h.apart
 refine ⟨h.hb, ?_, ?_, ?_⟩
 ·intro x hx
  rcases List.mem_cons.1 hx with rfl | hx
  ·exact hd
  ·rcases List.mem_cons.1 hx with rfl | hx
   ·exact he
   ·exact h.says x (by simp [hx])
 ·intro x hx b hb
  rcases List.mem_cons.1 hx with rfl | hx
  ·exact h.base c (by simp) b (hdf b hb)
  ·rcases List.mem_cons.1 hx with rfl | hx
   ·exact h.base c (by simp) b (hef b hb)
   ·exact h.base x (by simp [hx]) b hb
 ·refine List.pairwise_cons.2 ⟨fun x hx b hb hxb => ?_, List.pairwise_cons.2 ⟨fun x hx b hb hxb => h1.1 x hx b (hef b hb) hxb, h1.2⟩⟩
  rcases List.mem_cons.1 hx with rfl | hx
  ·exact hap b hb hxb
  ·exact h1.1 x hx b (hdf b hb) hxb
theorem Mem.rowPut {k e size n b c : Nat} (j : Nat) {xs : List Value} (h : Mem w0 w F H) (hk : H[k]? = some (.row (.slice (some ⟨b, 0, none⟩) n c) e size n xs)) (u : Value) :
  ∃ w2, w.setCell ⟨b, j, none⟩ u = w2 ∧ Mem w0 w2 F (H.set k (.row (.slice (some ⟨b, 0, none⟩) n c) e size n (xs.set j u))) := by
 have h1 : w.ownsRow 0 e size (.slice (some ⟨b, 0, none⟩) n c) n xs := h.says hk
 have h2 := h1.stored j u
 exact ⟨_, rfl, h.grow hk h2.2 h2.1 (.inl rfl)⟩
theorem Mem.rowCut {k e size n c : Nat} {A : Option Addr} (m : Nat) {xs : List Value} (h : Mem w0 w F H) (hk : H[k]? = some (.row (.slice A n c) e size n xs)) (hm : m ≤ n) :
  Mem w0 w F (H.set k (.row (.slice A m c) e size m (xs.take (m * size)))) := by
 have h1 : w.ownsRow 0 e size (.slice A n c) n xs := h.says hk
 refine h.retell hk _ (own_take h1 hm) (fun b hb => ?_)
 cases A with
 | none => simp [Pc.row, Value.ownBlock] at hb
 | some a => simpa [Pc.row, Value.ownBlock] using hb
theorem Mem.rowForm {k e size n : Nat} {v : Value} {xs : List Value} (h : Mem w0 w F H) (hk : H[k]? = some (.row v e size n xs)) (hn : 0 < n) : ∃ b c, v = .slice (some ⟨b, 0, none⟩) n c ∧ n ≤ c ∧ ∀ i u, xs[i]? = some u → w.cell? ⟨b, i, none⟩ = some u := by
 have h1 : w.ownsRow 0 e size v n xs := h.says hk
 rcases h1.2 with ⟨_, h0⟩ | ⟨g, cap, cur, rfl, _, _, hn', _⟩
 ·omega
 ·refine ⟨g, cap, rfl, hn', fun i u hu => (h1.cellAt i ?_).trans hu⟩
  have := (List.getElem?_eq_some_iff.1 hu).1
  have h2 := h1.1
  omega
theorem Mem.rowSlice' {k e size n : Nat} {v : Value} {xs : List Value} (h : Mem w0 w F H) (hk : H[k]? = some (.row v e size n xs)) : ∃ A c, v = .slice A n c ∧ n ≤ c := by
 have h1 : w.ownsRow 0 e size v n xs := h.says hk
 rcases h1.2 with ⟨rfl, rfl⟩ | ⟨g, cap, cur, rfl, _, _, hn', _⟩
 ·exact ⟨none, 0, rfl, Nat.le_refl _⟩
 ·exact ⟨_, cap, rfl, hn'⟩
theorem Mem.rowsSwap {k j i : Nat} {vs : List Value} {xss : List (List Int)} {v : Value} {xs : List Int} (h : Mem w0 w F H) (hk : H[k]? = some (.rows vs xss)) (hj : (H.eraseIdx k)[j]? = some (.row v 3 1 xs.length (nums .i64 xs))) (hi : i < vs.length) : Mem w0 w F (.rows (vs.set i v) (xss.set i xs) :: (H.eraseIdx k).eraseIdx j) := by
 have h1 := h.front hk
 have hp : (Pc.rows vs xss :: .row v 3 1 xs.length (nums .i64 xs) :: ((H.eraseIdx k).eraseIdx j ++ F)).Perm (.rows vs xss :: (H.eraseIdx k ++ F)) :=
  List.Perm.cons _ (List.Perm.append_right F (get_perm' hj)).symm
 have h2 := h1.perm hp
 have hr : Rows3 w 0 vs xss := h.says hk
 have ho : w.ownsRow 0 3 1 v xs.length (nums .i64 xs) := h2.says (.row v 3 1 xs.length (nums .i64 xs)) (by simp)
 have hdis := (List.pairwise_cons.1 h2.apart).1 (.row v 3 1 xs.length (nums .i64 xs)) (by simp)
 have hlen := hr.len
 refine h2.merge ⟨by simpa using hlen, fun q hq => ?_, fun p q hp hq hne => ?_⟩ ?_
 ·rw [List.length_set] at hq
  by_cases hji : i = q
  ·subst hji
   rw [getD_set_self hi, getD_set_self (by omega)]
   exact ho
  ·rw [getD_set_other hji, getD_set_other hji]
   exact hr.row q hq
 ·rw [List.length_set] at hp hq
  by_cases h3 : i = p
  ·subst h3
   rw [getD_set_self hi, getD_set_other hne]
   cases hv : v.ownBlock with
   | none => exact .inl rfl
   | some b => exact .inr (fun e => hdis b ⟨q, hq, e.symm⟩ hv)
  ·rw [getD_set_other h3]
   by_cases h4 : i = q
   ·subst h4
    rw [getD_set_self hi]
    cases hv : (vs.getD p nilS).ownBlock with
    | none => exact .inl rfl
    | some b => exact .inr (fun e => hdis b ⟨p, hp, hv⟩ e.symm)
   ·rw [getD_set_other h4]
    exact hr.apart p q hp hq hne
 ·rintro b ⟨q, hq, hb⟩
  rw [List.length_set] at hq
  by_cases hji : i = q
  ·subst hji
   rw [getD_set_self hi] at hb
   exact .inr hb
  ·rw [getD_set_other hji] at hb
   exact .inl ⟨q, hq, hb⟩
theorem Mem.rowsPop {k : Nat} {vs : List Value} {xss : List (List Int)} {v : Value} {xs : List Int} (h : Mem w0 w F H) (hk : H[k]? = some (.rows (vs ++ [v]) (xss ++ [xs]))) : Mem w0 w F (.rows vs xss :: .row v 3 1 xs.length (nums .i64 xs) :: H.eraseIdx k) := by
 have h1 := h.front hk
 have hr : Rows3 w 0 (vs ++ [v]) (xss ++ [xs]) := h.says hk
 have hlen : vs.length = xss.length := by simpa using hr.len
 refine h1.split (d := .rows vs xss) (e := .row v 3 1 xs.length (nums .i64 xs)) ⟨hlen, fun i hi => ?_, fun i j hi hj hne => ?_⟩ ?_ ?_ ?_ ?_
 ·have := hr.row i (by simp; omega)
  rwa [getD_snoc_old hi, getD_snoc_old (by omega)] at this
 ·have := hr.apart i j (by simp; omega) (by simp; omega) hne
  rwa [getD_snoc_old hi, getD_snoc_old hj] at this
 ·have := hr.row vs.length (by simp)
  rw [getD_snoc_new, hlen, getD_snoc_new] at this
  exact this
 ·rintro b ⟨i, hi, hb⟩
  exact ⟨i, by simp; omega, by rw [getD_snoc_old hi]; exact hb⟩
 ·intro b hb
  exact ⟨vs.length, by simp, by rw [getD_snoc_new]; exact hb⟩
 ·rintro b ⟨i, hi, hb⟩ hb2
  have := hr.apart i vs.length (by simp; omega) (by simp) (by omega)
  rw [getD_snoc_old hi, getD_snoc_new, hb] at this
  rcases this with e | e
  ·cases e
  ·exact e hb2.symm
end
end Go.Proofs.Ytfiiihpdekppiaa
end
