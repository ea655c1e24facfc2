/- A part of the proof that vellumlaw12.ShapeErrors is true for every input: walks of functions that the row reaches and plain laws that they need. Conditions: none. Joined by merge.py out of S9 C23 C24; a part that began as a print is named P or W there and is trimmed. -/
import Derived.Test.YtfiiihpdekppiaaE11
import Derived.Test.YtfiiihpdekppiaaE14
set_option linter.unusedVariables false
set_option linter.unusedSimpArgs false
section
namespace Go.Proofs.Ytfiiihpdekppiaa
open PShapeReducible (S31)
mutual
def szF : S31 → Nat
 | ⟨_, _, _, ks⟩ => 1 + szL ks
def szL : List S31 → Nat
 | [] => 0
 | k :: ks => szF k + szL ks
end
abbrev big : Nat := 1000000000
structure Cs.Ok (m : Nat) (c : Cs) : Prop where
 st : c.steps.length + 2 * m ≤ big
 us : c.used.length + m ≤ big
 fr : c.frames.length + m ≤ big
 br : ∀ f ∈ c.frames, f.brk.length + m ≤ big ∧ ∀ b ∈ f.brk, 0 ≤ b ∧ b < c.steps.length
theorem setTos_length (ss : List Stp) (n : Nat) (xs : List Int) : (setTos ss n xs).length = ss.length := by simp [setTos]
theorem addBrk_length (fs : List Frm) (n : Nat) (j : Int) : (addBrk fs n j).length = fs.length := by simp [addBrk]
section
variable {c : Cs} {m : Nat}
theorem Cs.Ok.mono {m' : Nat} (h : c.Ok m) (hm : m' ≤ m) : c.Ok m' :=
 ⟨by have := h.st; omega, by have := h.us; omega, by have := h.fr; omega, fun f hf => ⟨by have := (h.br f hf).1; omega, (h.br f hf).2⟩⟩
theorem Cs.Ok.emit (h : c.Ok m) (h1 : c.steps.length + 1 + 2 * m ≤ big) (p : Stp) : (c.emit p).Ok m :=
 ⟨by simp [Cs.emit]; omega, h.us, h.fr, fun f hf => ⟨(h.br f hf).1, fun b hb => by have := (h.br f hf).2 b hb; simp [Cs.emit]; omega⟩⟩
theorem Cs.Ok.setTo (h : c.Ok m) (n : Nat) (xs : List Int) : (c.setTo n xs).Ok m :=
 ⟨by simpa [Cs.setTo, setTos_length] using h.st, h.us, h.fr, fun f hf => ⟨(h.br f hf).1, fun b hb => by simpa [Cs.setTo, setTos_length] using (h.br f hf).2 b hb⟩⟩
theorem Cs.Ok.fail (h : c.Ok m) : c.fail.Ok m := ⟨h.st, h.us, h.fr, h.br⟩
theorem land_frames : ∀ (es : List Int) (c : Cs), (c.land es).frames = c.frames
 | [], _ => rfl
 | e :: es, c => by rw [Cs.land, land_frames es]; rfl
theorem land_length : ∀ (es : List Int) (c : Cs), (c.land es).steps.length = c.steps.length
 | [], _ => rfl
 | e :: es, c => by rw [Cs.land, land_length es]; simp [Cs.setTo, setTos_length]
theorem Cs.Ok.land : ∀ (es : List Int) {c : Cs}, c.Ok m → (c.land es).Ok m
 | [], _, h => h
 | e :: es, c, h => by rw [Cs.land]; exact Cs.Ok.land es (h.setTo _ _)
theorem Cs.Ok.open (h : c.Ok (m + 1)) (l : Int) (b : Bool) : (c.open l b).Ok m :=
 ⟨by have := h.st; simp [Cs.open]; omega, by have := h.us; simp [Cs.open]; omega, by have := h.fr; simp [Cs.open]; omega, fun f hf => by
  simp only [Cs.open, List.mem_append, List.mem_singleton] at hf
  rcases hf with hf | rfl
  ·exact ⟨by have := (h.br f hf).1; omega, (h.br f hf).2⟩
  ·exact ⟨by have := h.st; simp; omega, by simp⟩⟩
theorem Cs.Ok.close (h : c.Ok m) (h1 : c.steps.length + 1 + 2 * m ≤ big) (loop : Bool) (s : Int) : (c.close loop s).Ok m ∧ (c.close loop s).frames.length = c.frames.length - 1 ∧ c.steps.length ≤ (c.close loop s).steps.length ∧ (c.close loop s).steps.length ≤ c.steps.length + 1 := by
 have h2 : Cs.Ok m { c with frames := c.frames.take (c.frames.length - 1) } :=
  ⟨h.st, h.us, by have := h.fr; simp; omega, fun f hf => h.br f (List.mem_of_mem_take hf)⟩
 unfold Cs.close
 refine ⟨?_, ?_, ?_, ?_⟩
 ·refine Cs.Ok.land _ ?_
  split
  ·exact h2.emit h1 _
  ·exact h2
 ·rw [land_frames]; split <;> simp [Cs.emit]
 ·rw [land_length]; split <;> simp [Cs.emit]
 ·rw [land_length]; split <;> simp [Cs.emit]
theorem mem_addBrk {fs : List Frm} {n : Nat} {j : Int} {f : Frm} (h : f ∈ addBrk fs n j) : f ∈ fs ∨ ∃ f0 ∈ fs, f = { f0 with brk := f0.brk ++ [j] } := by
 obtain ⟨i, hi⟩ := List.mem_iff_getElem?.1 h
 simp only [addBrk, List.getElem?_modify] at hi
 cases h2 : fs[i]? with
 | none => simp [h2] at hi
 | some f0 =>
  have hm := List.mem_of_getElem? h2
  by_cases hn : n = i
  ·simp [h2, hn] at hi; exact .inr ⟨f0, hm, hi.symm⟩
  ·simp [h2, hn] at hi; exact .inl (hi ▸ hm)
theorem Cs.Ok.leave (h : c.Ok (m + 1)) (k n l : Int) (ks : List S31) : (c.leave k n l ks).Ok m ∧ (c.leave k n l ks).steps.length + 1 + 2 * m ≤ big ∧ (c.leave k n l ks).frames.length = c.frames.length ∧ c.steps.length ≤ (c.leave k n l ks).steps.length := by
 have hst := h.st
 have h0 : c.Ok m := h.mono (by omega)
 unfold Cs.leave
 simp only []
 split
 ·exact ⟨h0.fail, by simp [Cs.fail]; omega, rfl, Nat.le_refl _⟩
 ·have h1 := h0.emit (by omega) ⟨1, 0, []⟩
  split
  ·refine ⟨⟨h1.st, h1.us, by simpa [addBrk_length] using h1.fr, fun f hf => ?_⟩, by simp [Cs.emit]; omega, by simp [addBrk_length, Cs.emit], by simp [Cs.emit]⟩
   rcases mem_addBrk hf with hf | ⟨f0, hf0, rfl⟩
   ·exact h1.br f hf
   ·have h2 := h.br f0 hf0
    refine ⟨by simp; omega, fun b hb => ?_⟩
    rcases List.mem_append.1 hb with hb | hb
    ·exact (h1.br f0 hf0).2 b hb
    ·rw [List.mem_singleton.1 hb]
     simp [Cs.emit]; omega
  ·exact ⟨h1.setTo _ _, by simp [Cs.setTo, setTos_length, Cs.emit]; omega, rfl, by simp [Cs.setTo, setTos_length, Cs.emit]⟩
end
mutual
theorem shapeF_ok (g : List (List Int)) (m : Nat) : ∀ (s : S31) (c : Cs), c.Ok (szF s + m) → (shapeF g s c).Ok m ∧ (shapeF g s c).steps.length + 1 + 2 * m ≤ big ∧ (shapeF g s c).frames.length = c.frames.length ∧ c.steps.length ≤ (shapeF g s c).steps.length
 | ⟨kind, node, label, kids⟩, c, h => by
  simp only [szF] at h
  have hst := h.st
  have h0 : c.Ok m := h.mono (by omega)
  rw [shapeF]
  split
  ·exact ⟨h0, by omega, rfl, Nat.le_refl _⟩
  split
  ·split
   ·exact ⟨h0.fail, by simp [Cs.fail]; omega, rfl, Nat.le_refl _⟩
   ·have := seqF_ok g (m + 1) kids c (h.mono (by omega))
    have h1 := this.1.st
    exact ⟨this.1.mono (by omega), by omega, this.2⟩
  split
  ·split
   ·exact ⟨h0.fail, by simp [Cs.fail]; omega, rfl, Nat.le_refl _⟩
   ·have h1 := (h.mono (m' := szL kids + m) (by omega)).emit (by omega) ⟨0, node, []⟩
    have h2 := kidsF_ok g m kids _ [] [] h1
    simp only []
    refine ⟨Cs.Ok.land _ (h2.1.setTo _ _), ?_, ?_, ?_⟩
    ·rw [land_length]; simp only [Cs.setTo, setTos_length]; have h3 := h2.2.1; simp [Cs.emit] at h3; simp only [Cs.emit]; omega
    ·rw [land_frames]; simp only [Cs.setTo]; rw [h2.2.2.1]; rfl
    ·rw [land_length]; simp only [Cs.setTo, setTos_length]; have h3 := h2.2.2.2.1; simp only [Cs.emit, List.length_append] at h3 ⊢; omega
  split
  ·split
   ·exact ⟨h0.fail, by simp [Cs.fail]; omega, rfl, Nat.le_refl _⟩
   ·have h1 := (h.mono (m' := szL kids + m + 1) (by omega)).open label (decide (kind = 3))
    have h2 := seqF_ok g m kids _ h1
    have hs : (c.open label (decide (kind = 3))).steps.length = c.steps.length := rfl
    have h5 := h2.2.2
    rw [hs] at h5
    have h4 : (seqF g kids (c.open label (decide (kind = 3)))).steps.length + 1 + 2 * m ≤ big := by
     have := seqF_st g kids (c.open label (decide (kind = 3)))
     rw [hs] at this
     omega
    have h3 := h2.1.close h4 (decide (kind = 3)) c.steps.length
    refine ⟨h3.1, ?_, ?_, ?_⟩
    ·have := seqF_st g kids (c.open label (decide (kind = 3)))
     rw [hs] at this
     have := h3.2.2.2
     omega
    ·rw [h3.2.1, h2.2.1]; simp [Cs.open]
    ·have := h3.2.2.1; omega
  split
  ·exact Cs.Ok.leave (h.mono (by omega)) _ _ _ _
  ·exact ⟨h0.fail, by simp [Cs.fail]; omega, rfl, Nat.le_refl _⟩
theorem seqF_ok (g : List (List Int)) (m : Nat) : ∀ (ks : List S31) (c : Cs), c.Ok (szL ks + m) → (seqF g ks c).Ok m ∧ (seqF g ks c).frames.length = c.frames.length ∧ c.steps.length ≤ (seqF g ks c).steps.length
 | [], c, h => by rw [seqF]; exact ⟨h.mono (by omega), rfl, Nat.le_refl _⟩
 | k :: ks, c, h => by
  rw [seqF]
  simp only [szL] at h
  have h1 := shapeF_ok g (szL ks + m) k c (h.mono (by omega))
  have h2 := seqF_ok g m ks _ h1.1
  exact ⟨h2.1, by rw [h2.2.1, h1.2.2.1], by have := h1.2.2.2; have := h2.2.2; omega⟩
theorem kidsF_ok (g : List (List Int)) (m : Nat) : ∀ (ks : List S31) (c : Cs) (a b : List Int), c.Ok (szL ks + m) → (kidsF g ks c a b).1.Ok m ∧ (kidsF g ks c a b).1.steps.length + 2 * m ≤ c.steps.length + 2 * (szL ks + m) ∧ (kidsF g ks c a b).1.frames.length = c.frames.length ∧ c.steps.length ≤ (kidsF g ks c a b).1.steps.length ∧ True
 | [], c, a, b, h => by rw [kidsF]; exact ⟨h.mono (by omega), by simp only [szL]; omega, rfl, Nat.le_refl _, trivial⟩
 | k :: ks, c, a, b, h => by
  rw [kidsF]
  simp only [szL] at h ⊢
  have h1 := shapeF_ok g (szL ks + m) k c (h.mono (by omega))
  have h2 := kidsF_ok g m ks ((shapeF g k c).emit ⟨1, 0, []⟩) (a ++ [(c.steps.length : Int)]) (b ++ [((shapeF g k c).steps.length : Int)]) (h1.1.emit (by omega) _)
  have h3 := shapeF_st g k c
  have he : ((shapeF g k c).emit ⟨1, 0, []⟩).steps.length = (shapeF g k c).steps.length + 1 := by simp [Cs.emit]
  rw [he] at h2
  refine ⟨h2.1, ?_, by rw [h2.2.2.1]; exact h1.2.2.1, by have := h1.2.2.2; have := h2.2.2.2.1; omega, trivial⟩
  have := h2.2.1
  omega
theorem shapeF_st (g : List (List Int)) : ∀ (s : S31) (c : Cs), (shapeF g s c).steps.length + 1 ≤ c.steps.length + 2 * szF s
 | ⟨kind, node, label, kids⟩, c => by
  simp only [szF]
  rw [shapeF]
  split
  ·omega
  split
  ·split
   ·simp [Cs.fail]; omega
   ·have := seqF_st g kids c; omega
  split
  ·split
   ·simp [Cs.fail]; omega
   ·simp only [land_length, Cs.setTo, setTos_length]
    have := kidsF_st g kids (c.emit ⟨0, node, []⟩) [] []
    simp only [Cs.emit, List.length_append, List.length_singleton] at this ⊢
    omega
  split
  ·split
   ·simp [Cs.fail]; omega
   ·have := seqF_st g kids (c.open label (decide (kind = 3)))
    simp only [Cs.close, land_length]
    simp only [Cs.open] at this ⊢
    split <;> simp [Cs.emit] <;> omega
  split
  ·unfold Cs.leave
   simp only []
   split
   ·simp [Cs.fail]; omega
   ·split <;> simp [Cs.setTo, setTos_length, Cs.emit] <;> omega
  ·simp [Cs.fail]; omega
theorem seqF_st (g : List (List Int)) : ∀ (ks : List S31) (c : Cs), (seqF g ks c).steps.length ≤ c.steps.length + 2 * szL ks
 | [], c => by rw [seqF]; omega
 | k :: ks, c => by
  rw [seqF]
  simp only [szL]
  have := shapeF_st g k c
  have := seqF_st g ks (shapeF g k c)
  omega
theorem kidsF_st (g : List (List Int)) : ∀ (ks : List S31) (c : Cs) (a b : List Int), (kidsF g ks c a b).1.steps.length ≤ c.steps.length + 2 * szL ks
 | [], c, a, b => by rw [kidsF]; simp only []; omega
 | k :: ks, c, a, b => by
  rw [kidsF]
  simp only [szL]
  have := shapeF_st g k c
  have := kidsF_st g ks ((shapeF g k c).emit ⟨1, 0, []⟩) (a ++ [(c.steps.length : Int)]) (b ++ [((shapeF g k c).steps.length : Int)])
  simp only [Cs.emit, List.length_append, List.length_singleton] at this ⊢
  omega
end
end Go.Proofs.Ytfiiihpdekppiaa
end
section
namespace Go.Proofs.Ytfiiihpdekppiaa
open Go.RowKit Go.Proofs Go.Proofs.YtfiiihpdekppiaaW.PrintWords
open Go.ChangeMaps (setBlock heap_setBlock_same heap_setBlock_other)
open PShapeReducible (S31 k31 at_T31 rd_T31)
section
variable {w0 w : World} {F H L : List Pc}
theorem Mem.narrow {R : List Pc} (h : Mem w0 w F (L ++ R)) : Mem w0 w (R ++ F) L := h.perm (by rw [List.append_assoc])
theorem Mem.one (h : Mem w0 w F H) (x : Int) : ∃ b w2, w.heap.size = b ∧ w.alloc (.cells #[.int .i64 x] 3) = w2 ∧ Mem w0 w2 F (H ++ [.row (.slice (some ⟨b, 0, none⟩) 1 1) 3 1 1 (nums .i64 [x])]) :=
 ⟨_, _, rfl, rfl, h.newrow ((Below.refl _ _).alloc (Nat.le_refl _) _) (own_lit1 w w.heap.size x (Nat.le_refl _)) (fun k hk => by simp [Value.ownBlock] at hk; omega)⟩
theorem emit0 (bc : Nat) (gv : Value) (c : Cs) (p : Cp) (a b : Int) (h : Mem w0 w F (c.own bc gv p ++ H)) (hl : c.steps.length < 1000000000) :
  Calls Try.prog 69 #[.pointer (some ⟨bc, 0, none⟩), .agg #[.int .i64 a, .int .i64 b, .slice none 0 0]] w fun e w' => e = .returned (.int .i64 c.steps.length) ∧ ∃ p', Mem w0 w' F ((c.emit ⟨a, b, []⟩).own bc gv p' ++ H) := by
 refine (emit_any w0 w (H ++ F) bc gv c p a b nilS [] (h.narrow.nilrow 3 1) hl).mono ?_
 rintro e w' ⟨rfl, A, cc, M⟩
 exact ⟨rfl, _, M.wide⟩
theorem setTos_cells (ss : List Stp) (n : Nat) (xs : List Int) : (setTos ss n xs).map Stp.cells = ss.map Stp.cells := by
 apply List.ext_getElem?
 intro i
 simp only [setTos, List.getElem?_map, List.getElem?_modify]
 cases ss[i]? with
 | none => rfl
 | some q => by_cases hn : n = i <;> simp [hn, Stp.cells]
theorem setTos_tos (ss : List Stp) (n : Nat) (xs : List Int) : (setTos ss n xs).map Stp.tos = (ss.map Stp.tos).set n xs := by
 apply List.ext_getElem?
 intro i
 simp only [setTos, List.getElem?_map, List.getElem?_modify, List.getElem?_set]
 by_cases hn : n = i
 ·subst hn
  by_cases hl : n < ss.length
  ·simp [hl]
  ·simp [hl]
 ·simp [hn]
end
theorem step_cell {ss : List Stp} {ts : List Value} (hl : ts.length = ss.length) {n j : Nat} (hn : n < ss.length) (hj : j ≤ 2) : (recs (ss.map Stp.cells) ts)[n * 3 + j]? = ((ss.map Stp.cells).getD n [] ++ [ts.getD n nilS])[j]? :=
 recs_get (m := 2) (by simpa using hl.symm) (by simp [Stp.cells]) (by simpa using hn) hj
theorem Mem.setTo {w0 w : World} {F H : List Pc} {bc : Nat} {gv : Value} {c : Cs} {p : Cp} {n : Nat} {v : Value} {xs : List Int} (h : Mem w0 w F (c.own bc gv p ++ .row v 3 1 xs.length (nums .i64 xs) :: H)) (hn : n < c.steps.length) :
  ∃ b cc w2, w.cell? ⟨bc, 1, none⟩ = some (.slice (some ⟨b, 0, none⟩) c.steps.length cc) ∧ w.setCell ⟨b, n * 3 + 2, none⟩ v = w2 ∧ (∃ u, w.cell? ⟨b, n * 3 + 2, none⟩ = some u) ∧ w.frozen? ⟨b, n * 3 + 2, none⟩ = false ∧ Mem w0 w2 F ((c.setTo n xs).own bc gv { p with ts := p.ts.set n v } ++ H) := by
 obtain ⟨vS, vF, vU, ts, bs⟩ := p
 obtain ⟨b, cc, e, hcc, hcell⟩ := h.rowForm (k := 1) rfl (by omega)
 dsimp only at e
 subst e
 have hts : ts.length = c.steps.length := by have := (h.rows (k := 2) rfl).len; simpa using this
 have h1 := h.row (k := 1) rfl
 obtain ⟨w2, e2, M2⟩ := h.rowPut (k := 1) (n * 3 + 2) rfl v
 refine ⟨b, cc, w2, h.cell (k := 0) (j := 1) rfl rfl, e2, ?_, h1.frozenAt _, ?_⟩
 ·have := step_cell hts hn (j := 2) (by omega)
  have h2 : ((c.steps.map Stp.cells).getD n [] ++ [ts.getD n nilS])[2]? = some (ts.getD n nilS) := by
   simp [List.getD_eq_getElem?_getD, List.getElem?_map, List.getElem?_eq_getElem hn, Stp.cells]
  exact ⟨_, hcell _ _ (this.trans h2)⟩
 ·have hrec : (recs (c.steps.map Stp.cells) ts).set (n * 3 + 2) v = recs (c.steps.map Stp.cells) (ts.set n v) := recs_set (m := 2) (by simpa using hts.symm) (by simp [Stp.cells]) (by simpa using hn) v
  have M3 : Mem w0 w2 F (.blk bc (.cells #[gv, .slice (some ⟨b, 0, none⟩) c.steps.length cc, vF, vU, .bool c.bad] 124 (0, 0)) :: .row (.slice (some ⟨b, 0, none⟩) c.steps.length cc) 77 3 c.steps.length ((recs (c.steps.map Stp.cells) ts).set (n * 3 + 2) v) :: .rows ts (c.steps.map Stp.tos) ::
   .row vF 141 4 c.frames.length (recs (c.frames.map Frm.cells) bs) :: .rows bs (c.frames.map Frm.brk) :: .row vU 3 1 c.used.length (nums .i64 c.used) :: .row v 3 1 xs.length (nums .i64 xs) :: H) := M2
  rw [hrec] at M3
  have M4 := M3.rowsSwap (k := 2) (j := 5) (i := n) rfl rfl (by omega)
  have M5 : Mem w0 w2 F (.rows (ts.set n v) ((c.steps.map Stp.tos).set n xs) :: .blk bc (.cells #[gv, .slice (some ⟨b, 0, none⟩) c.steps.length cc, vF, vU, .bool c.bad] 124 (0, 0)) :: .row (.slice (some ⟨b, 0, none⟩) c.steps.length cc) 77 3 c.steps.length (recs (c.steps.map Stp.cells) (ts.set n v)) ::
   .row vF 141 4 c.frames.length (recs (c.frames.map Frm.cells) bs) :: .rows bs (c.frames.map Frm.brk) :: .row vU 3 1 c.used.length (nums .i64 c.used) :: H) := M4
  unfold Cs.own Cs.setTo
  simp only [setTos_cells, setTos_tos, setTos_length]
  refine M5.perm (List.Perm.append_right F ?_)
  simp only [List.cons_append, List.nil_append]
  exact ((List.Perm.swap _ _ _).cons _).trans (List.Perm.swap _ _ _) |>.symm |> fun h => by
   first | exact h | exact h.symm | exact (List.Perm.trans (List.Perm.cons _ (List.Perm.swap _ _ _)) (List.Perm.swap _ _ _))
def ShapeOk (w0 : World) (bc : Nat) (gA : Option Addr) (gc : Nat) (g : List (List Int)) (s : S31) : Prop :=
 ∀ (F H : List Pc) (c : Cs) (p : Cp) (w : World) (A : Option Addr) (n m : Nat), Mem w0 w F (c.own bc (.slice gA g.length gc) p ++ H) → c.Ok (szF s + m) → k31.C w0 A s.f3.length s.f3 → s.f3.length ≤ n →
  Calls Try.prog 68 #[.pointer (some ⟨bc, 0, none⟩), .agg #[.int .i64 s.f0, .int .i64 s.f1, .int .i64 s.f2, .slice A s.f3.length n]] w fun e w' => e = .returned (.tuple #[]) ∧ ∃ p', Mem w0 w' F ((shapeF g s c).own bc (.slice gA g.length gc) p' ++ H)
theorem own_vS {w0 w : World} {F H : List Pc} {bc : Nat} {gv : Value} {c : Cs} {p : Cp} (M : Mem w0 w F (c.own bc gv p ++ H)) : ∃ A n, w.cell? ⟨bc, 1, none⟩ = some (.slice A c.steps.length n) := by
 obtain ⟨A, n, e, _⟩ := M.rowSlice' (k := 1) rfl
 have := M.cell (k := 0) (j := 1) rfl rfl
 exact ⟨A, n, this.trans (congrArg some e)⟩
theorem kid_at {w : World} {A : Option Addr} {xs : List S31} (h : k31.C w A xs.length xs) (i : Nat) (hi : i < xs.length) : ∃ ad A3 c3, A = some ad ∧ w.cell? (ad.add (i * 4)) = some (.int .i64 xs[i].f0) ∧ w.cell? ⟨(ad.add (i * 4)).block, (ad.add (i * 4)).off + 1, none⟩ = some (.int .i64 xs[i].f1) ∧
  w.cell? ⟨(ad.add (i * 4)).block, (ad.add (i * 4)).off + 2, none⟩ = some (.int .i64 xs[i].f2) ∧ w.cell? ⟨(ad.add (i * 4)).block, (ad.add (i * 4)).off + 3, none⟩ = some (.slice A3 xs[i].f3.length c3) ∧ xs[i].f3.length ≤ c3 ∧ k31.C w A3 xs[i].f3.length xs[i].f3 := by
 have := at_T31 h i (by omega) (by omega)
 have e : rd_T31 xs i = xs[i] := by simp [rd_T31, List.getD_eq_getElem?_getD, hi]
 rw [e] at this
 simpa using this
theorem szL_len : ∀ ks : List S31, ks.length ≤ szL ks
 | [] => Nat.le_refl _
 | ⟨_, _, _, _⟩ :: ks => by have := szL_len ks; simp [szL, szF]; omega
def rvisitF (g : List (List Int)) (node label : Int) (kids : List S31) (c : Cs) : Cs :=
 if node < 0 ∨ (g.length : Int) ≤ node ∨ kids.length ≠ (g.getD node.toNat []).length ∨ label ≠ 0 then c.fail
 else
  let r := kidsF g kids (c.emit ⟨0, node, []⟩) [] []
  (r.1.setTo c.steps.length r.2.1).land r.2.2
set_option maxRecDepth 100000 in
set_option maxHeartbeats 4000000 in
theorem rvisit_any (w0 : World) (bc : Nat) (gA : Option Addr) (gc : Nat) (g : List (List Int)) (hG : kG.C w0 gA g.length g) (hg : g.length ≤ 1000000000) (kind node label : Int) (kids : List S31) (ih : ∀ k ∈ kids, ShapeOk w0 bc gA gc g k)
  (F : List Pc) (c : Cs) (p : Cp) (w : World) (A : Option Addr) (n m : Nat) (M : Mem w0 w F (c.own bc (.slice gA g.length gc) p)) (hok : c.Ok (szL kids + 1 + m)) (hK : k31.C w0 A kids.length kids) (hn : kids.length ≤ n) :
  Calls Try.prog 88 #[.pointer (some ⟨bc, 0, none⟩), .agg #[.int .i64 kind, .int .i64 node, .int .i64 label, .slice A kids.length n]] w fun e w' => e = .returned (.tuple #[]) ∧ ∃ p', Mem w0 w' F ((rvisitF g node label kids c).own bc (.slice gA g.length gc) p') := by
 obtain ⟨b3, w1, z1, a1, M1⟩ := M.alloc (.cells #[.int .i64 kind, .int .i64 node, .int .i64 label, .slice A kids.length n] 31)
 obtain ⟨w2, z2, M2⟩ := M1.drew
 have e1 : w2.cell? ⟨b3, 1, none⟩ = some (.int .i64 node) := M2.cell (k := 6) (j := 1) rfl rfl
 have e2 : w2.cell? ⟨b3, 2, none⟩ = some (.int .i64 label) := M2.cell (k := 6) (j := 2) rfl rfl
 have e3 : w2.cell? ⟨b3, 3, none⟩ = some (.slice A kids.length n) := M2.cell (k := 6) (j := 3) rfl rfl
 have k0 : w2.cell? ⟨bc, 0, none⟩ = some (.slice gA g.length gc) := M2.cell (k := 0) (j := 0) rfl rfl
 have HG := Aside0.mk hG
 have HK := Aside0.mk hK
 have IH := Aside0.mk ih
 clear M M1 hG hK ih
 unfold rvisitF
 by_cases hbad : node < 0 ∨ (g.length : Int) ≤ node ∨ kids.length ≠ (g.getD node.toNat []).length ∨ label ≠ 0
 ·rw [if_pos hbad]
  obtain ⟨w3, s3, M3⟩ := M2.set (k := 0) 4 rfl (.bool true)
  have f4 := M2.free (k := 0) (j := 4) rfl
  have k4 : w2.cell? ⟨bc, 4, none⟩ = some (.bool c.bad) := M2.cell (k := 0) (j := 4) rfl rfl
  have M3 := Aside0.mk M3
  by_cases h1 : node < 0
  ·clear M2 hbad
   go_enter Try.func88, Try.ntmps88
   go_wp2_with (first | (rw [z2]) | (refine wp_region_txt (fun _ => True) [] (by kernel_rfl) (by kernel_rfl) ?_) | (with_reducible refine wpT_nil ?_) | (refine wpT_W (v := ?_) trivial (by decide) (by first | exact wanted_none rfl | rfl) (fun _ hS_ => ?_) ?_; rotate_left; (focus ((try dsimp only at hS_); go_simp; rfl)); (simp only [Act.put, List.setIfInBounds_toArray, List.set_cons_zero, List.set_cons_succ])) | (refine wpT_R (v := ?_) trivial (by decide) (by first | exact wanted_none rfl | rfl) ?_ ?_; rotate_left; (focus (go_simp; rfl)); (simp only [Act.put, List.setIfInBounds_toArray, List.set_cons_zero, List.set_cons_succ])) | (refine wpT_A (v := ?_) (ob := ?_) trivial (by decide) (by first | exact wanted_none rfl | rfl) ?_ ?_ ?_; rotate_left 2; (focus (go_simp; first | (constructor <;> rfl) | rfl)); (focus (exact trivial)); (simp only [Act.put, List.setIfInBounds_toArray, List.set_cons_zero, List.set_cons_succ])) | (refine wpT_no trivial rfl (by decide) ?_; (simp only [Act.put, List.setIfInBounds_toArray, List.set_cons_zero, List.set_cons_succ])))
   refine bodyPost_ret (results_none rfl _ _ _) rfl ?_
   exact ⟨rfl, _, M3.out.lose (k := 6) rfl⟩
  by_cases h2 : (g.length : Int) ≤ node
  ·clear M2 hbad
   have h2' : node ≥ (g.length : Int) := h2
   go_enter Try.func88, Try.ntmps88
   go_wp2_with (first | (rw [z2]) | (refine wp_region_txt (fun _ => True) [] (by kernel_rfl) (by kernel_rfl) ?_) | (with_reducible refine wpT_nil ?_) | (refine wpT_W (v := ?_) trivial (by decide) (by first | exact wanted_none rfl | rfl) (fun _ hS_ => ?_) ?_; rotate_left; (focus ((try dsimp only at hS_); go_simp; rfl)); (simp only [Act.put, List.setIfInBounds_toArray, List.set_cons_zero, List.set_cons_succ])) | (refine wpT_R (v := ?_) trivial (by decide) (by first | exact wanted_none rfl | rfl) ?_ ?_; rotate_left; (focus (go_simp; rfl)); (simp only [Act.put, List.setIfInBounds_toArray, List.set_cons_zero, List.set_cons_succ])) | (refine wpT_A (v := ?_) (ob := ?_) trivial (by decide) (by first | exact wanted_none rfl | rfl) ?_ ?_ ?_; rotate_left 2; (focus (go_simp; first | (constructor <;> rfl) | rfl)); (focus (exact trivial)); (simp only [Act.put, List.setIfInBounds_toArray, List.set_cons_zero, List.set_cons_succ])) | (refine wpT_no trivial rfl (by decide) ?_; (simp only [Act.put, List.setIfInBounds_toArray, List.set_cons_zero, List.set_cons_succ])))
   refine bodyPost_ret (results_none rfl _ _ _) rfl ?_
   exact ⟨rfl, _, M3.out.lose (k := 6) rfl⟩
  obtain ⟨d, rfl⟩ : ∃ d : Nat, node = d := ⟨node.toNat, by omega⟩
  have hd : d < g.length := by omega
  obtain ⟨ga, Ar, cr, e, j1, hcr, hr⟩ := C_row (Kd.C_below HG.out M2.hb) d hd
  subst e
  have hd' : (d : Int) < g.length := by omega
  simp only [Int.toNat_natCast] at hbad
  obtain ⟨l, hl⟩ : ∃ l, l = g.getD d [] := ⟨_, rfl⟩
  rw [← hl] at hbad j1 hcr hr
  have q0 : ¬ ((d : Int) < 0) := by omega
  have q1 : ¬ g.length ≤ d := by omega
  clear hr hcr hl
  by_cases h3 : kids.length = l.length
  ·have h4 : label ≠ 0 := by
    rcases hbad with h | h | h | h
    ·exact absurd h h1
    ·exact absurd h h2
    ·exact absurd h3 h
    ·exact h
   have h3s := h3.symm
   clear h3
   clear M2 hbad h2 h1
   go_enter Try.func88, Try.ntmps88
   go_wp2_with (first | (rw [z2]) | (refine wp_region_txt (fun _ => True) [] (by kernel_rfl) (by kernel_rfl) ?_) | (with_reducible refine wpT_nil ?_) | (refine wpT_W (v := ?_) trivial (by decide) (by first | exact wanted_none rfl | rfl) (fun _ hS_ => ?_) ?_; rotate_left; (focus ((try dsimp only at hS_); go_simp; rfl)); (simp only [Act.put, List.setIfInBounds_toArray, List.set_cons_zero, List.set_cons_succ])) | (refine wpT_R (v := ?_) trivial (by decide) (by first | exact wanted_none rfl | rfl) ?_ ?_; rotate_left; (focus (go_simp; rfl)); (simp only [Act.put, List.setIfInBounds_toArray, List.set_cons_zero, List.set_cons_succ])) | (refine wpT_A (v := ?_) (ob := ?_) trivial (by decide) (by first | exact wanted_none rfl | rfl) ?_ ?_ ?_; rotate_left 2; (focus (go_simp; first | (constructor <;> rfl) | rfl)); (focus (exact trivial)); (simp only [Act.put, List.setIfInBounds_toArray, List.set_cons_zero, List.set_cons_succ])) | (refine wpT_no trivial rfl (by decide) ?_; (simp only [Act.put, List.setIfInBounds_toArray, List.set_cons_zero, List.set_cons_succ])))
   refine bodyPost_ret (results_none rfl _ _ _) rfl ?_
   exact ⟨rfl, _, M3.out.lose (k := 6) rfl⟩
  ·have h3s : ((kids.length : Int) != (l.length : Int)) = true := bne_iff_ne.mpr (by omega)
   clear M2 hbad h2 h1
   go_enter Try.func88, Try.ntmps88
   go_wp2_with (first | (rw [z2]) | (refine wp_region_txt (fun _ => True) [] (by kernel_rfl) (by kernel_rfl) ?_) | (with_reducible refine wpT_nil ?_) | (refine wpT_W (v := ?_) trivial (by decide) (by first | exact wanted_none rfl | rfl) (fun _ hS_ => ?_) ?_; rotate_left; (focus ((try dsimp only at hS_); go_simp; rfl)); (simp only [Act.put, List.setIfInBounds_toArray, List.set_cons_zero, List.set_cons_succ])) | (refine wpT_R (v := ?_) trivial (by decide) (by first | exact wanted_none rfl | rfl) ?_ ?_; rotate_left; (focus (go_simp; rfl)); (simp only [Act.put, List.setIfInBounds_toArray, List.set_cons_zero, List.set_cons_succ])) | (refine wpT_A (v := ?_) (ob := ?_) trivial (by decide) (by first | exact wanted_none rfl | rfl) ?_ ?_ ?_; rotate_left 2; (focus (go_simp; first | (constructor <;> rfl) | rfl)); (focus (exact trivial)); (simp only [Act.put, List.setIfInBounds_toArray, List.set_cons_zero, List.set_cons_succ])) | (refine wpT_no trivial rfl (by decide) ?_; (simp only [Act.put, List.setIfInBounds_toArray, List.set_cons_zero, List.set_cons_succ])))
   refine bodyPost_ret (results_none rfl _ _ _) rfl ?_
   exact ⟨rfl, _, M3.out.lose (k := 6) rfl⟩
 ·rw [if_neg hbad]
  have hbad' : 0 ≤ node ∧ node < (g.length : Int) ∧ kids.length = (g.getD node.toNat []).length ∧ label = 0 := by
   refine ⟨?_, ?_, ?_, ?_⟩
   ·exact Int.not_lt.1 (fun h => hbad (.inl h))
   ·exact Int.not_le.1 (fun h => hbad (.inr (.inl h)))
   ·exact Classical.byContradiction (fun h => hbad (.inr (.inr (.inl h))))
   ·exact Classical.byContradiction (fun h => hbad (.inr (.inr (.inr h))))
  obtain ⟨h1, h2, h3, rfl⟩ := hbad'
  obtain ⟨d, rfl⟩ : ∃ d : Nat, node = d := ⟨node.toNat, by omega⟩
  have hd : d < g.length := by omega
  obtain ⟨ga, Ar, cr, e, j1, hcr, hr⟩ := C_row (Kd.C_below HG.out M2.hb) d hd
  subst e
  have hd' : (d : Int) < g.length := by omega
  simp only [Int.toNat_natCast] at h3
  obtain ⟨l, hl⟩ : ∃ l, l = g.getD d [] := ⟨_, rfl⟩
  rw [← hl] at h3 j1 hcr hr
  have q0 : ¬ ((d : Int) < 0) := by omega
  have q1 : ¬ g.length ≤ d := by omega
  have h3s := h3.symm
  have M3 : Mem w0 w2 F (c.own bc (.slice (some ga) g.length gc) p ++ [.blk b3 (.cells #[.int .i64 kind, .int .i64 (d : Int), .int .i64 0, .slice A kids.length n] 31 (0, 0))]) := M2
  have hst := hok.st
  have hck : c.steps.length < 1000000000 := by simp only [big] at hst; omega
  have hbig : kids.length < 1000000000 := by have := szL_len kids; simp only [big] at hst; omega
  obtain ⟨R, hR⟩ : ∃ R, R = kidsF g kids (c.emit ⟨0, d, []⟩) [] [] := ⟨_, rfl⟩
  rw [← hR]
  have HR := Aside0.mk hR
  have M3 := Aside0.mk M3
  have HOK := Aside0.mk hok
  obtain ⟨N, hN⟩ : ∃ N, N = c.steps.length := ⟨_, rfl⟩
  have HN := Aside0.mk hN
  clear M2 hbad h3 hr hcr hl hR hok hst h1 h2
  go_enter Try.func88, Try.ntmps88
  go_wp2_with (first
   | (go_at_call 69; refine (emit0 bc _ c p 0 (d : Int) M3.out hck).mono ?_; rintro e w4 ⟨rfl, p4, M4⟩; have M4 := Aside0.mk M4)
   | (rw [z2]) | (refine wp_region_txt (fun _ => True) [] (by kernel_rfl) (by kernel_rfl) ?_) | (with_reducible refine wpT_nil ?_) | (refine wpT_W (v := ?_) trivial (by decide) (by first | exact wanted_none rfl | rfl) (fun _ hS_ => ?_) ?_; rotate_left; (focus ((try dsimp only at hS_); go_simp; rfl)); (simp only [Act.put, List.setIfInBounds_toArray, List.set_cons_zero, List.set_cons_succ])) | (refine wpT_R (v := ?_) trivial (by decide) (by first | exact wanted_none rfl | rfl) ?_ ?_; rotate_left; (focus (go_simp; rfl)); (simp only [Act.put, List.setIfInBounds_toArray, List.set_cons_zero, List.set_cons_succ])) | (refine wpT_A (v := ?_) (ob := ?_) trivial (by decide) (by first | exact wanted_none rfl | rfl) ?_ ?_ ?_; rotate_left 2; (focus (go_simp; first | (constructor <;> rfl) | rfl)); (focus (exact trivial)); (simp only [Act.put, List.setIfInBounds_toArray, List.set_cons_zero, List.set_cons_succ])) | (refine wpT_no trivial rfl (by decide) ?_; (simp only [Act.put, List.setIfInBounds_toArray, List.set_cons_zero, List.set_cons_succ])))
  go_loopw [5, 6, 7] (fun v5 v6 t wr => ∃ (i : Nat) (c' : Cs) (p' : Cp) (a b : List Int), t = .int .i64 i ∧ i ≤ kids.length ∧ Aside0 (a.length = i ∧ b.length = i) ∧ Aside0 (kidsF g (kids.drop i) c' a b = R) ∧ Aside0 (c'.Ok (szL (kids.drop i) + m)) ∧ Aside0 (c.steps.length < c'.steps.length ∧ ∀ e ∈ b, 0 ≤ e ∧ e < c'.steps.length) ∧
   Aside0 (Mem w0 wr F (c'.own bc (.slice (some ga) g.length gc) p' ++ [.blk b3 (.cells #[.int .i64 kind, .int .i64 (d : Int), .int .i64 0, .slice A kids.length n] 31 (0, 0)), .row v5 3 1 i (nums .i64 a), .row v6 3 1 i (nums .i64 b)]))) (fun _ _ t _ => kids.length - (intOf t).toNat)
  case atStart =>
   refine ⟨0, _, p4, [], [], rfl, Nat.zero_le _, ⟨rfl, rfl⟩, ⟨HR.out.symm⟩, ⟨?_⟩, ⟨by simp [Cs.emit], by simp⟩, ⟨?_⟩⟩
   ·have h1 := HOK.out
    have h2 := h1.st
    exact (h1.mono (by simp)).emit (by simp at h2 ⊢; omega) _
   ·exact (M4.out.nilrow 3 1).nilrow 3 1
  case round =>
   clear M3 M4 HOK
   obtain ⟨i, c', p', a, b, rfl, hi, hab, hA, hO, hE, hM⟩ := hrel
   have e3 := hM.out.cell (k := 6) (j := 3) rfl rfl
   by_cases hlt : i < kids.length
   ·obtain ⟨k, hk⟩ : ∃ k, k = kids[i] := ⟨_, rfl⟩
    obtain ⟨ad, A3, c3, e, g0, g1, g2, g3, hc3, hC3⟩ := kid_at HK.out i hlt
    subst e
    rw [← hk] at g0 g1 g2 g3 hc3 hC3
    have hA2 := hA.out
    have hO2 := hO.out
    rw [List.drop_eq_getElem_cons hlt, ← hk] at hA2 hO2
    rw [kidsF] at hA2
    simp only [szL] at hO2
    have hkm : k ∈ kids := by rw [hk]; exact List.getElem_mem hlt
    have IHK := Aside0.mk (IH.out k hkm)
    have HA := Aside0.mk hA2
    have HO := Aside0.mk hO2
    have HC3 := Aside0.mk hC3
    have GG := Aside0.mk (And.intro g0 (And.intro g1 (And.intro g2 g3)))
    obtain ⟨AS, cS, k1⟩ := own_vS hM.out
    obtain ⟨A5, c5, e5, _⟩ := hM.out.rowSlice' (k := 7) rfl
    obtain ⟨A6, c6, e6, _⟩ := hM.out.rowSlice' (k := 8) rfl
    subst e5 e6
    have hlt' : (i : Int) < kids.length := by omega
    have HD := Aside0.mk (show (shapeF g k c').steps.length < 1000000000 by have h9 := (shapeF_ok g (szL (kids.drop (i + 1)) + m) k c' (HO.out.mono (by omega))).2.1; simp only [big] at h9; omega)
    clear hA hO hA2 hO2 hkm hC3 g0 g1 g2 g3 hk e1 e2 k0 j1 q0 q1 h3s
    go_wp2_with (first
     | ((with_reducible refine gate_dst (N := 66) rfl ?_); refine mem_append 7 (.tmp 59) (.tmp 65) 23 3 (.int .i64 0) 1 8 rfl rfl Try.underlying23 PShapeReducible.info3 rfl (by decide) (by decide) _ i (nums .i64 a) [.int .i64 (c'.steps.length : Int)] rfl rfl rfl (by simp [Value.oneCell']) hM.out rfl (by omega) ?_; intro A7 c7 w7 M7; have g3 := M7.cell (k := 6) (j := 3) rfl rfl; have q0 := pw_cell_below M7.hb GG.out.1; have q1 := pw_cell_below M7.hb GG.out.2.1; have q2 := pw_cell_below M7.hb GG.out.2.2.1; have q3 := pw_cell_below M7.hb GG.out.2.2.2; have M7 := Aside0.mk M7)
     | (go_at_call 68; refine (IHK.out F _ c' p' w7 A3 c3 (szL (kids.drop (i + 1)) + m) M7.out (HO.out.mono (by omega)) HC3.out hc3).mono ?_; rintro e w8 ⟨rfl, p8, M8⟩; have M8 := Aside0.mk M8)
     | (go_at_call 69; refine (emit0 bc _ _ p8 1 0 M8.out HD.out).mono ?_; rintro e w9 ⟨rfl, p9, M9⟩; have M9 := Aside0.mk M9)
     | ((with_reducible refine gate_dst (N := 79) rfl ?_); refine mem_append 8 (.tmp 74) (.tmp 78) 23 3 (.int .i64 0) 1 8 rfl rfl Try.underlying23 PShapeReducible.info3 rfl (by decide) (by decide) _ i (nums .i64 b) [.int .i64 ((shapeF g k c').steps.length : Int)] rfl rfl rfl (by simp [Value.oneCell']) M9.out rfl (by omega) ?_; intro A10 c10 w10 M10; have M10 := Aside0.mk M10))
    go_roundw
    case rel =>
     have h9 := shapeF_ok g (szL (kids.drop (i + 1)) + m) k c' (HO.out.mono (by omega))
     refine ⟨i + 1, (shapeF g k c').emit ⟨1, 0, []⟩, p9, a ++ [(c'.steps.length : Int)], b ++ [((shapeF g k c').steps.length : Int)], by go_num, by omega, ⟨by simp [hab.out]⟩, ⟨HA.out⟩, ⟨h9.1.emit h9.2.1 _⟩, ⟨?_, ?_⟩, ⟨?_⟩⟩
     ·have := hE.out.1; have := h9.2.2.2; simp [Cs.emit]; omega
     ·intro e he
      have hl := h9.2.2.2
      simp only [Cs.emit, List.length_append, List.length_singleton]
      rcases List.mem_append.1 he with he | he
      ·have := hE.out.2 e he; omega
      ·rw [List.mem_singleton.1 he]; omega
     ·rw [nums_append, nums_append]
      exact M10.out
    case measure => simp [intOf]; omega
   ·obtain rfl : i = kids.length := by omega
    have hA2 := hA.out
    rw [List.drop_length, kidsF] at hA2
    subst hA2
    clear HR hlt hi HK IH
    obtain ⟨A5, c5, e5, _⟩ := hM.out.rowSlice' (k := 7) rfl
    obtain ⟨A6, c6, e6, _⟩ := hM.out.rowSlice' (k := 8) rfl
    subst e5 e6
    have M5 : Mem w0 wr F (c'.own bc (.slice (some ga) g.length gc) p' ++ .row (.slice A5 kids.length c5) 3 1 a.length (nums .i64 a) :: [.blk b3 (.cells #[.int .i64 kind, .int .i64 (d : Int), .int .i64 0, .slice A kids.length n] 31 (0, 0)), .row (.slice A6 kids.length c6) 3 1 kids.length (nums .i64 b)]) := by
     have := hM.out.order [0, 1, 2, 3, 4, 5, 7, 6, 8] rfl
     rw [hab.out.1]
     exact this
    obtain ⟨bS, cS, w6, k1, s6, ⟨u, t6⟩, f6, M6⟩ := M5.setTo hE.out.1
    have hl1 : (c.steps.length : Int) < c'.steps.length := by have := hE.out.1; omega
    have M6 := Aside0.mk M6
    have hE2 := Aside0.mk (show ∀ e ∈ b, 0 ≤ e ∧ e < (c'.setTo c.steps.length a).steps.length by simpa [Cs.setTo, setTos_length] using hE.out.2)
    have hS2 := Aside0.mk (show (c'.setTo c.steps.length a).steps.length ≤ 1000000000 by have h8 := hO.out.st; simp only [Cs.setTo, setTos_length]; simp only [big] at h8; omega)
    have hab2 := hab.out.2
    have HL := Aside0.mk hab2
    clear hab2 hE hA hO M5 hM e1 e2 k0 j1 q0 q1 h3s
    go_wp2
    clear k1 s6 t6 f6 hl1 e3
    obtain ⟨cZ, hcZ⟩ : ∃ cZ, cZ = (c'.setTo c.steps.length a).land b := ⟨_, rfl⟩
    have HZ := Aside0.mk hcZ
    clear hcZ
    go_loopw [8] (fun t wr => ∃ (i : Nat) (c'' : Cs) (p'' : Cp), t = .int .i64 i ∧ i ≤ kids.length ∧ Aside0 (c''.land (b.drop i) = cZ) ∧ Aside0 (∀ e ∈ b, 0 ≤ e ∧ e < c''.steps.length) ∧ Aside0 (c''.steps.length ≤ 1000000000) ∧
     Aside0 (Mem w0 wr F (c''.own bc (.slice (some ga) g.length gc) p'' ++ [.blk b3 (.cells #[.int .i64 kind, .int .i64 (d : Int), .int .i64 0, .slice A kids.length n] 31 (0, 0)), .row (.slice A6 kids.length c6) 3 1 kids.length (nums .i64 b)]))) (fun t _ => kids.length - (intOf t).toNat)
    case atStart => exact ⟨0, _, _, rfl, Nat.zero_le _, ⟨HZ.out.symm⟩, hE2, hS2, M6⟩
    case round =>
     clear M6
     obtain ⟨i, c2, p2, rfl, hi, hA, hE, hS, hM⟩ := hrel
     by_cases hlt : i < kids.length
     ·obtain ⟨b6, c6', e9, j2⟩ := hM.out.rowNum (k := 7) (i := i) rfl HL.out.symm (by have := HL.out; omega)
      simp only [Value.slice.injEq] at e9
      obtain ⟨rfl, hx9, rfl⟩ := e9
      clear hx9
      have hbi : b.getD i 0 ∈ b := by rw [List.getD_eq_getElem?_getD, List.getElem?_eq_getElem (by have := HL.out; omega)]; exact List.getElem_mem _
      obtain ⟨q, hq⟩ : ∃ q : Nat, b.getD i 0 = q := ⟨(b.getD i 0).toNat, by have := (hE.out _ hbi).1; omega⟩
      have hql : q < c2.steps.length := by have := (hE.out _ hbi).2; omega
      have hA2 := hA.out
      rw [List.drop_eq_getElem_cons (by have := HL.out; omega), Cs.land, show b[i]'(by have := HL.out; omega) = (q : Int) by rw [← hq, List.getD_eq_getElem?_getD, List.getElem?_eq_getElem (by have := HL.out; omega)]; rfl, Int.toNat_natCast] at hA2
      have HA := Aside0.mk hA2
      obtain ⟨w7, z7, M7⟩ := hM.out.drew
      rw [hq] at j2
      have j3 := (show w7.cell? ⟨b6, i, none⟩ = some (.int .i64 q) by rw [← z7]; exact j2)
      obtain ⟨n8, w8, z8, a8, M8⟩ := M7.one (c2.steps.length : Int)
      have M8' := (M8.order [0, 1, 2, 3, 4, 5, 8, 6, 7] rfl)
      obtain ⟨bS, cS, w9, k1, s9, ⟨u9', t9⟩, f9, M9⟩ := Mem.setTo (n := q) (xs := [(c2.steps.length : Int)]) (H := [.blk b3 (.cells #[.int .i64 kind, .int .i64 (d : Int), .int .i64 0, .slice A kids.length n] 31 (0, 0)), .row _ 3 1 kids.length (nums .i64 b)]) M8' hql
      have M9 := Aside0.mk M9
      have k2 : w7.cell? ⟨bc, 1, none⟩ = some (.slice (some ⟨bS, 0, none⟩) c2.steps.length cS) := by
       obtain ⟨A, nn, e⟩ := own_vS M7
       have h1 := pw_cell_below (below_alloc (Below.refl _ _) (.cells #[.int .i64 (c2.steps.length : Int)] 3)) e
       rw [a8, k1] at h1
       rw [e, ← h1]
      have hlt' : (i : Int) < kids.length := by omega
      have hql' : (q : Int) < c2.steps.length := by omega
      clear hA hA2 hM hbi hq hql M7 M8 M8'
      have A8 := Aside0.mk (And.intro a8 z8)
      clear a8 z8
      go_wp2_with (first | (rw [z7]) | (refine wp_region_txt (fun _ => True) [] (by kernel_rfl) (by kernel_rfl) ?_))
      iterate 14 (first | (with_reducible refine wpT_nil ?_) | (refine wpT_W (v := ?_) trivial (by decide) (wanted_none rfl) (fun _ hS_ => ?_) ?_; rotate_left; (focus ((try dsimp only at hS_); go_simp; rfl)); (simp only [Act.put, List.setIfInBounds_toArray, List.set_cons_zero, List.set_cons_succ])) | (refine wpT_R (v := ?_) trivial (by decide) (wanted_none rfl) ?_ ?_; rotate_left; (focus (go_simp; rfl)); (simp only [Act.put, List.setIfInBounds_toArray, List.set_cons_zero, List.set_cons_succ])) | (refine wpT_A (v := ?_) (ob := ?_) trivial (by decide) (wanted_none rfl) ?_ ?_ ?_; rotate_left 2; (focus (go_simp; first | (constructor <;> rfl) | rfl)); (focus (exact trivial)); (simp only [Act.put, List.setIfInBounds_toArray, List.set_cons_zero, List.set_cons_succ])))
      rw [A8.out.1, A8.out.2]
      iterate 2 (first | (with_reducible refine wpT_nil ?_) | (refine wpT_W (v := ?_) trivial (by decide) (wanted_none rfl) (fun _ hS_ => ?_) ?_; rotate_left; (focus ((try dsimp only at hS_); go_simp; rfl)); (simp only [Act.put, List.setIfInBounds_toArray, List.set_cons_zero, List.set_cons_succ])) | (refine wpT_R (v := ?_) trivial (by decide) (wanted_none rfl) ?_ ?_; rotate_left; (focus (go_simp; rfl)); (simp only [Act.put, List.setIfInBounds_toArray, List.set_cons_zero, List.set_cons_succ])) | (refine wpT_A (v := ?_) (ob := ?_) trivial (by decide) (wanted_none rfl) ?_ ?_ ?_; rotate_left 2; (focus (go_simp; first | (constructor <;> rfl) | rfl)); (focus (exact trivial)); (simp only [Act.put, List.setIfInBounds_toArray, List.set_cons_zero, List.set_cons_succ])))
      (refine wpT_L trivial (by decide) (wanted_none rfl) (fun K_ hK_ => ?_); go_simp; refine hK_ _ _ trivial ?_; clear hK_)
      refine wpT_nil ?_
      clear k1 k2 j2 j3 s9 t9 f9 z7
      go_wp2
      go_roundw
      case rel => exact ⟨i + 1, _, _, by go_num, by omega, HA, ⟨by simpa [Cs.setTo, setTos_length] using hE.out⟩, ⟨by simpa [Cs.setTo, setTos_length] using hS.out⟩, M9⟩
      case measure => simp [intOf]; omega
     ·obtain rfl : i = kids.length := by omega
      have hA2 := hA.out
      rw [List.drop_eq_nil_of_le (by have := HL.out; omega), Cs.land] at hA2
      go_wp2
      go_end0
      refine ⟨rfl, p2, ?_⟩
      rw [HZ.out] at hA2
      rw [← hA2]
      exact (hM.out.lose (k := 7) rfl).lose (k := 6) rfl
end Go.Proofs.Ytfiiihpdekppiaa
end
section
namespace Go.Proofs.Ytfiiihpdekppiaa
open Go.RowKit Go.Proofs Go.Proofs.YtfiiihpdekppiaaW.PrintWords
open Go.ChangeMaps (setBlock heap_setBlock_same heap_setBlock_other)
open PShapeReducible (S31 k31 at_T31 rd_T31)
theorem frm_len (fs : List Frm) : ∀ h ∈ fs.map Frm.cells, h.length = 3 := by
 intro h hh
 obtain ⟨a, _, rfl⟩ := List.mem_map.1 hh
 rfl
theorem addz (a : Addr) : a.add 0 = a := by
 cases a
 unfold Addr.add
 split <;> simp_all
def rbodyF (g : List (List Int)) (kind node label : Int) (kids : List S31) (c : Cs) : Cs :=
 if kids.length ≠ 1 ∨ node ≠ 0 ∨ label < 0 ∨ c.used.contains label = true then c.fail
 else (seqF g kids (c.open label (decide (kind = 3)))).close (decide (kind = 3)) c.steps.length
set_option maxRecDepth 100000 in
set_option maxHeartbeats 4000000 in
theorem rbody_any (w0 : World) (bc : Nat) (gA : Option Addr) (gc : Nat) (g : List (List Int)) (kind node label : Int) (kids : List S31) (ih : ∀ k ∈ kids, ShapeOk w0 bc gA gc g k)
  (F : List Pc) (c : Cs) (p : Cp) (w : World) (A : Option Addr) (n m : Nat) (M : Mem w0 w F (c.own bc (.slice gA g.length gc) p)) (hok : c.Ok (szL kids + 1 + m)) (hbd : c.bad = false) (hK : k31.C w0 A kids.length kids) :
  Calls Try.prog 89 #[.pointer (some ⟨bc, 0, none⟩), .agg #[.int .i64 kind, .int .i64 node, .int .i64 label, .slice A kids.length n]] w fun e w' => e = .returned (.tuple #[]) ∧ ∃ p', Mem w0 w' F ((rbodyF g kind node label kids c).own bc (.slice gA g.length gc) p') := by
 obtain ⟨vS, vF, vU, ts, bs⟩ := p
 obtain ⟨AU, nU, e, _⟩ := M.rowSlice' (k := 5) rfl
 dsimp only at e
 subst e
 obtain ⟨AS, nS, e, _⟩ := M.rowSlice' (k := 1) rfl
 dsimp only at e
 subst e
 obtain ⟨AF, nF, e, _⟩ := M.rowSlice' (k := 3) rfl
 dsimp only at e
 subst e
 have hus : c.used.length < 1000000000 := by have := hok.us; simp only [big] at this; omega
 obtain ⟨b3, w1, z1, a1, M1⟩ := M.alloc (.cells #[.int .i64 kind, .int .i64 node, .int .i64 label, .slice A kids.length n] 31)
 have M1 := Aside0.mk M1
 have HK := Aside0.mk hK
 have IH := Aside0.mk ih
 have HOK := Aside0.mk hok
 have HBD := Aside0.mk hbd
 have e0 : w1.cell? ⟨b3, 0, none⟩ = some (.int .i64 kind) := M1.out.cell (k := 6) (j := 0) rfl rfl
 obtain ⟨lp, hlp⟩ : ∃ lp, lp = decide (kind = 3) := ⟨_, rfl⟩
 have hlp' : (kind == 3) = lp := by rw [hlp]; exact Bool.beq_eq_decide_eq _ _
 have HLP := Aside0.mk hlp
 clear M hK ih hok hbd hlp
 go_enter Try.func89, Try.ntmps89
 go_wp2
 go_loopw [5] (fun t wr => ∃ (i : Nat) (bad : Bool), t = .int .i64 i ∧ i ≤ c.used.length ∧ Aside0 (bad = (c.used.take i).contains label) ∧
  Aside0 (Mem w0 wr F [.blk bc (.cells #[.slice gA g.length gc, .slice AS c.steps.length nS, .slice AF c.frames.length nF, .slice AU c.used.length nU, .bool bad] 124 (0, 0)), .row (.slice AS c.steps.length nS) 77 3 c.steps.length (recs (c.steps.map Stp.cells) ts), .rows ts (c.steps.map Stp.tos),
   .row (.slice AF c.frames.length nF) 141 4 c.frames.length (recs (c.frames.map Frm.cells) bs), .rows bs (c.frames.map Frm.brk), .row (.slice AU c.used.length nU) 3 1 c.used.length (nums .i64 c.used), .blk b3 (.cells #[.int .i64 kind, .int .i64 node, .int .i64 label, .slice A kids.length n] 31 (0, 0))])) (fun t _ => c.used.length - (intOf t).toNat)
 case atStart => exact ⟨0, false, rfl, Nat.zero_le _, ⟨by simp⟩, ⟨by have := M1.out; rw [← HBD.out]; exact this⟩⟩
 case round =>
  clear M1 e0 a1 z1
  obtain ⟨i, bad, rfl, hi, hB, hM⟩ := hrel
  have k3 : wr.cell? ⟨bc, 3, none⟩ = some (.slice AU c.used.length nU) := hM.out.cell (k := 0) (j := 3) rfl rfl
  by_cases hlt : i < c.used.length
  ·obtain ⟨w2, z2, M2⟩ := hM.out.drew
   obtain ⟨bU, cU, e9, j2⟩ := M2.rowNum (k := 5) (i := i) rfl rfl hlt
   simp only [Value.slice.injEq] at e9
   obtain ⟨rfl, hx9, rfl⟩ := e9
   clear hx9
   obtain ⟨x, hx⟩ : ∃ x, x = c.used.getD i 0 := ⟨_, rfl⟩
   rw [← hx] at j2
   have k3' : w2.cell? ⟨bc, 3, none⟩ = some (.slice (some ⟨bU, 0, none⟩) c.used.length nU) := M2.cell (k := 0) (j := 3) rfl rfl
   have e2 : w2.cell? ⟨b3, 2, none⟩ = some (.int .i64 label) := M2.cell (k := 6) (j := 2) rfl rfl
   have hxe : c.used[i]? = some x := by rw [hx, List.getD_eq_getElem?_getD, List.getElem?_eq_getElem hlt]; rfl
   have hB2 : (c.used.take (i + 1)).contains label = (bad || decide (x = label)) := by
    rw [hB.out, List.take_add_one, hxe]
    simp [Bool.eq_iff_iff, eq_comm]
   have HB := Aside0.mk hB2
   obtain ⟨w3, s3, M3⟩ := M2.set (k := 0) 4 rfl (.bool true)
   have f4 := M2.free (k := 0) (j := 4) rfl
   have k4 : w2.cell? ⟨bc, 4, none⟩ = some (.bool bad) := M2.cell (k := 0) (j := 4) rfl rfl
   have M2 := Aside0.mk M2
   have M3 := Aside0.mk M3
   have hlt' : (i : Int) < c.used.length := by omega
   clear hB hB2 hx hxe
   by_cases hxl : x = label
   ·subst hxl
    go_wp2_with (first | (rw [z2]) | (refine wp_region_txt (fun _ => True) [] (by kernel_rfl) (by kernel_rfl) ?_) | (with_reducible refine wpT_nil ?_) | (refine wpT_W (v := ?_) trivial (by decide) (wanted_none rfl) (fun _ hS_ => ?_) ?_; rotate_left; (focus ((try dsimp only at hS_); go_simp; rfl)); (simp only [Act.put, List.setIfInBounds_toArray, List.set_cons_zero, List.set_cons_succ])) | (refine wpT_R (v := ?_) trivial (by decide) (wanted_none rfl) ?_ ?_; rotate_left; (focus (go_simp; rfl)); (simp only [Act.put, List.setIfInBounds_toArray, List.set_cons_zero, List.set_cons_succ])) | (refine wpT_A (v := ?_) (ob := ?_) trivial (by decide) (wanted_none rfl) ?_ ?_ ?_; rotate_left 2; (focus (go_simp; first | (constructor <;> rfl) | rfl)); (focus (exact trivial)); (simp only [Act.put, List.setIfInBounds_toArray, List.set_cons_zero, List.set_cons_succ])))
    go_roundw
    case rel => exact ⟨i + 1, true, by go_num, by omega, ⟨by rw [HB.out]; simp⟩, M3⟩
    case measure => simp [intOf]; omega
   ·have hxl' : (x == label) = false := by simpa using hxl
    clear s3 f4 k4 M3
    go_wp2_with (first | (rw [z2]) | (refine wp_region_txt (fun _ => True) [] (by kernel_rfl) (by kernel_rfl) ?_) | (with_reducible refine wpT_nil ?_) | (refine wpT_W (v := ?_) trivial (by decide) (wanted_none rfl) (fun _ hS_ => ?_) ?_; rotate_left; (focus ((try dsimp only at hS_); go_simp; rfl)); (simp only [Act.put, List.setIfInBounds_toArray, List.set_cons_zero, List.set_cons_succ])) | (refine wpT_R (v := ?_) trivial (by decide) (wanted_none rfl) ?_ ?_; rotate_left; (focus (go_simp; rfl)); (simp only [Act.put, List.setIfInBounds_toArray, List.set_cons_zero, List.set_cons_succ])) | (refine wpT_A (v := ?_) (ob := ?_) trivial (by decide) (wanted_none rfl) ?_ ?_ ?_; rotate_left 2; (focus (go_simp; first | (constructor <;> rfl) | rfl)); (focus (exact trivial)); (simp only [Act.put, List.setIfInBounds_toArray, List.set_cons_zero, List.set_cons_succ])))
    go_roundw
    case rel => exact ⟨i + 1, bad, by go_num, by omega, ⟨by rw [HB.out]; simp [hxl]⟩, M2⟩
    case measure => simp [intOf]; omega
  ·obtain rfl : i = c.used.length := by omega
   have hB2 := hB.out
   rw [List.take_length] at hB2
   have e1 : wr.cell? ⟨b3, 1, none⟩ = some (.int .i64 node) := hM.out.cell (k := 6) (j := 1) rfl rfl
   have e2 : wr.cell? ⟨b3, 2, none⟩ = some (.int .i64 label) := hM.out.cell (k := 6) (j := 2) rfl rfl
   have e3 : wr.cell? ⟨b3, 3, none⟩ = some (.slice A kids.length n) := hM.out.cell (k := 6) (j := 3) rfl rfl
   have k4 : wr.cell? ⟨bc, 4, none⟩ = some (.bool bad) := hM.out.cell (k := 0) (j := 4) rfl rfl
   obtain ⟨w3, s3, M3⟩ := hM.out.set (k := 0) 4 rfl (.bool true)
   have f4 := hM.out.free (k := 0) (j := 4) rfl
   have M3 := Aside0.mk M3
   have HB := Aside0.mk hB2
   by_cases hbad : kids.length ≠ 1 ∨ node ≠ 0 ∨ label < 0 ∨ c.used.contains label = true
   ·have HF := Aside0.mk (show rbodyF g kind node label kids c = c.fail from if_pos hbad)
    by_cases h1 : kids.length = 1
    ·by_cases h2 : node = 0
     ·by_cases h3 : label < 0
      ·have h1' : ((kids.length : Int) != 1) = false := by simp [h1]
       have h2' : (node != 0) = false := by simp [h2]
       clear hbad h1 h2 hB2 hB hM
       go_wp2
       refine bodyPost_ret (results_none rfl _ _ _) rfl ?_
       refine ⟨rfl, ⟨.slice AS c.steps.length nS, .slice AF c.frames.length nF, .slice AU c.used.length nU, ts, bs⟩, ?_⟩
       rw [HF.out]
       exact M3.out.lose (k := 6) rfl
      ·have h4 : bad = true := by
        rw [hB2]
        rcases hbad with h | h | h | h
        ·exact absurd h1 h
        ·exact absurd h2 h
        ·exact absurd h h3
        ·exact h
       subst h4
       have h1' : ((kids.length : Int) != 1) = false := by simp [h1]
       have h2' : (node != 0) = false := by simp [h2]
       clear hbad h1 h2 hB2 hB hM
       go_wp2
       refine bodyPost_ret (results_none rfl _ _ _) rfl ?_
       refine ⟨rfl, ⟨.slice AS c.steps.length nS, .slice AF c.frames.length nF, .slice AU c.used.length nU, ts, bs⟩, ?_⟩
       rw [HF.out]
       exact M3.out.lose (k := 6) rfl
     ·have h1' : ((kids.length : Int) != 1) = false := by simp [h1]
      clear hbad h1 hB2 hB hM
      go_wp2
      refine bodyPost_ret (results_none rfl _ _ _) rfl ?_
      refine ⟨rfl, ⟨.slice AS c.steps.length nS, .slice AF c.frames.length nF, .slice AU c.used.length nU, ts, bs⟩, ?_⟩
      rw [HF.out]
      exact M3.out.lose (k := 6) rfl
    ·have h1' : ((kids.length : Int) != 1) = true := bne_iff_ne.mpr (by omega)
     clear hbad h1 hB2 hB hM
     go_wp2
     refine bodyPost_ret (results_none rfl _ _ _) rfl ?_
     refine ⟨rfl, ⟨.slice AS c.steps.length nS, .slice AF c.frames.length nF, .slice AU c.used.length nU, ts, bs⟩, ?_⟩
     rw [HF.out]
     exact M3.out.lose (k := 6) rfl
   ·have HF := Aside0.mk (show rbodyF g kind node label kids c = (seqF g kids (c.open label (decide (kind = 3)))).close (decide (kind = 3)) c.steps.length from if_neg hbad)
    have hgood : kids.length = 1 ∧ node = 0 ∧ ¬ label < 0 ∧ c.used.contains label = false := by
     refine ⟨?_, ?_, fun h => hbad (.inr (.inr (.inl h))), ?_⟩
     ·exact Classical.byContradiction (fun h => hbad (.inl h))
     ·exact Classical.byContradiction (fun h => hbad (.inr (.inl h)))
     ·cases h : c.used.contains label with
      | false => rfl
      | true => exact absurd (.inr (.inr (.inr h))) hbad
    obtain ⟨h1, rfl, h3, h4⟩ := hgood
    rw [h4] at hB2
    subst hB2
    obtain ⟨k, rfl⟩ : ∃ k, kids = [k] := List.length_eq_one_iff.1 h1
    clear s3 f4 M3 hB HB hbad h1 h4
    obtain ⟨w4, z4, M4⟩ := hM.out.drew
    have k3d : w4.cell? ⟨bc, 3, none⟩ = some (.slice AU c.used.length nU) := M4.cell (k := 0) (j := 3) rfl rfl
    have e2d : w4.cell? ⟨b3, 2, none⟩ = some (.int .i64 label) := M4.cell (k := 6) (j := 2) rfl rfl
    have M4 := Aside0.mk M4
    have hkl : (([k] : List S31).length : Int) = 1 := rfl
    clear hM
    go_wp2_with (first | (rw [z4]) | (refine wp_region_txt (fun _ => True) [] (by kernel_rfl) (by kernel_rfl) ?_))
    iterate 8 (first | (with_reducible refine wpT_nil ?_) | (refine wpT_W (v := ?_) trivial (by decide) (wanted_none rfl) (fun _ hS_ => ?_) ?_; rotate_left; (focus ((try dsimp only at hS_); go_simp; rfl)); (simp only [Act.put, List.setIfInBounds_toArray, List.set_cons_zero, List.set_cons_succ])) | (refine wpT_R (v := ?_) trivial (by decide) (wanted_none rfl) ?_ ?_; rotate_left; (focus (go_simp; rfl)); (simp only [Act.put, List.setIfInBounds_toArray, List.set_cons_zero, List.set_cons_succ])) | (refine wpT_A (v := ?_) (ob := ?_) trivial (by decide) (wanted_none rfl) ?_ ?_ ?_; rotate_left 2; (focus (go_simp; first | (constructor <;> rfl) | rfl)); (focus (exact trivial)); (simp only [Act.put, List.setIfInBounds_toArray, List.set_cons_zero, List.set_cons_succ])))
    refine wpT_L trivial (by decide) (wanted_none rfl) (fun K_ hK_ => ?_)
    refine step_mem_app (ops := #[]) 5 rfl (.tmp 61) (.tmp 64) 23 3 (.int .i64 0) 1 8 rfl Try.underlying23 PShapeReducible.info3 rfl (by decide) (by decide) _ c.used.length (nums .i64 c.used) [.int .i64 label] rfl rfl rfl (by simp [Value.oneCell']) M4.out rfl (by omega) ?_
    intro A5 c5 w5 M5
    refine hK_ _ _ trivial ?_
    clear hK_
    have d1 : w5.cell? ⟨bc, 3, none⟩ = some (.slice AU c.used.length nU) := M5.cell (k := 0) (j := 3) rfl rfl
    have d2 := M5.free (k := 0) (j := 3) rfl
    obtain ⟨w6, s6, M6⟩ := M5.set (k := 0) 3 rfl (.slice A5 (c.used.length + 1) c5)
    obtain ⟨w7, z7, M7⟩ := M6.drew
    have k1 : w6.cell? ⟨bc, 1, none⟩ = some (.slice AS c.steps.length nS) := M6.cell (k := 0) (j := 1) rfl rfl
    have k2 : w7.cell? ⟨bc, 2, none⟩ = some (.slice AF c.frames.length nF) := M7.cell (k := 0) (j := 2) rfl rfl
    have e2f : w7.cell? ⟨b3, 2, none⟩ = some (.int .i64 label) := M7.cell (k := 6) (j := 2) rfl rfl
    have M7 := Aside0.mk M7
    clear M5 M6
    iterate 2 (first | (with_reducible refine wpT_nil ?_) | (refine wpT_W (v := ?_) trivial (by decide) (wanted_none rfl) (fun _ hS_ => ?_) ?_; rotate_left; (focus ((try dsimp only at hS_); go_simp; rfl)); (simp only [Act.put, List.setIfInBounds_toArray, List.set_cons_zero, List.set_cons_succ])) | (refine wpT_R (v := ?_) trivial (by decide) (wanted_none rfl) ?_ ?_; rotate_left; (focus (go_simp; rfl)); (simp only [Act.put, List.setIfInBounds_toArray, List.set_cons_zero, List.set_cons_succ])) | (refine wpT_A (v := ?_) (ob := ?_) trivial (by decide) (wanted_none rfl) ?_ ?_ ?_; rotate_left 2; (focus (go_simp; first | (constructor <;> rfl) | rfl)); (focus (exact trivial)); (simp only [Act.put, List.setIfInBounds_toArray, List.set_cons_zero, List.set_cons_succ])))
    (refine wpT_L trivial (by decide) (wanted_none rfl) (fun K_ hK_ => ?_); go_simp; refine hK_ _ _ trivial ?_; clear hK_)
    refine wpT_nil ?_
    clear d1 d2 s6 z4 k3d e2d k3 e1 e2 e3 k4
    go_wp2_with (first | (rw [z7]) | (refine wp_region_txt (fun _ => True) [] (by kernel_rfl) (by kernel_rfl) ?_))
    iterate 11 (first | (with_reducible refine wpT_nil ?_) | (refine wpT_W (v := ?_) trivial (by decide) (wanted_none rfl) (fun _ hS_ => ?_) ?_; rotate_left; (focus ((try dsimp only at hS_); go_simp; rfl)); (simp only [Act.put, List.setIfInBounds_toArray, List.set_cons_zero, List.set_cons_succ])) | (refine wpT_R (v := ?_) trivial (by decide) (wanted_none rfl) ?_ ?_; rotate_left; (focus (go_simp; rfl)); (simp only [Act.put, List.setIfInBounds_toArray, List.set_cons_zero, List.set_cons_succ])) | (refine wpT_A (v := ?_) (ob := ?_) trivial (by decide) (wanted_none rfl) ?_ ?_ ?_; rotate_left 2; (focus (go_simp; first | (constructor <;> rfl) | rfl)); (focus (exact trivial)); (simp only [Act.put, List.setIfInBounds_toArray, List.set_cons_zero, List.set_cons_succ])))
    refine wpT_L trivial (by decide) (wanted_none rfl) (fun K_ hK_ => ?_)
    refine step_mem_app (ops := #[]) 3 rfl (.tmp 77) (.tmp 83) 122 141 (.agg #[.int .i64 0, .int .i64 0, .bool false, .slice none 0 0]) 4 48 rfl Try.underlying122 info141 rfl (by decide) (by decide) _ c.frames.length (recs (c.frames.map Frm.cells) bs) [.int .i64 label, .int .i64 (c.steps.length : Int), .bool lp, nilS] rfl rfl rfl (by simp [Value.oneCell']) M7.out rfl (by have := HOK.out.fr; simp only [big] at this; omega) ?_
    intro A8 c8 w8 M8
    refine hK_ _ _ trivial ?_
    clear hK_
    have d1 : w8.cell? ⟨bc, 2, none⟩ = some (.slice AF c.frames.length nF) := M8.cell (k := 0) (j := 2) rfl rfl
    have d2 := M8.free (k := 0) (j := 2) rfl
    obtain ⟨w9, s9, M9⟩ := M8.set (k := 0) 2 rfl (.slice A8 (c.frames.length + 1) c8)
    have hbs : bs.length = c.frames.length := by have := (M8.rows (k := 4) rfl).len; simpa using this
    have M10 : Mem w0 w9 F ((c.open label lp).own bc (.slice gA g.length gc) ⟨.slice AS c.steps.length nS, .slice A8 (c.frames.length + 1) c8, .slice A5 (c.used.length + 1) c5, ts, bs ++ [nilS]⟩ ++ [.blk b3 (.cells #[.int .i64 kind, .int .i64 0, .int .i64 label, .slice A [k].length n] 31 (0, 0))]) := by
     have h1 := ((M9.nilrow 3 1).join (k := 4) (j := 6) (xs := []) rfl rfl).order [1, 2, 3, 4, 0] rfl
     unfold Cs.own Cs.open
     simp only [List.map_append, List.map_cons, List.map_nil, List.length_append, List.length_singleton, nums_append]
     rw [recs_snoc _ _ (by rw [List.length_map]; exact hbs.symm), HBD.out]
     exact h1
    have M10 := Aside0.mk M10
    clear M8 M9
    iterate 2 (first | (with_reducible refine wpT_nil ?_) | (refine wpT_W (v := ?_) trivial (by decide) (wanted_none rfl) (fun _ hS_ => ?_) ?_; rotate_left; (focus ((try dsimp only at hS_); go_simp; rfl)); (simp only [Act.put, List.setIfInBounds_toArray, List.set_cons_zero, List.set_cons_succ])) | (refine wpT_R (v := ?_) trivial (by decide) (wanted_none rfl) ?_ ?_; rotate_left; (focus (go_simp; rfl)); (simp only [Act.put, List.setIfInBounds_toArray, List.set_cons_zero, List.set_cons_succ])) | (refine wpT_A (v := ?_) (ob := ?_) trivial (by decide) (wanted_none rfl) ?_ ?_ ?_; rotate_left 2; (focus (go_simp; first | (constructor <;> rfl) | rfl)); (focus (exact trivial)); (simp only [Act.put, List.setIfInBounds_toArray, List.set_cons_zero, List.set_cons_succ])))
    (refine wpT_L trivial (by decide) (wanted_none rfl) (fun K_ hK_ => ?_); go_simp; refine hK_ _ _ trivial ?_; clear hK_)
    refine wpT_nil ?_
    clear d1 d2 s9 z7 k2 e2f k1 hbs
    obtain ⟨ad, A3, c3, e, g0, g1, g2, g3, hc3, hC3⟩ := kid_at HK.out 0 (by simp)
    subst e
    have e3 : w9.cell? ⟨b3, 3, none⟩ = some (.slice (some ad) [k].length n) := M10.out.cell (k := 6) (j := 3) rfl rfl
    have q0 := pw_cell_below M10.out.hb g0
    have q1 := pw_cell_below M10.out.hb g1
    have q2 := pw_cell_below M10.out.hb g2
    have q3 := pw_cell_below M10.out.hb g3
    simp only [List.getElem_cons_zero, Nat.zero_mul, addz] at q0 q1 q2 q3 hC3 hc3
    have HC3 := Aside0.mk hC3
    have HOO := Aside0.mk (show (c.open label lp).Ok (szF k + m) from (HOK.out.mono (by simp [szL]; omega)).open label lp)
    clear g0 g1 g2 g3 hC3
    go_wp2_with (first
     | (go_at_call 68; refine (IH.out k (by simp) F _ (c.open label lp) _ w9 A3 c3 m M10.out HOO.out HC3.out hc3).mono ?_; rintro e w10 ⟨rfl, p10, M10'⟩; have M11 := Aside0.mk M10'))
    have h9 := shapeF_ok g m k (c.open label lp) HOO.out
    obtain ⟨d, hd⟩ : ∃ d, d = shapeF g k (c.open label lp) := ⟨_, rfl⟩
    rw [← hd] at h9
    have M11 := M11.out
    rw [← hd] at M11
    have hL : d.frames.length = c.frames.length + 1 := by rw [h9.2.2.1]; simp [Cs.open]
    obtain ⟨fs, f, hfs⟩ : ∃ fs f, d.frames = fs ++ [f] := by
     have hne : d.frames ≠ [] := fun h => by rw [h] at hL; simp at hL
     exact ⟨_, _, (List.dropLast_concat_getLast hne).symm⟩
    have hLf : fs.length = c.frames.length := by rw [hfs] at hL; simpa using hL
    have HFIN := Aside0.mk (show rbodyF g kind 0 label [k] c = (if lp = true then Cs.emit { d with frames := fs } ⟨1, 0, [(c.steps.length : Int)]⟩ else { d with frames := fs }).land f.brk by
     rw [HF.out, ← HLP.out]
     simp only [seqF, ← hd, Cs.close, Cs.breaks]
     rw [hfs]
     simp)
    obtain ⟨dst, dfr, dus, dbd⟩ := d
    dsimp only at hfs hLf hL h9 HFIN
    subst hfs
    obtain ⟨vS, vF, vU, ts', bs'⟩ := p10
    obtain ⟨bF, cF, e, hcF, hcell⟩ := M11.rowForm (k := 3) rfl (by simp)
    dsimp only at e
    subst e
    have hbl : bs'.length = fs.length + 1 := by have := (M11.rows (k := 4) rfl).len; simpa using this
    obtain ⟨bs2, v, rfl⟩ : ∃ bs2 v, bs' = bs2 ++ [v] := by
     have hne : bs' ≠ [] := fun h => by rw [h] at hbl; simp at hbl
     exact ⟨_, _, (List.dropLast_concat_getLast hne).symm⟩
    have hbl2 : bs2.length = fs.length := by simpa using hbl
    obtain ⟨Av, nv, hv, hnv⟩ := (M11.rowsPop (k := 4) (vs := bs2) (v := v) (xss := fs.map Frm.brk) (xs := f.brk) (by show some (Pc.rows _ ((fs ++ [f]).map Frm.brk)) = _; rw [List.map_append]; rfl)).rowSlice' (k := 1) rfl
    subst hv
    have hrec : ∀ j, j ≤ 3 → (recs ((fs ++ [f]).map Frm.cells) (bs2 ++ [.slice Av f.brk.length nv]))[fs.length * 4 + j]? = (f.cells ++ [.slice Av f.brk.length nv])[j]? := fun j hj => by
     rw [recs_get (m := 3) (by simp [hbl2]) (frm_len _) (by simp) hj]
     congr 2
     ·simp [List.getD_eq_getElem?_getD]
     ·rw [← hbl2, getD_snoc_new]
    obtain ⟨w12, z12, M12⟩ := M11.drew
    have k2 : w12.cell? ⟨bc, 2, none⟩ = some (.slice (some ⟨bF, 0, none⟩) (fs.length + 1) cF) := by
     have := M12.cell (k := 0) (j := 2) rfl rfl
     simpa using this
    obtain ⟨bF', cF', e', _, hcell2⟩ := M12.rowForm (k := 3) rfl (by simp)
    simp only [Value.slice.injEq, Option.some.injEq, Addr.mk.injEq, and_true, true_and] at e'
    obtain ⟨rfl, rfl⟩ := e'
    have r0 : w12.cell? ⟨bF, fs.length * 4, none⟩ = some (.int .i64 f.label) := hcell2 _ _ ((hrec 0 (by omega)).trans rfl)
    have r1 : w12.cell? ⟨bF, fs.length * 4 + 1, none⟩ = some (.int .i64 f.start) := hcell2 _ _ ((hrec 1 (by omega)).trans rfl)
    have r2 : w12.cell? ⟨bF, fs.length * 4 + 2, none⟩ = some (.bool f.loop) := hcell2 _ _ ((hrec 2 (by omega)).trans rfl)
    have r3 : w12.cell? ⟨bF, fs.length * 4 + 3, none⟩ = some (.slice Av f.brk.length nv) := hcell2 _ _ ((hrec 3 (by omega)).trans rfl)
    obtain ⟨b7, w13, z13, a13, M13⟩ := M12.alloc (.cells #[.int .i64 0, .int .i64 0, .bool false, .slice none 0 0] 141)
    obtain ⟨y1, y2, y3, y4, ys, yc, yf, M14⟩ := M13.fill4 (k := 7) rfl (.int .i64 f.label) (.int .i64 f.start) (.bool f.loop) (.slice Av f.brk.length nv)
    have hfr : fs.length < 1000000000 := by have := HOK.out.fr; simp only [big] at this; omega
    have hw1 : IntKind.i64.wrap (fs.length : Int) = (fs.length : Int) := IntWalk.i64_in _ (by omega)
    have hw2 : (fs.length : Int) < (fs.length : Int) + 1 := by omega
    have A13 := Aside0.mk (And.intro a13 z13)
    have YS := Aside0.mk ys
    have M14 := Aside0.mk M14
    have HB2 := Aside0.mk hbl2
    have HLF := Aside0.mk hLf
    have H9 := Aside0.mk h9
    have HCF := Aside0.mk hcF
    clear a13 z13 M11 M12 M13 hcell hcell2 hrec hd hL hbl hbl2 hLf h9 hcF q0 q1 q2 q3 e3 M10 M7 M4 HF
    go_wp2_with (first | (rw [z12]) | (refine wp_region_txt (fun _ => True) [] (by kernel_rfl) (by kernel_rfl) ?_))
    iterate 13 (first | (with_reducible refine wpT_nil ?_) | (refine wpT_W (v := ?_) trivial (by decide) (wanted_none rfl) (fun _ hS_ => ?_) ?_; rotate_left; (focus ((try dsimp only at hS_); go_simp; rfl)); (simp only [Act.put, List.setIfInBounds_toArray, List.set_cons_zero, List.set_cons_succ])) | (refine wpT_R (v := ?_) trivial (by decide) (wanted_none rfl) ?_ ?_; rotate_left; (focus (go_simp; rfl)); (simp only [Act.put, List.setIfInBounds_toArray, List.set_cons_zero, List.set_cons_succ])) | (refine wpT_A (v := ?_) (ob := ?_) trivial (by decide) (wanted_none rfl) ?_ ?_ ?_; rotate_left 2; (focus (go_simp; first | (constructor <;> rfl) | rfl)); (focus (exact trivial)); (simp only [Act.put, List.setIfInBounds_toArray, List.set_cons_zero, List.set_cons_succ])))
    rw [A13.out.1, A13.out.2]
    obtain ⟨ys1, ys2, ys3, ys4⟩ := YS.out
    obtain ⟨yc1, yc2, yc3, yc4⟩ := yc
    obtain ⟨yf1, yf2, yf3, yf4⟩ := yf
    (refine wpT_L trivial (by decide) (wanted_none rfl) (fun K_ hK_ => ?_); go_simp; refine hK_ _ _ trivial ?_; clear hK_)
    refine wpT_nil ?_
    clear ys1 ys2 ys3 ys4 yc1 yc2 yc3 yc4 yf1 yf2 yf3 yf4 YS r0 r1 r2 r3 k2 z12
    obtain ⟨w15, z15, M15⟩ := M14.out.drew
    have k2 : w15.cell? ⟨bc, 2, none⟩ = some (.slice (some ⟨bF, 0, none⟩) (fs.length + 1) cF) := by
     have := M15.cell (k := 0) (j := 2) rfl rfl
     simpa using this
    have hcF' : fs.length ≤ cF := by have := HCF.out; simp at this; omega
    have f2 := M15.free (k := 0) (j := 2) rfl
    obtain ⟨w16, s16, M16⟩ := M15.set (k := 0) 2 rfl (.slice (some ⟨bF, 0, none⟩) fs.length cF)
    have M16 := Aside0.mk M16
    clear M14 M15
    go_wp2_with (first | (rw [z15]) | (refine wp_region_txt (fun _ => True) [] (by kernel_rfl) (by kernel_rfl) ?_))
    iterate 14 (first | (with_reducible refine wpT_nil ?_) | (refine wpT_W (v := ?_) trivial (by decide) (wanted_none rfl) (fun _ hS_ => ?_) ?_; rotate_left; (focus ((try dsimp only at hS_); go_simp; rfl)); (simp only [Act.put, List.setIfInBounds_toArray, List.set_cons_zero, List.set_cons_succ])) | (refine wpT_R (v := ?_) trivial (by decide) (wanted_none rfl) ?_ ?_; rotate_left; (focus (go_simp; rfl)); (simp only [Act.put, List.setIfInBounds_toArray, List.set_cons_zero, List.set_cons_succ])) | (refine wpT_A (v := ?_) (ob := ?_) trivial (by decide) (wanted_none rfl) ?_ ?_ ?_; rotate_left 2; (focus (go_simp; first | (constructor <;> rfl) | rfl)); (focus (exact trivial)); (simp only [Act.put, List.setIfInBounds_toArray, List.set_cons_zero, List.set_cons_succ])))
    (refine wpT_L trivial (by decide) (wanted_none rfl) (fun K_ hK_ => ?_); go_simp; refine hK_ _ _ trivial ?_; clear hK_)
    refine wpT_nil ?_
    clear k2 f2 s16 z15
    obtain ⟨bd, hbd⟩ : ∃ bd : Cs, bd = ⟨dst, fs, dus, dbd⟩ := ⟨_, rfl⟩
    have M17 : Mem w0 w16 F (bd.own bc (.slice gA g.length gc) ⟨vS, .slice (some ⟨bF, 0, none⟩) fs.length cF, vU, ts', bs2⟩ ++ [.blk b3 (.cells #[.int .i64 kind, .int .i64 0, .int .i64 label, .slice (some ad) [k].length n] 31 (0, 0)), .blk b7 (.cells #[.int .i64 f.label, .int .i64 f.start, .bool f.loop, .slice Av f.brk.length nv] 141 (0, 0)), .row (.slice Av f.brk.length nv) 3 1 f.brk.length (nums .i64 f.brk)]) := by
     have h1 := M16.out.rowCut (k := 3) fs.length rfl (by simp)
     have hk : (recs ((fs ++ [f]).map Frm.cells) (bs2 ++ [.slice Av f.brk.length nv])).take (fs.length * 4) = recs (fs.map Frm.cells) bs2 := by
      rw [recs_take (m := 3) (by simp [HB2.out]) (frm_len _), ← HB2.out]
      simp [List.take_append_of_le_length, HB2.out]
     have h2 := h1.rowsPop (k := 4) (vs := bs2) (v := .slice Av f.brk.length nv) (xss := fs.map Frm.brk) (xs := f.brk) (by show some (Pc.rows _ ((fs ++ [f]).map Frm.brk)) = _; rw [List.map_append]; rfl)
     have h3 := h2.order [2, 3, 4, 5, 0, 6, 7, 8, 1] rfl
     subst hbd
     unfold Cs.own
     rw [← hk]
     exact h3
    have hbrk : ∀ e ∈ f.brk, 0 ≤ e ∧ e < (dst.length : Int) := fun e he => (H9.out.1.br f (by simp)).2 e he
    have HBRK := Aside0.mk hbrk
    have hbig : f.brk.length ≤ 1000000000 := by have h8 := (H9.out.1.br f (by simp)).1; simp only [big] at h8; omega
    have M17 := Aside0.mk M17
    have HBDE := Aside0.mk hbd
    clear hbrk M16 hbd
    cases lp with
    | false =>
     go_wp2
     obtain ⟨cZ, hcZ⟩ : ∃ cZ, cZ = (Cs.mk dst fs dus dbd).land f.brk := ⟨_, rfl⟩
     have HZ := Aside0.mk hcZ
     clear hcZ
     go_loopw [8] (fun t wr => ∃ (i : Nat) (c'' : Cs) (p'' : Cp), t = .int .i64 i ∧ i ≤ f.brk.length ∧ Aside0 (c''.land (f.brk.drop i) = cZ) ∧ Aside0 (∀ e ∈ f.brk, 0 ≤ e ∧ e < c''.steps.length) ∧
      Aside0 (Mem w0 wr F (c''.own bc (.slice gA g.length gc) p'' ++ [.blk b3 (.cells #[.int .i64 kind, .int .i64 0, .int .i64 label, .slice (some ad) [k].length n] 31 (0, 0)), .blk b7 (.cells #[.int .i64 f.label, .int .i64 f.start, .bool f.loop, .slice Av f.brk.length nv] 141 (0, 0)), .row (.slice Av f.brk.length nv) 3 1 f.brk.length (nums .i64 f.brk)]))) (fun t _ => f.brk.length - (intOf t).toNat)
     case atStart => exact ⟨0, _, _, rfl, Nat.zero_le _, ⟨HZ.out.symm⟩, ⟨HBRK.out⟩, ⟨by have := M17.out; rw [HBDE.out] at this; exact this⟩⟩
     case round =>
      obtain ⟨i, c2, p2, rfl, hi, hA, hE, hM⟩ := hrel
      have v3 : wr.cell? ⟨b7, 3, none⟩ = some (.slice Av f.brk.length nv) := hM.out.cell (k := 7) (j := 3) rfl rfl
      by_cases hlt : i < f.brk.length
      ·obtain ⟨w20, z20, M20⟩ := hM.out.drew
       obtain ⟨b6, c6', e9, j2⟩ := M20.rowNum (k := 8) (i := i) rfl rfl hlt
       simp only [Value.slice.injEq] at e9
       obtain ⟨rfl, hx9, rfl⟩ := e9
       clear hx9
       have hbi : f.brk.getD i 0 ∈ f.brk := by rw [List.getD_eq_getElem?_getD, List.getElem?_eq_getElem hlt]; exact List.getElem_mem _
       obtain ⟨q, hq⟩ : ∃ q : Nat, f.brk.getD i 0 = q := ⟨(f.brk.getD i 0).toNat, by have := (hE.out _ hbi).1; omega⟩
       have hql : q < c2.steps.length := by have := (hE.out _ hbi).2; omega
       have hA2 := hA.out
       rw [List.drop_eq_getElem_cons hlt, Cs.land, show f.brk[i] = (q : Int) by rw [← hq, List.getD_eq_getElem?_getD, List.getElem?_eq_getElem hlt]; rfl, Int.toNat_natCast] at hA2
       have HA := Aside0.mk hA2
       rw [hq] at j2
       have v4 : w20.cell? ⟨b7, 3, none⟩ = some (.slice (some ⟨b6, 0, none⟩) f.brk.length nv) := M20.cell (k := 7) (j := 3) rfl rfl
       obtain ⟨n8, w21, z21, a21, M21⟩ := M20.one (c2.steps.length : Int)
       have M21' := (M21.order [0, 1, 2, 3, 4, 5, 9, 6, 7, 8] rfl)
       obtain ⟨bS, cS, w22, k1, s22, ⟨u9', t22⟩, f22, M22⟩ := Mem.setTo (n := q) (xs := [(c2.steps.length : Int)]) (H := [.blk b3 (.cells #[.int .i64 kind, .int .i64 0, .int .i64 label, .slice (some ad) [k].length n] 31 (0, 0)), .blk b7 (.cells #[.int .i64 f.label, .int .i64 f.start, .bool f.loop, .slice (some ⟨b6, 0, none⟩) f.brk.length nv] 141 (0, 0)), .row _ 3 1 f.brk.length (nums .i64 f.brk)]) M21' hql
       have k2 : w20.cell? ⟨bc, 1, none⟩ = some (.slice (some ⟨bS, 0, none⟩) c2.steps.length cS) := by
        obtain ⟨A, nn, e⟩ := own_vS M20
        have h1 := pw_cell_below (below_alloc (Below.refl _ _) (.cells #[.int .i64 (c2.steps.length : Int)] 3)) e
        rw [a21, k1] at h1
        rw [e, ← h1]
       have hlt' : (i : Int) < f.brk.length := by omega
       have hql' : (q : Int) < c2.steps.length := by omega
       have A8 := Aside0.mk (And.intro a21 z21)
       have HLT := Aside0.mk hlt
       have M22 := Aside0.mk M22
       clear hA hA2 hM hbi hq hql M20 M21 M21' a21 z21 hlt
       go_wp2_with (first | (rw [z20]) | (refine wp_region_txt (fun _ => True) [] (by kernel_rfl) (by kernel_rfl) ?_))
       iterate 15 (first | (with_reducible refine wpT_nil ?_) | (refine wpT_W (v := ?_) trivial (by decide) (wanted_none rfl) (fun _ hS_ => ?_) ?_; rotate_left; (focus ((try dsimp only at hS_); go_simp; rfl)); (simp only [Act.put, List.setIfInBounds_toArray, List.set_cons_zero, List.set_cons_succ])) | (refine wpT_R (v := ?_) trivial (by decide) (wanted_none rfl) ?_ ?_; rotate_left; (focus (go_simp; rfl)); (simp only [Act.put, List.setIfInBounds_toArray, List.set_cons_zero, List.set_cons_succ])) | (refine wpT_A (v := ?_) (ob := ?_) trivial (by decide) (wanted_none rfl) ?_ ?_ ?_; rotate_left 2; (focus (go_simp; first | (constructor <;> rfl) | rfl)); (focus (exact trivial)); (simp only [Act.put, List.setIfInBounds_toArray, List.set_cons_zero, List.set_cons_succ])))
       rw [A8.out.1, A8.out.2]
       iterate 2 (first | (with_reducible refine wpT_nil ?_) | (refine wpT_W (v := ?_) trivial (by decide) (wanted_none rfl) (fun _ hS_ => ?_) ?_; rotate_left; (focus ((try dsimp only at hS_); go_simp; rfl)); (simp only [Act.put, List.setIfInBounds_toArray, List.set_cons_zero, List.set_cons_succ])) | (refine wpT_R (v := ?_) trivial (by decide) (wanted_none rfl) ?_ ?_; rotate_left; (focus (go_simp; rfl)); (simp only [Act.put, List.setIfInBounds_toArray, List.set_cons_zero, List.set_cons_succ])) | (refine wpT_A (v := ?_) (ob := ?_) trivial (by decide) (wanted_none rfl) ?_ ?_ ?_; rotate_left 2; (focus (go_simp; first | (constructor <;> rfl) | rfl)); (focus (exact trivial)); (simp only [Act.put, List.setIfInBounds_toArray, List.set_cons_zero, List.set_cons_succ])))
       (refine wpT_L trivial (by decide) (wanted_none rfl) (fun K_ hK_ => ?_); go_simp; refine hK_ _ _ trivial ?_; clear hK_)
       refine wpT_nil ?_
       clear k1 k2 j2 v3 v4 s22 t22 f22 z20
       go_wp2
       go_roundw
       case rel => exact ⟨i + 1, _, _, by go_num, by have := HLT.out; omega, HA, ⟨by simpa [Cs.setTo, setTos_length] using hE.out⟩, M22⟩
       case measure => have := HLT.out; simp [intOf]; omega
      ·obtain rfl : i = f.brk.length := by omega
       have hA2 := hA.out
       rw [List.drop_length, Cs.land] at hA2
       go_wp2
       go_end0
       refine ⟨rfl, p2, ?_⟩
       rw [HFIN.out]
       rw [HZ.out] at hA2
       have h1 := ((hM.out.lose (k := 8) rfl).lose (k := 7) rfl).lose (k := 6) rfl
       rw [hA2] at h1
       exact h1
    | true =>
     obtain ⟨b8, w17, z17, a17, M18⟩ := M17.out.one (c.steps.length : Int)
     have MF : Mem w0 w17 ([.blk b3 (.cells #[.int .i64 kind, .int .i64 0, .int .i64 label, .slice (some ad) [k].length n] 31 (0, 0)), .blk b7 (.cells #[.int .i64 f.label, .int .i64 f.start, .bool f.loop, .slice Av f.brk.length nv] 141 (0, 0)), .row (.slice Av f.brk.length nv) 3 1 f.brk.length (nums .i64 f.brk)] ++ F)
      (bd.own bc (.slice gA g.length gc) ⟨vS, .slice (some ⟨bF, 0, none⟩) fs.length cF, vU, ts', bs2⟩ ++ [.row (.slice (some ⟨b8, 0, none⟩) 1 1) 3 1 ([(c.steps.length : Int)]).length (nums .i64 [(c.steps.length : Int)])]) := M18.focus [0, 1, 2, 3, 4, 5, 9] rfl
     have MF := Aside0.mk MF
     have HLB : bd.steps.length < 1000000000 := by have h8 : dst.length + 1 + 2 * m ≤ big := H9.out.2.1; rw [HBDE.out]; show dst.length < 1000000000; simp only [big] at h8; omega
     clear M18
     go_wp2_with (first
      | (go_at_call 69; refine (emit_any w0 w17 _ bc _ bd _ 1 0 (.slice (some ⟨b8, 0, none⟩) 1 1) [(c.steps.length : Int)] MF.out HLB).mono ?_; rintro e w18 ⟨rfl, A9, c9, M19⟩; have M20 := M19.wide; have M20 := Aside0.mk M20; clear M19))
     obtain ⟨cZ, hcZ⟩ : ∃ cZ, cZ = (bd.emit ⟨1, 0, [(c.steps.length : Int)]⟩).land f.brk := ⟨_, rfl⟩
     have HZ := Aside0.mk hcZ
     clear hcZ
     go_loopw [8] (fun t wr => ∃ (i : Nat) (c'' : Cs) (p'' : Cp), t = .int .i64 i ∧ i ≤ f.brk.length ∧ Aside0 (c''.land (f.brk.drop i) = cZ) ∧ Aside0 (∀ e ∈ f.brk, 0 ≤ e ∧ e < c''.steps.length) ∧
      Aside0 (Mem w0 wr F (c''.own bc (.slice gA g.length gc) p'' ++ [.blk b3 (.cells #[.int .i64 kind, .int .i64 0, .int .i64 label, .slice (some ad) [k].length n] 31 (0, 0)), .blk b7 (.cells #[.int .i64 f.label, .int .i64 f.start, .bool f.loop, .slice Av f.brk.length nv] 141 (0, 0)), .row (.slice Av f.brk.length nv) 3 1 f.brk.length (nums .i64 f.brk)]))) (fun t _ => f.brk.length - (intOf t).toNat)
     case atStart => exact ⟨0, _, _, rfl, Nat.zero_le _, ⟨HZ.out.symm⟩, ⟨fun e he => by have := HBRK.out e he; rw [HBDE.out]; simp [Cs.emit]; omega⟩, M20⟩
     case round =>
      obtain ⟨i, c2, p2, rfl, hi, hA, hE, hM⟩ := hrel
      have v3 : wr.cell? ⟨b7, 3, none⟩ = some (.slice Av f.brk.length nv) := hM.out.cell (k := 7) (j := 3) rfl rfl
      by_cases hlt : i < f.brk.length
      ·obtain ⟨w20, z20, M20⟩ := hM.out.drew
       obtain ⟨b6, c6', e9, j2⟩ := M20.rowNum (k := 8) (i := i) rfl rfl hlt
       simp only [Value.slice.injEq] at e9
       obtain ⟨rfl, hx9, rfl⟩ := e9
       clear hx9
       have hbi : f.brk.getD i 0 ∈ f.brk := by rw [List.getD_eq_getElem?_getD, List.getElem?_eq_getElem hlt]; exact List.getElem_mem _
       obtain ⟨q, hq⟩ : ∃ q : Nat, f.brk.getD i 0 = q := ⟨(f.brk.getD i 0).toNat, by have := (hE.out _ hbi).1; omega⟩
       have hql : q < c2.steps.length := by have := (hE.out _ hbi).2; omega
       have hA2 := hA.out
       rw [List.drop_eq_getElem_cons hlt, Cs.land, show f.brk[i] = (q : Int) by rw [← hq, List.getD_eq_getElem?_getD, List.getElem?_eq_getElem hlt]; rfl, Int.toNat_natCast] at hA2
       have HA := Aside0.mk hA2
       rw [hq] at j2
       have v4 : w20.cell? ⟨b7, 3, none⟩ = some (.slice (some ⟨b6, 0, none⟩) f.brk.length nv) := M20.cell (k := 7) (j := 3) rfl rfl
       obtain ⟨n8, w21, z21, a21, M21⟩ := M20.one (c2.steps.length : Int)
       have M21' := (M21.order [0, 1, 2, 3, 4, 5, 9, 6, 7, 8] rfl)
       obtain ⟨bS, cS, w22, k1, s22, ⟨u9', t22⟩, f22, M22⟩ := Mem.setTo (n := q) (xs := [(c2.steps.length : Int)]) (H := [.blk b3 (.cells #[.int .i64 kind, .int .i64 0, .int .i64 label, .slice (some ad) [k].length n] 31 (0, 0)), .blk b7 (.cells #[.int .i64 f.label, .int .i64 f.start, .bool f.loop, .slice (some ⟨b6, 0, none⟩) f.brk.length nv] 141 (0, 0)), .row _ 3 1 f.brk.length (nums .i64 f.brk)]) M21' hql
       have k2 : w20.cell? ⟨bc, 1, none⟩ = some (.slice (some ⟨bS, 0, none⟩) c2.steps.length cS) := by
        obtain ⟨A, nn, e⟩ := own_vS M20
        have h1 := pw_cell_below (below_alloc (Below.refl _ _) (.cells #[.int .i64 (c2.steps.length : Int)] 3)) e
        rw [a21, k1] at h1
        rw [e, ← h1]
       have hlt' : (i : Int) < f.brk.length := by omega
       have hql' : (q : Int) < c2.steps.length := by omega
       have A8 := Aside0.mk (And.intro a21 z21)
       have HLT := Aside0.mk hlt
       have M22 := Aside0.mk M22
       clear hA hA2 hM hbi hq hql M20 M21 M21' a21 z21 hlt
       go_wp2_with (first | (rw [z20]) | (refine wp_region_txt (fun _ => True) [] (by kernel_rfl) (by kernel_rfl) ?_))
       iterate 15 (first | (with_reducible refine wpT_nil ?_) | (refine wpT_W (v := ?_) trivial (by decide) (wanted_none rfl) (fun _ hS_ => ?_) ?_; rotate_left; (focus ((try dsimp only at hS_); go_simp; rfl)); (simp only [Act.put, List.setIfInBounds_toArray, List.set_cons_zero, List.set_cons_succ])) | (refine wpT_R (v := ?_) trivial (by decide) (wanted_none rfl) ?_ ?_; rotate_left; (focus (go_simp; rfl)); (simp only [Act.put, List.setIfInBounds_toArray, List.set_cons_zero, List.set_cons_succ])) | (refine wpT_A (v := ?_) (ob := ?_) trivial (by decide) (wanted_none rfl) ?_ ?_ ?_; rotate_left 2; (focus (go_simp; first | (constructor <;> rfl) | rfl)); (focus (exact trivial)); (simp only [Act.put, List.setIfInBounds_toArray, List.set_cons_zero, List.set_cons_succ])))
       rw [A8.out.1, A8.out.2]
       iterate 2 (first | (with_reducible refine wpT_nil ?_) | (refine wpT_W (v := ?_) trivial (by decide) (wanted_none rfl) (fun _ hS_ => ?_) ?_; rotate_left; (focus ((try dsimp only at hS_); go_simp; rfl)); (simp only [Act.put, List.setIfInBounds_toArray, List.set_cons_zero, List.set_cons_succ])) | (refine wpT_R (v := ?_) trivial (by decide) (wanted_none rfl) ?_ ?_; rotate_left; (focus (go_simp; rfl)); (simp only [Act.put, List.setIfInBounds_toArray, List.set_cons_zero, List.set_cons_succ])) | (refine wpT_A (v := ?_) (ob := ?_) trivial (by decide) (wanted_none rfl) ?_ ?_ ?_; rotate_left 2; (focus (go_simp; first | (constructor <;> rfl) | rfl)); (focus (exact trivial)); (simp only [Act.put, List.setIfInBounds_toArray, List.set_cons_zero, List.set_cons_succ])))
       (refine wpT_L trivial (by decide) (wanted_none rfl) (fun K_ hK_ => ?_); go_simp; refine hK_ _ _ trivial ?_; clear hK_)
       refine wpT_nil ?_
       clear k1 k2 j2 v3 v4 s22 t22 f22 z20
       go_wp2
       go_roundw
       case rel => exact ⟨i + 1, _, _, by go_num, by have := HLT.out; omega, HA, ⟨by simpa [Cs.setTo, setTos_length] using hE.out⟩, M22⟩
       case measure => have := HLT.out; simp [intOf]; omega
      ·obtain rfl : i = f.brk.length := by omega
       have hA2 := hA.out
       rw [List.drop_length, Cs.land] at hA2
       go_wp2
       go_end0
       refine ⟨rfl, p2, ?_⟩
       rw [HFIN.out]
       rw [HBDE.out] at HZ
       rw [HZ.out] at hA2
       have h1 := ((hM.out.lose (k := 8) rfl).lose (k := 7) rfl).lose (k := 6) rfl
       rw [hA2] at h1
       exact h1
end Go.Proofs.Ytfiiihpdekppiaa
end
