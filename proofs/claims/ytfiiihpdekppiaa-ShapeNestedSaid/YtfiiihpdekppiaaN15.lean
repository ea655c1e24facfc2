/- A part of the proof that vellumlaw12.ShapeNested is true for every input: walks of functions that the row reaches and plain laws that they need. Conditions: none. Joined by merge.py out of S9 C23; a part that began as a print is named P or W there and is trimmed. -/
import Derived.Test.YtfiiihpdekppiaaN11
import Derived.Test.YtfiiihpdekppiaaN14
set_option linter.unusedVariables false
set_option linter.unusedSimpArgs false
section
namespace Go.Proofs.Ytfiiihpdekppiaa
open PShapeReducible (S31)
mutual
def szF : S31 → Nat
  | ⟨_, _, _, ks⟩ => 1 + szL ks
def szL : List S31 → Nat
  | [] => 0
  | k :: ks => szF k + szL ks
end
abbrev big : Nat := 1000000000
structure Cs.Ok (m : Nat) (c : Cs) : Prop where
  st : c.steps.length + 2 * m ≤ big
  us : c.used.length + m ≤ big
  fr : c.frames.length + m ≤ big
  br : ∀ f ∈ c.frames, f.brk.length + m ≤ big ∧ ∀ b ∈ f.brk, 0 ≤ b ∧ b < c.steps.length
theorem setTos_length (ss : List Stp) (n : Nat) (xs : List Int) : (setTos ss n xs).length = ss.length := by simp [setTos]
theorem addBrk_length (fs : List Frm) (n : Nat) (j : Int) : (addBrk fs n j).length = fs.length := by simp [addBrk]
section
variable {c : Cs} {m : Nat}
theorem Cs.Ok.mono {m' : Nat} (h : c.Ok m) (hm : m' ≤ m) : c.Ok m' :=
  ⟨by have := h.st; omega, by have := h.us; omega, by have := h.fr; omega, fun f hf => ⟨by have := (h.br f hf).1; omega, (h.br f hf).2⟩⟩
theorem Cs.Ok.emit (h : c.Ok m) (h1 : c.steps.length + 1 + 2 * m ≤ big) (p : Stp) : (c.emit p).Ok m :=
  ⟨by simp [Cs.emit]; omega, h.us, h.fr, fun f hf => ⟨(h.br f hf).1, fun b hb => by have := (h.br f hf).2 b hb; simp [Cs.emit]; omega⟩⟩
theorem Cs.Ok.setTo (h : c.Ok m) (n : Nat) (xs : List Int) : (c.setTo n xs).Ok m :=
  ⟨by simpa [Cs.setTo, setTos_length] using h.st, h.us, h.fr, fun f hf => ⟨(h.br f hf).1, fun b hb => by simpa [Cs.setTo, setTos_length] using (h.br f hf).2 b hb⟩⟩
theorem Cs.Ok.fail (h : c.Ok m) : c.fail.Ok m := ⟨h.st, h.us, h.fr, h.br⟩
theorem land_frames : ∀ (es : List Int) (c : Cs), (c.land es).frames = c.frames
  | [], _ => rfl
  | e :: es, c => by rw [Cs.land, land_frames es]; rfl
theorem land_length : ∀ (es : List Int) (c : Cs), (c.land es).steps.length = c.steps.length
  | [], _ => rfl
  | e :: es, c => by rw [Cs.land, land_length es]; simp [Cs.setTo, setTos_length]
theorem Cs.Ok.land : ∀ (es : List Int) {c : Cs}, c.Ok m → (c.land es).Ok m
  | [], _, h => h
  | e :: es, c, h => by rw [Cs.land]; exact Cs.Ok.land es (h.setTo _ _)
theorem Cs.Ok.open (h : c.Ok (m + 1)) (l : Int) (b : Bool) : (c.open l b).Ok m :=
  ⟨by have := h.st; simp [Cs.open]; omega, by have := h.us; simp [Cs.open]; omega, by have := h.fr; simp [Cs.open]; omega, fun f hf => by
    simp only [Cs.open, List.mem_append, List.mem_singleton] at hf
    rcases hf with hf | rfl
    · exact ⟨by have := (h.br f hf).1; omega, (h.br f hf).2⟩
    · exact ⟨by have := h.st; simp; omega, by simp⟩⟩
theorem Cs.Ok.close (h : c.Ok m) (h1 : c.steps.length + 1 + 2 * m ≤ big) (loop : Bool) (s : Int) : (c.close loop s).Ok m ∧ (c.close loop s).frames.length = c.frames.length - 1 ∧ c.steps.length ≤ (c.close loop s).steps.length ∧ (c.close loop s).steps.length ≤ c.steps.length + 1 := by
  have h2 : Cs.Ok m { c with frames := c.frames.take (c.frames.length - 1) } :=
    ⟨h.st, h.us, by have := h.fr; simp; omega, fun f hf => h.br f (List.mem_of_mem_take hf)⟩
  unfold Cs.close
  refine ⟨?_, ?_, ?_, ?_⟩
  · refine Cs.Ok.land _ ?_
    split
    · exact h2.emit h1 _
    · exact h2
  · rw [land_frames]; split <;> simp [Cs.emit]
  · rw [land_length]; split <;> simp [Cs.emit]
  · rw [land_length]; split <;> simp [Cs.emit]
theorem mem_addBrk {fs : List Frm} {n : Nat} {j : Int} {f : Frm} (h : f ∈ addBrk fs n j) : f ∈ fs ∨ ∃ f0 ∈ fs, f = { f0 with brk := f0.brk ++ [j] } := by
  obtain ⟨i, hi⟩ := List.mem_iff_getElem?.1 h
  simp only [addBrk, List.getElem?_modify] at hi
  cases h2 : fs[i]? with
  | none => simp [h2] at hi
  | some f0 =>
    have hm := List.mem_of_getElem? h2
    by_cases hn : n = i
    · simp [h2, hn] at hi; exact .inr ⟨f0, hm, hi.symm⟩
    · simp [h2, hn] at hi; exact .inl (hi ▸ hm)
theorem Cs.Ok.leave (h : c.Ok (m + 1)) (k n l : Int) (ks : List S31) : (c.leave k n l ks).Ok m ∧ (c.leave k n l ks).steps.length + 1 + 2 * m ≤ big ∧ (c.leave k n l ks).frames.length = c.frames.length ∧ c.steps.length ≤ (c.leave k n l ks).steps.length := by
  have hst := h.st
  have h0 : c.Ok m := h.mono (by omega)
  unfold Cs.leave
  simp only []
  split
  · exact ⟨h0.fail, by simp [Cs.fail]; omega, rfl, Nat.le_refl _⟩
  · have h1 := h0.emit (by omega) ⟨1, 0, []⟩
    split
    · refine ⟨⟨h1.st, h1.us, by simpa [addBrk_length] using h1.fr, fun f hf => ?_⟩, by simp [Cs.emit]; omega, by simp [addBrk_length, Cs.emit], by simp [Cs.emit]⟩
      rcases mem_addBrk hf with hf | ⟨f0, hf0, rfl⟩
      · exact h1.br f hf
      · have h2 := h.br f0 hf0
        refine ⟨by simp; omega, fun b hb => ?_⟩
        rcases List.mem_append.1 hb with hb | hb
        · exact (h1.br f0 hf0).2 b hb
        · rw [List.mem_singleton.1 hb]
          simp [Cs.emit]; omega
    · exact ⟨h1.setTo _ _, by simp [Cs.setTo, setTos_length, Cs.emit]; omega, rfl, by simp [Cs.setTo, setTos_length, Cs.emit]⟩
end
mutual
theorem shapeF_ok (g : List (List Int)) (m : Nat) : ∀ (s : S31) (c : Cs), c.Ok (szF s + m) → (shapeF g s c).Ok m ∧ (shapeF g s c).steps.length + 1 + 2 * m ≤ big ∧ (shapeF g s c).frames.length = c.frames.length ∧ c.steps.length ≤ (shapeF g s c).steps.length
  | ⟨kind, node, label, kids⟩, c, h => by
    simp only [szF] at h
    have hst := h.st
    have h0 : c.Ok m := h.mono (by omega)
    rw [shapeF]
    split
    · exact ⟨h0, by omega, rfl, Nat.le_refl _⟩
    split
    · split
      · exact ⟨h0.fail, by simp [Cs.fail]; omega, rfl, Nat.le_refl _⟩
      · have := seqF_ok g (m + 1) kids c (h.mono (by omega))
        have h1 := this.1.st
        exact ⟨this.1.mono (by omega), by omega, this.2⟩
    split
    · split
      · exact ⟨h0.fail, by simp [Cs.fail]; omega, rfl, Nat.le_refl _⟩
      · have h1 := (h.mono (m' := szL kids + m) (by omega)).emit (by omega) ⟨0, node, []⟩
        have h2 := kidsF_ok g m kids _ [] [] h1
        simp only []
        refine ⟨Cs.Ok.land _ (h2.1.setTo _ _), ?_, ?_, ?_⟩
        · rw [land_length]; simp only [Cs.setTo, setTos_length]; have h3 := h2.2.1; simp [Cs.emit] at h3; simp only [Cs.emit]; omega
        · rw [land_frames]; simp only [Cs.setTo]; rw [h2.2.2.1]; rfl
        · rw [land_length]; simp only [Cs.setTo, setTos_length]; have h3 := h2.2.2.2.1; simp only [Cs.emit, List.length_append] at h3 ⊢; omega
    split
    · split
      · exact ⟨h0.fail, by simp [Cs.fail]; omega, rfl, Nat.le_refl _⟩
      · have h1 := (h.mono (m' := szL kids + m + 1) (by omega)).open label (decide (kind = 3))
        have h2 := seqF_ok g m kids _ h1
        have hs : (c.open label (decide (kind = 3))).steps.length = c.steps.length := rfl
        have h5 := h2.2.2
        rw [hs] at h5
        have h4 : (seqF g kids (c.open label (decide (kind = 3)))).steps.length + 1 + 2 * m ≤ big := by
          have := seqF_st g kids (c.open label (decide (kind = 3)))
          rw [hs] at this
          omega
        have h3 := h2.1.close h4 (decide (kind = 3)) c.steps.length
        refine ⟨h3.1, ?_, ?_, ?_⟩
        · have := seqF_st g kids (c.open label (decide (kind = 3)))
          rw [hs] at this
          have := h3.2.2.2
          omega
        · rw [h3.2.1, h2.2.1]; simp [Cs.open]
        · have := h3.2.2.1; omega
    split
    · exact Cs.Ok.leave (h.mono (by omega)) _ _ _ _
    · exact ⟨h0.fail, by simp [Cs.fail]; omega, rfl, Nat.le_refl _⟩
theorem seqF_ok (g : List (List Int)) (m : Nat) : ∀ (ks : List S31) (c : Cs), c.Ok (szL ks + m) → (seqF g ks c).Ok m ∧ (seqF g ks c).frames.length = c.frames.length ∧ c.steps.length ≤ (seqF g ks c).steps.length
  | [], c, h => by rw [seqF]; exact ⟨h.mono (by omega), rfl, Nat.le_refl _⟩
  | k :: ks, c, h => by
    rw [seqF]
    simp only [szL] at h
    have h1 := shapeF_ok g (szL ks + m) k c (h.mono (by omega))
    have h2 := seqF_ok g m ks _ h1.1
    exact ⟨h2.1, by rw [h2.2.1, h1.2.2.1], by have := h1.2.2.2; have := h2.2.2; omega⟩
theorem kidsF_ok (g : List (List Int)) (m : Nat) : ∀ (ks : List S31) (c : Cs) (a b : List Int), c.Ok (szL ks + m) → (kidsF g ks c a b).1.Ok m ∧ (kidsF g ks c a b).1.steps.length + 2 * m ≤ c.steps.length + 2 * (szL ks + m) ∧ (kidsF g ks c a b).1.frames.length = c.frames.length ∧ c.steps.length ≤ (kidsF g ks c a b).1.steps.length ∧ True
  | [], c, a, b, h => by rw [kidsF]; exact ⟨h.mono (by omega), by simp only [szL]; omega, rfl, Nat.le_refl _, trivial⟩
  | k :: ks, c, a, b, h => by
    rw [kidsF]
    simp only [szL] at h ⊢
    have h1 := shapeF_ok g (szL ks + m) k c (h.mono (by omega))
    have h2 := kidsF_ok g m ks ((shapeF g k c).emit ⟨1, 0, []⟩) (a ++ [(c.steps.length : Int)]) (b ++ [((shapeF g k c).steps.length : Int)]) (h1.1.emit (by omega) _)
    have h3 := shapeF_st g k c
    have he : ((shapeF g k c).emit ⟨1, 0, []⟩).steps.length = (shapeF g k c).steps.length + 1 := by simp [Cs.emit]
    rw [he] at h2
    refine ⟨h2.1, ?_, by rw [h2.2.2.1]; exact h1.2.2.1, by have := h1.2.2.2; have := h2.2.2.2.1; omega, trivial⟩
    have := h2.2.1
    omega
theorem shapeF_st (g : List (List Int)) : ∀ (s : S31) (c : Cs), (shapeF g s c).steps.length + 1 ≤ c.steps.length + 2 * szF s
  | ⟨kind, node, label, kids⟩, c => by
    simp only [szF]
    rw [shapeF]
    split
    · omega
    split
    · split
      · simp [Cs.fail]; omega
      · have := seqF_st g kids c; omega
    split
    · split
      · simp [Cs.fail]; omega
      · simp only [land_length, Cs.setTo, setTos_length]
        have := kidsF_st g kids (c.emit ⟨0, node, []⟩) [] []
        simp only [Cs.emit, List.length_append, List.length_singleton] at this ⊢
        omega
    split
    · split
      · simp [Cs.fail]; omega
      · have := seqF_st g kids (c.open label (decide (kind = 3)))
        simp only [Cs.close, land_length]
        simp only [Cs.open] at this ⊢
        split <;> simp [Cs.emit] <;> omega
    split
    · unfold Cs.leave
      simp only []
      split
      · simp [Cs.fail]; omega
      · split <;> simp [Cs.setTo, setTos_length, Cs.emit] <;> omega
    · simp [Cs.fail]; omega
theorem seqF_st (g : List (List Int)) : ∀ (ks : List S31) (c : Cs), (seqF g ks c).steps.length ≤ c.steps.length + 2 * szL ks
  | [], c => by rw [seqF]; omega
  | k :: ks, c => by
    rw [seqF]
    simp only [szL]
    have := shapeF_st g k c
    have := seqF_st g ks (shapeF g k c)
    omega
theorem kidsF_st (g : List (List Int)) : ∀ (ks : List S31) (c : Cs) (a b : List Int), (kidsF g ks c a b).1.steps.length ≤ c.steps.length + 2 * szL ks
  | [], c, a, b => by rw [kidsF]; simp only []; omega
  | k :: ks, c, a, b => by
    rw [kidsF]
    simp only [szL]
    have := shapeF_st g k c
    have := kidsF_st g ks ((shapeF g k c).emit ⟨1, 0, []⟩) (a ++ [(c.steps.length : Int)]) (b ++ [((shapeF g k c).steps.length : Int)])
    simp only [Cs.emit, List.length_append, List.length_singleton] at this ⊢
    omega
end
end Go.Proofs.Ytfiiihpdekppiaa
end
section
namespace Go.Proofs.Ytfiiihpdekppiaa
open Go.RowKit Go.Proofs Go.Proofs.YtfiiihpdekppiaaW.PrintWords
open Go.ChangeMaps (setBlock heap_setBlock_same heap_setBlock_other)
open PShapeReducible (S31 k31 at_T31 rd_T31)
section
variable {w0 w : World} {F H L : List Pc}
theorem Mem.narrow {R : List Pc} (h : Mem w0 w F (L ++ R)) : Mem w0 w (R ++ F) L := h.perm (by rw [List.append_assoc])
theorem Mem.one (h : Mem w0 w F H) (x : Int) : ∃ b w2, w.heap.size = b ∧ w.alloc (.cells #[.int .i64 x] 3) = w2 ∧ Mem w0 w2 F (H ++ [.row (.slice (some ⟨b, 0, none⟩) 1 1) 3 1 1 (nums .i64 [x])]) :=
  ⟨_, _, rfl, rfl, h.newrow ((Below.refl _ _).alloc (Nat.le_refl _) _) (own_lit1 w w.heap.size x (Nat.le_refl _)) (fun k hk => by simp [Value.ownBlock] at hk; omega)⟩
theorem emit0 (bc : Nat) (gv : Value) (c : Cs) (p : Cp) (a b : Int) (h : Mem w0 w F (c.own bc gv p ++ H)) (hl : c.steps.length < 1000000000) :
    Calls Try.prog 69 #[.pointer (some ⟨bc, 0, none⟩), .agg #[.int .i64 a, .int .i64 b, .slice none 0 0]] w fun e w' => e = .returned (.int .i64 c.steps.length) ∧ ∃ p', Mem w0 w' F ((c.emit ⟨a, b, []⟩).own bc gv p' ++ H) := by
  refine (emit_any w0 w (H ++ F) bc gv c p a b nilS [] (h.narrow.nilrow 3 1) hl).mono ?_
  rintro e w' ⟨rfl, A, cc, M⟩
  exact ⟨rfl, _, M.wide⟩
theorem setTos_cells (ss : List Stp) (n : Nat) (xs : List Int) : (setTos ss n xs).map Stp.cells = ss.map Stp.cells := by
  apply List.ext_getElem?
  intro i
  simp only [setTos, List.getElem?_map, List.getElem?_modify]
  cases ss[i]? with
  | none => rfl
  | some q => by_cases hn : n = i <;> simp [hn, Stp.cells]
theorem setTos_tos (ss : List Stp) (n : Nat) (xs : List Int) : (setTos ss n xs).map Stp.tos = (ss.map Stp.tos).set n xs := by
  apply List.ext_getElem?
  intro i
  simp only [setTos, List.getElem?_map, List.getElem?_modify, List.getElem?_set]
  by_cases hn : n = i
  · subst hn
    by_cases hl : n < ss.length
    · simp [hl]
    · simp [hl]
  · simp [hn]
end
theorem step_cell {ss : List Stp} {ts : List Value} (hl : ts.length = ss.length) {n j : Nat} (hn : n < ss.length) (hj : j ≤ 2) : (recs (ss.map Stp.cells) ts)[n * 3 + j]? = ((ss.map Stp.cells).getD n [] ++ [ts.getD n nilS])[j]? :=
  recs_get (m := 2) (by simpa using hl.symm) (by simp [Stp.cells]) (by simpa using hn) hj
theorem Mem.setTo {w0 w : World} {F H : List Pc} {bc : Nat} {gv : Value} {c : Cs} {p : Cp} {n : Nat} {v : Value} {xs : List Int} (h : Mem w0 w F (c.own bc gv p ++ .row v 3 1 xs.length (nums .i64 xs) :: H)) (hn : n < c.steps.length) :
    ∃ b cc w2, w.cell? ⟨bc, 1, none⟩ = some (.slice (some ⟨b, 0, none⟩) c.steps.length cc) ∧ w.setCell ⟨b, n * 3 + 2, none⟩ v = w2 ∧ (∃ u, w.cell? ⟨b, n * 3 + 2, none⟩ = some u) ∧ w.frozen? ⟨b, n * 3 + 2, none⟩ = false ∧ Mem w0 w2 F ((c.setTo n xs).own bc gv { p with ts := p.ts.set n v } ++ H) := by
  obtain ⟨vS, vF, vU, ts, bs⟩ := p
  obtain ⟨b, cc, e, hcc, hcell⟩ := h.rowForm (k := 1) rfl (by omega)
  dsimp only at e
  subst e
  have hts : ts.length = c.steps.length := by have := (h.rows (k := 2) rfl).len; simpa using this
  have h1 := h.row (k := 1) rfl
  obtain ⟨w2, e2, M2⟩ := h.rowPut (k := 1) (n * 3 + 2) rfl v
  refine ⟨b, cc, w2, h.cell (k := 0) (j := 1) rfl rfl, e2, ?_, h1.frozenAt _, ?_⟩
  · have := step_cell hts hn (j := 2) (by omega)
    have h2 : ((c.steps.map Stp.cells).getD n [] ++ [ts.getD n nilS])[2]? = some (ts.getD n nilS) := by
      simp [List.getD_eq_getElem?_getD, List.getElem?_map, List.getElem?_eq_getElem hn, Stp.cells]
    exact ⟨_, hcell _ _ (this.trans h2)⟩
  · have hrec : (recs (c.steps.map Stp.cells) ts).set (n * 3 + 2) v = recs (c.steps.map Stp.cells) (ts.set n v) := recs_set (m := 2) (by simpa using hts.symm) (by simp [Stp.cells]) (by simpa using hn) v
    have M3 : Mem w0 w2 F (.blk bc (.cells #[gv, .slice (some ⟨b, 0, none⟩) c.steps.length cc, vF, vU, .bool c.bad] 124 (0, 0)) :: .row (.slice (some ⟨b, 0, none⟩) c.steps.length cc) 77 3 c.steps.length ((recs (c.steps.map Stp.cells) ts).set (n * 3 + 2) v) :: .rows ts (c.steps.map Stp.tos) ::
      .row vF 141 4 c.frames.length (recs (c.frames.map Frm.cells) bs) :: .rows bs (c.frames.map Frm.brk) :: .row vU 3 1 c.used.length (nums .i64 c.used) :: .row v 3 1 xs.length (nums .i64 xs) :: H) := M2
    rw [hrec] at M3
    have M4 := M3.rowsSwap (k := 2) (j := 5) (i := n) rfl rfl (by omega)
    have M5 : Mem w0 w2 F (.rows (ts.set n v) ((c.steps.map Stp.tos).set n xs) :: .blk bc (.cells #[gv, .slice (some ⟨b, 0, none⟩) c.steps.length cc, vF, vU, .bool c.bad] 124 (0, 0)) :: .row (.slice (some ⟨b, 0, none⟩) c.steps.length cc) 77 3 c.steps.length (recs (c.steps.map Stp.cells) (ts.set n v)) ::
      .row vF 141 4 c.frames.length (recs (c.frames.map Frm.cells) bs) :: .rows bs (c.frames.map Frm.brk) :: .row vU 3 1 c.used.length (nums .i64 c.used) :: H) := M4
    unfold Cs.own Cs.setTo
    simp only [setTos_cells, setTos_tos, setTos_length]
    refine M5.perm (List.Perm.append_right F ?_)
    simp only [List.cons_append, List.nil_append]
    exact ((List.Perm.swap _ _ _).cons _).trans (List.Perm.swap _ _ _) |>.symm |> fun h => by
      first | exact h | exact h.symm | exact (List.Perm.trans (List.Perm.cons _ (List.Perm.swap _ _ _)) (List.Perm.swap _ _ _))
def ShapeOk (w0 : World) (bc : Nat) (gA : Option Addr) (gc : Nat) (g : List (List Int)) (s : S31) : Prop :=
  ∀ (F H : List Pc) (c : Cs) (p : Cp) (w : World) (A : Option Addr) (n m : Nat), Mem w0 w F (c.own bc (.slice gA g.length gc) p ++ H) → c.Ok (szF s + m) → k31.C w0 A s.f3.length s.f3 → s.f3.length ≤ n →
    Calls Try.prog 68 #[.pointer (some ⟨bc, 0, none⟩), .agg #[.int .i64 s.f0, .int .i64 s.f1, .int .i64 s.f2, .slice A s.f3.length n]] w fun e w' => e = .returned (.tuple #[]) ∧ ∃ p', Mem w0 w' F ((shapeF g s c).own bc (.slice gA g.length gc) p' ++ H)
theorem own_vS {w0 w : World} {F H : List Pc} {bc : Nat} {gv : Value} {c : Cs} {p : Cp} (M : Mem w0 w F (c.own bc gv p ++ H)) : ∃ A n, w.cell? ⟨bc, 1, none⟩ = some (.slice A c.steps.length n) := by
  obtain ⟨A, n, e, _⟩ := M.rowSlice' (k := 1) rfl
  have := M.cell (k := 0) (j := 1) rfl rfl
  exact ⟨A, n, this.trans (congrArg some e)⟩
theorem kid_at {w : World} {A : Option Addr} {xs : List S31} (h : k31.C w A xs.length xs) (i : Nat) (hi : i < xs.length) : ∃ ad A3 c3, A = some ad ∧ w.cell? (ad.add (i * 4)) = some (.int .i64 xs[i].f0) ∧ w.cell? ⟨(ad.add (i * 4)).block, (ad.add (i * 4)).off + 1, none⟩ = some (.int .i64 xs[i].f1) ∧
    w.cell? ⟨(ad.add (i * 4)).block, (ad.add (i * 4)).off + 2, none⟩ = some (.int .i64 xs[i].f2) ∧ w.cell? ⟨(ad.add (i * 4)).block, (ad.add (i * 4)).off + 3, none⟩ = some (.slice A3 xs[i].f3.length c3) ∧ xs[i].f3.length ≤ c3 ∧ k31.C w A3 xs[i].f3.length xs[i].f3 := by
  have := at_T31 h i (by omega) (by omega)
  have e : rd_T31 xs i = xs[i] := by simp [rd_T31, List.getD_eq_getElem?_getD, hi]
  rw [e] at this
  simpa using this
theorem szL_len : ∀ ks : List S31, ks.length ≤ szL ks
  | [] => Nat.le_refl _
  | ⟨_, _, _, _⟩ :: ks => by have := szL_len ks; simp [szL, szF]; omega
def rvisitF (g : List (List Int)) (node label : Int) (kids : List S31) (c : Cs) : Cs :=
  if node < 0 ∨ (g.length : Int) ≤ node ∨ kids.length ≠ (g.getD node.toNat []).length ∨ label ≠ 0 then c.fail
  else
    let r := kidsF g kids (c.emit ⟨0, node, []⟩) [] []
    (r.1.setTo c.steps.length r.2.1).land r.2.2
set_option maxRecDepth 100000 in
set_option maxHeartbeats 4000000 in
theorem rvisit_any (w0 : World) (bc : Nat) (gA : Option Addr) (gc : Nat) (g : List (List Int)) (hG : kG.C w0 gA g.length g) (hg : g.length ≤ 1000000000) (kind node label : Int) (kids : List S31) (ih : ∀ k ∈ kids, ShapeOk w0 bc gA gc g k)
    (F : List Pc) (c : Cs) (p : Cp) (w : World) (A : Option Addr) (n m : Nat) (M : Mem w0 w F (c.own bc (.slice gA g.length gc) p)) (hok : c.Ok (szL kids + 1 + m)) (hK : k31.C w0 A kids.length kids) (hn : kids.length ≤ n) :
    Calls Try.prog 88 #[.pointer (some ⟨bc, 0, none⟩), .agg #[.int .i64 kind, .int .i64 node, .int .i64 label, .slice A kids.length n]] w fun e w' => e = .returned (.tuple #[]) ∧ ∃ p', Mem w0 w' F ((rvisitF g node label kids c).own bc (.slice gA g.length gc) p') := by
  obtain ⟨b3, w1, z1, a1, M1⟩ := M.alloc (.cells #[.int .i64 kind, .int .i64 node, .int .i64 label, .slice A kids.length n] 31)
  obtain ⟨w2, z2, M2⟩ := M1.drew
  have e1 : w2.cell? ⟨b3, 1, none⟩ = some (.int .i64 node) := M2.cell (k := 6) (j := 1) rfl rfl
  have e2 : w2.cell? ⟨b3, 2, none⟩ = some (.int .i64 label) := M2.cell (k := 6) (j := 2) rfl rfl
  have e3 : w2.cell? ⟨b3, 3, none⟩ = some (.slice A kids.length n) := M2.cell (k := 6) (j := 3) rfl rfl
  have k0 : w2.cell? ⟨bc, 0, none⟩ = some (.slice gA g.length gc) := M2.cell (k := 0) (j := 0) rfl rfl
  have HG := Aside0.mk hG
  have HK := Aside0.mk hK
  have IH := Aside0.mk ih
  clear M M1 hG hK ih
  unfold rvisitF
  by_cases hbad : node < 0 ∨ (g.length : Int) ≤ node ∨ kids.length ≠ (g.getD node.toNat []).length ∨ label ≠ 0
  · rw [if_pos hbad]
    obtain ⟨w3, s3, M3⟩ := M2.set (k := 0) 4 rfl (.bool true)
    have f4 := M2.free (k := 0) (j := 4) rfl
    have k4 : w2.cell? ⟨bc, 4, none⟩ = some (.bool c.bad) := M2.cell (k := 0) (j := 4) rfl rfl
    have M3 := Aside0.mk M3
    by_cases h1 : node < 0
    · clear M2 hbad
      go_enter Try.func88, Try.ntmps88
      go_wp2_with (first | (rw [z2]) | (refine wp_region_txt (fun _ => True) [] (by kernel_rfl) (by kernel_rfl) ?_) | (with_reducible refine wpT_nil ?_) | (refine wpT_W (v := ?_) trivial (by decide) (by first | exact wanted_none rfl | rfl) (fun _ hS_ => ?_) ?_; rotate_left; (focus ((try dsimp only at hS_); go_simp; rfl)); (simp only [Act.put, List.setIfInBounds_toArray, List.set_cons_zero, List.set_cons_succ])) | (refine wpT_R (v := ?_) trivial (by decide) (by first | exact wanted_none rfl | rfl) ?_ ?_; rotate_left; (focus (go_simp; rfl)); (simp only [Act.put, List.setIfInBounds_toArray, List.set_cons_zero, List.set_cons_succ])) | (refine wpT_A (v := ?_) (ob := ?_) trivial (by decide) (by first | exact wanted_none rfl | rfl) ?_ ?_ ?_; rotate_left 2; (focus (go_simp; first | (constructor <;> rfl) | rfl)); (focus (exact trivial)); (simp only [Act.put, List.setIfInBounds_toArray, List.set_cons_zero, List.set_cons_succ])) | (refine wpT_no trivial rfl (by decide) ?_; (simp only [Act.put, List.setIfInBounds_toArray, List.set_cons_zero, List.set_cons_succ])))
      refine bodyPost_ret (results_none rfl _ _ _) rfl ?_
      exact ⟨rfl, _, M3.out.lose (k := 6) rfl⟩
    by_cases h2 : (g.length : Int) ≤ node
    · clear M2 hbad
      have h2' : node ≥ (g.length : Int) := h2
      go_enter Try.func88, Try.ntmps88
      go_wp2_with (first | (rw [z2]) | (refine wp_region_txt (fun _ => True) [] (by kernel_rfl) (by kernel_rfl) ?_) | (with_reducible refine wpT_nil ?_) | (refine wpT_W (v := ?_) trivial (by decide) (by first | exact wanted_none rfl | rfl) (fun _ hS_ => ?_) ?_; rotate_left; (focus ((try dsimp only at hS_); go_simp; rfl)); (simp only [Act.put, List.setIfInBounds_toArray, List.set_cons_zero, List.set_cons_succ])) | (refine wpT_R (v := ?_) trivial (by decide) (by first | exact wanted_none rfl | rfl) ?_ ?_; rotate_left; (focus (go_simp; rfl)); (simp only [Act.put, List.setIfInBounds_toArray, List.set_cons_zero, List.set_cons_succ])) | (refine wpT_A (v := ?_) (ob := ?_) trivial (by decide) (by first | exact wanted_none rfl | rfl) ?_ ?_ ?_; rotate_left 2; (focus (go_simp; first | (constructor <;> rfl) | rfl)); (focus (exact trivial)); (simp only [Act.put, List.setIfInBounds_toArray, List.set_cons_zero, List.set_cons_succ])) | (refine wpT_no trivial rfl (by decide) ?_; (simp only [Act.put, List.setIfInBounds_toArray, List.set_cons_zero, List.set_cons_succ])))
      refine bodyPost_ret (results_none rfl _ _ _) rfl ?_
      exact ⟨rfl, _, M3.out.lose (k := 6) rfl⟩
    obtain ⟨d, rfl⟩ : ∃ d : Nat, node = d := ⟨node.toNat, by omega⟩
    have hd : d < g.length := by omega
    obtain ⟨ga, Ar, cr, e, j1, hcr, hr⟩ := C_row (Kd.C_below HG.out M2.hb) d hd
    subst e
    have hd' : (d : Int) < g.length := by omega
    simp only [Int.toNat_natCast] at hbad
    obtain ⟨l, hl⟩ : ∃ l, l = g.getD d [] := ⟨_, rfl⟩
    rw [← hl] at hbad j1 hcr hr
    have q0 : ¬ ((d : Int) < 0) := by omega
    have q1 : ¬ g.length ≤ d := by omega
    clear hr hcr hl
    by_cases h3 : kids.length = l.length
    · have h4 : label ≠ 0 := by
        rcases hbad with h | h | h | h
        · exact absurd h h1
        · exact absurd h h2
        · exact absurd h3 h
        · exact h
      have h3s := h3.symm
      clear h3
      clear M2 hbad h2 h1
      go_enter Try.func88, Try.ntmps88
      go_wp2_with (first | (rw [z2]) | (refine wp_region_txt (fun _ => True) [] (by kernel_rfl) (by kernel_rfl) ?_) | (with_reducible refine wpT_nil ?_) | (refine wpT_W (v := ?_) trivial (by decide) (by first | exact wanted_none rfl | rfl) (fun _ hS_ => ?_) ?_; rotate_left; (focus ((try dsimp only at hS_); go_simp; rfl)); (simp only [Act.put, List.setIfInBounds_toArray, List.set_cons_zero, List.set_cons_succ])) | (refine wpT_R (v := ?_) trivial (by decide) (by first | exact wanted_none rfl | rfl) ?_ ?_; rotate_left; (focus (go_simp; rfl)); (simp only [Act.put, List.setIfInBounds_toArray, List.set_cons_zero, List.set_cons_succ])) | (refine wpT_A (v := ?_) (ob := ?_) trivial (by decide) (by first | exact wanted_none rfl | rfl) ?_ ?_ ?_; rotate_left 2; (focus (go_simp; first | (constructor <;> rfl) | rfl)); (focus (exact trivial)); (simp only [Act.put, List.setIfInBounds_toArray, List.set_cons_zero, List.set_cons_succ])) | (refine wpT_no trivial rfl (by decide) ?_; (simp only [Act.put, List.setIfInBounds_toArray, List.set_cons_zero, List.set_cons_succ])))
      refine bodyPost_ret (results_none rfl _ _ _) rfl ?_
      exact ⟨rfl, _, M3.out.lose (k := 6) rfl⟩
    · have h3s : ((kids.length : Int) != (l.length : Int)) = true := bne_iff_ne.mpr (by omega)
      clear M2 hbad h2 h1
      go_enter Try.func88, Try.ntmps88
      go_wp2_with (first | (rw [z2]) | (refine wp_region_txt (fun _ => True) [] (by kernel_rfl) (by kernel_rfl) ?_) | (with_reducible refine wpT_nil ?_) | (refine wpT_W (v := ?_) trivial (by decide) (by first | exact wanted_none rfl | rfl) (fun _ hS_ => ?_) ?_; rotate_left; (focus ((try dsimp only at hS_); go_simp; rfl)); (simp only [Act.put, List.setIfInBounds_toArray, List.set_cons_zero, List.set_cons_succ])) | (refine wpT_R (v := ?_) trivial (by decide) (by first | exact wanted_none rfl | rfl) ?_ ?_; rotate_left; (focus (go_simp; rfl)); (simp only [Act.put, List.setIfInBounds_toArray, List.set_cons_zero, List.set_cons_succ])) | (refine wpT_A (v := ?_) (ob := ?_) trivial (by decide) (by first | exact wanted_none rfl | rfl) ?_ ?_ ?_; rotate_left 2; (focus (go_simp; first | (constructor <;> rfl) | rfl)); (focus (exact trivial)); (simp only [Act.put, List.setIfInBounds_toArray, List.set_cons_zero, List.set_cons_succ])) | (refine wpT_no trivial rfl (by decide) ?_; (simp only [Act.put, List.setIfInBounds_toArray, List.set_cons_zero, List.set_cons_succ])))
      refine bodyPost_ret (results_none rfl _ _ _) rfl ?_
      exact ⟨rfl, _, M3.out.lose (k := 6) rfl⟩
  · rw [if_neg hbad]
    have hbad' : 0 ≤ node ∧ node < (g.length : Int) ∧ kids.length = (g.getD node.toNat []).length ∧ label = 0 := by
      refine ⟨?_, ?_, ?_, ?_⟩
      · exact Int.not_lt.1 (fun h => hbad (.inl h))
      · exact Int.not_le.1 (fun h => hbad (.inr (.inl h)))
      · exact Classical.byContradiction (fun h => hbad (.inr (.inr (.inl h))))
      · exact Classical.byContradiction (fun h => hbad (.inr (.inr (.inr h))))
    obtain ⟨h1, h2, h3, rfl⟩ := hbad'
    obtain ⟨d, rfl⟩ : ∃ d : Nat, node = d := ⟨node.toNat, by omega⟩
    have hd : d < g.length := by omega
    obtain ⟨ga, Ar, cr, e, j1, hcr, hr⟩ := C_row (Kd.C_below HG.out M2.hb) d hd
    subst e
    have hd' : (d : Int) < g.length := by omega
    simp only [Int.toNat_natCast] at h3
    obtain ⟨l, hl⟩ : ∃ l, l = g.getD d [] := ⟨_, rfl⟩
    rw [← hl] at h3 j1 hcr hr
    have q0 : ¬ ((d : Int) < 0) := by omega
    have q1 : ¬ g.length ≤ d := by omega
    have h3s := h3.symm
    have M3 : Mem w0 w2 F (c.own bc (.slice (some ga) g.length gc) p ++ [.blk b3 (.cells #[.int .i64 kind, .int .i64 (d : Int), .int .i64 0, .slice A kids.length n] 31 (0, 0))]) := M2
    have hst := hok.st
    have hck : c.steps.length < 1000000000 := by simp only [big] at hst; omega
    have hbig : kids.length < 1000000000 := by have := szL_len kids; simp only [big] at hst; omega
    obtain ⟨R, hR⟩ : ∃ R, R = kidsF g kids (c.emit ⟨0, d, []⟩) [] [] := ⟨_, rfl⟩
    rw [← hR]
    have HR := Aside0.mk hR
    have M3 := Aside0.mk M3
    have HOK := Aside0.mk hok
    obtain ⟨N, hN⟩ : ∃ N, N = c.steps.length := ⟨_, rfl⟩
    have HN := Aside0.mk hN
    clear M2 hbad h3 hr hcr hl hR hok hst h1 h2
    go_enter Try.func88, Try.ntmps88
    go_wp2_with (first
      | (go_at_call 69; refine (emit0 bc _ c p 0 (d : Int) M3.out hck).mono ?_; rintro e w4 ⟨rfl, p4, M4⟩; have M4 := Aside0.mk M4)
      | (rw [z2]) | (refine wp_region_txt (fun _ => True) [] (by kernel_rfl) (by kernel_rfl) ?_) | (with_reducible refine wpT_nil ?_) | (refine wpT_W (v := ?_) trivial (by decide) (by first | exact wanted_none rfl | rfl) (fun _ hS_ => ?_) ?_; rotate_left; (focus ((try dsimp only at hS_); go_simp; rfl)); (simp only [Act.put, List.setIfInBounds_toArray, List.set_cons_zero, List.set_cons_succ])) | (refine wpT_R (v := ?_) trivial (by decide) (by first | exact wanted_none rfl | rfl) ?_ ?_; rotate_left; (focus (go_simp; rfl)); (simp only [Act.put, List.setIfInBounds_toArray, List.set_cons_zero, List.set_cons_succ])) | (refine wpT_A (v := ?_) (ob := ?_) trivial (by decide) (by first | exact wanted_none rfl | rfl) ?_ ?_ ?_; rotate_left 2; (focus (go_simp; first | (constructor <;> rfl) | rfl)); (focus (exact trivial)); (simp only [Act.put, List.setIfInBounds_toArray, List.set_cons_zero, List.set_cons_succ])) | (refine wpT_no trivial rfl (by decide) ?_; (simp only [Act.put, List.setIfInBounds_toArray, List.set_cons_zero, List.set_cons_succ])))
    go_loopw [5, 6, 7] (fun v5 v6 t wr => ∃ (i : Nat) (c' : Cs) (p' : Cp) (a b : List Int), t = .int .i64 i ∧ i ≤ kids.length ∧ Aside0 (a.length = i ∧ b.length = i) ∧ Aside0 (kidsF g (kids.drop i) c' a b = R) ∧ Aside0 (c'.Ok (szL (kids.drop i) + m)) ∧ Aside0 (c.steps.length < c'.steps.length ∧ ∀ e ∈ b, 0 ≤ e ∧ e < c'.steps.length) ∧
      Aside0 (Mem w0 wr F (c'.own bc (.slice (some ga) g.length gc) p' ++ [.blk b3 (.cells #[.int .i64 kind, .int .i64 (d : Int), .int .i64 0, .slice A kids.length n] 31 (0, 0)), .row v5 3 1 i (nums .i64 a), .row v6 3 1 i (nums .i64 b)]))) (fun _ _ t _ => kids.length - (intOf t).toNat)
    case atStart =>
      refine ⟨0, _, p4, [], [], rfl, Nat.zero_le _, ⟨rfl, rfl⟩, ⟨HR.out.symm⟩, ⟨?_⟩, ⟨by simp [Cs.emit], by simp⟩, ⟨?_⟩⟩
      · have h1 := HOK.out
        have h2 := h1.st
        exact (h1.mono (by simp)).emit (by simp at h2 ⊢; omega) _
      · exact (M4.out.nilrow 3 1).nilrow 3 1
    case round =>
      clear M3 M4 HOK
      obtain ⟨i, c', p', a, b, rfl, hi, hab, hA, hO, hE, hM⟩ := hrel
      have e3 := hM.out.cell (k := 6) (j := 3) rfl rfl
      by_cases hlt : i < kids.length
      · obtain ⟨k, hk⟩ : ∃ k, k = kids[i] := ⟨_, rfl⟩
        obtain ⟨ad, A3, c3, e, g0, g1, g2, g3, hc3, hC3⟩ := kid_at HK.out i hlt
        subst e
        rw [← hk] at g0 g1 g2 g3 hc3 hC3
        have hA2 := hA.out
        have hO2 := hO.out
        rw [List.drop_eq_getElem_cons hlt, ← hk] at hA2 hO2
        rw [kidsF] at hA2
        simp only [szL] at hO2
        have hkm : k ∈ kids := by rw [hk]; exact List.getElem_mem hlt
        have IHK := Aside0.mk (IH.out k hkm)
        have HA := Aside0.mk hA2
        have HO := Aside0.mk hO2
        have HC3 := Aside0.mk hC3
        have GG := Aside0.mk (And.intro g0 (And.intro g1 (And.intro g2 g3)))
        obtain ⟨AS, cS, k1⟩ := own_vS hM.out
        obtain ⟨A5, c5, e5, _⟩ := hM.out.rowSlice' (k := 7) rfl
        obtain ⟨A6, c6, e6, _⟩ := hM.out.rowSlice' (k := 8) rfl
        subst e5 e6
        have hlt' : (i : Int) < kids.length := by omega
        have HD := Aside0.mk (show (shapeF g k c').steps.length < 1000000000 by have h9 := (shapeF_ok g (szL (kids.drop (i + 1)) + m) k c' (HO.out.mono (by omega))).2.1; simp only [big] at h9; omega)
        clear hA hO hA2 hO2 hkm hC3 g0 g1 g2 g3 hk e1 e2 k0 j1 q0 q1 h3s
        go_wp2_with (first
          | ((with_reducible refine gate_dst (N := 66) rfl ?_); refine mem_append 7 (.tmp 59) (.tmp 65) 23 3 (.int .i64 0) 1 8 rfl rfl Try.underlying23 PShapeReducible.info3 rfl (by decide) (by decide) _ i (nums .i64 a) [.int .i64 (c'.steps.length : Int)] rfl rfl rfl (by simp [Value.oneCell']) hM.out rfl (by omega) ?_; intro A7 c7 w7 M7; have g3 := M7.cell (k := 6) (j := 3) rfl rfl; have q0 := pw_cell_below M7.hb GG.out.1; have q1 := pw_cell_below M7.hb GG.out.2.1; have q2 := pw_cell_below M7.hb GG.out.2.2.1; have q3 := pw_cell_below M7.hb GG.out.2.2.2; have M7 := Aside0.mk M7)
          | (go_at_call 68; refine (IHK.out F _ c' p' w7 A3 c3 (szL (kids.drop (i + 1)) + m) M7.out (HO.out.mono (by omega)) HC3.out hc3).mono ?_; rintro e w8 ⟨rfl, p8, M8⟩; have M8 := Aside0.mk M8)
          | (go_at_call 69; refine (emit0 bc _ _ p8 1 0 M8.out HD.out).mono ?_; rintro e w9 ⟨rfl, p9, M9⟩; have M9 := Aside0.mk M9)
          | ((with_reducible refine gate_dst (N := 79) rfl ?_); refine mem_append 8 (.tmp 74) (.tmp 78) 23 3 (.int .i64 0) 1 8 rfl rfl Try.underlying23 PShapeReducible.info3 rfl (by decide) (by decide) _ i (nums .i64 b) [.int .i64 ((shapeF g k c').steps.length : Int)] rfl rfl rfl (by simp [Value.oneCell']) M9.out rfl (by omega) ?_; intro A10 c10 w10 M10; have M10 := Aside0.mk M10))
        go_roundw
        case rel =>
          have h9 := shapeF_ok g (szL (kids.drop (i + 1)) + m) k c' (HO.out.mono (by omega))
          refine ⟨i + 1, (shapeF g k c').emit ⟨1, 0, []⟩, p9, a ++ [(c'.steps.length : Int)], b ++ [((shapeF g k c').steps.length : Int)], by go_num, by omega, ⟨by simp [hab.out]⟩, ⟨HA.out⟩, ⟨h9.1.emit h9.2.1 _⟩, ⟨?_, ?_⟩, ⟨?_⟩⟩
          · have := hE.out.1; have := h9.2.2.2; simp [Cs.emit]; omega
          · intro e he
            have hl := h9.2.2.2
            simp only [Cs.emit, List.length_append, List.length_singleton]
            rcases List.mem_append.1 he with he | he
            · have := hE.out.2 e he; omega
            · rw [List.mem_singleton.1 he]; omega
          · rw [nums_append, nums_append]
            exact M10.out
        case measure => simp [intOf]; omega
      · obtain rfl : i = kids.length := by omega
        have hA2 := hA.out
        rw [List.drop_length, kidsF] at hA2
        subst hA2
        clear HR hlt hi HK IH
        obtain ⟨A5, c5, e5, _⟩ := hM.out.rowSlice' (k := 7) rfl
        obtain ⟨A6, c6, e6, _⟩ := hM.out.rowSlice' (k := 8) rfl
        subst e5 e6
        have M5 : Mem w0 wr F (c'.own bc (.slice (some ga) g.length gc) p' ++ .row (.slice A5 kids.length c5) 3 1 a.length (nums .i64 a) :: [.blk b3 (.cells #[.int .i64 kind, .int .i64 (d : Int), .int .i64 0, .slice A kids.length n] 31 (0, 0)), .row (.slice A6 kids.length c6) 3 1 kids.length (nums .i64 b)]) := by
          have := hM.out.order [0, 1, 2, 3, 4, 5, 7, 6, 8] rfl
          rw [hab.out.1]
          exact this
        obtain ⟨bS, cS, w6, k1, s6, ⟨u, t6⟩, f6, M6⟩ := M5.setTo hE.out.1
        have hl1 : (c.steps.length : Int) < c'.steps.length := by have := hE.out.1; omega
        have M6 := Aside0.mk M6
        have hE2 := Aside0.mk (show ∀ e ∈ b, 0 ≤ e ∧ e < (c'.setTo c.steps.length a).steps.length by simpa [Cs.setTo, setTos_length] using hE.out.2)
        have hS2 := Aside0.mk (show (c'.setTo c.steps.length a).steps.length ≤ 1000000000 by have h8 := hO.out.st; simp only [Cs.setTo, setTos_length]; simp only [big] at h8; omega)
        have hab2 := hab.out.2
        have HL := Aside0.mk hab2
        clear hab2 hE hA hO M5 hM e1 e2 k0 j1 q0 q1 h3s
        go_wp2
        clear k1 s6 t6 f6 hl1 e3
        obtain ⟨cZ, hcZ⟩ : ∃ cZ, cZ = (c'.setTo c.steps.length a).land b := ⟨_, rfl⟩
        have HZ := Aside0.mk hcZ
        clear hcZ
        go_loopw [8] (fun t wr => ∃ (i : Nat) (c'' : Cs) (p'' : Cp), t = .int .i64 i ∧ i ≤ kids.length ∧ Aside0 (c''.land (b.drop i) = cZ) ∧ Aside0 (∀ e ∈ b, 0 ≤ e ∧ e < c''.steps.length) ∧ Aside0 (c''.steps.length ≤ 1000000000) ∧
          Aside0 (Mem w0 wr F (c''.own bc (.slice (some ga) g.length gc) p'' ++ [.blk b3 (.cells #[.int .i64 kind, .int .i64 (d : Int), .int .i64 0, .slice A kids.length n] 31 (0, 0)), .row (.slice A6 kids.length c6) 3 1 kids.length (nums .i64 b)]))) (fun t _ => kids.length - (intOf t).toNat)
        case atStart => exact ⟨0, _, _, rfl, Nat.zero_le _, ⟨HZ.out.symm⟩, hE2, hS2, M6⟩
        case round =>
          clear M6
          obtain ⟨i, c2, p2, rfl, hi, hA, hE, hS, hM⟩ := hrel
          by_cases hlt : i < kids.length
          · obtain ⟨b6, c6', e9, j2⟩ := hM.out.rowNum (k := 7) (i := i) rfl HL.out.symm (by have := HL.out; omega)
            simp only [Value.slice.injEq] at e9
            obtain ⟨rfl, hx9, rfl⟩ := e9
            clear hx9
            have hbi : b.getD i 0 ∈ b := by rw [List.getD_eq_getElem?_getD, List.getElem?_eq_getElem (by have := HL.out; omega)]; exact List.getElem_mem _
            obtain ⟨q, hq⟩ : ∃ q : Nat, b.getD i 0 = q := ⟨(b.getD i 0).toNat, by have := (hE.out _ hbi).1; omega⟩
            have hql : q < c2.steps.length := by have := (hE.out _ hbi).2; omega
            have hA2 := hA.out
            rw [List.drop_eq_getElem_cons (by have := HL.out; omega), Cs.land, show b[i]'(by have := HL.out; omega) = (q : Int) by rw [← hq, List.getD_eq_getElem?_getD, List.getElem?_eq_getElem (by have := HL.out; omega)]; rfl, Int.toNat_natCast] at hA2
            have HA := Aside0.mk hA2
            obtain ⟨w7, z7, M7⟩ := hM.out.drew
            rw [hq] at j2
            have j3 := (show w7.cell? ⟨b6, i, none⟩ = some (.int .i64 q) by rw [← z7]; exact j2)
            obtain ⟨n8, w8, z8, a8, M8⟩ := M7.one (c2.steps.length : Int)
            have M8' := (M8.order [0, 1, 2, 3, 4, 5, 8, 6, 7] rfl)
            obtain ⟨bS, cS, w9, k1, s9, ⟨u9', t9⟩, f9, M9⟩ := Mem.setTo (n := q) (xs := [(c2.steps.length : Int)]) (H := [.blk b3 (.cells #[.int .i64 kind, .int .i64 (d : Int), .int .i64 0, .slice A kids.length n] 31 (0, 0)), .row _ 3 1 kids.length (nums .i64 b)]) M8' hql
            have M9 := Aside0.mk M9
            have k2 : w7.cell? ⟨bc, 1, none⟩ = some (.slice (some ⟨bS, 0, none⟩) c2.steps.length cS) := by
              obtain ⟨A, nn, e⟩ := own_vS M7
              have h1 := pw_cell_below (below_alloc (Below.refl _ _) (.cells #[.int .i64 (c2.steps.length : Int)] 3)) e
              rw [a8, k1] at h1
              rw [e, ← h1]
            have hlt' : (i : Int) < kids.length := by omega
            have hql' : (q : Int) < c2.steps.length := by omega
            clear hA hA2 hM hbi hq hql M7 M8 M8'
            have A8 := Aside0.mk (And.intro a8 z8)
            clear a8 z8
            go_wp2_with (first | (rw [z7]) | (refine wp_region_txt (fun _ => True) [] (by kernel_rfl) (by kernel_rfl) ?_))
            iterate 14 (first | (with_reducible refine wpT_nil ?_) | (refine wpT_W (v := ?_) trivial (by decide) (wanted_none rfl) (fun _ hS_ => ?_) ?_; rotate_left; (focus ((try dsimp only at hS_); go_simp; rfl)); (simp only [Act.put, List.setIfInBounds_toArray, List.set_cons_zero, List.set_cons_succ])) | (refine wpT_R (v := ?_) trivial (by decide) (wanted_none rfl) ?_ ?_; rotate_left; (focus (go_simp; rfl)); (simp only [Act.put, List.setIfInBounds_toArray, List.set_cons_zero, List.set_cons_succ])) | (refine wpT_A (v := ?_) (ob := ?_) trivial (by decide) (wanted_none rfl) ?_ ?_ ?_; rotate_left 2; (focus (go_simp; first | (constructor <;> rfl) | rfl)); (focus (exact trivial)); (simp only [Act.put, List.setIfInBounds_toArray, List.set_cons_zero, List.set_cons_succ])))
            rw [A8.out.1, A8.out.2]
            iterate 2 (first | (with_reducible refine wpT_nil ?_) | (refine wpT_W (v := ?_) trivial (by decide) (wanted_none rfl) (fun _ hS_ => ?_) ?_; rotate_left; (focus ((try dsimp only at hS_); go_simp; rfl)); (simp only [Act.put, List.setIfInBounds_toArray, List.set_cons_zero, List.set_cons_succ])) | (refine wpT_R (v := ?_) trivial (by decide) (wanted_none rfl) ?_ ?_; rotate_left; (focus (go_simp; rfl)); (simp only [Act.put, List.setIfInBounds_toArray, List.set_cons_zero, List.set_cons_succ])) | (refine wpT_A (v := ?_) (ob := ?_) trivial (by decide) (wanted_none rfl) ?_ ?_ ?_; rotate_left 2; (focus (go_simp; first | (constructor <;> rfl) | rfl)); (focus (exact trivial)); (simp only [Act.put, List.setIfInBounds_toArray, List.set_cons_zero, List.set_cons_succ])))
            (refine wpT_L trivial (by decide) (wanted_none rfl) (fun K_ hK_ => ?_); go_simp; refine hK_ _ _ trivial ?_; clear hK_)
            refine wpT_nil ?_
            clear k1 k2 j2 j3 s9 t9 f9 z7
            go_wp2
            go_roundw
            case rel => exact ⟨i + 1, _, _, by go_num, by omega, HA, ⟨by simpa [Cs.setTo, setTos_length] using hE.out⟩, ⟨by simpa [Cs.setTo, setTos_length] using hS.out⟩, M9⟩
            case measure => simp [intOf]; omega
          · obtain rfl : i = kids.length := by omega
            have hA2 := hA.out
            rw [List.drop_eq_nil_of_le (by have := HL.out; omega), Cs.land] at hA2
            go_wp2
            go_end0
            refine ⟨rfl, p2, ?_⟩
            rw [HZ.out] at hA2
            rw [← hA2]
            exact (hM.out.lose (k := 7) rfl).lose (k := 6) rfl
end Go.Proofs.Ytfiiihpdekppiaa
end
