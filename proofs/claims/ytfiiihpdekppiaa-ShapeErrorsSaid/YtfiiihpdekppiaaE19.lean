/- A part of the proof that vellumlaw12.ShapeErrors is true for every input: walks of functions that the row reaches and plain laws that they need. Conditions: none. Joined by merge.py out of C33 C34 S12 C35 B13; a part that began as a print is named P or W there and is trimmed. -/
import Derived.Test.YtfiiihpdekppiaaE5
import Derived.Test.YtfiiihpdekppiaaE16
import Derived.Test.YtfiiihpdekppiaaE17
import Derived.Test.YtfiiihpdekppiaaE18
set_option linter.unusedVariables false
set_option linter.unusedSimpArgs false
section
namespace Go.Proofs.Ytfiiihpdekppiaa
open Go.RowKit Go.Proofs Go.Proofs.YtfiiihpdekppiaaW.PrintWords
open Go.ChangeMaps (setBlock heap_setBlock_same heap_setBlock_other)
open PShapeReducible (S31 k31 at_T31 rd_T31)
theorem firstF_lt (t : Frm → Bool) : ∀ (fs : List Frm) (k : Nat), firstF t fs k < 0 ∨ ∃ n : Nat, firstF t fs k = n ∧ k ≤ n ∧ n < k + fs.length
 | [], _ => .inl (by simp [firstF])
 | f :: fs, k => by
  unfold firstF
  split
  ·exact .inr ⟨k, rfl, Nat.le_refl _, by simp⟩
  ·rcases firstF_lt t fs (k + 1) with h | ⟨n, h1, h2, h3⟩
   ·exact .inl h
   ·exact .inr ⟨n, h1, by omega, by simp; omega⟩
theorem Ks.leave_eq (c : Ks) (kind node label : Int) (kids : List S31) (N : Int) (hN : N = firstF (fun f => decide (f.label = label) && (f.loop || decide (kind = 5))) c.opn 0) :
  c.leave kind node label kids = if N < 0 ∨ kids.length ≠ 0 ∨ node ≠ 0 then (false, c) else (true, if kind = 5 then { c.emit ⟨1, 0, []⟩ with opn := addBrk c.opn N.toNat (c.pts.length : Int) } else (c.emit ⟨1, 0, []⟩).setTo c.pts.length [((c.opn[N.toNat]?).map Frm.start).getD 0]) := by
 subst hN
 rfl
set_option maxRecDepth 100000 in
set_option maxHeartbeats 4000000 in
theorem kleave_any (w0 : World) (bc : Nat) (gv : Value) (bm : Nat) (kind node label : Int) (kids : List S31)
  (F : List Pc) (c : Ks) (p : Kp) (w : World) (A : Option Addr) (n m : Nat) (M : Mem w0 w F (c.own bc gv bm p)) (hok : c.Ok (1 + m)) (hbig : kids.length < 1000000000) :
  Calls Try.prog 74 #[.pointer (some ⟨bc, 0, none⟩), .agg #[.int .i64 kind, .int .i64 node, .int .i64 label, .slice A kids.length n]] w fun e w' => e = .returned (.bool (c.leave kind node label kids).1) ∧ ∃ p', Mem w0 w' F ((c.leave kind node label kids).2.own bc gv bm p') := by
 obtain ⟨vS, vF, ts, bs⟩ := p
 obtain ⟨b3, w1, z1, a1, M1⟩ := M.alloc (.cells #[.int .i64 kind, .int .i64 node, .int .i64 label, .slice A kids.length n] 31)
 have M1 := Aside0.mk (show Mem w0 w1 F (c.own bc gv bm ⟨vS, vF, ts, bs⟩ ++ [.blk b3 (.cells #[.int .i64 kind, .int .i64 node, .int .i64 label, .slice A kids.length n] 31 (0, 0))]) from M1)
 have HOK := Aside0.mk hok
 have e0 : w1.cell? ⟨b3, 0, none⟩ = some (.int .i64 kind) := M1.out.cell (k := 6) (j := 0) rfl rfl
 have e2 : w1.cell? ⟨b3, 2, none⟩ = some (.int .i64 label) := M1.out.cell (k := 6) (j := 2) rfl rfl
 have hbl : bs.length = c.opn.length := by have := (M1.out.rows (k := 4) rfl).len; simpa using this
 have hfr : c.opn.length < 1000000000 := by have := HOK.out.fr; simp only [big] at this; omega
 have hst : c.pts.length < 1000000000 := by have := HOK.out.st; simp only [big] at this; omega
 have k2 : w1.cell? ⟨bc, 2, none⟩ = some vF := M1.out.cell (k := 0) (j := 2) rfl rfl
 have ho : w1.ownsRow 0 144 4 vF c.opn.length (recs (c.opn.map Frm.cells) bs) := M1.out.says (k := 3) rfl
 obtain ⟨N, hN⟩ : ∃ N, N = firstF (fun f => decide (f.label = label) && (f.loop || decide (kind = 5))) c.opn 0 := ⟨_, rfl⟩
 have EN := Aside0.mk (first_any w1 b3 kind label c.opn bs vF e0 e2 hfr hbl.symm ho)
 rw [← hN] at EN
 have HNL := Aside0.mk (firstF_lt (fun f => decide (f.label = label) && (f.loop || decide (kind = 5))) c.opn 0)
 rw [← hN] at HNL
 have HF := Aside0.mk (Ks.leave_eq c kind node label kids N hN)
 clear M hok ho hN e0 e2
 by_cases hbad : N < 0 ∨ kids.length ≠ 0 ∨ node ≠ 0
 ·have HFL := Aside0.mk (show c.leave kind node label kids = (false, c) by rw [HF.out, if_pos hbad])
  by_cases hNneg : N < 0
  ·clear hbad
   go_enter Try.func74, Try.ntmps74
   go_wp2_with (first
    | (go_at_call 92; refine EN.out.mono ?_; rintro e w4 ⟨rfl, hb4⟩; have M4 := M1.out.below hb4; have e0' : w4.cell? ⟨b3, 0, none⟩ = some (.int .i64 kind) := M4.cell (k := 6) (j := 0) rfl rfl; have e1' : w4.cell? ⟨b3, 1, none⟩ = some (.int .i64 node) := M4.cell (k := 6) (j := 1) rfl rfl; have e3' : w4.cell? ⟨b3, 3, none⟩ = some (.slice A kids.length n) := M4.cell (k := 6) (j := 3) rfl rfl; have M4 := Aside0.mk M4; clear hb4))
   go_ret
   rw [HFL.out]
   exact ⟨rfl, _, M4.out.lose (k := 6) rfl⟩
  ·by_cases hk0 : kids.length = 0
   ·have hn0 : (node != 0) = true := by simpa using (hbad.resolve_left hNneg).resolve_left (by simpa using hk0)
    have hk1 : ((kids.length : Int) != 0) = false := by simp [hk0]
    clear hbad hk0
    go_enter Try.func74, Try.ntmps74
    go_wp2_with (first
     | (go_at_call 92; refine EN.out.mono ?_; rintro e w4 ⟨rfl, hb4⟩; have M4 := M1.out.below hb4; have e0' : w4.cell? ⟨b3, 0, none⟩ = some (.int .i64 kind) := M4.cell (k := 6) (j := 0) rfl rfl; have e1' : w4.cell? ⟨b3, 1, none⟩ = some (.int .i64 node) := M4.cell (k := 6) (j := 1) rfl rfl; have e3' : w4.cell? ⟨b3, 3, none⟩ = some (.slice A kids.length n) := M4.cell (k := 6) (j := 3) rfl rfl; have M4 := Aside0.mk M4; clear hb4))
    go_ret
    rw [HFL.out]
    exact ⟨rfl, _, M4.out.lose (k := 6) rfl⟩
   ·have hk1 : ((kids.length : Int) != 0) = true := bne_iff_ne.mpr (by omega)
    clear hbad hk0
    go_enter Try.func74, Try.ntmps74
    go_wp2_with (first
     | (go_at_call 92; refine EN.out.mono ?_; rintro e w4 ⟨rfl, hb4⟩; have M4 := M1.out.below hb4; have e0' : w4.cell? ⟨b3, 0, none⟩ = some (.int .i64 kind) := M4.cell (k := 6) (j := 0) rfl rfl; have e1' : w4.cell? ⟨b3, 1, none⟩ = some (.int .i64 node) := M4.cell (k := 6) (j := 1) rfl rfl; have e3' : w4.cell? ⟨b3, 3, none⟩ = some (.slice A kids.length n) := M4.cell (k := 6) (j := 3) rfl rfl; have M4 := Aside0.mk M4; clear hb4))
    go_ret
    rw [HFL.out]
    exact ⟨rfl, _, M4.out.lose (k := 6) rfl⟩
 have hNneg : ¬ N < 0 := fun h => hbad (.inl h)
 have hk0 : kids.length = 0 := Classical.byContradiction fun h => hbad (.inr (.inl h))
 have hn0 : node = 0 := Classical.byContradiction fun h => hbad (.inr (.inr h))
 subst hn0
 obtain ⟨q, hq, hql⟩ : ∃ q : Nat, N = q ∧ q < c.opn.length := by
  obtain ⟨n, h1, h2, h3⟩ := HNL.out.resolve_left hNneg
  exact ⟨n, h1, by omega⟩
 subst hq
 have hk1 : ((kids.length : Int) != 0) = false := by simp [hk0]
 have hNn : ¬ ((q : Int) < 0) := hNneg
 have HGD := Aside0.mk (show c.leave kind 0 label kids = (true, if kind = 5 then { c.emit ⟨1, 0, []⟩ with opn := addBrk c.opn q (c.pts.length : Int) } else (c.emit ⟨1, 0, []⟩).setTo c.pts.length [((c.opn[q]?).map Frm.start).getD 0]) by rw [HF.out, if_neg hbad]; rfl)
 clear hbad hNneg hk0 HNL HF
 by_cases hkd : kind = 5
 ·have hkd' : (kind == 5) = true := by simp [hkd]
  have HGE := Aside0.mk (show c.leave kind 0 label kids = (true, { c.emit ⟨1, 0, []⟩ with opn := addBrk c.opn q (c.pts.length : Int) }) by rw [HGD.out, if_pos hkd])
  clear hkd HGD
  go_enter Try.func74, Try.ntmps74
  go_wp2_with (first
   | (go_at_call 92; refine EN.out.mono ?_; rintro e w4 ⟨rfl, hb4⟩; have M4 := M1.out.below hb4; have e0' : w4.cell? ⟨b3, 0, none⟩ = some (.int .i64 kind) := M4.cell (k := 6) (j := 0) rfl rfl; have e1' : w4.cell? ⟨b3, 1, none⟩ = some (.int .i64 0) := M4.cell (k := 6) (j := 1) rfl rfl; have e3' : w4.cell? ⟨b3, 3, none⟩ = some (.slice A kids.length n) := M4.cell (k := 6) (j := 3) rfl rfl; have M4 := Aside0.mk M4; clear hb4)
   | (go_at_call 51; refine (add0 bc _ c bm _ 1 0 M4.out hst).mono ?_; rintro e w9 ⟨rfl, p9, M9⟩; have e0'' : w9.cell? ⟨b3, 0, none⟩ = some (.int .i64 kind) := M9.cell (k := 6) (j := 0) rfl rfl; have M9 := Aside0.mk M9))
  obtain ⟨vS, vF, ts', bs'⟩ := p9
  obtain ⟨d, hd⟩ : ∃ d, d = c.emit ⟨1, 0, []⟩ := ⟨_, rfl⟩
  rw [← hd] at M9
  have hdf : d.opn = c.opn := by rw [hd]; rfl
  have hds : d.pts.length = c.pts.length + 1 := by rw [hd]; simp [Ks.emit]
  have hql' : (q : Int) < d.opn.length := by rw [hdf]; omega
  have hql2 : q < d.opn.length := by rw [hdf]; exact hql
  obtain ⟨w10, z10, M10⟩ := M9.out.drew
  obtain ⟨bF, cF, e, hcF, hcell⟩ := M10.rowForm (k := 3) rfl (by omega)
  dsimp only at e
  subst e
  have hbl2 : bs'.length = d.opn.length := by have := (M10.rows (k := 4) rfl).len; simpa using this
  obtain ⟨fq, hfq⟩ : ∃ fq, d.opn[q]? = some fq := ⟨_, List.getElem?_eq_getElem hql2⟩
  have hrec : ∀ j, j ≤ 3 → (recs (d.opn.map Frm.cells) bs')[q * 4 + j]? = (fq.cells ++ [bs'.getD q nilS])[j]? := fun j hj => by
   rw [recs_get (m := 3) (by simp [hbl2]) (frm_len _) (by simpa using hql2) hj]
   congr 2
   simp [List.getD_eq_getElem?_getD, hfq]
  have k2d : w10.cell? ⟨bc, 2, none⟩ = some (.slice (some ⟨bF, 0, none⟩) d.opn.length cF) := M10.cell (k := 0) (j := 2) rfl rfl
  obtain ⟨bks, hbks⟩ : ∃ bks, bks = (d.opn.map Frm.brk).getD q [] := ⟨_, rfl⟩
  obtain ⟨Av, nv, hv⟩ : ∃ A0 c0, bs'.getD q nilS = .slice A0 bks.length c0 := by
   have := (M10.rows (k := 4) rfl).row q (by show q < bs'.length; omega)
   rw [← hbks] at this
   exact own_slice this
  have hbk : bks.length < 1000000000 := by
   have h8 := (HOK.out.br c.opn[q] (List.getElem_mem _)).1
   have h7 : bks = c.opn[q].brk := by rw [hbks, hdf]; simp [List.getD_eq_getElem?_getD, hql]
   rw [h7]; simp only [big] at h8; omega
  have r3 : w10.cell? ⟨bF, q * 4 + 3, none⟩ = some (.slice Av bks.length nv) := hcell _ _ ((hrec 3 (by omega)).trans (by rw [hv]; rfl))
  have HC := Aside0.mk hrec
  have HB2 := Aside0.mk hbl2
  have HV := Aside0.mk hv
  have HBK := Aside0.mk hbks
  have HD := Aside0.mk hd
  have HDF := Aside0.mk hdf
  have M10 := Aside0.mk M10
  have HQ := Aside0.mk hql2
  clear hfq hrec hbl2 hv hbks hd hdf hds hql hql2 M9 M4 M1 hcell hcF e0'' k2
  go_wp2_with (first | (rw [z10]) | (refine wp_region_txt (fun W => W.cell? ⟨bc, 2, none⟩ = some (.slice (some ⟨bF, 0, none⟩) d.opn.length cF)) [3] (by kernel_rfl) (by kernel_rfl) ?_))
  iterate 15 (first | (with_reducible refine wpT_nil ?_) | (refine wpT_W (v := ?_) (by assumption) (by decide) (wanted_none rfl) (fun _ hS_ => ?_) ?_; rotate_left; (focus ((try dsimp only at hS_); go_simp; rfl)); (simp only [Act.put, List.setIfInBounds_toArray, List.set_cons_zero, List.set_cons_succ])) | (refine wpT_R (v := ?_) (by assumption) (by decide) (wanted_none rfl) ?_ ?_; rotate_left; (focus (go_simp; rfl)); (simp only [Act.put, List.setIfInBounds_toArray, List.set_cons_zero, List.set_cons_succ])) | (refine wpT_A (v := ?_) (ob := ?_) (by assumption) (by decide) (wanted_none rfl) ?_ ?_ ?_; rotate_left 2; (focus (go_simp; first | (constructor <;> rfl) | rfl)); (focus (apply cell_alloc; assumption)); (simp only [Act.put, List.setIfInBounds_toArray, List.set_cons_zero, List.set_cons_succ])))
  refine wpT_L (cell_alloc _ k2d) (by decide) (wanted_none rfl) (fun K_ hK_ => ?_)
  refine step_mem_at (ops := #[]) 4 q rfl (.tmp 44) (.tmp 46) rfl Try.underlying23 PShapeReducible.info3 bs' (d.opn.map Frm.brk) (c.pts.length : Int) (by rw [HV.out]; rfl) rfl M10.out rfl (by simpa using HQ.out) (by rw [← HBK.out]; exact hbk) ?_
  intro A12 c12 w12 M12
  rw [← HBK.out] at M12 ⊢
  have k2e : w12.cell? ⟨bc, 2, none⟩ = some (.slice (some ⟨bF, 0, none⟩) d.opn.length cF) := M12.cell (k := 0) (j := 2) rfl rfl
  refine hK_ _ _ k2e ?_
  clear hK_
  obtain ⟨w13, s13, M13⟩ := M12.rowPut (k := 3) (q * 4 + 3) rfl (.slice A12 (bks.length + 1) c12)
  have r4 : w12.cell? ⟨bF, q * 4 + 3, none⟩ = some (.slice Av bks.length nv) := by
   obtain ⟨bF', cF', e, _, hc⟩ := M12.rowForm (k := 3) rfl (by omega)
   simp only [Value.slice.injEq, Option.some.injEq, Addr.mk.injEq, and_true, true_and] at e
   obtain ⟨rfl, rfl⟩ := e
   exact hc _ _ ((HC.out 3 (by omega)).trans (by rw [HV.out]; rfl))
  have r5 := (M12.row (k := 3) rfl).frozenAt (q * 4 + 3)
  have k2f : w13.cell? ⟨bc, 2, none⟩ = some (.slice (some ⟨bF, 0, none⟩) d.opn.length cF) := M13.cell (k := 0) (j := 2) rfl rfl
  have M13 := Aside0.mk M13
  clear M12
  iterate 2 (first | (with_reducible refine wpT_nil ?_) | (refine wpT_W (v := ?_) (by assumption) (by decide) (wanted_none rfl) (fun _ hS_ => ?_) ?_; rotate_left; (focus ((try dsimp only at hS_); go_simp; rfl)); (simp only [Act.put, List.setIfInBounds_toArray, List.set_cons_zero, List.set_cons_succ])) | (refine wpT_R (v := ?_) (by assumption) (by decide) (wanted_none rfl) ?_ ?_; rotate_left; (focus (go_simp; rfl)); (simp only [Act.put, List.setIfInBounds_toArray, List.set_cons_zero, List.set_cons_succ])) | (refine wpT_A (v := ?_) (ob := ?_) (by assumption) (by decide) (wanted_none rfl) ?_ ?_ ?_; rotate_left 2; (focus (go_simp; first | (constructor <;> rfl) | rfl)); (focus (apply cell_alloc; assumption)); (simp only [Act.put, List.setIfInBounds_toArray, List.set_cons_zero, List.set_cons_succ])))
  refine wpT_L k2e (by decide) (wanted_none rfl) (fun K_ hK_ => ?_)
  go_simp
  refine hK_ _ _ k2f ?_
  clear hK_
  refine wpT_nil ?_
  go_wp2
  go_ret
  rw [HGE.out]
  refine ⟨rfl, ⟨vS, .slice (some ⟨bF, 0, none⟩) d.opn.length cF, ts', bs'.set q (.slice A12 (bks.length + 1) c12)⟩, ?_⟩
  have hfin : ({ c.emit ⟨1, 0, []⟩ with opn := addBrk c.opn q (c.pts.length : Int) } : Ks) = { d with opn := addBrk d.opn q (c.pts.length : Int) } := by rw [HD.out]; rfl
  have hr2 : (recs (d.opn.map Frm.cells) bs').set (q * 4 + 3) (.slice A12 (bks.length + 1) c12) = recs (d.opn.map Frm.cells) (bs'.set q (.slice A12 (bks.length + 1) c12)) := recs_set (m := 3) (by simp [HB2.out]) (frm_len _) (by simpa using HQ.out) _
  show Mem w0 w13 F (Ks.own { c.emit ⟨1, 0, []⟩ with opn := addBrk c.opn q (c.pts.length : Int) } bc gv bm _)
  rw [hfin]
  unfold Ks.own
  simp only [addBrk_cells, addBrk_brk, addBrk_length]
  rw [← hr2, ← HBK.out]
  exact M13.out.lose (k := 6) rfl
 ·have hkd' : (kind == 5) = false := by simpa using hkd
  have HGE := Aside0.mk (show c.leave kind 0 label kids = (true, (c.emit ⟨1, 0, []⟩).setTo c.pts.length [((c.opn[q]?).map Frm.start).getD 0]) by rw [HGD.out, if_neg hkd])
  clear hkd HGD
  go_enter Try.func74, Try.ntmps74
  go_wp2_with (first
   | (go_at_call 92; refine EN.out.mono ?_; rintro e w4 ⟨rfl, hb4⟩; have M4 := M1.out.below hb4; have e0' : w4.cell? ⟨b3, 0, none⟩ = some (.int .i64 kind) := M4.cell (k := 6) (j := 0) rfl rfl; have e1' : w4.cell? ⟨b3, 1, none⟩ = some (.int .i64 0) := M4.cell (k := 6) (j := 1) rfl rfl; have e3' : w4.cell? ⟨b3, 3, none⟩ = some (.slice A kids.length n) := M4.cell (k := 6) (j := 3) rfl rfl; have M4 := Aside0.mk M4; clear hb4)
   | (go_at_call 51; refine (add0 bc _ c bm _ 1 0 M4.out hst).mono ?_; rintro e w9 ⟨rfl, p9, M9⟩; have e0'' : w9.cell? ⟨b3, 0, none⟩ = some (.int .i64 kind) := M9.cell (k := 6) (j := 0) rfl rfl; have M9 := Aside0.mk M9))
  obtain ⟨vS, vF, ts', bs'⟩ := p9
  obtain ⟨d, hd⟩ : ∃ d, d = c.emit ⟨1, 0, []⟩ := ⟨_, rfl⟩
  rw [← hd] at M9
  have hdf : d.opn = c.opn := by rw [hd]; rfl
  have hds : d.pts.length = c.pts.length + 1 := by rw [hd]; simp [Ks.emit]
  have hql' : (q : Int) < d.opn.length := by rw [hdf]; omega
  have hql2 : q < d.opn.length := by rw [hdf]; exact hql
  obtain ⟨w10, z10, M10⟩ := M9.out.drew
  obtain ⟨bF, cF, e, hcF, hcell⟩ := M10.rowForm (k := 3) rfl (by omega)
  dsimp only at e
  subst e
  have hbl2 : bs'.length = d.opn.length := by have := (M10.rows (k := 4) rfl).len; simpa using this
  obtain ⟨fq, hfq⟩ : ∃ fq, d.opn[q]? = some fq := ⟨_, List.getElem?_eq_getElem hql2⟩
  have hrec : ∀ j, j ≤ 3 → (recs (d.opn.map Frm.cells) bs')[q * 4 + j]? = (fq.cells ++ [bs'.getD q nilS])[j]? := fun j hj => by
   rw [recs_get (m := 3) (by simp [hbl2]) (frm_len _) (by simpa using hql2) hj]
   congr 2
   simp [List.getD_eq_getElem?_getD, hfq]
  have k2d : w10.cell? ⟨bc, 2, none⟩ = some (.slice (some ⟨bF, 0, none⟩) d.opn.length cF) := M10.cell (k := 0) (j := 2) rfl rfl
  obtain ⟨st, hst2⟩ : ∃ st, st = fq.start := ⟨_, rfl⟩
  have HFQ := Aside0.mk hfq
  have r1 : w10.cell? ⟨bF, q * 4 + 1, none⟩ = some (.int .i64 st) := hcell _ _ ((hrec 1 (by omega)).trans (by rw [hst2]; rfl))
  obtain ⟨n8, w11, z11, a11, M11⟩ := M10.one st
  have M11' := (M11.order [0, 1, 2, 3, 4, 5, 7, 6] rfl)
  obtain ⟨bS, cS, w12, k1, s12, ⟨u9', t12⟩, f12, M12⟩ := Mem.setToK (n := c.pts.length) (xs := [st]) (H := [.blk b3 (.cells #[.int .i64 kind, .int .i64 0, .int .i64 label, .slice A kids.length n] 31 (0, 0))]) M11' (by omega)
  have k1d : w10.cell? ⟨bc, 1, none⟩ = some (.slice (some ⟨bS, 0, none⟩) d.pts.length cS) := by
   obtain ⟨A, nn, e⟩ := ownK_vS M10
   have h1 := pw_cell_below (below_alloc (Below.refl _ _) (.cells #[.int .i64 st] 3)) e
   rw [a11, k1] at h1
   rw [e, ← h1]
  have hsl : (c.pts.length : Int) < d.pts.length := by omega
  have A8 := Aside0.mk (And.intro a11 z11)
  have M12 := Aside0.mk M12
  have HD := Aside0.mk hd
  have HDF := Aside0.mk hdf
  have HS2 := Aside0.mk hst2
  clear hfq hrec hbl2 hd hdf hds hql hql2 M9 M4 M1 hcell hcF e0'' k2 M10 M11 M11' a11 z11 hst2
  go_wp2_with (first | (rw [z10]) | (refine wp_region_txt (fun _ => True) [] (by kernel_rfl) (by kernel_rfl) ?_))
  iterate 14 (first | (with_reducible refine wpT_nil ?_) | (refine wpT_W (v := ?_) trivial (by decide) (wanted_none rfl) (fun _ hS_ => ?_) ?_; rotate_left; (focus ((try dsimp only at hS_); go_simp; rfl)); (simp only [Act.put, List.setIfInBounds_toArray, List.set_cons_zero, List.set_cons_succ])) | (refine wpT_R (v := ?_) trivial (by decide) (wanted_none rfl) ?_ ?_; rotate_left; (focus (go_simp; rfl)); (simp only [Act.put, List.setIfInBounds_toArray, List.set_cons_zero, List.set_cons_succ])) | (refine wpT_A (v := ?_) (ob := ?_) trivial (by decide) (wanted_none rfl) ?_ ?_ ?_; rotate_left 2; (focus (go_simp; first | (constructor <;> rfl) | rfl)); (focus (exact trivial)); (simp only [Act.put, List.setIfInBounds_toArray, List.set_cons_zero, List.set_cons_succ])))
  rw [A8.out.1, A8.out.2]
  iterate 2 (first | (with_reducible refine wpT_nil ?_) | (refine wpT_W (v := ?_) trivial (by decide) (wanted_none rfl) (fun _ hS_ => ?_) ?_; rotate_left; (focus ((try dsimp only at hS_); go_simp; rfl)); (simp only [Act.put, List.setIfInBounds_toArray, List.set_cons_zero, List.set_cons_succ])) | (refine wpT_R (v := ?_) trivial (by decide) (wanted_none rfl) ?_ ?_; rotate_left; (focus (go_simp; rfl)); (simp only [Act.put, List.setIfInBounds_toArray, List.set_cons_zero, List.set_cons_succ])) | (refine wpT_A (v := ?_) (ob := ?_) trivial (by decide) (wanted_none rfl) ?_ ?_ ?_; rotate_left 2; (focus (go_simp; first | (constructor <;> rfl) | rfl)); (focus (exact trivial)); (simp only [Act.put, List.setIfInBounds_toArray, List.set_cons_zero, List.set_cons_succ])))
  (refine wpT_L trivial (by decide) (wanted_none rfl) (fun K_ hK_ => ?_); go_simp; refine hK_ _ _ trivial ?_; clear hK_)
  refine wpT_nil ?_
  go_wp2
  go_ret
  rw [HGE.out]
  refine ⟨rfl, ?_⟩
  show ∃ p', Mem w0 w12 F (((c.emit ⟨1, 0, []⟩).setTo c.pts.length [((c.opn[q]?).map Frm.start).getD 0]).own bc gv bm p')
  have hq2 : ((c.opn[q]?).map Frm.start).getD 0 = st := by rw [← HDF.out, HFQ.out, HS2.out]; rfl
  rw [hq2, ← HD.out]
  exact ⟨_, M12.out.lose (k := 6) rfl⟩
end Go.Proofs.Ytfiiihpdekppiaa
end
section
namespace Go.Proofs.Ytfiiihpdekppiaa
open Go.RowKit Go.Proofs Go.Proofs.YtfiiihpdekppiaaW.PrintWords
open Go.ChangeMaps (setBlock heap_setBlock_same heap_setBlock_other)
open PShapeReducible (S31 k31 at_T31 rd_T31)
set_option maxRecDepth 100000 in
set_option maxHeartbeats 4000000 in
theorem conv71_any (w0 : World) (bc : Nat) (gA : Option Addr) (gc : Nat) (bm : Nat) (g : List (List Int)) (b2 : Nat) (k : S31) (ih : ConvOk w0 bc gA gc bm g k)
  (F H : List Pc) (c : Ks) (p : Kp) (w : World) (A : Option Addr) (n m : Nat) (M : Mem w0 w F (c.own bc (.slice gA g.length gc) bm p ++ .blk b2 (.cells #[.pointer (some ⟨bc, 0, none⟩)] 82 (0, 0)) :: H)) (hok : c.Ok (3 * szF k - 1 + m)) (hK : k31.C w0 A k.f3.length k.f3) (hn : k.f3.length ≤ n) :
  Calls Try.prog 71 #[.agg #[.int .i64 k.f0, .int .i64 k.f1, .int .i64 k.f2, .slice A k.f3.length n], .pointer (some ⟨b2, 0, none⟩)] w fun e w' => e = .returned (.bool (!(convF g k c).1)) ∧ ∃ p', Mem w0 w' F ((convF g k c).2.own bc (.slice gA g.length gc) bm p' ++ .blk b2 (.cells #[.pointer (some ⟨bc, 0, none⟩)] 82 (0, 0)) :: H) := by
 obtain ⟨b4, w1, z1, a1, M1⟩ := M.alloc (.cells #[.int .i64 k.f0, .int .i64 k.f1, .int .i64 k.f2, .slice A k.f3.length n] 31)
 have q0 : w1.cell? ⟨b2, 0, none⟩ = some (.pointer (some ⟨bc, 0, none⟩)) := M1.cell (k := 6) (j := 0) rfl rfl
 have hb4 : w1.heap[b4]? = some (.cells #[.int .i64 k.f0, .int .i64 k.f1, .int .i64 k.f2, .slice A k.f3.length n] 31 (0, 0)) := M1.says (k := (c.own bc (.slice gA g.length gc) bm p ++ .blk b2 (.cells #[.pointer (some ⟨bc, 0, none⟩)] 82 (0, 0)) :: H).length) (c := .blk b4 _) (by simp)
 have e0 : w1.cell? ⟨b4, 0, none⟩ = some (.int .i64 k.f0) := cell_blk hb4 rfl
 have e1 : w1.cell? ⟨b4, 1, none⟩ = some (.int .i64 k.f1) := cell_blk hb4 rfl
 have e2 : w1.cell? ⟨b4, 2, none⟩ = some (.int .i64 k.f2) := cell_blk hb4 rfl
 have e3 : w1.cell? ⟨b4, 3, none⟩ = some (.slice A k.f3.length n) := cell_blk hb4 rfl
 have M2 : Mem w0 w1 F (c.own bc (.slice gA g.length gc) bm p ++ .blk b2 (.cells #[.pointer (some ⟨bc, 0, none⟩)] 82 (0, 0)) :: H) := M.below (by rw [← a1]; exact below_alloc (Below.refl _ _) _)
 have HIH := Aside0.mk ih
 have M2 := Aside0.mk M2
 have HOK := Aside0.mk hok
 have HK := Aside0.mk hK
 have HN := Aside0.mk hn
 clear M M1 hb4 ih hok hK hn
 go_enter Try.func71, Try.ntmps71
 go_wp2_with (first
  | (go_at_call 50; refine (HIH.out F _ c p w1 A n m M2.out HOK.out HK.out HN.out).mono ?_; rintro e w3 ⟨rfl, p3, M3⟩; have M3 := Aside0.mk M3))
 go_ret
 exact ⟨rfl, p3, M3.out⟩
set_option maxRecDepth 100000 in
set_option maxHeartbeats 4000000 in
theorem idx91_any (w0 : World) (bc : Nat) (gA : Option Addr) (gc : Nat) (bm : Nat) (g : List (List Int)) (b2 : Nat) (kids : List S31) (ih : ∀ k ∈ kids, ConvOk w0 bc gA gc bm g k)
  (F H : List Pc) (c : Ks) (p : Kp) (w : World) (A : Option Addr) (n m : Nat) (M : Mem w0 w F (c.own bc (.slice gA g.length gc) bm p ++ .blk b2 (.cells #[.pointer (some ⟨bc, 0, none⟩)] 82 (0, 0)) :: H)) (hok : c.Ok (3 * szL kids + m)) (hK : k31.C w0 A kids.length kids) (hbig : kids.length < 1000000000) :
  Calls Try.prog 91 #[.slice A kids.length n, .func (.func 71) #[] #[.pointer (some ⟨b2, 0, none⟩)]] w fun e w' => ∃ r : Int, e = .returned (.int .i64 r) ∧ decide (r ≥ 0) = !(convL g kids c).1 ∧ ∃ p', Mem w0 w' F ((convL g kids c).2.own bc (.slice gA g.length gc) bm p' ++ .blk b2 (.cells #[.pointer (some ⟨bc, 0, none⟩)] 82 (0, 0)) :: H) := by
 obtain ⟨R, hR⟩ : ∃ R, R = convL g kids c := ⟨_, rfl⟩
 rw [← hR]
 have HR := Aside0.mk hR
 have M0 := Aside0.mk M
 have HOK := Aside0.mk hok
 have HK := Aside0.mk hK
 have IH := Aside0.mk ih
 clear M hok hK ih hR
 go_enter Try.func91, Try.ntmps91
 go_wp2
 go_loopw [8] (fun t wr => ∃ (i : Nat) (c' : Ks) (p' : Kp), t = .int .i64 i ∧ i ≤ kids.length ∧ Aside0 (convL g (kids.drop i) c' = R) ∧ Aside0 (c'.Ok (3 * szL (kids.drop i) + m)) ∧
  Aside0 (Mem w0 wr F (c'.own bc (.slice gA g.length gc) bm p' ++ .blk b2 (.cells #[.pointer (some ⟨bc, 0, none⟩)] 82 (0, 0)) :: H))) (fun t _ => kids.length - (intOf t).toNat)
 case atStart => exact ⟨0, c, p, rfl, Nat.zero_le _, ⟨HR.out.symm⟩, HOK, M0⟩
 case round =>
  clear M0 HOK HR
  obtain ⟨i, c', p', rfl, hi, hA, hO, hM⟩ := hrel
  by_cases hlt : i < kids.length
  ·obtain ⟨k, hk⟩ : ∃ k, k = kids[i] := ⟨_, rfl⟩
   obtain ⟨ad, A3, c3, e, g0, g1, g2, g3, hc3, hC3⟩ := kid_at HK.out i hlt
   subst e
   rw [← hk] at g0 g1 g2 g3 hc3 hC3
   have hA2 := hA.out
   have hO2 := hO.out
   rw [List.drop_eq_getElem_cons hlt, ← hk] at hA2 hO2
   rw [convL] at hA2
   simp only [szL] at hO2
   have hkm : k ∈ kids := by rw [hk]; exact List.getElem_mem hlt
   have hkpos : 1 ≤ szF k := by rw [szF_eq]; omega
   have q0 := pw_cell_below hM.out.hb g0
   have q1 := pw_cell_below hM.out.hb g1
   have q2 := pw_cell_below hM.out.hb g2
   have q3 := pw_cell_below hM.out.hb g3
   have HO1 := Aside0.mk (show c'.Ok (3 * szF k - 1 + (3 * szL (kids.drop (i + 1)) + m)) from hO2.mono (by omega))
   have CL := Aside0.mk (conv71_any w0 bc gA gc bm g b2 k (IH.out k hkm) F H c' p' wr A3 c3 _ hM.out HO1.out hC3 hc3)
   have h9 := Aside0.mk (convF_ok g (3 * szL (kids.drop (i + 1)) + m) k c' HO1.out)
   have hlt' : (i : Int) < kids.length := by omega
   have HLT := Aside0.mk hlt
   obtain ⟨d, hd⟩ : ∃ d, d = convF g k c' := ⟨_, rfl⟩
   rw [← hd] at CL h9 hA2
   obtain ⟨db, dc⟩ := d
   have HA := Aside0.mk hA2
   clear hA hO hA2 hO2 hkm hC3 g0 g1 g2 g3 hk hkpos hd hM
   cases db with
   | false =>
    go_wp2_with (first
     | (go_at_call 71; refine CL.out.mono ?_; rintro e w5 ⟨rfl, p5, M5⟩; have M5 := Aside0.mk M5))
    go_ret
    have h1 : (false, dc) = R := by simpa using HA.out
    rw [← h1]
    exact ⟨(i : Int), rfl, by simp, p5, M5.out⟩
   | true =>
    have HA2 := Aside0.mk (show convL g (kids.drop (i + 1)) dc = R by simpa using HA.out)
    go_wp2_with (first
     | (go_at_call 71; refine CL.out.mono ?_; rintro e w5 ⟨rfl, p5, M5⟩; have M5 := Aside0.mk M5))
    go_roundw
    case rel => exact ⟨i + 1, dc, p5, by go_num, by have := HLT.out; omega, HA2, ⟨h9.out.1⟩, M5⟩
    case measure => have := HLT.out; simp [intOf]; omega
  ·obtain rfl : i = kids.length := by omega
   have hA2 := hA.out
   rw [List.drop_length, convL] at hA2
   have HA := Aside0.mk hA2
   clear hA hA2
   go_wp2
   go_ret
   rw [← HA.out]
   exact ⟨-1, rfl, by simp, p', hM.out⟩
set_option maxRecDepth 100000 in
set_option maxHeartbeats 4000000 in
theorem cont70_any (w0 : World) (bc : Nat) (gA : Option Addr) (gc : Nat) (bm : Nat) (g : List (List Int)) (b2 : Nat) (kids : List S31) (ih : ∀ k ∈ kids, ConvOk w0 bc gA gc bm g k)
  (F H : List Pc) (c : Ks) (p : Kp) (w : World) (A : Option Addr) (n m : Nat) (M : Mem w0 w F (c.own bc (.slice gA g.length gc) bm p ++ .blk b2 (.cells #[.pointer (some ⟨bc, 0, none⟩)] 82 (0, 0)) :: H)) (hok : c.Ok (3 * szL kids + m)) (hK : k31.C w0 A kids.length kids) (hbig : kids.length < 1000000000) :
  Calls Try.prog 70 #[.slice A kids.length n, .func (.func 71) #[] #[.pointer (some ⟨b2, 0, none⟩)]] w fun e w' => e = .returned (.bool (!(convL g kids c).1)) ∧ ∃ p', Mem w0 w' F ((convL g kids c).2.own bc (.slice gA g.length gc) bm p' ++ .blk b2 (.cells #[.pointer (some ⟨bc, 0, none⟩)] 82 (0, 0)) :: H) := by
 have CL := Aside0.mk (idx91_any w0 bc gA gc bm g b2 kids ih F H c p w A n m M hok hK hbig)
 obtain ⟨R, hR⟩ : ∃ R, R = convL g kids c := ⟨_, rfl⟩
 rw [← hR] at CL ⊢
 clear M hok hK ih hR
 go_enter Try.func70, Try.ntmps70
 go_wp2_with (first
  | (go_at_call 91; refine CL.out.mono ?_; rintro e w5 ⟨r, rfl, hr, p5, M5⟩; have M5 := Aside0.mk M5; have HR := Aside0.mk hr; clear hr))
 go_ret
 rw [← HR.out]
 exact ⟨rfl, p5, M5.out⟩
set_option maxRecDepth 100000 in
set_option maxHeartbeats 4000000 in
theorem kconv_step (w0 : World) (bc : Nat) (gA : Option Addr) (gc : Nat) (bm : Nat) (g : List (List Int)) (hG : kG.C w0 gA g.length g) (hg : g.length ≤ 1000000000) (kind node label : Int) (kids : List S31) (ih : ∀ k ∈ kids, ConvOk w0 bc gA gc bm g k)
  (F : List Pc) (c : Ks) (p : Kp) (w : World) (A : Option Addr) (n m : Nat) (M : Mem w0 w F (c.own bc (.slice gA g.length gc) bm p)) (hok : c.Ok (3 * szL kids + 2 + m)) (hK : k31.C w0 A kids.length kids) (hn : kids.length ≤ n) :
  Calls Try.prog 50 #[.pointer (some ⟨bc, 0, none⟩), .agg #[.int .i64 kind, .int .i64 node, .int .i64 label, .slice A kids.length n]] w fun e w' => e = .returned (.bool (convF g ⟨kind, node, label, kids⟩ c).1) ∧ ∃ p', Mem w0 w' F ((convF g ⟨kind, node, label, kids⟩ c).2.own bc (.slice gA g.length gc) bm p') := by
 obtain ⟨b2, w1, z1, a1, M1⟩ := M.alloc (.cells #[.pointer (some ⟨bc, 0, none⟩)] 82)
 obtain ⟨b3, w2, z2, a2, M2⟩ := M1.alloc (.cells #[.int .i64 kind, .int .i64 node, .int .i64 label, .slice A kids.length n] 31)
 have M2 := Aside0.mk (show Mem w0 w2 F (c.own bc (.slice gA g.length gc) bm p ++ .blk b2 (.cells #[.pointer (some ⟨bc, 0, none⟩)] 82 (0, 0)) :: [.blk b3 (.cells #[.int .i64 kind, .int .i64 node, .int .i64 label, .slice A kids.length n] 31 (0, 0))]) from M2)
 have q0 : w2.cell? ⟨b2, 0, none⟩ = some (.pointer (some ⟨bc, 0, none⟩)) := M2.out.cell (k := 6) (j := 0) rfl rfl
 have e0 : w2.cell? ⟨b3, 0, none⟩ = some (.int .i64 kind) := M2.out.cell (k := 7) (j := 0) rfl rfl
 have e1 : w2.cell? ⟨b3, 1, none⟩ = some (.int .i64 node) := M2.out.cell (k := 7) (j := 1) rfl rfl
 have e2 : w2.cell? ⟨b3, 2, none⟩ = some (.int .i64 label) := M2.out.cell (k := 7) (j := 2) rfl rfl
 have e3 : w2.cell? ⟨b3, 3, none⟩ = some (.slice A kids.length n) := M2.out.cell (k := 7) (j := 3) rfl rfl
 have hbig : kids.length < 1000000000 := by have h8 := hok.st; have := szL_len kids; simp only [big] at h8; omega
 have HG := Aside0.mk hG
 have HK := Aside0.mk hK
 have IH := Aside0.mk ih
 have HOK := Aside0.mk hok
 have HN := Aside0.mk hn
 clear M M1 hG hK ih hok hn
 by_cases h1 : kind = 1
 ·subst h1
  by_cases hb : node ≠ 0 ∨ label ≠ 0
  ·have HF := Aside0.mk (show convF g ⟨1, node, label, kids⟩ c = (false, c) by rw [convF, if_pos rfl, if_pos hb])
   by_cases hn0 : node = 0
   ·have hl0 : (label != 0) = true := by simpa using hb.resolve_left (by simpa using hn0)
    subst hn0
    clear hb
    go_enter Try.func50, Try.ntmps50
    go_wp2
    go_ret
    rw [HF.out]
    exact ⟨rfl, p, (M2.out.lose (k := 7) rfl).lose (k := 6) rfl⟩
   ·have hl0 : (node != 0) = true := by simpa using hn0
    clear hb hn0
    go_enter Try.func50, Try.ntmps50
    go_wp2
    go_ret
    rw [HF.out]
    exact ⟨rfl, p, (M2.out.lose (k := 7) rfl).lose (k := 6) rfl⟩
  ·have hn0 : node = 0 := Classical.byContradiction fun h => hb (.inl h)
   have hl0 : label = 0 := Classical.byContradiction fun h => hb (.inr h)
   subst hn0 hl0
   have HF := Aside0.mk (show convF g ⟨1, 0, 0, kids⟩ c = convL g kids c by rw [convF, if_pos rfl, if_neg hb])
   have CL := Aside0.mk (cont70_any w0 bc gA gc bm g b2 kids IH.out F _ c p w2 A n (2 + m) M2.out (HOK.out.mono (by omega)) HK.out hbig)
   obtain ⟨R, hR⟩ : ∃ R, R = convL g kids c := ⟨_, rfl⟩
   rw [← hR] at CL HF
   clear hb hR
   go_enter Try.func50, Try.ntmps50
   go_wp2_with (first
    | (go_at_call 70; refine CL.out.mono ?_; rintro e w5 ⟨rfl, p5, M5⟩; have M5 := Aside0.mk M5))
   go_ret
   rw [HF.out]
   exact ⟨by simp, p5, (M5.out.lose (k := 7) rfl).lose (k := 6) rfl⟩
 by_cases h2 : kind = 2
 ·subst h2
  have HF := Aside0.mk (show convF g ⟨2, node, label, kids⟩ c = kvisF g node label kids c by rw [convF, if_neg (by decide), if_pos rfl]; rfl)
  clear h1
  go_enter Try.func50, Try.ntmps50
  go_wp2_with (first
   | (go_at_call 72; refine (kvisits_any w0 bc gA gc bm g HG.out hg 2 node label kids IH.out _ c p w2 A n m M2.out.narrow HOK.out HK.out HN.out).mono ?_; rintro e w8 ⟨rfl, p8, M8⟩; have M9 := M8.wide; have M9 := Aside0.mk M9; clear M8))
  go_ret
  rw [HF.out]
  exact ⟨rfl, p8, (M9.out.lose (k := 7) rfl).lose (k := 6) rfl⟩
 have h1' : (kind == 1) = false := by simpa using h1
 have h2' : (kind == 2) = false := by simpa using h2
 by_cases h34 : kind = 3 ∨ kind = 4
 ·have HF := Aside0.mk (show convF g ⟨kind, node, label, kids⟩ c = kencF g kind node label kids c by rw [convF, if_neg h1, if_neg h2, if_pos h34]; rfl)
  clear h1 h2
  by_cases h3 : kind = 3
  ·subst h3
   clear h1' h2' h34
   go_enter Try.func50, Try.ntmps50
   go_wp2_with (first
    | (go_at_call 73; refine (kenc_any w0 bc gA gc bm g 3 node label kids IH.out _ c p w2 A n m M2.out.narrow HOK.out HK.out).mono ?_; rintro e w8 ⟨rfl, p8, M8⟩; have M9 := M8.wide; have M9 := Aside0.mk M9; clear M8))
   go_ret
   rw [HF.out]
   exact ⟨rfl, p8, (M9.out.lose (k := 7) rfl).lose (k := 6) rfl⟩
  ·have h4 : kind = 4 := h34.resolve_left h3
   subst h4
   clear h1' h2' h34 h3
   go_enter Try.func50, Try.ntmps50
   go_wp2_with (first
    | (go_at_call 73; refine (kenc_any w0 bc gA gc bm g 4 node label kids IH.out _ c p w2 A n m M2.out.narrow HOK.out HK.out).mono ?_; rintro e w8 ⟨rfl, p8, M8⟩; have M9 := M8.wide; have M9 := Aside0.mk M9; clear M8))
   go_ret
   rw [HF.out]
   exact ⟨rfl, p8, (M9.out.lose (k := 7) rfl).lose (k := 6) rfl⟩
 have h3' : (kind == 3) = false := by simpa using fun h => h34 (.inl h)
 have h4' : (kind == 4) = false := by simpa using fun h => h34 (.inr h)
 by_cases h56 : kind = 5 ∨ kind = 6
 ·have HF := Aside0.mk (show convF g ⟨kind, node, label, kids⟩ c = c.leave kind node label kids by rw [convF, if_neg h1, if_neg h2, if_neg h34, if_pos h56])
  clear h1 h2 h34
  by_cases h5 : kind = 5
  ·subst h5
   clear h56 h1' h2' h3' h4'
   go_enter Try.func50, Try.ntmps50
   go_wp2_with (first
    | (go_at_call 74; refine (kleave_any w0 bc _ bm 5 node label kids _ c p w2 A n (3 * szL kids + 1 + m) M2.out.narrow (HOK.out.mono (by omega)) hbig).mono ?_; rintro e w8 ⟨rfl, p8, M8⟩; have M9 := M8.wide; have M9 := Aside0.mk M9; clear M8))
   go_ret
   rw [HF.out]
   exact ⟨rfl, p8, (M9.out.lose (k := 7) rfl).lose (k := 6) rfl⟩
  ·have h6 : kind = 6 := h56.resolve_left h5
   subst h6
   clear h56 h1' h2' h3' h4' h5
   go_enter Try.func50, Try.ntmps50
   go_wp2_with (first
    | (go_at_call 74; refine (kleave_any w0 bc _ bm 6 node label kids _ c p w2 A n (3 * szL kids + 1 + m) M2.out.narrow (HOK.out.mono (by omega)) hbig).mono ?_; rintro e w8 ⟨rfl, p8, M8⟩; have M9 := M8.wide; have M9 := Aside0.mk M9; clear M8))
   go_ret
   rw [HF.out]
   exact ⟨rfl, p8, (M9.out.lose (k := 7) rfl).lose (k := 6) rfl⟩
 have h5' : (kind == 5) = false := by simpa using fun h => h56 (.inl h)
 have h6' : (kind == 6) = false := by simpa using fun h => h56 (.inr h)
 have HF := Aside0.mk (show convF g ⟨kind, node, label, kids⟩ c = (false, c) by rw [convF, if_neg h1, if_neg h2, if_neg h34, if_neg h56])
 clear h1 h2 h34 h56
 go_enter Try.func50, Try.ntmps50
 go_wp2
 go_ret
 rw [HF.out]
 exact ⟨rfl, p, (M2.out.lose (k := 7) rfl).lose (k := 6) rfl⟩
theorem kconv_any (w0 : World) (bc : Nat) (gA : Option Addr) (gc : Nat) (bm : Nat) (g : List (List Int)) (hG : kG.C w0 gA g.length g) (hg : g.length ≤ 1000000000) : ∀ (N : Nat) (s : S31), szF s ≤ N → ConvOk w0 bc gA gc bm g s
 | 0, s, h => by rw [szF_eq] at h; omega
 | N + 1, s, h => by
  intro F H c p w A n m M hok hK hn
  rw [szF_eq] at h hok
  obtain ⟨kind, node, label, kids⟩ := s
  refine (kconv_step w0 bc gA gc bm g hG hg kind node label kids (fun k hk => kconv_any w0 bc gA gc bm g hG hg N k ?_) (H ++ F) c p w A n m M.narrow (hok.mono (by simp only []; omega)) hK hn).mono ?_
  ·have := szL_mem hk
   simp only [] at h
   omega
  ·rintro e w' ⟨rfl, p', M'⟩
   exact ⟨rfl, p', M'.wide⟩
end Go.Proofs.Ytfiiihpdekppiaa
end
section
namespace Go.Proofs.Ytfiiihpdekppiaa
open Go.RowKit Go.Proofs Go.Proofs.YtfiiihpdekppiaaW.PrintWords
open PShapeReducible (S31 S77 rd_T77)
def kChk (ss : List S77) (g : List (List Int)) : Nat → List (Int × Bool) → List Int → Option Bool
 | 0, _, _ => none
 | _ + 1, _, [] => some true
 | k + 1, seen, n :: st =>
  if mB0 seen n = true then kChk ss g k seen st
  else if (0 ≤ n ∧ n < ss.length) ∧ 0 ≤ (rd_T77 ss n).f1 ∧ (rd_T77 ss n).f1 < g.length then
   (rTos ss (g.getD (rd_T77 ss n).f1.toNat []) 0 (rd_T77 ss n).f2 st).bind fun r =>
    match r with
    | none => some false
    | some st' => kChk ss g k (mput seen n true) st'
  else none
def kCheckS (ss : List S77) (g : List (List Int)) (k : Nat) : Option Bool :=
 (nx ss 0).bind fun f =>
  if f < 0 then some false
  else if f < ss.length then (if (rd_T77 ss f).f1 ≠ 0 then some false else kChk ss g k [] [f])
  else none
def kRun (g : List (List Int)) (s : S31) : Bool × Ks := convF g s ⟨[], [], []⟩
def kPts (g : List (List Int)) (s : S31) : List S77 := ((kRun g s).2.emit ⟨2, 0, []⟩).pts.map Stp.s77
def CheckIs (s : S31) (g : List (List Int)) (b : Bool) : Prop :=
 (ValidIs g false ∧ b = false) ∨ (ValidIs g true ∧ g.length ≤ 1000000000 ∧ szL s.f3 ≤ 100000000 ∧
  (((kRun g s).1 = false ∧ b = false) ∨ ((kRun g s).1 = true ∧ ∃ k, kCheckS (kPts g s) g k = some b)))
end Go.Proofs.Ytfiiihpdekppiaa
end
section
namespace Go.Proofs.Ytfiiihpdekppiaa
open Go.RowKit Go.Proofs Go.Proofs.YtfiiihpdekppiaaW.PrintWords
open Go.ChangeMaps (setBlock heap_setBlock_same heap_setBlock_other)
open PShapeReducible (S31 k31 at_T31 rd_T31 S77 k77 at_T77 rd_T77)
theorem rd_s77 (ss : List Stp) (i : Nat) : (rd_T77 (ss.map Stp.s77) i).f1 = (((ss.map Stp.cells).getD i []).getD 1 (.int .i64 0) |> fun v => match v with | .int _ x => x | _ => 0) ∧ (rd_T77 (ss.map Stp.s77) i).f2 = (ss.map Stp.tos).getD i [] := by
 unfold rd_T77
 simp only [Int.toNat_natCast, List.getD_eq_getElem?_getD, List.getElem?_map]
 cases ss[i]? with
 | none => exact ⟨rfl, rfl⟩
 | some p => exact ⟨rfl, rfl⟩
theorem Mem.recAt {w0 w : World} {F H : List Pc} {e k j b c : Nat} {ts : List Value} {ss : List Stp} (h : Mem w0 w F H) (hk : H[k]? = some (.row (.slice (some ⟨b, 0, none⟩) ss.length c) e 3 ss.length (recs (ss.map Stp.cells) ts))) (hj : H[j]? = some (.rows ts (ss.map Stp.tos))) (i : Nat) (hi : i < ss.length) :
  ∃ A2 c2, ts.getD i nilS = .slice A2 (rd_T77 (ss.map Stp.s77) i).f2.length c2 ∧ kI.C w A2 (rd_T77 (ss.map Stp.s77) i).f2.length (rd_T77 (ss.map Stp.s77) i).f2 ∧
   w.cell? ⟨b, i * 3 + 1, none⟩ = some (.int .i64 (rd_T77 (ss.map Stp.s77) i).f1) ∧ w.cell? ⟨b, i * 3 + 2, none⟩ = some (.slice A2 (rd_T77 (ss.map Stp.s77) i).f2.length c2) := by
 have h2 := h.rows hj
 have hlen : ts.length = ss.length := by simpa using h2.len
 obtain ⟨b', c', e', _, hcell⟩ := h.rowForm hk (by omega)
 injection e' with e1 _ _
 injection e1 with e1
 injection e1 with e1
 subst e1
 obtain ⟨A, c, e1, e2, e3⟩ := own_C (h2.row i (by omega))
 have er : (rd_T77 (ss.map Stp.s77) i).f2 = (ss.map Stp.tos).getD i [] := (rd_s77 ss i).2
 rw [← er] at e1 e2 e3
 refine ⟨A, c, e1, e3, hcell _ _ ?_, hcell _ _ ?_⟩
 ·rw [step_cell hlen hi (j := 1) (by omega)]
  simp [rd_T77, List.getD_eq_getElem?_getD, hi, Stp.cells, Stp.s77]
 ·rw [step_cell hlen hi (j := 2) (by omega)]
  have h9 : ((ss.map Stp.cells).getD i []).length = 2 := by simp [List.getD_eq_getElem?_getD, hi, Stp.cells]
  rw [List.getElem?_append_right (by omega), h9, e1]; rfl
set_option maxRecDepth 100000 in
set_option maxHeartbeats 4000000 in
theorem scheck_any (w : World) (A : Option Addr) (n cg : Nat) (g : List (List Int)) (kind node label : Int) (kids : List S31) (b : Bool) (hG : kG.C w A g.length g) (hgc : g.length ≤ cg) (A3 : Option Addr) (hK : k31.C w A3 kids.length kids) (hn : kids.length ≤ n)
  (h : CheckIs ⟨kind, node, label, kids⟩ g b) :
  Calls Try.prog 32 #[.agg #[.int .i64 kind, .int .i64 node, .int .i64 label, .slice A3 kids.length n], .agg #[.slice A g.length cg]] w fun e w' => e = .returned (.bool b) ∧ Below w.heap.size w w' := by
 obtain ⟨b2, w1, z1, a1, M1⟩ := (Mem.start w).alloc (.cells #[.int .i64 kind, .int .i64 node, .int .i64 label, .slice A3 kids.length n] 31)
 obtain ⟨b3, w2, z2, a2, M2⟩ := M1.alloc (.cells #[.slice A g.length cg] 27)
 obtain ⟨bm, w3, z3, a3, M3⟩ := M2.alloc (.map #[] 0)
 obtain ⟨bc, w4, z4, a4, M4⟩ := M3.alloc (.cells #[.slice A g.length cg, nilS, nilS, .map (some bm)] 86)
 have k1 := M2.cell (k := 1) (j := 0) rfl rfl
 have k1' := M4.cell (k := 1) (j := 0) rfl rfl
 have hmm := @run_makeMap Try.prog
 have M4 : Mem w w4 [] ((Ks.mk [] [] []).own bc (.slice A g.length cg) bm ⟨nilS, nilS, [], []⟩ ++ [.blk b2 (.cells #[.int .i64 kind, .int .i64 node, .int .i64 label, .slice A3 kids.length n] 31 (0, 0)), .blk b3 (.cells #[.slice A g.length cg] 27 (0, 0))]) := by
  have h1 := ((((M4.nilrow 90 3).norows).nilrow 144 4).norows).order [3, 4, 5, 6, 7, 2, 0, 1] rfl
  exact h1
 have HG := Aside0.mk hG
 have HK := Aside0.mk hK
 have HN := Aside0.mk hn
 have HGC := Aside0.mk hgc
 have M4 := Aside0.mk M4
 clear hG hK M1 M2 M3
 rcases h with ⟨⟨kv, hv⟩, rfl⟩ | ⟨⟨kv, hv⟩, hg9, hsz, h⟩
 ·have HV := Aside0.mk hv
  clear hv
  go_enter Try.func32, Try.ntmps32
  go_wp2_with (go_at_call 36; refine (PShapeReducible.flow_Valid.calls kv A cg g false w4 (Kd.C_below HG.out M4.out.hb) hgc HV.out).mono ?_; rintro e w5 ⟨rfl, hb5⟩; have M5 := Aside0.mk (M4.out.below hb5); clear hb5)
  go_ret
  exact ⟨rfl, M5.out.hb⟩
 have hsz' : szL kids ≤ 100000000 := hsz
 have HV := Aside0.mk hv
 have CO := Aside0.mk (kconv_any w bc A cg bm g HG.out hg9 _ ⟨kind, node, label, kids⟩ (Nat.le_refl _))
 have HOK0 := Aside0.mk (show (Ks.mk [] [] []).Ok (3 * szF ⟨kind, node, label, kids⟩ - 1 + 100000000) from ⟨by simp only [szF_eq, big, List.length_nil]; omega, by simp, by simp only [szF_eq, big, List.length_nil]; omega, by simp⟩)
 have h9 := Aside0.mk (convF_ok g 100000000 ⟨kind, node, label, kids⟩ ⟨[], [], []⟩ HOK0.out)
 have e0 := M4.out.cell (k := 6) (j := 0) rfl rfl
 have e1 := M4.out.cell (k := 6) (j := 1) rfl rfl
 have e2 := M4.out.cell (k := 6) (j := 2) rfl rfl
 have e3 := M4.out.cell (k := 6) (j := 3) rfl rfl
 obtain ⟨db, d, hd⟩ : ∃ db d, kRun g ⟨kind, node, label, kids⟩ = (db, d) := ⟨_, _, rfl⟩
 have HD := Aside0.mk (show convF g ⟨kind, node, label, kids⟩ ⟨[], [], []⟩ = (db, d) from hd)
 have hd2 : (kPts g ⟨kind, node, label, kids⟩) = (d.emit ⟨2, 0, []⟩).pts.map Stp.s77 := by unfold kPts; rw [hd]
 rw [hd, hd2] at h
 rw [HD.out] at h9
 clear hd hd2 hv e0 e1 e2 e3
 dsimp only at h h9
 rcases h with ⟨rfl, rfl⟩ | ⟨rfl, k, hk⟩
 ·go_enter Try.func32, Try.ntmps32
  go_wp2_with (first
   | (go_at_call 36; refine (PShapeReducible.flow_Valid.calls kv A cg g true w4 (Kd.C_below HG.out M4.out.hb) hgc HV.out).mono ?_; rintro e w5 ⟨rfl, hb5⟩; have M5 := M4.out.below hb5; have e0 := M5.cell (k := 6) (j := 0) rfl rfl; have e1 := M5.cell (k := 6) (j := 1) rfl rfl; have e2 := M5.cell (k := 6) (j := 2) rfl rfl; have e3 := M5.cell (k := 6) (j := 3) rfl rfl; have M5 := Aside0.mk M5; clear hb5)
   | (go_at_call 50; refine (CO.out [] _ ⟨[], [], []⟩ _ w5 A3 n 100000000 M5.out HOK0.out HK.out HN.out).mono ?_; rintro e w6 ⟨rfl, p6, M6⟩; rw [HD.out] at M6 ⊢; have M6 := Aside0.mk M6))
  go_ret
  exact ⟨rfl, M6.out.hb⟩
 obtain ⟨D, hD⟩ : ∃ D, D = d.emit ⟨2, 0, []⟩ := ⟨_, rfl⟩
 obtain ⟨SS, hSS⟩ : ∃ SS, SS = D.pts.map Stp.s77 := ⟨_, rfl⟩
 have hs : kCheckS SS g k = some b := by rw [hSS, hD]; exact hk
 have HDD := Aside0.mk hD
 have HSE := Aside0.mk hSS
 have hpl : d.pts.length < 1000000000 := by have h8 := h9.out.2.1; simp only [big] at h8; omega
 have hN9 : SS.length ≤ 1000000000 := by rw [hSS, hD]; simp [Ks.emit]; omega
 clear hk hD hSS
 unfold kCheckS at hs
 obtain ⟨f, hf, hs⟩ := Option.bind_eq_some_iff.1 hs
 have HF := Aside0.mk hf
 unfold nx at HF
 by_cases hneg : f < 0
 ·rw [if_pos hneg] at hs
  have HB := Aside0.mk (Option.some.inj hs)
  clear hs hf
  go_enter Try.func32, Try.ntmps32
  go_wp2_with (first
   | (go_at_call 36; refine (PShapeReducible.flow_Valid.calls kv A cg g true w4 (Kd.C_below HG.out M4.out.hb) hgc HV.out).mono ?_; rintro e w5 ⟨rfl, hb5⟩; have M5 := M4.out.below hb5; have e0 := M5.cell (k := 6) (j := 0) rfl rfl; have e1 := M5.cell (k := 6) (j := 1) rfl rfl; have e2 := M5.cell (k := 6) (j := 2) rfl rfl; have e3 := M5.cell (k := 6) (j := 3) rfl rfl; have M5 := Aside0.mk M5; clear hb5)
   | (go_at_call 50; refine (CO.out [] _ ⟨[], [], []⟩ _ w5 A3 n 100000000 M5.out HOK0.out HK.out HN.out).mono ?_; rintro e w6 ⟨rfl, p6, M6⟩; rw [HD.out] at M6 ⊢; have M6 := Aside0.mk M6)
   | (go_at_call 51; refine (add0 bc _ d bm p6 2 0 M6.out hpl).mono ?_; rintro e w7 ⟨rfl, p7, M7⟩; rw [← HDD.out] at M7; obtain ⟨AS, nS, eS, hnS, hCS⟩ := M7.recsC (e := 90) (k := 1) (j := 2) rfl rfl; rw [← HSE.out] at eS hnS hCS; have KS1 := Aside0.mk (show w7.cell? ⟨bc, 1, none⟩ = some (.slice AS SS.length nS) from (M7.cell (k := 0) (j := 1) rfl rfl).trans (congrArg some eS)); have HCS := Aside0.mk hCS; have M7 := Aside0.mk M7; clear eS hnS hCS)
   | (go_at_call 52; refine (next_any w7 bc AS nS SS 0 f _ KS1.out HCS.out hN9 HF.out).mono ?_; rintro e w8 ⟨rfl, hb8⟩; have M8 := Aside0.mk (M7.out.below hb8); clear hb8))
  go_ret
  exact ⟨by rw [← HB.out]; rfl, M8.out.hb⟩
 rw [if_neg hneg] at hs
 have hfl : f < SS.length := Classical.byContradiction fun hc => by rw [if_neg hc] at hs; cases hs
 rw [if_pos hfl] at hs
 obtain ⟨f, rfl⟩ : ∃ q : Nat, f = q := ⟨f.toNat, by omega⟩
 have hf0 : ¬ ((f : Int) < 0) := hneg
 have HFL := Aside0.mk (show f < SS.length by omega)
 obtain ⟨fn, hfn⟩ : ∃ fn, fn = (rd_T77 SS f).f1 := ⟨_, rfl⟩
 rw [← hfn] at hs
 have HFN := Aside0.mk hfn
 by_cases hnz : fn ≠ 0
 ·rw [if_pos hnz] at hs
  have HB := Aside0.mk (Option.some.inj hs)
  have hnz' : (fn != 0) = true := by simpa using hnz
  clear hs hf hneg hnz hfn
  go_enter Try.func32, Try.ntmps32
  go_wp2_with (first
   | (go_at_call 36; refine (PShapeReducible.flow_Valid.calls kv A cg g true w4 (Kd.C_below HG.out M4.out.hb) hgc HV.out).mono ?_; rintro e w5 ⟨rfl, hb5⟩; have M5 := M4.out.below hb5; have e0 := M5.cell (k := 6) (j := 0) rfl rfl; have e1 := M5.cell (k := 6) (j := 1) rfl rfl; have e2 := M5.cell (k := 6) (j := 2) rfl rfl; have e3 := M5.cell (k := 6) (j := 3) rfl rfl; have M5 := Aside0.mk M5; clear hb5)
   | (go_at_call 50; refine (CO.out [] _ ⟨[], [], []⟩ _ w5 A3 n 100000000 M5.out HOK0.out HK.out HN.out).mono ?_; rintro e w6 ⟨rfl, p6, M6⟩; rw [HD.out] at M6 ⊢; have M6 := Aside0.mk M6)
   | (go_at_call 51; refine (add0 bc _ d bm p6 2 0 M6.out hpl).mono ?_; rintro e w7 ⟨rfl, p7, M7⟩; rw [← HDD.out] at M7; obtain ⟨AS, nS, eS, hnS, hCS⟩ := M7.recsC (e := 90) (k := 1) (j := 2) rfl rfl; rw [← HSE.out] at eS hnS hCS; have KS1 := Aside0.mk (show w7.cell? ⟨bc, 1, none⟩ = some (.slice AS SS.length nS) from (M7.cell (k := 0) (j := 1) rfl rfl).trans (congrArg some eS)); have HCS := Aside0.mk hCS; have M7 := Aside0.mk M7; clear eS hnS hCS)
   | (go_at_call 52; refine (next_any w7 bc AS nS SS 0 f _ KS1.out HCS.out hN9 HF.out).mono ?_; rintro e w8 ⟨rfl, hb8⟩; have M8 := M7.out.below hb8; obtain ⟨ads, A2, c2, eAs, g0, g1, g2, hc2, hC2⟩ := step_at (Kd.C_below HCS.out hb8) f HFL.out; subst eAs; rw [← HFN.out] at g1; have k5 := pw_cell_below hb8 KS1.out; have M8 := Aside0.mk M8; clear hb8 hC2 hc2))
  go_ret
  exact ⟨by rw [← HB.out]; rfl, M8.out.hb⟩
 rw [if_neg hnz] at hs
 have hnz' : fn = 0 := by simpa using hnz
 subst hnz'
 have HS := Aside0.mk hs
 have hDp : 0 < D.pts.length := by rw [HDD.out]; simp [Ks.emit]
 clear hs hf hneg hnz hfn
 go_enter Try.func32, Try.ntmps32
 go_wp2_with (first
  | (go_at_call 36; refine (PShapeReducible.flow_Valid.calls kv A cg g true w4 (Kd.C_below HG.out M4.out.hb) hgc HV.out).mono ?_; rintro e w5 ⟨rfl, hb5⟩; have M5 := M4.out.below hb5; have e0 := M5.cell (k := 6) (j := 0) rfl rfl; have e1 := M5.cell (k := 6) (j := 1) rfl rfl; have e2 := M5.cell (k := 6) (j := 2) rfl rfl; have e3 := M5.cell (k := 6) (j := 3) rfl rfl; have M5 := Aside0.mk M5; clear hb5)
  | (go_at_call 50; refine (CO.out [] _ ⟨[], [], []⟩ _ w5 A3 n 100000000 M5.out HOK0.out HK.out HN.out).mono ?_; rintro e w6 ⟨rfl, p6, M6⟩; rw [HD.out] at M6 ⊢; have M6 := Aside0.mk M6)
  | (go_at_call 51; refine (add0 bc _ d bm p6 2 0 M6.out hpl).mono ?_; rintro e w7 ⟨rfl, p7, M7⟩; rw [← HDD.out] at M7; obtain ⟨vS7, vF7, ts7, bs7⟩ := p7; obtain ⟨bS, cS, eS, hcS, _⟩ := M7.rowForm (k := 1) rfl hDp; dsimp only at eS; subst eS; obtain ⟨AS, nS, eS, hnS, hCS⟩ := M7.recsC (e := 90) (k := 1) (j := 2) rfl rfl; rw [← HSE.out] at eS hnS hCS; injection eS with eA eB eC; subst eA; have hDl : D.pts.length = SS.length := (by rw [HSE.out]; simp); have k5 : w7.cell? ⟨bc, 1, none⟩ = some (.slice (some ⟨bS, 0, none⟩) SS.length cS) := (M7.cell (k := 0) (j := 1) rfl rfl).trans (by rw [hDl]; rfl); have KS1 := Aside0.mk k5; have HCS := Aside0.mk hCS; have HDL := Aside0.mk hDl; have M7 := Aside0.mk M7; clear hnS hCS k5 hDl)
  | (go_at_call 52; refine (next_any w7 bc _ cS SS 0 f _ KS1.out HCS.out hN9 HF.out).mono ?_; rintro e w8 ⟨rfl, hb8⟩; have M8 := M7.out.below hb8; obtain ⟨A2, c2, _, _, g1, _⟩ := M8.recAt (k := 1) (j := 2) rfl rfl f (by have := HFL.out; have := HDL.out; omega); rw [← HSE.out, ← HFN.out] at g1; have k5 := pw_cell_below hb8 KS1.out; have k5' := Aside0.mk k5; obtain ⟨b9, w9, z9, a9, M9⟩ := M8.alloc (.map #[] 0); obtain ⟨b10, w10, z10, a10, M10⟩ := M9.one (f : Int); have M10 := Aside0.mk M10; clear hb8 M8 M9))
 clear k1 k1' e0 e1 e2 e3 g1 k5 z1 z2 z3 z4 a1 a2 a3 a4 z9 a9 z10 a10 hf0 M7 KS1 HCS M6 M5 M4 CO HOK0 h9
 go_loopg [8] k (fun kq v8 wr => ∃ (seen : List (Int × Bool)) (st : List Int), Aside0 (kChk SS g kq seen st = some b) ∧ Aside0 (Mem w wr [] (D.own bc (.slice A g.length cg) bm ⟨.slice (some ⟨bS, 0, none⟩) D.pts.length cS, vF7, ts7, bs7⟩ ++ [.blk b2 (.cells #[.int .i64 kind, .int .i64 node, .int .i64 label, .slice A3 kids.length n] 31 (0, 0)), .blk b3 (.cells #[.slice A g.length cg] 27 (0, 0)), .blk b9 (mB seen), .row v8 3 1 st.length (nums .i64 st.reverse)])))
 case atStart => exact ⟨[], [(f : Int)], HS, M10⟩
 case round =>
  clear M10 HS HF
  obtain ⟨seen, st, hH, hM⟩ := hrel
  have h := hH.out
  have kc1 : wr.cell? ⟨bc, 1, none⟩ = some (.slice (some ⟨bS, 0, none⟩) SS.length cS) := (hM.out.cell (k := 0) (j := 1) rfl rfl).trans (by rw [HDL.out]; rfl)
  cases hk : gk with
  | zero => rw [hk] at h; simp [kChk] at h
  | succ gk' =>
   rw [hk] at h
   have HK' := Aside0.mk hk
   clear hH hk
   match st, h, hM with
   | [], h, hM =>
    have HB := Aside0.mk (show true = b by simpa [kChk] using h)
    obtain ⟨A9, c9, rfl, _⟩ := hM.out.rowSlice' (k := 9) rfl
    clear h
    go_wp2
    go_ret
    exact ⟨by rw [← HB.out]; rfl, hM.out.hb⟩
   | x :: st, h, hM =>
    obtain ⟨b10, c9, rfl, hcap, hcell⟩ := hM.out.rowForm (k := 9) rfl (by simp)
    have hl9 : st.length + 1 ≤ 9223372036854775807 := own_len (hM.out.row (k := 9) rfl)
    have hcap : st.length + 1 ≤ c9 := hcap
    have q9 : wr.cell? ⟨b10, st.length, none⟩ = some (.int .i64 x) := hcell _ _ (by simp [nums])
    have hcut := hM.out.rowCut (k := 9) st.length rfl (by simp)
    have hM2 : Mem w wr [] (D.own bc (.slice A g.length cg) bm ⟨.slice (some ⟨bS, 0, none⟩) D.pts.length cS, vF7, ts7, bs7⟩ ++ [.blk b2 (.cells #[.int .i64 kind, .int .i64 node, .int .i64 label, .slice A3 kids.length n] 31 (0, 0)), .blk b3 (.cells #[.slice A g.length cg] 27 (0, 0)), .blk b9 (mB seen), .row (.slice (some ⟨b10, 0, none⟩) st.length c9) 3 1 st.length (nums .i64 st.reverse)]) := by
     have e : (nums .i64 (x :: st).reverse).take (st.length * 1) = nums .i64 st.reverse := by
      rw [List.reverse_cons, nums_append, Nat.mul_one, List.take_append_of_le_length (by simp [nums_length]), List.take_of_length_le (by simp [nums_length])]
     rw [← e]
     exact hcut
    have HM2 := Aside0.mk hM2
    have L1 := look_B (hM2.blk (k := 8) rfl) x
    rw [kChk] at h
    cases hsn : mB0 seen x with
    | true =>
     rw [if_pos hsn] at h
     rw [hsn] at L1
     have HH := Aside0.mk h
     clear h hsn hM hM2 hcell hcut
     go_wp2
     go_roundg gk'
     case measure => have := HK'.out; omega
     case rel => exact ⟨seen, st, HH, HM2⟩
    | false =>
     rw [if_neg (by rw [hsn]; decide)] at h
     rw [hsn] at L1
     have hxr : (0 ≤ x ∧ x < SS.length) ∧ 0 ≤ (rd_T77 SS x).f1 ∧ (rd_T77 SS x).f1 < g.length := Classical.byContradiction fun hc => by rw [if_neg hc] at h; cases h
     rw [if_pos hxr] at h
     obtain ⟨hxr, hnode⟩ := hxr
     obtain ⟨x, rfl⟩ : ∃ q : Nat, x = q := ⟨x.toNat, by omega⟩
     have hx : x < SS.length := by omega
     have hxl : (x : Int) < SS.length := hxr.2
     have HX := Aside0.mk hx
     obtain ⟨nd, hnd⟩ : ∃ q : Nat, (rd_T77 SS x).f1 = q := ⟨(rd_T77 SS x).f1.toNat, by omega⟩
     rw [hnd, Int.toNat_natCast] at h
     obtain ⟨tos, htos⟩ : ∃ tos, tos = (rd_T77 SS x).f2 := ⟨_, rfl⟩
     rw [← htos] at h
     obtain ⟨row, hrow⟩ : ∃ row, row = g.getD nd [] := ⟨_, rfl⟩
     rw [← hrow] at h
     obtain ⟨rr, hr1, hr2⟩ := Option.bind_eq_some_iff.1 h
     obtain ⟨w11, p11, M11⟩ := hM2.putB (k := 8) rfl (x : Int) true
     have M11 : Mem w w11 [] (D.own bc (.slice A g.length cg) bm ⟨.slice (some ⟨bS, 0, none⟩) D.pts.length cS, vF7, ts7, bs7⟩ ++ [.blk b2 (.cells #[.int .i64 kind, .int .i64 node, .int .i64 label, .slice A3 kids.length n] 31 (0, 0)), .blk b3 (.cells #[.slice A g.length cg] 27 (0, 0)), .blk b9 (mB (mput seen x true)), .row (.slice (some ⟨b10, 0, none⟩) st.length c9) 3 1 st.length (nums .i64 st.reverse)]) := M11
     obtain ⟨A2, c2, hts, hC2, _, g2⟩ := M11.recAt (k := 1) (j := 2) rfl rfl x (by have := HDL.out; omega)
     rw [← HSE.out, ← htos] at hts hC2 g2
     have kc2 : w11.cell? ⟨bc, 1, none⟩ = some (.slice (some ⟨bS, 0, none⟩) SS.length cS) := (M11.cell (k := 0) (j := 1) rfl rfl).trans (by rw [HDL.out]; rfl)
     have M11 := Aside0.mk M11
     have HR1 := Aside0.mk hr1
     have HR2 := Aside0.mk hr2
     have HND := Aside0.mk hnd
     have HNL := Aside0.mk (show nd < g.length by omega)
     have HTOS := Aside0.mk htos
     have HROW := Aside0.mk hrow
     have HTS := Aside0.mk hts
     have htl : tos.length ≤ 9223372036854775807 := hC2.2.1
     clear h hsn hM hM2 hcell hcut hx hxr hnode hr1 hr2 hrow htos hnd hts hC2
     go_wp2
     clear L1 p11 kc1 kc2 g2 q9
     go_loopw [8, 75] (fun v8 t wr => ∃ (j : Nat) (st' : List Int), t = .int .i64 j ∧ j ≤ tos.length ∧ Aside0 (rTos SS row j (tos.drop j) st' = some rr) ∧ Aside0 (Mem w wr [] (D.own bc (.slice A g.length cg) bm ⟨.slice (some ⟨bS, 0, none⟩) D.pts.length cS, vF7, ts7, bs7⟩ ++ [.blk b2 (.cells #[.int .i64 kind, .int .i64 node, .int .i64 label, .slice A3 kids.length n] 31 (0, 0)), .blk b3 (.cells #[.slice A g.length cg] 27 (0, 0)), .blk b9 (mB (mput seen x true)), .row v8 3 1 st'.length (nums .i64 st'.reverse)]))) (fun _ t _ => tos.length - (intOf t).toNat)
     case atStart => exact ⟨0, st, rfl, Nat.zero_le _, HR1, M11⟩
     case round =>
      clear M11 HM2
      obtain ⟨j, st', rfl, hj, hT, hM⟩ := hrel
      obtain ⟨A9, c9', rfl, hc9⟩ := hM.out.rowSlice' (k := 9) rfl
      obtain ⟨A2', c2', hts', hC2, g1, _⟩ := hM.out.recAt (k := 1) (j := 2) rfl rfl x (by have := HDL.out; have := HX.out; omega)
      rw [← HSE.out] at hts' hC2 g1
      rw [HND.out] at g1
      rw [← HTOS.out] at hts' hC2
      rw [HTS.out] at hts'
      injection hts' with e1 _ e2
      subst e1 e2
      have ht := hT.out
      by_cases hjl : j < tos.length
      ·have hjl' : (j : Int) < tos.length := by omega
       have HJL := Aside0.mk hjl
       obtain ⟨tt, htt⟩ : ∃ tt, tt = tos[j] := ⟨_, rfl⟩
       rw [List.drop_eq_getElem_cons hjl, ← htt, rTos] at ht
       obtain ⟨mm, hm1, hm2⟩ := Option.bind_eq_some_iff.1 ht
       obtain ⟨ad2, rfl, q2⟩ := C_num hC2 j hjl
       rw [show tos.getD j 0 = tt by rw [htt, List.getD_eq_getElem?_getD, List.getElem?_eq_getElem hjl]; rfl] at q2
       have HM1 := Aside0.mk hm1
       unfold nx at HM1
       have kc3 : wr.cell? ⟨bc, 1, none⟩ = some (.slice (some ⟨bS, 0, none⟩) SS.length cS) := (hM.out.cell (k := 0) (j := 1) rfl rfl).trans (by rw [HDL.out]; rfl)
       have HCSr := Aside0.mk (show k77.C wr (some ⟨bS, 0, none⟩) SS.length SS from by
        obtain ⟨A', n', e', hn', hC'⟩ := hM.out.recsC (e := 90) (k := 1) (j := 2) rfl rfl
        rw [← HSE.out] at hn' hC' e'
        injection e' with e'' _ _
        rw [e'']; exact hC')
       have NX := Aside0.mk (next_any wr bc _ cS SS tt mm _ kc3 HCSr.out hN9 HM1.out)
       by_cases hmn : mm < 0
       ·rw [if_pos hmn] at hm2
        have hrr := (Option.some.inj hm2).symm
        subst hrr
        have HB := Aside0.mk (show false = b by simpa using HR2.out)
        clear hm1 hm2 ht htt hC2 hT hjl
        go_wp2_with (first
         | (go_at_call 52; refine NX.out.mono ?_; rintro e w12 ⟨rfl, hb12⟩; have M12 := Aside0.mk (hM.out.below hb12); clear hb12)
         | (refine wp_region_txt (fun _ => True) [] (by kernel_rfl) (by kernel_rfl) ?_) | (with_reducible refine wpT_nil ?_) | (refine wpT_W (v := ?_) trivial (by decide) (by first | exact wanted_none rfl | rfl) (fun _ hS_ => ?_) ?_; rotate_left; (focus ((try dsimp only at hS_); go_simp; rfl)); (simp only [Act.put, List.setIfInBounds_toArray, List.set_cons_zero, List.set_cons_succ])) | (refine wpT_R (v := ?_) trivial (by decide) (by first | exact wanted_none rfl | rfl) ?_ ?_; rotate_left; (focus (go_simp; rfl)); (simp only [Act.put, List.setIfInBounds_toArray, List.set_cons_zero, List.set_cons_succ])) | (refine wpT_A (v := ?_) (ob := ?_) trivial (by decide) (by first | exact wanted_none rfl | rfl) ?_ ?_ ?_; rotate_left 2; (focus (go_simp; first | (constructor <;> rfl) | rfl)); (focus (exact trivial)); (simp only [Act.put, List.setIfInBounds_toArray, List.set_cons_zero, List.set_cons_succ])) | (refine wpT_no trivial rfl (by decide) ?_; (simp only [Act.put, List.setIfInBounds_toArray, List.set_cons_zero, List.set_cons_succ])))
        go_ret
        exact ⟨by rw [← HB.out]; rfl, M12.out.hb.drew⟩
       ·rw [if_neg hmn] at hm2
        have hmr : mm < SS.length ∧ j < row.length ∧ st'.length < 1000000000 := Classical.byContradiction fun hc => by rw [if_neg hc] at hm2; cases hm2
        rw [if_pos hmr] at hm2
        obtain ⟨mm, rfl⟩ : ∃ q : Nat, mm = q := ⟨mm.toNat, by omega⟩
        obtain ⟨nm, hnm⟩ : ∃ nm, nm = (rd_T77 SS mm).f1 := ⟨_, rfl⟩
        rw [← hnm] at hm2
        have hmn' : ¬ ((mm : Int) < 0) := hmn
        have HMM := Aside0.mk (show mm < SS.length by omega)
        have hmm' : (mm : Int) < SS.length := hmr.1
        have HST := Aside0.mk hmr.2.2
        obtain ⟨ga, Ar, cr, rfl, j1, hcr, hr⟩ := C_row (Kd.C_below HG.out hM.out.hb) nd HNL.out
        rw [← HROW.out] at j1 hcr hr
        obtain ⟨ad5, rfl, j2⟩ := C_num hr j hmr.2.1
        obtain ⟨yy, hyy⟩ : ∃ yy, yy = row.getD j 0 := ⟨_, rfl⟩
        rw [← hyy] at hm2 j2
        have hjr : (j : Int) < row.length := by omega
        have hndl : (nd : Int) < g.length := by have := HNL.out; omega
        have HNM := Aside0.mk hnm
        have J := Aside0.mk (And.intro j1 (And.intro j2 g1))
        have N46 : ∀ w12, Below wr.heap.size wr w12 → w12.cell? ⟨bS, mm * 3 + 1, none⟩ = some (.int .i64 nm) ∧ w12.cell? ⟨bS, x * 3 + 1, none⟩ = some (.int .i64 nd) ∧ w12.cell? (ga.add nd) = some (.slice (some ad5) row.length cr) ∧ w12.cell? (ad5.add j) = some (.int .i64 yy) ∧ w12.cell? ⟨b3, 0, none⟩ = some (.slice (some ga) g.length cg) ∧ w12.cell? ⟨bc, 1, none⟩ = some (.slice (some ⟨bS, 0, none⟩) SS.length cS) := by
         intro w12 hb
         obtain ⟨_, _, _, _, h1, _⟩ := (hM.out.below hb).recAt (k := 1) (j := 2) rfl rfl mm (by have := HDL.out; have := HMM.out; omega)
         rw [← HSE.out, ← HNM.out] at h1
         exact ⟨h1, pw_cell_below hb J.out.2.2, pw_cell_below hb J.out.1, pw_cell_below hb J.out.2.1, (hM.out.below hb).cell (k := 7) (j := 0) rfl rfl, ((hM.out.below hb).cell (k := 0) (j := 1) rfl rfl).trans (by rw [HDL.out]; rfl)⟩
        have N46 := Aside0.mk N46
        by_cases hne : nm ≠ yy
        ·rw [if_pos hne] at hm2
         have hrr := (Option.some.inj hm2).symm
         subst hrr
         have HB := Aside0.mk (show false = b by simpa using HR2.out)
         have hne' : (nm != yy) = true := by simpa using hne
         clear hm1 hm2 ht htt hC2 hT hjl hmn hmr hnm hyy hcr hr hne j1 j2 g1
         go_wp2_with (first
          | (go_at_call 52; refine NX.out.mono ?_; rintro e w12 ⟨rfl, hb12⟩; have M12 := hM.out.below hb12; obtain ⟨t1, t2, t3, t4, t5, t6⟩ := N46.out w12 hb12; obtain ⟨w13, z13, M13⟩ := M12.drew; have t1' := cell_of_drew z13 t1; have t2' := cell_of_drew z13 t2; have t3' := cell_of_drew z13 t3; have t4' := cell_of_drew z13 t4; have t5' := cell_of_drew z13 t5; have t6' := cell_of_drew z13 t6; have M13 := Aside0.mk M13; clear hb12 M12)
          | (rw [z13]) | (refine wp_region_txt (fun _ => True) [] (by kernel_rfl) (by kernel_rfl) ?_) | (with_reducible refine wpT_nil ?_) | (refine wpT_W (v := ?_) trivial (by decide) (by first | exact wanted_none rfl | rfl) (fun _ hS_ => ?_) ?_; rotate_left; (focus ((try dsimp only at hS_); go_simp; rfl)); (simp only [Act.put, List.setIfInBounds_toArray, List.set_cons_zero, List.set_cons_succ])) | (refine wpT_R (v := ?_) trivial (by decide) (by first | exact wanted_none rfl | rfl) ?_ ?_; rotate_left; (focus (go_simp; rfl)); (simp only [Act.put, List.setIfInBounds_toArray, List.set_cons_zero, List.set_cons_succ])) | (refine wpT_A (v := ?_) (ob := ?_) trivial (by decide) (by first | exact wanted_none rfl | rfl) ?_ ?_ ?_; rotate_left 2; (focus (go_simp; first | (constructor <;> rfl) | rfl)); (focus (exact trivial)); (simp only [Act.put, List.setIfInBounds_toArray, List.set_cons_zero, List.set_cons_succ])) | (refine wpT_no trivial rfl (by decide) ?_; (simp only [Act.put, List.setIfInBounds_toArray, List.set_cons_zero, List.set_cons_succ])))
         go_ret
         exact ⟨by rw [← HB.out]; rfl, M13.out.hb⟩
        ·rw [if_neg hne] at hm2
         have hne' : nm = yy := by simpa using hne
         subst hne'
         have HM2' := Aside0.mk hm2
         clear hm1 hm2 ht htt hC2 hT hjl hmn hmr hyy hnm hcr hr hne j1 j2 g1
         go_wp2_with (first
          | (go_at_call 52; refine NX.out.mono ?_; rintro e w12 ⟨rfl, hb12⟩; have M12 := hM.out.below hb12; obtain ⟨t1, t2, t3, t4, t5, t6⟩ := N46.out w12 hb12; obtain ⟨w13, z13, M13⟩ := M12.drew; have t1' := cell_of_drew z13 t1; have t2' := cell_of_drew z13 t2; have t3' := cell_of_drew z13 t3; have t4' := cell_of_drew z13 t4; have t5' := cell_of_drew z13 t5; have t6' := cell_of_drew z13 t6; have M13 := Aside0.mk M13; clear hb12 M12)
          | (rw [z13])
          | ((with_reducible refine gate_dst (N := 114) rfl ?_); refine mem_append 9 (.tmp 111) (.tmp 113) 23 3 (.int .i64 0) 1 8 rfl rfl Try.underlying23 PShapeReducible.info3 rfl (by decide) (by decide) _ st'.length (nums .i64 st'.reverse) [.int .i64 (mm : Int)] rfl rfl rfl (by simp [Value.oneCell']) M13.out rfl (by have := HST.out; omega) ?_; intro A14 c14 w14 M14; have M14 := Aside0.mk M14)
          | (refine wp_region_txt (fun _ => True) [] (by kernel_rfl) (by kernel_rfl) ?_) | (with_reducible refine wpT_nil ?_) | (refine wpT_W (v := ?_) trivial (by decide) (by first | exact wanted_none rfl | rfl) (fun _ hS_ => ?_) ?_; rotate_left; (focus ((try dsimp only at hS_); go_simp; rfl)); (simp only [Act.put, List.setIfInBounds_toArray, List.set_cons_zero, List.set_cons_succ])) | (refine wpT_R (v := ?_) trivial (by decide) (by first | exact wanted_none rfl | rfl) ?_ ?_; rotate_left; (focus (go_simp; rfl)); (simp only [Act.put, List.setIfInBounds_toArray, List.set_cons_zero, List.set_cons_succ])) | (refine wpT_A (v := ?_) (ob := ?_) trivial (by decide) (by first | exact wanted_none rfl | rfl) ?_ ?_ ?_; rotate_left 2; (focus (go_simp; first | (constructor <;> rfl) | rfl)); (focus (exact trivial)); (simp only [Act.put, List.setIfInBounds_toArray, List.set_cons_zero, List.set_cons_succ])) | (refine wpT_no trivial rfl (by decide) ?_; (simp only [Act.put, List.setIfInBounds_toArray, List.set_cons_zero, List.set_cons_succ])))
         go_roundw
         case rel =>
          refine ⟨j + 1, (mm : Int) :: st', by go_num, by have := HJL.out; omega, HM2', ⟨?_⟩⟩
          rw [List.reverse_cons, nums_append]
          exact M14.out
         case measure => have := HJL.out; simp [intOf]; omega
      ·obtain rfl : j = tos.length := by omega
       rw [List.drop_length, rTos] at ht
       have hrr := (Option.some.inj ht).symm
       subst hrr
       have HH := Aside0.mk (show kChk SS g gk' (mput seen x true) st' = some b from HR2.out)
       clear ht hT hC2 g1
       go_wp2
       go_roundg gk'
       case measure => have := HK'.out; omega
       case rel => exact ⟨mput seen x true, st', HH, hM⟩
end Go.Proofs.Ytfiiihpdekppiaa
end
section
namespace Go.Proofs.Ytfiiihpdekppiaa
open Go.RowKit Go.Proofs Go.Proofs.YtfiiihpdekppiaaW.PrintWords
open PShapeReducible (S31 k31 k31_open)
theorem own_lit (w : World) (e : Nat) (cs : List Value) (hl : cs.length ≤ 1000000) (h1 : ∀ u ∈ cs, u.oneCell' = true ∨ True) : (w.alloc (.cells cs.toArray e)).ownsRow w.heap.size e 1 (.slice (some ⟨w.heap.size, 0, none⟩) cs.length cs.length) cs.length cs :=
 ⟨by simp, .inr ⟨w.heap.size, cs.length, cs.toArray, rfl, Nat.le_refl _, heap_alloc_new _ _, Nat.le_refl _, by simp only [maxLen]; omega, by simp, by simp⟩⟩
section
variable {w0 w w' : World} {F H L : List Pc}
theorem Mem.lit2 (h : Mem w0 w F H) (x y : Int) : ∃ b w2, w.heap.size = b ∧ w.alloc (.cells #[.int .i64 x, .int .i64 y] 3) = w2 ∧ Mem w0 w2 F (H ++ [.row (.slice (some ⟨b, 0, none⟩) 2 2) 3 1 2 (nums .i64 [x, y])]) :=
 ⟨_, _, rfl, rfl, h.newrow ((Below.refl _ _).alloc (Nat.le_refl _) _) (own_lit w 3 [.int .i64 x, .int .i64 y] (by simp) (by simp)) (fun k hk => by simp [Value.ownBlock] at hk; omega)⟩
theorem Mem.lit0 (h : Mem w0 w F H) : ∃ b w2, w.heap.size = b ∧ w.alloc (.cells #[] 3) = w2 ∧ Mem w0 w2 F (H ++ [.row (.slice (some ⟨b, 0, none⟩) 0 0) 3 1 0 (nums .i64 [])]) :=
 ⟨_, _, rfl, rfl, h.newrow ((Below.refl _ _).alloc (Nat.le_refl _) _) (own_lit w 3 [] (by simp) (by simp)) (fun k hk => by simp [Value.ownBlock] at hk; omega)⟩
theorem Mem.litMat {k : Nat} {vs : List Value} {xss : List (List Int)} (h : Mem w0 w F H) (hk : H[k]? = some (.rows vs xss)) (hl : vs.length ≤ 1000000) :
  ∃ b w2, w.heap.size = b ∧ w.alloc (.cells vs.toArray 23) = w2 ∧ Mem w0 w2 F (.mat (.slice (some ⟨b, 0, none⟩) vs.length vs.length) vs xss :: H.eraseIdx k) := by
 refine ⟨_, _, rfl, rfl, ?_⟩
 have h1 := h.newrow (w' := w.alloc (.cells vs.toArray 23)) (b := w.heap.size) (e := 23) (size := 1) (n := vs.length) (v := .slice (some ⟨w.heap.size, 0, none⟩) vs.length vs.length) (xs := vs) ((Below.refl _ _).alloc (Nat.le_refl _) _) (own_lit w 23 vs hl (by simp)) (fun k hk => by simp [Value.ownBlock] at hk; omega)
 have hkl := (List.getElem?_eq_some_iff.1 hk).1
 have hk' : (H ++ [Pc.row (.slice (some ⟨w.heap.size, 0, none⟩) vs.length vs.length) 23 1 vs.length vs])[k]? = some (.rows vs xss) := by rw [List.getElem?_append_left hkl]; exact hk
 have h2 := h1.front hk'
 rw [List.eraseIdx_append_of_lt_length hkl] at h2
 have h3 : MemL w0 (w.alloc (.cells vs.toArray 23)) (.row (.slice (some ⟨w.heap.size, 0, none⟩) vs.length vs.length) 23 1 vs.length vs :: .rows vs xss :: (H.eraseIdx k ++ F)) := by
  refine MemL.perm h2 ?_
  have e : Pc.rows vs xss :: (H.eraseIdx k ++ [Pc.row (.slice (some ⟨w.heap.size, 0, none⟩) vs.length vs.length) 23 1 vs.length vs] ++ F) = Pc.rows vs xss :: (H.eraseIdx k ++ (Pc.row (.slice (some ⟨w.heap.size, 0, none⟩) vs.length vs.length) 23 1 vs.length vs :: F)) := by simp
  rw [e]
  exact (List.Perm.swap _ _ _).trans (List.Perm.cons _ List.perm_middle.symm)
 exact h3.merge (e := .mat (.slice (some ⟨w.heap.size, 0, none⟩) vs.length vs.length) vs xss) ⟨h3.says (.row (.slice (some ⟨w.heap.size, 0, none⟩) vs.length vs.length) 23 1 vs.length vs) (by simp), h3.says (.rows vs xss) (by simp)⟩ (fun b hb => hb)
theorem Mem.fkC {k : Nat} {ok : Nat → Prop} {x : Sh} {A : Option Addr} {c : Nat} (h : Mem w0 w F H) (hk : H[k]? = some (.fk ok x (shc x A c))) : x.f3.length ≤ c ∧ k31.C w A x.f3.length x.f3 := by
 obtain ⟨A3, c3, e, h1, h2⟩ := k31_open (Kd.FK_now (h.fk hk))
 have e2 : (shc x A c)[3]? = ([.int .i64 x.f0, .int .i64 x.f1, .int .i64 x.f2, .slice A3 x.f3.length c3] : List Value)[3]? := by rw [← e]
 simp only [shc, List.getElem?_cons_succ, List.getElem?_cons_zero, Option.some.injEq, Value.slice.injEq] at e2
 obtain ⟨rfl, _, rfl⟩ := e2
 exact ⟨h1, h2⟩
theorem Mem.tuck {R : List Pc} (h : Mem w0 w F (H ++ R)) : Mem w0 w (H ++ F) R := h.perm (by
 rw [← List.append_assoc]; exact List.Perm.append_right F List.perm_append_comm)
theorem Mem.untuck {R : List Pc} (h : Mem w0 w (H ++ F) R) : Mem w0 w F (H ++ R) := h.perm (by
 rw [← List.append_assoc]; exact List.Perm.append_right F List.perm_append_comm)
theorem Mem.graph4 {v1 v2 v3 v4 : Value} {l1 l2 l3 l4 : List Int} (h : Mem w0 w F (H ++ [.row v1 3 1 l1.length (nums .i64 l1), .row v2 3 1 l2.length (nums .i64 l2), .row v3 3 1 l3.length (nums .i64 l3), .row v4 3 1 l4.length (nums .i64 l4)])) :
  ∃ b w2, w.heap.size = b ∧ w.alloc (.cells #[v1, v2, v3, v4] 23) = w2 ∧ Mem w0 w2 F (H ++ [.mat (.slice (some ⟨b, 0, none⟩) 4 4) [v1, v2, v3, v4] [l1, l2, l3, l4]]) := by
 have h1 := ((((h.tuck.norows).join (k := 4) (j := 0) (xs := l1) rfl rfl).join (k := 0) (j := 0) (xs := l2) rfl rfl).join (k := 0) (j := 0) (xs := l3) rfl rfl).join (k := 0) (j := 0) (xs := l4) rfl rfl
 obtain ⟨b, w2, e1, e2, M⟩ := h1.litMat (k := 0) rfl (by simp)
 exact ⟨b, w2, e1, e2, Mem.untuck M⟩
theorem Mem.graph3 {v1 v2 v3 : Value} {l1 l2 l3 : List Int} (h : Mem w0 w F (H ++ [.row v1 3 1 l1.length (nums .i64 l1), .row v2 3 1 l2.length (nums .i64 l2), .row v3 3 1 l3.length (nums .i64 l3)])) :
  ∃ b w2, w.heap.size = b ∧ w.alloc (.cells #[v1, v2, v3] 23) = w2 ∧ Mem w0 w2 F (H ++ [.mat (.slice (some ⟨b, 0, none⟩) 3 3) [v1, v2, v3] [l1, l2, l3]]) := by
 have h1 := (((h.tuck.norows).join (k := 3) (j := 0) (xs := l1) rfl rfl).join (k := 0) (j := 0) (xs := l2) rfl rfl).join (k := 0) (j := 0) (xs := l3) rfl rfl
 obtain ⟨b, w2, e1, e2, M⟩ := h1.litMat (k := 0) rfl (by simp)
 exact ⟨b, w2, e1, e2, Mem.untuck M⟩
end
end Go.Proofs.Ytfiiihpdekppiaa
end
