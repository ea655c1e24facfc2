/- A part of the proof that vellumlaw12.ShapeErrors is true for every input: walks of functions that the row reaches and plain laws that they need. Conditions: none. Joined by merge.py out of C38 C39 B14 LawE; a part that began as a print is named P or W there and is trimmed. -/
import Derived.Test.YtfiiihpdekppiaaE17
import Derived.Test.YtfiiihpdekppiaaE20
import Derived.Test.YtfiiihpdekppiaaE21
import Derived.OpenShut
import Derived.Deep.Slices
import Derived.SizedLaws
import Derived.ChangeSlices
import Derived.Test.YtfiiihpdekppiaaRows
import Derived.WalkKit
import Derived.ProofKit
import Derived.ShutString
import Derived.ChangeOld
import Derived.Below
set_option linter.unusedVariables false
set_option linter.unusedSimpArgs false
section
namespace Go.Proofs.Ytfiiihpdekppiaa
open Go.RowKit Go.Proofs Go.Proofs.YtfiiihpdekppiaaW.PrintWords
open Go.ChangeMaps (setBlock heap_setBlock_same heap_setBlock_other)
def PairsAt (w : World) (A : Option Addr) (l : List (Int × Int)) : Prop :=
 ∀ i, i < l.length → ∃ x, A = some x ∧ w.cell? (x.add (i * 2)) = some (.int .i64 (l.getD i (0, 0)).1) ∧ w.cell? ⟨(x.add (i * 2)).block, (x.add (i * 2)).off + 1, none⟩ = some (.int .i64 (l.getD i (0, 0)).2)
theorem PairsAt.below {w w' : World} {A : Option Addr} {l : List (Int × Int)} (h : PairsAt w A l) (hb : Below w.heap.size w w') : PairsAt w' A l := fun i hi => by
 obtain ⟨x, e, h1, h2⟩ := h i hi
 exact ⟨x, e, (hb.cell (World.block_lt_of_cell? w _ h1)).trans h1, (hb.cell (World.block_lt_of_cell? w _ h2)).trans h2⟩
def smStep (N : Nat) (g : List (List Int)) (p : Int × Int) : List (List Int) :=
 if (g.getD (modI p.1 N).toNat []).length < 3 then g.set (modI p.1 N).toNat (g.getD (modI p.1 N).toNat [] ++ [modI p.2 N]) else g
def smLoop (N : Nat) (l : List (Int × Int)) : List (List Int) := l.foldl (smStep N) (List.replicate N [])
def smallG (l : List (Int × Int)) : List (List Int) := smLoop (l.length % 6 + 1) l
theorem smStep_len (N : Nat) (g : List (List Int)) (p : Int × Int) : (smStep N g p).length = g.length := by
 unfold smStep; split <;> simp
theorem smLoop_len (N : Nat) (l : List (Int × Int)) : (smLoop N l).length = N := by
 have : ∀ (l : List (Int × Int)) (g : List (List Int)), (l.foldl (smStep N) g).length = g.length := fun l => by
  induction l with
  | nil => simp
  | cons a l ih => intro g; rw [List.foldl_cons, ih, smStep_len]
 unfold smLoop
 rw [this, List.length_replicate]
theorem smLoop_snoc (N : Nat) (l : List (Int × Int)) (k : Nat) (hk : k < l.length) : smLoop N (l.take (k + 1)) = smStep N (smLoop N (l.take k)) (l.getD k (0, 0)) := by
 unfold smLoop
 rw [List.take_succ_eq_append_getElem hk, List.foldl_append, List.getD_eq_getElem?_getD, List.getElem?_eq_getElem hk]
 rfl
theorem smStep_row {N : Nat} {g : List (List Int)} {p : Int × Int} (h : ∀ l ∈ g, l.length ≤ 3) : ∀ l ∈ smStep N g p, l.length ≤ 3 := by
 unfold smStep
 split
 ·intro l hl
  rcases List.mem_or_eq_of_mem_set hl with h1 | h1
  ·exact h l h1
  ·rw [h1, List.length_append, List.length_singleton]; omega
 ·exact h
theorem smLoop_row (N : Nat) (l : List (Int × Int)) : ∀ r ∈ smLoop N l, r.length ≤ 3 := by
 have : ∀ (l : List (Int × Int)) (g : List (List Int)), (∀ r ∈ g, r.length ≤ 3) → ∀ r ∈ l.foldl (smStep N) g, r.length ≤ 3 := fun l => by
  induction l with
  | nil => exact fun g h => h
  | cons a l ih => intro g h; rw [List.foldl_cons]; exact ih _ (smStep_row h)
 exact this l _ fun r hr => by rw [List.eq_of_mem_replicate hr]; simp
theorem smLoop_val {N : Nat} (h0 : 0 < N) (h1 : N ≤ 1000000) (l : List (Int × Int)) : ∀ r ∈ smLoop N l, ∀ s ∈ r, 0 ≤ s ∧ s < (N : Int) := by
 have : ∀ (l : List (Int × Int)) (g : List (List Int)), (∀ r ∈ g, ∀ s ∈ r, 0 ≤ s ∧ s < (N : Int)) → ∀ r ∈ l.foldl (smStep N) g, ∀ s ∈ r, 0 ≤ s ∧ s < (N : Int) := fun l => by
  induction l with
  | nil => exact fun g h => h
  | cons a l ih =>
   intro g h
   rw [List.foldl_cons]
   refine ih _ fun r hr s hs => ?_
   unfold smStep at hr
   split at hr
   ·rcases List.mem_or_eq_of_mem_set hr with h2 | h2
    ·exact h r h2 s hs
    ·subst h2
     rcases List.mem_append.1 hs with h3 | h3
     ·rw [List.getD_eq_getElem?_getD] at h3
      cases e : g[(modI a.1 N).toNat]? with
      | none => rw [e] at h3; simp at h3
      | some r => rw [e] at h3; exact h r (List.mem_of_getElem? e) s h3
     ·rw [List.mem_singleton.1 h3]; exact modI_range _ _ h0 (by omega)
   ·exact h r hr s hs
 exact this l _ fun r hr s hs => by rw [List.eq_of_mem_replicate hr] at hs; simp at hs
theorem smallG_ok (l : List (Int × Int)) : ValidG (smallG l) ∧ 0 < (smallG l).length ∧ (smallG l).length ≤ 6 ∧ ∀ r ∈ smallG l, r.length ≤ 3 := by
 have hN : (smallG l).length = l.length % 6 + 1 := smLoop_len _ _
 refine ⟨fun r hr s hs => ?_, by omega, by omega, smLoop_row _ _⟩
 rw [hN]
 exact smLoop_val (by omega) (by omega) l r hr s hs
theorem Mem.makeMat {w0 w : World} {F H : List Pc} (h : Mem w0 w F H) (n : Nat) (hn : n ≤ 1000000) :
  ∃ b w2, w.heap.size = b ∧ w.alloc (.cells (madeCells #[.slice none 0 0] n) 23) = w2 ∧ Mem w0 w2 F (H ++ [.row (.slice (some ⟨b, 0, none⟩) n n) 23 1 n (List.replicate n nilS), .rows (List.replicate n nilS) (List.replicate n [])]) := by
 refine ⟨_, _, rfl, rfl, ?_⟩
 have e : (madeCells #[nilS] n).toList = List.replicate n nilS := by
  apply List.ext_getElem <;> simp [madeCells, Nat.mod_one]
 have h1 := h.newrow ((Below.refl w.heap.size w).alloc (Nat.le_refl _) (.cells (madeCells #[nilS] n) 23)) (b := w.heap.size) (e := 23) (size := 1) (n := n) (v := .slice (some ⟨w.heap.size, 0, none⟩) n n) (xs := List.replicate n nilS) (by
  refine ⟨by simp, .inr ⟨w.heap.size, n, madeCells #[nilS] n, rfl, Nat.le_refl _, by show (w.heap.push _)[w.heap.size]? = _; exact Array.getElem?_push_size, by simp, by simp only [maxLen]; omega, by simp [size_madeCells], ?_⟩⟩
  rw [e]; simp) (fun k hk => by simp only [Value.ownBlock, Option.some.injEq] at hk; omega)
 have h2 := h1.new (.rows (List.replicate n nilS) (List.replicate n [])) (Below.refl _ _) (Rows3.nils _ _ _) (fun b ⟨i, hi, hb⟩ => by
  rw [getD_rep (by simpa using hi)] at hb
  simp [Value.ownBlock] at hb)
 rwa [List.append_assoc] at h2
set_option maxRecDepth 100000 in
set_option maxHeartbeats 4000000 in
theorem small_any (w : World) (A : Option Addr) (c : Nat) (l : List (Int × Int)) (hP : PairsAt w A l) (hl : l.length ≤ 1000000000000000) :
  Calls Try.prog 27 #[.slice A l.length c] w fun e w' => ∃ A' c' vs, e = .returned (.agg #[.slice A' (smallG l).length c']) ∧ (smallG l).length ≤ c' ∧ Mem w w' [] [.row (.slice A' (smallG l).length c') 23 1 (smallG l).length vs, .rows vs (smallG l)] := by
 obtain ⟨N, hN⟩ : ∃ N, N = l.length % 6 + 1 := ⟨_, rfl⟩
 have hN0 : 0 < N := by omega
 have hN6 : N ≤ 6 := by omega
 have hG : smallG l = smLoop N l := by rw [hN]; rfl
 rw [hG, smLoop_len]
 obtain ⟨b2, w1, z1, a1, M1⟩ := (Mem.start w).alloc (.cells #[.slice none 0 0] 27)
 obtain ⟨b12, w2, z2, a2, M2⟩ := M1.makeMat N (by omega)
 obtain ⟨b4, w3, z3, a3, M3⟩ := M2.alloc (.cells #[.slice none 0 0] 27)
 have k4 := M3.cell (k := 3) (j := 0) rfl rfl
 have f4 := M3.free (k := 3) (j := 0) rfl
 obtain ⟨w4, s4, M4⟩ := M3.set (k := 3) 0 rfl (.slice (some ⟨b12, 0, none⟩) N N)
 have M4 := Aside0.mk M4
 have hmod : Int.tmod (l.length : Int) 6 = (N : Int) - 1 := by rw [Int.tmod_eq_emod_of_nonneg (by omega)]; omega
 have hn1 : wrap64 ((N : Int) - 1 + 1) = (N : Int) := by rw [wrap64_in (by omega) (by omega)]; omega
 have hn2 : wrap64 ((N : Int) - 1) = (N : Int) - 1 := by rw [wrap64_in (by omega) (by omega)]
 have HP := Aside0.mk hP
 have HL := Aside0.mk hl
 clear M1 M2 M3 hP hl hG hN
 have M4 := Aside0.mk (show Mem w w4 [] [.blk b2 (.cells #[.slice none 0 0] 27 (0, 0)), .row (.slice (some ⟨b12, 0, none⟩) N N) 23 1 N (List.replicate N nilS), .rows (List.replicate N nilS) (smLoop N (l.take 0)), .blk b4 (.cells #[.slice (some ⟨b12, 0, none⟩) N N] 27 (0, 0))] from M4.out)
 have MOD := Aside0.mk (fun a w => mod_any a (N : Int) w (by omega))
 have HN0 := Aside0.mk hN0
 have HN6 := Aside0.mk hN6
 have hmk := print_make_of (P := Try.prog) 25 23 nilS 24 Try.underlying25 info23 rfl (by decide) N (by omega)
 go_enter Try.func27, Try.ntmps27
 go_wp2
 clear k4 f4 s4 a1 a2 a3 z1 z2 z3 hmod hmk
 go_loopw [5] (fun t wr => ∃ (k : Nat) (vs : List Value), t = .int .i64 k ∧ k ≤ l.length ∧ Aside0 (Mem w wr [] [.blk b2 (.cells #[.slice none 0 0] 27 (0, 0)), .row (.slice (some ⟨b12, 0, none⟩) N N) 23 1 N vs, .rows vs (smLoop N (l.take k)), .blk b4 (.cells #[.slice (some ⟨b12, 0, none⟩) N N] 27 (0, 0))])) (fun t _ => l.length - (intOf t).toNat)
 case atStart => exact ⟨0, _, rfl, Nat.zero_le _, M4⟩
 case round =>
  clear M4
  obtain ⟨k, vs, rfl, hk, hM⟩ := hrel
  by_cases hlt : k < l.length
  ·obtain ⟨x, eA, e0, e1⟩ := (HP.out.below hM.out.hb) k hlt
   subst eA
   have g4 : wr.cell? ⟨b4, 0, none⟩ = some (.slice (some ⟨b12, 0, none⟩) N N) := hM.out.cell (k := 3) (j := 0) rfl rfl
   obtain ⟨p, hp⟩ : ∃ p, p = l.getD k (0, 0) := ⟨_, rfl⟩
   rw [← hp] at e0 e1
   obtain ⟨g, hg⟩ : ∃ g, g = smLoop N (l.take k) := ⟨_, rfl⟩
   rw [← hg] at hM
   have hgl : g.length = N := by rw [hg, smLoop_len]
   have hmr := modI_range p.1 N HN0.out (by have := HN6.out; omega)
   obtain ⟨f, hf⟩ : ∃ f : Nat, modI p.1 N = f := ⟨(modI p.1 N).toNat, by omega⟩
   have hfN : f < N := by omega
   have hvl : vs.length = g.length := (hM.out.rows (k := 2) rfl).len
   obtain ⟨Ar, nr, ev, _⟩ := hM.out.rowsAt (k := 2) rfl (i := f) (by omega)
   obtain ⟨q, hq⟩ : ∃ q, q = g.getD f [] := ⟨_, rfl⟩
   rw [← hq] at ev
   have gr : wr.cell? ⟨b12, f, none⟩ = some (.slice Ar q.length nr) := by
    obtain ⟨b', c', e, _, hc⟩ := hM.out.rowForm (k := 1) rfl HN0.out
    injection e with e
    injection e with e
    injection e with e
    subst e
    refine hc f _ ?_
    rw [← ev, List.getD_eq_getElem?_getD, List.getElem?_eq_getElem (by omega)]
    rfl
   have HF := Aside0.mk hf
   have HQ := Aside0.mk hq
   have HG := Aside0.mk hg
   have HP2 := Aside0.mk hp
   have HK := Aside0.mk hlt
   have HFN := Aside0.mk hfN
   have HEV := Aside0.mk ev
   have HGL := Aside0.mk hgl
   have hlt' : (k : Int) < l.length := by omega
   have hfN' : (f : Int) < N := by omega
   clear hf hq hg hp hlt hfN hmr ev hvl hgl
   by_cases hc : q.length < 3
   ·have hc' : (q.length : Int) < 3 := by omega
    go_wp2_with (go_at_call 33; refine (MOD.out p.1 wr).mono ?_; rintro e w5 ⟨rfl, hd5⟩; rw [HF.out]; have M5 := Aside0.mk (hM.out.drawn hd5); have t0 := pw_cell_below hd5.below e0; have t1 := pw_cell_below hd5.below e1; have t4 := pw_cell_below hd5.below g4; have tr := pw_cell_below hd5.below gr; clear hM e0 e1 g4 gr)
    obtain ⟨w6, z6, M6⟩ := M5.out.drew
    have M6 := Aside0.mk M6
    have r1 : w6.cell? ⟨(x.add (k * 2)).block, (x.add (k * 2)).off + 1, none⟩ = some (.int .i64 p.2) := by rw [← z6]; exact t1
    have r4 : w6.cell? ⟨b4, 0, none⟩ = some (.slice (some ⟨b12, 0, none⟩) N N) := by rw [← z6]; exact t4
    have rr : w6.cell? ⟨b12, f, none⟩ = some (.slice Ar q.length nr) := by rw [← z6]; exact tr
    clear t0 t1 t4 tr hc
    go_wp2_with (first | (rw [z6]) | (refine wp_region_txt (fun W => W.cell? ⟨b4, 0, none⟩ = some (.slice (some ⟨b12, 0, none⟩) N N)) [1, 1015] (by kernel_rfl) (by kernel_rfl) ?_))
    clear z6
    iterate 15 (first | (with_reducible refine wpT_nil ?_) | (refine wpT_W (v := ?_) (by assumption) (by decide) (wanted_none rfl) (fun _ hS_ => ?_) ?_; rotate_left; (focus ((try dsimp only at hS_); go_simp; rfl)); (simp only [Act.put, List.setIfInBounds_toArray, List.set_cons_zero, List.set_cons_succ])) | (refine wpT_R (v := ?_) (by assumption) (by decide) (wanted_none rfl) ?_ ?_; rotate_left; (focus (go_simp; rfl)); (simp only [Act.put, List.setIfInBounds_toArray, List.set_cons_zero, List.set_cons_succ])) | (refine wpT_A (v := ?_) (ob := ?_) (by assumption) (by decide) (wanted_none rfl) ?_ ?_ ?_; rotate_left 2; (focus (go_simp; first | (constructor <;> rfl) | rfl)); (focus (apply cell_alloc; assumption)); (simp only [Act.put, List.setIfInBounds_toArray, List.set_cons_zero, List.set_cons_succ])))
    refine wpT_LA r4 (by decide) (wanted_none rfl) (fun K_ hK_ => ?_)
    go_wp2_with (go_at_call 33; refine (MOD.out p.2 w6).mono ?_; rintro e w7 ⟨rfl, hd7⟩)
    have M7 := Aside0.mk (M6.out.drawn hd7)
    have r7 : w7.cell? ⟨b4, 0, none⟩ = some (.slice (some ⟨b12, 0, none⟩) N N) := M7.out.cell (k := 3) (j := 0) rfl rfl
    refine hK_ _ _ ⟨hd7.below.size, hd7.below.block⟩ r7 ?_
    clear hK_ hd7 r1 r4 rr
    iterate 1 (first | (with_reducible refine wpT_nil ?_) | (refine wpT_W (v := ?_) (by assumption) (by decide) (wanted_none rfl) (fun _ hS_ => ?_) ?_; rotate_left; (focus ((try dsimp only at hS_); go_simp; rfl)); (simp only [Act.put, List.setIfInBounds_toArray, List.set_cons_zero, List.set_cons_succ])) | (refine wpT_R (v := ?_) (by assumption) (by decide) (wanted_none rfl) ?_ ?_; rotate_left; (focus (go_simp; rfl)); (simp only [Act.put, List.setIfInBounds_toArray, List.set_cons_zero, List.set_cons_succ])) | (refine wpT_A (v := ?_) (ob := ?_) (by assumption) (by decide) (wanted_none rfl) ?_ ?_ ?_; rotate_left 2; (focus (go_simp; first | (constructor <;> rfl) | rfl)); (focus (apply cell_alloc; assumption)); (simp only [Act.put, List.setIfInBounds_toArray, List.set_cons_zero, List.set_cons_succ])))
    refine wpT_L (cell_alloc _ r7) (by decide) (wanted_none rfl) (fun K_ hK_ => ?_)
    refine step_mem_at (ops := #[]) 2 f rfl (.tmp 42) (.tmp 51) rfl Try.underlying23 PShapeReducible.info3 vs g (modI p.2 N) (by rw [HEV.out]; rfl) rfl M7.out rfl (by rw [HGL.out]; exact HFN.out) (by rw [← HQ.out]; omega) ?_
    intro A8 c8 w8 M8
    rw [← HQ.out] at M8 ⊢
    have hr8 : w8.cell? ⟨b12, f, none⟩ = some (vs.getD f nilS) := by
     obtain ⟨b', c', e, _, hc⟩ := M8.rowForm (k := 1) rfl HN0.out
     injection e with e
     injection e with e
     injection e with e
     subst e
     refine hc f _ ?_
     have := (M8.rows (k := 2) rfl).len
     rw [List.getD_eq_getElem?_getD, List.getElem?_eq_getElem (by simp only [List.length_set] at this; rw [this, HGL.out]; exact HFN.out)]
     rfl
    rw [HEV.out] at hr8
    have hz8 := (M8.row (k := 1) rfl).frozenAt f
    obtain ⟨w9, s9, M9⟩ := M8.rowPut (k := 1) f rfl (.slice A8 (q.length + 1) c8)
    have r8 : w8.cell? ⟨b4, 0, none⟩ = some (.slice (some ⟨b12, 0, none⟩) N N) := M8.cell (k := 3) (j := 0) rfl rfl
    have r9 : w9.cell? ⟨b4, 0, none⟩ = some (.slice (some ⟨b12, 0, none⟩) N N) := M9.cell (k := 3) (j := 0) rfl rfl
    have M9 := Aside0.mk M9
    refine hK_ _ _ r8 ?_
    clear hK_ M8 r7
    iterate 1 (first | (with_reducible refine wpT_nil ?_) | (refine wpT_W (v := ?_) (by assumption) (by decide) (wanted_none rfl) (fun _ hS_ => ?_) ?_; rotate_left; (focus ((try dsimp only at hS_); go_simp; rfl)); (simp only [Act.put, List.setIfInBounds_toArray, List.set_cons_zero, List.set_cons_succ])) | (refine wpT_R (v := ?_) (by assumption) (by decide) (wanted_none rfl) ?_ ?_; rotate_left; (focus (go_simp; rfl)); (simp only [Act.put, List.setIfInBounds_toArray, List.set_cons_zero, List.set_cons_succ])) | (refine wpT_A (v := ?_) (ob := ?_) (by assumption) (by decide) (wanted_none rfl) ?_ ?_ ?_; rotate_left 2; (focus (go_simp; first | (constructor <;> rfl) | rfl)); (focus (apply cell_alloc; assumption)); (simp only [Act.put, List.setIfInBounds_toArray, List.set_cons_zero, List.set_cons_succ])))
    refine wpT_L r8 (by decide) (wanted_none rfl) (fun K_ hK_ => ?_)
    go_simp
    refine hK_ _ _ r9 ?_
    clear hK_
    refine wpT_nil ?_
    clear hr8 hz8 s9
    have hL := HL.out
    go_wp2
    go_roundw
    case rel =>
     refine ⟨k + 1, vs.set f (.slice A8 (q.length + 1) c8), by go_num, by have := HK.out; omega, ⟨?_⟩⟩
     have hst : smLoop N (l.take (k + 1)) = g.set f (q ++ [modI p.2 N]) := by
      rw [smLoop_snoc N l k HK.out, ← HG.out, ← HP2.out]
      unfold smStep
      rw [HF.out, Int.toNat_natCast, ← HQ.out, if_pos (by omega)]
     rw [hst]
     exact M9.out
    case measure => have := HK.out; simp [intOf]; omega
   ·have hc' : ¬ ((q.length : Int) < 3) := by omega
    go_wp2_with (go_at_call 33; refine (MOD.out p.1 wr).mono ?_; rintro e w5 ⟨rfl, hd5⟩; rw [HF.out]; have M5 := Aside0.mk (hM.out.drawn hd5); have t4 := pw_cell_below hd5.below g4; have tr := pw_cell_below hd5.below gr; clear hM e0 e1 g4 gr; have hL := HL.out)
    go_roundw
    case rel =>
     refine ⟨k + 1, vs, by go_num, by have := HK.out; omega, ⟨?_⟩⟩
     have hst : smLoop N (l.take (k + 1)) = g := by
      rw [smLoop_snoc N l k HK.out, ← HG.out, ← HP2.out]
      unfold smStep
      rw [HF.out, Int.toNat_natCast, ← HQ.out, if_neg hc]
     rw [hst]
     exact M5.out
    case measure => have := HK.out; simp [intOf]; omega
  ·obtain rfl : k = l.length := by omega
   have g4 : wr.cell? ⟨b4, 0, none⟩ = some (.slice (some ⟨b12, 0, none⟩) N N) := hM.out.cell (k := 3) (j := 0) rfl rfl
   have g2 : wr.cell? ⟨b2, 0, none⟩ = some (.slice none 0 0) := hM.out.cell (k := 0) (j := 0) rfl rfl
   have f2 := hM.out.free (k := 0) (j := 0) rfl
   obtain ⟨w9, s9, M9⟩ := hM.out.set (k := 0) 0 rfl (.slice (some ⟨b12, 0, none⟩) N N)
   have g9 : w9.cell? ⟨b2, 0, none⟩ = some (.slice (some ⟨b12, 0, none⟩) N N) := M9.cell (k := 0) (j := 0) rfl rfl
   have M9 := Aside0.mk M9
   clear hM
   go_wp2
   refine bodyPost_ret (results_cell_row rfl _ _ b2 27 #[.slice (some ⟨b12, 0, none⟩) N N] (0, 0) _ rfl (M9.out.blk (k := 0) rfl) Try.underlying27 rfl (by kernel_rfl)) rfl ?_
   refine ⟨some ⟨b12, 0, none⟩, N, vs, rfl, Nat.le_refl _, ?_⟩
   have h := (M9.out.lose (k := 3) rfl).lose (k := 0) rfl
   rwa [List.take_length] at h
end Go.Proofs.Ytfiiihpdekppiaa
end
section
namespace Go.Proofs.Ytfiiihpdekppiaa
open Go.RowKit Go.Proofs Go.Proofs.YtfiiihpdekppiaaW.PrintWords
open Go.ChangeMaps (setBlock heap_setBlock_same heap_setBlock_other)
open PShapeReducible (S31 k31 S77 k77)
def outQ (n : Nat) (q : Int) : Int := if 0 ≤ q ∧ q < n then n + q else q
theorem outQ_bad (n : Nat) (q : Int) : ¬ (0 ≤ outQ n q ∧ outQ n q < n) := by unfold outQ; split <;> omega
def badG (g : List (List Int)) (i : Nat) (x : Int) : List (List Int) := g.set i (g.getD i [] ++ [x])
theorem badG_bad {g : List (List Int)} {i : Nat} {x : Int} (hi : i < g.length) (hx : ¬ (0 ≤ x ∧ x < g.length)) : ¬ (ValidG (badG g i x) ∧ 0 < (badG g i x).length) := fun h => by
 have h1 := h.1 (g.getD i [] ++ [x]) (by
  unfold badG
  refine List.mem_iff_getElem.2 ⟨i, by simpa using hi, by simp⟩) x (by simp)
 have e : (badG g i x).length = g.length := by simp [badG]
 rw [e] at h1
 exact hx h1
theorem small_struct (l : List (Int × Int)) : ∃ x, StructIs (smallG l) 64 x 0 := by
 obtain ⟨h1, h2, h3, h4⟩ := smallG_ok l
 obtain ⟨x, err, h, he⟩ := struct_ok h1 h2 (by omega) (fun r hr => by have := h4 r hr; omega) 64 (by omega)
 rcases he with rfl | ⟨_, _, hc⟩
 ·exact ⟨x, h⟩
 ·have := cst_mono h3
  have e : cst 6 = 57 := rfl
  omega
theorem bad_struct (l : List (Int × Int)) (i : Nat) (x budget : Int) (hi : i < (smallG l).length) (hx : ¬ (0 ≤ x ∧ x < (smallG l).length)) : ValidIs (badG (smallG l) i x) false ∧ StructIs (badG (smallG l) i x) budget ⟨0, 0, 0, []⟩ 51 := by
 obtain ⟨_, _, h3, h4⟩ := smallG_ok l
 refine struct_bad (badG_bad hi hx) (by simp [badG]; omega) (fun r hr => ?_) budget
 rcases List.mem_or_eq_of_mem_set hr with h | h
 ·have := h4 r h; omega
 ·rw [h, List.length_append, List.length_singleton, List.getD_eq_getElem?_getD, List.getElem?_eq_getElem hi]
  have := h4 _ (List.getElem_mem hi)
  simp only [Option.getD_some]
  omega
theorem empty_struct (budget : Int) : StructIs [] budget ⟨0, 0, 0, []⟩ 51 := (struct_bad (by simp) (by simp) (by simp) budget).2
theorem Mem.toMat {w0 w : World} {F H : List Pc} {v : Value} {vs : List Value} {g : List (List Int)} {n : Nat} (hn : n = vs.length) (h : Mem w0 w F (H ++ [.row v 23 1 n vs, .rows vs g])) : Mem w0 w F (H ++ [.mat v vs g]) := by
 subst hn
 have h1 : MemL w0 w (.row v 23 1 vs.length vs :: .rows vs g :: (H ++ F)) := MemL.perm h (by
  rw [List.append_assoc]
  exact (List.perm_append_comm_assoc [Pc.row v 23 1 vs.length vs, .rows vs g] H F))
 have h2 : MemL w0 w (.mat v vs g :: (H ++ F)) := h1.merge ⟨h1.says (.row v 23 1 vs.length vs) (by simp), h1.says (.rows vs g) (by simp)⟩ (fun b hb => hb)
 exact MemL.perm h2 (by
  rw [List.append_assoc]
  exact (List.perm_append_comm_assoc H [Pc.mat v vs g] F))
set_option maxRecDepth 100000 in
set_option maxHeartbeats 8000000 in
theorem errors_any (w : World) (A : Option Addr) (c : Nat) (l : List (Int × Int)) (q0 q1 bud : Int) (hP : PairsAt w A l) (hl : l.length ≤ 1000000000000000) (hq : -9223372036854775808 ≤ q1 ∧ q1 ≤ 9223372036854775807) :
  Calls Try.prog 12 #[.slice A l.length c, .agg #[.int .i64 q0, .int .i64 q1], .int .i64 bud] w fun e w' => e = .returned (.bool true) ∧ Below w.heap.size w w' := by
 have SAN := Aside0.mk (fun w => sanity_any sanS sanT sanU ⟨0, 0, 0, []⟩ sanFacts w)
 obtain ⟨x, hx⟩ := small_struct l
 have hbad := bad_struct l
 have hok := smallG_ok l
 have SM := fun (W : World) (h : PairsAt W A l) => small_any W A c l h hl
 obtain ⟨g, hg⟩ : ∃ g, g = smallG l := ⟨_, rfl⟩
 rw [← hg] at hx hbad hok
 have SM := Aside0.mk (show ∀ W : World, PairsAt W A l → Calls Try.prog 27 #[.slice A l.length c] W fun e w' => ∃ A' c' vs, e = .returned (.agg #[.slice A' g.length c']) ∧ g.length ≤ c' ∧ Mem W w' [] [.row (.slice A' g.length c') 23 1 g.length vs, .rows vs g] by rw [hg]; exact SM)
 have HP := Aside0.mk hP
 have HX := Aside0.mk hx
 have HBAD := Aside0.mk hbad
 have HOK := Aside0.mk hok
 have hg0 := hok.2.1
 have hg6 := hok.2.2.1
 obtain ⟨b4, w1, z1, a1, M1⟩ := (Mem.start w).alloc (.cells #[.int .i64 q0, .int .i64 q1] 57)
 have M1 := Aside0.mk M1
 clear hP hl hx hbad hok hg
 go_enter Try.func12, Try.ntmps12
 go_wp2_with (fail)
 refine (SAN.out w1).mono ?_
 rintro e w2 ⟨rfl, hb2⟩
 have M2 := Aside0.mk (M1.out.below hb2)
 clear M1 hb2 z1 a1
 dsimp only
 go_wp2_with (fail)
 refine (SM.out w2 (HP.out.below M2.out.hb)).mono ?_
 rintro e w3 ⟨A3, c3, vs, rfl, hc3, N3⟩
 have M3 := (M2.out.call N3).toMat (H := [.blk b4 _]) (by have := (N3.rows (k := 1) rfl).len; exact this.symm)
 obtain ⟨b8, w4, z4, a4, M4⟩ := M3.alloc (.cells #[.slice none 0 0] 27)
 have gk := M4.cell (k := 2) (j := 0) rfl rfl
 have gf := M4.free (k := 2) (j := 0) rfl
 obtain ⟨w5, s5, M5⟩ := M4.set (k := 2) 0 rfl (.slice A3 g.length c3)
 have g5 : w5.cell? ⟨b8, 0, none⟩ = some (.slice A3 g.length c3) := M5.cell (k := 2) (j := 0) rfl rfl
 have M5 := Aside0.mk (show Mem w w5 [] [.blk b4 (.cells #[.int .i64 q0, .int .i64 q1] 57 (0, 0)), .mat (.slice A3 g.length c3) vs g, .blk b8 (.cells #[.slice A3 g.length c3] 27 (0, 0))] from M5)
 clear M2 N3 M3 M4
 dsimp only
 go_wp2_with (fail)
 refine (Mem.struct (g := g) (k := 1) M5.out rfl HX.out).mono ?_
 rintro e w6 ⟨A6, n6, ok6, rfl, M6⟩
 obtain ⟨b9, w7, z7, a7, M7⟩ := M6.alloc (.cells #[.int .i64 0, .int .i64 0, .int .i64 0, .slice none 0 0] 31)
 obtain ⟨y1, y2, y3, y4, ⟨s1, s2, s3, s4⟩, ⟨c1, c2, c3', c4⟩, ⟨f1, f2, f3, f4⟩, M8⟩ := M7.fill4 (k := 4) rfl (.int .i64 x.f0) (.int .i64 x.f1) (.int .i64 x.f2) (.slice A6 x.f3.length n6)
 have M8 := Aside0.mk (show Mem w y4 [] [.blk b4 (.cells #[.int .i64 q0, .int .i64 q1] 57 (0, 0)), .mat (.slice A3 g.length c3) vs g, .blk b8 (.cells #[.slice A3 g.length c3] 27 (0, 0)), .fk ok6 x (shc x A6 n6), .blk b9 (.cells #[.int .i64 x.f0, .int .i64 x.f1, .int .i64 x.f2, .slice A6 x.f3.length n6] 31 (0, 0))] from M8)
 clear M5 M6 M7 gk gf g5 s5 z4 a4
 dsimp only
 go_wp2_with (fail)
 refine (SM.out y4 (HP.out.below M8.out.hb)).mono ?_
 rintro e w9 ⟨A9, c9, vs9, rfl, hc9, N9⟩
 obtain ⟨b12, c9', e9, _, _⟩ := N9.rowForm (k := 0) rfl hg0
 cases e9
 have M9 := M8.out.call N9
 obtain ⟨b11, w10, z10, a10, M10⟩ := M9.alloc (.cells #[.slice none 0 0] 27)
 have gk := M10.cell (k := 7) (j := 0) rfl rfl
 have gf := M10.free (k := 7) (j := 0) rfl
 obtain ⟨w11, s11, M11⟩ := M10.set (k := 7) 0 rfl (.slice (some ⟨b12, 0, none⟩) g.length c9)
 have M11 := Aside0.mk (show Mem w w11 [] [.blk b4 (.cells #[.int .i64 q0, .int .i64 q1] 57 (0, 0)), .mat (.slice A3 g.length c3) vs g, .blk b8 (.cells #[.slice A3 g.length c3] 27 (0, 0)), .fk ok6 x (shc x A6 n6), .blk b9 (.cells #[.int .i64 x.f0, .int .i64 x.f1, .int .i64 x.f2, .slice A6 x.f3.length n6] 31 (0, 0)), .row (.slice (some ⟨b12, 0, none⟩) g.length c9) 23 1 g.length vs9, .rows vs9 g, .blk b11 (.cells #[.slice (some ⟨b12, 0, none⟩) g.length c9] 27 (0, 0))] from M11)
 have g11 : w11.cell? ⟨b11, 0, none⟩ = some (.slice (some ⟨b12, 0, none⟩) g.length c9) := M11.out.cell (k := 7) (j := 0) rfl rfl
 have h0 : w11.cell? ⟨b4, 0, none⟩ = some (.int .i64 q0) := M11.out.cell (k := 0) (j := 0) rfl rfl
 clear M8 N9 M9 M10 s1 s2 s3 s4 c1 c2 c3' c4 f1 f2 f3 f4 z7 a7
 dsimp only
 go_wp2_with (fail)
 have hmr := modI_range q0 g.length hg0 (by omega)
 obtain ⟨i, hi⟩ : ∃ i : Nat, modI q0 g.length = i := ⟨(modI q0 g.length).toNat, by omega⟩
 have hil : i < g.length := by omega
 refine (mod_any q0 g.length w11 (by omega)).mono ?_
 rintro e w12 ⟨rfl, hd12⟩
 rw [hi]
 have M12 := Aside0.mk (M11.out.drawn hd12)
 have g12 : w12.cell? ⟨b11, 0, none⟩ = some (.slice (some ⟨b12, 0, none⟩) g.length c9) := M12.out.cell (k := 7) (j := 0) rfl rfl
 have h12 : w12.cell? ⟨b4, 1, none⟩ = some (.int .i64 q1) := M12.out.cell (k := 0) (j := 1) rfl rfl
 have HIL := Aside0.mk hil
 clear M11 hd12 gk gf s11 h0 g11 z10 a10 hmr hi
 dsimp only
 obtain ⟨out, ho⟩ : ∃ out, out = outQ g.length q1 := ⟨_, rfl⟩
 have HO := Aside0.mk (show ¬ (0 ≤ out ∧ out < g.length) by rw [ho]; exact outQ_bad g.length q1)
 have hcs : (0 ≤ q1 ∧ q1 < g.length ∧ (g.length : Int) + q1 = out) ∨ (0 ≤ q1 ∧ ¬ q1 < g.length ∧ q1 = out) ∨ (¬ 0 ≤ q1 ∧ q1 = out) := by
  rw [ho]; unfold outQ
  by_cases ha : 0 ≤ q1
  ·by_cases hb : q1 < g.length
   ·exact .inl ⟨ha, hb, by rw [if_pos ⟨ha, hb⟩]⟩
   ·exact .inr (.inl ⟨ha, hb, by rw [if_neg (fun h => hb h.2)]⟩)
  ·exact .inr (.inr ⟨ha, by rw [if_neg (fun h => ha h.1)]⟩)
 clear ho
 obtain ⟨Ar, nr, ev, _⟩ := M12.out.rowsAt (k := 6) rfl (i := i) hil
 have hvl : vs9.length = g.length := (M12.out.rows (k := 6) rfl).len
 have gr : w12.cell? ⟨b12, i, none⟩ = some (.slice Ar (g.getD i []).length nr) := by
  obtain ⟨b', c', e, _, hc⟩ := M12.out.rowForm (k := 5) rfl hg0
  injection e with e
  injection e with e
  injection e with e
  subst e
  refine hc i _ ?_
  rw [← ev, List.getD_eq_getElem?_getD, List.getElem?_eq_getElem (by omega)]
  rfl
 obtain ⟨q, hq'⟩ : ∃ q, q = g.getD i [] := ⟨_, rfl⟩
 rw [← hq'] at ev gr
 have hql : q.length ≤ 3 := by
  rw [hq', List.getD_eq_getElem?_getD, List.getElem?_eq_getElem hil]
  exact HOK.out.2.2.2 _ (List.getElem_mem hil)
 have HEV := Aside0.mk ev
 have HQ := Aside0.mk hq'
 have HVL := Aside0.mk hvl
 have HQL := Aside0.mk hql
 have hil' : (i : Int) < g.length := by omega
 clear ev hq' hvl hil
 obtain ⟨w13, z13, M13⟩ := M12.out.drew
 have M13 := Aside0.mk M13
 have r11 : w13.cell? ⟨b11, 0, none⟩ = some (.slice (some ⟨b12, 0, none⟩) g.length c9) := M13.out.cell (k := 7) (j := 0) rfl rfl
 have rr : w13.cell? ⟨b12, i, none⟩ = some (.slice Ar q.length nr) := by rw [← z13]; exact gr
 clear M12 gr
 rcases hcs with ⟨ha, hb, e⟩ | ⟨ha, hb, e⟩ | ⟨ha, e⟩
 all_goals go_wp2_with (first | (rw [z13]) | (refine wp_region_txt (fun W => W.cell? ⟨b11, 0, none⟩ = some (.slice (some ⟨b12, 0, none⟩) g.length c9)) [1] (by kernel_rfl) (by kernel_rfl) ?_))
 all_goals
  clear z13 g12 h12
  iterate 10 (first | (with_reducible refine wpT_nil ?_) | (refine wpT_W (v := ?_) (by assumption) (by decide) (wanted_none rfl) (fun _ hS_ => ?_) ?_; rotate_left; (focus ((try dsimp only at hS_); go_simp; rfl)); (simp only [Act.put, List.setIfInBounds_toArray, List.set_cons_zero, List.set_cons_succ])) | (refine wpT_R (v := ?_) (by assumption) (by decide) (wanted_none rfl) ?_ ?_; rotate_left; (focus (go_simp; rfl)); (simp only [Act.put, List.setIfInBounds_toArray, List.set_cons_zero, List.set_cons_succ])) | (refine wpT_A (v := ?_) (ob := ?_) (by assumption) (by decide) (wanted_none rfl) ?_ ?_ ?_; rotate_left 2; (focus (go_simp; first | (constructor <;> rfl) | rfl)); (focus (apply cell_alloc; assumption)); (simp only [Act.put, List.setIfInBounds_toArray, List.set_cons_zero, List.set_cons_succ])))
  refine wpT_L (cell_alloc _ r11) (by decide) (wanted_none rfl) (fun K_ hK_ => ?_)
  refine step_mem_at (ops := #[]) 6 i rfl (.tmp 57) (.tmp 59) rfl Try.underlying23 PShapeReducible.info3 vs9 g out (by rw [HEV.out]; rfl) rfl M13.out rfl HIL.out (by rw [← HQ.out]; have := HQL.out; omega) ?_
  intro A8 c8 w14 M14
  rw [← HQ.out] at M14 ⊢
  have M14 : Mem w w14 [] [.blk b4 (.cells #[.int .i64 q0, .int .i64 q1] 57 (0, 0)), .mat (.slice A3 g.length c3) vs g, .blk b8 (.cells #[.slice A3 g.length c3] 27 (0, 0)), .fk ok6 x (shc x A6 n6), .blk b9 (.cells #[.int .i64 x.f0, .int .i64 x.f1, .int .i64 x.f2, .slice A6 x.f3.length n6] 31 (0, 0)), .row (.slice (some ⟨b12, 0, none⟩) g.length c9) 23 1 g.length vs9, .rows (vs9.set i (.slice A8 (q.length + 1) c8)) (g.set i (q ++ [out])), .blk b11 (.cells #[.slice (some ⟨b12, 0, none⟩) g.length c9] 27 (0, 0))] := M14
  have hr14 : w14.cell? ⟨b12, i, none⟩ = some (.slice Ar q.length nr) := by
   obtain ⟨b', c', e, _, hc⟩ := M14.rowForm (k := 5) rfl hg0
   injection e with e
   injection e with e
   injection e with e
   subst e
   rw [← HEV.out]
   refine hc i _ ?_
   rw [List.getD_eq_getElem?_getD, List.getElem?_eq_getElem (by rw [HVL.out]; exact HIL.out)]
   rfl
  have hz14 := (M14.row (k := 5) rfl).frozenAt i
  obtain ⟨w15, s15, M15⟩ := M14.rowPut (k := 5) i rfl (.slice A8 (q.length + 1) c8)
  have r14 : w14.cell? ⟨b11, 0, none⟩ = some (.slice (some ⟨b12, 0, none⟩) g.length c9) := M14.cell (k := 7) (j := 0) rfl rfl
  have r15 : w15.cell? ⟨b11, 0, none⟩ = some (.slice (some ⟨b12, 0, none⟩) g.length c9) := M15.cell (k := 7) (j := 0) rfl rfl
  have M15 := Aside0.mk M15
  refine hK_ _ _ r14 ?_
  clear hK_ M14 M13 r11 rr
  iterate 1 (first | (with_reducible refine wpT_nil ?_) | (refine wpT_W (v := ?_) (by assumption) (by decide) (wanted_none rfl) (fun _ hS_ => ?_) ?_; rotate_left; (focus ((try dsimp only at hS_); go_simp; rfl)); (simp only [Act.put, List.setIfInBounds_toArray, List.set_cons_zero, List.set_cons_succ])) | (refine wpT_R (v := ?_) (by assumption) (by decide) (wanted_none rfl) ?_ ?_; rotate_left; (focus (go_simp; rfl)); (simp only [Act.put, List.setIfInBounds_toArray, List.set_cons_zero, List.set_cons_succ])) | (refine wpT_A (v := ?_) (ob := ?_) (by assumption) (by decide) (wanted_none rfl) ?_ ?_ ?_; rotate_left 2; (focus (go_simp; first | (constructor <;> rfl) | rfl)); (focus (apply cell_alloc; assumption)); (simp only [Act.put, List.setIfInBounds_toArray, List.set_cons_zero, List.set_cons_succ])))
  refine wpT_L r14 (by decide) (wanted_none rfl) (fun K_ hK_ => ?_)
  go_simp
  refine hK_ _ _ r15 ?_
  clear hK_
  refine wpT_nil ?_
  clear hr14 hz14 s15
  have hbd := HBAD.out i out bud HIL.out HO.out
  obtain ⟨gb, hgb⟩ : ∃ gb, gb = badG g i out := ⟨_, rfl⟩
  have egb : g.set i (q ++ [out]) = gb := by rw [hgb]; unfold badG; rw [HQ.out]
  have hgl : g.length = gb.length := by rw [← egb]; simp
  rw [← hgb] at hbd
  have HB := Aside0.mk hbd
  obtain ⟨vb, hvb⟩ : ∃ vb, vb = vs9.set i (.slice A8 (q.length + 1) c8) := ⟨_, rfl⟩
  have hvbl : g.length = vb.length := by rw [hvb]; simp [HVL.out]
  have M15 := M15.out
  rw [egb, ← hvb] at M15
  have M16 := (M15.order [0, 1, 2, 3, 4, 7, 5, 6] rfl).toMat (H := [.blk b4 (.cells #[.int .i64 q0, .int .i64 q1] 57 (0, 0)), .mat (.slice A3 g.length c3) vs g, .blk b8 (.cells #[.slice A3 g.length c3] 27 (0, 0)), .fk ok6 x (shc x A6 n6), .blk b9 (.cells #[.int .i64 x.f0, .int .i64 x.f1, .int .i64 x.f2, .slice A6 x.f3.length n6] 31 (0, 0)), .blk b11 (.cells #[.slice (some ⟨b12, 0, none⟩) g.length c9] 27 (0, 0))]) hvbl
  have M16 : Mem w w15 [] [.blk b4 (.cells #[.int .i64 q0, .int .i64 q1] 57 (0, 0)), .mat (.slice A3 g.length c3) vs g, .blk b8 (.cells #[.slice A3 g.length c3] 27 (0, 0)), .fk ok6 x (shc x A6 n6), .blk b9 (.cells #[.int .i64 x.f0, .int .i64 x.f1, .int .i64 x.f2, .slice A6 x.f3.length n6] 31 (0, 0)), .blk b11 (.cells #[.slice (some ⟨b12, 0, none⟩) g.length c9] 27 (0, 0)), .mat (.slice (some ⟨b12, 0, none⟩) g.length c9) vb gb] := M16
  rw [hgl] at r15
  rw [hgl] at M16
  have M16 := Aside0.mk M16
  clear M15 hgb egb hvb hvbl hbd r14 e hgl
  go_wp2_with (fail)
  refine (Mem.struct (g := gb) (k := 6) M16.out rfl HB.out.2).mono ?_
  rintro e w18 ⟨A18, n18, ok18, rfl, M18⟩
  obtain ⟨b14, w19, z19, a19, M19⟩ := M18.alloc (.cells #[.int .i64 0, .int .i64 0, .int .i64 0, .slice none 0 0] 31)
  obtain ⟨u1, u2, u3, u4, ⟨s1, s2, s3, s4⟩, ⟨c1, c2, c3', c4⟩, ⟨f1, f2, f3, f4⟩, M20⟩ := M19.fill4 (k := 8) rfl (.int .i64 0) (.int .i64 0) (.int .i64 0) (.slice A18 0 n18)
  have M21 := (((M20.nilrow 23 1).norows).perm (F' := []) (H' := [.blk b4 (.cells #[.int .i64 q0, .int .i64 q1] 57 (0, 0)), .mat (.slice A3 gb.length c3) vs g, .blk b8 (.cells #[.slice A3 gb.length c3] 27 (0, 0)), .fk ok6 x (shc x A6 n6), .blk b9 (.cells #[.int .i64 x.f0, .int .i64 x.f1, .int .i64 x.f2, .slice A6 x.f3.length n6] 31 (0, 0)), .blk b11 (.cells #[.slice (some ⟨b12, 0, none⟩) gb.length c9] 27 (0, 0)), .mat (.slice (some ⟨b12, 0, none⟩) gb.length c9) vb gb, .fk ok18 ⟨0, 0, 0, []⟩ (shc ⟨0, 0, 0, []⟩ A18 n18), .blk b14 (.cells #[.int .i64 0, .int .i64 0, .int .i64 0, .slice A18 0 n18] 31 (0, 0))] ++ [.row nilS 23 1 0 [], .rows [] []]) (List.Perm.refl _)).toMat rfl
  have M21 := Aside0.mk M21
  clear M18 M19 M20 M16 r15
  dsimp only
  go_wp2_with (fail)
  refine (Mem.struct (g := []) (A := none) (c := 0) (k := 9) M21.out rfl (empty_struct bud)).mono ?_
  rintro e w22 ⟨A22, n22, ok22, rfl, M22⟩
  obtain ⟨b16, w23, z23, a23, M23⟩ := M22.alloc (.cells #[.int .i64 0, .int .i64 0, .int .i64 0, .slice none 0 0] 31)
  obtain ⟨v1, v2, v3, v4, ⟨t1, t2, t3, t4⟩, ⟨d1, d2, d3, d4⟩, ⟨g1, g2, g3, g4⟩, M24⟩ := M23.fill4 (k := 11) rfl (.int .i64 0) (.int .i64 0) (.int .i64 0) (.slice A22 0 n22)
  have k0 : v4.cell? ⟨b14, 0, none⟩ = some (.int .i64 0) := M24.cell (k := 8) (j := 0) rfl rfl
  have k3 : v4.cell? ⟨b14, 3, none⟩ = some (.slice A18 0 n18) := M24.cell (k := 8) (j := 3) rfl rfl
  have kb : v4.cell? ⟨b11, 0, none⟩ = some (.slice (some ⟨b12, 0, none⟩) gb.length c9) := M24.cell (k := 5) (j := 0) rfl rfl
  have M24 := Aside0.mk M24
  clear M21 M22 M23 s1 s2 s3 s4 c1 c2 c3' c4 f1 f2 f3 f4
  dsimp only
  go_wp2_with (fail)
  obtain ⟨A', c', e, hc, hC⟩ := M24.out.matC (k := 6) rfl
  cases e
  refine (scheck_any v4 _ 0 c9 gb 2 0 0 [] false hC hc none (Kd.C_nil k31 v4) (Nat.le_refl _) (.inl ⟨HB.out.1, rfl⟩)).mono ?_
  rintro e w25 ⟨rfl, hb25⟩
  have M25 := Aside0.mk (M24.out.below hb25)
  dsimp only
  clear M24 hb25 k0 k3 kb t1 t2 t3 t4 d1 d2 d3 d4 g1 g2 g3 g4
  go_wp2_with (fail)
  go_ret
  exact ⟨rfl, M25.out.hb⟩
theorem errors_row (w : World) (A : Option Addr) (c : Nat) (l : List (Int × Int)) (hP : PairsAt w A l) (hl : l.length ≤ 100000000000000) (_ : l.length ≤ c) (q0 q1 : Int) (_ : -9223372036854775808 ≤ q0 ∧ q0 ≤ 9223372036854775807) (hq : -9223372036854775808 ≤ q1 ∧ q1 ≤ 9223372036854775807) (bud : Int) (_ : -9223372036854775808 ≤ bud ∧ bud ≤ 9223372036854775807) :
  Calls Try.prog 12 #[.slice A l.length c, .agg #[.int .i64 q0, .int .i64 q1], .int .i64 bud] w fun e w' => e = .returned (.bool true) ∧ Below w.heap.size w w' := errors_any w A c l q0 q1 bud hP (by omega) hq
end Go.Proofs.Ytfiiihpdekppiaa
end
section
namespace Go.Proofs.Ytfiiihpdekppiaa
open Go.ChangeShapes Go.WideShapes Go.RowKit Go.Proofs.YtfiiihpdekppiaaW.PrintWords
section
variable {H : Type} {enc : TypeId × Value → H} {w : World} {base : Nat} {spare : Nat → Bool} {held : Bool} {fuel : Nat} {cs : List Value} {x : DataW H × List MemPlace}
theorem open_arr {n : Nat} {t : TypeId} (ht : Try.prog.underlying t = some (.array n 3)) (hc : Try.prog.cellsOf t = n) (h : DataW.trod enc Try.prog w base spare held fuel t cs = some x) : cs.length = n ∧ ∀ i, i < n → ∃ z : Int, cs[i]? = some (.int .i64 z) ∧ (Lit.int .i64 z).wf = true := by
 obtain ⟨xs, m, _, _, hl, hxl, hel⟩ := DataW.trod_array ht h
 have c3 : Try.prog.cellsOf 3 = 1 := by kernel_rfl
 refine ⟨by rw [hl, hc], fun i hi => ?_⟩
 have hE := hel i hi
 rw [c3, Nat.mul_one, List.getElem?_eq_getElem (by omega)] at hE
 obtain ⟨z, e1, _, hw⟩ := DataW.trod_int Try.underlying3 hE
 refine ⟨z, ?_, hw⟩
 have h0 : ((cs.drop i).take 1)[0]? = some (.int .i64 z) := by rw [e1]; rfl
 simpa using h0
theorem open_pairs {A : Option Addr} {len cap : Nat} {d : DataW H} {ps : List MemPlace} {ts : List TypeId} {ds : List (DataW H)} {j : Nat} (hsz : (DataW.weightsEach Try.prog ts ds).all (· ≤ reachBytes) = true) (ht : ts[j]? = some 22) (hd : ds[j]? = some d)
  (h : DataW.Trod enc Try.prog w base spare held 22 (.slice A len cap) d ps) : ∃ l : List (Int × Int), len = l.length ∧ PairsAt w A l ∧ l.length ≤ 100000000000000 ∧ l.length ≤ cap := by
 obtain ⟨fuel, hf⟩ := h
 have c57 : Try.prog.cellsOf 57 = 2 := by kernel_rfl
 rcases Go.Deep.open_slice Try.underlying22 hf with ⟨hcs, _⟩ | ⟨a, len', cap', m, n, D, Pl, hcs, hb, hl, hm, hmm, hx, hel⟩
 ·simp [Value.cells] at hcs
  obtain ⟨rfl, rfl, rfl⟩ := hcs
  exact ⟨[], rfl, fun i hi => by simp at hi, by simp, by simp⟩
 ·simp [Value.cells] at hcs
  obtain ⟨rfl, rfl, rfl⟩ := hcs
  have hlm : len ≤ m := by rw [hmm]; split <;> omega
  rw [c57] at hel
  have key : ∀ i, i < len → ∃ p : Int × Int, w.cell? (a.add (i * 2)) = some (.int .i64 p.1) ∧ w.cell? ((a.add (i * 2)).add 1) = some (.int .i64 p.2) := fun i hi => by
   obtain ⟨cs', h1, h2⟩ := hel i (by omega)
   obtain ⟨_, hlen, hc⟩ := World.cells?_some h1
   obtain ⟨_, hz⟩ := open_arr Try.underlying57 c57 h2
   obtain ⟨z0, e0, _⟩ := hz 0 (by omega)
   obtain ⟨z1, e1, _⟩ := hz 1 (by omega)
   refine ⟨(z0, z1), ?_, ?_⟩
   ·have := hc 0 (by omega)
    rw [e0] at this
    simpa [Addr.add] using this
   ·rw [hc 1 (by omega), e1]
  obtain ⟨P, hP⟩ := Go.Deep.choose_lt (α := Int × Int) (p := fun i p => w.cell? (a.add (i * 2)) = some (.int .i64 p.1) ∧ w.cell? ((a.add (i * 2)).add 1) = some (.int .i64 p.2)) key
  obtain ⟨hx, _⟩ := Prod.mk.inj hx
  subst hx
  have hs := sized_slice hsz ht hd Try.underlying22
  have b57 : Try.prog.bytesOf 57 = 16 := by kernel_rfl
  rw [b57] at hs
  simp only [List.length_map, List.length_range] at hs
  have hr : reachBytes = 140737488351232 := rfl
  refine ⟨(List.range len).map P, by simp, fun i hi => ?_, by simp; omega, by simp; omega⟩
  have hi' : i < len := by simpa using hi
  have e : ((List.range len).map P).getD i (0, 0) = P i := by
   rw [List.getD_eq_getElem?_getD, List.getElem?_map, List.getElem?_range hi']; rfl
  rw [e]
  exact ⟨a, rfl, (hP i hi').1, (hP i hi').2⟩
end
set_option maxRecDepth 100000 in
theorem okWide_arr {n : Nat} {e t : TypeId} {W : World} {r : _root_.Go.Reach} {base : Nat} {v : Value} (ht : Try.prog.underlying t = some (.array n e)) (h : Value.okWide Try.prog W r base t v) : ∃ cs, v = .agg cs := by
 simp only [Value.okWide, ht] at h
 obtain ⟨cs, h1, _⟩ := h
 exact ⟨cs, h1⟩
set_option maxRecDepth 100000 in
theorem open_two {H : Type} {enc : TypeId × Value → H} {W : World} {base b0 : Nat} {spare : Nat → Bool} {held : Bool} {r : _root_.Go.Reach} {v : Value} {d : DataW H} {ps : List MemPlace} (hval : Value.okWide Try.prog W r b0 57 v) (h : DataW.Trod enc Try.prog W base spare held 57 v d ps) :
  ∃ a b : Int, v = .agg #[.int .i64 a, .int .i64 b] ∧ (-9223372036854775808 ≤ a ∧ a ≤ 9223372036854775807) ∧ (-9223372036854775808 ≤ b ∧ b ≤ 9223372036854775807) := by
 obtain ⟨cs, rfl⟩ := okWide_arr Try.underlying57 hval
 obtain ⟨fuel, hf⟩ := h
 have c57 : Try.prog.cellsOf 57 = 2 := by kernel_rfl
 obtain ⟨hl, hz⟩ := open_arr Try.underlying57 c57 hf
 simp only [Value.cells] at hl hz
 obtain ⟨a, e0, w0⟩ := hz 0 (by omega)
 obtain ⟨b, e1, w1⟩ := hz 1 (by omega)
 refine ⟨a, b, ?_, bounds_i64 w0, bounds_i64 w1⟩
 obtain ⟨l⟩ := cs
 simp at hl e0 e1
 match l, hl, e0, e1 with
 | [x, y], _, e0, e1 => simp at e0 e1; rw [e0, e1]
end Go.Proofs.Ytfiiihpdekppiaa
end
section
namespace Go.Proofs.Ytfiiihpdekppiaa.shapeErrors
open Go.ChangeShapes Go.WideShapes Go.ChangeAt Go.RowKit Go.Proofs.YtfiiihpdekppiaaW.PrintWords
open Go.ChangeMaps (open_string shut_string)
theorem own : ownKnob Try.prog.godebug = none := by kernel_rfl
theorem laidOut : laidOutB Try.prog = true := by kernel_rfl
set_option maxRecDepth 100000 in
theorem lifted (os : Os) (started : os.Started) (H : Type) (enc : TypeId × Value → H) :
  ReturnsInHanded {} Try.checked os 12 .any (Rows.shapeErrorsSpec.pre6 enc Try.prog Try.f12 Rows.shapeErrorsRow.domain false) (Rows.shapeErrorsSpec.post enc Try.prog Try.f12 false true false false) := by
 refine returnsInHanded_of_change_sized (C := Try.checked) own started (by kernel_rfl) Try.func12
  (ChangeSpec.witness6 (enc := enc) (C := Try.checked) false ⟨#[], #[.slice none 0 0, .agg #[.int .i64 0, .int .i64 0], .int .i64 0], []⟩ 8 (by kernel_rfl) (by kernel_rfl) (by kernel_rfl) (by kernel_rfl)) ?_
 intro W base args ds gs before hval0 hW hcnd hsz0 _
 have hsz : (DataW.weightsEach Try.prog (Try.f12.params.toList ++ Rows.shapeErrorsSpec.plain.varTypes Try.prog) (ds ++ gs)).all (· ≤ reachBytes) = true := hsz0
 have hval : ∀ (j : Nat) t v, Try.f12.params[j]? = some t → args[j]? = some v → Value.okWide Try.prog W .any base t v := hval0
 have hW' := hW
 obtain ⟨p, q, hA0, hV, rfl, hfz, hnd⟩ := hW
 have hA : DataW.TrodAll enc Try.prog W 0 (fun _ => true) true Try.f12.params.toList args.toList ds p := hA0
 rw [Try.params12] at hA hval hsz
 obtain ⟨v0, vs0, d0, ds0, p0, q0, hargs, rfl, rfl, h0, r0⟩ := trodAll_cons hA
 obtain ⟨v1, vs1, d1, ds1, p1, q1, rfl, rfl, rfl, h1, r1⟩ := trodAll_cons r0
 obtain ⟨v2, vs2, d2, ds2, p2, q2, rfl, rfl, rfl, h2, r2⟩ := trodAll_cons r1
 obtain ⟨rfl, rfl, rfl⟩ := trodAll_nil r2
 obtain rfl : args = #[v0, v1, v2] := by cases args; simp_all
 obtain ⟨rfl, rfl⟩ := trodVars_none hV
 have k0 := h0
 have lt0 : ∀ x ∈ p0, x.block < W.heap.size := by obtain ⟨m, hm⟩ := k0; exact DataW.trod_lt m _ _ _ hm
 obtain ⟨A0, n0, c0, rfl⟩ := okWide_slice Try.underlying22 (hval 0 22 v0 rfl rfl)
 obtain ⟨l0, rfl, hP0, hl0, hc0⟩ := open_pairs (j := 0) hsz rfl rfl h0
 have k1 := h1
 have lt1 : ∀ x ∈ p1, x.block < W.heap.size := by obtain ⟨m, hm⟩ := k1; exact DataW.trod_lt m _ _ _ hm
 obtain ⟨x1, y1, rfl, bx1, by1⟩ := open_two (hval 1 57 v1 rfl rfl) h1
 obtain ⟨a2, rfl, rfl, rfl, w2⟩ := open_int Try.underlying3 (hval 2 3 v2 rfl rfl) h2
 have b2 := bounds_i64 w2
 clear hA0 hval0 hsz0 hsz
 refine (errors_row W A0 c0 l0 hP0 hl0 hc0 x1 y1 bx1 by1 a2 b2).mono fun e W' ⟨he, bel⟩ => ?_
 subst he
 exact ⟨_, rfl, _, _, _, [], _, [], hW', trodAll_mk1 (shut_bool Try.underlying4 _), (trodAll_cons_mk (Below.trod laidOut (by kernel_rfl) (of_decide_eq_true (by kernel_rfl)) k0 bel lt0) (trodAll_cons_mk (Below.trod laidOut (by kernel_rfl) (of_decide_eq_true (by kernel_rfl)) k1 bel lt1) (trodAll_cons_mk (shut_int Try.underlying3 w2) trodAll_mk0))), rfl, bel.frame _, fun h => by cases h⟩
theorem over : Rows.shapeErrorsRow.holds Try.pinned (OpenSpec.ofChange Rows.shapeErrorsSpec) :=
 OpenClaim.holds_of_wide 12 Try.f12 rfl rfl rfl rfl rfl rfl rfl ⟨rfl, rfl, rfl, rfl, rfl⟩ rfl rfl rfl rfl rfl (by kernel_rfl) Try.func12 (by kernel_rfl)
  (of_decide_eq_true (by kernel_rfl)) (by unfold Func.isWrapper; first | (rw [if_pos (by decide +kernel)]; kernel_rfl) | (rw [if_neg (by decide +kernel)]; exact ⟨rfl, rfl⟩))
  (fun os started H enc _ => lifted os started H enc)
theorem proved : Rows.ShapeErrorsSaid := over
#print axioms proved
end Go.Proofs.Ytfiiihpdekppiaa.shapeErrors
namespace Go.Proofs.Ytfiiihpdekppiaa
theorem shapeErrors_holds : Rows.ShapeErrorsSaid := shapeErrors.proved
end Go.Proofs.Ytfiiihpdekppiaa
end
