/- A part of the proof that vellumlaw12.ShapeNested is true for every input: walks of functions that the row reaches and plain laws that they need. Conditions: none. Joined by merge.py out of PShapeNestedx10 C37 T9 LawN; a part that began as a print is named P or W there and is trimmed. -/
import Derived.Test.YtfiiihpdekppiaaN21
import Derived.Test.YtfiiihpdekppiaaRows
import Derived.WalkKit
import Derived.ProofKit
import Derived.OpenShut
import Derived.ShutString
import Derived.ChangeOld
import Derived.Below
import Derived.SizedLaws
import Derived.ChangeSlices
set_option linter.unusedVariables false
set_option linter.unusedSimpArgs false
section
namespace Go.Proofs.Ytfiiihpdekppiaa.PShapeNested
open Go.RowKit Go.Proofs.YtfiiihpdekppiaaW.PrintWords Go.Proofs.YtfiiihpdekppiaaW.PrintLast Go.Proofs.YtfiiihpdekppiaaW.PrintMore
attribute [local go_sem] max2_int min2_int max_two min_two max_three min_three max_four min_four
set_option linter.unusedVariables false
set_option linter.unusedSimpArgs false
def vellumref12_Walk.l0 : Nat → List Int → List Int → Int → Int → List (List Int) → Option (List Int)
  | 0, _, _, _, _, _ => none
  | k + 1, x1, x5, x6, x7, x310000 => if x7 < (x1.length : Int) then (if x7 < 200 then (if 0 ≤ x6 then (if x6 < (x310000.length : Int) then (if ((rd_L1 x310000 x6).length : Int) > 0 then (if 0 ≤ x7 then ((vellumref12_Mod.f (rd x1 x7) ((rd_L1 x310000 x6).length : Int)).bind fun t317 => (if 0 ≤ t317 then (if t317 < ((rd_L1 x310000 x6).length : Int) then (if x5.length < 17592186044416 then (vellumref12_Walk.l0 k x1 (x5 ++ [rd (rd_L1 x310000 x6) t317]) (rd (rd_L1 x310000 x6) t317) (wrap64 (x7 + 1)) x310000) else (none)) else (none)) else (none))) else (none)) else (some x5)) else (none)) else (none)) else (some x5)) else (some x5)
def vellumref12_Walk.f (k : Nat) (l0_0 : List (List Int)) (l1 : List Int) : Option (List Int) := vellumref12_Walk.l0 k l1 (([0] : List Int)) 0 0 l0_0
theorem vellumref12_Walk.mono_l : ∀ k, (∀ y0 y1 y2 y3 y4, LeO (vellumref12_Walk.l0 k y0 y1 y2 y3 y4) (vellumref12_Walk.l0 (k + 1) y0 y1 y2 y3 y4))
  | 0 => fun _ _ _ _ _ r h => by simp [vellumref12_Walk.l0] at h
  | k + 1 => by
    have ih0 := vellumref12_Walk.mono_l k
    · intro y0 y1 y2 y3 y4
      unfold vellumref12_Walk.l0
      repeat' first
      | (with_reducible exact ih0 _ _ _ _ _)
      | (with_reducible exact LeO.refl _)
      | (with_reducible exact LeO.none _)
      | (with_reducible refine LeO.ite ?_ ?_)
      | (with_reducible refine LeO.bind ?_ (fun _ => ?_))
      | exact ih0 _ _ _ _ _
      | exact LeO.none _
      | refine LeO.ite ?_ ?_
      | refine LeO.bind ?_ (fun _ => ?_)
theorem vellumref12_Walk.mono : ∀ a0 a1 k, LeO (vellumref12_Walk.f k a0 a1) (vellumref12_Walk.f (k + 1) a0 a1) := by
  intro a0 a1 k
  have ih0 := vellumref12_Walk.mono_l k
  unfold vellumref12_Walk.f
  repeat' first
      | (with_reducible exact ih0 _ _ _ _ _)
      | (with_reducible exact LeO.refl _)
      | (with_reducible exact LeO.none _)
      | (with_reducible refine LeO.ite ?_ ?_)
      | (with_reducible refine LeO.bind ?_ (fun _ => ?_))
      | exact ih0 _ _ _ _ _
      | exact LeO.none _
      | refine LeO.ite ?_ ?_
      | refine LeO.bind ?_ (fun _ => ?_)
set_option maxHeartbeats 8000000 in
set_option maxRecDepth 100000 in
theorem vellumref12_Walk.calls (k : Nat) (A0_0 : Option Addr) (c0_0 : Nat) (l0_0 : List (List Int)) (A1 : Option Addr) (c1 : Nat) (l1 : List Int) (r : List Int) (w : World) (hr0_0 : Kd.C (Kd.slice 3 (Kd.int .i64)) w A0_0 l0_0.length l0_0) (hc0_0 : l0_0.length ≤ c0_0) (hr1 : Kd.C (Kd.int .i64) w A1 l1.length l1) (hc1 : l1.length ≤ c1) (h : vellumref12_Walk.f k l0_0 l1 = some r) :
    Calls Try.prog 21 #[.agg #[.slice A0_0 l0_0.length c0_0], .slice A1 l1.length c1] w fun e w' => ∃ v0_ : Value, e = .returned (v0_) ∧ Kd.R (Kd.int .i64) 3 w' w.heap.size (fun _ => True) v0_ r ∧ Below w.heap.size w w' := by
  have hu27 := Try.underlying27
  have HR0_0 := Aside0.mk hr0_0
  have HC0_0 := Aside0.mk hc0_0
  clear hr0_0 hc0_0
  have HR1 := Aside0.mk hr1
  have HC1 := Aside0.mk hc1
  clear hr1 hc1
  have HB := Aside0.mk (Below.refl w.heap.size w)
  have H : (vellumref12_Walk.l0 k l1 (([0] : List Int)) 0 0 l0_0) = some r := h
  clear h
  obtain ⟨y310, hy310⟩ : ∃ y_ : List Int, y_ = (([0] : List Int)) := ⟨_, rfl⟩
  replace H : (vellumref12_Walk.l0 k l1 y310 0 0 l0_0) = some r := by first | (rw [hy310]; with_reducible exact H) | (have H2_ := (Option.bind_some _ _).symm.trans H; rw [hy310]; with_reducible exact H2_) | (have H2_ := (Option.bind_some _ _).symm.trans H; with_reducible exact H2_) | with_reducible exact H | (rw [hy310]; exact H) | exact H
  have Ny310 := Aside0.mk hy310
  clear hy310
  have H' := Aside0.mk H
  clear H
  go_enter Try.func21, Try.ntmps21
  go_wp2_with (first | ((with_reducible refine gate_dst (N := 2) rfl ?_); (try (refine gate_guard (by rfl) ?_; dsimp only)); refine box_event ?hg (N := 2) ?hd (cs := #[.slice A0_0 l0_0.length c0_0]) (t := 27) ?hr ?_; (case hd => rfl); (case hg => rfl); (case hr => first | (go_simp; done) | (go_simp; rfl)); intro gb309 hg w3 hbox hb; have n0_ := Aside0.mk (below_step (by repeat (first | (with_reducible first | exact HB.out | apply below_alloc | apply pw_below_drewN | apply below_drew1) | exact HB.out)) hb); have n1_ := Aside0.mk (hbox); have n2_ := Aside0.mk ((by rw [hg]; exact (below_size (by repeat (first | (with_reducible first | exact HB.out | apply below_alloc | apply pw_below_drewN | apply below_drew1) | exact HB.out))) : w.heap.size ≤ gb309)); have n3_ := Aside0.mk ((by rw [hg]; exact (below_size (by repeat (first | (with_reducible first | exact HB.out | apply below_alloc | apply pw_below_drewN | apply below_drew1) | exact HB.out))) : w.heap.size ≤ gb309)); clear HB; have HB := n0_; have BK309 := n1_; have GW309 := n2_; have GE309 := n3_; clear n0_ n1_ n2_ n3_; clear hb hbox hg) | ((with_reducible refine gate_dst (N := 8) rfl ?_); (try (refine gate_guard (by rfl) ?_; dsimp only)); refine Kd.R_lit (Kd.int .i64) _ 3 ?hg (N := 8) ?hd (xs := ([0] : List Int)) (inner := [.int .i64 0]) (ok := fun _ => True) (okp := fun _ => True) ?hr ?hp (fun _ hk => hk) trivial (Below.refl _ _) (Nat.le_refl _) (by simp) ?_; (case hd => rfl); (case hg => rfl); (case hr => first | (go_simp; done) | (go_simp; rfl)); (case hp => exact (Reps.one (show Kd.M (Kd.int .i64) _ _ _ 0 [.int .i64 0] from rfl) (Reps.none _ _))); intro v311 w4 ho5 hb hg_ hnew_; clear hg_ hnew_; (first | rw [← Ny310.out] at ho5 | (simp only [Int.reduceToNat] at ho5; rw [← Ny310.out] at ho5)); have n0_ := Aside0.mk (Kd.R_lower ho5 (below_size (by repeat (first | (with_reducible first | exact HB.out | apply below_alloc | apply pw_below_drewN | apply below_drew1 | refine below_set ?_ GE309.out) | exact HB.out)))); have n1_ := Aside0.mk (Go.Proofs.YtfiiihpdekppiaaW.PrintWords.blk_below (g := gb309) (o := .cells #[.slice A0_0 l0_0.length c0_0] 27 (0, 0)) (by (with_reducible repeat (first | refine blk_drewN ?_ _ | refine blk_drew ?_ | refine blk_alloc ?_ _)); exact BK309.out) hb); have n2_ := Aside0.mk (below_step (by repeat (first | (with_reducible first | exact HB.out | apply below_alloc | apply pw_below_drewN | apply below_drew1 | refine below_set ?_ GE309.out) | exact HB.out)) hb); clear BK309; clear HB; have HO312 := n0_; have BK309 := n1_; have HB := n2_; clear n0_ n1_ n2_; clear hb ho5))
  repeat (go_quiet (first | ((with_reducible refine gate_dst (N := 2) rfl ?_); (try (refine gate_guard (by rfl) ?_; dsimp only)); refine box_event ?hg (N := 2) ?hd (cs := #[.slice A0_0 l0_0.length c0_0]) (t := 27) ?hr ?_; (case hd => rfl); (case hg => rfl); (case hr => first | (go_simp; done) | (go_simp; rfl)); intro gb309 hg w3 hbox hb; have n0_ := Aside0.mk (below_step (by repeat (first | (with_reducible first | exact HB.out | apply below_alloc | apply pw_below_drewN | apply below_drew1) | exact HB.out)) hb); have n1_ := Aside0.mk (hbox); have n2_ := Aside0.mk ((by rw [hg]; exact (below_size (by repeat (first | (with_reducible first | exact HB.out | apply below_alloc | apply pw_below_drewN | apply below_drew1) | exact HB.out))) : w.heap.size ≤ gb309)); have n3_ := Aside0.mk ((by rw [hg]; exact (below_size (by repeat (first | (with_reducible first | exact HB.out | apply below_alloc | apply pw_below_drewN | apply below_drew1) | exact HB.out))) : w.heap.size ≤ gb309)); clear HB; have HB := n0_; have BK309 := n1_; have GW309 := n2_; have GE309 := n3_; clear n0_ n1_ n2_ n3_; clear hb hbox hg) | ((with_reducible refine gate_dst (N := 8) rfl ?_); (try (refine gate_guard (by rfl) ?_; dsimp only)); refine Kd.R_lit (Kd.int .i64) _ 3 ?hg (N := 8) ?hd (xs := ([0] : List Int)) (inner := [.int .i64 0]) (ok := fun _ => True) (okp := fun _ => True) ?hr ?hp (fun _ hk => hk) trivial (Below.refl _ _) (Nat.le_refl _) (by simp) ?_; (case hd => rfl); (case hg => rfl); (case hr => first | (go_simp; done) | (go_simp; rfl)); (case hp => exact (Reps.one (show Kd.M (Kd.int .i64) _ _ _ 0 [.int .i64 0] from rfl) (Reps.none _ _))); intro v311 w4 ho5 hb hg_ hnew_; clear hg_ hnew_; (first | rw [← Ny310.out] at ho5 | (simp only [Int.reduceToNat] at ho5; rw [← Ny310.out] at ho5)); have n0_ := Aside0.mk (Kd.R_lower ho5 (below_size (by repeat (first | (with_reducible first | exact HB.out | apply below_alloc | apply pw_below_drewN | apply below_drew1 | refine below_set ?_ GE309.out) | exact HB.out)))); have n1_ := Aside0.mk (Go.Proofs.YtfiiihpdekppiaaW.PrintWords.blk_below (g := gb309) (o := .cells #[.slice A0_0 l0_0.length c0_0] 27 (0, 0)) (by (with_reducible repeat (first | refine blk_drewN ?_ _ | refine blk_drew ?_ | refine blk_alloc ?_ _)); exact BK309.out) hb); have n2_ := Aside0.mk (below_step (by repeat (first | (with_reducible first | exact HB.out | apply below_alloc | apply pw_below_drewN | apply below_drew1 | refine below_set ?_ GE309.out) | exact HB.out)) hb); clear BK309; clear HB; have HO312 := n0_; have BK309 := n1_; have HB := n2_; clear n0_ n1_ n2_; clear hb ho5)); try go_wp2_with (first | ((with_reducible refine gate_dst (N := 2) rfl ?_); (try (refine gate_guard (by rfl) ?_; dsimp only)); refine box_event ?hg (N := 2) ?hd (cs := #[.slice A0_0 l0_0.length c0_0]) (t := 27) ?hr ?_; (case hd => rfl); (case hg => rfl); (case hr => first | (go_simp; done) | (go_simp; rfl)); intro gb309 hg w3 hbox hb; have n0_ := Aside0.mk (below_step (by repeat (first | (with_reducible first | exact HB.out | apply below_alloc | apply pw_below_drewN | apply below_drew1) | exact HB.out)) hb); have n1_ := Aside0.mk (hbox); have n2_ := Aside0.mk ((by rw [hg]; exact (below_size (by repeat (first | (with_reducible first | exact HB.out | apply below_alloc | apply pw_below_drewN | apply below_drew1) | exact HB.out))) : w.heap.size ≤ gb309)); have n3_ := Aside0.mk ((by rw [hg]; exact (below_size (by repeat (first | (with_reducible first | exact HB.out | apply below_alloc | apply pw_below_drewN | apply below_drew1) | exact HB.out))) : w.heap.size ≤ gb309)); clear HB; have HB := n0_; have BK309 := n1_; have GW309 := n2_; have GE309 := n3_; clear n0_ n1_ n2_ n3_; clear hb hbox hg) | ((with_reducible refine gate_dst (N := 8) rfl ?_); (try (refine gate_guard (by rfl) ?_; dsimp only)); refine Kd.R_lit (Kd.int .i64) _ 3 ?hg (N := 8) ?hd (xs := ([0] : List Int)) (inner := [.int .i64 0]) (ok := fun _ => True) (okp := fun _ => True) ?hr ?hp (fun _ hk => hk) trivial (Below.refl _ _) (Nat.le_refl _) (by simp) ?_; (case hd => rfl); (case hg => rfl); (case hr => first | (go_simp; done) | (go_simp; rfl)); (case hp => exact (Reps.one (show Kd.M (Kd.int .i64) _ _ _ 0 [.int .i64 0] from rfl) (Reps.none _ _))); intro v311 w4 ho5 hb hg_ hnew_; clear hg_ hnew_; (first | rw [← Ny310.out] at ho5 | (simp only [Int.reduceToNat] at ho5; rw [← Ny310.out] at ho5)); have n0_ := Aside0.mk (Kd.R_lower ho5 (below_size (by repeat (first | (with_reducible first | exact HB.out | apply below_alloc | apply pw_below_drewN | apply below_drew1 | refine below_set ?_ GE309.out) | exact HB.out)))); have n1_ := Aside0.mk (Go.Proofs.YtfiiihpdekppiaaW.PrintWords.blk_below (g := gb309) (o := .cells #[.slice A0_0 l0_0.length c0_0] 27 (0, 0)) (by (with_reducible repeat (first | refine blk_drewN ?_ _ | refine blk_drew ?_ | refine blk_alloc ?_ _)); exact BK309.out) hb); have n2_ := Aside0.mk (below_step (by repeat (first | (with_reducible first | exact HB.out | apply below_alloc | apply pw_below_drewN | apply below_drew1 | refine below_set ?_ GE309.out) | exact HB.out)) hb); clear BK309; clear HB; have HO312 := n0_; have BK309 := n1_; have HB := n2_; clear n0_ n1_ n2_; clear hb ho5)))
  go_loopg [5, 6, 7] k (fun kq v5 v6 v7 w' => ∃ (x5_1 : List Int) (x6_1 : Int) (x7_1 : Int), v6 = .int .i64 x6_1 ∧ v7 = .int .i64 x7_1 ∧ Aside0 (vellumref12_Walk.l0 kq l1 x5_1 x6_1 x7_1 l0_0 = some r) ∧ Aside0 (kq ≤ k) ∧ Aside0 (Kd.R (Kd.int .i64) 3 w' w.heap.size (fun _ => True) v5 x5_1) ∧ Aside0 (w'.heap[gb309]? = some (.cells #[(.slice A0_0 l0_0.length c0_0)] 27 (0, 0))) ∧ Aside0 (Below w.heap.size w w'))
  case atStart => exact ⟨(y310), (0), (0), (by first | rfl | (simp; done) | (simp [*]; done)), (by first | rfl | (simp; done) | (simp [*]; done)), H', ⟨Nat.le_refl _⟩, ⟨by (with_reducible repeat (first | apply Kd.R_alloc | apply Kd.R_drewN | apply Kd.R_drew)); exact HO312.out⟩, ⟨by (with_reducible repeat (first | refine blk_drewN ?_ _ | refine blk_drew ?_ | refine blk_alloc ?_ _)); exact BK309.out⟩, ⟨by repeat (first | (with_reducible first | exact HB.out | apply below_alloc | apply pw_below_drewN | apply below_drew1 | refine below_set ?_ GE309.out) | exact HB.out)⟩⟩
  case round =>
    clear H'
    try clear c1
    try clear c2
    try clear p2
    obtain ⟨x5_1, x6_1, x7_1, rfl, rfl, HA, HK1, HO_5, BK309, HB⟩ := hrel
    cases gk with
    | zero => exact absurd HA.out (by simp [vellumref12_Walk.l0])
    | succ k1 =>
      have H := HA.out
      clear HA
      simp only [vellumref12_Walk.l0] at H
      by_cases c6 : x7_1 < (l1.length : Int)
      · rw [if_pos c6] at H
        have c6b0 : decide (x7_1 < (l1.length : Int)) = true := decide_eq_true c6
        clear c6
        by_cases c7 : x7_1 < 200
        · rw [if_pos c7] at H
          have c7b0 : decide (x7_1 < 200) = true := decide_eq_true c7
          clear c7
          by_cases c8 : 0 ≤ x6_1
          · rw [if_pos c8] at H
            have c8b0 : decide (0 ≤ x6_1) = true := decide_eq_true c8
            clear c8
            by_cases c9 : x6_1 < (l0_0.length : Int)
            · rw [if_pos c9] at H
              have c9b0 : decide (x6_1 < (l0_0.length : Int)) = true := decide_eq_true c9
              clear c9
              by_cases c10 : ((rd_L1 l0_0 x6_1).length : Int) > 0
              · rw [if_pos c10] at H
                have c10b0 : decide (0 < ((rd_L1 l0_0 x6_1).length : Int)) = true := decide_eq_true c10
                have c10b1 : decide (0 < (rd_L1 l0_0 x6_1).length) = true := decide_eq_true (by omega)
                clear c10
                by_cases c11 : 0 ≤ x7_1
                · rw [if_pos c11] at H
                  have c11b0 : decide (0 ≤ x7_1) = true := decide_eq_true c11
                  clear c11
                  replace H := Option.bind_eq_some_iff.mp H
                  obtain ⟨t317, A120, H⟩ := H
                  replace H : (if 0 ≤ t317 then (if t317 < ((rd_L1 l0_0 x6_1).length : Int) then (if x5_1.length < 17592186044416 then (vellumref12_Walk.l0 k1 l1 (x5_1 ++ [rd (rd_L1 l0_0 x6_1) t317]) (rd (rd_L1 l0_0 x6_1) t317) (wrap64 (x7_1 + 1)) l0_0) else (none)) else (none)) else (none)) = some r := H
                  have A12 := Aside0.mk A120
                  clear A120
                  by_cases c13 : 0 ≤ t317
                  · rw [if_pos c13] at H
                    have c13b0 : decide (0 ≤ t317) = true := decide_eq_true c13
                    clear c13
                    by_cases c14 : t317 < ((rd_L1 l0_0 x6_1).length : Int)
                    · rw [if_pos c14] at H
                      have c14b0 : decide (t317 < ((rd_L1 l0_0 x6_1).length : Int)) = true := decide_eq_true c14
                      clear c14
                      by_cases c15 : x5_1.length < 17592186044416
                      · rw [if_pos c15] at H
                        have LMc15 := Aside0.mk c15
                        clear c15
                        obtain ⟨y319, hy319⟩ : ∃ y_ : List Int, y_ = (x5_1 ++ [rd (rd_L1 l0_0 x6_1) t317]) := ⟨_, rfl⟩
                        replace H : (vellumref12_Walk.l0 k1 l1 y319 (rd (rd_L1 l0_0 x6_1) t317) (wrap64 (x7_1 + 1)) l0_0) = some r := by first | (rw [hy319]; with_reducible exact H) | (have H2_ := (Option.bind_some _ _).symm.trans H; rw [hy319]; with_reducible exact H2_) | (have H2_ := (Option.bind_some _ _).symm.trans H; with_reducible exact H2_) | with_reducible exact H | (rw [hy319]; exact H) | exact H
                        have Ny319 := Aside0.mk hy319
                        clear hy319
                        have H' := Aside0.mk H
                        clear H
                        have hcz16_0 : wr.cell? ⟨gb309, 0, none⟩ = some (.slice A0_0 l0_0.length c0_0) := (blk_cell BK309.out 0).trans rfl
                        have hfz16_0 := blk_frozen BK309.out 0
                        have p313 : 0 ≤ (x6_1 : Int) := of_decide_eq_true (by first | (with_reducible assumption) | assumption)
                        have q313 : x6_1 < (l0_0.length : Int) := of_decide_eq_true (by first | (with_reducible assumption) | assumption)
                        obtain ⟨ad313, A313_0, c313_0, e313, hx313_0, hl313_0, hi313_0⟩ := at_L1 HR0_0.out x6_1 p313 q313
                        cases e313
                        replace hx313_0 := (HB.out.cell (World.block_lt_of_cell? w _ hx313_0)).trans hx313_0
                        have HR313_0 := Aside0.mk hi313_0
                        have HC313_0 := Aside0.mk hl313_0
                        clear hi313_0 hl313_0
                        replace p313 := eq_true p313
                        replace q313 := eq_true q313
                        have p314 : 0 ≤ (x6_1 : Int) := of_decide_eq_true (by first | (with_reducible assumption) | assumption)
                        have q314 : x6_1 < (l0_0.length : Int) := of_decide_eq_true (by first | (with_reducible assumption) | assumption)
                        obtain ⟨ad314, A314_0, c314_0, e314, hx314_0, hl314_0, hi314_0⟩ := at_L1 HR0_0.out x6_1 p314 q314
                        obtain rfl : ad313 = ad314 := (by injection e314)
                        replace hx314_0 := (HB.out.cell (World.block_lt_of_cell? w _ hx314_0)).trans hx314_0
                        have HR314_0 := Aside0.mk hi314_0
                        have HC314_0 := Aside0.mk hl314_0
                        clear hi314_0 hl314_0
                        replace p314 := eq_true p314
                        replace q314 := eq_true q314
                        have ea_ := Option.some.inj (hx313_0.symm.trans hx314_0)
                        injection ea_ with ea_ en_ ec_
                        subst ea_
                        subst ec_
                        clear en_
                        have p315 : 0 ≤ (x7_1 : Int) := of_decide_eq_true (by first | (with_reducible assumption) | assumption)
                        have q315 : x7_1 < (l1.length : Int) := of_decide_eq_true (by first | (with_reducible assumption) | assumption)
                        obtain ⟨ad315, e315, hx315_0⟩ := Kd.at_int HR1.out x7_1 p315 q315
                        cases e315
                        replace hx315_0 := (HB.out.cell (World.block_lt_of_cell? w _ hx315_0)).trans hx315_0
                        replace p315 := eq_true p315
                        replace q315 := eq_true q315
                        have p316 : 0 ≤ (x6_1 : Int) := of_decide_eq_true (by first | (with_reducible assumption) | assumption)
                        have q316 : x6_1 < (l0_0.length : Int) := of_decide_eq_true (by first | (with_reducible assumption) | assumption)
                        obtain ⟨ad316, A316_0, c316_0, e316, hx316_0, hl316_0, hi316_0⟩ := at_L1 HR0_0.out x6_1 p316 q316
                        obtain rfl : ad313 = ad316 := (by injection e316)
                        replace hx316_0 := (HB.out.cell (World.block_lt_of_cell? w _ hx316_0)).trans hx316_0
                        have HR316_0 := Aside0.mk hi316_0
                        have HC316_0 := Aside0.mk hl316_0
                        clear hi316_0 hl316_0
                        replace p316 := eq_true p316
                        replace q316 := eq_true q316
                        have ea_ := Option.some.inj (hx313_0.symm.trans hx316_0)
                        injection ea_ with ea_ en_ ec_
                        subst ea_
                        subst ec_
                        clear en_
                        go_wp2_with (first | (go_at_call 33; (with_reducible refine (vellumref12_Mod.calls (rd l1 x7_1) ((rd_L1 l0_0 x6_1).length : Int) t317 _ A12.out).mono ?_); rintro e w' ⟨rfl, ⟨nd, rfl⟩⟩; (try first | exact ⟨rfl, _, World.drewN_drewN _ _ _⟩ | exact ⟨rfl, _, Eq.trans (World.drewN_drewN _ _ _) (congrArg (World.drewN _) (Nat.add_assoc _ _ _))⟩); have p318 : 0 ≤ (t317 : Int) := of_decide_eq_true (by first | (with_reducible assumption) | assumption); have q318 : t317 < ((rd_L1 l0_0 x6_1).length : Int) := of_decide_eq_true (by first | (with_reducible assumption) | assumption); obtain ⟨ad318, e318, hx318_0⟩ := Kd.at_int HR314_0.out t317 p318 q318; cases e318; replace hx318_0 := (HB.out.cell (World.block_lt_of_cell? w _ hx318_0)).trans hx318_0; replace p318 := eq_true p318; replace q318 := eq_true q318) | ((with_reducible refine gate_builtin (b := .append) (xs := #[.tmp 46, .tmp 48]) rfl ?_); (try (refine gate_guard (by rfl) ?_; dsimp only)); at_builtin; refine Kd.R_append (Kd.int .i64) (w0 := w) w.heap.size rfl (.tmp 46) (.tmp 48) 23 3 (.int .i64 0) 8 rfl Try.underlying23 info3 rfl (by decide) (by omega) u5 x5_1 (rd (rd_L1 l0_0 x6_1) t317) [.int .i64 (rd (rd_L1 l0_0 x6_1) t317)] (fun _ => True) (fun _ => False) rfl rfl ?aP (fun _ hk => hk.elim) ?aF ?aO ?aB ?aS ?aL ?_; (case aP => exact rfl); (case aB => exact (by repeat (first | (with_reducible first | exact HB.out | apply below_alloc | apply pw_below_drewN | apply below_drew1 | refine below_set ?_ GE309.out) | exact HB.out))); (case aF => exact (fun _ _ => trivial)); (case aO => exact (by (with_reducible repeat (first | apply Kd.R_alloc | apply Kd.R_drewN | apply Kd.R_drew)); exact HO_5.out)); (case aS => exact (below_size (by repeat (first | (with_reducible first | exact HB.out | apply below_alloc | apply pw_below_drewN | apply below_drew1 | refine below_set ?_ GE309.out) | exact HB.out)))); (case aL => have := LMc15.out; omega); intro v320 w17 ho hb hg hat; rw [← Ny319.out] at ho; have n0_ := Aside0.mk (blk_grown (g := gb309) (o := .cells #[.slice (some ad313) l0_0.length c0_0] 27 (0, 0)) (by (with_reducible repeat (first | refine blk_drewN ?_ _ | refine blk_drew ?_ | refine blk_alloc ?_ _)); exact BK309.out) hg (Kd.R_ne HO_5.out BK309.out (by decide))); have n1_ := Aside0.mk (hb); have n2_ := Aside0.mk (ho); clear BK309; clear HB; clear HO_5; have BK309 := n0_; have HB := n1_; have HO321 := n2_; clear n0_ n1_ n2_; clear ho hb hg hat))
                        repeat (go_quiet (first | (go_at_call 33; (with_reducible refine (vellumref12_Mod.calls (rd l1 x7_1) ((rd_L1 l0_0 x6_1).length : Int) t317 _ A12.out).mono ?_); rintro e w' ⟨rfl, ⟨nd, rfl⟩⟩; (try first | exact ⟨rfl, _, World.drewN_drewN _ _ _⟩ | exact ⟨rfl, _, Eq.trans (World.drewN_drewN _ _ _) (congrArg (World.drewN _) (Nat.add_assoc _ _ _))⟩); have p318 : 0 ≤ (t317 : Int) := of_decide_eq_true (by first | (with_reducible assumption) | assumption); have q318 : t317 < ((rd_L1 l0_0 x6_1).length : Int) := of_decide_eq_true (by first | (with_reducible assumption) | assumption); obtain ⟨ad318, e318, hx318_0⟩ := Kd.at_int HR314_0.out t317 p318 q318; cases e318; replace hx318_0 := (HB.out.cell (World.block_lt_of_cell? w _ hx318_0)).trans hx318_0; replace p318 := eq_true p318; replace q318 := eq_true q318) | ((with_reducible refine gate_builtin (b := .append) (xs := #[.tmp 46, .tmp 48]) rfl ?_); (try (refine gate_guard (by rfl) ?_; dsimp only)); at_builtin; refine Kd.R_append (Kd.int .i64) (w0 := w) w.heap.size rfl (.tmp 46) (.tmp 48) 23 3 (.int .i64 0) 8 rfl Try.underlying23 info3 rfl (by decide) (by omega) u5 x5_1 (rd (rd_L1 l0_0 x6_1) t317) [.int .i64 (rd (rd_L1 l0_0 x6_1) t317)] (fun _ => True) (fun _ => False) rfl rfl ?aP (fun _ hk => hk.elim) ?aF ?aO ?aB ?aS ?aL ?_; (case aP => exact rfl); (case aB => exact (by repeat (first | (with_reducible first | exact HB.out | apply below_alloc | apply pw_below_drewN | apply below_drew1 | refine below_set ?_ GE309.out) | exact HB.out))); (case aF => exact (fun _ _ => trivial)); (case aO => exact (by (with_reducible repeat (first | apply Kd.R_alloc | apply Kd.R_drewN | apply Kd.R_drew)); exact HO_5.out)); (case aS => exact (below_size (by repeat (first | (with_reducible first | exact HB.out | apply below_alloc | apply pw_below_drewN | apply below_drew1 | refine below_set ?_ GE309.out) | exact HB.out)))); (case aL => have := LMc15.out; omega); intro v320 w17 ho hb hg hat; rw [← Ny319.out] at ho; have n0_ := Aside0.mk (blk_grown (g := gb309) (o := .cells #[.slice (some ad313) l0_0.length c0_0] 27 (0, 0)) (by (with_reducible repeat (first | refine blk_drewN ?_ _ | refine blk_drew ?_ | refine blk_alloc ?_ _)); exact BK309.out) hg (Kd.R_ne HO_5.out BK309.out (by decide))); have n1_ := Aside0.mk (hb); have n2_ := Aside0.mk (ho); clear BK309; clear HB; clear HO_5; have BK309 := n0_; have HB := n1_; have HO321 := n2_; clear n0_ n1_ n2_; clear ho hb hg hat)); try go_wp2_with (first | (go_at_call 33; (with_reducible refine (vellumref12_Mod.calls (rd l1 x7_1) ((rd_L1 l0_0 x6_1).length : Int) t317 _ A12.out).mono ?_); rintro e w' ⟨rfl, ⟨nd, rfl⟩⟩; (try first | exact ⟨rfl, _, World.drewN_drewN _ _ _⟩ | exact ⟨rfl, _, Eq.trans (World.drewN_drewN _ _ _) (congrArg (World.drewN _) (Nat.add_assoc _ _ _))⟩); have p318 : 0 ≤ (t317 : Int) := of_decide_eq_true (by first | (with_reducible assumption) | assumption); have q318 : t317 < ((rd_L1 l0_0 x6_1).length : Int) := of_decide_eq_true (by first | (with_reducible assumption) | assumption); obtain ⟨ad318, e318, hx318_0⟩ := Kd.at_int HR314_0.out t317 p318 q318; cases e318; replace hx318_0 := (HB.out.cell (World.block_lt_of_cell? w _ hx318_0)).trans hx318_0; replace p318 := eq_true p318; replace q318 := eq_true q318) | ((with_reducible refine gate_builtin (b := .append) (xs := #[.tmp 46, .tmp 48]) rfl ?_); (try (refine gate_guard (by rfl) ?_; dsimp only)); at_builtin; refine Kd.R_append (Kd.int .i64) (w0 := w) w.heap.size rfl (.tmp 46) (.tmp 48) 23 3 (.int .i64 0) 8 rfl Try.underlying23 info3 rfl (by decide) (by omega) u5 x5_1 (rd (rd_L1 l0_0 x6_1) t317) [.int .i64 (rd (rd_L1 l0_0 x6_1) t317)] (fun _ => True) (fun _ => False) rfl rfl ?aP (fun _ hk => hk.elim) ?aF ?aO ?aB ?aS ?aL ?_; (case aP => exact rfl); (case aB => exact (by repeat (first | (with_reducible first | exact HB.out | apply below_alloc | apply pw_below_drewN | apply below_drew1 | refine below_set ?_ GE309.out) | exact HB.out))); (case aF => exact (fun _ _ => trivial)); (case aO => exact (by (with_reducible repeat (first | apply Kd.R_alloc | apply Kd.R_drewN | apply Kd.R_drew)); exact HO_5.out)); (case aS => exact (below_size (by repeat (first | (with_reducible first | exact HB.out | apply below_alloc | apply pw_below_drewN | apply below_drew1 | refine below_set ?_ GE309.out) | exact HB.out)))); (case aL => have := LMc15.out; omega); intro v320 w17 ho hb hg hat; rw [← Ny319.out] at ho; have n0_ := Aside0.mk (blk_grown (g := gb309) (o := .cells #[.slice (some ad313) l0_0.length c0_0] 27 (0, 0)) (by (with_reducible repeat (first | refine blk_drewN ?_ _ | refine blk_drew ?_ | refine blk_alloc ?_ _)); exact BK309.out) hg (Kd.R_ne HO_5.out BK309.out (by decide))); have n1_ := Aside0.mk (hb); have n2_ := Aside0.mk (ho); clear BK309; clear HB; clear HO_5; have BK309 := n0_; have HB := n1_; have HO321 := n2_; clear n0_ n1_ n2_; clear ho hb hg hat)))
                        go_roundg k1
                        case measure => have := HK1.out; omega
                        case rel => exact ⟨(y319), (rd (rd_L1 l0_0 x6_1) t317), (wrap64 (x7_1 + 1)), (by first | rfl | (simp; done) | (simp [*]; done)), (by first | rfl | (simp; done) | (simp [*]; done)), H', ⟨by have := HK1.out; omega⟩, ⟨by (with_reducible repeat (first | apply Kd.R_alloc | apply Kd.R_drewN | apply Kd.R_drew)); exact HO321.out⟩, ⟨by (with_reducible repeat (first | refine blk_drewN ?_ _ | refine blk_drew ?_ | refine blk_alloc ?_ _)); exact BK309.out⟩, ⟨by repeat (first | (with_reducible first | exact HB.out | apply below_alloc | apply pw_below_drewN | apply below_drew1 | refine below_set ?_ GE309.out) | exact HB.out)⟩⟩
                      · rw [if_neg c15] at H
                        exact absurd H (by simp)
                    · rw [if_neg c14] at H
                      exact absurd H (by simp)
                  · rw [if_neg c13] at H
                    exact absurd H (by simp)
                · rw [if_neg c11] at H
                  exact absurd H (by simp)
              · rw [if_neg c10] at H
                have c10b0 : decide (0 < ((rd_L1 l0_0 x6_1).length : Int)) = false := decide_eq_false c10
                have c10b1 : decide (0 < (rd_L1 l0_0 x6_1).length) = false := decide_eq_false (by omega)
                clear c10
                obtain rfl := Option.some.inj H
                have hcz18_0 : wr.cell? ⟨gb309, 0, none⟩ = some (.slice A0_0 l0_0.length c0_0) := (blk_cell BK309.out 0).trans rfl
                have hfz18_0 := blk_frozen BK309.out 0
                have p313 : 0 ≤ (x6_1 : Int) := of_decide_eq_true (by first | (with_reducible assumption) | assumption)
                have q313 : x6_1 < (l0_0.length : Int) := of_decide_eq_true (by first | (with_reducible assumption) | assumption)
                obtain ⟨ad313, A313_0, c313_0, e313, hx313_0, hl313_0, hi313_0⟩ := at_L1 HR0_0.out x6_1 p313 q313
                cases e313
                replace hx313_0 := (HB.out.cell (World.block_lt_of_cell? w _ hx313_0)).trans hx313_0
                have HR313_0 := Aside0.mk hi313_0
                have HC313_0 := Aside0.mk hl313_0
                clear hi313_0 hl313_0
                replace p313 := eq_true p313
                replace q313 := eq_true q313
                go_wp2
                repeat (go_quiet (fail); try go_wp2)
                go_ret
                exact ⟨_, by first | rfl | (simp [errW_none, errW_some] <;> rfl) | (simp [*, errW_none, errW_some] <;> rfl), by (with_reducible repeat (first | apply Kd.R_alloc | apply Kd.R_drewN | apply Kd.R_drew)); exact HO_5.out, by repeat (first | (with_reducible first | exact HB.out | apply below_alloc | apply pw_below_drewN | apply below_drew1 | refine below_set ?_ GE309.out) | exact HB.out)⟩
            · rw [if_neg c9] at H
              exact absurd H (by simp)
          · rw [if_neg c8] at H
            exact absurd H (by simp)
        · rw [if_neg c7] at H
          have c7b0 : decide (x7_1 < 200) = false := decide_eq_false c7
          clear c7
          obtain rfl := Option.some.inj H
          go_wp2
          repeat (go_quiet (fail); try go_wp2)
          go_ret
          exact ⟨_, by first | rfl | (simp [errW_none, errW_some] <;> rfl) | (simp [*, errW_none, errW_some] <;> rfl), by (with_reducible repeat (first | apply Kd.R_alloc | apply Kd.R_drewN | apply Kd.R_drew)); exact HO_5.out, by repeat (first | (with_reducible first | exact HB.out | apply below_alloc | apply pw_below_drewN | apply below_drew1 | refine below_set ?_ GE309.out) | exact HB.out)⟩
      · rw [if_neg c6] at H
        have c6b0 : decide (x7_1 < (l1.length : Int)) = false := decide_eq_false c6
        clear c6
        obtain rfl := Option.some.inj H
        go_wp2
        repeat (go_quiet (fail); try go_wp2)
        go_ret
        exact ⟨_, by first | rfl | (simp [errW_none, errW_some] <;> rfl) | (simp [*, errW_none, errW_some] <;> rfl), by (with_reducible repeat (first | apply Kd.R_alloc | apply Kd.R_drewN | apply Kd.R_drew)); exact HO_5.out, by repeat (first | (with_reducible first | exact HB.out | apply below_alloc | apply pw_below_drewN | apply below_drew1 | refine below_set ?_ GE309.out) | exact HB.out)⟩
end Go.Proofs.Ytfiiihpdekppiaa.PShapeNested
end
section
namespace Go.Proofs.Ytfiiihpdekppiaa
open Go.RowKit Go.Proofs Go.Proofs.YtfiiihpdekppiaaW.PrintWords
open Go.ChangeMaps (setBlock heap_setBlock_same heap_setBlock_other)
open PShapeReducible (S31 k31 S77 k77)
def nestA (n i : Nat) : List (List Int) := (List.range i).map fun (k : Nat) => [(k : Int) + 1]
def nestB (n i : Nat) : List (List Int) := (List.range i).map fun (k : Nat) => [(n : Int) - 1 - k, (n : Int) + k + 1]
def nestG (n : Nat) : List (List Int) := nestA n n ++ nestB n n ++ [[]]
theorem nestA_succ (n i : Nat) : nestA n (i + 1) = nestA n i ++ [[(i : Int) + 1]] := by simp [nestA, List.range_succ]
theorem nestB_succ (n i : Nat) : nestB n (i + 1) = nestB n i ++ [[(n : Int) - 1 - i, (n : Int) + i + 1]] := by simp [nestB, List.range_succ]
theorem nestA_len (n i : Nat) : (nestA n i).length = i := by simp [nestA]
theorem nestB_len (n i : Nat) : (nestB n i).length = i := by simp [nestB]
theorem nestG_len (n : Nat) : (nestG n).length = n + n + 1 := by simp [nestG, nestA_len, nestB_len]; omega
theorem S31_eta (x : S31) : (⟨x.f0, x.f1, x.f2, x.f3⟩ : S31) = x := by cases x; rfl
structure NestFacts (n : Nat) (x : S31) (ch : List Int) : Prop where
  hs : StructIs (nestG n) 0 x 0
  cnt : ∃ k, PShapeReducible.vellumref12_Count.f k x.f0 x.f1 x.f2 x.f3 3 = some (n : Int)
  sz : szL x.f3 ≤ 100000000
  run : ∃ r, rExecS ((compileF (nestG n) x).map Stp.s77) ch = some r ∧ (∃ k, PShapeNested.vellumref12_Walk.f k (nestG n) ch = some r) ∧ ∃ k, PShapeNested.vellumref06_Ints.f k r r = some true
set_option maxRecDepth 100000 in
set_option maxHeartbeats 4000000 in
theorem nested_any (w : World) (a0 : Int) (ha : 0 ≤ a0 ∧ a0 < 256) (Ac : Option Addr) (cc : Nat) (ch : List Int) (hC : kI.C w Ac ch.length ch) (hcc : ch.length ≤ cc) (x : S31) (hF : ∀ n : Nat, (n : Int) = 1 + a0 % 20 → NestFacts n x ch) :
    Calls Try.prog 11 #[.int .u8 a0, .slice Ac ch.length cc] w fun e w' => e = .returned (.bool true) ∧ Below w.heap.size w w' := by
  obtain ⟨n, hn⟩ : ∃ n : Nat, (n : Int) = 1 + a0 % 20 := ⟨(1 + a0 % 20).toNat, by omega⟩
  have HF := Aside0.mk (hF n hn)
  have hn20 : n ≤ 20 := by omega
  have HC := Aside0.mk hC
  have HCC := Aside0.mk hcc
  have SAN := Aside0.mk (fun w => sanity_any sanS sanT sanU ⟨0, 0, 0, []⟩ sanFacts w)
  have HN := Aside0.mk hn
  have hmod : Int.tmod a0 20 = (n : Int) - 1 := by rw [Int.tmod_eq_emod_of_nonneg ha.1]; omega
  have hw0 : IntKind.u8.wrap ((n : Int) - 1) = (n : Int) - 1 := by unfold IntKind.wrap; simp [IntKind.bits, IntKind.signed]; omega
  have hnn : 1 + ((n : Int) - 1) = (n : Int) := by omega
  clear hF hC hcc hn
  go_enter Try.func11, Try.ntmps11
  go_wp2_with (first
    | (go_at_call 14; refine (SAN.out w).mono ?_; rintro e w1 ⟨rfl, hb1⟩; have M1 := (Mem.start w).below hb1; obtain ⟨b7, w2, z2, a2, M2⟩ := M1.alloc (.cells #[.slice none 0 0] 27); have gc := M2.cell (k := 0) (j := 0) rfl rfl; have gf := M2.free (k := 0) (j := 0) rfl; obtain ⟨w3, s3, M3⟩ := M2.set (k := 0) 0 rfl (.slice none 0 0); have M3 := Aside0.mk (show Mem w w3 [] [.blk b7 (.cells #[.slice none 0 0] 27 (0, 0)), .mat (.slice none 0 0) [] (nestA n 0)] from M3.nilmat); clear hb1 M1 M2; dsimp only))
  clear gc gf s3 z2 a2 hmod hw0 hnn
  go_loopw [8] (fun t wr => ∃ (i : Nat) (v : Value) (vs : List Value), t = .int .i64 i ∧ i ≤ n ∧ Aside0 (Mem w wr [] [.blk b7 (.cells #[v] 27 (0, 0)), .mat v vs (nestA n i)])) (fun t _ => n - (intOf t).toNat)
  case atStart => exact ⟨0, _, _, rfl, Nat.zero_le _, M3⟩
  case round =>
    clear M3
    obtain ⟨i, v, vs, rfl, hi, hM⟩ := hrel
    by_cases hlt : i < n
    · obtain ⟨A, c, ev, _, _⟩ := hM.out.matC (k := 1) rfl
      subst ev
      have g1 : wr.cell? ⟨b7, 0, none⟩ = some (.slice A (nestA n i).length c) := hM.out.cell (k := 0) (j := 0) rfl rfl
      obtain ⟨b5, w5, z5, a5, M5⟩ := hM.out.one ((i : Int) + 1)
      have M5 := Aside0.mk M5
      have hlt' : (i : Int) < n := by omega
      have HLT := Aside0.mk hlt
      have HLL := Aside0.mk (show (nestA n i).length < 1000000000 by rw [nestA_len]; omega)
      go_wp2_with (first
        | ((with_reducible refine gate_dst (N := 29) rfl ?_); refine mem_append_mat 1 1 (.tmp 24) (.tmp 28) rfl rfl Try.underlying25 info23 _ vs (nestA n i) (.slice (some ⟨b5, 0, none⟩) 1 1) [(i : Int) + 1] rfl rfl rfl M5.out rfl rfl HLL.out ?_; intro A6 c6 w6 M6; have d1 := M6.cell (k := 1) (j := 0) rfl rfl; have d2 := M6.free (k := 1) (j := 0) rfl; obtain ⟨w7, s7, M7⟩ := M6.set (k := 1) 0 rfl (.slice A6 (vs.length + 1) c6); have M7 := Aside0.mk M7; clear M6))
      go_roundw
      case rel =>
        refine ⟨i + 1, .slice A6 (vs.length + 1) c6, vs ++ [.slice (some ⟨b5, 0, none⟩) 1 1], by go_num, by have := HLT.out; omega, ⟨?_⟩⟩
        rw [nestA_succ]
        exact M7.out.order [1, 0] rfl
      case measure => have := HLT.out; simp [intOf]; omega
    · obtain rfl : i = n := by omega
      go_wp2
      have M0 := Aside0.mk (show Mem w wr [] [.blk b7 (.cells #[v] 27 (0, 0)), .mat v vs (nestA i i ++ nestB i 0)] by
        have : nestA i i ++ nestB i 0 = nestA i i := by simp [nestB]
        rw [this]; exact hM.out)
      clear hM
      go_loopw [9] (fun t wr => ∃ (j : Nat) (v : Value) (vs : List Value), t = .int .i64 j ∧ j ≤ i ∧ Aside0 (Mem w wr [] [.blk b7 (.cells #[v] 27 (0, 0)), .mat v vs (nestA i i ++ nestB i j)])) (fun t _ => i - (intOf t).toNat)
      case atStart => exact ⟨0, _, _, rfl, Nat.zero_le _, M0⟩
      case round =>
        clear M0
        obtain ⟨j, v, vs, rfl, hj, hM⟩ := hrel
        by_cases hlt : j < i
        · obtain ⟨A, c, ev, _, _⟩ := hM.out.matC (k := 1) rfl
          subst ev
          have g1 : wr.cell? ⟨b7, 0, none⟩ = some (.slice A (nestA i i ++ nestB i j).length c) := hM.out.cell (k := 0) (j := 0) rfl rfl
          obtain ⟨b5, w5, z5, a5, M5⟩ := hM.out.lit2 ((i : Int) - 1 - j) ((i : Int) + j + 1)
          have M5 := Aside0.mk M5
          have hlt' : (j : Int) < i := by omega
          have HLT := Aside0.mk hlt
          have HLL := Aside0.mk (show (nestA i i ++ nestB i j).length < 1000000000 by rw [List.length_append, nestA_len, nestB_len]; omega)
          obtain ⟨N, hN⟩ : ∃ N, N = (nestA i i ++ nestB i j).length := ⟨_, rfl⟩
          rw [← hN] at g1
          have HNN := Aside0.mk hN
          clear hN
          go_wp2_with (first
            | ((with_reducible refine gate_dst (N := 48) rfl ?_); refine mem_append_mat 1 1 (.tmp 37) (.tmp 47) rfl rfl Try.underlying25 info23 (.slice A N c) vs (nestA i i ++ nestB i j) (.slice (some ⟨b5, 0, none⟩) 2 2) [(i : Int) - 1 - j, (i : Int) + j + 1] rfl rfl rfl M5.out (by rw [HNN.out]; rfl) rfl HLL.out ?_; intro A6 c6 w6 M6; have d1 := M6.cell (k := 1) (j := 0) rfl rfl; have d2 := M6.free (k := 1) (j := 0) rfl; obtain ⟨w7, s7, M7⟩ := M6.set (k := 1) 0 rfl (.slice A6 (vs.length + 1) c6); have M7 := Aside0.mk M7; clear M6))
          go_roundw
          case rel =>
            refine ⟨j + 1, .slice A6 (vs.length + 1) c6, vs ++ [.slice (some ⟨b5, 0, none⟩) 2 2], by go_num, by have := HLT.out; omega, ⟨?_⟩⟩
            rw [nestB_succ, ← List.append_assoc]
            exact M7.out.order [1, 0] rfl
          case measure => have := HLT.out; simp [intOf]; omega
        · obtain rfl : j = i := by omega
          obtain ⟨A, c, ev, _, _⟩ := hM.out.matC (k := 1) rfl
          subst ev
          obtain ⟨N, hN⟩ : ∃ N, N = (nestA j j ++ nestB j j).length := ⟨_, rfl⟩
          have g1 : wr.cell? ⟨b7, 0, none⟩ = some (.slice A N c) := by rw [hN]; exact hM.out.cell (k := 0) (j := 0) rfl rfl
          obtain ⟨b5, w5, z5, a5, M5⟩ := hM.out.lit0
          have M5 := Aside0.mk M5
          have HNN := Aside0.mk hN
          have HLL := Aside0.mk (show (nestA j j ++ nestB j j).length < 1000000000 by rw [List.length_append, nestA_len, nestB_len]; omega)
          clear hN
          go_wp2_with (first
            | ((with_reducible refine gate_dst (N := 54) rfl ?_); refine mem_append_mat 1 1 (.tmp 51) (.tmp 53) rfl rfl Try.underlying25 info23 (.slice A N c) vs (nestA j j ++ nestB j j) (.slice (some ⟨b5, 0, none⟩) 0 0) [] rfl rfl rfl M5.out (by rw [HNN.out]; rfl) rfl HLL.out ?_; intro A6 c6 w6 M6; obtain ⟨A', c', ev', _, _⟩ := M6.matC (k := 0) rfl; have hvl : vs.length + 1 = (nestG j).length := (by injection ev' with _ e2 _); rw [hvl] at M6 ⊢; have d1 := M6.cell (k := 1) (j := 0) rfl rfl; have d2 := M6.free (k := 1) (j := 0) rfl; obtain ⟨w7, s7, M7⟩ := M6.set (k := 1) 0 rfl (.slice A6 (nestG j).length c6); have M8 := M7.order [1, 0] rfl; have d3 : w7.cell? ⟨b7, 0, none⟩ = some (.slice A6 (nestG j).length c6) := M8.cell (k := 0) (j := 0) rfl rfl; have M8 := Aside0.mk (show Mem w w7 [] [.blk b7 (.cells #[.slice A6 (nestG j).length c6] 27 (0, 0)), .mat (.slice A6 (nestG j).length c6) (vs ++ [.slice (some ⟨b5, 0, none⟩) 0 0]) (nestG j)] from M8); clear M6 M7 ev' hvl))
          refine (Mem.struct (g := nestG j) (k := 1) M8.out rfl HF.out.hs).mono ?_
          rintro e w8 ⟨A3, xn, ok, rfl, M9⟩
          obtain ⟨b10, w9, z9, a9, M10⟩ := M9.alloc (.cells #[.int .i64 0, .int .i64 0, .int .i64 0, .slice none 0 0] 31)
          obtain ⟨y1, y2, y3, y4, ⟨s1, s2, s3, s4⟩, ⟨c1, c2, c3, c4⟩, ⟨f1, f2, f3, f4⟩, M11⟩ := M10.fill4 (k := 3) rfl (.int .i64 x.f0) (.int .i64 x.f1) (.int .i64 x.f2) (.slice A3 x.f3.length xn)
          obtain ⟨w12, z12, M12⟩ := M11.drew
          have M12 := Aside0.mk (show Mem w w12 [] [.blk b7 (.cells #[.slice A6 (nestG j).length c6] 27 (0, 0)), .mat (.slice A6 (nestG j).length c6) (vs ++ [.slice (some ⟨b5, 0, none⟩) 0 0]) (nestG j), .fk ok x (shc x A3 xn), .blk b10 (.cells #[.int .i64 x.f0, .int .i64 x.f1, .int .i64 x.f2, .slice A3 x.f3.length xn] 31 (0, 0))] from M12)
          clear M9 M10 M11 d1 d2 s7 g1 z5 a5
          dsimp only
          go_wp2_with (first | (rw [z12]) | (refine wp_region_txt (fun W => W.cell? ⟨b7, 0, none⟩ = some (.slice A6 (nestG j).length c6)) [16, 1007, 1015, 1018, 1019] (by kernel_rfl) (by kernel_rfl) ?_))
          clear s1 s2 s3 s4 c1 c2 c3 c4 f1 f2 f3 f4 z12 z9 a9 d3
          have S0 : w12.cell? ⟨b7, 0, none⟩ = some (.slice A6 (nestG j).length c6) := M12.out.cell (k := 0) (j := 0) rfl rfl
          have e0 : w12.cell? ⟨b10, 0, none⟩ = some (.int .i64 x.f0) := M12.out.cell (k := 3) (j := 0) rfl rfl
          have e1 : w12.cell? ⟨b10, 1, none⟩ = some (.int .i64 x.f1) := M12.out.cell (k := 3) (j := 1) rfl rfl
          have e2 : w12.cell? ⟨b10, 2, none⟩ = some (.int .i64 x.f2) := M12.out.cell (k := 3) (j := 2) rfl rfl
          have e3 : w12.cell? ⟨b10, 3, none⟩ = some (.slice A3 x.f3.length xn) := M12.out.cell (k := 3) (j := 3) rfl rfl
          iterate 7 (first | (with_reducible refine wpT_nil ?_) | (refine wpT_W (v := ?_) (by assumption) (by decide) (by first | exact wanted_none rfl | rfl) (fun _ hS_ => ?_) ?_; rotate_left; (focus ((try dsimp only at hS_); go_simp; rfl)); (simp only [Act.put, List.setIfInBounds_toArray, List.set_cons_zero, List.set_cons_succ])) | (refine wpT_R (v := ?_) (by assumption) (by decide) (by first | exact wanted_none rfl | rfl) ?_ ?_; rotate_left; (focus (go_simp; rfl)); (simp only [Act.put, List.setIfInBounds_toArray, List.set_cons_zero, List.set_cons_succ])) | (refine wpT_A (v := ?_) (ob := ?_) (by assumption) (by decide) (by first | exact wanted_none rfl | rfl) ?_ ?_ ?_; rotate_left 2; (focus (go_simp; first | (constructor <;> rfl) | rfl)); (focus (apply cell_alloc; assumption)); (simp only [Act.put, List.setIfInBounds_toArray, List.set_cons_zero, List.set_cons_succ])) | (refine wpT_no (by assumption) rfl (by decide) ?_; (simp only [Act.put, List.setIfInBounds_toArray, List.set_cons_zero, List.set_cons_succ])))
          refine wpT_LA S0 (by decide) (by first | exact wanted_none rfl | rfl) (fun K_ hK_ => ?_)
          obtain ⟨kc, hkc⟩ := HF.out.cnt
          obtain ⟨r, hr1, ⟨kw, hr2⟩, ki, hr3⟩ := HF.out.run
          have HKC := Aside0.mk hkc
          have HR1E := Aside0.mk (show rExecS ((compileF (nestG j) ⟨x.f0, x.f1, x.f2, x.f3⟩).map Stp.s77) ch = some r by rw [S31_eta]; exact hr1)
          have HR2 := Aside0.mk hr2
          have HR3 := Aside0.mk hr3
          clear hkc hr1 hr2 hr3
          have HFK := M12.out.fkC (k := 2) rfl
          go_wp2_with (go_at_call 24; refine (PShapeReducible.vellumref12_Count.calls kc x.f0 x.f1 x.f2 A3 xn x.f3 3 j w12 HFK.2 HFK.1 HKC.out).mono ?_; rintro e w13 ⟨rfl, hb13⟩)
          have M13 := Aside0.mk (M12.out.below hb13)
          have S1 : w13.cell? ⟨b7, 0, none⟩ = some (.slice A6 (nestG j).length c6) := M13.out.cell (k := 0) (j := 0) rfl rfl
          have e0 : w13.cell? ⟨b10, 0, none⟩ = some (.int .i64 x.f0) := M13.out.cell (k := 3) (j := 0) rfl rfl
          have e1 : w13.cell? ⟨b10, 1, none⟩ = some (.int .i64 x.f1) := M13.out.cell (k := 3) (j := 1) rfl rfl
          have e2 : w13.cell? ⟨b10, 2, none⟩ = some (.int .i64 x.f2) := M13.out.cell (k := 3) (j := 2) rfl rfl
          have e3 : w13.cell? ⟨b10, 3, none⟩ = some (.slice A3 x.f3.length xn) := M13.out.cell (k := 3) (j := 3) rfl rfl
          refine hK_ _ _ ⟨hb13.size, hb13.block⟩ S1 ?_
          clear hK_ hb13 HFK
          iterate 7 (first | (with_reducible refine wpT_nil ?_) | (refine wpT_W (v := ?_) (by assumption) (by decide) (by first | exact wanted_none rfl | rfl) (fun _ hS_ => ?_) ?_; rotate_left; (focus ((try dsimp only at hS_); go_simp; rfl)); (simp only [Act.put, List.setIfInBounds_toArray, List.set_cons_zero, List.set_cons_succ])) | (refine wpT_R (v := ?_) (by assumption) (by decide) (by first | exact wanted_none rfl | rfl) ?_ ?_; rotate_left; (focus (go_simp; rfl)); (simp only [Act.put, List.setIfInBounds_toArray, List.set_cons_zero, List.set_cons_succ])) | (refine wpT_A (v := ?_) (ob := ?_) (by assumption) (by decide) (by first | exact wanted_none rfl | rfl) ?_ ?_ ?_; rotate_left 2; (focus (go_simp; first | (constructor <;> rfl) | rfl)); (focus (apply cell_alloc; assumption)); (simp only [Act.put, List.setIfInBounds_toArray, List.set_cons_zero, List.set_cons_succ])) | (refine wpT_no (by assumption) rfl (by decide) ?_; (simp only [Act.put, List.setIfInBounds_toArray, List.set_cons_zero, List.set_cons_succ])))
          refine wpT_LA S1 (by decide) (by first | exact wanted_none rfl | rfl) (fun K_ hK_ => ?_)
          have HFK := M13.out.fkC (k := 2) rfl
          obtain ⟨A', c', ev', hgc, hgC⟩ := M13.out.matC (k := 1) rfl
          injection ev' with ev' _ ev2
          subst ev' ev2
          go_wp2_with (go_at_call 20; refine (rexec_any w13 A6 xn c6 (nestG j) x.f0 x.f1 x.f2 x.f3 ch Ac cc r hgC hgc A3 HFK.2 HFK.1 (Kd.C_below HC.out M13.out.hb) (by rw [nestG_len]; omega) HF.out.sz HR1E.out).mono ?_; rintro e w14 ⟨vx, rfl, M14⟩)
          have M15 := Aside0.mk (M13.out.call M14)
          have hb14 := M14.hb
          have S2 : w14.cell? ⟨b7, 0, none⟩ = some (.slice A6 (nestG j).length c6) := M15.out.cell (k := 0) (j := 0) rfl rfl
          refine hK_ _ _ ⟨hb14.size, hb14.block⟩ S2 ?_
          clear hK_ hb14 M14 hgC hgc
          iterate 2 (first | (with_reducible refine wpT_nil ?_) | (refine wpT_W (v := ?_) (by assumption) (by decide) (by first | exact wanted_none rfl | rfl) (fun _ hS_ => ?_) ?_; rotate_left; (focus ((try dsimp only at hS_); go_simp; rfl)); (simp only [Act.put, List.setIfInBounds_toArray, List.set_cons_zero, List.set_cons_succ])) | (refine wpT_R (v := ?_) (by assumption) (by decide) (by first | exact wanted_none rfl | rfl) ?_ ?_; rotate_left; (focus (go_simp; rfl)); (simp only [Act.put, List.setIfInBounds_toArray, List.set_cons_zero, List.set_cons_succ])) | (refine wpT_A (v := ?_) (ob := ?_) (by assumption) (by decide) (by first | exact wanted_none rfl | rfl) ?_ ?_ ?_; rotate_left 2; (focus (go_simp; first | (constructor <;> rfl) | rfl)); (focus (apply cell_alloc; assumption)); (simp only [Act.put, List.setIfInBounds_toArray, List.set_cons_zero, List.set_cons_succ])) | (refine wpT_no (by assumption) rfl (by decide) ?_; (simp only [Act.put, List.setIfInBounds_toArray, List.set_cons_zero, List.set_cons_succ])))
          refine wpT_LA S2 (by decide) (by first | exact wanted_none rfl | rfl) (fun K_ hK_ => ?_)
          obtain ⟨A', c', ev', hgc, hgC⟩ := M15.out.matC (k := 1) rfl
          injection ev' with ev' _ ev2
          subst ev' ev2
          go_wp2_with (go_at_call 21; refine (PShapeNested.vellumref12_Walk.calls kw A6 c6 (nestG j) Ac cc ch r w14 hgC hgc (Kd.C_below HC.out M15.out.hb) HCC.out HR2.out).mono ?_; rintro e w16 ⟨vy, rfl, hR16, hb16⟩)
          have M17 := Aside0.mk (M15.out.newrow hb16 (own_R hR16) (fun k hk => own_base (own_R hR16) k hk))
          have S3 : w16.cell? ⟨b7, 0, none⟩ = some (.slice A6 (nestG j).length c6) := M17.out.cell (k := 0) (j := 0) rfl rfl
          refine hK_ _ _ ⟨hb16.size, hb16.block⟩ S3 ?_
          clear hK_ hb16 hR16 hgC hgc
          refine wpT_LA S3 (by decide) (by first | exact wanted_none rfl | rfl) (fun K_ hK_ => ?_)
          obtain ⟨Ax, cx, rfl, hcx, hCx⟩ := M17.out.rowC (k := 4) (xs := r) rfl rfl
          obtain ⟨Ay, cy, rfl, hcy, hCy⟩ := M17.out.rowC (k := 5) (xs := r) rfl rfl
          go_wp2_with (go_at_call 19; refine (PShapeNested.vellumref06_Ints.calls ki Ax cx r Ay cy r true w16 hCx hcx hCy hcy HR3.out).mono ?_; rintro e w18 ⟨rfl, hd18⟩)
          have M19 := Aside0.mk (M17.out.drawn hd18)
          have S4 : w18.cell? ⟨b7, 0, none⟩ = some (.slice A6 (nestG j).length c6) := M19.out.cell (k := 0) (j := 0) rfl rfl
          refine hK_ _ _ ⟨hd18.below.size, hd18.below.block⟩ S4 ?_
          clear hK_ hd18
          iterate 2 (first | (with_reducible refine wpT_nil ?_) | (refine wpT_W (v := ?_) (by assumption) (by decide) (by first | exact wanted_none rfl | rfl) (fun _ hS_ => ?_) ?_; rotate_left; (focus ((try dsimp only at hS_); go_simp; rfl)); (simp only [Act.put, List.setIfInBounds_toArray, List.set_cons_zero, List.set_cons_succ])) | (refine wpT_R (v := ?_) (by assumption) (by decide) (by first | exact wanted_none rfl | rfl) ?_ ?_; rotate_left; (focus (go_simp; rfl)); (simp only [Act.put, List.setIfInBounds_toArray, List.set_cons_zero, List.set_cons_succ])) | (refine wpT_A (v := ?_) (ob := ?_) (by assumption) (by decide) (by first | exact wanted_none rfl | rfl) ?_ ?_ ?_; rotate_left 2; (focus (go_simp; first | (constructor <;> rfl) | rfl)); (focus (apply cell_alloc; assumption)); (simp only [Act.put, List.setIfInBounds_toArray, List.set_cons_zero, List.set_cons_succ])) | (refine wpT_no (by assumption) rfl (by decide) ?_; (simp only [Act.put, List.setIfInBounds_toArray, List.set_cons_zero, List.set_cons_succ])))
          refine wpT_nil ?_
          go_wp2
          go_ret
          exact ⟨rfl, M19.out.hb⟩
end Go.Proofs.Ytfiiihpdekppiaa
end
section
namespace Go.Proofs.Ytfiiihpdekppiaa
open Go.RowKit Go.Proofs Go.Proofs.YtfiiihpdekppiaaW.PrintWords
open PShapeReducible (S31 S77 rd_T77)
open PShapeNested (vellumref12_Walk.l0 vellumref12_Walk.f vellumref06_Ints.f vellumref06_Ints.l0 vellumref12_Mod.f)
def StepOk (ss : List S77) (g : List (List Int)) (i : Nat) : Prop :=
  (0 ≤ (rd_T77 ss i).f1 ∧ (rd_T77 ss i).f1 < g.length) ∧ (rd_T77 ss i).f2.length = (g.getD (rd_T77 ss i).f1.toNat []).length ∧ (rd_T77 ss i).f2.length ≤ 1000000000 ∧
    ∀ j, j < (rd_T77 ss i).f2.length → ∃ m : Nat, nx ss ((rd_T77 ss i).f2.getD j 0) = some (m : Int) ∧ m < ss.length ∧ (rd_T77 ss m).f0 = 0 ∧ (rd_T77 ss m).f1 = (g.getD (rd_T77 ss i).f1.toNat []).getD j 0
def SimOk (ss : List S77) (g : List (List Int)) : Prop :=
  (∃ f : Nat, nx ss 0 = some (f : Int) ∧ f < ss.length ∧ (rd_T77 ss f).f0 = 0 ∧ (rd_T77 ss f).f1 = 0) ∧ ∀ i, i < ss.length → (rd_T77 ss i).f0 = 0 → StepOk ss g i
theorem exe_walk (ss : List S77) (g : List (List Int)) (ch : List Int) (hs : ∀ i, i < ss.length → (rd_T77 ss i).f0 = 0 → StepOk ss g i) :
    ∀ (d k q i : Nat) (out : List Int), d + k = 201 → d < q → out.length = k → i < ss.length → (rd_T77 ss i).f0 = 0 →
      ∃ r, rExe ss ch q k (i : Int) out = some r ∧ ∃ kw, vellumref12_Walk.l0 kw ch (out ++ [(rd_T77 ss i).f1]) (rd_T77 ss i).f1 k g = some r
  | d, k, 0, i, out, _, hq, _, _, _ => by omega
  | d, k, q + 1, i, out, hdk, hq, hol, hi, hk0 => by
    obtain ⟨hn, hlen, hbig, hstep⟩ := hs i hi hk0
    obtain ⟨n, hnd⟩ : ∃ n : Nat, (rd_T77 ss i).f1 = n := ⟨(rd_T77 ss i).f1.toNat, by omega⟩
    rw [hnd] at hlen hstep hn ⊢
    rw [Int.toNat_natCast] at hlen hstep
    obtain ⟨tos, htos⟩ : ∃ tos, tos = (rd_T77 ss i).f2 := ⟨_, rfl⟩
    rw [← htos] at hlen hbig hstep
    have erow : PShapeNested.rd_L1 g (n : Int) = g.getD n [] := rfl
    rw [rExe, if_neg (by omega), if_pos ⟨by omega, by omega, by rw [← htos]; exact hbig⟩, ← htos, hnd]
    by_cases hend : ch.length ≤ k ∨ 200 ≤ k ∨ tos.length = 0
    · rw [if_pos hend]
      refine ⟨_, rfl, 1, ?_⟩
      rw [vellumref12_Walk.l0]
      by_cases h1 : (k : Int) < ch.length
      · rw [if_pos h1]
        by_cases h2 : (k : Int) < 200
        · rw [if_pos h2, if_pos (by omega), if_pos hn.2, erow, if_neg (by omega)]
        · rw [if_neg h2]
      · rw [if_neg h1]
    · rw [if_neg hend]
      have hz : 0 < tos.length := by omega
      have hr := modI_range (ch.getD k 0) tos.length hz (by omega)
      obtain ⟨mp, hmp⟩ : ∃ mp : Nat, modI (ch.getD k 0) tos.length = mp := ⟨(modI (ch.getD k 0) tos.length).toNat, by omega⟩
      obtain ⟨m, h1, h2, h3, h4⟩ := hstep mp (by omega)
      rw [hmp, Int.toNat_natCast, h1]
      simp only [Option.bind_some]
      obtain ⟨r, h5, kw, h6⟩ := exe_walk ss g ch hs (d - 1) (k + 1) q m (out ++ [(n : Int)]) (by omega) (by omega) (by simp [hol]) h2 h3
      refine ⟨r, h5, kw + 1, ?_⟩
      have hmod : vellumref12_Mod.f (rd ch (k : Int)) ((PShapeNested.rd_L1 g (n : Int)).length : Int) = some (mp : Int) := by
        rw [erow, ← hlen]
        unfold vellumref12_Mod.f
        rw [if_neg (by omega)]
        exact congrArg some hmp
      rw [vellumref12_Walk.l0, if_pos (by omega), if_pos (by omega), if_pos (by omega), if_pos hn.2, if_pos (by rw [erow]; omega), if_pos (by omega), hmod]
      simp only [Option.bind_some]
      rw [if_pos (by omega), if_pos (by rw [erow]; omega), if_pos (by simp [hol]; omega), wrap64_in (by omega) (by omega)]
      have e3 : rd (PShapeNested.rd_L1 g (n : Int)) (mp : Int) = (rd_T77 ss m).f1 := by rw [h4, erow]; rfl
      rw [e3]
      exact h6
theorem ints_l0 (r : List Int) (hl : r.length ≤ 1000000000) : ∀ (m i : Nat), i + m = r.length → ∃ k, vellumref06_Ints.l0 k r r i = some true
  | 0, i, hi => ⟨1, by rw [vellumref06_Ints.l0, if_neg (by omega)]⟩
  | m + 1, i, hi => by
    obtain ⟨k, hk⟩ := ints_l0 r hl m (i + 1) (by omega)
    refine ⟨k + 1, ?_⟩
    rw [vellumref06_Ints.l0, if_pos (by omega), if_pos (by omega), if_pos (by omega), if_pos rfl, wrap64_in (by omega) (by omega)]
    exact hk
theorem ints_same (r : List Int) (hl : r.length ≤ 1000000000) : ∃ k, vellumref06_Ints.f k r r = some true := by
  obtain ⟨k, hk⟩ := ints_l0 r hl r.length 0 (by omega)
  exact ⟨k, by unfold vellumref06_Ints.f; rw [if_pos rfl]; exact hk⟩
theorem rExe_len (ss : List S77) (ch : List Int) : ∀ (q k : Nat) (at_ : Int) (out r : List Int), rExe ss ch q k at_ out = some r → r.length ≤ out.length + q
  | 0, _, _, _, _, h => by simp [rExe] at h
  | q + 1, k, at_, out, r, h => by
    rw [rExe] at h
    split at h
    · injection h with h; subst h; omega
    · split at h
      · split at h
        · injection h with h; subst h; simp
        · obtain ⟨m, _, h2⟩ := Option.bind_eq_some_iff.1 h
          have := rExe_len ss ch q (k + 1) m _ r h2
          simp at this; omega
      · cases h
theorem exec_walk {ss : List S77} {g : List (List Int)} (h : SimOk ss g) (hl : ss.length ≠ 0) (ch : List Int) : ∃ r, rExecS ss ch = some r ∧ (∃ k, vellumref12_Walk.f k g ch = some r) ∧ ∃ k, vellumref06_Ints.f k r r = some true := by
  obtain ⟨⟨f, h1, h2, h3, h4⟩, hs⟩ := h
  obtain ⟨r, h5, kw, h6⟩ := exe_walk ss g ch hs 201 0 202 f [] rfl (by omega) rfl h2 h3
  rw [h4] at h6
  refine ⟨r, ?_, ⟨kw, h6⟩, ints_same r ?_⟩
  · unfold rExecS
    rw [if_neg hl, h1]
    exact h5
  · have := rExe_len ss ch _ _ _ _ _ h5
    simp at this
    omega
def simE (ss : List S77) (g : List (List Int)) : Bool :=
  (match nx ss 0 with
   | some f => decide (0 ≤ f ∧ f < ss.length ∧ (rd_T77 ss f).f0 = 0 ∧ (rd_T77 ss f).f1 = 0)
   | none => false) &&
  (List.range ss.length).all fun i => !decide ((rd_T77 ss i).f0 = 0) ||
    (decide ((0 ≤ (rd_T77 ss i).f1 ∧ (rd_T77 ss i).f1 < g.length) ∧ (rd_T77 ss i).f2.length = (g.getD (rd_T77 ss i).f1.toNat []).length ∧ (rd_T77 ss i).f2.length ≤ 1000000000) &&
      (List.range (rd_T77 ss i).f2.length).all fun j =>
        match nx ss ((rd_T77 ss i).f2.getD j 0) with
        | some m => decide (0 ≤ m ∧ m < ss.length ∧ (rd_T77 ss m).f0 = 0 ∧ (rd_T77 ss m).f1 = (g.getD (rd_T77 ss i).f1.toNat []).getD j 0)
        | none => false)
theorem simE_is {ss : List S77} {g : List (List Int)} (h : simE ss g = true) : SimOk ss g := by
  unfold simE at h
  rw [Bool.and_eq_true] at h
  obtain ⟨h1, h2⟩ := h
  constructor
  · split at h1
    · next f hf =>
      obtain ⟨a, b, c, d⟩ := of_decide_eq_true h1
      obtain ⟨f, rfl⟩ := Int.eq_ofNat_of_zero_le a
      exact ⟨f, hf, by omega, c, d⟩
    · cases h1
  · intro i hi hk
    have h3 := List.all_eq_true.1 h2 i (by simpa using hi)
    rw [decide_eq_true hk, Bool.not_true, Bool.false_or, Bool.and_eq_true] at h3
    obtain ⟨h3, h4⟩ := h3
    obtain ⟨a, b, c⟩ := of_decide_eq_true h3
    refine ⟨a, b, c, fun j hj => ?_⟩
    have h5 := List.all_eq_true.1 h4 j (by simpa using hj)
    split at h5
    · next m hm =>
      obtain ⟨a, b, c, d⟩ := of_decide_eq_true h5
      obtain ⟨m, rfl⟩ := Int.eq_ofNat_of_zero_le a
      exact ⟨m, hm, by omega, c, d⟩
    · cases h5
def nestOk (n : Nat) : Bool :=
  match structE 400 (nestG n) 0 with
  | some (x, err) => decide (err = 0) && decide (PShapeReducible.vellumref12_Count.f 400 x.f0 x.f1 x.f2 x.f3 3 = some (n : Int)) && decide (szL x.f3 ≤ 100000000) && decide (((compileF (nestG n) x).map Stp.s77).length ≠ 0) && simE ((compileF (nestG n) x).map Stp.s77) (nestG n)
  | none => false
theorem nestOk_is {n : Nat} (h : nestOk n = true) : ∃ x, ∀ ch, NestFacts n x ch := by
  unfold nestOk at h
  split at h
  · next x err hx =>
    simp only [Bool.and_eq_true, decide_eq_true_eq] at h
    obtain ⟨⟨⟨⟨rfl, h2⟩, h3⟩, h4⟩, h5⟩ := h
    exact ⟨x, fun ch => ⟨structE_is hx, ⟨400, h2⟩, h3, exec_walk (simE_is h5) h4 ch⟩⟩
  · cases h
theorem nest_1 : nestOk 1 = true := by kernel_rfl
theorem nest_2 : nestOk 2 = true := by kernel_rfl
theorem nest_3 : nestOk 3 = true := by kernel_rfl
theorem nest_4 : nestOk 4 = true := by kernel_rfl
theorem nest_5 : nestOk 5 = true := by kernel_rfl
theorem nest_6 : nestOk 6 = true := by kernel_rfl
theorem nest_7 : nestOk 7 = true := by kernel_rfl
theorem nest_8 : nestOk 8 = true := by kernel_rfl
theorem nest_9 : nestOk 9 = true := by kernel_rfl
theorem nest_10 : nestOk 10 = true := by kernel_rfl
theorem nest_11 : nestOk 11 = true := by kernel_rfl
theorem nest_12 : nestOk 12 = true := by kernel_rfl
theorem nest_13 : nestOk 13 = true := by kernel_rfl
theorem nest_14 : nestOk 14 = true := by kernel_rfl
theorem nest_15 : nestOk 15 = true := by kernel_rfl
theorem nest_16 : nestOk 16 = true := by kernel_rfl
theorem nest_17 : nestOk 17 = true := by kernel_rfl
theorem nest_18 : nestOk 18 = true := by kernel_rfl
theorem nest_19 : nestOk 19 = true := by kernel_rfl
theorem nest_20 : nestOk 20 = true := by kernel_rfl
theorem nest_all (n : Nat) (h1 : 1 ≤ n) (h2 : n ≤ 20) : nestOk n = true := by
  have h : n = 1 ∨ n = 2 ∨ n = 3 ∨ n = 4 ∨ n = 5 ∨ n = 6 ∨ n = 7 ∨ n = 8 ∨ n = 9 ∨ n = 10 ∨ n = 11 ∨ n = 12 ∨ n = 13 ∨ n = 14 ∨ n = 15 ∨ n = 16 ∨ n = 17 ∨ n = 18 ∨ n = 19 ∨ n = 20 := by omega
  rcases h with rfl | rfl | rfl | rfl | rfl | rfl | rfl | rfl | rfl | rfl | rfl | rfl | rfl | rfl | rfl | rfl | rfl | rfl | rfl | rfl
  · exact nest_1
  · exact nest_2
  · exact nest_3
  · exact nest_4
  · exact nest_5
  · exact nest_6
  · exact nest_7
  · exact nest_8
  · exact nest_9
  · exact nest_10
  · exact nest_11
  · exact nest_12
  · exact nest_13
  · exact nest_14
  · exact nest_15
  · exact nest_16
  · exact nest_17
  · exact nest_18
  · exact nest_19
  · exact nest_20
theorem shapeNested_walk (w : World) (a0 : Int) (ha : 0 ≤ a0 ∧ a0 < 256) (Ac : Option Addr) (cc : Nat) (ch : List Int) (hC : kI.C w Ac ch.length ch) (hcc : ch.length ≤ cc) :
    Calls Try.prog 11 #[.int .u8 a0, .slice Ac ch.length cc] w fun e w' => e = .returned (.bool true) ∧ Below w.heap.size w w' := by
  obtain ⟨n, hn⟩ : ∃ n : Nat, (n : Int) = 1 + a0 % 20 := ⟨(1 + a0 % 20).toNat, by omega⟩
  obtain ⟨x, hx⟩ := nestOk_is (nest_all n (by omega) (by omega))
  exact nested_any w a0 ha Ac cc ch hC hcc x (fun m hm => by
    obtain rfl : m = n := by omega
    exact hx ch)
end Go.Proofs.Ytfiiihpdekppiaa
end
section
namespace Go.Proofs.Ytfiiihpdekppiaa.shapeNested
open Go.ChangeShapes Go.WideShapes Go.ChangeAt Go.RowKit Go.Proofs.YtfiiihpdekppiaaW.PrintWords
open Go.ChangeMaps (open_string shut_string)
theorem own : ownKnob Try.prog.godebug = none := by kernel_rfl
theorem laidOut : laidOutB Try.prog = true := by kernel_rfl
def IsRow (k : IntKind) (w : World) (a : Option Addr) (len cap : Nat) (zs : List Int) : Prop :=
  (a = none ∧ len = 0 ∧ cap = 0 ∧ zs = []) ∨
  ∃ x, a = some x ∧ len ≤ cap ∧ cap ≤ maxLen ∧ zs.length = cap ∧ (∀ i, i < zs.length → w.cell? (x.add i) = some (.int k (zs.getD i 0))) ∧ ∀ n ∈ zs, (Lit.int k n).wf = true
theorem walk (a0 : Int) (a1 : Option Addr) (len1 cap1 : Nat) (z1 : List Int) (w : World) (w0 : (Lit.int .u8 a0).wf = true) (w1 : IsRow .i64 w a1 len1 cap1 z1) :
    Calls Try.prog 11 #[.int .u8 a0, .slice a1 len1 cap1] w fun e w' => e = .returned (.bool true) ∧ Below w.heap.size w w' := by
  obtain ⟨l1, rfl, hr1, hm1, hw1, hc1⟩ := ReadsInt.ofRowC w1
  have h0 : 0 ≤ a0 ∧ a0 < 256 := by
    simp [Lit.wf, IntKind.min, IntKind.max, IntKind.signed, IntKind.bits] at w0
    omega
  exact shapeNested_walk w a0 h0 a1 cap1 l1 (Kd.C_of_reads (d := (0 : Int)) (h1 := fun _ => rfl) hr1) hc1
set_option maxRecDepth 100000 in
theorem lifted (os : Os) (started : os.Started) (H : Type) (enc : TypeId × Value → H) :
    ReturnsInHanded {} Try.checked os 11 .any (Rows.shapeNestedSpec.pre6 enc Try.prog Try.f11 Rows.shapeNestedRow.domain false) (Rows.shapeNestedSpec.post enc Try.prog Try.f11 false true false false) := by
  refine returnsInHanded_of_change_sized (C := Try.checked) own started (by kernel_rfl) Try.func11
    (ChangeSpec.witness6 (enc := enc) (C := Try.checked) false ⟨#[], #[.int .u8 0, .slice none 0 0], []⟩ 8 (by kernel_rfl) (by kernel_rfl) (by kernel_rfl) (by kernel_rfl)) ?_
  intro W base args ds gs before hval0 hW hcnd hsz0 _
  have hsz : (DataW.weightsEach Try.prog (Try.f11.params.toList ++ Rows.shapeNestedSpec.plain.varTypes Try.prog) (ds ++ gs)).all (· ≤ reachBytes) = true := hsz0
  have hval : ∀ (j : Nat) t v, Try.f11.params[j]? = some t → args[j]? = some v → Value.okWide Try.prog W .any base t v := hval0
  have hW' := hW
  obtain ⟨p, q, hA0, hV, rfl, hfz, hnd⟩ := hW
  have hA : DataW.TrodAll enc Try.prog W 0 (fun _ => true) true Try.f11.params.toList args.toList ds p := hA0
  rw [Try.params11] at hA hval hsz
  obtain ⟨v0, vs0, d0, ds0, p0, q0, hargs, rfl, rfl, h0, r0⟩ := trodAll_cons hA
  obtain ⟨v1, vs1, d1, ds1, p1, q1, rfl, rfl, rfl, h1, r1⟩ := trodAll_cons r0
  obtain ⟨rfl, rfl, rfl⟩ := trodAll_nil r1
  obtain rfl : args = #[v0, v1] := by cases args; simp_all
  obtain ⟨rfl, rfl⟩ := trodVars_none hV
  obtain ⟨a0, rfl, rfl, rfl, w0⟩ := open_int Try.underlying5 (hval 0 5 v0 rfl rfl) h0
  obtain ⟨a1, len1, cap1, rfl⟩ := okWide_slice Try.underlying23 (hval 1 23 v1 rfl rfl)
  have k1 := h1
  have lt1 : ∀ x ∈ p1, x.block < W.heap.size := by obtain ⟨m, hm⟩ := k1; exact DataW.trod_lt m _ _ _ hm
  obtain ⟨z1, w1⟩ : ∃ zs, IsRow .i64 W a1 len1 cap1 zs := by
    obtain ⟨fuel, hf⟩ := h1
    rcases open_ints Try.underlying23 Try.underlying3 (by kernel_rfl) hf with ⟨hcs, _⟩ | ⟨x, l, c, zs, hcs, _, hl, hm, hz, _, hcell, hwz⟩
    · simp [Value.cells] at hcs
      obtain ⟨rfl, rfl, rfl⟩ := hcs
      exact ⟨[], .inl ⟨rfl, rfl, rfl, rfl⟩⟩
    · simp [Value.cells] at hcs
      obtain ⟨rfl, rfl, rfl⟩ := hcs
      exact ⟨zs, .inr ⟨_, rfl, hl, hm, by simpa using hz, hcell, hwz⟩⟩
  clear hA0 hval0 hsz0 hsz
  refine (walk a0 a1 len1 cap1 z1 W w0 w1).mono fun e W' ⟨he, bel⟩ => ?_
  subst he
  exact ⟨_, rfl, _, _, _, [], _, [], hW', trodAll_mk1 (shut_bool Try.underlying4 _), (trodAll_cons_mk (shut_int Try.underlying5 w0) (trodAll_cons_mk (Below.trod laidOut (by kernel_rfl) (of_decide_eq_true (by kernel_rfl)) k1 bel lt1) trodAll_mk0)), rfl, bel.frame _, fun h => by cases h⟩
theorem over : Rows.shapeNestedRow.holds Try.pinned (OpenSpec.ofChange Rows.shapeNestedSpec) :=
  OpenClaim.holds_of_wide 11 Try.f11 rfl rfl rfl rfl rfl rfl rfl ⟨rfl, rfl, rfl, rfl, rfl⟩ rfl rfl rfl rfl rfl (by kernel_rfl) Try.func11 (by kernel_rfl)
    (of_decide_eq_true (by kernel_rfl)) (by unfold Func.isWrapper; first | (rw [if_pos (by decide +kernel)]; kernel_rfl) | (rw [if_neg (by decide +kernel)]; exact ⟨rfl, rfl⟩))
    (fun os started H enc _ => lifted os started H enc)
theorem proved : Rows.ShapeNestedSaid := over
#print axioms proved
end Go.Proofs.Ytfiiihpdekppiaa.shapeNested
namespace Go.Proofs.Ytfiiihpdekppiaa
theorem shapeNested_holds : Rows.ShapeNestedSaid := shapeNested.proved
end Go.Proofs.Ytfiiihpdekppiaa
end
