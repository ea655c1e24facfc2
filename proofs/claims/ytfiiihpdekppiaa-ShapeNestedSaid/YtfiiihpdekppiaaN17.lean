/- A part of the proof that vellumlaw12.ShapeNested is true for every input: walks of functions that the row reaches and plain laws that they need. Conditions: none. Joined by merge.py out of B12 PShapeReduciblex9 C26 S10 C27; a part that began as a print is named P or W there and is trimmed. -/
import Derived.Test.YtfiiihpdekppiaaN4
import Derived.Test.YtfiiihpdekppiaaN9
import Derived.Test.YtfiiihpdekppiaaN16
set_option linter.unusedVariables false
set_option linter.unusedSimpArgs false
section
namespace Go.Proofs.Ytfiiihpdekppiaa
open Go.RowKit Go.Proofs Go.Proofs.YtfiiihpdekppiaaW.PrintWords
open PShapeReducible (S31 S77 k77 k77_mk)
def Stp.s77 (p : Stp) : S77 := ⟨p.kind, p.node, p.tos⟩
theorem recs_chunk {m : Nat} : ∀ {hs : List (List Value)} {vs : List Value}, hs.length = vs.length → (∀ h ∈ hs, h.length = m) → ∀ {i : Nat}, i < hs.length → ((recs hs vs).drop (i * (m + 1))).take (m + 1) = hs.getD i [] ++ [vs.getD i nilS]
  | [], _, _, _, i, hi => by simp at hi
  | h :: hs, [], hl, _, _, _ => by simp at hl
  | h :: hs, v :: vs, hl, hm, i, hi => by
    have h0 := hm h (by simp)
    have e : recs (h :: hs) (v :: vs) = (h ++ [v]) ++ recs hs vs := by simp [recs]
    cases i with
    | zero =>
      rw [e]
      simp only [Nat.zero_mul, List.drop_zero, List.getD_cons_zero]
      rw [List.take_append_of_le_length (by simp [h0]), List.take_of_length_le (by simp [h0])]
    | succ i =>
      have ih := recs_chunk (hs := hs) (vs := vs) (by simpa using hl) (fun x hx => hm x (by simp [hx])) (i := i) (by simpa using hi)
      rw [e, show (i + 1) * (m + 1) = (h ++ [v]).length + i * (m + 1) by simp [h0, Nat.add_mul]; omega, List.drop_append]
      simp only [List.getD_cons_succ]
      rw [← ih, List.drop_of_length_le (by omega), List.nil_append, Nat.add_sub_cancel_left]
section
variable {w0 w w' : World} {F H L : List Pc}
theorem Mem.stepsC {k j : Nat} {v : Value} {ts : List Value} {ss : List Stp} (h : Mem w0 w F H) (hk : H[k]? = some (.row v 77 3 ss.length (recs (ss.map Stp.cells) ts))) (hj : H[j]? = some (.rows ts (ss.map Stp.tos))) :
    ∃ A n, v = .slice A (ss.map Stp.s77).length n ∧ (ss.map Stp.s77).length ≤ n ∧ k77.C w A (ss.map Stp.s77).length (ss.map Stp.s77) := by
  have h1 : w.ownsRow 0 77 3 v ss.length (recs (ss.map Stp.cells) ts) := h.says hk
  have h2 := h.rows hj
  have hlen : ts.length = ss.length := by simpa using h2.len
  have hr : OwnRow (k77.K w) 77 3 w 0 v (ss.map Stp.s77) := by
    refine ⟨_, by rw [List.length_map]; exact h1, by rw [List.length_map, recs_len (m := 2) (by simpa using hlen.symm) (by simp [Stp.cells])]; simp, fun i p hp => ?_⟩
    rw [List.getElem?_map] at hp
    obtain ⟨s, hs, rfl⟩ := Option.map_eq_some_iff.1 hp
    have hi := (List.getElem?_eq_some_iff.1 hs).1
    rw [recs_chunk (m := 2) (by simpa using hlen.symm) (by simp [Stp.cells]) (by simpa using hi)]
    obtain ⟨A, c, e1, e2, e3⟩ := own_C (h2.row i (by omega))
    have e4 : (ss.map Stp.tos).getD i [] = s.tos := by simp [List.getD_eq_getElem?_getD, hs]
    have e5 : (ss.map Stp.cells).getD i [] = s.cells := by simp [List.getD_eq_getElem?_getD, hs]
    rw [e4] at e1 e2 e3
    rw [e5, e1]
    exact k77_mk w s.s77 e2 e3
  exact OwnRow.reads hr
theorem Mem.rowsPut {k i j b n : Nat} {vs : List Value} {xss : List (List Int)} (h : Mem w0 w F H) (hk : H[k]? = some (.rows vs xss)) (hi : i < xss.length) (hv : vs.getD i nilS = .slice (some ⟨b, 0, none⟩) (xss.getD i []).length n) (x : Int) :
    ∃ w2, w.setCell ⟨b, j, none⟩ (.int .i64 x) = w2 ∧ Mem w0 w2 F (H.set k (.rows vs (xss.set i ((xss.getD i []).set j x)))) := by
  refine ⟨_, rfl, ?_⟩
  have h2 : Rows3 w 0 vs xss := h.says hk
  have hlen := h2.len
  have hrow := h2.row i (by omega)
  rw [hv] at hrow
  have hst := (hrow.stored j (.int .i64 x)).1
  have hg : w.grownBy (w.setCell ⟨b, j, none⟩ (.int .i64 x)) (vs.getD i nilS).ownBlock := ⟨rfl, rfl, rfl, by simp [World.setCell], fun q hq hn => by
    rw [hv] at hn
    exact Below.heap_setCell w _ _ q (fun e => hn (by rw [e]; rfl))⟩
  have := h.rowsTurn (i := i) hk (by omega) (v' := vs.getD i nilS) (xs' := (xss.getD i []).set j x) (b' := 0) hg (by
    rw [hv, List.length_set]
    have e : nums .i64 ((xss.getD i []).set j x) = (nums .i64 (xss.getD i [])).set j (.int .i64 x) := by simp [nums, List.map_set]
    rw [e]
    exact hst) (.inl rfl)
  have hset : vs.set i (vs.getD i nilS) = vs := by
    rw [List.getD_eq_getElem?_getD, List.getElem?_eq_getElem (by omega)]
    simp
  rw [hset] at this
  exact this
theorem Mem.rowsAt {k i : Nat} {vs : List Value} {xss : List (List Int)} (h : Mem w0 w F H) (hk : H[k]? = some (.rows vs xss)) (hi : i < xss.length) : ∃ A n, vs.getD i nilS = .slice A (xss.getD i []).length n ∧ (0 < (xss.getD i []).length → ∃ b, A = some ⟨b, 0, none⟩ ∧ ∀ j, j < (xss.getD i []).length → w.cell? ⟨b, j, none⟩ = some (.int .i64 ((xss.getD i []).getD j 0)) ∧ w.frozen? ⟨b, j, none⟩ = false) := by
  have h2 := h.rows hk
  have hrow := h2.row i (by have := h2.len; omega)
  obtain ⟨A, c, e⟩ := own_slice hrow
  refine ⟨A, c, e, fun h0 => ?_⟩
  rcases hrow.2 with ⟨_, h1⟩ | ⟨b, cap, cur, e1, _, _, hn', _⟩
  · omega
  · rw [e1] at hrow e
    injection e with e2 _ _
    refine ⟨b, e2.symm, fun j hj => ⟨?_, hrow.frozenAt j⟩⟩
    rw [hrow.cellAt j (by omega)]
    generalize xss.getD i [] = l at hj ⊢
    simp [nums, List.getD_eq_getElem?_getD, hj]
end
end Go.Proofs.Ytfiiihpdekppiaa
end
section
namespace Go.Proofs.Ytfiiihpdekppiaa.PShapeReducible
open Go.RowKit Go.Proofs.YtfiiihpdekppiaaW.PrintWords Go.Proofs.YtfiiihpdekppiaaW.PrintLast Go.Proofs.YtfiiihpdekppiaaW.PrintMore
attribute [local go_sem] max2_int min2_int max_two min_two max_three min_three max_four min_four
set_option linter.unusedVariables false
set_option linter.unusedSimpArgs false
def IsS124 (w0 W : World) (g : Nat) (f0 : List (List Int)) (f1 : List (S77)) (f2 : List (S141)) (f3 : List Int) (f4 : Bool) : Prop := ∃ A0 c0, ∃ A1 c1, ∃ A2 c2, ∃ A3 c3, W.heap[g]? = some (.cells #[.slice A0 f0.length c0, .slice A1 f1.length c1, .slice A2 f2.length c2, .slice A3 f3.length c3, .bool f4] 124 (0, 0)) ∧ w0.heap.size ≤ g ∧ Kd.C (Kd.slice 3 (Kd.int .i64)) w0 A0 f0.length f0 ∧ Kd.C k77 w0 A1 f1.length f1 ∧ Kd.C k141 w0 A2 f2.length f2 ∧ Kd.C (Kd.int .i64) w0 A3 f3.length f3
theorem IsS124.grown {w0 W : World} {g : Nat} {f0 : List (List Int)} {f1 : List (S77)} {f2 : List (S141)} {f3 : List Int} {f4 : Bool} {W1 : World} {row : Option Nat} (h : IsS124 w0 W g f0 f1 f2 f3 f4) (hw : W.grownBy W1 row) (hne : some g ≠ row) : IsS124 w0 W1 g f0 f1 f2 f3 f4 := by
  obtain ⟨A0, c0, A1, c1, A2, c2, A3, c3, hb, hg, hr0, hr1, hr2, hr3⟩ := h
  exact ⟨A0, c0, A1, c1, A2, c2, A3, c3, blk_grown hb hw hne, hg, hr0, hr1, hr2, hr3⟩
theorem IsS124.kept {w0 W : World} {g : Nat} {f0 : List (List Int)} {f1 : List (S77)} {f2 : List (S141)} {f3 : List Int} {f4 : Bool} {W1 : World} {S : Nat → Prop} (h : IsS124 w0 W g f0 f1 f2 f3 f4) (hk : Kept W W1 S) (hne : ¬ S g) : IsS124 w0 W1 g f0 f1 f2 f3 f4 := by
  obtain ⟨A0, c0, A1, c1, A2, c2, A3, c3, hb, hg, hr0, hr1, hr2, hr3⟩ := h
  exact ⟨A0, c0, A1, c1, A2, c2, A3, c3, blk_kept hb hk hne, hg, hr0, hr1, hr2, hr3⟩
theorem IsS124.below {w0 W : World} {g : Nat} {f0 : List (List Int)} {f1 : List (S77)} {f2 : List (S141)} {f3 : List Int} {f4 : Bool} {W1 : World} (h : IsS124 w0 W g f0 f1 f2 f3 f4) (hw : Below W.heap.size W W1) : IsS124 w0 W1 g f0 f1 f2 f3 f4 := h.grown (grown_of_below hw none) (by simp)
theorem IsS124.alloc {w0 W : World} {g : Nat} {f0 : List (List Int)} {f1 : List (S77)} {f2 : List (S141)} {f3 : List Int} {f4 : Bool} (h : IsS124 w0 W g f0 f1 f2 f3 f4) (o : Obj) : IsS124 w0 (W.alloc o) g f0 f1 f2 f3 f4 := h.below (below_alloc (Below.refl _ _) o)
theorem IsS124.drewN {w0 W : World} {g : Nat} {f0 : List (List Int)} {f1 : List (S77)} {f2 : List (S141)} {f3 : List Int} {f4 : Bool} (h : IsS124 w0 W g f0 f1 f2 f3 f4) (m : Nat) : IsS124 w0 (W.drewN m) g f0 f1 f2 f3 f4 := h
theorem IsS124.drew {w0 W : World} {g : Nat} {f0 : List (List Int)} {f1 : List (S77)} {f2 : List (S141)} {f3 : List Int} {f4 : Bool} (h : IsS124 w0 W g f0 f1 f2 f3 f4) : IsS124 w0 W.drew g f0 f1 f2 f3 f4 := h
theorem IsS124.at_ {w0 W : World} {g : Nat} {f0 : List (List Int)} {f1 : List (S77)} {f2 : List (S141)} {f3 : List Int} {f4 : Bool} {w' : World} {m : Nat} (hq : W.drewN m = w') (h : IsS124 w0 W g f0 f1 f2 f3 f4) : IsS124 w0 w' g f0 f1 f2 f3 f4 := by subst hq; exact IsS124.drewN h m
theorem IsS124.apart {w0 W : World} {g : Nat} {f0 : List (List Int)} {f1 : List (S77)} {f2 : List (S141)} {f3 : List Int} {f4 : Bool} {α : Type} {d : Kd α} {e : Nat} {base : Nat} {ok : Nat → Prop} {v : Value} {xs : List α} (h : IsS124 w0 W g f0 f1 f2 f3 f4) (ho : d.R e W base ok v xs) (ht : ∀ q, q ∈ e :: d.E → q ≠ 124) : d.R e W base (fun k => ok k ∧ k ≠ g) v xs := by
  obtain ⟨A0, c0, A1, c1, A2, c2, A3, c3, hb, hg, hr0, hr1, hr2, hr3⟩ := h
  exact Kd.R_types ho hb ht
theorem IsS124.own_ne {w0 W : World} {g : Nat} {f0 : List (List Int)} {f1 : List (S77)} {f2 : List (S141)} {f3 : List Int} {f4 : Bool} {α : Type} {d : Kd α} {e : Nat} {base : Nat} {ok : Nat → Prop} {v : Value} {xs : List α} (h : IsS124 w0 W g f0 f1 f2 f3 f4) (ho : d.R e W base ok v xs) (ht : e ≠ 124) : some g ≠ v.ownBlock := by
  obtain ⟨A0, c0, A1, c1, A2, c2, A3, c3, hb, hg, hr0, hr1, hr2, hr3⟩ := h
  exact Kd.R_ne ho hb ht
theorem IsS124.lt {w0 W : World} {g : Nat} {f0 : List (List Int)} {f1 : List (S77)} {f2 : List (S141)} {f3 : List Int} {f4 : Bool} (h : IsS124 w0 W g f0 f1 f2 f3 f4) : g < W.heap.size := by
  obtain ⟨A0, c0, A1, c1, A2, c2, A3, c3, hb, hg, hr0, hr1, hr2, hr3⟩ := h
  exact blk_lt hb
theorem IsS124.far {w0 W : World} {g : Nat} {f0 : List (List Int)} {f1 : List (S77)} {f2 : List (S141)} {f3 : List Int} {f4 : Bool} {p : Addr} (h : IsS124 w0 W g f0 f1 f2 f3 f4) (hne : g ≠ p.block) (u : Value) : IsS124 w0 (W.setCell p u) g f0 f1 f2 f3 f4 := by
  obtain ⟨A0, c0, A1, c1, A2, c2, A3, c3, hb, hg, hr0, hr1, hr2, hr3⟩ := h
  exact ⟨A0, c0, A1, c1, A2, c2, A3, c3, blk_far hb hne u, hg, hr0, hr1, hr2, hr3⟩
theorem IsS124.new (w0 W : World) (A0 : Option Addr) (c0 : Nat) (A1 : Option Addr) (c1 : Nat) (A2 : Option Addr) (c2 : Nat) (A3 : Option Addr) (c3 : Nat) (f0 : List (List Int)) (f1 : List (S77)) (f2 : List (S141)) (f3 : List Int) (f4 : Bool) (hB : Below w0.heap.size w0 W) (hr0 : Kd.C (Kd.slice 3 (Kd.int .i64)) w0 A0 f0.length f0) (hr1 : Kd.C k77 w0 A1 f1.length f1) (hr2 : Kd.C k141 w0 A2 f2.length f2) (hr3 : Kd.C (Kd.int .i64) w0 A3 f3.length f3) : IsS124 w0 (W.alloc (.cells #[.slice A0 f0.length c0, .slice A1 f1.length c1, .slice A2 f2.length c2, .slice A3 f3.length c3, .bool f4] 124)) W.heap.size f0 f1 f2 f3 f4 := ⟨A0, c0, A1, c1, A2, c2, A3, c3, by simpa using heap_alloc_new W _, hB.size, hr0, hr1, hr2, hr3⟩
def vellumref12_Next.l0 : Nat → List (S77) → Int → Int → Option (Int)
  | 0, _, _, _ => none
  | k + 1, x0, x1, x5 => if x5 ≤ (x0.length : Int) then (if 0 ≤ x1 then (if x1 < (x0.length : Int) then (if ((rd_T77 x0 x1).f0) = 0 then (some x1) else (if ((rd_T77 x0 x1).f0) = 2 then (some (-1)) else (if 0 < (((rd_T77 x0 x1).f2).length : Int) then (vellumref12_Next.l0 k x0 (rd ((rd_T77 x0 x1).f2) 0) (wrap64 (x5 + 1))) else (none)))) else (none)) else (none)) else (some (-1))
def vellumref12_Next.f (k : Nat) (l0 : List (S77)) (a1 : Int) : Option (Int) := vellumref12_Next.l0 k l0 a1 0
theorem vellumref12_Next.mono_l : ∀ k, (∀ y0 y1 y2, LeO (vellumref12_Next.l0 k y0 y1 y2) (vellumref12_Next.l0 (k + 1) y0 y1 y2))
  | 0 => fun _ _ _ r h => by simp [vellumref12_Next.l0] at h
  | k + 1 => by
    have ih0 := vellumref12_Next.mono_l k
    · intro y0 y1 y2
      unfold vellumref12_Next.l0
      repeat' first
      | (with_reducible exact ih0 _ _ _)
      | (with_reducible exact LeO.refl _)
      | (with_reducible exact LeO.none _)
      | (with_reducible refine LeO.ite ?_ ?_)
      | (with_reducible refine LeO.bind ?_ (fun _ => ?_))
      | exact ih0 _ _ _
      | exact LeO.none _
      | refine LeO.ite ?_ ?_
      | refine LeO.bind ?_ (fun _ => ?_)
theorem vellumref12_Next.mono : ∀ a0 a1 k, LeO (vellumref12_Next.f k a0 a1) (vellumref12_Next.f (k + 1) a0 a1) := by
  intro a0 a1 k
  have ih0 := vellumref12_Next.mono_l k
  unfold vellumref12_Next.f
  repeat' first
      | (with_reducible exact ih0 _ _ _)
      | (with_reducible exact LeO.refl _)
      | (with_reducible exact LeO.none _)
      | (with_reducible refine LeO.ite ?_ ?_)
      | (with_reducible refine LeO.bind ?_ (fun _ => ?_))
      | exact ih0 _ _ _
      | exact LeO.none _
      | refine LeO.ite ?_ ?_
      | refine LeO.bind ?_ (fun _ => ?_)
set_option maxHeartbeats 8000000 in
set_option maxRecDepth 100000 in
theorem vellumref12_Next.calls (k : Nat) (A0 : Option Addr) (c0 : Nat) (l0 : List (S77)) (a1 : Int) (r : Int) (w : World) (hr0 : Kd.C k77 w A0 l0.length l0) (hc0 : l0.length ≤ c0) (h : vellumref12_Next.f k l0 a1 = some r) :
    Calls Try.prog 46 #[.slice A0 l0.length c0, .int .i64 a1] w fun e w' => e = .returned (.int .i64 r) ∧ Drawn0 w w' := by
  have HR0 := Aside0.mk hr0
  have HC0 := Aside0.mk hc0
  clear hr0 hc0
  have H : (vellumref12_Next.l0 k l0 a1 0) = some r := h
  clear h
  have H' := Aside0.mk H
  clear H
  go_enter Try.func46, Try.ntmps46
  go_wp2
  go_loopg [1, 5] k (fun kq v1 v5 w' => ∃ (x1_1 : Int) (x5_1 : Int), v1 = .int .i64 x1_1 ∧ v5 = .int .i64 x5_1 ∧ Aside0 (vellumref12_Next.l0 kq l0 x1_1 x5_1 = some r) ∧ Aside0 (kq ≤ k) ∧ Drawn0 w w')
  case atStart => exact ⟨(a1), (0), (by first | rfl | (simp; done) | (simp [*]; done)), (by first | rfl | (simp; done) | (simp [*]; done)), H', ⟨Nat.le_refl _⟩, by repeat (first | exact Drawn0.refl _ | apply Drawn0.step)⟩
  case round =>
    clear H'
    try clear p2
    obtain ⟨x1_1, x5_1, rfl, rfl, HA, HK1, ⟨m1, rfl⟩⟩ := hrel
    cases gk with
    | zero => exact absurd HA.out (by simp [vellumref12_Next.l0])
    | succ k1 =>
      have H := HA.out
      clear HA
      simp only [vellumref12_Next.l0] at H
      by_cases c3 : x5_1 ≤ (l0.length : Int)
      · rw [if_pos c3] at H
        have c3b0 : decide (x5_1 ≤ (l0.length : Int)) = true := decide_eq_true c3
        clear c3
        by_cases c4 : 0 ≤ x1_1
        · rw [if_pos c4] at H
          have c4b0 : decide (0 ≤ x1_1) = true := decide_eq_true c4
          clear c4
          by_cases c5 : x1_1 < (l0.length : Int)
          · rw [if_pos c5] at H
            have c5b0 : decide (x1_1 < (l0.length : Int)) = true := decide_eq_true c5
            clear c5
            by_cases c6 : ((rd_T77 l0 x1_1).f0) = 0
            · rw [if_pos c6] at H
              have c6b0 : (((rd_T77 l0 x1_1).f0) == 0) = true := beq_iff_eq.mpr c6
              have c6b1 : (((rd_T77 l0 x1_1).f0) != 0) = false := bne_eq_false_iff_eq.mpr c6
              clear c6
              obtain rfl := Option.some.inj H
              have p281 : 0 ≤ (x1_1 : Int) := of_decide_eq_true (by first | (with_reducible assumption) | assumption)
              have q281 : x1_1 < (l0.length : Int) := of_decide_eq_true (by first | (with_reducible assumption) | assumption)
              obtain ⟨ad281, A281_2, c281_2, e281, hx281_0, hx281_1, hx281_2, hl281_2, hi281_2⟩ := at_T77 HR0.out x1_1 p281 q281
              cases e281
              have HR281_2 := Aside0.mk hi281_2
              have HC281_2 := Aside0.mk hl281_2
              clear hi281_2 hl281_2
              replace p281 := eq_true p281
              replace q281 := eq_true q281
              go_wp2
              go_ret
              exact ⟨by first | rfl | (simp; done) | (simp [*]; done), by repeat (first | exact Drawn0.refl _ | apply Drawn0.step)⟩
            · rw [if_neg c6] at H
              have c6b0 : (((rd_T77 l0 x1_1).f0) == 0) = false := beq_eq_false_iff_ne.mpr c6
              have c6b1 : (((rd_T77 l0 x1_1).f0) != 0) = true := bne_iff_ne.mpr c6
              by_cases c7 : ((rd_T77 l0 x1_1).f0) = 2
              · rw [if_pos c7] at H
                have c7b0 : (((rd_T77 l0 x1_1).f0) == 2) = true := beq_iff_eq.mpr c7
                have c7b1 : (((rd_T77 l0 x1_1).f0) != 2) = false := bne_eq_false_iff_eq.mpr c7
                clear c7
                obtain rfl := Option.some.inj H
                have p281 : 0 ≤ (x1_1 : Int) := of_decide_eq_true (by first | (with_reducible assumption) | assumption)
                have q281 : x1_1 < (l0.length : Int) := of_decide_eq_true (by first | (with_reducible assumption) | assumption)
                obtain ⟨ad281, A281_2, c281_2, e281, hx281_0, hx281_1, hx281_2, hl281_2, hi281_2⟩ := at_T77 HR0.out x1_1 p281 q281
                cases e281
                have HR281_2 := Aside0.mk hi281_2
                have HC281_2 := Aside0.mk hl281_2
                clear hi281_2 hl281_2
                replace p281 := eq_true p281
                replace q281 := eq_true q281
                go_wp2
                go_ret
                exact ⟨by first | rfl | (simp; done) | (simp [*]; done), by repeat (first | exact Drawn0.refl _ | apply Drawn0.step)⟩
              · rw [if_neg c7] at H
                have c7b0 : (((rd_T77 l0 x1_1).f0) == 2) = false := beq_eq_false_iff_ne.mpr c7
                have c7b1 : (((rd_T77 l0 x1_1).f0) != 2) = true := bne_iff_ne.mpr c7
                by_cases c8 : 0 < (((rd_T77 l0 x1_1).f2).length : Int)
                · rw [if_pos c8] at H
                  have c8b0 : decide (0 < (((rd_T77 l0 x1_1).f2).length : Int)) = true := decide_eq_true c8
                  have c8b1 : decide (0 < ((rd_T77 l0 x1_1).f2).length) = true := decide_eq_true (by omega)
                  clear c8
                  have H' := Aside0.mk H
                  clear H
                  have p281 : 0 ≤ (x1_1 : Int) := of_decide_eq_true (by first | (with_reducible assumption) | assumption)
                  have q281 : x1_1 < (l0.length : Int) := of_decide_eq_true (by first | (with_reducible assumption) | assumption)
                  obtain ⟨ad281, A281_2, c281_2, e281, hx281_0, hx281_1, hx281_2, hl281_2, hi281_2⟩ := at_T77 HR0.out x1_1 p281 q281
                  cases e281
                  have HR281_2 := Aside0.mk hi281_2
                  have HC281_2 := Aside0.mk hl281_2
                  clear hi281_2 hl281_2
                  replace p281 := eq_true p281
                  replace q281 := eq_true q281
                  have p282 : 0 ≤ (x1_1 : Int) := of_decide_eq_true (by first | (with_reducible assumption) | assumption)
                  have q282 : x1_1 < (l0.length : Int) := of_decide_eq_true (by first | (with_reducible assumption) | assumption)
                  obtain ⟨ad282, A282_2, c282_2, e282, hx282_0, hx282_1, hx282_2, hl282_2, hi282_2⟩ := at_T77 HR0.out x1_1 p282 q282
                  obtain rfl : ad281 = ad282 := (by injection e282)
                  have HR282_2 := Aside0.mk hi282_2
                  have HC282_2 := Aside0.mk hl282_2
                  clear hi282_2 hl282_2
                  replace p282 := eq_true p282
                  replace q282 := eq_true q282
                  have ea_ := Option.some.inj (hx281_2.symm.trans hx282_2)
                  injection ea_ with ea_ en_ ec_
                  subst ea_
                  subst ec_
                  clear en_
                  have p283 : 0 ≤ (0 : Int) := (by omega)
                  have q283 : 0 < (((rd_T77 l0 x1_1).f2).length : Int) := of_decide_eq_true (by first | (with_reducible assumption) | assumption)
                  obtain ⟨ad283, e283, hx283_0⟩ := Kd.at_int HR282_2.out 0 p283 q283
                  cases e283
                  have qi283 : (0 < ((rd_T77 l0 x1_1).f2).length) = True := eq_true (by omega)
                  (try rw [show ((0 : Int)).toNat = 0 from rfl] at hx283_0)
                  (try rw [Addr.add_zero'] at hx283_0)
                  replace p283 := eq_true p283
                  replace q283 := eq_true q283
                  go_wp2
                  go_roundg k1
                  case measure => have := HK1.out; omega
                  case rel => exact ⟨(rd ((rd_T77 l0 x1_1).f2) 0), (wrap64 (x5_1 + 1)), (by first | rfl | (simp; done) | (simp [*]; done)), (by first | rfl | (simp; done) | (simp [*]; done)), H', ⟨by have := HK1.out; omega⟩, by repeat (first | exact Drawn0.refl _ | apply Drawn0.step)⟩
                · rw [if_neg c8] at H
                  exact absurd H (by simp)
          · rw [if_neg c5] at H
            exact absurd H (by simp)
        · rw [if_neg c4] at H
          exact absurd H (by simp)
      · rw [if_neg c3] at H
        have c3b0 : decide (x5_1 ≤ (l0.length : Int)) = false := decide_eq_false c3
        clear c3
        obtain rfl := Option.some.inj H
        go_wp2
        go_ret
        exact ⟨by first | rfl | (simp; done) | (simp [*]; done), by repeat (first | exact Drawn0.refl _ | apply Drawn0.step)⟩
end Go.Proofs.Ytfiiihpdekppiaa.PShapeReducible
end
section
namespace Go.Proofs.Ytfiiihpdekppiaa
open Go.RowKit Go.Proofs Go.Proofs.YtfiiihpdekppiaaW.PrintWords
open Go.ChangeMaps (setBlock heap_setBlock_same heap_setBlock_other)
open PShapeReducible (S31 k31 at_T31 rd_T31 S77 k77)
def clampAt (hi : Int) (i j : Nat) (xss : List (List Int)) : List (List Int) :=
  xss.mapIdx fun a l => if a < i then l.map (min · hi) else if a = i then l.mapIdx fun b x => if b < j then min x hi else x else l
theorem clampAt_length (hi : Int) (i j : Nat) (xss : List (List Int)) : (clampAt hi i j xss).length = xss.length := by simp [clampAt]
theorem clampAt_get (hi : Int) (i j : Nat) (xss : List (List Int)) : (clampAt hi i j xss).getD i [] = (xss.getD i []).mapIdx fun b x => if b < j then min x hi else x := by
  simp only [clampAt, List.getD_eq_getElem?_getD, List.getElem?_mapIdx]
  cases xss[i]? <;> simp
theorem mapIdx_id' {α : Type} (l : List α) : l.mapIdx (fun _ x => x) = l := by
  apply List.ext_getElem?
  intro i
  simp only [List.getElem?_mapIdx]
  cases l[i]? <;> rfl
theorem clampAt_zero (hi : Int) (xss : List (List Int)) : clampAt hi 0 0 xss = xss := by
  apply List.ext_getElem?
  intro i
  simp only [clampAt, List.getElem?_mapIdx]
  cases xss[i]? with
  | none => rfl
  | some l => by_cases h : i = 0 <;> simp [h, mapIdx_id']
theorem clampAt_end (hi : Int) (i : Nat) (xss : List (List Int)) : clampAt hi i (xss.getD i []).length xss = clampAt hi (i + 1) 0 xss := by
  apply List.ext_getElem?
  intro a
  simp only [clampAt, List.getElem?_mapIdx, List.getD_eq_getElem?_getD]
  cases h : xss[a]? with
  | none => rfl
  | some l =>
    simp only [Option.map_some, Option.some.injEq]
    by_cases h1 : a < i
    · rw [if_pos h1, if_pos (by omega)]
    · by_cases h2 : a = i
      · subst h2
        rw [if_neg h1, if_pos rfl, if_pos (by omega), h]
        apply List.ext_getElem?
        intro b
        simp only [Option.getD_some, List.getElem?_mapIdx, List.getElem?_map]
        cases h3 : l[b]? with
        | none => rfl
        | some x => simp only [Option.map_some]; rw [if_pos (List.getElem?_eq_some_iff.1 h3).1]
      · rw [if_neg h1, if_neg h2, if_neg (by omega)]
        by_cases h4 : a = i + 1
        · rw [if_pos h4]; simp [mapIdx_id']
        · rw [if_neg h4]
theorem clampAt_step (hi : Int) (i j : Nat) (xss : List (List Int)) (hij : j < (xss.getD i []).length) :
    (clampAt hi i j xss).set i (((clampAt hi i j xss).getD i []).set j (min ((xss.getD i []).getD j 0) hi)) = clampAt hi i (j + 1) xss := by
  rw [clampAt_get]
  apply List.ext_getElem?
  intro a
  rw [List.getElem?_set]
  by_cases h1 : i = a
  · subst h1
    have hlt : i < xss.length := by
      rcases Nat.lt_or_ge i xss.length with h | h
      · exact h
      · rw [List.getD_eq_getElem?_getD, List.getElem?_eq_none h] at hij; simp at hij
    rw [if_pos rfl, clampAt_length, if_pos hlt]
    simp only [clampAt, List.getElem?_mapIdx, List.getElem?_eq_getElem hlt, Option.map_some, Nat.lt_irrefl, if_false, if_true, Option.some.injEq, List.getD_eq_getElem?_getD, Option.getD_some]
    rw [List.getD_eq_getElem?_getD, List.getElem?_eq_getElem hlt, Option.getD_some] at hij
    apply List.ext_getElem?
    intro b
    rw [List.getElem?_set]
    by_cases h2 : j = b
    · subst h2
      rw [if_pos rfl]
      simp [hij]
    · rw [if_neg h2]
      simp only [List.getElem?_mapIdx]
      cases xss[i][b]? with
      | none => rfl
      | some x =>
        simp only [Option.map_some, Option.some.injEq]
        by_cases h3 : b < j
        · rw [if_pos h3, if_pos (by omega)]
        · rw [if_neg h3, if_neg (by omega)]
  · rw [if_neg h1]
    simp only [clampAt, List.getElem?_mapIdx]
    cases xss[a]? with
    | none => rfl
    | some l =>
      simp only [Option.map_some, Option.some.injEq]
      by_cases h2 : a < i
      · rw [if_pos h2, if_pos h2]
      · rw [if_neg h2, if_neg h2, if_neg (fun h => h1 h.symm), if_neg (fun h => h1 h.symm)]
def withTos (ss : List Stp) (xss : List (List Int)) : List Stp := ss.mapIdx fun a p => { p with tos := xss.getD a [] }
theorem withTos_cells (ss : List Stp) (xss : List (List Int)) : (withTos ss xss).map Stp.cells = ss.map Stp.cells := by
  apply List.ext_getElem?
  intro i
  simp only [withTos, List.getElem?_map, List.getElem?_mapIdx]
  cases ss[i]? <;> rfl
theorem withTos_tos (ss : List Stp) (xss : List (List Int)) (h : xss.length = ss.length) : (withTos ss xss).map Stp.tos = xss := by
  apply List.ext_getElem?
  intro i
  simp only [withTos, List.getElem?_map, List.getElem?_mapIdx]
  by_cases hi : i < ss.length
  · simp [hi, List.getD_eq_getElem?_getD, h]
  · rw [List.getElem?_eq_none (by omega), List.getElem?_eq_none (by omega)]; rfl
theorem withTos_length (ss : List Stp) (xss : List (List Int)) : (withTos ss xss).length = ss.length := by simp [withTos]
theorem withTos_clamp (ss : List Stp) : withTos ss (clampAt ((ss.length : Int) - 1) ss.length 0 (ss.map Stp.tos)) = clampT ss := by
  apply List.ext_getElem?
  intro i
  simp only [withTos, clampT, List.getElem?_mapIdx, List.getElem?_map]
  cases h : ss[i]? with
  | none => rfl
  | some p =>
    have hi := (List.getElem?_eq_some_iff.1 h).1
    simp only [Option.map_some, Option.some.injEq, clampAt, List.getD_eq_getElem?_getD, List.getElem?_mapIdx, List.getElem?_map, h, if_pos hi, Option.getD_some]
def stepsOwn (v : Value) (ts : List Value) (ss : List Stp) : List Pc := [.row v 77 3 ss.length (recs (ss.map Stp.cells) ts), .rows ts (ss.map Stp.tos)]
set_option maxRecDepth 100000 in
set_option maxHeartbeats 4000000 in
theorem compile_any (w : World) (A : Option Addr) (c n cg : Nat) (g : List (List Int)) (kind node label : Int) (kids : List S31) (hG : kG.C w A g.length g) (hg : g.length ≤ 1000000000) (hgc : g.length ≤ cg) (A3 : Option Addr) (hK : k31.C w A3 kids.length kids) (hn : kids.length ≤ n) (hsz : szL kids ≤ 100000000) :
    Calls Try.prog 45 #[.agg #[.int .i64 kind, .int .i64 node, .int .i64 label, .slice A3 kids.length n], .agg #[.slice A g.length cg]] w fun e w' => ∃ v ts, e = .returned v ∧ Mem w w' [] (stepsOwn v ts (compileF g ⟨kind, node, label, kids⟩)) := by
  obtain ⟨b2, w1, z1, a1, M1⟩ := (Mem.start w).alloc (.cells #[.int .i64 kind, .int .i64 node, .int .i64 label, .slice A3 kids.length n] 31)
  obtain ⟨b3, w2, z2, a2, M2⟩ := M1.alloc (.cells #[.slice A g.length cg] 27)
  obtain ⟨bc, w3, z3, a3, M3⟩ := M2.alloc (.cells #[.slice A g.length cg, nilS, nilS, nilS, .bool false] 124)
  have k1 := M2.cell (k := 1) (j := 0) rfl rfl
  have e0 : w3.cell? ⟨b2, 0, none⟩ = some (.int .i64 kind) := M3.cell (k := 0) (j := 0) rfl rfl
  have e1 : w3.cell? ⟨b2, 1, none⟩ = some (.int .i64 node) := M3.cell (k := 0) (j := 1) rfl rfl
  have e2 : w3.cell? ⟨b2, 2, none⟩ = some (.int .i64 label) := M3.cell (k := 0) (j := 2) rfl rfl
  have e3 : w3.cell? ⟨b2, 3, none⟩ = some (.slice A3 kids.length n) := M3.cell (k := 0) (j := 3) rfl rfl
  have M4 : Mem w w3 [] ((Cs.mk [] [] [] false).own bc (.slice A g.length cg) ⟨nilS, nilS, nilS, [], []⟩ ++ [.blk b2 (.cells #[.int .i64 kind, .int .i64 node, .int .i64 label, .slice A3 kids.length n] 31 (0, 0)), .blk b3 (.cells #[.slice A g.length cg] 27 (0, 0))]) := by
    have h1 := (((((M3.nilrow 77 3).norows).nilrow 141 4).norows).nilrow 3 1).order [2, 3, 4, 5, 6, 7, 0, 1] rfl
    exact h1
  have M4 := Aside0.mk M4
  have HG := Aside0.mk hG
  have HK := Aside0.mk hK
  have HN := Aside0.mk hn
  have SH := Aside0.mk (rshape_any w bc A cg g hG hg _ ⟨kind, node, label, kids⟩ (Nat.le_refl _))
  have HSZ := Aside0.mk hsz
  obtain ⟨cF, hcF⟩ : ∃ cF, cF = shapeF g ⟨kind, node, label, kids⟩ ⟨[], [], [], false⟩ := ⟨_, rfl⟩
  have HOK := Aside0.mk (shapeF_ok g 100000000 ⟨kind, node, label, kids⟩ ⟨[], [], [], false⟩ ⟨by simp only [szF_eq, big, List.length_nil]; omega, by simp only [szF_eq, big, List.length_nil]; omega, by simp only [szF_eq, big, List.length_nil]; omega, by simp⟩)
  have HOK0 := Aside0.mk (show (Cs.mk [] [] [] false).Ok (szF ⟨kind, node, label, kids⟩ + 100000000) from ⟨by simp only [szF_eq, big, List.length_nil]; omega, by simp only [szF_eq, big, List.length_nil]; omega, by simp only [szF_eq, big, List.length_nil]; omega, by simp⟩)
  rw [← hcF] at HOK
  have HCF := Aside0.mk hcF
  clear hG hK M1 M2 M3 hcF hn hsz
  go_enter Try.func45, Try.ntmps45
  go_wp2_with (first
    | (go_at_call 68; refine (SH.out [] _ _ _ w3 A3 n 100000000 M4.out HOK0.out HK.out HN.out).mono ?_; rintro e w5 ⟨rfl, p5, M5⟩; rw [← HCF.out] at M5; have k4 : w5.cell? ⟨bc, 4, none⟩ = some (.bool cF.bad) := M5.cell (k := 0) (j := 4) rfl rfl; obtain ⟨bd, hbd⟩ : ∃ bd, bd = cF.bad := ⟨_, rfl⟩; rw [← hbd] at k4; have HBD := Aside0.mk hbd; have M5 := Aside0.mk M5; clear hbd; cases bd))
  · have HLC : cF.steps.length < 1000000000 := by have h8 := HOK.out.2.1; simp only [big] at h8; omega
    have HCOMP := Aside0.mk (show compileF g ⟨kind, node, label, kids⟩ = clampT (cF.steps ++ [⟨2, 0, []⟩]) by
      unfold compileF
      simp only []
      rw [← HCF.out, if_neg (by rw [← HBD.out]; decide)]
      rfl)
    go_wp2_with (first
      | (go_at_call 69; refine (emit0 bc _ cF p5 2 0 M5.out HLC).mono ?_; rintro e w6 ⟨rfl, p6, M6⟩; have M6 := Aside0.mk M6))
    obtain ⟨vS, vF, vU, ts, bs⟩ := p6
    obtain ⟨ss, hss⟩ : ∃ ss, ss = cF.steps ++ [⟨2, 0, []⟩] := ⟨_, rfl⟩
    obtain ⟨R, hR⟩ : ∃ R, Mem w w6 R [.blk bc (.cells #[.slice A g.length cg, vS, vF, vU, .bool cF.bad] 124 (0, 0)), .row vS 77 3 ss.length (recs (ss.map Stp.cells) ts), .rows ts (clampAt ((ss.length : Int) - 1) 0 0 (ss.map Stp.tos))] := by
      have h1 := M6.out.focus [0, 1, 2] rfl
      rw [clampAt_zero, hss]
      exact ⟨_, h1⟩
    have HM := Aside0.mk hR
    have HLS : ss.length = cF.steps.length + 1 := by rw [hss]; simp
    obtain ⟨bS, cS, e, hcS, _⟩ := hR.rowForm (k := 1) rfl (by omega)
    subst e
    have HTS := Aside0.mk (show ts.length = ss.length by have := (hR.rows (k := 2) rfl).len; simpa [clampAt_length] using this)
    rw [← hss] at HCOMP
    have HBIG : ss.length ≤ 1000000000 := by omega
    have HX := Aside0.mk (show ∀ i : Nat, i < ss.length → ∀ j ≤ 2, (recs (ss.map Stp.cells) ts)[i * 3 + j]? = ((ss.map Stp.cells).getD i [] ++ [ts.getD i nilS])[j]? from fun i hi j hj => step_cell HTS.out hi hj)
    obtain ⟨X, hX⟩ : ∃ X, X = ss.map Stp.tos := ⟨_, rfl⟩
    rw [← hX] at HM
    have HXE := Aside0.mk hX
    have HXL := Aside0.mk (show X.length = ss.length by rw [hX]; simp)
    clear hR hss M5 M6 M4 e0 e1 e2 e3 k1 k4 z1 z2 z3 a1 a2 a3 hX HLS HLC
    go_loopw [6] (fun t wr => ∃ i : Nat, t = .int .i64 i ∧ i ≤ ss.length ∧ Aside0 (Mem w wr R [.blk bc (.cells #[.slice A g.length cg, .slice (some ⟨bS, 0, none⟩) ss.length cS, vF, vU, .bool cF.bad] 124 (0, 0)), .row (.slice (some ⟨bS, 0, none⟩) ss.length cS) 77 3 ss.length (recs (ss.map Stp.cells) ts), .rows ts (clampAt ((ss.length : Int) - 1) i 0 X)])) (fun t _ => ss.length - (intOf t).toNat)
    case atStart => exact ⟨0, rfl, Nat.zero_le _, HM⟩
    case round =>
      clear HM
      obtain ⟨i, rfl, hi, hM⟩ := hrel
      have k1 : wr.cell? ⟨bc, 1, none⟩ = some (.slice (some ⟨bS, 0, none⟩) ss.length cS) := hM.out.cell (k := 0) (j := 1) rfl rfl
      by_cases hlt : i < ss.length
      · have hlt' : (i : Int) < ss.length := by omega
        have HLT := Aside0.mk hlt
        have hll : (X.getD i []).length ≤ 9223372036854775807 := by
          have h1 := (hM.out.rows (k := 2) rfl).row i (by have := HTS.out; omega)
          rw [clampAt_get] at h1
          rcases h1.2 with ⟨_, h0⟩ | ⟨_, cap, _, _, _, _, h4, h5, _⟩
          · simp only [List.length_mapIdx] at h0; omega
          · simp only [List.length_mapIdx] at h4; unfold maxLen at h5; omega
        go_wp2
        go_loopw [7] (fun t wr => ∃ j : Nat, t = .int .i64 j ∧ j ≤ (X.getD i []).length ∧ Aside0 (Mem w wr R [.blk bc (.cells #[.slice A g.length cg, .slice (some ⟨bS, 0, none⟩) ss.length cS, vF, vU, .bool cF.bad] 124 (0, 0)), .row (.slice (some ⟨bS, 0, none⟩) ss.length cS) 77 3 ss.length (recs (ss.map Stp.cells) ts), .rows ts (clampAt ((ss.length : Int) - 1) i j X)])) (fun t _ => (X.getD i []).length - (intOf t).toNat)
        case atStart => exact ⟨0, rfl, Nat.zero_le _, hM⟩
        case round =>
          clear hM k1
          obtain ⟨j, rfl, hj, hM⟩ := hrel
          obtain ⟨w8, z8, M8⟩ := hM.out.drew
          have hget : (clampAt ((ss.length : Int) - 1) i j X).getD i [] = (X.getD i []).mapIdx fun b x => if b < j then min x ((ss.length : Int) - 1) else x := clampAt_get _ _ _ _
          have hgl : ((clampAt ((ss.length : Int) - 1) i j X).getD i []).length = (X.getD i []).length := by rw [hget]; simp
          obtain ⟨Ai, ni, hti, hrow⟩ := M8.rowsAt (k := 2) (i := i) rfl (by rw [clampAt_length, HXL.out]; exact HLT.out)
          rw [hgl] at hti hrow
          obtain ⟨bS', cS', e, _, hcell⟩ := M8.rowForm (k := 1) rfl (by have := HLT.out; omega)
          simp only [Value.slice.injEq, Option.some.injEq, Addr.mk.injEq, and_true, true_and] at e
          obtain ⟨rfl, rfl⟩ := e
          have r2 : w8.cell? ⟨bS, i * 3 + 2, none⟩ = some (.slice Ai (X.getD i []).length ni) := hcell _ _ ((HX.out i HLT.out 2 (Nat.le_refl _)).trans (by
            have h1 : ((ss.map Stp.cells).getD i []).length = 2 := by
              simp [List.getD_eq_getElem?_getD, HLT.out, Stp.cells]
            rw [List.getElem?_append_right (by omega), h1, hti]; rfl))
          have r2' : wr.cell? ⟨bS, i * 3 + 2, none⟩ = some (.slice Ai (X.getD i []).length ni) := by rw [← z8] at r2; exact r2
          have k1 : wr.cell? ⟨bc, 1, none⟩ = some (.slice (some ⟨bS, 0, none⟩) ss.length cS) := hM.out.cell (k := 0) (j := 1) rfl rfl
          have k1' : w8.cell? ⟨bc, 1, none⟩ = some (.slice (some ⟨bS, 0, none⟩) ss.length cS) := M8.cell (k := 0) (j := 1) rfl rfl
          by_cases hjl : j < (X.getD i []).length
          · obtain ⟨bi, rfl, hrw⟩ := hrow (by omega)
            obtain ⟨q1, q2⟩ := hrw j hjl
            have hx : ((clampAt ((ss.length : Int) - 1) i j X).getD i []).getD j 0 = (X.getD i []).getD j 0 := by
              rw [hget]
              simp [List.getD_eq_getElem?_getD, List.getElem?_mapIdx]
            rw [hx] at q1
            obtain ⟨x, hxx⟩ : ∃ x, x = (X.getD i []).getD j 0 := ⟨_, rfl⟩
            rw [← hxx] at q1
            obtain ⟨w9, z9, M9⟩ := M8.rowsPut (k := 2) (i := i) (j := j) (b := bi) (n := ni) rfl (by rw [clampAt_length, HXL.out]; exact HLT.out) (by rw [hgl]; exact hti) (min x ((ss.length : Int) - 1))
            have M10 : Mem w w9 R [.blk bc (.cells #[.slice A g.length cg, .slice (some ⟨bS, 0, none⟩) ss.length cS, vF, vU, .bool cF.bad] 124 (0, 0)), .row (.slice (some ⟨bS, 0, none⟩) ss.length cS) 77 3 ss.length (recs (ss.map Stp.cells) ts), .rows ts (clampAt ((ss.length : Int) - 1) i (j + 1) X)] := by
              have := clampAt_step ((ss.length : Int) - 1) i j X hjl
              rw [← this, ← hxx]
              exact M9
            have M10 := Aside0.mk M10
            have HJL := Aside0.mk hjl
            have hjl' : (j : Int) < (X.getD i []).length := by omega
            have hw1 : IntKind.i64.wrap ((ss.length : Int) - 1) = (ss.length : Int) - 1 := IntWalk.i64_in _ (by omega)
            clear hget hgl hti hrow hrw hcell hx hxx M8 M9 hM
            go_wp2_with (first | (rw [z8]) | (refine wp_region_txt (fun _ => True) [] (by kernel_rfl) (by kernel_rfl) ?_))
            iterate 28 (first | (with_reducible refine wpT_nil ?_) | (refine wpT_W (v := ?_) trivial (by decide) (wanted_none rfl) (fun _ hS_ => ?_) ?_; rotate_left; (focus ((try dsimp only at hS_); go_simp; rfl)); (simp only [Act.put, List.setIfInBounds_toArray, List.set_cons_zero, List.set_cons_succ])) | (refine wpT_R (v := ?_) trivial (by decide) (wanted_none rfl) ?_ ?_; rotate_left; (focus (go_simp; rfl)); (simp only [Act.put, List.setIfInBounds_toArray, List.set_cons_zero, List.set_cons_succ])) | (refine wpT_A (v := ?_) (ob := ?_) trivial (by decide) (wanted_none rfl) ?_ ?_ ?_; rotate_left 2; (focus (go_simp; first | (constructor <;> rfl) | rfl)); (focus (exact trivial)); (simp only [Act.put, List.setIfInBounds_toArray, List.set_cons_zero, List.set_cons_succ])))
            (refine wpT_L trivial (by decide) (wanted_none rfl) (fun K_ hK_ => ?_); go_simp; refine hK_ _ _ trivial ?_; clear hK_)
            refine wpT_nil ?_
            go_wp2
            go_roundw
            case rel => exact ⟨j + 1, by go_num, by have := HJL.out; omega, M10⟩
            case measure => have := HJL.out; simp [intOf]; omega
          · obtain rfl : j = (X.getD i []).length := by omega
            have M11 := Aside0.mk (show Mem w wr R [.blk bc (.cells #[.slice A g.length cg, .slice (some ⟨bS, 0, none⟩) ss.length cS, vF, vU, .bool cF.bad] 124 (0, 0)), .row (.slice (some ⟨bS, 0, none⟩) ss.length cS) 77 3 ss.length (recs (ss.map Stp.cells) ts), .rows ts (clampAt ((ss.length : Int) - 1) (i + 1) 0 X)] by rw [← clampAt_end]; exact hM.out)
            clear hget hgl hti hrow hcell M8 hM
            go_wp2
            go_roundw
            case rel => exact ⟨i + 1, by go_num, by have := HLT.out; omega, M11⟩
            case measure => have := HLT.out; simp [intOf]; omega
      · obtain rfl : i = ss.length := by omega
        go_wp2
        go_ret
        refine ⟨_, ts, rfl, ?_⟩
        rw [HCOMP.out, ← withTos_clamp, ← HXE.out]
        unfold stepsOwn
        rw [withTos_length, withTos_cells, withTos_tos _ _ (by rw [clampAt_length, HXL.out])]
        have h0 := hM.out
        rw [← List.append_nil R] at h0
        exact (Mem.sub (F' := R) h0).lose (k := 0) rfl
  · go_ret
    refine ⟨nilS, [], rfl, ?_⟩
    have : compileF g ⟨kind, node, label, kids⟩ = [] := by
      unfold compileF
      simp only []
      rw [← HCF.out, if_pos HBD.out.symm]
    rw [this]
    exact (((Mem.start w).below M5.out.hb).nilrow 77 3).norows
end Go.Proofs.Ytfiiihpdekppiaa
end
section
namespace Go.Proofs.Ytfiiihpdekppiaa
open Go.RowKit Go.Proofs Go.Proofs.YtfiiihpdekppiaaW.PrintWords
open PShapeReducible (S31 S77 k77 rd_T77 vellumref12_Next.f vellumref06_Valid.f)
def nx (ss : List S77) (a : Int) : Option Int := vellumref12_Next.f (ss.length + 2) ss a
def rTos (ss : List S77) (row : List Int) : Nat → List Int → List Int → Option (Option (List Int))
  | _, [], st => some (some st)
  | j, t :: ts, st => (nx ss t).bind fun m =>
    if m < 0 then some none
    else if m < ss.length ∧ j < row.length ∧ st.length < 1000000000 then
      if (rd_T77 ss m).f1 ≠ row.getD j 0 then some none else rTos ss row (j + 1) ts (m :: st)
    else none
def rChk (ss : List S77) (g : List (List Int)) : Nat → List Bool → List Int → Option Bool
  | 0, _, _ => none
  | _ + 1, _, [] => some true
  | k + 1, seen, n :: st =>
    if 0 ≤ n ∧ n < ss.length then
      if seen.getD n.toNat false = true then rChk ss g k seen st
      else if 0 ≤ (rd_T77 ss n).f1 ∧ (rd_T77 ss n).f1 < g.length then
        (rTos ss (g.getD (rd_T77 ss n).f1.toNat []) 0 (rd_T77 ss n).f2 st).bind fun r =>
          match r with
          | none => some false
          | some st' => rChk ss g k (seen.set n.toNat true) st'
      else none
    else none
def rCheckS (ss : List S77) (g : List (List Int)) (k : Nat) : Option Bool :=
  if ss.length = 0 then some false
  else (nx ss 0).bind fun f =>
    if f < 0 then some false
    else if f < ss.length then (if (rd_T77 ss f).f1 ≠ 0 then some false else rChk ss g k (List.replicate ss.length false) [f])
    else none
def RefValidIs (g : List (List Int)) (b : Bool) : Prop := ∃ k, vellumref06_Valid.f k g = some b
def RefCheckIs (s : S31) (g : List (List Int)) (b : Bool) : Prop :=
  (RefValidIs g false ∧ b = false) ∨ (RefValidIs g true ∧ g.length ≤ 1000000000 ∧ szL s.f3 ≤ 100000000 ∧ ∃ k, rCheckS ((compileF g s).map Stp.s77) g k = some b)
def modI (a m : Int) : Int := Int.tmod (wrap64 (Int.tmod a m + m)) m
def rExe (ss : List S77) (ch : List Int) : Nat → Nat → Int → List Int → Option (List Int)
  | 0, _, _, _ => none
  | q + 1, k, at_, out =>
    if at_ < 0 then some out
    else if at_ < ss.length ∧ k ≤ 1000 ∧ (rd_T77 ss at_).f2.length ≤ 1000000000 then
      if ch.length ≤ k ∨ 200 ≤ k ∨ (rd_T77 ss at_).f2.length = 0 then some (out ++ [(rd_T77 ss at_).f1])
      else (nx ss ((rd_T77 ss at_).f2.getD (modI (ch.getD k 0) (rd_T77 ss at_).f2.length).toNat 0)).bind fun m => rExe ss ch q (k + 1) m (out ++ [(rd_T77 ss at_).f1])
    else none
def rExecS (ss : List S77) (ch : List Int) : Option (List Int) := if ss.length = 0 then some [] else (nx ss 0).bind fun f => rExe ss ch 202 0 f []
end Go.Proofs.Ytfiiihpdekppiaa
end
section
namespace Go.Proofs.Ytfiiihpdekppiaa
open Go.RowKit Go.Proofs Go.Proofs.YtfiiihpdekppiaaW.PrintWords
open Go.ChangeMaps (setBlock heap_setBlock_same heap_setBlock_other)
open PShapeReducible (S31 k31 at_T31 rd_T31 S77 k77 at_T77 rd_T77)
section
variable {w0 w w' : World} {F H L : List Pc}
theorem Mem.call (M : Mem w0 w F H) (N : Mem w w' [] L) : Mem w0 w' F (H ++ L) := by
  have M1 : MemL w0 w' (H ++ F) := M.below N.hb
  have hN : MemL w w' L := by have := N; unfold Mem at this; rwa [List.append_nil] at this
  have hsz := M.size
  have : MemL w0 w' (L ++ (H ++ F)) := by
    refine ⟨M1.hb, ?_, ?_, ?_⟩
    · intro c hc
      rcases List.mem_append.1 hc with hc | hc
      · exact hN.says c hc
      · exact M1.says c hc
    · intro c hc b hb
      rcases List.mem_append.1 hc with hc | hc
      · have := hN.base c hc b hb; omega
      · exact M1.base c hc b hb
    · refine List.pairwise_append.2 ⟨hN.apart, M1.apart, fun c hc d hd b h1 h2 => ?_⟩
      have h3 := hN.base c hc b h1
      have h4 := d.lt (MemL.says M d hd) h2
      omega
  refine MemL.perm this ?_
  rw [List.append_assoc, ← List.append_assoc L]
  rw [← List.append_assoc]
  exact List.Perm.append_right F List.perm_append_comm
theorem Mem.rowBool {k n i : Nat} {v : Value} {xs : List Bool} (h : Mem w0 w F H) (hk : H[k]? = some (.row v 4 1 n (bools xs))) (hn : n = xs.length) (hi : i < xs.length) : ∃ b c, v = .slice (some ⟨b, 0, none⟩) xs.length c ∧ w.cell? ⟨b, i, none⟩ = some (.bool (xs.getD i false)) ∧ w.frozen? ⟨b, i, none⟩ = false := by
  subst hn
  have ho := h.row hk
  obtain ⟨b, c, rfl, _⟩ := ho.form (by omega)
  exact ⟨b, c, rfl, own_cell ho i hi (by simp [bools, List.getD_eq_getElem?_getD, hi]), ho.frozenAt i⟩
end
theorem compileF_len (g : List (List Int)) (s : S31) : (compileF g s).length ≤ 2 * szF s := by
  unfold compileF
  simp only []
  split
  · simp
  · have := shapeF_st g s ⟨[], [], [], false⟩
    simp only [List.length_nil] at this
    simp [clampT, Cs.emit]
    omega
theorem cell_of_drew {w w2 : World} {a : Addr} {v : Value} (e : w.drew = w2) (h : w.cell? a = some v) : w2.cell? a = some v := by rw [← e]; exact h
theorem step_at {w : World} {A : Option Addr} {xs : List S77} (h : k77.C w A xs.length xs) (i : Nat) (hi : i < xs.length) : ∃ ad A2 c2, A = some ad ∧ w.cell? (ad.add (i * 3)) = some (.int .i64 (rd_T77 xs i).f0) ∧ w.cell? ⟨(ad.add (i * 3)).block, (ad.add (i * 3)).off + 1, none⟩ = some (.int .i64 (rd_T77 xs i).f1) ∧
    w.cell? ⟨(ad.add (i * 3)).block, (ad.add (i * 3)).off + 2, none⟩ = some (.slice A2 (rd_T77 xs i).f2.length c2) ∧ (rd_T77 xs i).f2.length ≤ c2 ∧ kI.C w A2 (rd_T77 xs i).f2.length (rd_T77 xs i).f2 := by
  have := at_T77 h (i : Int) (by omega) (by omega)
  simpa using this
theorem mem_makeB {P : Program} {ops : Array Oper} {rest_ : List Oper} {o : Oper} {a : Act} {Q : Exit → Act → World → Prop} {w0 W : World} {F H : List Pc} (hgd : o.guard = none) {N : Tmp} (hd : o.dst = some N) (t : TypeId) (x : Operand)
    (ho : o.op = .makeSlice t x x) (n : Nat) (hx : a.eval x = .int .i64 n) (ht : P.underlying t = some (.slice 4)) (hinfo : (P.info? 4).map (fun i => (i.zero, i.size, i.bytes)) = some (some (.bool false), 1, 1)) (hl : n ≤ 1000000000)
    (M : Mem w0 W F H) (h : ∀ A c w1, Mem w0 w1 F (H ++ [.row (.slice A n c) 4 1 n (bools (List.replicate n false))]) → wpList P ops Q rest_ (a.put o.dst (.slice A n c)) w1) :
    wpList P ops Q (o :: rest_) a W := by
  refine Kd.R_make Kd.bool (w0 := W) W.heap.size 4 hgd hd t x x ho (n : Int) hx hx ht (.bool false) 1 hinfo rfl (by decide) (by decide) false (ok := fun _ => True) (okp := fun _ => True) rfl (fun _ h => h) trivial (by omega) (by omega) (Below.refl _ _) (Nat.le_refl _) ?_
  intro v1 w1 hr hb hg ⟨b, hv1, hv2⟩
  have ho1 : w1.ownsRow W.heap.size 4 1 v1 n (bools (List.replicate n false)) := by
    have := Kd.own_of_R hr
    simpa [bools, encs] using this
  obtain ⟨A, c, rfl⟩ := own_slice ho1
  exact h A c w1 (M.newrow hb ho1 (fun k hk => own_base ho1 k hk))
set_option maxRecDepth 100000 in
set_option maxHeartbeats 4000000 in
theorem rcheck_any (w : World) (A : Option Addr) (n cg : Nat) (g : List (List Int)) (kind node label : Int) (kids : List S31) (b : Bool) (hG : kG.C w A g.length g) (hgc : g.length ≤ cg) (A3 : Option Addr) (hK : k31.C w A3 kids.length kids) (hn : kids.length ≤ n)
    (h : RefCheckIs ⟨kind, node, label, kids⟩ g b) :
    Calls Try.prog 22 #[.agg #[.int .i64 kind, .int .i64 node, .int .i64 label, .slice A3 kids.length n], .agg #[.slice A g.length cg]] w fun e w' => e = .returned (.bool b) ∧ Below w.heap.size w w' := by
  obtain ⟨b2, w1, z1, a1, M1⟩ := (Mem.start w).alloc (.cells #[.int .i64 kind, .int .i64 node, .int .i64 label, .slice A3 kids.length n] 31)
  obtain ⟨b3, w2, z2, a2, M2⟩ := M1.alloc (.cells #[.slice A g.length cg] 27)
  have k1 := M2.cell (k := 1) (j := 0) rfl rfl
  have HG := Aside0.mk hG
  have HK := Aside0.mk hK
  have M2 := Aside0.mk M2
  clear hG hK M1
  rcases h with ⟨⟨kv, hv⟩, rfl⟩ | ⟨⟨kv, hv⟩, hg9, hsz, k, hk⟩
  · have HV := Aside0.mk hv
    clear hv
    go_enter Try.func22, Try.ntmps22
    go_wp2_with (go_at_call 43; refine (PShapeReducible.vellumref06_Valid.calls kv A cg g false w2 (Kd.C_below HG.out M2.out.hb) hgc HV.out).mono ?_; rintro e w3 ⟨rfl, hb3⟩; have M3 := Aside0.mk (M2.out.below hb3); clear hb3)
    go_ret
    exact ⟨rfl, M3.out.hb⟩
  · have HV := Aside0.mk hv
    have HN := Aside0.mk hn
    have HSZ := Aside0.mk hsz
    have HGC := Aside0.mk hgc
    obtain ⟨L, hL⟩ : ∃ L, L = compileF g ⟨kind, node, label, kids⟩ := ⟨_, rfl⟩
    obtain ⟨SS, hSS⟩ : ∃ SS, SS = L.map Stp.s77 := ⟨_, rfl⟩
    have hs : rCheckS SS g k = some b := by rw [hSS, hL]; exact hk
    have HLL := Aside0.mk hL
    have HSE := Aside0.mk hSS
    have e0 := M2.out.cell (k := 0) (j := 0) rfl rfl
    have e1 := M2.out.cell (k := 0) (j := 1) rfl rfl
    have e2 := M2.out.cell (k := 0) (j := 2) rfl rfl
    have e3 := M2.out.cell (k := 0) (j := 3) rfl rfl
    clear hv hk hL hSS hn hsz e0 e1 e2 e3
    unfold rCheckS at hs
    by_cases hz : SS.length = 0
    · rw [if_pos hz] at hs
      have hz' : ((SS.length : Int) == 0) = true := by simp [hz]
      have HB := Aside0.mk (Option.some.inj hs)
      clear hz hs
      go_enter Try.func22, Try.ntmps22
      go_wp2_with (first
        | (go_at_call 43; refine (PShapeReducible.vellumref06_Valid.calls kv A cg g true w2 (Kd.C_below HG.out M2.out.hb) hgc HV.out).mono ?_; rintro e w3 ⟨rfl, hb3⟩; have M3 := M2.out.below hb3; have k1' := M3.cell (k := 1) (j := 0) rfl rfl; have e0 := M3.cell (k := 0) (j := 0) rfl rfl; have e1 := M3.cell (k := 0) (j := 1) rfl rfl; have e2 := M3.cell (k := 0) (j := 2) rfl rfl; have e3 := M3.cell (k := 0) (j := 3) rfl rfl; have M3 := Aside0.mk M3; clear hb3)
        | (go_at_call 45; refine (compile_any w3 A cg n cg g kind node label kids (Kd.C_below HG.out M3.out.hb) hg9 HGC.out A3 (Kd.C_below HK.out M3.out.hb) HN.out HSZ.out).mono ?_; rintro e w4 ⟨v, ts, rfl, M4⟩; rw [← HLL.out] at M4; have M5 := M3.out.call M4; clear M4; obtain ⟨As, ns, rfl, hns, hCs⟩ := M5.stepsC (k := 2) (j := 3) rfl rfl; rw [← HSE.out] at hns hCs M5; have HNS := Aside0.mk hns; have HCS := Aside0.mk hCs; have hLs : L.length = SS.length := (by rw [HSE.out]; simp); clear hns hCs; rw [← HSE.out]; have M5 := Aside0.mk M5))
      go_ret
      exact ⟨by rw [← HB.out]; rfl, M5.out.hb⟩
    rw [if_neg hz] at hs
    have hz' : ((SS.length : Int) == 0) = false := by simpa using hz
    obtain ⟨f, hf, hs⟩ := Option.bind_eq_some_iff.1 hs
    have HF := Aside0.mk hf
    unfold nx at HF
    by_cases hneg : f < 0
    · rw [if_pos hneg] at hs
      have HB := Aside0.mk (Option.some.inj hs)
      clear hz hs hf
      go_enter Try.func22, Try.ntmps22
      go_wp2_with (first
        | (go_at_call 43; refine (PShapeReducible.vellumref06_Valid.calls kv A cg g true w2 (Kd.C_below HG.out M2.out.hb) hgc HV.out).mono ?_; rintro e w3 ⟨rfl, hb3⟩; have M3 := M2.out.below hb3; have k1' := M3.cell (k := 1) (j := 0) rfl rfl; have e0 := M3.cell (k := 0) (j := 0) rfl rfl; have e1 := M3.cell (k := 0) (j := 1) rfl rfl; have e2 := M3.cell (k := 0) (j := 2) rfl rfl; have e3 := M3.cell (k := 0) (j := 3) rfl rfl; have M3 := Aside0.mk M3; clear hb3)
        | (go_at_call 45; refine (compile_any w3 A cg n cg g kind node label kids (Kd.C_below HG.out M3.out.hb) hg9 HGC.out A3 (Kd.C_below HK.out M3.out.hb) HN.out HSZ.out).mono ?_; rintro e w4 ⟨v, ts, rfl, M4⟩; rw [← HLL.out] at M4; have M5 := M3.out.call M4; clear M4; obtain ⟨As, ns, rfl, hns, hCs⟩ := M5.stepsC (k := 2) (j := 3) rfl rfl; rw [← HSE.out] at hns hCs M5; have HNS := Aside0.mk hns; have HCS := Aside0.mk hCs; have hLs : L.length = SS.length := (by rw [HSE.out]; simp); clear hns hCs; rw [← HSE.out]; have M5 := Aside0.mk M5)
        | (go_at_call 46; refine (PShapeReducible.vellumref12_Next.calls _ As ns SS 0 f w4 HCS.out HNS.out HF.out).mono ?_; rintro e w6 ⟨rfl, hd6⟩; have M6 := Aside0.mk (M5.out.drawn hd6); clear hd6))
      go_ret
      exact ⟨by rw [← HB.out]; rfl, M6.out.hb⟩
    rw [if_neg hneg] at hs
    have hfl : f < SS.length := Classical.byContradiction fun hc => by rw [if_neg hc] at hs; cases hs
    rw [if_pos hfl] at hs
    obtain ⟨f, rfl⟩ : ∃ q : Nat, f = q := ⟨f.toNat, by omega⟩
    have hf0 : ¬ ((f : Int) < 0) := hneg
    have HFL := Aside0.mk (show f < SS.length by omega)
    obtain ⟨fn, hfn⟩ : ∃ fn, fn = (rd_T77 SS f).f1 := ⟨_, rfl⟩
    rw [← hfn] at hs
    have HFN := Aside0.mk hfn
    by_cases hnz : fn ≠ 0
    · rw [if_pos hnz] at hs
      have HB := Aside0.mk (Option.some.inj hs)
      have hnz' : (fn != 0) = true := by simpa using hnz
      clear hz hs hf hneg hnz hfn
      go_enter Try.func22, Try.ntmps22
      go_wp2_with (first
        | (go_at_call 43; refine (PShapeReducible.vellumref06_Valid.calls kv A cg g true w2 (Kd.C_below HG.out M2.out.hb) hgc HV.out).mono ?_; rintro e w3 ⟨rfl, hb3⟩; have M3 := M2.out.below hb3; have k1' := M3.cell (k := 1) (j := 0) rfl rfl; have e0 := M3.cell (k := 0) (j := 0) rfl rfl; have e1 := M3.cell (k := 0) (j := 1) rfl rfl; have e2 := M3.cell (k := 0) (j := 2) rfl rfl; have e3 := M3.cell (k := 0) (j := 3) rfl rfl; have M3 := Aside0.mk M3; clear hb3)
        | (go_at_call 45; refine (compile_any w3 A cg n cg g kind node label kids (Kd.C_below HG.out M3.out.hb) hg9 HGC.out A3 (Kd.C_below HK.out M3.out.hb) HN.out HSZ.out).mono ?_; rintro e w4 ⟨v, ts, rfl, M4⟩; rw [← HLL.out] at M4; have M5 := M3.out.call M4; clear M4; obtain ⟨As, ns, rfl, hns, hCs⟩ := M5.stepsC (k := 2) (j := 3) rfl rfl; rw [← HSE.out] at hns hCs M5; have HNS := Aside0.mk hns; have HCS := Aside0.mk hCs; have hLs : L.length = SS.length := (by rw [HSE.out]; simp); clear hns hCs; rw [← HSE.out]; have M5 := Aside0.mk M5)
        | (go_at_call 46; refine (PShapeReducible.vellumref12_Next.calls _ As ns SS 0 f w4 HCS.out HNS.out HF.out).mono ?_; rintro e w6 ⟨rfl, hd6⟩; have M6 := M5.out.drawn hd6; obtain ⟨ads, A2, c2, eAs, g0, g1, g2, hc2, hC2⟩ := step_at (Kd.C_below HCS.out hd6.below) f HFL.out; subst eAs; rw [← HFN.out] at g1; have HCS6 := Aside0.mk (Kd.C_below HCS.out hd6.below); have M6 := Aside0.mk M6; clear hd6 hC2 hc2))
      go_ret
      exact ⟨by rw [← HB.out]; rfl, M6.out.hb⟩
    rw [if_neg hnz] at hs
    have hnz' : fn = 0 := by simpa using hnz
    subst hnz'
    have HS := Aside0.mk hs
    have hN9 : SS.length ≤ 1000000000 := by
      have := compileF_len g ⟨kind, node, label, kids⟩
      rw [HSE.out, HLL.out, List.length_map]
      have := HSZ.out
      rw [szF_eq] at *
      simp only [] at *
      omega
    clear hz hs hf hneg hnz hfn
    go_enter Try.func22, Try.ntmps22
    go_wp2_with (first
      | (go_at_call 43; refine (PShapeReducible.vellumref06_Valid.calls kv A cg g true w2 (Kd.C_below HG.out M2.out.hb) hgc HV.out).mono ?_; rintro e w3 ⟨rfl, hb3⟩; have M3 := M2.out.below hb3; have k1' := M3.cell (k := 1) (j := 0) rfl rfl; have e0 := M3.cell (k := 0) (j := 0) rfl rfl; have e1 := M3.cell (k := 0) (j := 1) rfl rfl; have e2 := M3.cell (k := 0) (j := 2) rfl rfl; have e3 := M3.cell (k := 0) (j := 3) rfl rfl; have M3 := Aside0.mk M3; clear hb3)
      | (go_at_call 45; refine (compile_any w3 A cg n cg g kind node label kids (Kd.C_below HG.out M3.out.hb) hg9 HGC.out A3 (Kd.C_below HK.out M3.out.hb) HN.out HSZ.out).mono ?_; rintro e w4 ⟨v, ts, rfl, M4⟩; rw [← HLL.out] at M4; have M5 := M3.out.call M4; clear M4; obtain ⟨As, ns, rfl, hns, hCs⟩ := M5.stepsC (k := 2) (j := 3) rfl rfl; rw [← HSE.out] at hns hCs M5; have HNS := Aside0.mk hns; have HCS := Aside0.mk hCs; have hLs : L.length = SS.length := (by rw [HSE.out]; simp); clear hns hCs; rw [← HSE.out]; have M5 := Aside0.mk M5)
      | (go_at_call 46; refine (PShapeReducible.vellumref12_Next.calls _ As ns SS 0 f w4 HCS.out HNS.out HF.out).mono ?_; rintro e w6 ⟨rfl, hd6⟩; have M6 := M5.out.drawn hd6; obtain ⟨ads, A2, c2, eAs, g0, g1, g2, hc2, hC2⟩ := step_at (Kd.C_below HCS.out hd6.below) f HFL.out; subst eAs; rw [← HFN.out] at g1; have HCS6 := Aside0.mk (Kd.C_below HCS.out hd6.below); have M6 := Aside0.mk M6; clear hd6 hC2 hc2)
      | ((with_reducible refine gate_dst (N := 37) rfl ?_); refine mem_makeB rfl (N := 37) rfl 52 _ rfl SS.length rfl Try.underlying52 info4' hN9 M6.out ?_; intro As7 cs7 w7 M7; obtain ⟨b8, w8, z8, a8, M8⟩ := M7.one (f : Int); have M8 := Aside0.mk M8; clear M7))
    clear k1 k1' e0 e1 e2 e3 g0 g1 g2 z1 z2 a1 a2 z8 a8 M2 hf0
    obtain ⟨b7, c7, e7, hc7, _⟩ := M8.out.rowForm (k := 4) rfl (by have := HFL.out; omega)
    injection e7 with e7a _ e7c
    subst e7a e7c
    go_loopg [9] k (fun kq v9 wr => ∃ (seen : List Bool) (st : List Int), Aside0 (rChk SS g kq seen st = some b) ∧ Aside0 (seen.length = SS.length) ∧ Aside0 (Mem w wr [] [.blk b2 (.cells #[.int .i64 kind, .int .i64 node, .int .i64 label, .slice A3 kids.length n] 31 (0, 0)), .blk b3 (.cells #[.slice A g.length cg] 27 (0, 0)), .row (.slice (some ads) SS.length ns) 77 3 L.length (recs (L.map Stp.cells) ts), .rows ts (L.map Stp.tos), .row (.slice (some ⟨b7, 0, none⟩) SS.length cs7) 4 1 SS.length (bools seen), .row v9 3 1 st.length (nums .i64 st.reverse)]))
    case atStart => exact ⟨List.replicate SS.length false, [(f : Int)], HS, ⟨by simp⟩, M8⟩
    case round =>
      clear M8 HS HF
      obtain ⟨seen, st, hH, hSL, hM⟩ := hrel
      have h := hH.out
      cases hk : gk with
      | zero => rw [hk] at h; simp [rChk] at h
      | succ gk' =>
        rw [hk] at h
        have HK' := Aside0.mk hk
        clear hH hk
        match st, h, hM with
        | [], h, hM =>
          have HB := Aside0.mk (show true = b by simpa [rChk] using h)
          obtain ⟨A9, c9, rfl, _⟩ := hM.out.rowSlice' (k := 5) rfl
          clear h
          go_wp2
          go_ret
          exact ⟨by rw [← HB.out]; rfl, hM.out.hb⟩
        | x :: st, h, hM =>
          obtain ⟨b9, c9, rfl, hcap, hcell⟩ := hM.out.rowForm (k := 5) rfl (by simp)
          have hl9 : st.length + 1 ≤ 9223372036854775807 := own_len (hM.out.row (k := 5) rfl)
          have hcap : st.length + 1 ≤ c9 := hcap
          have q9 : wr.cell? ⟨b9, st.length, none⟩ = some (.int .i64 x) := hcell _ _ (by simp [nums])
          have hcut := hM.out.rowCut (k := 5) st.length rfl (by simp)
          have hM2 : Mem w wr [] [.blk b2 (.cells #[.int .i64 kind, .int .i64 node, .int .i64 label, .slice A3 kids.length n] 31 (0, 0)), .blk b3 (.cells #[.slice A g.length cg] 27 (0, 0)), .row (.slice (some ads) SS.length ns) 77 3 L.length (recs (L.map Stp.cells) ts), .rows ts (L.map Stp.tos), .row (.slice (some ⟨b7, 0, none⟩) SS.length cs7) 4 1 SS.length (bools seen), .row (.slice (some ⟨b9, 0, none⟩) st.length c9) 3 1 st.length (nums .i64 st.reverse)] := by
            have e : (nums .i64 (x :: st).reverse).take (st.length * 1) = nums .i64 st.reverse := by
              rw [List.reverse_cons, nums_append, Nat.mul_one, List.take_append_of_le_length (by simp [nums_length]), List.take_of_length_le (by simp [nums_length])]
            rw [← e]
            exact hcut
          have HM2 := Aside0.mk hM2
          rw [rChk] at h
          have hxr : 0 ≤ x ∧ x < SS.length := Classical.byContradiction fun hc => by rw [if_neg hc] at h; cases h
          rw [if_pos hxr] at h
          obtain ⟨x, rfl⟩ : ∃ q : Nat, x = q := ⟨x.toNat, by omega⟩
          have hx : x < SS.length := by omega
          rw [Int.toNat_natCast] at h
          obtain ⟨b7', c7', e7, q7, f7⟩ := hM2.rowBool (k := 4) (i := x) rfl hSL.out.symm (by rw [hSL.out]; exact hx)
          rw [hSL.out] at e7
          obtain rfl : b7 = b7' := by injection e7 with e7a _ _; injection e7a with e7b; injection e7b
          clear e7
          have hxl : (x : Int) < SS.length := hxr.2
          have HX := Aside0.mk hx
          cases hsn : seen.getD x false with
          | true =>
            rw [if_pos hsn] at h
            rw [hsn] at q7
            have HH := Aside0.mk h
            clear h hsn hM hM2 hcell hcut hx hxr
            go_wp2
            go_roundg gk'
            case measure => have := HK'.out; omega
            case rel => exact ⟨seen, st, HH, hSL, HM2⟩
          | false =>
            rw [if_neg (by rw [hsn]; decide)] at h
            rw [hsn] at q7
            have hnode : 0 ≤ (rd_T77 SS x).f1 ∧ (rd_T77 SS x).f1 < g.length := Classical.byContradiction fun hc => by rw [if_neg hc] at h; cases h
            rw [if_pos hnode] at h
            obtain ⟨nd, hnd⟩ : ∃ q : Nat, (rd_T77 SS x).f1 = q := ⟨(rd_T77 SS x).f1.toNat, by omega⟩
            rw [hnd, Int.toNat_natCast] at h
            obtain ⟨tos, htos⟩ : ∃ tos, tos = (rd_T77 SS x).f2 := ⟨_, rfl⟩
            rw [← htos] at h
            obtain ⟨row, hrow⟩ : ∃ row, row = g.getD nd [] := ⟨_, rfl⟩
            rw [← hrow] at h
            obtain ⟨rr, hr1, hr2⟩ := Option.bind_eq_some_iff.1 h
            obtain ⟨w10, s10, M10⟩ := hM2.rowPut (k := 4) x rfl (.bool true)
            have M11 : Mem w w10 [] [.blk b2 (.cells #[.int .i64 kind, .int .i64 node, .int .i64 label, .slice A3 kids.length n] 31 (0, 0)), .blk b3 (.cells #[.slice A g.length cg] 27 (0, 0)), .row (.slice (some ads) SS.length ns) 77 3 L.length (recs (L.map Stp.cells) ts), .rows ts (L.map Stp.tos), .row (.slice (some ⟨b7, 0, none⟩) SS.length cs7) 4 1 SS.length (bools (seen.set x true)), .row (.slice (some ⟨b9, 0, none⟩) st.length c9) 3 1 st.length (nums .i64 st.reverse)] := by
              have e : bools (seen.set x true) = (bools seen).set x (.bool true) := by simp [bools, List.map_set]
              rw [e]
              exact M10
            have M11 := Aside0.mk M11
            have HR1 := Aside0.mk hr1
            have HR2 := Aside0.mk hr2
            have HND := Aside0.mk hnd
            have HNL := Aside0.mk (show nd < g.length by omega)
            have HTOS := Aside0.mk htos
            have HROW := Aside0.mk hrow
            clear h hsn hM hM2 hcell hcut hx hxr hnode hr1 hr2 hrow htos hnd M10
            go_wp2
            clear q7 f7 q9 s10
            go_loopw [9, 11] (fun v9 t wr => ∃ (j : Nat) (st' : List Int), t = .int .i64 j ∧ j ≤ tos.length ∧ Aside0 (rTos SS row j (tos.drop j) st' = some rr) ∧ Aside0 (Mem w wr [] [.blk b2 (.cells #[.int .i64 kind, .int .i64 node, .int .i64 label, .slice A3 kids.length n] 31 (0, 0)), .blk b3 (.cells #[.slice A g.length cg] 27 (0, 0)), .row (.slice (some ads) SS.length ns) 77 3 L.length (recs (L.map Stp.cells) ts), .rows ts (L.map Stp.tos), .row (.slice (some ⟨b7, 0, none⟩) SS.length cs7) 4 1 SS.length (bools (seen.set x true)), .row v9 3 1 st'.length (nums .i64 st'.reverse)])) (fun _ t _ => tos.length - (intOf t).toNat)
            case atStart => exact ⟨0, st, rfl, Nat.zero_le _, HR1, M11⟩
            case round =>
              clear M11 HM2
              obtain ⟨j, st', rfl, hj, hT, hM⟩ := hrel
              obtain ⟨A9, c9', rfl, hc9⟩ := hM.out.rowSlice' (k := 5) rfl
              obtain ⟨A', n', e', hn', hC'⟩ := hM.out.stepsC (k := 2) (j := 3) rfl rfl
              rw [← HSE.out] at hn' hC' e'
              obtain ⟨ads', A2, c2, e2, g0, g1, g2, hc2, hC2⟩ := step_at hC' x HX.out
              subst e2
              obtain rfl : ads = ads' := by injection e' with e'' _ _; injection e''
              clear e' hC' g0
              rw [HND.out] at g1
              rw [← HTOS.out] at g2 hc2 hC2
              have htl : tos.length ≤ 9223372036854775807 := hC2.2.1
              have ht := hT.out
              by_cases hjl : j < tos.length
              · have hjl' : (j : Int) < tos.length := by omega
                have HJL := Aside0.mk hjl
                obtain ⟨tt, htt⟩ : ∃ tt, tt = tos[j] := ⟨_, rfl⟩
                rw [List.drop_eq_getElem_cons hjl, ← htt, rTos] at ht
                obtain ⟨mm, hm1, hm2⟩ := Option.bind_eq_some_iff.1 ht
                obtain ⟨ad2, rfl, q2⟩ := C_num hC2 j hjl
                rw [show tos.getD j 0 = tt by rw [htt, List.getD_eq_getElem?_getD, List.getElem?_eq_getElem hjl]; rfl] at q2
                have HM1 := Aside0.mk hm1
                unfold nx at HM1
                have HCSr := Aside0.mk (show k77.C wr (some ads) SS.length SS from by
                  obtain ⟨A', n', e', hn', hC'⟩ := hM.out.stepsC (k := 2) (j := 3) rfl rfl
                  rw [← HSE.out] at hn' hC' e'
                  injection e' with e'' _ _
                  rw [e'']; exact hC')
                by_cases hmn : mm < 0
                · rw [if_pos hmn] at hm2
                  have hrr := (Option.some.inj hm2).symm
                  subst hrr
                  have HB := Aside0.mk (show false = b by simpa using HR2.out)
                  clear hm1 hm2 ht htt hC2 hc2 hn' hT hjl
                  go_wp2_with (first
                    | (go_at_call 46; refine (PShapeReducible.vellumref12_Next.calls _ (some ads) ns SS tt mm wr HCSr.out HNS.out HM1.out).mono ?_; rintro e w12 ⟨rfl, hd12⟩; have M12 := Aside0.mk (hM.out.drawn hd12); clear hd12)
                    | (refine wp_region_txt (fun _ => True) [] (by kernel_rfl) (by kernel_rfl) ?_) | (with_reducible refine wpT_nil ?_) | (refine wpT_W (v := ?_) trivial (by decide) (by first | exact wanted_none rfl | rfl) (fun _ hS_ => ?_) ?_; rotate_left; (focus ((try dsimp only at hS_); go_simp; rfl)); (simp only [Act.put, List.setIfInBounds_toArray, List.set_cons_zero, List.set_cons_succ])) | (refine wpT_R (v := ?_) trivial (by decide) (by first | exact wanted_none rfl | rfl) ?_ ?_; rotate_left; (focus (go_simp; rfl)); (simp only [Act.put, List.setIfInBounds_toArray, List.set_cons_zero, List.set_cons_succ])) | (refine wpT_A (v := ?_) (ob := ?_) trivial (by decide) (by first | exact wanted_none rfl | rfl) ?_ ?_ ?_; rotate_left 2; (focus (go_simp; first | (constructor <;> rfl) | rfl)); (focus (exact trivial)); (simp only [Act.put, List.setIfInBounds_toArray, List.set_cons_zero, List.set_cons_succ])) | (refine wpT_no trivial rfl (by decide) ?_; (simp only [Act.put, List.setIfInBounds_toArray, List.set_cons_zero, List.set_cons_succ])))
                  go_ret
                  exact ⟨by rw [← HB.out]; rfl, M12.out.hb.drew⟩
                · rw [if_neg hmn] at hm2
                  have hmr : mm < SS.length ∧ j < row.length ∧ st'.length < 1000000000 := Classical.byContradiction fun hc => by rw [if_neg hc] at hm2; cases hm2
                  rw [if_pos hmr] at hm2
                  obtain ⟨mm, rfl⟩ : ∃ q : Nat, mm = q := ⟨mm.toNat, by omega⟩
                  obtain ⟨nm, hnm⟩ : ∃ nm, nm = (rd_T77 SS mm).f1 := ⟨_, rfl⟩
                  rw [← hnm] at hm2
                  have hmn' : ¬ ((mm : Int) < 0) := hmn
                  have HMM := Aside0.mk (show mm < SS.length by omega)
                  have hmm' : (mm : Int) < SS.length := hmr.1
                  have HST := Aside0.mk hmr.2.2
                  obtain ⟨ga, Ar, cr, rfl, j1, hcr, hr⟩ := C_row (Kd.C_below HG.out hM.out.hb) nd HNL.out
                  rw [← HROW.out] at j1 hcr hr
                  obtain ⟨ad5, rfl, j2⟩ := C_num hr j hmr.2.1
                  obtain ⟨yy, hyy⟩ : ∃ yy, yy = row.getD j 0 := ⟨_, rfl⟩
                  rw [← hyy] at hm2 j2
                  have hjr : (j : Int) < row.length := by omega
                  have hndl : (nd : Int) < g.length := by have := HNL.out; omega
                  have HNM := Aside0.mk hnm
                  have J := Aside0.mk (And.intro j1 (And.intro j2 g1))
                  have N46 : ∀ w12, Drawn0 wr w12 → ∃ A5 c5, w12.cell? ⟨(ads.add (mm * 3)).block, (ads.add (mm * 3)).off + 1, none⟩ = some (.int .i64 nm) ∧ w12.cell? ⟨(ads.add (x * 3)).block, (ads.add (x * 3)).off + 1, none⟩ = some (.int .i64 nd) ∧ w12.cell? (ga.add nd) = some (.slice (some ad5) row.length cr) ∧ w12.cell? (ad5.add j) = some (.int .i64 yy) ∧ w12.cell? ⟨b3, 0, none⟩ = some (.slice (some ga) g.length cg) ∧ A5 = 0 ∧ c5 = 0 := by
                    intro w12 hd
                    obtain ⟨ads', A2, c2, e2, _, h1, _⟩ := step_at (Kd.C_below HCSr.out hd.below) mm HMM.out
                    obtain rfl : ads = ads' := by injection e2
                    rw [← HNM.out] at h1
                    exact ⟨0, 0, h1, pw_cell_below hd.below J.out.2.2, pw_cell_below hd.below J.out.1, pw_cell_below hd.below J.out.2.1, (hM.out.drawn hd).cell (k := 1) (j := 0) rfl rfl, rfl, rfl⟩
                  have N46 := Aside0.mk N46
                  by_cases hne : nm ≠ yy
                  · rw [if_pos hne] at hm2
                    have hrr := (Option.some.inj hm2).symm
                    subst hrr
                    have HB := Aside0.mk (show false = b by simpa using HR2.out)
                    have hne' : (nm != yy) = true := by simpa using hne
                    clear hm1 hm2 ht htt hC2 hc2 hn' hT hjl hmn hmr hnm hyy hcr hr hne j1 j2 g1
                    go_wp2_with (first
                      | (go_at_call 46; refine (PShapeReducible.vellumref12_Next.calls _ (some ads) ns SS tt mm wr HCSr.out HNS.out HM1.out).mono ?_; rintro e w12 ⟨rfl, hd12⟩; have M12 := hM.out.drawn hd12; obtain ⟨_, _, t1, t2, t3, t4, t5, _⟩ := N46.out w12 hd12; obtain ⟨w13, z13, M13⟩ := M12.drew; have t1' := cell_of_drew z13 t1; have t2' := cell_of_drew z13 t2; have t3' := cell_of_drew z13 t3; have t4' := cell_of_drew z13 t4; have t5' := cell_of_drew z13 t5; have M13 := Aside0.mk M13; clear hd12 M12)
                      | (rw [z13]) | (refine wp_region_txt (fun _ => True) [] (by kernel_rfl) (by kernel_rfl) ?_) | (with_reducible refine wpT_nil ?_) | (refine wpT_W (v := ?_) trivial (by decide) (by first | exact wanted_none rfl | rfl) (fun _ hS_ => ?_) ?_; rotate_left; (focus ((try dsimp only at hS_); go_simp; rfl)); (simp only [Act.put, List.setIfInBounds_toArray, List.set_cons_zero, List.set_cons_succ])) | (refine wpT_R (v := ?_) trivial (by decide) (by first | exact wanted_none rfl | rfl) ?_ ?_; rotate_left; (focus (go_simp; rfl)); (simp only [Act.put, List.setIfInBounds_toArray, List.set_cons_zero, List.set_cons_succ])) | (refine wpT_A (v := ?_) (ob := ?_) trivial (by decide) (by first | exact wanted_none rfl | rfl) ?_ ?_ ?_; rotate_left 2; (focus (go_simp; first | (constructor <;> rfl) | rfl)); (focus (exact trivial)); (simp only [Act.put, List.setIfInBounds_toArray, List.set_cons_zero, List.set_cons_succ])) | (refine wpT_no trivial rfl (by decide) ?_; (simp only [Act.put, List.setIfInBounds_toArray, List.set_cons_zero, List.set_cons_succ])))
                    go_ret
                    exact ⟨by rw [← HB.out]; rfl, M13.out.hb⟩
                  · rw [if_neg hne] at hm2
                    have hne' : nm = yy := by simpa using hne
                    subst hne'
                    have HM2' := Aside0.mk hm2
                    clear hm1 hm2 ht htt hC2 hc2 hn' hT hjl hmn hmr hyy hnm hcr hr hne j1 j2 g1
                    go_wp2_with (first
                      | (go_at_call 46; refine (PShapeReducible.vellumref12_Next.calls _ (some ads) ns SS tt mm wr HCSr.out HNS.out HM1.out).mono ?_; rintro e w12 ⟨rfl, hd12⟩; have M12 := hM.out.drawn hd12; obtain ⟨_, _, t1, t2, t3, t4, t5, _⟩ := N46.out w12 hd12; obtain ⟨w13, z13, M13⟩ := M12.drew; have t1' := cell_of_drew z13 t1; have t2' := cell_of_drew z13 t2; have t3' := cell_of_drew z13 t3; have t4' := cell_of_drew z13 t4; have t5' := cell_of_drew z13 t5; have M13 := Aside0.mk M13; clear hd12 M12)
                      | (rw [z13])
                      | ((with_reducible refine gate_dst (N := 106) rfl ?_); refine mem_append 5 (.tmp 103) (.tmp 105) 23 3 (.int .i64 0) 1 8 rfl rfl Try.underlying23 PShapeReducible.info3 rfl (by decide) (by decide) _ st'.length (nums .i64 st'.reverse) [.int .i64 (mm : Int)] rfl rfl rfl (by simp [Value.oneCell']) M13.out rfl (by have := HST.out; omega) ?_; intro A14 c14 w14 M14; have M14 := Aside0.mk M14)
                      | (refine wp_region_txt (fun _ => True) [] (by kernel_rfl) (by kernel_rfl) ?_) | (with_reducible refine wpT_nil ?_) | (refine wpT_W (v := ?_) trivial (by decide) (by first | exact wanted_none rfl | rfl) (fun _ hS_ => ?_) ?_; rotate_left; (focus ((try dsimp only at hS_); go_simp; rfl)); (simp only [Act.put, List.setIfInBounds_toArray, List.set_cons_zero, List.set_cons_succ])) | (refine wpT_R (v := ?_) trivial (by decide) (by first | exact wanted_none rfl | rfl) ?_ ?_; rotate_left; (focus (go_simp; rfl)); (simp only [Act.put, List.setIfInBounds_toArray, List.set_cons_zero, List.set_cons_succ])) | (refine wpT_A (v := ?_) (ob := ?_) trivial (by decide) (by first | exact wanted_none rfl | rfl) ?_ ?_ ?_; rotate_left 2; (focus (go_simp; first | (constructor <;> rfl) | rfl)); (focus (exact trivial)); (simp only [Act.put, List.setIfInBounds_toArray, List.set_cons_zero, List.set_cons_succ])) | (refine wpT_no trivial rfl (by decide) ?_; (simp only [Act.put, List.setIfInBounds_toArray, List.set_cons_zero, List.set_cons_succ])))
                    go_roundw
                    case rel =>
                      refine ⟨j + 1, (mm : Int) :: st', by go_num, by have := HJL.out; omega, HM2', ⟨?_⟩⟩
                      rw [List.reverse_cons, nums_append]
                      exact M14.out
                    case measure => have := HJL.out; simp [intOf]; omega
              · obtain rfl : j = tos.length := by omega
                rw [List.drop_length, rTos] at ht
                have hrr := (Option.some.inj ht).symm
                subst hrr
                have HH := Aside0.mk (show rChk SS g gk' (seen.set x true) st' = some b from HR2.out)
                clear ht hT hC2 hc2 hn' g1
                go_wp2
                go_roundg gk'
                case measure => have := HK'.out; omega
                case rel => exact ⟨seen.set x true, st', HH, ⟨by rw [List.length_set]; exact hSL.out⟩, hM⟩
end Go.Proofs.Ytfiiihpdekppiaa
end
