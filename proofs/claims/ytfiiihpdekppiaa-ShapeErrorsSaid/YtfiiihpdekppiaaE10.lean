/- A part of the proof that vellumlaw12.ShapeErrors is true for every input: walks of functions that the row reaches and plain laws that they need. Conditions: none. Joined by merge.py out of C12 B4 C13 B5; a part that began as a print is named P or W there and is trimmed. -/
import Derived.Test.YtfiiihpdekppiaaE1
import Derived.Test.YtfiiihpdekppiaaE6
import Derived.Test.YtfiiihpdekppiaaE9
import Derived.Maps.RangeRun
import Derived.Lib.JoinLaws
set_option linter.unusedVariables false
set_option linter.unusedSimpArgs false
section
namespace Go.Proofs.Ytfiiihpdekppiaa
open Go.RowKit Go.Proofs Go.Proofs.YtfiiihpdekppiaaW.PrintWords
open Go.ChangeMaps (setBlock heap_setBlock_same heap_setBlock_other)
theorem len_I {w : World} {b : Nat} {m : List (Int × Int)} (h : w.heap[b]? = some (mI m)) (ty : TypeId) : (Builtin.len_ #[97] ty #[.map (some b)]).run Try.prog w = .ok (.int .i64 m.length) w := by
 rw [run_mlen h Try.underlying97]
 simp
theorem look_I2 {w : World} {b : Nat} {m : List (Int × Int)} (h : w.heap[b]? = some (mI m)) (k : Int) : (Instr.lookup 97 (.map (some b)) (.int .i64 k) true).run Try.prog w = .ok (.tuple #[.int .i64 (mI0 m k), .bool (mget m k).isSome]) w := by
 rw [run_look_ok Try.underlying97 Try.underlying3 h zero3]
 congr 1
 rw [mget_map, mI0]
 cases mget m k <;> rfl
theorem index_eq (l : List Int) (a : Int) (hl : l.length < 9223372036854775807) (ha : a ∈ l) : PShapeReducible.slices_Index_int_int.f (l.length + 1) l a = some ((l.idxOf a : Nat) : Int) := by
 have key : ∀ (k i : Nat), i ≤ l.length → l.length - i < k → a ∈ l.drop i → PShapeReducible.slices_Index_int_int.l0 k l a l.length i = some ((i + (l.drop i).idxOf a : Nat) : Int) := by
  intro k
  induction k with
  | zero => intro i hi hk; omega
  | succ k ih =>
   intro i hi hk hm
   unfold PShapeReducible.slices_Index_int_int.l0
   have hlt : i < l.length := by
    rcases Nat.lt_or_ge i l.length with h | h
    ·exact h
    ·rw [List.drop_of_length_le h] at hm; cases hm
   have h1 : (i : Int) < l.length := by omega
   have h2 : (0 : Int) ≤ i := by omega
   rw [if_pos h1, if_pos h2, if_pos h1]
   rw [List.drop_eq_getElem_cons hlt] at hm ⊢
   have hrd : rd l i = l[i] := by simp [rd, hlt]
   by_cases hx : a = l[i]
   ·rw [if_pos (by rw [hrd]; exact hx), ← hx, List.idxOf_cons_self, Nat.add_zero]
   ·rw [if_neg (by rw [hrd]; exact hx)]
    have hw : wrap64 ((i : Int) + 1) = ((i + 1 : Nat) : Int) := by unfold wrap64; omega
    have hm' : a ∈ l.drop (i + 1) := by rcases List.mem_cons.1 hm with h | h; exact absurd h hx; exact h
    have hne : (l[i] == a) = false := by simp [Ne.symm hx]
    rw [hw, ih (i + 1) (by omega) (by omega) hm', List.idxOf_cons, hne]
    simp only [cond_false]
    congr 2
    omega
 have := key (l.length + 1) 0 (Nat.zero_le _) (by omega) (by simpa using ha)
 simpa [PShapeReducible.slices_Index_int_int.f] using this
theorem index_any (w : World) (A : Option Addr) (c : Nat) (l : List Int) (a : Int) (hC : kI.C w A l.length l) (hc : l.length ≤ c) (hl : l.length ≤ 1000000000) (ha : a ∈ l) :
  Calls Try.prog 79 #[.slice A l.length c, .int .i64 a] w fun e w' => e = .returned (.int .i64 (l.idxOf a : Nat)) ∧ Drawn0 w w' :=
 PShapeReducible.slices_Index_int_int.calls (l.length + 1) A c l a _ w hC hc (index_eq l a (by omega) ha)
theorem own_takeN {w : World} {base c k : Nat} {A : Option Addr} {xs : List Int} (h : w.ownsRow base 3 1 (.slice A xs.length c) xs.length (nums .i64 xs)) (hk : k ≤ xs.length) : w.ownsRow base 3 1 (.slice A k c) (xs.take k).length (nums .i64 (xs.take k)) := by
 have := own_take h hk
 rw [Nat.mul_one] at this
 have e : (xs.take k).length = k := by rw [List.length_take]; omega
 rw [e]
 simpa [nums, List.map_take] using this
theorem Rows3.front {w : World} {base : Nat} {vs : List Value} {xss : List (List Int)} {v : Value} {x : List Int} (h : Rows3 w base (vs ++ [v]) (xss ++ [x])) : Rows3 w base vs xss := by
 have hl := h.len
 simp only [List.length_append, List.length_singleton] at hl
 refine ⟨by omega, fun i hi => ?_, fun i j hi hj hne => ?_⟩
 ·have := h.row i (by simp; omega)
  rw [getD_snoc_old hi, getD_snoc_old (by omega)] at this
  exact this
 ·have := h.apart i j (by simp; omega) (by simp; omega) hne
  rw [getD_snoc_old hi, getD_snoc_old hj] at this
  exact this
theorem TarSt.lose {w0 w : World} {B : TarB} {ev : List Value} {ex : List (List Int)} {vs vo vp : Value} {vals : List Value} {xs : List Int} {s : Tar} (h : TarSt w0 w B ev ex vs vo vals [vp] [xs] s) : TarSt w0 w B ev ex vs vo vals [] [] s := by
 have hr : Rows3 w w0.heap.size (vs :: (ev ++ vals)) (s.st :: (ex ++ s.out)) := Rows3.front (v := vp) (x := xs) (by have := h.hr; simpa using this)
 exact ⟨h.bi, h.bl, h.bst, h.bon, h.bsp, h.bse, h.bf, h.bo, h.mi, h.ml, h.mo, h.hout, h.len, by simpa using hr, h.elen, h.hb, h.ne1, h.ne2, h.ne3, h.ne4, h.b1, h.b2, h.b3, h.b4, h.b5⟩
structure TarRd (w0 : World) (B : TarB) (As : Option Addr) (cs : Nat) (succ : List (List Int)) (set : List (Int × Bool)) : Prop where
 hs : w0.cell? ⟨B.bs, 0, none⟩ = some (.slice As succ.length cs)
 hg : kG.C w0 As succ.length succ
 he : w0.heap[B.mse]? = some (mB set)
 hl : ∀ l ∈ succ, l.length ≤ 1000000000
 hc : ∀ i, i < succ.length → True
set_option maxRecDepth 100000 in
set_option maxHeartbeats 4000000 in
theorem visit_any (w0 : World) (B : TarB) (ev : List Value) (ex : List (List Int)) (As : Option Addr) (cs : Nat) (succ : List (List Int)) (set : List (Int × Bool)) (hrd : TarRd w0 B As cs succ set) : ∀ (k : Nat) (s s' : Tar) (n : Int) (w : World) (vs vo : Value) (vals : List Value),
  TarSt w0 w B ev ex vs vo vals [] [] s → tarVisit succ set k s n = some s' →
  Calls Try.prog 78 #[.int .i64 n, .pointer (some ⟨B.i, 0, none⟩), .pointer (some ⟨B.l, 0, none⟩), .pointer (some ⟨B.st, 0, none⟩), .pointer (some ⟨B.on, 0, none⟩), .pointer (some ⟨B.sp, 0, none⟩), .pointer (some ⟨B.se, 0, none⟩), .pointer (some ⟨B.f, 0, none⟩), .pointer (some ⟨B.o, 0, none⟩)] w
   fun e w' => e = .returned (.tuple #[]) ∧ ∃ vs' vo' vals', TarSt w0 w' B ev ex vs' vo' vals' [] [] s' := by
 intro k
 induction k with
 | zero => intro s s' n w vs vo vals _ h; simp [tarVisit] at h
 | succ k ih =>
 intro s s' n w vs vo vals hst h
 simp only [tarVisit] at h
 by_cases hn : (0 ≤ n ∧ n < succ.length) ∧ s.st.length ≤ 1000000
 ·rw [if_pos hn] at h
  obtain ⟨⟨hn0, hn1⟩, hstl⟩ := hn
  obtain ⟨n, rfl⟩ := Int.eq_ofNat_of_zero_le hn0
  rw [Int.toNat_natCast] at h
  obtain ⟨s2, hkids, hrest⟩ := Option.bind_eq_some_iff.1 h
  obtain ⟨L, hL⟩ : ∃ L : Nat, L = s.idx.length := ⟨_, rfl⟩
  obtain ⟨ad, A0, c0, hAs, g1, g2, g3⟩ := C_row hrd.hg n (by omega)
  subst hAs
  obtain ⟨l, hl⟩ : ∃ l, l = succ.getD n [] := ⟨_, rfl⟩
  rw [← hl] at hkids hrest g1 g2 g3
  have hll : l.length ≤ 1000000000 := hrd.hl l (by rw [hl, List.getD_eq_getElem?_getD, List.getElem?_eq_getElem (by omega)]; exact List.getElem_mem (by omega))
  have G1 := Aside0.mk g1
  have G2 := Aside0.mk g2
  have G3 := Aside0.mk g3
  have hn2 : n < succ.length := by omega
  clear hl g1 g2 g3
  have RD := Aside0.mk hrd
  have IH := Aside0.mk ih
  have HK := Aside0.mk hkids
  have HR := Aside0.mk hrest
  obtain ⟨wd, hwd⟩ : ∃ wd, wd = w.drew := ⟨_, rfl⟩
  have T0 : TarSt w0 wd B ev ex vs vo vals [] [] s := by rw [hwd]; exact hst.drew
  have T1 := T0.putI n L
  have T2 := T1.putL n L
  have i1 : wd.cell? ⟨B.i, 0, none⟩ = some (.map (some B.mi)) := cell_blk T0.bi rfl
  have i2 : wd.cell? ⟨B.l, 0, none⟩ = some (.map (some B.ml)) := cell_blk T0.bl rfl
  have p1 := put_I T0.mi n L
  have p2 := put_I T1.ml n L
  have l1 := len_I T0.mi 3
  rw [← hL] at l1
  obtain ⟨w1, hw1⟩ : ∃ w1, w1 = setBlock wd B.mi (mI (mput s.idx n L)) := ⟨_, rfl⟩
  obtain ⟨w2, hw2⟩ : ∃ w2, w2 = setBlock w1 B.ml (mI (mput s.low n L)) := ⟨_, rfl⟩
  rw [← hw1] at p1 p2 T1 T2
  simp only at T2
  rw [← hw2] at p2 T2
  have j0 : wd.cell? ⟨B.i, 0, none⟩ = some (.map (some B.mi)) ∧ wd.cell? ⟨B.l, 0, none⟩ = some (.map (some B.ml)) := ⟨i1, i2⟩
  have j1 : w1.cell? ⟨B.i, 0, none⟩ = some (.map (some B.mi)) ∧ w1.cell? ⟨B.l, 0, none⟩ = some (.map (some B.ml)) := ⟨cell_blk T1.bi rfl, cell_blk T1.bl rfl⟩
  have j2 : w2.cell? ⟨B.i, 0, none⟩ = some (.map (some B.mi)) ∧ w2.cell? ⟨B.l, 0, none⟩ = some (.map (some B.ml)) := ⟨cell_blk T2.bi rfl, cell_blk T2.bl rfl⟩
  have HD := Aside0.mk hwd
  have TT := Aside0.mk T2
  have HL := Aside0.mk hL
  clear hst T0 T1 T2 hwd hw1 hw2 hkids hrest h hL ih hrd
  go_enter Try.func78, Try.ntmps78
  go_wp2_with (first | (refine wp_region_txt (fun W => W.cell? ⟨B.i, 0, none⟩ = some (.map (some B.mi)) ∧ W.cell? ⟨B.l, 0, none⟩ = some (.map (some B.ml))) [0, 2, 4, 6] (by kernel_rfl) (by kernel_rfl) ?_; rw [← HD.out]))
  iterate 8 (first | (with_reducible refine wpT_nil ?_) | (refine wpT_W (v := ?_) (by assumption) (by decide) (wanted_none rfl) (fun _ hS_ => ?_) ?_; rotate_left; (focus ((try dsimp only at hS_); go_simp; rfl)); (simp only [Act.put, List.setIfInBounds_toArray, List.set_cons_zero, List.set_cons_succ])) | (refine wpT_R (v := ?_) (by assumption) (by decide) (wanted_none rfl) ?_ ?_; rotate_left; (focus (go_simp; rfl)); (simp only [Act.put, List.setIfInBounds_toArray, List.set_cons_zero, List.set_cons_succ])) | (refine wpT_A (v := ?_) (ob := ?_) (by assumption) (by decide) (wanted_none rfl) ?_ ?_ ?_; rotate_left 2; (focus (go_simp; first | (constructor <;> rfl) | rfl)); (focus (apply cell_alloc; assumption)); (simp only [Act.put, List.setIfInBounds_toArray, List.set_cons_zero, List.set_cons_succ])))
  refine wpT_L j0 (by decide) (wanted_none rfl) (fun K_ hK_ => ?_)
  go_simp
  refine hK_ _ _ j1 ?_
  clear hK_
  refine wpT_L j1 (by decide) (wanted_none rfl) (fun K_ hK_ => ?_)
  go_simp
  refine hK_ _ _ j2 ?_
  clear hK_
  refine wpT_nil ?_
  clear i1 i2 p1 p2 l1 j0 j1 j2
  obtain ⟨A2, c2, rfl⟩ := own_slice TT.out.stack
  have k2 : w2.cell? ⟨B.st, 0, none⟩ = some (.slice A2 s.st.length c2) := cell_blk TT.out.bst rfl
  go_wp2_with (first
   | ((with_reducible refine gate_dst (N := 29) rfl ?_); refine print_append_cells (w0 := w0) w0.heap.size rfl (.tmp 26) (.tmp 28) 23 3 (.int .i64 0) 1 8 rfl Try.underlying23 PShapeReducible.info3 rfl (by decide) (by decide) _ s.st.length (nums .i64 s.st) [.int .i64 n] rfl rfl rfl (by simp [Value.oneCell']) TT.out.stack TT.out.hb TT.out.hb.size (by omega) ?_; intro v3 w3 ho3 hb3 hg3 hat3; obtain ⟨A3, c3, rfl⟩ := own_slice ho3; have q2 : w3.cell? ⟨B.st, 0, none⟩ = some (.slice A2 s.st.length c2) := cell_blk (grown_blk hg3 TT.out.stack TT.out.bst (by decide)) rfl; have q3 : w3.frozen? ⟨B.st, 0, none⟩ = false := free_blk (grown_blk hg3 TT.out.stack TT.out.bst (by decide)); have T3 := TT.out.stored (st' := s.st ++ [(n : Int)]) hg3 (by simpa [nums] using ho3) hat3; have q4 : (w3.setCell ⟨B.st, 0, none⟩ (.slice A3 (s.st.length + 1) c3)).cell? ⟨B.on, 0, none⟩ = some (.map (some B.mo)) := cell_blk T3.bon rfl; have p4 := put_B T3.mo (n : Int) true; have T4 := T3.putO (n : Int) true; obtain ⟨w4, hw4⟩ : ∃ w4, w4 = setBlock (w3.setCell ⟨B.st, 0, none⟩ (.slice A3 (s.st.length + 1) c3)) B.mo (mB (mput s.on n true)) := ⟨_, rfl⟩; simp only [← hw4] at p4 T4; have m1 : w4.cell? ⟨B.sp, 0, none⟩ = some (.pointer (some ⟨B.bs, 0, none⟩)) := cell_blk T4.bsp rfl; have m2 : w4.cell? ⟨B.bs, 0, none⟩ = some (.slice (some ad) succ.length cs) := pw_cell_below T4.hb RD.out.hs; have m3 : w4.cell? (ad.add n) = some (.slice A0 l.length c0) := pw_cell_below T4.hb G1.out; have TU := Aside0.mk T4; clear hw4 T3 T4 ho3 hb3 hg3 hat3))
  rw [← HL.out] at HK
  clear k2 q2 q3 q4 p4 m1 m2 m3
  go_loopw [40] (fun t wr => ∃ (j : Nat) (sc : Tar) (vs vo : Value) (vals : List Value), t = .int .i64 j ∧ j ≤ l.length ∧ Aside0 (tarKids set (tarVisit succ set k) n (l.drop j) sc = some s2) ∧ Aside0 (TarSt w0 wr B ev ex vs vo vals [] [] sc)) (fun t _ => l.length - (intOf t).toNat)
  case atStart => exact ⟨0, _, _, _, _, rfl, Nat.zero_le _, by simpa using HK, TU⟩
  case round =>
   obtain ⟨j, sc, vs, vo, vals, rfl, hj, hH, hT⟩ := hrel
   have h1 := hH.out
   by_cases hlt : j < l.length
   ·obtain ⟨m, hm⟩ : ∃ m, m = l.getD j 0 := ⟨_, rfl⟩
    rw [List.drop_eq_getElem_cons hlt, show l[j] = m by simp [hm, List.getD_eq_getElem?_getD, hlt]] at h1
    simp only [tarKids] at h1
    obtain ⟨adl, rfl, e1⟩ := C_num (Kd.C_below G3.out hT.out.hb) j hlt
    rw [← hm] at e1
    have b6 : wr.cell? ⟨B.se, 0, none⟩ = some (.map (some B.mse)) := cell_blk hT.out.bse rfl
    have L6 := look_B (blk_below RD.out.he hT.out.hb) m
    have hlt' : (j : Int) < l.length := by omega
    clear hm hH
    cases q1 : mB0 set m with
    | false =>
     rw [if_pos q1] at h1
     have H2 := Aside0.mk h1
     rw [q1] at L6
     clear h1 q1
     go_wp2
     go_roundw
     case rel => exact ⟨j + 1, _, _, _, _, by go_num, by omega, H2, hT⟩
     case measure => simp [intOf]; omega
    | true =>
     rw [if_neg (by rw [q1]; decide)] at h1
     rw [q1] at L6
     have b1 : wr.cell? ⟨B.i, 0, none⟩ = some (.map (some B.mi)) := cell_blk hT.out.bi rfl
     have L1 := look_I2 hT.out.mi m
     clear q1
     cases q2 : mget sc.idx m with
     | none =>
      rw [if_pos q2] at h1
      rw [q2] at L1
      obtain ⟨s5, hv, h5⟩ := Option.bind_eq_some_iff.1 h1
      have HV := Aside0.mk hv
      have H5 := Aside0.mk h5
      have b7 : wr.cell? ⟨B.f, 0, none⟩ = some B.fv := cell_blk hT.out.bf rfl
      unfold TarB.fv at b7
      clear h1 hv h5 q2
      go_wp2_with (go_at_call 78; refine (IH.out sc s5 m _ vs vo vals hT.out HV.out).mono ?_; rintro e w5 ⟨rfl, vs5, vo5, vals5, hT5⟩; have d1 : w5.cell? ⟨B.l, 0, none⟩ = some (.map (some B.ml)) := cell_blk hT5.bl rfl; have d2 := look_I hT5.ml (n : Int); have d3 := look_I hT5.ml m; have d4 := put_I hT5.ml (n : Int) (min (mI0 s5.low n) (mI0 s5.low m)); have T6 := hT5.putL (n : Int) (min (mI0 s5.low n) (mI0 s5.low m)); obtain ⟨w6, hw6⟩ : ∃ w6, w6 = setBlock w5 B.ml (mI (mput s5.low n (min (mI0 s5.low n) (mI0 s5.low m)))) := ⟨_, rfl⟩; rw [← hw6] at d4 T6; have T6 := Aside0.mk T6; clear hw6 hT5)
      go_roundw
      case rel => exact ⟨j + 1, _, _, _, _, by go_num, by omega, H5, T6⟩
      case measure => simp [intOf]; omega
     | some ix =>
      rw [if_neg (by rw [q2]; simp)] at h1
      rw [q2] at L1
      have b3 : wr.cell? ⟨B.on, 0, none⟩ = some (.map (some B.mo)) := cell_blk hT.out.bon rfl
      have L3 := look_B hT.out.mo m
      cases q3 : mB0 sc.on m with
      | true =>
       rw [if_pos q3] at h1
       rw [q3] at L3
       have H5 := Aside0.mk h1
       have b2 : wr.cell? ⟨B.l, 0, none⟩ = some (.map (some B.ml)) := cell_blk hT.out.bl rfl
       have d2 := look_I hT.out.ml (n : Int)
       have d3 := look_I hT.out.mi m
       have d4 := put_I hT.out.ml (n : Int) (min (mI0 sc.low n) (mI0 sc.idx m))
       have T6 := hT.out.putL (n : Int) (min (mI0 sc.low n) (mI0 sc.idx m))
       obtain ⟨w6, hw6⟩ : ∃ w6, w6 = setBlock wr B.ml (mI (mput sc.low n (min (mI0 sc.low n) (mI0 sc.idx m)))) := ⟨_, rfl⟩
       rw [← hw6] at d4 T6
       have T6 := Aside0.mk T6
       clear hw6 h1 q3 q2
       go_wp2
       go_roundw
       case rel => exact ⟨j + 1, _, _, _, _, by go_num, by omega, H5, T6⟩
       case measure => simp [intOf]; omega
      | false =>
       rw [if_neg (by rw [q3]; decide)] at h1
       rw [q3] at L3
       have H5 := Aside0.mk h1
       clear h1 q3 q2
       go_wp2
       go_roundw
       case rel => exact ⟨j + 1, _, _, _, _, by go_num, by omega, H5, hT⟩
       case measure => simp [intOf]; omega
   ·obtain rfl : j = l.length := by omega
    rw [List.drop_length] at h1
    simp only [tarKids, Option.some.injEq] at h1
    subst h1
    have h2 := HR.out
    have b1 : wr.cell? ⟨B.i, 0, none⟩ = some (.map (some B.mi)) := cell_blk hT.out.bi rfl
    have b2 : wr.cell? ⟨B.l, 0, none⟩ = some (.map (some B.ml)) := cell_blk hT.out.bl rfl
    have d2 := look_I hT.out.ml (n : Int)
    have d3 := look_I hT.out.mi (n : Int)
    by_cases hlow : mI0 sc.low n = mI0 sc.idx n
    ·rw [if_pos hlow] at h2
     rw [hlow] at d2
     by_cases hg : sc.st.idxOf (n : Int) < sc.st.length ∧ sc.st.length ≤ 1000000 ∧ sc.out.length ≤ 1000000
     ·rw [if_pos hg] at h2
      obtain ⟨hat, hsl, hol⟩ := hg
      have hmem : (n : Int) ∈ sc.st := List.idxOf_lt_length_iff.1 hat
      obtain ⟨a, ha⟩ : ∃ a, a = sc.st.idxOf (n : Int) := ⟨_, rfl⟩
      rw [← ha] at h2 hat
      obtain ⟨part, hpart⟩ : ∃ part, part = sc.st.drop a := ⟨_, rfl⟩
      rw [← hpart] at h2
      have hpl : part.length = sc.st.length - a := by rw [hpart, List.length_drop]
      obtain ⟨b4, c4, rfl, hb4, _⟩ := hT.out.stack.form (by omega)
      have hc4 : sc.st.length ≤ c4 := own_capn hT.out.stack
      obtain ⟨A4, c4', he4, _, hC4⟩ := own_C hT.out.stack
      simp only [Value.slice.injEq, true_and] at he4
      obtain ⟨rfl, rfl⟩ := he4
      have k3 : wr.cell? ⟨B.st, 0, none⟩ = some (.slice (some ⟨b4, 0, none⟩) sc.st.length c4) := cell_blk hT.out.bst rfl
      have hdrop : kI.C wr (some ⟨b4, a, none⟩) part.length part := by
       have := Kd.C_drop (c := c4) hC4 (m := a) (by omega) hc4
       rw [if_neg (by omega)] at this
       rw [hpart]
       have e : (⟨b4, 0, none⟩ : Addr).add (a * 1) = ⟨b4, a, none⟩ := by unfold Addr.add; split <;> simp_all
       rw [← e]
       exact this
      have C4 := Aside0.mk hC4
      have CD := Aside0.mk hdrop
      have H2 := Aside0.mk (Option.some.inj h2)
      have HA := Aside0.mk ha
      have HP := Aside0.mk hpart
      have HPL := Aside0.mk hpl
      have hai : (a : Int) < sc.st.length := by omega
      clear h2 hC4 hdrop ha hpart hpl
      go_wp2_with (first
       | (go_at_call 79; refine (index_any _ _ c4 sc.st n C4.out hc4 (by omega) hmem).mono ?_; rintro e w5 ⟨rfl, hd⟩; rw [← HA.out]; have T5 := hT.out.below hd.below; have k5 : w5.cell? ⟨B.st, 0, none⟩ = some (.slice (some ⟨b4, 0, none⟩) sc.st.length c4) := cell_blk T5.bst rfl; have CD5 := Aside0.mk (Kd.C_below CD.out hd.below); have T5 := Aside0.mk T5; clear hd)
       | (go_at_call 37; have hcl := clone_any w5 (some ⟨b4, a, none⟩) (c4 - a) part CD5.out (by have := HPL.out; omega); rw [HPL.out] at hcl; refine hcl.mono ?_; clear hcl; rintro e w6 ⟨vp, rfl, hr6, hb6⟩; have hr6' := Kd.R_lower hr6 (base' := w0.heap.size) T5.out.hb.size; obtain ⟨A7, c7, rfl⟩ := Kd.R_slice hr6; have T6 := T5.out.newrow hb6 (own_R hr6') (fun k hk => own_base (own_R hr6) k hk); have k6 : w6.cell? ⟨B.st, 0, none⟩ = some (.slice (some ⟨b4, 0, none⟩) sc.st.length c4) := cell_blk T6.bst rfl; have k6f : w6.frozen? ⟨B.st, 0, none⟩ = false := free_blk T6.bst; have T7 := T6.stored (v6 := .slice (some ⟨b4, 0, none⟩) a c4) (st' := sc.st.take a) (World.grownBy.refl w6 _) (own_takeN T6.stack (Nat.le_of_lt hat)) (.inl rfl); have T7 := Aside0.mk T7; clear hr6 hr6' hb6 T6))
      obtain ⟨w7, hw7⟩ : ∃ w7, w7 = w6.setCell ⟨B.st, 0, none⟩ (.slice (some ⟨b4, 0, none⟩) a c4) := ⟨_, rfl⟩
      rw [← hw7] at T7 ⊢
      clear hw7 k3 k5 k6 k6f b1 b2 d2 d3
      go_loopw [100] (fun t wq => ∃ j : Nat, t = .int .i64 j ∧ j ≤ part.length ∧ Aside0 (TarSt w0 wq B ev ex (.slice (some ⟨b4, 0, none⟩) a c4) vo vals [.slice A7 part.length c7] [part] { sc with st := sc.st.take a, on := (part.take j).foldl (fun m x => mput m x false) sc.on })) (fun t _ => part.length - (intOf t).toNat)
      case atStart => exact ⟨0, rfl, Nat.zero_le _, by simpa using T7⟩
      case round =>
       obtain ⟨j, rfl, hj, hT8⟩ := hrel
       obtain ⟨A7', c7', he7, hc7, hC7⟩ := own_C hT8.out.part
       simp only [Value.slice.injEq, true_and] at he7
       obtain ⟨rfl, rfl⟩ := he7
       by_cases hjl : j < part.length
       ·obtain ⟨ad7, rfl, e1⟩ := C_num hC7 j hjl
        obtain ⟨m, hm⟩ : ∃ m, m = part.getD j 0 := ⟨_, rfl⟩
        rw [← hm] at e1
        have b4' : wr.cell? ⟨B.on, 0, none⟩ = some (.map (some B.mo)) := cell_blk hT8.out.bon rfl
        have p4 := put_B hT8.out.mo m false
        have T9 := hT8.out.putO m false
        obtain ⟨w9, hw9⟩ : ∃ w9, w9 = setBlock wr B.mo (mB (mput ((part.take j).foldl (fun m x => mput m x false) sc.on) m false)) := ⟨_, rfl⟩
        simp only [← hw9] at p4 T9
        have e9 : (part.take (j + 1)).foldl (fun m x => mput m x false) sc.on = mput ((part.take j).foldl (fun m x => mput m x false) sc.on) m false := by
         rw [List.take_succ_eq_append_getElem hjl, show part[j] = m by simp [hm, List.getD_eq_getElem?_getD, hjl]]
         simp
        have E9 := Aside0.mk e9
        have T9 := Aside0.mk T9
        have hjl' : (j : Int) < part.length := by omega
        have hj9 : part.length ≤ 9223372036854775807 := hC7.2.1
        clear hm hw9 hC7 e9
        go_wp2
        go_roundw
        case rel => exact ⟨j + 1, by go_num, by omega, ⟨by rw [E9.out]; exact T9.out⟩⟩
        case measure => simp [intOf]; omega
       ·obtain rfl : j = part.length := by omega
        rw [List.take_length] at hT8
        obtain ⟨Ao, co, rfl⟩ := own_slice hT8.out.hout
        have C7 := Aside0.mk hC7
        have i5 : wr.cell? ⟨B.sp, 0, none⟩ = some (.pointer (some ⟨B.bs, 0, none⟩)) := cell_blk hT8.out.bsp rfl
        have i6 : wr.cell? ⟨B.bs, 0, none⟩ = some (.slice (some ad) succ.length cs) := pw_cell_below hT8.out.hb RD.out.hs
        have i7 : wr.cell? (ad.add n) = some (.slice A0 l.length c0) := pw_cell_below hT8.out.hb G1.out
        have hns : (n : Int) < succ.length := hn1
        by_cases hbig : 1 < part.length
        ·have hE := H2.out
         rw [if_pos (.inl hbig)] at hE
         have HE := Aside0.mk hE
         have hbig' : (1 : Int) < part.length := by omega
         have hpl9 : part.length ≤ 1000000000 := by have := HPL.out; omega
         clear hE hC7
         go_wp2_with (first
          | (go_at_call 81; refine (sort_any _ w0.heap.size _ part hT8.out.part (by omega)).mono ?_; rintro e w10 ⟨rfl, ho10, hg10⟩; have T10 := hT8.out.turned hg10 (xs' := sortI part) (by rw [sortI_length]; exact ho10); have k10 : w10.cell? ⟨B.o, 0, none⟩ = some (.slice Ao vals.length co) := cell_blk T10.bo rfl; have T10 := Aside0.mk T10; clear ho10 hg10) | ((with_reducible refine gate_dst (N := 126) rfl ?_); refine print_append_cells (w0 := w0) w0.heap.size rfl (.tmp 123) (.tmp 125) 25 23 (.slice none 0 0) 1 24 rfl Try.underlying25 info23 rfl (by decide) (by decide) _ vals.length vals [.slice A7 part.length c7] rfl rfl rfl (by simp [Value.oneCell']) T10.out.hout T10.out.hb T10.out.hb.size (by have h24 : vals.length = sc.out.length := T10.out.len; omega) ?_; intro v11 w11 ho11 hb11 hg11 hat11; obtain ⟨A11, c11, rfl⟩ := own_slice ho11; have q11 : w11.cell? ⟨B.o, 0, none⟩ = some (.slice Ao vals.length co) := cell_blk (grown_blk hg11 T10.out.hout T10.out.bo (by decide)) rfl; have q12 : w11.frozen? ⟨B.o, 0, none⟩ = false := free_blk (grown_blk hg11 T10.out.hout T10.out.bo (by decide)); have T12 := Aside0.mk (T10.out.added hg11 (by simpa using ho11) hat11); clear ho11 hb11 hg11 hat11))
         go_end0
         exact ⟨rfl, _, _, _, by rw [← HE.out]; exact T12.out⟩
        ·have hC5 := Kd.C_below G3.out hT8.out.hb
         have C5 := Aside0.mk hC5
         have hbig' : ¬ (1 : Int) < part.length := by omega
         clear hC5 hC7
         cases hcon : l.contains (n : Int) with
         | true =>
          have hE := H2.out
          rw [if_pos (.inr hcon)] at hE
          have HE := Aside0.mk hE
          clear hE
          have HCN := Aside0.mk hcon
          clear hcon
          go_wp2_with (first
           | (go_at_call 80; refine (contains_any _ A0 c0 l n C5.out G2.out hll).mono ?_; rintro e w9 ⟨rfl, hd⟩; rw [HCN.out]; have T9 := Aside0.mk (hT8.out.below hd.below); clear hd)
           | (go_at_call 81; refine (sort_any _ w0.heap.size _ part T9.out.part (by omega)).mono ?_; rintro e w10 ⟨rfl, ho10, hg10⟩; have T10 := T9.out.turned hg10 (xs' := sortI part) (by rw [sortI_length]; exact ho10); have k10 : w10.cell? ⟨B.o, 0, none⟩ = some (.slice Ao vals.length co) := cell_blk T10.bo rfl; have T10 := Aside0.mk T10; clear ho10 hg10) | ((with_reducible refine gate_dst (N := 126) rfl ?_); refine print_append_cells (w0 := w0) w0.heap.size rfl (.tmp 123) (.tmp 125) 25 23 (.slice none 0 0) 1 24 rfl Try.underlying25 info23 rfl (by decide) (by decide) _ vals.length vals [.slice A7 part.length c7] rfl rfl rfl (by simp [Value.oneCell']) T10.out.hout T10.out.hb T10.out.hb.size (by have h24 : vals.length = sc.out.length := T10.out.len; omega) ?_; intro v11 w11 ho11 hb11 hg11 hat11; obtain ⟨A11, c11, rfl⟩ := own_slice ho11; have q11 : w11.cell? ⟨B.o, 0, none⟩ = some (.slice Ao vals.length co) := cell_blk (grown_blk hg11 T10.out.hout T10.out.bo (by decide)) rfl; have q12 : w11.frozen? ⟨B.o, 0, none⟩ = false := free_blk (grown_blk hg11 T10.out.hout T10.out.bo (by decide)); have T12 := Aside0.mk (T10.out.added hg11 (by simpa using ho11) hat11); clear ho11 hb11 hg11 hat11))
          go_end0
          exact ⟨rfl, _, _, _, by rw [← HE.out]; exact T12.out⟩
         | false =>
          have hE := H2.out
          rw [if_neg (by rw [hcon]; simp; omega)] at hE
          have HE := Aside0.mk hE
          clear hE
          have HCN := Aside0.mk hcon
          clear hcon
          go_wp2_with (first
           | (go_at_call 80; refine (contains_any _ A0 c0 l n C5.out G2.out hll).mono ?_; rintro e w9 ⟨rfl, hd⟩; rw [HCN.out]; have T9 := Aside0.mk (hT8.out.below hd.below); clear hd))
          go_end0
          exact ⟨rfl, _, _, _, by rw [← HE.out]; exact T9.out.lose⟩
     ·rw [if_neg hg] at h2; cases h2
    ·rw [if_neg hlow] at h2
     have H2 := Aside0.mk (Option.some.inj h2)
     clear h2
     go_wp2
     refine bodyPost_ret (results_none rfl _ _ _) rfl ?_
     exact ⟨rfl, _, _, _, by rw [← H2.out]; exact hT.out⟩
 ·rw [if_neg hn] at h; cases h
end Go.Proofs.Ytfiiihpdekppiaa
end
section
namespace Go.Proofs.Ytfiiihpdekppiaa
open Go.RowKit Go.Proofs
open Go.ChangeMaps (setBlock heap_setBlock_same heap_setBlock_other)
variable {P : Program}
theorem ents_get : ∀ (l : List (Int × Value)) (j i : Nat), (ents j l)[i]? = (l[i]?).map fun p => { key := .int .i64 p.1, val := p.2, born := j + i }
 | [], _, _ => rfl
 | p :: r, j, 0 => rfl
 | p :: r, j, i + 1 => by
  simp only [ents, List.getElem?_cons_succ]
  rw [ents_get r (j + 1) i]
  cases r[i]? with
  | none => rfl
  | some q => simp only [Option.map_some]; congr 2; omega
theorem ents_born (l : List (Int × Value)) (j : Nat) : (ents j l).map (·.born) = List.range' j l.length := by
 induction l generalizing j with
 | nil => rfl
 | cons p r ih => simp [ents, ih, List.range'_succ]
structure ItSt (w : World) (r bm : Nat) (l : List (Int × Value)) (seen : List Nat) : Prop where
 hr : w.heap[r]? = some (.mapIter (some bm) l.length seen.toArray l.length)
 hb : w.heap[bm]? = some (mObj l)
 nd : seen.Nodup
 lt : ∀ i ∈ seen, i < l.length
theorem it_start {w : World} {bm : Nat} {l : List (Int × Value)} {t k e : TypeId} (ht : P.underlying t = some (.map k e)) (hb : w.heap[bm]? = some (mObj l)) :
  (Instr.range t (.map (some bm))).run P w = .ok (.pointer (some ⟨w.heap.size, 0, none⟩)) (w.alloc (.mapIter (some bm) l.length #[] l.length)) ∧ ItSt (w.alloc (.mapIter (some bm) l.length #[] l.length)) w.heap.size bm l [] :=
 ⟨run_range_map w t k e bm _ _ ht hb, heap_alloc_new _ _, (heap_alloc_old _ _ (blk_lt' hb)).trans hb, by simp, by simp⟩
theorem it_next {w : World} {r bm : Nat} {l : List (Int × Value)} {seen : List Nat} (h : ItSt w r bm l seen) (ty : TypeId) :
  (seen.length = l.length ∧ (Instr.next (.pointer (some ⟨r, 0, none⟩)) false ty).run P w = .ok (.tuple #[.bool false]) w) ∨
  ∃ (i : Nat) (hi : i < l.length) (w1 w2 : World), i ∉ seen ∧ (w1 = w ∨ w1 = w.drew) ∧ w2 = setBlock w1 r (.mapIter (some bm) l.length (seen ++ [i]).toArray l.length) ∧ (Instr.next (.pointer (some ⟨r, 0, none⟩)) false ty).run P w = .ok (.tuple #[.bool true, .int .i64 l[i].1, l[i].2]) w2 ∧
   (Instr.entry (.pointer (some ⟨r, 0, none⟩))).run P w2 = .ok (.tuple #[.int .i64 l[i].1, l[i].2]) w2 ∧ ItSt w2 r bm l (seen ++ [i]) := by
 have hold : ∀ x ∈ (ents 0 l).toArray.toList, x.born < l.length := by
  intro x hx
  have : x.born ∈ (ents 0 l).map (·.born) := List.mem_map.2 ⟨x, by simpa using hx, rfl⟩
  rw [ents_born] at this
  simp at this
  exact this
 rcases run_next_at (P := P) w ty r bm l.length l.length seen.toArray (ents 0 l).toArray l.length h.hr h.hb hold (Nat.le_refl _) with ⟨h0, hrun⟩ | ⟨e, he, w1, hw1, hrun⟩
 ·left
  refine ⟨?_, hrun⟩
  have hall : ∀ i, i < l.length → i ∈ seen := by
   intro i hi
   have h1 : leftOf (ents 0 l).toArray seen.toArray = #[] := Array.eq_empty_of_size_eq_zero h0
   unfold leftOf at h1
   rw [Array.filter_eq_empty_iff] at h1
   have h2 := ents_get l 0 i
   rw [List.getElem?_eq_getElem hi] at h2
   have h3 : ({ key := .int .i64 l[i].1, val := l[i].2, born := 0 + i } : MapEntry) ∈ (ents 0 l).toArray := by
    rw [List.mem_toArray]
    exact List.mem_of_getElem? h2
   have h4 := h1 _ h3
   simpa using h4
  have h5 : List.range l.length ⊆ seen := fun i hi => hall i (by simpa using hi)
  have h6 : seen ⊆ List.range l.length := fun i hi => by simpa using h.lt i hi
  have h7 := (List.nodup_range (n := l.length)).length_le_of_subset h5
  have h8 := h.nd.length_le_of_subset h6
  simp at h7 h8
  omega
 ·right
  obtain ⟨he1, he2⟩ : e ∈ ents 0 l ∧ e.born ∉ seen := by
   unfold leftOf at he
   simp only [Array.toList_filter, List.mem_filter] at he
   exact ⟨by simpa using he.1, by simpa using he.2⟩
  obtain ⟨i, hi⟩ := List.mem_iff_getElem?.1 he1
  have hi2 := hi
  rw [ents_get] at hi
  have hlt : i < l.length := by
   rcases Nat.lt_or_ge i l.length with h' | h'
   ·exact h'
   ·rw [List.getElem?_eq_none h'] at hi; cases hi
  rw [List.getElem?_eq_getElem hlt] at hi
  simp only [Option.map_some, Option.some.injEq] at hi
  subst hi
  simp only [Nat.zero_add] at he2 hrun
  rw [show seen.toArray.push i = (seen ++ [i]).toArray by simp] at hrun
  have hr1 : w1.heap[r]? = some (.mapIter (some bm) l.length seen.toArray l.length) := by rcases hw1 with rfl | rfl <;> exact h.hr
  have hb1 : w1.heap[bm]? = some (mObj l) := by rcases hw1 with rfl | rfl <;> exact h.hb
  have hne : r ≠ bm := fun e => by rw [← e, hr1] at hb1; cases hb1
  have hlt1 := blk_lt' hr1
  have k1 : (setBlock w1 r (.mapIter (some bm) l.length (seen ++ [i]).toArray l.length)).heap[r]? = some (.mapIter (some bm) l.length (seen ++ [i]).toArray l.length) := by
   simp [setBlock, hlt1]
  have k2 : (setBlock w1 r (.mapIter (some bm) l.length (seen ++ [i]).toArray l.length)).heap[bm]? = some (mObj l) := by
   rw [← hb1]; simp [setBlock, hne]
  refine ⟨i, hlt, w1, _, he2, hw1, rfl, hrun, ?_, k1, k2, ?_, ?_⟩
  ·have := run_entry_at (P := P) _ r bm l.length seen.toArray (ents 0 l).toArray l.length { key := .int .i64 l[i].1, val := l[i].2, born := 0 + i } (by rw [k1]; simp) k2 (by simpa using he1) (by
    rw [ents_born]
    exact List.nodup_range')
   exact this
  ·exact List.nodup_append.2 ⟨h.nd, by simp, fun a ha b hb e => he2 (by simp at hb; rw [← hb, ← e]; exact ha)⟩
  ·intro j hj
   rcases List.mem_append.1 hj with hj | hj
   ·exact h.lt j hj
   ·simp at hj; omega
theorem sortI_perm {a b : List Int} (h : a.Perm b) : sortI a = sortI b := by
 have tr : ∀ (x y z : Int), decide (x ≤ y) = true → decide (y ≤ z) = true → decide (x ≤ z) = true := fun x y z h1 h2 => by simp at *; omega
 have tt : ∀ (x y : Int), (decide (x ≤ y) || decide (y ≤ x)) = true := fun x y => by simp; omega
 refine List.Perm.eq_of_pairwise (le := fun x y => decide (x ≤ y) = true) (fun x y _ _ h1 h2 => by simp at h1 h2; omega) (List.pairwise_mergeSort tr tt a) (List.pairwise_mergeSort tr tt b) ?_
 exact (List.mergeSort_perm a _).trans (h.trans (List.mergeSort_perm b _).symm)
theorem seen_keys {l : List (Int × Value)} {seen : List Nat} (hn : seen.Nodup) (hl : ∀ i ∈ seen, i < l.length) (he : seen.length = l.length) : (seen.map fun i => (l.getD i (0, .int .i64 0)).1).Perm (l.map (·.1)) := by
 have h1 : seen.Perm (List.range l.length) := by
  refine (List.perm_ext_iff_of_nodup hn List.nodup_range).2 fun i => ⟨fun h => by simpa using hl i h, fun h => ?_⟩
  by_cases hi : i ∈ seen
  ·exact hi
  ·exfalso
   have h2 : (i :: seen).Nodup := List.nodup_cons.2 ⟨hi, hn⟩
   have h3 := h2.length_le_of_subset (l₂ := List.range l.length) (fun j hj => by
    rcases List.mem_cons.1 hj with rfl | hj
    ·exact h
    ·simpa using hl j hj)
   simp at h3
   omega
 refine (h1.map _).trans (List.Perm.of_eq ?_)
 apply List.ext_getElem
 ·simp
 ·intro i h2 h3
  simp only [List.length_map, List.length_range] at h2
  simp [List.getD_eq_getElem?_getD, h2]
end Go.Proofs.Ytfiiihpdekppiaa
end
section
namespace Go.Proofs.Ytfiiihpdekppiaa
open Go.RowKit Go.Proofs Go.Proofs.YtfiiihpdekppiaaW.PrintWords
open Go.ChangeMaps (setBlock heap_setBlock_same heap_setBlock_other)
theorem len_B {w : World} {b : Nat} {m : List (Int × Bool)} (h : w.heap[b]? = some (mB m)) (ty : TypeId) : (Builtin.len_ #[68] ty #[.map (some b)]).run Try.prog w = .ok (.int .i64 m.length) w := by
 rw [run_mlen h Try.underlying68]
 simp
section
variable {w0 w w' : World} {B : TarB} {ex : List (List Int)} {vs vo : Value} {vals rv : List Value} {rx : List (List Int)} {s : Tar}
theorem TarSt.turnedEv {vn v' : Value} {xs xs' : List Int} (h : TarSt w0 w B [vn] [xs] vs vo vals rv rx s) (hg : w.grownBy w' vn.ownBlock) (ho : w'.ownsRow w0.heap.size 3 1 v' xs'.length (nums .i64 xs')) (hat : v'.ownBlock = vn.ownBlock ∨ ∃ b, v'.ownBlock = some b ∧ w.heap.size ≤ b) : TarSt w0 w' B [v'] [xs'] vs vo vals rv rx s := by
 have hs := h.hr.row 1 (by simp)
 simp only [List.getD_cons_succ, List.singleton_append, List.getD_cons_zero] at hs
 have q : ∀ (k : Nat) (cs : Array Value) (t : TypeId) (fr : Nat × Nat), w.heap[k]? = some (Obj.cells cs t fr) → t ≠ 3 → w'.heap[k]? = some (Obj.cells cs t fr) := fun k cs t fr hk ht => grown_blk hg hs hk (Ne.symm ht)
 have hr6 := h.hr.turned (i := 1) (by simp) (v' := v') (xs' := xs') ho (by simpa using hg) (by simpa using hat)
 exact ⟨q _ _ _ _ h.bi (by decide), q _ _ _ _ h.bl (by decide), q _ _ _ _ h.bst (by decide), q _ _ _ _ h.bon (by decide), q _ _ _ _ h.bsp (by decide), q _ _ _ _ h.bse (by decide), q _ _ _ _ h.bf (by decide), q _ _ _ _ h.bo (by decide), grown_map hg hs h.mi, grown_map hg hs h.ml, grown_map hg hs h.mo,
  grown_row hg hs h.hout (by decide), h.len, by simpa using hr6, by simp, h.hb.grown hg h.hb.size (fun k hk => own_base hs k hk), h.ne1, h.ne2, h.ne3, h.ne4, h.b1, h.b2, h.b3, h.b4, h.b5⟩
theorem parts_rows {vn : Value} {xs : List Int} (h : TarSt w0 w B [vn] [xs] vs vo vals [] [] s) : Rows3 w w0.heap.size vals s.out := by
 have hr : Rows3 w w0.heap.size (vs :: vn :: vals) (s.st :: xs :: s.out) := by have := h.hr; simpa using this
 have hlen := h.len
 refine ⟨hlen, fun i hi => ?_, fun i j hi hj hne => ?_⟩
 ·have := hr.row (i + 2) (by simp; omega)
  simpa using this
 ·have := hr.apart (i + 2) (j + 2) (by simp; omega) (by simp; omega) (by omega)
  simpa using this
theorem TarSt.ahead {vn : Value} {xs : List Int} (h : TarSt w0 w B [vn] [xs] vs vo vals rv rx s) : w.ownsRow w0.heap.size 3 1 vn xs.length (nums .i64 xs) := by
 have hs := h.hr.row 1 (by simp)
 simpa using hs
theorem TarSt.lay {vn : Value} {xs : List Int} (h : TarSt w0 w B [] [] nilS vo [] [] [] { s with st := [], out := [] }) (hb : Below w.heap.size w w') (ho : w'.ownsRow w0.heap.size 3 1 vn xs.length (nums .i64 xs)) (hn : ∀ k, vn.ownBlock = some k → w.heap.size ≤ k) : TarSt w0 w' B [vn] [xs] nilS vo [] [] [] { s with st := [], out := [] } := by
 have h' := h.below hb
 have hr := h.hr.push_new hb ho hn
 exact ⟨h'.bi, h'.bl, h'.bst, h'.bon, h'.bsp, h'.bse, h'.bf, h'.bo, h'.mi, h'.ml, h'.mo, h'.hout, h'.len, by simpa using hr, rfl, h'.hb, h'.ne1, h'.ne2, h'.ne3, h'.ne4, h'.b1, h'.b2, h'.b3, h'.b4, h'.b5⟩
theorem TarSt.iter {ev : List Value} (h : TarSt w0 w B ev ex vs vo vals rv rx s) {b bm m c : Nat} {sn : Array Nat} (hi : w.heap[b]? = some (.mapIter (some bm) m sn c)) (hb : w0.heap.size ≤ b) (o : Obj) : TarSt w0 (setBlock w b o) B ev ex vs vo vals rv rx s := by
 have hk : ∀ (k : Nat) (o' : Obj), w.heap[k]? = some o' → k ≠ b → (setBlock w b o).heap[k]? = some o' := fun k o' hk hne => by
  rw [← hk]; simp [setBlock, Ne.symm hne]
 have hc : ∀ (k : Nat) (cs : Array Value) (t : TypeId) (fr : Nat × Nat), w.heap[k]? = some (Obj.cells cs t fr) → (setBlock w b o).heap[k]? = some (Obj.cells cs t fr) := fun k cs t fr h' => hk _ _ h' (fun e => by subst e; rw [hi] at h'; cases h')
 have hm : ∀ (k : Nat) (es : Array MapEntry) (ck : Nat), w.heap[k]? = some (Obj.map es ck) → (setBlock w b o).heap[k]? = some (Obj.map es ck) := fun k es ck h' => hk _ _ h' (fun e => by subst e; rw [hi] at h'; cases h')
 exact ⟨hc _ _ _ _ h.bi, hc _ _ _ _ h.bl, hc _ _ _ _ h.bst, hc _ _ _ _ h.bon, hc _ _ _ _ h.bsp, hc _ _ _ _ h.bse, hc _ _ _ _ h.bf, hc _ _ _ _ h.bo, hm _ _ _ h.mi, hm _ _ _ h.ml, hm _ _ _ h.mo,
  own_move h.hout (fun k hk' => by obtain ⟨cs, h'⟩ := own_typed h.hout k hk'; rw [h', hc _ _ _ _ h']), h.len, h.hr.typed (fun k cs h' => by rw [h', hc _ _ _ _ h']), h.elen,
  ⟨h.hb.os, h.hb.tape, h.hb.output, by simpa [setBlock] using h.hb.size, fun k hk' => by rw [← h.hb.block k hk']; simp [setBlock, show b ≠ k by omega]⟩, h.ne1, h.ne2, h.ne3, h.ne4, h.b1, h.b2, h.b3, h.b4, h.b5⟩
end
theorem grown_obj {w w1 : World} {base n k : Nat} {e : TypeId} {size : Nat} {v : Value} {xs : List Value} {o : Obj} (hg : w.grownBy w1 v.ownBlock) (ho : w.ownsRow base e size v n xs) (hb : w.heap[k]? = some o) (hc : o.isCells = false) : w1.heap[k]? = some o :=
 (hg.block k (blk_lt' hb) (fun e' => by obtain ⟨cs, hc'⟩ := own_typed ho k e'.symm; rw [hb] at hc'; cases hc'; simp [Obj.isCells] at hc)).trans hb
theorem ItSt.grown {w w1 : World} {base n : Nat} {e : TypeId} {size : Nat} {v : Value} {xs : List Value} {r bm : Nat} {l : List (Int × Value)} {seen : List Nat} (h : ItSt w r bm l seen) (hg : w.grownBy w1 v.ownBlock) (ho : w.ownsRow base e size v n xs) : ItSt w1 r bm l seen :=
 ⟨grown_obj hg ho h.hr rfl, grown_obj hg ho h.hb rfl, h.nd, h.lt⟩
def keysOf (l : List (Int × Value)) (seen : List Nat) : List Int := seen.map fun i => (l.getD i (0, .int .i64 0)).1
theorem keysOf_snoc (l : List (Int × Value)) (seen : List Nat) (i : Nat) (hi : i < l.length) : keysOf l (seen ++ [i]) = keysOf l seen ++ [l[i].1] := by simp [keysOf, List.getD_eq_getElem?_getD, hi]
set_option maxRecDepth 100000 in
set_option maxHeartbeats 4000000 in
theorem parts_any (w : World) (bs mse : Nat) (As : Option Addr) (cs k : Nat) (succ : List (List Int)) (set : List (Int × Bool)) (r : List (List Int)) (h1 : w.cell? ⟨bs, 0, none⟩ = some (.slice As succ.length cs)) (h2 : kG.C w As succ.length succ)
  (h3 : w.heap[mse]? = some (mB set)) (hl : ∀ l ∈ succ, l.length ≤ 1000000000) (hsl : set.length ≤ 1000000) (h : partsF k succ set = some r) :
  Calls Try.prog 58 #[.pointer (some ⟨bs, 0, none⟩), .map (some mse)] w fun e w' => ∃ v vals, e = .returned v ∧ w'.ownsRow w.heap.size 23 1 v vals.length vals ∧ Rows3 w' w.heap.size vals r ∧ Below w.heap.size w w' := by
 have H1 := Aside0.mk h1
 have H2 := Aside0.mk h2
 have H3 := Aside0.mk h3
 have HL := Aside0.mk hl
 have H := Aside0.mk h
 have hmm := @run_makeMap Try.prog
 clear h1 h2 h3 hl h
 go_enter Try.func58, Try.ntmps58
 have f5 := store_func (W := (((((((((((w.alloc (.cells #[.pointer (some ⟨bs, 0, none⟩)] 63)).alloc (.cells #[.map (some mse)] 68)).alloc (.map #[] 0)).alloc (.map #[] 0)).alloc (.cells #[.map (some (w.heap.size + 1 + 1))] 97)).alloc (.cells #[.map (some (w.heap.size + 1 + 1 + 1))] 97)).alloc (.cells #[.slice none 0 0] 23)).alloc (.map #[] 0)).alloc (.cells #[.map (some (w.heap.size + 1 + 1 + 1 + 1 + 1 + 1 + 1))] 68)).alloc (.cells #[.slice none 0 0] 25)).alloc (.cells #[.nilFunc] 109))) (p := ⟨w.heap.size + 1 + 1 + 1 + 1 + 1 + 1 + 1 + 1 + 1 + 1, 0, none⟩) (f := .func 78) (a := #[]) (b := #[.pointer (some ⟨w.heap.size + 1 + 1 + 1 + 1, 0, none⟩), .pointer (some ⟨w.heap.size + 1 + 1 + 1 + 1 + 1, 0, none⟩), .pointer (some ⟨w.heap.size + 1 + 1 + 1 + 1 + 1 + 1, 0, none⟩), .pointer (some ⟨w.heap.size + 1 + 1 + 1 + 1 + 1 + 1 + 1 + 1, 0, none⟩), .pointer (some ⟨w.heap.size, 0, none⟩), .pointer (some ⟨w.heap.size + 1, 0, none⟩), .pointer (some ⟨w.heap.size + 1 + 1 + 1 + 1 + 1 + 1 + 1 + 1 + 1 + 1, 0, none⟩), .pointer (some ⟨w.heap.size + 1 + 1 + 1 + 1 + 1 + 1 + 1 + 1 + 1, 0, none⟩)]) (cell_blk (heap_alloc_at _ _ (by simp)) rfl) (free_blk (heap_alloc_at _ _ (by simp)))
 go_upto_region 7 with (fail)
 obtain ⟨b10, hb10⟩ : ∃ b, b = w.heap.size + 1 + 1 + 1 + 1 + 1 + 1 + 1 + 1 + 1 + 1 := ⟨_, rfl⟩
 obtain ⟨b9, hb9⟩ : ∃ b, b = w.heap.size + 1 + 1 + 1 + 1 + 1 + 1 + 1 + 1 + 1 := ⟨_, rfl⟩
 obtain ⟨b8, hb8⟩ : ∃ b, b = w.heap.size + 1 + 1 + 1 + 1 + 1 + 1 + 1 + 1 := ⟨_, rfl⟩
 obtain ⟨b7, hb7⟩ : ∃ b, b = w.heap.size + 1 + 1 + 1 + 1 + 1 + 1 + 1 := ⟨_, rfl⟩
 obtain ⟨b6, hb6⟩ : ∃ b, b = w.heap.size + 1 + 1 + 1 + 1 + 1 + 1 := ⟨_, rfl⟩
 obtain ⟨b5, hb5⟩ : ∃ b, b = w.heap.size + 1 + 1 + 1 + 1 + 1 := ⟨_, rfl⟩
 obtain ⟨b4, hb4⟩ : ∃ b, b = w.heap.size + 1 + 1 + 1 + 1 := ⟨_, rfl⟩
 obtain ⟨b3, hb3⟩ : ∃ b, b = w.heap.size + 1 + 1 + 1 := ⟨_, rfl⟩
 obtain ⟨b2, hb2⟩ : ∃ b, b = w.heap.size + 1 + 1 := ⟨_, rfl⟩
 obtain ⟨b1, hb1⟩ : ∃ b, b = w.heap.size + 1 := ⟨_, rfl⟩
 obtain ⟨b0, hb0⟩ : ∃ b, b = w.heap.size := ⟨_, rfl⟩
 rw [← hb10, ← hb9, ← hb8, ← hb7, ← hb6, ← hb5, ← hb4, ← hb3, ← hb2, ← hb1, ← hb0]
 obtain ⟨W, hW⟩ : ∃ W, W = ((((((((((w.alloc (.cells #[.pointer (some ⟨bs, 0, none⟩)] 63)).alloc (.cells #[.map (some mse)] 68)).alloc (.map #[] 0)).alloc (.map #[] 0)).alloc (.cells #[.map (some b2)] 97)).alloc (.cells #[.map (some b3)] 97)).alloc (.cells #[.slice none 0 0] 23)).alloc (.map #[] 0)).alloc (.cells #[.map (some b7)] 68)).alloc (.cells #[.slice none 0 0] 25)).alloc (.cells #[.func (.func 78) #[] #[.pointer (some ⟨b4, 0, none⟩), .pointer (some ⟨b5, 0, none⟩), .pointer (some ⟨b6, 0, none⟩), .pointer (some ⟨b8, 0, none⟩), .pointer (some ⟨b0, 0, none⟩), .pointer (some ⟨b1, 0, none⟩), .pointer (some ⟨b10, 0, none⟩), .pointer (some ⟨b9, 0, none⟩)]] 109) := ⟨_, rfl⟩
 rw [← hW]
 obtain ⟨B, hB⟩ : ∃ B : TarB, B = ⟨b4, b5, b6, b8, b0, b1, b10, b9, b2, b3, b7, bs, mse⟩ := ⟨_, rfl⟩
 have T0 : TarSt w W ⟨b4, b5, b6, b8, b0, b1, b10, b9, b2, b3, b7, bs, mse⟩ [] [] (.slice none 0 0) (.slice none 0 0) [] [] [] { idx := [], low := [], st := [], on := [], out := [] } := by
  have hbelow : Below w.heap.size w W := by
   rw [hW]
   iterate 11 (refine Below.alloc ?_ (by first | omega | (simp only [World.size_alloc]; omega)) _)
   exact Below.refl _ _
  refine ⟨?_, ?_, ?_, ?_, ?_, ?_, ?_, ?_, ?_, ?_, ?_, own_nil _ _ _ _, rfl, ?_, rfl, hbelow, by simp; omega, by simp; omega, by simp; omega, by simp [Value.ownBlock], by simp; omega, by simp; omega, by simp; omega, by simp; omega, by simp; omega⟩
  all_goals first
   | (rw [hW]; (repeat (first | (refine heap_alloc_at _ _ ?_; (first | omega | (simp; done) | (simp; omega))) | (rw [heap_alloc_old]; rotate_left; (focus (first | omega | (simp; done) | (simp; omega)))))); done)
   | (simpa using (Rows3.nil W w.heap.size).push_nil)
 have hse : W.cell? ⟨b1, 0, none⟩ = some (.map (some mse)) := cell_blk T0.bse rfl
 have hlen := len_B (blk_below H3.out T0.hb) 3
 have hmk := fun W => Go.run_make_room (P := Try.prog) 23 3 (.int .i64 0) 8 Try.underlying23 PShapeReducible.info3 rfl .i64 .i64 set.length (by omega) (by omega) W
 have TT := Aside0.mk T0
 have hrg := fun (w' : World) (hb : w'.heap[mse]? = some (mB set)) => it_start (P := Try.prog) Try.underlying68 hb
 have hm1 : (W.alloc (.cells (madeCells #[.int .i64 0] set.length) 3)).heap[mse]? = some (mB set) := (heap_alloc_old _ _ (blk_lt' (blk_below H3.out T0.hb))).trans (blk_below H3.out T0.hb)
 obtain ⟨hr1, hr2⟩ := hrg _ hm1
 have hse2 : (W.alloc (.cells (madeCells #[.int .i64 0] set.length) 3)).cell? ⟨b1, 0, none⟩ = some (.map (some mse)) := cell_alloc _ hse
 have HB0 := Aside0.mk hb0
 clear hW hB T0 hrg hm1 f5 hmm hb10 hb9 hb8 hb7 hb6 hb5 hb4 hb3 hb2 hb1 hb0
 obtain ⟨Bl, hBl⟩ : ∃ Bl : TarB, Bl = ⟨b4, b5, b6, b8, b0, b1, b10, b9, b2, b3, b7, bs, mse⟩ := ⟨_, rfl⟩
 obtain ⟨L, hLL⟩ : ∃ L, L = set.map fun p => (p.1, Value.bool p.2) := ⟨_, rfl⟩
 go_wp2_with fail
 obtain ⟨rI, hrI⟩ : ∃ rI, rI = W.heap.size + 1 := ⟨_, rfl⟩
 obtain ⟨W2, hW2⟩ : ∃ W2, W2 = ((W.alloc (.cells (madeCells #[.int .i64 0] set.length) 3)).alloc (.mapIter (some mse) set.length #[] set.length)) := ⟨_, rfl⟩
 have IT0 : ItSt W2 rI mse L [] := by rw [hW2, hrI, hLL]; simpa using hr2
 have TS0 : TarSt w W2 Bl [.slice (some ⟨W.heap.size, 0, none⟩) 0 set.length] [keysOf L []] nilS nilS [] [] [] { idx := [], low := [], st := [], on := [], out := [] } := by
  rw [hBl, hW2]
  refine TarSt.lay (s := { idx := [], low := [], st := [], on := [], out := [] }) TT.out (((Below.refl _ _).alloc (Nat.le_refl _) _).alloc (by simp) _) ?_ (fun k hk => by simp only [Value.ownBlock, Option.some.injEq] at hk; omega)
  have := (World.ownsRow_made (base := w.heap.size) (e := 3) (size := 1) W (madeCells #[.int .i64 0] set.length) set.length TT.out.hb.size (by simp only [maxLen]; omega) (by rw [size_madeCells]; omega)).alloc (.mapIter (some mse) set.length #[] set.length)
  simpa [keysOf, nums] using this
 rw [← hrI, ← hW2]
 have hrw : w.heap.size ≤ rI := by have := TT.out.hb.size; omega
 have hLs : L.length = set.length := by rw [hLL]; simp
 have hkeys : L.map (·.1) = set.map (·.1) := by rw [hLL]; simp
 have IT := Aside0.mk IT0
 have TS := Aside0.mk TS0
 have HLS := Aside0.mk hLs
 have HKEY := Aside0.mk hkeys
 have HBL := Aside0.mk hBl
 clear hse hlen hmk hr1 hr2 hse2 IT0 TS0 hrI hW2 hLL hLs hkeys hBl
 go_loopg [11] (set.length + 1) (fun kq v11 wr => ∃ seen : List Nat, seen.length + kq = set.length + 1 ∧ Aside0 (ItSt wr rI mse L seen) ∧ Aside0 (TarSt w wr Bl [v11] [keysOf L seen] nilS nilS [] [] [] { idx := [], low := [], st := [], on := [], out := [] }))
 case atStart => exact ⟨[], by simp, IT, TS⟩
 case round =>
  obtain ⟨seen, hsn, hI, hT⟩ := hrel
  obtain ⟨A11, c11, rfl⟩ := own_slice hT.out.ahead
  rcases it_next (P := Try.prog) hI.out 0 with ⟨hend, hrun⟩ | ⟨i, hi, w1, w2, hns, hw1, hw2, hrun, hentry, hI2⟩
  ·have hperm := sortI_perm (seen_keys hI.out.nd hI.out.lt hend)
   have hks : sortI (keysOf L seen) = sortI (set.map (·.1)) := by rw [← HKEY.out]; exact hperm
   have HKS := Aside0.mk hks
   have HEND := Aside0.mk hend
   clear hperm hks hend
   have hkl : (keysOf L seen).length ≤ 1000000 := by simp only [keysOf, List.length_map]; have := HEND.out; have := HLS.out; omega
   obtain ⟨ns, hns⟩ : ∃ ns, ns = sortI (set.map (·.1)) := ⟨_, rfl⟩
   obtain ⟨s9, hall, hout⟩ := Option.map_eq_some_iff.1 H.out
   rw [← hns] at hall
   have hnsl : (keysOf L seen).length = ns.length := by rw [hns, ← HKS.out, sortI_length]
   rw [hnsl] at hkl
   have HALL := Aside0.mk hall
   have HOUT := Aside0.mk hout
   have HNS := Aside0.mk hns
   have HNL := Aside0.mk hnsl
   clear hall hout hns hnsl
   go_wp2_with (go_at_call 81; refine (sort_any wr w.heap.size _ (keysOf L seen) hT.out.ahead (by have := HNL.out; omega)).mono ?_; rintro e w10 ⟨rfl, ho10, hg10⟩; have T10 := hT.out.turnedEv (v' := .slice A11 (keysOf L seen).length c11) (xs' := ns) hg10 (by rw [HNS.out, ← HKS.out, sortI_length]; exact ho10) (.inl rfl); rw [HNL.out] at T10; have T10 := Aside0.mk T10; rw [HNL.out]; clear ho10 hg10)
   obtain ⟨A11', c11', he11, hc11, hC11⟩ := own_C T10.out.ahead
   have CN := Aside0.mk hC11
   clear he11 hC11
   go_loopw [38] (fun t wr => ∃ (i : Nat) (sc : Tar) (vs vo : Value) (vals : List Value), t = .int .i64 i ∧ i ≤ ns.length ∧ Aside0 (tarAll succ set k (ns.drop i) sc = some s9) ∧ Aside0 (TarSt w wr Bl [.slice A11 ns.length c11] [ns] vs vo vals [] [] sc)) (fun t _ => ns.length - (intOf t).toNat)
   case atStart => exact ⟨0, _, _, _, _, rfl, Nat.zero_le _, by simpa using HALL, T10⟩
   case round =>
    obtain ⟨i, sc, vs, vo, vals, rfl, hi, hA, hTv⟩ := hrel
    have h1 := hA.out
    by_cases hlt : i < ns.length
    ·obtain ⟨A12, c12, he12, hc12, hC12⟩ := own_C hTv.out.ahead
     simp only [Value.slice.injEq, true_and] at he12
     obtain ⟨rfl, rfl⟩ := he12
     obtain ⟨n, hn⟩ : ∃ n, n = ns.getD i 0 := ⟨_, rfl⟩
     rw [List.drop_eq_getElem_cons hlt, show ns[i] = n by simp [hn, List.getD_eq_getElem?_getD, hlt]] at h1
     simp only [tarAll] at h1
     obtain ⟨adl, rfl, e1⟩ := C_num hC12 i hlt
     rw [← hn] at e1
     have hlt' : (i : Int) < ns.length := by omega
     have b1 : wr.cell? ⟨Bl.i, 0, none⟩ = some (.map (some Bl.mi)) := cell_blk hTv.out.bi rfl
     have L1 := look_I2 hTv.out.mi n
     rw [HBL.out] at b1 L1
     dsimp only at b1 L1
     clear hn hA hC12
     cases q2 : mget sc.idx n with
     | none =>
      rw [if_pos q2] at h1
      rw [q2] at L1
      obtain ⟨s5, hv, h5⟩ := Option.bind_eq_some_iff.1 h1
      have HV := Aside0.mk hv
      have H5 := Aside0.mk h5
      have b7 : wr.cell? ⟨Bl.f, 0, none⟩ = some Bl.fv := cell_blk hTv.out.bf rfl
      unfold TarB.fv at b7
      rw [HBL.out] at b7
      dsimp only at b7
      have VA := Aside0.mk (visit_any w Bl [.slice (some adl) ns.length c11] [ns] As cs succ set (by rw [HBL.out]; exact ⟨H1.out, H2.out, H3.out, HL.out, fun _ _ => trivial⟩) k sc s5 n wr vs vo vals hTv.out HV.out)
      rw [HBL.out] at VA
      dsimp only at VA
      clear h1 hv h5 q2
      go_wp2_with (go_at_call 78; refine VA.out.mono ?_; rintro e w5 ⟨rfl, vs5, vo5, vals5, hT5⟩; rw [← HBL.out] at hT5; have T5 := Aside0.mk hT5; clear hT5)
      go_roundw
      case rel => exact ⟨i + 1, _, _, _, _, by go_num, by omega, H5, T5⟩
      case measure => simp [intOf]; omega
     | some ix =>
      rw [if_neg (by rw [q2]; simp)] at h1
      rw [q2] at L1
      have H5 := Aside0.mk h1
      clear h1 q2
      go_wp2
      go_roundw
      case rel => exact ⟨i + 1, _, _, _, _, by go_num, by omega, H5, hTv⟩
      case measure => simp [intOf]; omega
    ·obtain rfl : i = ns.length := by omega
     rw [List.drop_length] at h1
     simp only [tarAll, Option.some.injEq] at h1
     subst h1
     have k9 : wr.cell? ⟨Bl.o, 0, none⟩ = some vo := cell_blk hTv.out.bo rfl
     rw [HBL.out] at k9
     dsimp only at k9
     have HR := Aside0.mk (parts_rows hTv.out)
     go_wp2
     go_ret
     exact ⟨_, _, rfl, hTv.out.hout, by rw [← HOUT.out]; exact HR.out, hTv.out.hb⟩
  ·have hT1 : TarSt w w1 Bl [.slice A11 (keysOf L seen).length c11] [keysOf L seen] nilS nilS [] [] [] { idx := [], low := [], st := [], on := [], out := [] } := by rcases hw1 with rfl | rfl; exact hT.out; exact hT.out.drew
   have hr1 : w1.heap[rI]? = some (.mapIter (some mse) L.length seen.toArray L.length) := by rcases hw1 with rfl | rfl <;> exact hI.out.hr
   have hT2 := hT1.iter hr1 hrw (.mapIter (some mse) L.length (seen ++ [i]).toArray L.length)
   rw [← hw2] at hT2
   obtain ⟨x, hx⟩ : ∃ x, x = L[i].1 := ⟨_, rfl⟩
   obtain ⟨y, hy⟩ : ∃ y, y = L[i].2 := ⟨_, rfl⟩
   have hkx : keysOf L (seen ++ [i]) = keysOf L seen ++ [x] := by rw [keysOf_snoc L seen i hi, hx]
   rw [← hx, ← hy] at hrun hentry
   have hslt : seen.length < set.length := by
    have h2 := hI2.nd.length_le_of_subset (l₂ := List.range L.length) (fun j hj => by simpa using hI2.lt j hj)
    simp at h2
    have := HLS.out
    omega
   have hkl : (keysOf L seen).length = seen.length := by simp [keysOf]
   have hkl6 : (keysOf L seen).length ≤ 1000000 := by omega
   have T2 := Aside0.mk hT2
   have I2 := Aside0.mk hI2
   have HKX := Aside0.mk hkx
   clear hT1 hr1 hT2 hI2 hkx hx hy hw1 hw2 hns hkl
   go_wp2_with (first
    | ((with_reducible refine gate_dst (N := 33) rfl ?_); refine print_append_cells (w0 := w) w.heap.size rfl (.tmp 30) (.tmp 32) 23 3 (.int .i64 0) 1 8 rfl Try.underlying23 PShapeReducible.info3 rfl (by decide) (by decide) _ (keysOf L seen).length (nums .i64 (keysOf L seen)) [.int .i64 x] rfl rfl rfl (by simp [Value.oneCell']) T2.out.ahead T2.out.hb T2.out.hb.size (by omega) ?_; intro v5 w5 ho5 hb5 hg5 hat5; obtain ⟨A5, c5, rfl⟩ := own_slice ho5; have T5 := Aside0.mk (T2.out.turnedEv (xs' := keysOf L seen ++ [x]) hg5 (by simpa [nums] using ho5) hat5); have I5 := Aside0.mk (I2.out.grown hg5 T2.out.ahead); clear ho5 hb5 hg5 hat5))
   go_roundg (gk - 1)
   case measure => omega
   case rel => exact ⟨seen ++ [i], by simp; omega, I5, by rw [HKX.out]; exact T5⟩
end Go.Proofs.Ytfiiihpdekppiaa
end
section
namespace Go.Proofs.Ytfiiihpdekppiaa
open Go.RowKit Go.Proofs Go.Proofs.YtfiiihpdekppiaaW.PrintWords
open Go.ChangeMaps (setBlock heap_setBlock_same heap_setBlock_other)
structure Pc where
 foot : Nat → Prop
 says : World → Prop
 lt : ∀ {w : World}, says w → ∀ {b}, foot b → b < w.heap.size
 loc : ∀ {w w' : World}, says w → (∀ b, foot b → w'.heap[b]? = w.heap[b]?) → says w'
def Pc.blk (b : Nat) (o : Obj) : Pc where
 foot := fun k => k = b
 says := fun w => w.heap[b]? = some o
 lt := fun h _ e => by subst e; exact blk_lt' h
 loc := fun h hb => by rw [hb b rfl]; exact h
def Pc.row (v : Value) (e size n : Nat) (xs : List Value) : Pc where
 foot := fun k => v.ownBlock = some k
 says := fun w => w.ownsRow 0 e size v n xs
 lt := fun h k e => own_lt h k e
 loc := fun h hb => own_move h hb
def Pc.rows (vs : List Value) (xss : List (List Int)) : Pc where
 foot := fun k => ∃ i, i < vs.length ∧ (vs.getD i nilS).ownBlock = some k
 says := fun w => Rows3 w 0 vs xss
 lt := fun h k ⟨i, hi, hk⟩ => own_lt (h.row i hi) k hk
 loc := fun h hb => h.move (fun i k hi hk => hb k ⟨i, hi, hk⟩)
def Pc.kd {α : Type} (d : Kd α) (e : Nat) (ok : Nat → Prop) (v : Value) (xs : List α) : Pc where
 foot := ok
 says := fun w => d.R e w 0 ok v xs ∧ ∀ b, ok b → b < w.heap.size
 lt := fun h _ hk => h.2 _ hk
 loc := fun {w w'} h hb => ⟨Kd.R_move h.1 hb, fun b hk => by
  have := h.2 b hk
  have h1 := hb b hk
  rw [Array.getElem?_eq_getElem this] at h1
  exact (Array.getElem?_eq_some_iff.1 h1).1⟩
def Dis (c d : Pc) : Prop := ∀ b, c.foot b → ¬ d.foot b
theorem Dis.symm {c d : Pc} (h : Dis c d) : Dis d c := fun b hd hc => h b hc hd
structure MemL (w0 w : World) (L : List Pc) : Prop where
 hb : Below w0.heap.size w0 w
 says : ∀ c ∈ L, c.says w
 base : ∀ c ∈ L, ∀ b, c.foot b → w0.heap.size ≤ b
 apart : L.Pairwise Dis
def Mem (w0 w : World) (F H : List Pc) : Prop := MemL w0 w (H ++ F)
section
variable {w0 w w' : World} {F H L : List Pc}
theorem MemL.perm {L' : List Pc} (h : MemL w0 w L) (hp : L'.Perm L) : MemL w0 w L' :=
 ⟨h.hb, fun c hc => h.says c (hp.mem_iff.1 hc), fun c hc => h.base c (hp.mem_iff.1 hc), (hp.pairwise_iff (fun {_ _} => Dis.symm)).2 h.apart⟩
theorem MemL.step {c c' : Pc} (h : MemL w0 w (c :: L)) (hw : Chg c.foot w w') (hs : c'.says w') (hf : ∀ b, c'.foot b → c.foot b ∨ w.heap.size ≤ b) : MemL w0 w' (c' :: L) := by
 have hap := List.pairwise_cons.1 h.apart
 have hsz := h.hb.size
 refine ⟨h.hb.trans (hw.to_below hsz (fun k hk hc => by have := h.base c (by simp) k hc; omega)), ?_, ?_, ?_⟩
 ·intro d hd
  rcases List.mem_cons.1 hd with rfl | hd
  ·exact hs
  ·have hds := h.says d (by simp [hd])
   exact d.loc hds (fun b hb => hw.block b (d.lt hds hb) (fun hc => hap.1 d hd b hc hb))
 ·intro d hd b hb
  rcases List.mem_cons.1 hd with rfl | hd
  ·rcases hf b hb with h1 | h1
   ·exact h.base c (by simp) b h1
   ·omega
  ·exact h.base d (by simp [hd]) b hb
 ·refine List.pairwise_cons.2 ⟨fun d hd b h1 h2 => ?_, hap.2⟩
  rcases hf b h1 with h3 | h3
  ·exact hap.1 d hd b h3 h2
  ·have := d.lt (h.says d (by simp [hd])) h2
   omega
theorem MemL.new {c : Pc} (h : MemL w0 w L) (hw : Below w.heap.size w w') (hs : c.says w') (hf : ∀ b, c.foot b → w.heap.size ≤ b) : MemL w0 w' (c :: L) := by
 have hsz := h.hb.size
 refine ⟨h.hb.trans (hw.mono hsz), ?_, ?_, ?_⟩
 ·intro d hd
  rcases List.mem_cons.1 hd with rfl | hd
  ·exact hs
  ·have hds := h.says d hd
   exact d.loc hds (fun b hb => hw.block b (d.lt hds hb))
 ·intro d hd b hb
  rcases List.mem_cons.1 hd with rfl | hd
  ·have := hf b hb; omega
  ·exact h.base d hd b hb
 ·refine List.pairwise_cons.2 ⟨fun d hd b h1 h2 => ?_, h.apart⟩
  have := d.lt (h.says d hd) h2
  have := hf b h1
  omega
theorem MemL.below (h : MemL w0 w L) (hw : Below w.heap.size w w') : MemL w0 w' L :=
 ⟨h.hb.trans (hw.mono h.hb.size), fun d hd => d.loc (h.says d hd) (fun b hb => hw.block b (d.lt (h.says d hd) hb)), h.base, h.apart⟩
theorem MemL.merge {c d e : Pc} (h : MemL w0 w (c :: d :: L)) (hs : e.says w) (hf : ∀ b, e.foot b → c.foot b ∨ d.foot b) : MemL w0 w (e :: L) := by
 have h1 := List.pairwise_cons.1 h.apart
 have h2 := List.pairwise_cons.1 h1.2
 refine ⟨h.hb, ?_, ?_, ?_⟩
 ·intro x hx
  rcases List.mem_cons.1 hx with rfl | hx
  ·exact hs
  ·exact h.says x (by simp [hx])
 ·intro x hx b hb
  rcases List.mem_cons.1 hx with rfl | hx
  ·rcases hf b hb with h3 | h3
   ·exact h.base c (by simp) b h3
   ·exact h.base d (by simp) b h3
  ·exact h.base x (by simp [hx]) b hb
 ·refine List.pairwise_cons.2 ⟨fun x hx b hb hxb => ?_, h2.2⟩
  rcases hf b hb with h3 | h3
  ·exact h1.1 x (by simp [hx]) b h3 hxb
  ·exact h2.1 x hx b h3 hxb
theorem MemL.retell {c e : Pc} (h : MemL w0 w (c :: L)) (hs : e.says w) (hf : ∀ b, e.foot b → c.foot b) : MemL w0 w (e :: L) :=
 h.step ⟨rfl, rfl, rfl, Nat.le_refl _, fun _ _ _ => rfl⟩ hs (fun b hb => .inl (hf b hb))
theorem MemL.lose {c : Pc} (h : MemL w0 w (c :: L)) : MemL w0 w L :=
 ⟨h.hb, fun d hd => h.says d (by simp [hd]), fun d hd => h.base d (by simp [hd]), (List.pairwise_cons.1 h.apart).2⟩
theorem get_perm' {α : Type} : ∀ {l : List α} {k : Nat} {c : α}, l[k]? = some c → l.Perm (c :: l.eraseIdx k)
 | [], _, _, h => by simp at h
 | a :: l, 0, c, h => by
  simp only [List.getElem?_cons_zero, Option.some.injEq] at h
  subst h
  exact List.Perm.refl _
 | a :: l, k + 1, c, h => by
  simp only [List.getElem?_cons_succ] at h
  rw [List.eraseIdx_cons_succ]
  exact ((get_perm' h).cons a).trans (List.Perm.swap c a _)
theorem set_perm' {α : Type} : ∀ {l : List α} {k : Nat} {c : α}, l[k]? = some c → ∀ c' : α, (l.set k c').Perm (c' :: l.eraseIdx k)
 | [], _, _, h, _ => by simp at h
 | a :: l, 0, c, h, c' => by simp
 | a :: l, k + 1, c, h, c' => by
  simp only [List.getElem?_cons_succ] at h
  rw [List.set_cons_succ, List.eraseIdx_cons_succ]
  exact ((set_perm' h c').cons a).trans (List.Perm.swap c' a _)
theorem Mem.front {k : Nat} {c : Pc} (h : Mem w0 w F H) (hk : H[k]? = some c) : MemL w0 w (c :: (H.eraseIdx k ++ F)) :=
 MemL.perm h (List.Perm.append_right F (get_perm' hk)).symm
theorem Mem.back {k : Nat} {c c' : Pc} (hk : H[k]? = some c) (h : MemL w0 w (c' :: (H.eraseIdx k ++ F))) : Mem w0 w F (H.set k c') :=
 MemL.perm h (List.Perm.append_right F (set_perm' hk c'))
theorem Mem.step {k : Nat} {c : Pc} (h : Mem w0 w F H) (hk : H[k]? = some c) (c' : Pc) (hw : Chg c.foot w w') (hs : c'.says w') (hf : ∀ b, c'.foot b → c.foot b ∨ w.heap.size ≤ b) : Mem w0 w' F (H.set k c') :=
 Mem.back hk ((h.front hk).step hw hs hf)
theorem Mem.retell {k : Nat} {c : Pc} (h : Mem w0 w F H) (hk : H[k]? = some c) (c' : Pc) (hs : c'.says w) (hf : ∀ b, c'.foot b → c.foot b) : Mem w0 w F (H.set k c') :=
 Mem.back hk ((h.front hk).retell hs hf)
theorem Mem.new (h : Mem w0 w F H) (c : Pc) (hw : Below w.heap.size w w') (hs : c.says w') (hf : ∀ b, c.foot b → w.heap.size ≤ b) : Mem w0 w' F (H ++ [c]) := by
 have := MemL.new h hw hs hf
 refine MemL.perm this ?_
 rw [List.append_assoc]
 exact List.perm_middle
theorem Mem.below (h : Mem w0 w F H) (hw : Below w.heap.size w w') : Mem w0 w' F H := MemL.below h hw
theorem Mem.hb (h : Mem w0 w F H) : Below w0.heap.size w0 w := MemL.hb h
theorem Mem.size (h : Mem w0 w F H) : w0.heap.size ≤ w.heap.size := h.hb.size
theorem Mem.drew (h : Mem w0 w F H) : ∃ w2, w.drew = w2 ∧ Mem w0 w2 F H := ⟨_, rfl, h.below (Below.refl _ _).drew⟩
theorem Mem.drawn (h : Mem w0 w F H) (hd : Drawn0 w w') : Mem w0 w' F H := h.below hd.below
theorem Mem.lose {k : Nat} {c : Pc} (h : Mem w0 w F H) (hk : H[k]? = some c) : Mem w0 w F (H.eraseIdx k) := (h.front hk).lose
theorem Mem.perm {F' H' : List Pc} (h : Mem w0 w F H) (hp : (H' ++ F').Perm (H ++ F)) : Mem w0 w F' H' := MemL.perm h hp
theorem Mem.says {k : Nat} {c : Pc} (h : Mem w0 w F H) (hk : H[k]? = some c) : c.says w := MemL.says h c (by simp [List.mem_of_getElem? hk])
theorem Mem.base {k : Nat} {c : Pc} (h : Mem w0 w F H) (hk : H[k]? = some c) : ∀ b, c.foot b → w0.heap.size ≤ b := MemL.base h c (by simp [List.mem_of_getElem? hk])
theorem Mem.blk {k b : Nat} {o : Obj} (h : Mem w0 w F H) (hk : H[k]? = some (.blk b o)) : w.heap[b]? = some o := h.says hk
theorem Mem.cell {k b j t : Nat} {cs : Array Value} {fr : Nat × Nat} {u : Value} (h : Mem w0 w F H) (hk : H[k]? = some (.blk b (.cells cs t fr))) (hu : cs[j]? = some u) : w.cell? ⟨b, j, none⟩ = some u := cell_blk (h.blk hk) hu
theorem Mem.free {k b j t : Nat} {cs : Array Value} (h : Mem w0 w F H) (hk : H[k]? = some (.blk b (.cells cs t (0, 0)))) : w.frozen? ⟨b, j, none⟩ = false := free_blk (h.blk hk)
theorem own_rebase {w : World} {b b' e size n : Nat} {v : Value} {xs : List Value} (h : w.ownsRow b e size v n xs) (hb : ∀ k, v.ownBlock = some k → b' ≤ k) : w.ownsRow b' e size v n xs := by
 refine ⟨h.1, ?_⟩
 rcases h.2 with h2 | ⟨g, cap, cur, rfl, _, hh, r⟩
 ·exact .inl h2
 ·exact .inr ⟨g, cap, cur, rfl, hb g rfl, hh, r⟩
theorem Mem.row {k e size n : Nat} {v : Value} {xs : List Value} (h : Mem w0 w F H) (hk : H[k]? = some (.row v e size n xs)) : w.ownsRow w0.heap.size e size v n xs := own_rebase (h.says hk) (fun b hb => h.base hk b hb)
theorem Mem.rows {k : Nat} {vs : List Value} {xss : List (List Int)} (h : Mem w0 w F H) (hk : H[k]? = some (.rows vs xss)) : Rows3 w w0.heap.size vs xss := by
 have h0 : Rows3 w 0 vs xss := h.says hk
 exact ⟨h0.len, fun i hi => own_rebase (h0.row i hi) (fun b hb => h.base hk b ⟨i, hi, hb⟩), h0.apart⟩
theorem Rows3.low {w : World} {b : Nat} {vs : List Value} {xss : List (List Int)} (h : Rows3 w b vs xss) : Rows3 w 0 vs xss := ⟨h.len, fun i hi => own_weaken (h.row i hi) (Nat.zero_le _), h.apart⟩
theorem Mem.set {k b : Nat} (j : Nat) {t : Nat} {cs : Array Value} (h : Mem w0 w F H) (hk : H[k]? = some (.blk b (.cells cs t (0, 0)))) (u : Value) :
  ∃ w2, w.setCell ⟨b, j, none⟩ u = w2 ∧ Mem w0 w2 F (H.set k (.blk b (.cells (cs.setIfInBounds j u) t (0, 0)))) :=
 ⟨_, rfl, h.step hk _ ((Chg.refl (fun k => k = b) w).setCell (p := ⟨b, j, none⟩) (fun _ => rfl) u) (set_here (h.blk hk)) (fun _ hb => .inl hb)⟩
theorem Mem.put {k b : Nat} {o : Obj} (h : Mem w0 w F H) (hk : H[k]? = some (.blk b o)) (o' : Obj) : Mem w0 (setBlock w b o') F (H.set k (.blk b o')) := by
 have hlt := blk_lt' (h.blk hk)
 refine h.step hk _ ⟨rfl, rfl, rfl, by simp [setBlock], fun i _ hn => ?_⟩ ?_ (fun _ hb => .inl hb)
 ·simp only [Pc.blk] at hn
  simp [setBlock, Ne.symm hn]
 ·simp [Pc.blk, setBlock, hlt]
theorem Mem.putI {k b : Nat} {m : List (Int × Int)} (h : Mem w0 w F H) (hk : H[k]? = some (.blk b (mI m))) (x v : Int) :
  ∃ w2, (Instr.mapUpdate 97 (.map (some b)) (.int .i64 x) (.int .i64 v)).run Try.prog w = .ok () w2 ∧ Mem w0 w2 F (H.set k (.blk b (mI (mput m x v)))) :=
 ⟨_, put_I (h.blk hk) x v, h.put hk _⟩
theorem Mem.putB {k b : Nat} {m : List (Int × Bool)} (h : Mem w0 w F H) (hk : H[k]? = some (.blk b (mB m))) (x : Int) (v : Bool) :
  ∃ w2, (Instr.mapUpdate 68 (.map (some b)) (.int .i64 x) (.bool v)).run Try.prog w = .ok () w2 ∧ Mem w0 w2 F (H.set k (.blk b (mB (mput m x v)))) :=
 ⟨_, put_B (h.blk hk) x v, h.put hk _⟩
theorem Mem.alloc (h : Mem w0 w F H) (o : Obj) : ∃ b w2, w.heap.size = b ∧ w.alloc o = w2 ∧ Mem w0 w2 F (H ++ [.blk b o]) :=
 ⟨_, _, rfl, rfl, h.new (.blk w.heap.size o) ((Below.refl _ _).alloc (Nat.le_refl _) o) (heap_alloc_new _ _) (fun b hb => by simp only [Pc.blk] at hb; omega)⟩
theorem Mem.grow {k e size n : Nat} {v : Value} {xs : List Value} (h : Mem w0 w F H) (hk : H[k]? = some (.row v e size n xs)) (hg : w.grownBy w' v.ownBlock) {b' e' size' n' : Nat} {v' : Value} {xs' : List Value} (ho : w'.ownsRow b' e' size' v' n' xs')
  (hat : v'.ownBlock = v.ownBlock ∨ v'.ownBlock = none ∨ ∃ b, v'.ownBlock = some b ∧ w.heap.size ≤ b) : Mem w0 w' F (H.set k (.row v' e' size' n' xs')) := by
 refine h.step hk _ ((Chg.refl _ _).grown hg (fun i _ hi => hi)) (own_weaken ho (Nat.zero_le _)) (fun b hb => ?_)
 simp only [Pc.row] at hb ⊢
 rcases hat with e1 | e1 | ⟨b1, e1, e2⟩
 ·left; rw [← e1]; exact hb
 ·rw [e1] at hb; cases hb
 ·right; rw [e1] at hb; injection hb with hb; omega
theorem Mem.newrow {b e size n : Nat} {v : Value} {xs : List Value} (h : Mem w0 w F H) (hw : Below w.heap.size w w') (ho : w'.ownsRow b e size v n xs) (hn : ∀ k, v.ownBlock = some k → w.heap.size ≤ k) : Mem w0 w' F (H ++ [.row v e size n xs]) :=
 h.new _ hw (own_weaken ho (Nat.zero_le _)) hn
theorem Mem.nilrow (h : Mem w0 w F H) (e size : Nat) : Mem w0 w F (H ++ [.row nilS e size 0 []]) :=
 h.new _ (Below.refl _ _) (own_nil _ _ _ _) (fun b hb => by simp [Pc.row, Value.ownBlock] at hb)
theorem Mem.norows (h : Mem w0 w F H) : Mem w0 w F (H ++ [.rows [] []]) :=
 h.new _ (Below.refl _ _) (Rows3.nil _ _) (fun b ⟨i, hi, _⟩ => by simp at hi)
theorem Mem.rowsTurn {k i : Nat} {vs : List Value} {xss : List (List Int)} (h : Mem w0 w F H) (hk : H[k]? = some (.rows vs xss)) (hi : i < vs.length) {v' : Value} {xs' : List Int} {b' : Nat} (hg : w.grownBy w' (vs.getD i nilS).ownBlock) (ho : w'.ownsRow b' 3 1 v' xs'.length (nums .i64 xs'))
  (hat : v'.ownBlock = (vs.getD i nilS).ownBlock ∨ ∃ b, v'.ownBlock = some b ∧ w.heap.size ≤ b) : Mem w0 w' F (H.set k (.rows (vs.set i v') (xss.set i xs'))) := by
 have hr : Rows3 w 0 vs xss := h.says hk
 refine h.step hk _ ((Chg.refl _ _).grown hg (fun j _ hj => ⟨i, hi, hj⟩)) (hr.turned hi (own_weaken ho (Nat.zero_le _)) hg hat) ?_
 rintro b ⟨j, hj, hjb⟩
 rw [List.length_set] at hj
 by_cases hji : i = j
 ·subst hji
  rw [getD_set_self hi] at hjb
  rcases hat with e | ⟨b1, e1, e2⟩
  ·exact .inl ⟨i, hi, by rw [← e]; exact hjb⟩
  ·right; rw [e1] at hjb; injection hjb with hjb; omega
 ·rw [getD_set_other hji] at hjb
  exact .inl ⟨j, hj, hjb⟩
theorem Mem.join {k j : Nat} {vs : List Value} {xss : List (List Int)} {v : Value} {xs : List Int} (h : Mem w0 w F H) (hk : H[k]? = some (.rows vs xss)) (hj : (H.eraseIdx k)[j]? = some (.row v 3 1 xs.length (nums .i64 xs))) : Mem w0 w F (.rows (vs ++ [v]) (xss ++ [xs]) :: (H.eraseIdx k).eraseIdx j) := by
 have h1 := h.front hk
 have hp : (Pc.rows vs xss :: .row v 3 1 xs.length (nums .i64 xs) :: ((H.eraseIdx k).eraseIdx j ++ F)).Perm (.rows vs xss :: (H.eraseIdx k ++ F)) :=
  List.Perm.cons _ (List.Perm.append_right F (get_perm' hj)).symm
 have h2 := h1.perm hp
 have hr : Rows3 w 0 vs xss := h.says hk
 have ho : w.ownsRow 0 3 1 v xs.length (nums .i64 xs) := h2.says (.row v 3 1 xs.length (nums .i64 xs)) (by simp)
 have hdis := (List.pairwise_cons.1 h2.apart).1 (.row v 3 1 xs.length (nums .i64 xs)) (by simp)
 refine h2.merge (hr.push ho (fun i hi => ?_)) ?_
 ·cases hv : (vs.getD i nilS).ownBlock with
  | none => exact .inl rfl
  | some b => exact .inr (fun e => hdis b ⟨i, hi, hv⟩ e.symm)
 ·rintro b ⟨i, hi, hib⟩
  rw [List.length_append, List.length_singleton] at hi
  rcases Nat.lt_or_ge i vs.length with h3 | h3
  ·rw [getD_snoc_old h3] at hib; exact .inl ⟨i, h3, hib⟩
  ·have : i = vs.length := by omega
   subst this
   rw [getD_snoc_new] at hib
   exact .inr hib
end
def pick (H : List Pc) (idx : List Nat) : List Pc := idx.filterMap fun i => H[i]?
def rest (H : List Pc) (idx : List Nat) : List Pc := ((List.range H.length).filter fun i => !idx.contains i).filterMap fun i => H[i]?
def okIdx (n : Nat) : List Nat → Bool
 | [] => true
 | i :: r => decide (i < n) && !r.contains i && okIdx n r
theorem okIdx_perm (n : Nat) (idx : List Nat) (h : okIdx n idx = true) : (idx ++ (List.range n).filter fun i => !idx.contains i).Perm (List.range n) := by
 have h1 : idx.Nodup ∧ ∀ i ∈ idx, i < n := by
  induction idx with
  | nil => simp
  | cons i r ih =>
   simp only [okIdx, Bool.and_eq_true, decide_eq_true_eq, Bool.not_eq_true'] at h
   obtain ⟨⟨h1, h2⟩, h3⟩ := h
   obtain ⟨h4, h5⟩ := ih h3
   have h6 : i ∉ r := by simpa using h2
   refine ⟨List.nodup_cons.2 ⟨h6, h4⟩, fun j hj => ?_⟩
   rcases List.mem_cons.1 hj with rfl | hj
   ·exact h1
   ·exact h5 j hj
 refine (List.perm_ext_iff_of_nodup (List.nodup_append.2 ⟨h1.1, List.nodup_range.filter _, ?_⟩) List.nodup_range).2 ?_
 ·intro a ha b hb e
  subst e
  simp only [List.mem_filter, Bool.not_eq_true'] at hb
  simp [ha] at hb
 ·intro a
  simp only [List.mem_append, List.mem_filter, List.mem_range, Bool.not_eq_true']
  constructor
  ·rintro (h2 | h2)
   ·exact h1.2 a h2
   ·exact h2.1
  ·intro h2
   by_cases h3 : a ∈ idx
   ·exact .inl h3
   ·exact .inr ⟨h2, by simpa using h3⟩
theorem range_get (H : List Pc) : (List.range H.length).filterMap (fun i => H[i]?) = H := by
 induction H with
 | nil => rfl
 | cons a r ih =>
  rw [List.length_cons, List.range_succ_eq_map, List.filterMap_cons]
  simp only [List.getElem?_cons_zero, List.filterMap_map]
  congr 1
theorem pick_perm (H : List Pc) (idx : List Nat) (h : okIdx H.length idx = true) : (pick H idx ++ rest H idx).Perm H := by
 have := (okIdx_perm H.length idx h).filterMap (fun i => H[i]?)
 rw [List.filterMap_append, range_get] at this
 exact this
section
variable {w0 w w' : World} {F H H' : List Pc}
theorem Mem.focus (h : Mem w0 w F H) (idx : List Nat) (hi : okIdx H.length idx = true) : Mem w0 w (rest H idx ++ F) (pick H idx) :=
 h.perm (by rw [← List.append_assoc]; exact List.Perm.append_right F (pick_perm H idx hi))
theorem Mem.wide {R : List Pc} (h : Mem w0 w (R ++ F) H) : Mem w0 w F (H ++ R) := h.perm (by rw [List.append_assoc])
theorem Mem.order (h : Mem w0 w F H) (idx : List Nat) (hi : okIdx H.length idx = true) : Mem w0 w F (pick H idx ++ rest H idx) := (h.focus idx hi).wide
theorem Mem.start (w : World) : Mem w w [] [] := ⟨Below.refl _ _, by simp, by simp, by simp⟩
theorem Mem.sub {F' : List Pc} (h : Mem w0 w (F' ++ F) H) : Mem w0 w F H := by
 have h1 : Mem w0 w (F ++ F') H := h.perm (List.Perm.append_left _ List.perm_append_comm)
 have : MemL w0 w ((H ++ F) ++ F') := by rw [List.append_assoc]; exact h1
 exact ⟨this.hb, fun c hc => this.says c (by simp only [List.mem_append] at hc ⊢; exact .inl hc), fun c hc => this.base c (by simp only [List.mem_append] at hc ⊢; exact .inl hc), (List.pairwise_append.1 this.apart).1⟩
end
theorem mem_append {P : Program} {ops : Array Oper} {rest_ : List Oper} {o : Oper} {a : Act} {Q : Exit → Act → World → Prop} {w0 W : World} {F H : List Pc} (k : Nat) (s x : Operand) (t e : TypeId) (z : Value) (size bytes : Nat) (hgd : o.guard = none)
  (ho : o.op = .call { callee := .builtin .append, args := #[s, x], argTypes := #[t, t] })
  (ht : P.underlying t = some (.slice e)) (hinfo : (P.info? e).map (fun i => (i.zero, i.size, i.bytes)) = some (some z, size, bytes)) (hz : z.cells.size = size) (hs0 : 0 < size) (hb0 : 0 < bytes)
  (v : Value) (n : Nat) (xs ys : List Value) (hs : a.eval s = v) (hx : a.eval x = .slice (some ⟨W.heap.size, 0, none⟩) 1 1) (hys : ys.length = size) (h1 : ∀ u ∈ ys, u.oneCell' = true)
  (M : Mem w0 W F H) (hk : H[k]? = some (.row v e size n xs)) (hl : (n + 1) * bytes ≤ 140737488355328)
  (h : ∀ A c w1, Mem w0 w1 F (H.set k (.row (.slice A (n + 1) c) e size (n + 1) (xs ++ ys))) → wpList P ops Q rest_ (a.put o.dst (.slice A (n + 1) c)) w1) :
  wpList P ops Q (o :: rest_) a (W.alloc (.cells ys.toArray e)) := by
 refine print_append_cells (w0 := w0) w0.heap.size hgd s x t e z size bytes ho ht hinfo hz hs0 hb0 v n xs ys hs hx hys h1 (M.row hk) M.hb M.size hl ?_
 intro v1 w1 ho1 hb1 hg1 hat1
 obtain ⟨A, c, rfl⟩ := own_slice ho1
 exact h A c w1 (M.grow hk hg1 ho1 (hat1.imp id .inr))
end Go.Proofs.Ytfiiihpdekppiaa
end
