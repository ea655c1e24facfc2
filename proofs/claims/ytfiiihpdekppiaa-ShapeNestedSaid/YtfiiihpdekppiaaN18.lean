/- A part of the proof that vellumlaw12.ShapeNested is true for every input: walks of functions that the row reaches and plain laws that they need. Conditions: none. Joined by merge.py out of C28 S11 C29 C30; a part that began as a print is named P or W there and is trimmed. -/
import Derived.Test.YtfiiihpdekppiaaN15
import Derived.Test.YtfiiihpdekppiaaN17
set_option linter.unusedVariables false
set_option linter.unusedSimpArgs false
section
namespace Go.Proofs.Ytfiiihpdekppiaa
open Go.RowKit Go.Proofs Go.Proofs.YtfiiihpdekppiaaW.PrintWords
open Go.ChangeMaps (setBlock heap_setBlock_same heap_setBlock_other)
open PShapeReducible (S31 k31 at_T31 rd_T31 S77 k77 at_T77 rd_T77)
theorem modI_eq (a : Int) (m : Nat) (h0 : 0 < m) (h1 : m ≤ 4611686018427387903) : modI a m = a % (m : Int) := by
  unfold modI
  have h2 := Int.tmod_lt_of_pos a (show (0 : Int) < m by omega)
  have h3 : -(m : Int) < Int.tmod a m := by
    have := Int.tmod_lt_of_pos (-a) (show (0 : Int) < m by omega)
    rw [Int.neg_tmod] at this
    omega
  have h4 : wrap64 (Int.tmod a m + m) = Int.tmod a m + m := by unfold wrap64; omega
  rw [h4, Int.tmod_eq_emod_of_nonneg (by omega), Int.add_emod_right]
  rw [Int.tmod_eq_emod]
  split
  · simp
  · simp
theorem modI_range (a : Int) (m : Nat) (h0 : 0 < m) (h1 : m ≤ 4611686018427387903) : 0 ≤ modI a m ∧ modI a m < m := by
  rw [modI_eq a m h0 h1]
  exact ⟨Int.emod_nonneg _ (by omega), Int.emod_lt_of_pos _ (by omega)⟩
set_option maxHeartbeats 8000000 in
set_option maxRecDepth 100000 in
theorem mod_any (a0 a1 : Int) (w : World) (h : a1 ≠ 0) : Calls Try.prog 33 #[.int .i64 a0, .int .i64 a1] w fun e w' => e = .returned (.int .i64 (modI a0 a1)) ∧ Drawn0 w w' := by
  have c3b0 : (a1 == 0) = false := beq_eq_false_iff_ne.mpr h
  have c3b1 : (a1 != 0) = true := bne_iff_ne.mpr h
  go_enter Try.func33, Try.ntmps33
  go_wp2
  go_ret
  exact ⟨rfl, by repeat (first | exact Drawn0.refl _ | apply Drawn0.step)⟩
set_option maxRecDepth 100000 in
set_option maxHeartbeats 4000000 in
theorem rexec_any (w : World) (A : Option Addr) (n cg : Nat) (g : List (List Int)) (kind node label : Int) (kids : List S31) (ch : List Int) (Ac : Option Addr) (cc : Nat) (r : List Int) (hG : kG.C w A g.length g) (hgc : g.length ≤ cg) (A3 : Option Addr) (hK : k31.C w A3 kids.length kids) (hn : kids.length ≤ n) (hC : kI.C w Ac ch.length ch)
    (hg9 : g.length ≤ 1000000000) (hsz : szL kids ≤ 100000000) (h : rExecS ((compileF g ⟨kind, node, label, kids⟩).map Stp.s77) ch = some r) :
    Calls Try.prog 20 #[.agg #[.int .i64 kind, .int .i64 node, .int .i64 label, .slice A3 kids.length n], .agg #[.slice A g.length cg], .slice Ac ch.length cc] w fun e w' => ∃ v, e = .returned v ∧ Mem w w' [] [.row v 3 1 r.length (nums .i64 r)] := by
  obtain ⟨b2, w1, z1, a1, M1⟩ := (Mem.start w).alloc (.cells #[.int .i64 kind, .int .i64 node, .int .i64 label, .slice A3 kids.length n] 31)
  obtain ⟨b3, w2, z2, a2, M2⟩ := M1.alloc (.cells #[.slice A g.length cg] 27)
  have k1 := M2.cell (k := 1) (j := 0) rfl rfl
  have HG := Aside0.mk hG
  have HK := Aside0.mk hK
  have M2 := Aside0.mk M2
  have HN := Aside0.mk hn
  have HSZ := Aside0.mk hsz
  have HGC := Aside0.mk hgc
  have HCH := Aside0.mk hC
  have hchl : ch.length ≤ 9223372036854775807 := hC.2.1
  obtain ⟨L, hL⟩ : ∃ L, L = compileF g ⟨kind, node, label, kids⟩ := ⟨_, rfl⟩
  obtain ⟨SS, hSS⟩ : ∃ SS, SS = L.map Stp.s77 := ⟨_, rfl⟩
  have hs : rExecS SS ch = some r := by rw [hSS, hL]; exact h
  have HLL := Aside0.mk hL
  have HSE := Aside0.mk hSS
  have e0 := M2.out.cell (k := 0) (j := 0) rfl rfl
  have e1 := M2.out.cell (k := 0) (j := 1) rfl rfl
  have e2 := M2.out.cell (k := 0) (j := 2) rfl rfl
  have e3 := M2.out.cell (k := 0) (j := 3) rfl rfl
  clear hG hK M1 h hL hSS hn hsz hgc hC
  unfold rExecS at hs
  by_cases hz : SS.length = 0
  · rw [if_pos hz] at hs
    have hz' : ((SS.length : Int) == 0) = true := by simp [hz]
    have HB := Aside0.mk (Option.some.inj hs)
    clear hz hs
    go_enter Try.func20, Try.ntmps20
    go_wp2_with (first
      | (go_at_call 45; refine (compile_any w2 A cg n cg g kind node label kids (Kd.C_below HG.out M2.out.hb) hg9 HGC.out A3 (Kd.C_below HK.out M2.out.hb) HN.out HSZ.out).mono ?_; rintro e w4 ⟨v, ts, rfl, M4⟩; rw [← HLL.out] at M4; have M5 := M2.out.call M4; clear M4; obtain ⟨As, ns, rfl, hns, hCs⟩ := M5.stepsC (k := 2) (j := 3) rfl rfl; rw [← HSE.out] at hns hCs M5; have HNS := Aside0.mk hns; have HCS := Aside0.mk hCs; have hLs : L.length = SS.length := (by rw [HSE.out]; simp); clear hns hCs; rw [← HSE.out]; have M5 := Aside0.mk M5))
    go_ret
    refine ⟨nilS, rfl, ?_⟩
    rw [← HB.out]
    exact ((Mem.start w).below M5.out.hb).nilrow 3 1
  rw [if_neg hz] at hs
  have hz' : ((SS.length : Int) == 0) = false := by simpa using hz
  obtain ⟨f, hf, hs⟩ := Option.bind_eq_some_iff.1 hs
  have HF := Aside0.mk hf
  unfold nx at HF
  have HS := Aside0.mk hs
  clear hz hs hf
  go_enter Try.func20, Try.ntmps20
  go_wp2_with (first
    | (go_at_call 45; refine (compile_any w2 A cg n cg g kind node label kids (Kd.C_below HG.out M2.out.hb) hg9 HGC.out A3 (Kd.C_below HK.out M2.out.hb) HN.out HSZ.out).mono ?_; rintro e w4 ⟨v, ts, rfl, M4⟩; rw [← HLL.out] at M4; have M5 := M2.out.call M4; clear M4; obtain ⟨As, ns, rfl, hns, hCs⟩ := M5.stepsC (k := 2) (j := 3) rfl rfl; rw [← HSE.out] at hns hCs M5; have HNS := Aside0.mk hns; have HCS := Aside0.mk hCs; have hLs : L.length = SS.length := (by rw [HSE.out]; simp); clear hns hCs; rw [← HSE.out]; have M5 := Aside0.mk M5)
    | (go_at_call 46; refine (PShapeReducible.vellumref12_Next.calls _ As ns SS 0 f w4 HCS.out HNS.out HF.out).mono ?_; rintro e w6 ⟨rfl, hd6⟩; have M6 := Aside0.mk ((M5.out.drawn hd6).nilrow 3 1); clear hd6))
  clear k1 z1 z2 a1 a2 M2 M5 e0 e1 e2 e3
  go_loopg [8, 9, 10] 202 (fun kq v8 v9 v10 wr => ∃ (k : Nat) (at_ : Int) (out : List Int), v8 = .int .i64 at_ ∧ v10 = .int .i64 k ∧ Aside0 (out.length = k) ∧ Aside0 (rExe SS ch kq k at_ out = some r) ∧ Aside0 (Mem w wr [] [.blk b2 (.cells #[.int .i64 kind, .int .i64 node, .int .i64 label, .slice A3 kids.length n] 31 (0, 0)), .blk b3 (.cells #[.slice A g.length cg] 27 (0, 0)), .row (.slice As SS.length ns) 77 3 L.length (recs (L.map Stp.cells) ts), .rows ts (L.map Stp.tos), .row v9 3 1 out.length (nums .i64 out)]))
  case atStart => exact ⟨0, f, [], rfl, rfl, ⟨rfl⟩, HS, M6⟩
  case round =>
    clear M6 HS HF
    obtain ⟨k, at_, out, rfl, rfl, hO, hH, hM⟩ := hrel
    have h := hH.out
    obtain ⟨A9, c9, rfl, _⟩ := hM.out.rowSlice' (k := 4) rfl
    cases hk : gk with
    | zero => rw [hk] at h; simp [rExe] at h
    | succ gk' =>
      rw [hk] at h
      have HK' := Aside0.mk hk
      clear hH hk
      rw [rExe] at h
      by_cases hneg : at_ < 0
      · rw [if_pos hneg] at h
        have HB := Aside0.mk (Option.some.inj h)
        have hneg' : ¬ at_ ≥ 0 := by omega
        clear h
        go_wp2
        go_ret
        refine ⟨_, rfl, ?_⟩
        rw [← HB.out]
        exact (((hM.out.lose (k := 3) rfl).lose (k := 2) rfl).lose (k := 1) rfl).lose (k := 0) rfl
      rw [if_neg hneg] at h
      have hr0 : at_ < SS.length ∧ k ≤ 1000 ∧ (rd_T77 SS at_).f2.length ≤ 1000000000 := Classical.byContradiction fun hc => by rw [if_neg hc] at h; cases h
      rw [if_pos hr0] at h
      obtain ⟨q, rfl⟩ : ∃ q : Nat, at_ = q := ⟨at_.toNat, by omega⟩
      have hql : (q : Int) < SS.length := hr0.1
      have HQL := Aside0.mk (show q < SS.length by omega)
      have hk9 := hr0.2.1
      have htl9 := hr0.2.2
      have hneg' : (q : Int) ≥ 0 := by omega
      have hcells : ∀ w', Below w.heap.size w w' → (∀ b, b < wr.heap.size → w'.heap[b]? = wr.heap[b]?) → True := fun _ _ _ => trivial
      have N1 : ∀ w', (∃ H, Mem w w' [] H ∧ H[2]? = some (.row (.slice As SS.length ns) 77 3 L.length (recs (L.map Stp.cells) ts)) ∧ H[3]? = some (.rows ts (L.map Stp.tos))) → ∃ ad A2 c2, As = some ad ∧ w'.cell? ⟨(ad.add (q * 3)).block, (ad.add (q * 3)).off + 1, none⟩ = some (.int .i64 (rd_T77 SS q).f1) ∧ w'.cell? ⟨(ad.add (q * 3)).block, (ad.add (q * 3)).off + 2, none⟩ = some (.slice A2 (rd_T77 SS q).f2.length c2) ∧ (rd_T77 SS q).f2.length ≤ c2 ∧ kI.C w' A2 (rd_T77 SS q).f2.length (rd_T77 SS q).f2 ∧ k77.C w' As SS.length SS := by
        rintro w' ⟨H, hM', h2, h3⟩
        obtain ⟨A', n', e', hn', hC'⟩ := hM'.stepsC (k := 2) (j := 3) h2 h3
        rw [← HSE.out] at hn' hC' e'
        have e'' : As = A' := by injection e'
        rw [← e''] at hC'
        obtain ⟨ads', A2, c2, e2, _, g1, g2, hc2, hC2⟩ := step_at hC' q HQL.out
        exact ⟨ads', A2, c2, e2, g1, g2, hc2, hC2, hC'⟩
      clear hcells
      obtain ⟨ad, A2, c2, rfl, g1, _, _, _, _⟩ := N1 wr ⟨_, hM.out, rfl, rfl⟩
      obtain ⟨nd, hnd⟩ : ∃ nd, nd = (rd_T77 SS q).f1 := ⟨_, rfl⟩
      obtain ⟨tos, htos⟩ : ∃ tos, tos = (rd_T77 SS q).f2 := ⟨_, rfl⟩
      rw [← hnd] at g1
      rw [← hnd, ← htos] at h
      rw [← htos] at htl9
      have HND := Aside0.mk hnd
      have HTOS := Aside0.mk htos
      have N1 := Aside0.mk N1
      clear hnd htos
      by_cases hend : ch.length ≤ k ∨ 200 ≤ k ∨ tos.length = 0
      · rw [if_pos hend] at h
        have HB := Aside0.mk (Option.some.inj h)
        by_cases h1 : ch.length ≤ k
        · have h1' : ((k : Int) ≥ (ch.length : Int)) := by omega
          clear h hend h1
          go_wp2_with (first
            | ((with_reducible refine gate_dst (N := 30) rfl ?_); refine mem_append 4 (.tmp 23) (.tmp 29) 23 3 (.int .i64 0) 1 8 rfl rfl Try.underlying23 PShapeReducible.info3 rfl (by decide) (by decide) _ out.length (nums .i64 out) [.int .i64 nd] rfl rfl rfl (by simp [Value.oneCell']) hM.out rfl (by have := hO.out; omega) ?_; intro A10 c10 w10 M10; obtain ⟨ad', A2', c2', e2', _, t2, t3, t4, t5⟩ := N1.out w10 ⟨_, M10, rfl, rfl⟩; obtain rfl : ad = ad' := (by injection e2'); rw [← HTOS.out] at t2 t3 t4; have T4 := Aside0.mk t4; have T5 := Aside0.mk t5; have M10 := Aside0.mk M10; clear t3 t4 t5 e2'))
          go_ret
          refine ⟨_, rfl, ?_⟩
          rw [← HB.out, nums_append, List.length_append]
          exact (((M10.out.lose (k := 3) rfl).lose (k := 2) rfl).lose (k := 1) rfl).lose (k := 0) rfl
        · have h1' : ¬ ((k : Int) ≥ (ch.length : Int)) := by omega
          by_cases h2 : 200 ≤ k
          · have h2' : ((k : Int) ≥ 200) := by omega
            clear h hend h1 h2
            go_wp2_with (first
              | ((with_reducible refine gate_dst (N := 30) rfl ?_); refine mem_append 4 (.tmp 23) (.tmp 29) 23 3 (.int .i64 0) 1 8 rfl rfl Try.underlying23 PShapeReducible.info3 rfl (by decide) (by decide) _ out.length (nums .i64 out) [.int .i64 nd] rfl rfl rfl (by simp [Value.oneCell']) hM.out rfl (by have := hO.out; omega) ?_; intro A10 c10 w10 M10; obtain ⟨ad', A2', c2', e2', _, t2, t3, t4, t5⟩ := N1.out w10 ⟨_, M10, rfl, rfl⟩; obtain rfl : ad = ad' := (by injection e2'); rw [← HTOS.out] at t2 t3 t4; have T4 := Aside0.mk t4; have T5 := Aside0.mk t5; have M10 := Aside0.mk M10; clear t3 t4 t5 e2'))
            go_ret
            refine ⟨_, rfl, ?_⟩
            rw [← HB.out, nums_append, List.length_append]
            exact (((M10.out.lose (k := 3) rfl).lose (k := 2) rfl).lose (k := 1) rfl).lose (k := 0) rfl
          · have h2' : ¬ ((k : Int) ≥ 200) := by omega
            have h3' : ((tos.length : Int) == 0) = true := by simp [(hend.resolve_left h1).resolve_left h2]
            clear h hend h1 h2
            go_wp2_with (first
              | ((with_reducible refine gate_dst (N := 30) rfl ?_); refine mem_append 4 (.tmp 23) (.tmp 29) 23 3 (.int .i64 0) 1 8 rfl rfl Try.underlying23 PShapeReducible.info3 rfl (by decide) (by decide) _ out.length (nums .i64 out) [.int .i64 nd] rfl rfl rfl (by simp [Value.oneCell']) hM.out rfl (by have := hO.out; omega) ?_; intro A10 c10 w10 M10; obtain ⟨ad', A2', c2', e2', _, t2, t3, t4, t5⟩ := N1.out w10 ⟨_, M10, rfl, rfl⟩; obtain rfl : ad = ad' := (by injection e2'); rw [← HTOS.out] at t2 t3 t4; have T4 := Aside0.mk t4; have T5 := Aside0.mk t5; have M10 := Aside0.mk M10; clear t3 t4 t5 e2'))
            go_ret
            refine ⟨_, rfl, ?_⟩
            rw [← HB.out, nums_append, List.length_append]
            exact (((M10.out.lose (k := 3) rfl).lose (k := 2) rfl).lose (k := 1) rfl).lose (k := 0) rfl
      · rw [if_neg hend] at h
        have h1' : ¬ ((k : Int) ≥ (ch.length : Int)) := fun hc => hend (.inl (by omega))
        have h2' : ¬ ((k : Int) ≥ 200) := fun hc => hend (.inr (.inl (by omega)))
        have htz : tos.length ≠ 0 := fun hc => hend (.inr (.inr hc))
        have h3' : ((tos.length : Int) == 0) = false := beq_eq_false_iff_ne.mpr (by omega)
        have hkl : k < ch.length := by omega
        have hkl' : (k : Int) < ch.length := by omega
        obtain ⟨x, hx⟩ : ∃ x, x = ch.getD k 0 := ⟨_, rfl⟩
        rw [← hx] at h
        obtain ⟨mo, hmo⟩ : ∃ mo, mo = modI x tos.length := ⟨_, rfl⟩
        rw [← hmo] at h
        obtain ⟨m, hm1, hm2⟩ := Option.bind_eq_some_iff.1 h
        have HM1 := Aside0.mk hm1
        have HM2 := Aside0.mk hm2
        unfold nx at HM1
        obtain ⟨adc, rfl, _⟩ := C_num HCH.out k hkl
        have MOD := Aside0.mk (fun w => mod_any x tos.length w (by omega))
        have HX := Aside0.mk hx
        have HMO := Aside0.mk hmo
        have HKL := Aside0.mk hkl
        have hmr := modI_range x tos.length (by omega) (by omega)
        rw [← hmo] at hmr
        obtain ⟨mp, rfl⟩ : ∃ q : Nat, mo = q := ⟨mo.toNat, by omega⟩
        rw [Int.toNat_natCast] at HM1
        obtain ⟨tv, htv⟩ : ∃ tv, tv = tos.getD mp 0 := ⟨_, rfl⟩
        rw [← htv] at HM1
        have HTV := Aside0.mk htv
        have hmr' : (mp : Int) < tos.length := hmr.2
        have HMR := Aside0.mk (show mp < tos.length by omega)
        clear h hend hx hm1 hm2 hmo hkl htz htv hmr
        go_wp2_with (first
          | ((with_reducible refine gate_dst (N := 30) rfl ?_); refine mem_append 4 (.tmp 23) (.tmp 29) 23 3 (.int .i64 0) 1 8 rfl rfl Try.underlying23 PShapeReducible.info3 rfl (by decide) (by decide) _ out.length (nums .i64 out) [.int .i64 nd] rfl rfl rfl (by simp [Value.oneCell']) hM.out rfl (by have := hO.out; omega) ?_; intro A10 c10 w10 M10; obtain ⟨ad', A2', c2', e2', _, t2, t3, t4, t5⟩ := N1.out w10 ⟨_, M10, rfl, rfl⟩; obtain rfl : ad = ad' := (by injection e2'); rw [← HTOS.out] at t2 t3 t4; have T4 := Aside0.mk t4; have T5 := Aside0.mk t5; have M10 := Aside0.mk M10; clear t3 t4 t5 e2')
          | (obtain ⟨w11, z11, M11⟩ := M10.out.drew; rw [z11]; have t1' : w11.cell? (adc.add k) = some (.int .i64 x) := (by obtain ⟨adc', e, tc⟩ := C_num (Kd.C_below HCH.out M11.hb) k HKL.out; injection e with e; subst e; rw [← HX.out] at tc; exact tc); obtain ⟨ad', A2'', c2'', e2', _, t2'', t3, t4, t5⟩ := N1.out w11 ⟨_, M11, rfl, rfl⟩; obtain rfl : ad = ad' := (by injection e2'); rw [← HTOS.out] at t2'' t3 t4; obtain ⟨ad6, e6, t6⟩ := C_num t4 mp (by have := HMR.out; omega); subst e6; rw [← HTV.out] at t6; have T6 := Aside0.mk t6; have T7 := Aside0.mk t5; have M11 := Aside0.mk M11; clear t3 t4 t5 t6 e2' t2)
          | (refine wp_region_txt (fun _ => True) [1016, 1019] (by kernel_rfl) (by kernel_rfl) ?_))
        iterate 16 (first | (with_reducible refine wpT_nil ?_) | (refine wpT_W (v := ?_) trivial (by decide) (wanted_none rfl) (fun _ hS_ => ?_) ?_; rotate_left; (focus ((try dsimp only at hS_); go_simp; rfl)); (simp only [Act.put, List.setIfInBounds_toArray, List.set_cons_zero, List.set_cons_succ])) | (refine wpT_R (v := ?_) trivial (by decide) (wanted_none rfl) ?_ ?_; rotate_left; (focus (go_simp; rfl)); (simp only [Act.put, List.setIfInBounds_toArray, List.set_cons_zero, List.set_cons_succ])) | (refine wpT_A (v := ?_) (ob := ?_) trivial (by decide) (wanted_none rfl) ?_ ?_ ?_; rotate_left 2; (focus (go_simp; first | (constructor <;> rfl) | rfl)); (focus (exact trivial)); (simp only [Act.put, List.setIfInBounds_toArray, List.set_cons_zero, List.set_cons_succ])))
        refine wpT_LA trivial (by decide) (wanted_none rfl) (fun K_ hK_ => ?_)
        go_wp2_with (go_at_call 33; refine (MOD.out w11).mono ?_; rintro e w12 ⟨rfl, hd12⟩; rw [← HMO.out])
        have t6 := pw_cell_below hd12.below T6.out
        have T8 := Aside0.mk (Kd.C_below T7.out hd12.below)
        have M12 := Aside0.mk (M11.out.drawn hd12)
        refine hK_ _ _ ⟨hd12.below.size, hd12.below.block⟩ trivial ?_
        clear hK_ hd12
        iterate 2 (first | (with_reducible refine wpT_nil ?_) | (refine wpT_W (v := ?_) trivial (by decide) (wanted_none rfl) (fun _ hS_ => ?_) ?_; rotate_left; (focus ((try dsimp only at hS_); go_simp; rfl)); (simp only [Act.put, List.setIfInBounds_toArray, List.set_cons_zero, List.set_cons_succ])) | (refine wpT_R (v := ?_) trivial (by decide) (wanted_none rfl) ?_ ?_; rotate_left; (focus (go_simp; rfl)); (simp only [Act.put, List.setIfInBounds_toArray, List.set_cons_zero, List.set_cons_succ])) | (refine wpT_A (v := ?_) (ob := ?_) trivial (by decide) (wanted_none rfl) ?_ ?_ ?_; rotate_left 2; (focus (go_simp; first | (constructor <;> rfl) | rfl)); (focus (exact trivial)); (simp only [Act.put, List.setIfInBounds_toArray, List.set_cons_zero, List.set_cons_succ])))
        refine wpT_LA trivial (by decide) (wanted_none rfl) (fun K_ hK_ => ?_)
        go_wp2_with (go_at_call 46; refine (PShapeReducible.vellumref12_Next.calls _ (some ad) ns SS tv m w12 T8.out HNS.out HM1.out).mono ?_; rintro e w13 ⟨rfl, hd13⟩)
        have M13 := Aside0.mk (M12.out.drawn hd13)
        refine hK_ _ _ ⟨hd13.below.size, hd13.below.block⟩ trivial ?_
        clear hK_ hd13
        (first | (with_reducible refine wpT_nil ?_) | (refine wpT_W (v := ?_) trivial (by decide) (wanted_none rfl) (fun _ hS_ => ?_) ?_; rotate_left; (focus ((try dsimp only at hS_); go_simp; rfl)); (simp only [Act.put, List.setIfInBounds_toArray, List.set_cons_zero, List.set_cons_succ])) | (refine wpT_R (v := ?_) trivial (by decide) (wanted_none rfl) ?_ ?_; rotate_left; (focus (go_simp; rfl)); (simp only [Act.put, List.setIfInBounds_toArray, List.set_cons_zero, List.set_cons_succ])) | (refine wpT_A (v := ?_) (ob := ?_) trivial (by decide) (wanted_none rfl) ?_ ?_ ?_; rotate_left 2; (focus (go_simp; first | (constructor <;> rfl) | rfl)); (focus (exact trivial)); (simp only [Act.put, List.setIfInBounds_toArray, List.set_cons_zero, List.set_cons_succ])))
        refine wpT_nil ?_
        go_wp2
        go_roundg gk'
        case measure => have := HK'.out; omega
        case rel =>
          refine ⟨k + 1, m, out ++ [nd], rfl, by go_num, ⟨by simp [hO.out]⟩, HM2, ⟨?_⟩⟩
          rw [nums_append, List.length_append]
          exact M13.out
end Go.Proofs.Ytfiiihpdekppiaa
end
section
namespace Go.Proofs.Ytfiiihpdekppiaa
open PShapeReducible (S31)
structure Ks where
  pts : List Stp
  opn : List Frm
  lab : List (Int × Bool)
def Ks.emit (c : Ks) (p : Stp) : Ks := { c with pts := c.pts ++ [p] }
def addTos (ss : List Stp) (n : Nat) (x : Int) : List Stp := ss.modify n fun p => { p with tos := p.tos ++ [x] }
def Ks.addTo (c : Ks) (n : Nat) (x : Int) : Ks := { c with pts := addTos c.pts n x }
def Ks.setTo (c : Ks) (n : Nat) (xs : List Int) : Ks := { c with pts := setTos c.pts n xs }
def Ks.land (c : Ks) : List Int → Ks
  | [] => c
  | e :: es => (c.setTo e.toNat [(c.pts.length : Int)]).land es
def Ks.begin (c : Ks) (label : Int) (loop : Bool) : Ks := { pts := c.pts, lab := mput c.lab label true, opn := c.opn ++ [⟨label, c.pts.length, loop, []⟩] }
def Ks.exits (c : Ks) : List Int := ((c.opn[c.opn.length - 1]?).map Frm.brk).getD []
def Ks.close (c : Ks) (loop : Bool) (start : Int) : Ks :=
  let d : Ks := { c with opn := c.opn.take (c.opn.length - 1) }
  (if loop then d.emit ⟨1, 0, [start]⟩ else d).land c.exits
def firstF (t : Frm → Bool) : List Frm → Nat → Int
  | [], _ => -1
  | f :: fs, k => if t f then (k : Int) else firstF t fs (k + 1)
def Ks.leave (c : Ks) (kind node label : Int) (kids : List S31) : Bool × Ks :=
  let n := firstF (fun f => decide (f.label = label) && (f.loop || decide (kind = 5))) c.opn 0
  if n < 0 ∨ kids.length ≠ 0 ∨ node ≠ 0 then (false, c)
  else
    let j : Int := c.pts.length
    let d := c.emit ⟨1, 0, []⟩
    (true, if kind = 5 then { d with opn := addBrk d.opn n.toNat j } else d.setTo j.toNat [((d.opn[n.toNat]?).map Frm.start).getD 0])
mutual
def convF (g : List (List Int)) : S31 → Ks → Bool × Ks
  | ⟨kind, node, label, kids⟩, c =>
    if kind = 1 then (if node ≠ 0 ∨ label ≠ 0 then (false, c) else convL g kids c)
    else if kind = 2 then
      (if node < 0 ∨ (g.length : Int) ≤ node ∨ kids.length ≠ (g.getD node.toNat []).length ∨ label ≠ 0 then (false, c)
       else
        let r := visK g c.pts.length kids (c.emit ⟨0, node, []⟩) []
        if r.1 then (true, r.2.1.land r.2.2) else (false, r.2.1))
    else if kind = 3 ∨ kind = 4 then
      (if kids.length ≠ 1 ∨ node ≠ 0 ∨ label < 0 ∨ ((mget c.lab label).getD false) = true then (false, c)
       else
        let r := convL g kids (c.begin label (decide (kind = 3)))
        if r.1 then (true, r.2.close (decide (kind = 3)) c.pts.length) else (false, r.2))
    else if kind = 5 ∨ kind = 6 then c.leave kind node label kids
    else (false, c)
def convL (g : List (List Int)) : List S31 → Ks → Bool × Ks
  | [], c => (true, c)
  | k :: ks, c =>
    let r := convF g k c
    if r.1 then convL g ks r.2 else (false, r.2)
def visK (g : List (List Int)) (n : Nat) : List S31 → Ks → List Int → Bool × Ks × List Int
  | [], c, es => (true, c, es)
  | k :: ks, c, es =>
    let r := convF g k (c.addTo n c.pts.length)
    if r.1 then visK g n ks (r.2.emit ⟨1, 0, []⟩) (es ++ [(r.2.pts.length : Int)]) else (false, r.2, es)
end
structure Ks.Ok (m : Nat) (c : Ks) : Prop where
  st : c.pts.length + 2 * m ≤ big
  tl : ∀ p ∈ c.pts, p.tos.length + m ≤ big
  fr : c.opn.length + m ≤ big
  br : ∀ f ∈ c.opn, f.brk.length + m ≤ big ∧ ∀ b ∈ f.brk, 0 ≤ b ∧ b < c.pts.length
theorem addTos_length (ss : List Stp) (n : Nat) (x : Int) : (addTos ss n x).length = ss.length := by simp [addTos]
theorem mem_setTos {ss : List Stp} {n : Nat} {xs : List Int} {p : Stp} (h : p ∈ setTos ss n xs) : p ∈ ss ∨ p.tos = xs := by
  obtain ⟨i, hi⟩ := List.mem_iff_getElem?.1 h
  simp only [setTos, List.getElem?_modify] at hi
  cases h2 : ss[i]? with
  | none => simp [h2] at hi
  | some f0 =>
    by_cases hn : n = i
    · simp [h2, hn] at hi; exact .inr (by rw [← hi])
    · simp [h2, hn] at hi; exact .inl (hi ▸ List.mem_of_getElem? h2)
theorem mem_addTos {ss : List Stp} {n : Nat} {x : Int} {p : Stp} (h : p ∈ addTos ss n x) : p ∈ ss ∨ ∃ q ∈ ss, p.tos = q.tos ++ [x] := by
  obtain ⟨i, hi⟩ := List.mem_iff_getElem?.1 h
  simp only [addTos, List.getElem?_modify] at hi
  cases h2 : ss[i]? with
  | none => simp [h2] at hi
  | some f0 =>
    by_cases hn : n = i
    · simp [h2, hn] at hi; exact .inr ⟨f0, List.mem_of_getElem? h2, by rw [← hi]⟩
    · simp [h2, hn] at hi; exact .inl (hi ▸ List.mem_of_getElem? h2)
section
variable {c : Ks} {m : Nat}
theorem Ks.Ok.mono {m' : Nat} (h : c.Ok m) (hm : m' ≤ m) : c.Ok m' :=
  ⟨by have := h.st; omega, fun p hp => by have := h.tl p hp; omega, by have := h.fr; omega, fun f hf => ⟨by have := (h.br f hf).1; omega, (h.br f hf).2⟩⟩
theorem Ks.Ok.emit (h : c.Ok m) (h1 : c.pts.length + 1 + 2 * m ≤ big) (p : Stp) (h2 : p.tos.length + m ≤ big) : (c.emit p).Ok m :=
  ⟨by simp [Ks.emit]; omega, fun q hq => by
    simp only [Ks.emit, List.mem_append, List.mem_singleton] at hq
    rcases hq with hq | rfl
    · exact h.tl q hq
    · exact h2, h.fr, fun f hf => ⟨(h.br f hf).1, fun b hb => by have := (h.br f hf).2 b hb; simp [Ks.emit]; omega⟩⟩
theorem Ks.Ok.setTo (h : c.Ok m) (n : Nat) (xs : List Int) (h2 : xs.length + m ≤ big) : (c.setTo n xs).Ok m :=
  ⟨by simpa [Ks.setTo, setTos_length] using h.st, fun q hq => by
    rcases mem_setTos hq with hq | hq
    · exact h.tl q hq
    · rw [hq]; exact h2, h.fr, fun f hf => ⟨(h.br f hf).1, fun b hb => by simpa [Ks.setTo, setTos_length] using (h.br f hf).2 b hb⟩⟩
theorem Ks.Ok.addTo (h : c.Ok (m + 1)) (n : Nat) (x : Int) : (c.addTo n x).Ok m :=
  ⟨by have := h.st; simp [Ks.addTo, addTos_length]; omega, fun q hq => by
    rcases mem_addTos hq with hq | ⟨p, hp, hq⟩
    · have := h.tl q hq; omega
    · have := h.tl p hp; rw [hq]; simp; omega, by have := h.fr; show c.opn.length + m ≤ big; omega, fun f hf => ⟨by have := (h.br f hf).1; omega, fun b hb => by simpa [Ks.addTo, addTos_length] using (h.br f hf).2 b hb⟩⟩
theorem Ks.land_opn : ∀ (es : List Int) (c : Ks), (c.land es).opn = c.opn
  | [], _ => rfl
  | e :: es, c => by rw [Ks.land, Ks.land_opn es]; rfl
theorem Ks.land_length : ∀ (es : List Int) (c : Ks), (c.land es).pts.length = c.pts.length
  | [], _ => rfl
  | e :: es, c => by rw [Ks.land, Ks.land_length es]; simp [Ks.setTo, setTos_length]
theorem Ks.Ok.land : ∀ (es : List Int) {c : Ks}, c.Ok m → 1 + m ≤ big → (c.land es).Ok m
  | [], _, h, _ => h
  | e :: es, c, h, h1 => by rw [Ks.land]; exact Ks.Ok.land es (h.setTo _ _ (by simpa using h1)) h1
theorem Ks.Ok.begin (h : c.Ok (m + 1)) (l : Int) (b : Bool) : (c.begin l b).Ok m :=
  ⟨by have := h.st; simp [Ks.begin]; omega, fun p hp => by have := h.tl p hp; omega, by have := h.fr; simp [Ks.begin]; omega, fun f hf => by
    simp only [Ks.begin, List.mem_append, List.mem_singleton] at hf
    rcases hf with hf | rfl
    · exact ⟨by have := (h.br f hf).1; omega, (h.br f hf).2⟩
    · exact ⟨by have := h.st; simp; omega, by simp⟩⟩
theorem Ks.Ok.close (h : c.Ok m) (h1 : c.pts.length + 1 + 2 * m ≤ big) (loop : Bool) (s : Int) : (c.close loop s).Ok m ∧ (c.close loop s).opn.length = c.opn.length - 1 ∧ c.pts.length ≤ (c.close loop s).pts.length ∧ (c.close loop s).pts.length ≤ c.pts.length + 1 := by
  have h2 : Ks.Ok m { c with opn := c.opn.take (c.opn.length - 1) } :=
    ⟨h.st, h.tl, by have := h.fr; simp; omega, fun f hf => h.br f (List.mem_of_mem_take hf)⟩
  unfold Ks.close
  refine ⟨?_, ?_, ?_, ?_⟩
  · refine Ks.Ok.land _ ?_ (by omega)
    split
    · exact h2.emit h1 _ (by simp; omega)
    · exact h2
  · rw [Ks.land_opn]; split <;> simp [Ks.emit]
  · rw [Ks.land_length]; split <;> simp [Ks.emit]
  · rw [Ks.land_length]; split <;> simp [Ks.emit]
theorem Ks.Ok.leave (h : c.Ok (m + 1)) (k n l : Int) (ks : List S31) : (c.leave k n l ks).2.Ok m ∧ (c.leave k n l ks).2.pts.length + 1 + 2 * m ≤ big ∧ (c.leave k n l ks).2.opn.length = c.opn.length ∧ c.pts.length ≤ (c.leave k n l ks).2.pts.length ∧ (c.leave k n l ks).2.pts.length ≤ c.pts.length + 1 := by
  have hst := h.st
  have h0 : c.Ok m := h.mono (by omega)
  unfold Ks.leave
  simp only []
  split
  · exact ⟨h0, by simp only []; omega, rfl, Nat.le_refl _, by simp only []; omega⟩
  · have h1 := h0.emit (by omega) ⟨1, 0, []⟩ (by simp; omega)
    split
    · refine ⟨⟨h1.st, h1.tl, by simpa [addBrk_length] using h1.fr, fun f hf => ?_⟩, by simp [Ks.emit]; omega, by simp [addBrk_length, Ks.emit], by simp [Ks.emit], by simp [Ks.emit]⟩
      rcases mem_addBrk hf with hf | ⟨f0, hf0, rfl⟩
      · exact h1.br f hf
      · have h2 := h.br f0 hf0
        refine ⟨by simp; omega, fun b hb => ?_⟩
        rcases List.mem_append.1 hb with hb | hb
        · exact (h1.br f0 hf0).2 b hb
        · rw [List.mem_singleton.1 hb]
          simp [Ks.emit]; omega
    · exact ⟨h1.setTo _ _ (by simp; omega), by simp [Ks.setTo, setTos_length, Ks.emit]; omega, rfl, by simp [Ks.setTo, setTos_length, Ks.emit], by simp [Ks.setTo, setTos_length, Ks.emit]⟩
end
mutual
theorem convF_ok (g : List (List Int)) (m : Nat) : ∀ (s : S31) (c : Ks), c.Ok (3 * szF s - 1 + m) → (convF g s c).2.Ok m ∧ (convF g s c).2.pts.length + 2 * m + 2 ≤ big ∧ ((convF g s c).1 = true → (convF g s c).2.opn.length = c.opn.length) ∧ c.pts.length ≤ (convF g s c).2.pts.length ∧ (convF g s c).2.pts.length + 1 ≤ c.pts.length + 2 * szF s
  | ⟨kind, node, label, kids⟩, c, h => by
    simp only [szF] at h ⊢
    have hst := h.st
    have h0 : c.Ok m := h.mono (by omega)
    rw [convF]
    split
    · split
      · exact ⟨h0, by simp only []; omega, fun h => Bool.noConfusion h, Nat.le_refl _, by simp only []; omega⟩
      · have h1 := convL_ok g (m + 1) kids c (h.mono (by omega))
        refine ⟨h1.1.mono (by omega), ?_, h1.2.1, h1.2.2.1, by have := h1.2.2.2; omega⟩
        have := h1.1.st
        omega
    split
    · split
      · exact ⟨h0, by simp only []; omega, fun h => Bool.noConfusion h, Nat.le_refl _, by simp only []; omega⟩
      · have h1 := (h.mono (m' := 3 * szL kids + (m + 1)) (by omega)).emit (by omega) ⟨0, node, []⟩ (by simp; omega)
        have h2 := visK_ok g (m + 1) c.pts.length kids _ [] h1
        have hl : (c.emit ⟨0, node, []⟩).pts.length = c.pts.length + 1 := by simp [Ks.emit]
        have ho : (c.emit ⟨0, node, []⟩).opn = c.opn := rfl
        rw [hl, ho] at h2
        have h3 := h2.1.st
        dsimp only
        split <;> dsimp only
        · refine ⟨Ks.Ok.land _ (h2.1.mono (by omega)) (by omega), ?_, fun _ => ?_, ?_, ?_⟩
          · rw [Ks.land_length]; omega
          · rw [Ks.land_opn]; exact h2.2.1 (by assumption)
          · rw [Ks.land_length]; have := h2.2.2.1; omega
          · rw [Ks.land_length]; have := h2.2.2.2; omega
        · exact ⟨h2.1.mono (by omega), by omega, fun h => Bool.noConfusion h, by have := h2.2.2.1; omega, by have := h2.2.2.2; omega⟩
    split
    · split
      · exact ⟨h0, by simp only []; omega, fun h => Bool.noConfusion h, Nat.le_refl _, by simp only []; omega⟩
      · have h1 := (h.mono (m' := 3 * szL kids + (m + 1) + 1) (by omega)).begin label (decide (kind = 3))
        have h2 := convL_ok g (m + 1) kids _ h1
        have hl : (c.begin label (decide (kind = 3))).pts.length = c.pts.length := rfl
        have ho : (c.begin label (decide (kind = 3))).opn.length = c.opn.length + 1 := by simp [Ks.begin]
        rw [hl, ho] at h2
        have h3 := h2.1.st
        dsimp only
        split <;> dsimp only
        · have h4 := (h2.1.mono (m' := m) (by omega)).close (by omega) (decide (kind = 3)) c.pts.length
          have h5 := h2.2.1 (by assumption)
          have h6 := h2.2.2
          have h7 := h4.2
          refine ⟨h4.1, ?_, fun _ => ?_, ?_, ?_⟩
          · omega
          · rw [h7.1, h5]; omega
          · omega
          · omega
        · exact ⟨h2.1.mono (by omega), by omega, fun h => Bool.noConfusion h, by have := h2.2.2.1; omega, by have := h2.2.2.2; omega⟩
    split
    · have h1 := Ks.Ok.leave (h.mono (m' := m + 1) (by omega)) kind node label kids
      exact ⟨h1.1, by omega, fun _ => h1.2.2.1, h1.2.2.2.1, by omega⟩
    · exact ⟨h0, by simp only []; omega, fun h => Bool.noConfusion h, Nat.le_refl _, by simp only []; omega⟩
theorem convL_ok (g : List (List Int)) (m : Nat) : ∀ (ks : List S31) (c : Ks), c.Ok (3 * szL ks + m) → (convL g ks c).2.Ok m ∧ ((convL g ks c).1 = true → (convL g ks c).2.opn.length = c.opn.length) ∧ c.pts.length ≤ (convL g ks c).2.pts.length ∧ (convL g ks c).2.pts.length ≤ c.pts.length + 2 * szL ks
  | [], c, h => by rw [convL]; exact ⟨h.mono (by omega), fun _ => rfl, Nat.le_refl _, by simp only []; omega⟩
  | k :: ks, c, h => by
    rw [convL]
    simp only [szL] at h ⊢
    have h1 := convF_ok g (3 * szL ks + m) k c (h.mono (by omega))
    have hpos : 1 ≤ szF k := by cases k; simp [szF]
    split
    · have h2 := convL_ok g m ks _ h1.1
      refine ⟨h2.1, fun hh => by rw [h2.2.1 hh, h1.2.2.1 (by assumption)], ?_, ?_⟩
      · have := h1.2.2.2.1; have := h2.2.2.1; omega
      · have := h1.2.2.2.2; have := h2.2.2.2; omega
    · exact ⟨h1.1.mono (by omega), fun h => Bool.noConfusion h, h1.2.2.2.1, by have := h1.2.2.2.2; simp only []; omega⟩
theorem visK_ok (g : List (List Int)) (m : Nat) (n : Nat) : ∀ (ks : List S31) (c : Ks) (es : List Int), c.Ok (3 * szL ks + m) → (visK g n ks c es).2.1.Ok m ∧ ((visK g n ks c es).1 = true → (visK g n ks c es).2.1.opn.length = c.opn.length) ∧ c.pts.length ≤ (visK g n ks c es).2.1.pts.length ∧ (visK g n ks c es).2.1.pts.length ≤ c.pts.length + 2 * szL ks
  | [], c, es, h => by rw [visK]; exact ⟨h.mono (by omega), fun _ => rfl, Nat.le_refl _, by simp only []; omega⟩
  | k :: ks, c, es, h => by
    rw [visK]
    simp only [szL] at h ⊢
    have hpos : 1 ≤ szF k := by cases k; simp [szF]
    have h0 := Ks.Ok.addTo (m := 3 * szF k - 1 + (3 * szL ks + m)) (c := c) (h.mono (by omega)) n c.pts.length
    have h1 := convF_ok g (3 * szL ks + m) k (c.addTo n c.pts.length) h0
    have hl : (c.addTo n c.pts.length).pts.length = c.pts.length := by simp [Ks.addTo, addTos_length]
    have ho : (c.addTo n c.pts.length).opn = c.opn := rfl
    rw [hl, ho] at h1
    split
    · have h2 := visK_ok g m n ks ((convF g k (c.addTo n c.pts.length)).2.emit ⟨1, 0, []⟩) (es ++ [((convF g k (c.addTo n c.pts.length)).2.pts.length : Int)]) (h1.1.emit (by have := h1.2.1; omega) _ (by have := h1.2.1; simp; omega))
      have he : ((convF g k (c.addTo n c.pts.length)).2.emit ⟨1, 0, []⟩).pts.length = (convF g k (c.addTo n c.pts.length)).2.pts.length + 1 := by simp [Ks.emit]
      have he2 : ((convF g k (c.addTo n c.pts.length)).2.emit ⟨1, 0, []⟩).opn = (convF g k (c.addTo n c.pts.length)).2.opn := rfl
      rw [he, he2] at h2
      refine ⟨h2.1, fun hh => by rw [h2.2.1 hh, h1.2.2.1 (by assumption)], ?_, ?_⟩
      · have := h1.2.2.2.1; have := h2.2.2.1; omega
      · have := h1.2.2.2.2; have := h2.2.2.2; omega
    · exact ⟨h1.1.mono (by omega), fun h => Bool.noConfusion h, h1.2.2.2.1, by have := h1.2.2.2.2; dsimp only; omega⟩
end
end Go.Proofs.Ytfiiihpdekppiaa
end
section
namespace Go.Proofs.Ytfiiihpdekppiaa
open Go.RowKit Go.Proofs Go.Proofs.YtfiiihpdekppiaaW.PrintWords
open Go.ChangeMaps (setBlock heap_setBlock_same heap_setBlock_other)
open PShapeReducible (S31 S77)
theorem info90 : (Try.prog.info? 90).map (fun i => (i.zero, i.size, i.bytes)) = some (some (.agg #[.int .i64 0, .int .i64 0, .slice none 0 0]), 3, 40) := by kernel_rfl
theorem info144 : (Try.prog.info? 144).map (fun i => (i.zero, i.size, i.bytes)) = some (some (.agg #[.int .i64 0, .int .i64 0, .bool false, .slice none 0 0]), 4, 48) := by kernel_rfl
structure Kp where
  vS : Value
  vF : Value
  ts : List Value
  bs : List Value
def Ks.own (c : Ks) (bc : Nat) (gv : Value) (bm : Nat) (p : Kp) : List Pc :=
  [.blk bc (.cells #[gv, p.vS, p.vF, .map (some bm)] 86 (0, 0)), .row p.vS 90 3 c.pts.length (recs (c.pts.map Stp.cells) p.ts), .rows p.ts (c.pts.map Stp.tos),
   .row p.vF 144 4 c.opn.length (recs (c.opn.map Frm.cells) p.bs), .rows p.bs (c.opn.map Frm.brk), .blk bm (mB c.lab)]
set_option maxRecDepth 100000 in
set_option maxHeartbeats 4000000 in
theorem add_any (w0 w : World) (F : List Pc) (bc : Nat) (gv : Value) (c : Ks) (bm : Nat) (p : Kp) (a b : Int) (vt : Value) (xs : List Int)
    (M : Mem w0 w F (c.own bc gv bm p ++ [.row vt 3 1 xs.length (nums .i64 xs)])) (hl : c.pts.length < 1000000000) :
    Calls Try.prog 51 #[.pointer (some ⟨bc, 0, none⟩), .agg #[.int .i64 a, .int .i64 b, vt]] w fun e w' => e = .returned (.int .i64 c.pts.length) ∧ ∃ A cc, Mem w0 w' F ((c.emit ⟨a, b, xs⟩).own bc gv bm { p with vS := .slice A (c.pts.length + 1) cc, ts := p.ts ++ [vt] }) := by
  obtain ⟨vS, vF, ts, bs⟩ := p
  obtain ⟨At, ct, rfl, hct⟩ := M.rowSlice' (k := 6) rfl
  obtain ⟨AS, cS, e, hcS⟩ := M.rowSlice' (k := 1) rfl
  dsimp only at e
  subst e
  have hts : ts.length = c.pts.length := by have := (M.rows (k := 2) rfl).len; simpa using this
  obtain ⟨b3, w1, z1, a1, M1⟩ := M.alloc (.cells #[.int .i64 a, .int .i64 b, .slice At xs.length ct] 90)
  obtain ⟨w2, z2, M2⟩ := M1.drew
  have e0 := M2.cell (k := 7) (j := 0) rfl rfl
  have e1 := M2.cell (k := 7) (j := 1) rfl rfl
  have e2 := M2.cell (k := 7) (j := 2) rfl rfl
  have k1 := M2.cell (k := 0) (j := 1) rfl rfl
  have MM := Aside0.mk M2
  have HW : IntKind.i64.wrap (((c.pts.length + 1 : Nat) : Int) - 1) = (c.pts.length : Int) := by rw [IntWalk.i64_in _ (by omega)]; omega
  have HTS := Aside0.mk hts
  clear M M1 M2 hct hts hcS
  go_enter Try.func51, Try.ntmps51
  go_wp2_with (first | (rw [z2]) | (refine wp_region_txt (fun _ => True) [] (by kernel_rfl) (by kernel_rfl) ?_))
  iterate 7 (first | (with_reducible refine wpT_nil ?_) | (refine wpT_W (v := ?_) trivial (by decide) (wanted_none rfl) (fun _ hS_ => ?_) ?_; rotate_left; (focus ((try dsimp only at hS_); go_simp; rfl)); (simp only [Act.put, List.setIfInBounds_toArray, List.set_cons_zero, List.set_cons_succ])) | (refine wpT_R (v := ?_) trivial (by decide) (wanted_none rfl) ?_ ?_; rotate_left; (focus (go_simp; rfl)); (simp only [Act.put, List.setIfInBounds_toArray, List.set_cons_zero, List.set_cons_succ])) | (refine wpT_A (v := ?_) (ob := ?_) trivial (by decide) (wanted_none rfl) ?_ ?_ ?_; rotate_left 2; (focus (go_simp; first | (constructor <;> rfl) | rfl)); (focus (exact trivial)); (simp only [Act.put, List.setIfInBounds_toArray, List.set_cons_zero, List.set_cons_succ])))
  refine wpT_L trivial (by decide) (wanted_none rfl) (fun K_ hK_ => ?_)
  refine step_mem_app (ops := #[]) 1 rfl (.tmp 9) (.tmp 11) 83 90 (.agg #[.int .i64 0, .int .i64 0, .slice none 0 0]) 3 40 rfl Try.underlying83 info90 rfl (by decide) (by decide) _ c.pts.length (recs (c.pts.map Stp.cells) ts) [.int .i64 a, .int .i64 b, .slice At xs.length ct] rfl rfl rfl (by simp [Value.oneCell']) MM.out rfl (by omega) ?_
  intro A4 c4 w4 M4
  refine hK_ _ _ trivial ?_
  clear hK_
  have d1 := M4.cell (k := 0) (j := 1) rfl rfl
  have d2 := M4.free (k := 0) (j := 1) rfl
  obtain ⟨w5, s5, M5⟩ := M4.set (k := 0) 1 rfl (.slice A4 (c.pts.length + 1) c4)
  have d3 := M5.cell (k := 0) (j := 1) rfl rfl
  have M5 := Aside0.mk M5
  clear M4
  iterate 2 (first | (with_reducible refine wpT_nil ?_) | (refine wpT_W (v := ?_) trivial (by decide) (wanted_none rfl) (fun _ hS_ => ?_) ?_; rotate_left; (focus ((try dsimp only at hS_); go_simp; rfl)); (simp only [Act.put, List.setIfInBounds_toArray, List.set_cons_zero, List.set_cons_succ])) | (refine wpT_R (v := ?_) trivial (by decide) (wanted_none rfl) ?_ ?_; rotate_left; (focus (go_simp; rfl)); (simp only [Act.put, List.setIfInBounds_toArray, List.set_cons_zero, List.set_cons_succ])) | (refine wpT_A (v := ?_) (ob := ?_) trivial (by decide) (wanted_none rfl) ?_ ?_ ?_; rotate_left 2; (focus (go_simp; first | (constructor <;> rfl) | rfl)); (focus (exact trivial)); (simp only [Act.put, List.setIfInBounds_toArray, List.set_cons_zero, List.set_cons_succ])))
  refine wpT_L trivial (by decide) (wanted_none rfl) (fun K_ hK_ => ?_)
  go_simp
  refine hK_ _ _ trivial ?_
  clear hK_
  refine wpT_nil ?_
  clear d1 d2 s5 k1 z2
  go_wp2
  go_ret
  refine ⟨by simp, A4, c4, ?_⟩
  have M6 := ((M5.out.lose (k := 7) rfl).join (k := 2) (j := 5) rfl rfl).order [1, 2, 0] rfl
  unfold Ks.own Ks.emit
  simp only [List.map_append, List.map_cons, List.map_nil, List.length_append, List.length_singleton]
  rw [recs_snoc _ _ (by rw [List.length_map]; exact HTS.out.symm)]
  exact M6
section
variable {w0 w w' : World} {F H L : List Pc}
theorem Mem.fill3 {w0 w : World} {F H : List Pc} {k b t : Nat} {z0 z1 z2 : Value} (h : Mem w0 w F H) (hk : H[k]? = some (.blk b (.cells #[z0, z1, z2] t (0, 0)))) (u0 u1 u2 : Value) :
    ∃ a1 a2 a3 : World, (w.setCell ⟨b, 0, none⟩ u0 = a1 ∧ a1.setCell ⟨b, 1, none⟩ u1 = a2 ∧ a2.setCell ⟨b, 2, none⟩ u2 = a3) ∧
      (w.cell? ⟨b, 0, none⟩ = some z0 ∧ a1.cell? ⟨b, 1, none⟩ = some z1 ∧ a2.cell? ⟨b, 2, none⟩ = some z2) ∧
      (w.frozen? ⟨b, 0, none⟩ = false ∧ a1.frozen? ⟨b, 1, none⟩ = false ∧ a2.frozen? ⟨b, 2, none⟩ = false) ∧
      Mem w0 a3 F (H.set k (.blk b (.cells #[u0, u1, u2] t (0, 0)))) := by
  have hlt := (List.getElem?_eq_some_iff.1 hk).1
  have hk1 : ∀ (L : List Pc) (c : Pc), L.length = H.length → (L.set k c)[k]? = some c := fun L c hL => by simp [hL, hlt]
  obtain ⟨a1, e1, M1⟩ := h.set 0 hk u0
  have q1 := hk1 H (.blk b (.cells #[u0, z1, z2] t (0, 0))) rfl
  obtain ⟨a2, e2, M2⟩ := M1.set 1 q1 u1
  have q2 := hk1 (H.set k (.blk b (.cells #[u0, z1, z2] t (0, 0)))) (.blk b (.cells #[u0, u1, z2] t (0, 0))) (by simp)
  obtain ⟨a3, e3, M3⟩ := M2.set 2 q2 u2
  refine ⟨a1, a2, a3, ⟨e1, e2, e3⟩, ⟨h.cell hk rfl, M1.cell q1 rfl, M2.cell q2 rfl⟩, ⟨h.free hk, M1.free q1, M2.free q2⟩, ?_⟩
  simp only [List.set_set] at M3
  exact M3
theorem Mem.recsC {e : Nat} {k j : Nat} {v : Value} {ts : List Value} {ss : List Stp} (h : Mem w0 w F H) (hk : H[k]? = some (.row v e 3 ss.length (recs (ss.map Stp.cells) ts))) (hj : H[j]? = some (.rows ts (ss.map Stp.tos))) :
    ∃ A n, v = .slice A (ss.map Stp.s77).length n ∧ (ss.map Stp.s77).length ≤ n ∧ PShapeReducible.k77.C w A (ss.map Stp.s77).length (ss.map Stp.s77) := by
  have h1 : w.ownsRow 0 e 3 v ss.length (recs (ss.map Stp.cells) ts) := h.says hk
  have h2 := h.rows hj
  have hlen : ts.length = ss.length := by simpa using h2.len
  have hr : OwnRow (PShapeReducible.k77.K w) e 3 w 0 v (ss.map Stp.s77) := by
    refine ⟨_, by rw [List.length_map]; exact h1, by rw [List.length_map, recs_len (m := 2) (by simpa using hlen.symm) (by simp [Stp.cells])]; simp, fun i p hp => ?_⟩
    rw [List.getElem?_map] at hp
    obtain ⟨s, hs, rfl⟩ := Option.map_eq_some_iff.1 hp
    have hi := (List.getElem?_eq_some_iff.1 hs).1
    rw [recs_chunk (m := 2) (by simpa using hlen.symm) (by simp [Stp.cells]) (by simpa using hi)]
    obtain ⟨A, c, e1, e2, e3⟩ := own_C (h2.row i (by omega))
    have e4 : (ss.map Stp.tos).getD i [] = s.tos := by simp [List.getD_eq_getElem?_getD, hs]
    have e5 : (ss.map Stp.cells).getD i [] = s.cells := by simp [List.getD_eq_getElem?_getD, hs]
    rw [e4] at e1 e2 e3
    rw [e5, e1]
    exact PShapeReducible.k77_mk w s.s77 e2 e3
  exact OwnRow.reads hr
end
set_option maxRecDepth 100000 in
set_option maxHeartbeats 4000000 in
theorem next_any (w : World) (bc : Nat) (A : Option Addr) (n : Nat) (SS : List S77) (at0 r : Int) (k : Nat) (hk1 : w.cell? ⟨bc, 1, none⟩ = some (.slice A SS.length n)) (hC : PShapeReducible.k77.C w A SS.length SS) (hl : SS.length ≤ 1000000000)
    (h : PShapeReducible.vellumref12_Next.f k SS at0 = some r) : Calls Try.prog 52 #[.pointer (some ⟨bc, 0, none⟩), .int .i64 at0] w fun e w' => e = .returned (.int .i64 r) ∧ Below w.heap.size w w' := by
  have H0 := Aside0.mk (show PShapeReducible.vellumref12_Next.l0 k SS at0 0 = some r from h)
  have HC := Aside0.mk hC
  have M0 := Aside0.mk (Mem.start w)
  have hw1 : wrap64 ((SS.length : Int) + 1) = (SS.length : Int) + 1 := by unfold wrap64; omega
  have K1 := Aside0.mk hk1
  clear h hC
  go_enter Try.func52, Try.ntmps52
  go_wp2
  clear hk1
  go_loopg [1, 12] k (fun kq v1 v12 wr => ∃ (x : Int) (c : Nat), v1 = .int .i64 x ∧ v12 = .int .i64 c ∧ c ≤ SS.length + 1 ∧ Aside0 (PShapeReducible.vellumref12_Next.l0 kq SS x c = some r) ∧ Aside0 (Mem w wr [] []))
  case atStart => exact ⟨at0, 0, rfl, rfl, by omega, H0, M0⟩
  case round =>
    clear H0 M0
    obtain ⟨x, c, rfl, rfl, hc, hH, hM⟩ := hrel
    have h := hH.out
    cases hk : gk with
    | zero => rw [hk] at h; simp [PShapeReducible.vellumref12_Next.l0] at h
    | succ gk' =>
      rw [hk] at h
      have HK' := Aside0.mk hk
      clear hH hk
      rw [PShapeReducible.vellumref12_Next.l0] at h
      rcases Decidable.em ((c : Int) ≤ SS.length) with hcl | hcl
      · rw [if_pos hcl] at h
        have hx0 : 0 ≤ x := Classical.byContradiction fun hc => by rw [if_neg hc] at h; cases h
        rw [if_pos hx0] at h
        have hxl : x < SS.length := Classical.byContradiction fun hc => by rw [if_neg hc] at h; cases h
        rw [if_pos hxl] at h
        obtain ⟨x, rfl⟩ : ∃ q : Nat, x = q := ⟨x.toNat, by omega⟩
        obtain ⟨ad, A2, c2, rfl, g0, g1, g2, hc2, hC2⟩ := step_at (Kd.C_below HC.out hM.out.hb) x (by omega)
        obtain ⟨P, hP⟩ : ∃ P, P = PShapeReducible.rd_T77 SS x := ⟨_, rfl⟩
        rw [← hP] at h g0 g1 g2 hc2 hC2
        have k1 := pw_cell_below hM.out.hb K1.out
        obtain ⟨b5, w5, z5, a5, M5⟩ := (Mem.start wr).alloc (.cells #[.int .i64 0, .int .i64 0, .slice none 0 0] 90)
        obtain ⟨y1, y2, y3, ys, yc, yf, M6⟩ := M5.fill3 (k := 0) rfl (.int .i64 P.f0) (.int .i64 P.f1) (.slice A2 P.f2.length c2)
        have f0 : y3.cell? ⟨b5, 0, none⟩ = some (.int .i64 P.f0) := M6.cell (k := 0) (j := 0) rfl rfl
        have f2 : y3.cell? ⟨b5, 2, none⟩ = some (.slice A2 P.f2.length c2) := M6.cell (k := 0) (j := 2) rfl rfl
        have M7 := Aside0.mk (hM.out.below M6.hb)
        have HC2 := Aside0.mk hC2
        have hcl' : (c : Int) < (SS.length : Int) + 1 := by omega
        obtain ⟨ys1, ys2, ys3⟩ := ys
        obtain ⟨yc1, yc2, yc3⟩ := yc
        obtain ⟨yf1, yf2, yf3⟩ := yf
        have hxl' : (x : Int) < SS.length := hxl
        rcases Decidable.em (P.f0 = 0) with h0 | h0
        · rw [if_pos h0] at h
          have HB := Aside0.mk (Option.some.inj h)
          have h0' : (P.f0 == 0) = true := by simp [h0]
          clear h hP h0 hC2 hc2 M5 M6 hM
          go_wp2
          go_ret
          exact ⟨by rw [← HB.out]; rfl, M7.out.hb⟩
        · rw [if_neg h0] at h
          have h0' : (P.f0 == 0) = false := by simpa using h0
          rcases Decidable.em (P.f0 = 2) with h2 | h2
          · rw [if_pos h2] at h
            have HB := Aside0.mk (Option.some.inj h)
            have h2' : (P.f0 == 2) = true := by simp [h2]
            clear h hP h0 h2 hC2 hc2 M5 M6 hM
            go_wp2
            go_ret
            exact ⟨by rw [← HB.out]; rfl, M7.out.hb⟩
          · rw [if_neg h2] at h
            have h2' : (P.f0 == 2) = false := by simpa using h2
            have htz : 0 < (P.f2.length : Int) := Classical.byContradiction fun hc => by rw [if_neg hc] at h; cases h
            rw [if_pos htz] at h
            obtain ⟨adt, rfl, q0⟩ := C_num hC2 0 (by omega)
            obtain ⟨tv, htv⟩ : ∃ tv, tv = P.f2.getD 0 0 := ⟨_, rfl⟩
            rw [← htv] at q0
            have q0' : y3.cell? (adt.add 0) = some (.int .i64 tv) := pw_cell_below M6.hb q0
            have htl : (0 : Int) < (P.f2.length : Int) := htz
            have hw2 : wrap64 ((c : Int) + 1) = ((c + 1 : Nat) : Int) := by unfold wrap64; omega
            rw [hw2] at h
            have HH := Aside0.mk (show PShapeReducible.vellumref12_Next.l0 gk' SS tv ((c + 1 : Nat) : Int) = some r by rw [htv]; exact h)
            have HCL := Aside0.mk hcl
            clear h hP h0 h2 hC2 hc2 M5 M6 hM htz htv q0
            simp only [addz] at q0'
            go_wp2
            go_roundg gk'
            case measure => have := HK'.out; omega
            case rel => exact ⟨tv, c + 1, rfl, by go_num, by have := HCL.out; omega, HH, M7⟩
      · rw [if_neg hcl] at h
        have HB := Aside0.mk (Option.some.inj h)
        have hcl' : ¬ ((c : Int) < (SS.length : Int) + 1) := by omega
        clear h
        go_wp2
        go_ret
        exact ⟨by rw [← HB.out]; rfl, hM.out.hb⟩
end Go.Proofs.Ytfiiihpdekppiaa
end
section
namespace Go.Proofs.Ytfiiihpdekppiaa
open Go.RowKit Go.Proofs Go.Proofs.YtfiiihpdekppiaaW.PrintWords
open Go.ChangeMaps (setBlock heap_setBlock_same heap_setBlock_other)
open PShapeReducible (S31 S77)
set_option maxRecDepth 100000 in
set_option maxHeartbeats 4000000 in
theorem test93_any (w : World) (b3 : Nat) (kind label l s : Int) (lp : Bool) (v : Value) (e0 : w.cell? ⟨b3, 0, none⟩ = some (.int .i64 kind)) (e2 : w.cell? ⟨b3, 2, none⟩ = some (.int .i64 label)) :
    Calls Try.prog 93 #[.agg #[.int .i64 l, .int .i64 s, .bool lp, v], .pointer (some ⟨b3, 0, none⟩)] w fun e w' => e = .returned (.bool (decide (l = label) && (lp || decide (kind = 5)))) ∧ Below w.heap.size w w' := by
  obtain ⟨b4, w1, z1, a1, M1⟩ := (Mem.start w).alloc (.cells #[.int .i64 l, .int .i64 s, .bool lp, v] 144)
  have q0 : w1.cell? ⟨b4, 0, none⟩ = some (.int .i64 l) := M1.cell (k := 0) (j := 0) rfl rfl
  have q2 : w1.cell? ⟨b4, 2, none⟩ = some (.bool lp) := M1.cell (k := 0) (j := 2) rfl rfl
  have t0 := pw_cell_below M1.hb e0
  have t2 := pw_cell_below M1.hb e2
  have hb := Aside0.mk M1.hb
  clear M1 e0 e2
  by_cases hl : l = label
  · have h1 : (l == label) = true := by simpa using hl
    have h1d : decide (l = label) = true := by simpa using hl
    rw [h1d]
    clear hl h1d
    cases lp with
    | true =>
      go_enter Try.func93, Try.ntmps93
      go_wp2
      go_ret
      exact ⟨rfl, hb.out⟩
    | false =>
      have h2 : (kind == 5) = decide (kind = 5) := Bool.beq_eq_decide_eq _ _
      go_enter Try.func93, Try.ntmps93
      go_wp2
      go_ret
      exact ⟨by simp, hb.out⟩
  · have h1 : (l == label) = false := by simpa using hl
    have h1d : decide (l = label) = false := by simpa using hl
    rw [h1d]
    clear hl h1d
    go_enter Try.func93, Try.ntmps93
    go_wp2
    go_ret
    exact ⟨rfl, hb.out⟩
set_option maxRecDepth 100000 in
set_option maxHeartbeats 4000000 in
theorem first_any (w : World) (b3 : Nat) (kind label : Int) (fs : List Frm) (bs : List Value) (vF : Value) (e0 : w.cell? ⟨b3, 0, none⟩ = some (.int .i64 kind)) (e2 : w.cell? ⟨b3, 2, none⟩ = some (.int .i64 label))
    (hl : fs.length < 1000000000) (hlen : fs.length = bs.length) (ho : w.ownsRow 0 144 4 vF fs.length (recs (fs.map Frm.cells) bs)) :
    Calls Try.prog 92 #[vF, .func (.func 93) #[] #[.pointer (some ⟨b3, 0, none⟩)]] w fun e w' => e = .returned (.int .i64 (firstF (fun f => decide (f.label = label) && (f.loop || decide (kind = 5))) fs 0)) ∧ Below w.heap.size w w' := by
  obtain ⟨A, cF, rfl, hF⟩ : ∃ A c, vF = .slice A fs.length c ∧ ∀ i j u, i < fs.length → (recs (fs.map Frm.cells) bs)[i * 4 + j]? = some u → ∃ b, A = some ⟨b, 0, none⟩ ∧ w.cell? ⟨b, i * 4 + j, none⟩ = some u := by
    rcases ho.2 with ⟨rfl, h0⟩ | ⟨g, cap, cur, rfl, hb, hh, hn', r⟩
    · exact ⟨none, 0, by rw [h0], fun i j u hi _ => by omega⟩
    · refine ⟨_, cap, rfl, fun i j u hi hu => ⟨g, rfl, (ho.cellAt _ ?_).trans hu⟩⟩
      have := (List.getElem?_eq_some_iff.1 hu).1
      have h2 := ho.1
      omega
  have HF := Aside0.mk hF
  have HLEN := Aside0.mk hlen
  have E := Aside0.mk (And.intro e0 e2)
  have M0 := Aside0.mk (Mem.start w)
  clear hF ho hlen e0 e2
  obtain ⟨T, hT⟩ : ∃ T : Frm → Bool, T = fun f => decide (f.label = label) && (f.loop || decide (kind = 5)) := ⟨_, rfl⟩
  rw [← hT]
  have HT := Aside0.mk hT
  clear hT
  go_enter Try.func92, Try.ntmps92
  go_wp2
  go_loopw [8] (fun t wr => ∃ i : Nat, t = .int .i64 i ∧ i ≤ fs.length ∧ Aside0 (firstF T (fs.drop i) i = firstF T fs 0) ∧ Aside0 (Mem w wr [] [])) (fun t _ => fs.length - (intOf t).toNat)
  case atStart => exact ⟨0, rfl, Nat.zero_le _, ⟨rfl⟩, M0⟩
  case round =>
    clear M0
    obtain ⟨i, rfl, hi, hE, hM⟩ := hrel
    by_cases hlt : i < fs.length
    · obtain ⟨f, hf⟩ : ∃ f, fs[i]? = some f := ⟨fs[i], List.getElem?_eq_getElem hlt⟩
      have hrec : ∀ j, j ≤ 3 → (recs (fs.map Frm.cells) bs)[i * 4 + j]? = (f.cells ++ [bs.getD i nilS])[j]? := fun j hj => by
        rw [recs_get (m := 3) (by simpa using HLEN.out) (by simp [Frm.cells]) (by simp; omega) hj]
        simp [List.getD_eq_getElem?_getD, hf]
      obtain ⟨b, rfl, c0⟩ := HF.out i 0 _ (by omega) (by rw [hrec 0 (by omega)]; rfl)
      obtain ⟨b', e1, c1⟩ := HF.out i 1 _ (by omega) (by rw [hrec 1 (by omega)]; rfl)
      cases e1
      obtain ⟨b', e1, c2⟩ := HF.out i 2 _ (by omega) (by rw [hrec 2 (by omega)]; rfl)
      cases e1
      obtain ⟨b', e1, c3⟩ := HF.out i 3 _ (by omega) (by rw [hrec 3 (by omega)]; rfl)
      cases e1
      rw [Nat.add_zero] at c0
      have d0 := pw_cell_below hM.out.hb c0
      have d1 := pw_cell_below hM.out.hb c1
      have d2 := pw_cell_below hM.out.hb c2
      have d3 := pw_cell_below hM.out.hb c3
      have hE2 := hE.out
      rw [List.drop_eq_getElem_cons hlt, firstF, show fs[i] = f from (List.getElem?_eq_some_iff.1 hf).2] at hE2
      have HE := Aside0.mk hE2
      have hlt' : (i : Int) < fs.length := by omega
      have HLT := Aside0.mk hlt
      have TT := Aside0.mk (test93_any wr b3 kind label f.label f.start f.loop (bs.getD i nilS) (pw_cell_below hM.out.hb E.out.1) (pw_cell_below hM.out.hb E.out.2))
      have hTf : T f = (decide (f.label = label) && (f.loop || decide (kind = 5))) := by rw [HT.out]
      rw [← hTf] at TT
      clear hTf hE hE2 hrec hf c0 c1 c2 c3
      cases hb : T f with
      | true =>
        rw [hb] at TT
        have HB := Aside0.mk (show (i : Int) = firstF T fs 0 by have := HE.out; rwa [if_pos hb] at this)
        clear hb
        go_wp2_with (first
          | (go_at_call 93; refine TT.out.mono ?_; rintro e w5 ⟨rfl, hb5⟩; have M5 := Aside0.mk (hM.out.below hb5); clear hb5))
        go_ret
        exact ⟨by rw [← HB.out]; rfl, M5.out.hb⟩
      | false =>
        rw [hb] at TT
        have HB := Aside0.mk (show firstF T (fs.drop (i + 1)) (i + 1) = firstF T fs 0 by have := HE.out; rwa [if_neg (by rw [hb]; decide)] at this)
        clear hb
        go_wp2_with (first
          | (go_at_call 93; refine TT.out.mono ?_; rintro e w5 ⟨rfl, hb5⟩; have M5 := Aside0.mk (hM.out.below hb5); clear hb5))
        go_roundw
        case rel => exact ⟨i + 1, by go_num, by have := HLT.out; omega, HB, M5⟩
        case measure => have := HLT.out; simp [intOf]; omega
    · obtain rfl : i = fs.length := by omega
      have HB := Aside0.mk (show (-1 : Int) = firstF T fs 0 by have := hE.out; rwa [List.drop_length, firstF] at this)
      go_wp2
      go_ret
      exact ⟨by rw [← HB.out]; rfl, hM.out.hb⟩
end Go.Proofs.Ytfiiihpdekppiaa
end
