/- A part of the proof that vellumlaw12.ShapeErrors is true for every input: walks of functions that the row reaches and plain laws that they need. Conditions: none. Joined by merge.py out of C20 C21 C22; a part that began as a print is named P or W there and is trimmed. -/
import Derived.Test.YtfiiihpdekppiaaE11
import Derived.Test.YtfiiihpdekppiaaE13
set_option linter.unusedVariables false
set_option linter.unusedSimpArgs false
section
namespace Go.Proofs.Ytfiiihpdekppiaa
open PShapeReducible (S31 k31)
open Go.RowKit Go.Shelf Go.Proofs Go.Proofs.YtfiiihpdekppiaaW.PrintWords
open Go.ChangeMaps (setBlock heap_setBlock_same heap_setBlock_other)
attribute [local go_sem] Oper.semAt_some
def BuildIs (succ : List (List Int)) (node : List Int) (x : Sh) : Prop := ∃ r d l e k s9, OrderIs succ r ∧ DominatorsIs succ d ∧ r.length ≤ 1000000 ∧ edgesF succ (posF r 0 []) r ([], []) = some (l, e) ∧ (∀ y ∈ r, 0 ≤ y ∧ y < d.length) ∧
 bF ⟨succ, node, posF r 0 [], (mergeF e d r.reverse ([], [])).2, (mergeF e d r.reverse ([], [])).1⟩ k (.tree 0) ⟨l, [], 0⟩ = some (x, s9)
theorem nd2_list (N : Nat) (ord : List Int) (h : ∀ y ∈ ord, 0 ≤ y ∧ y < N) : ∃ xs : List (Nd2 N), xs.length = ord.length ∧ (∀ k (hk : k < xs.length), (xs[k]).1 = (ord.length - 1 - k, ord.getD (ord.length - 1 - k) 0)) ∧ xs.map (fun x => x.1.2) = ord.reverse := by
 refine ⟨List.ofFn fun k : Fin ord.length => ⟨(ord.length - 1 - k, ord.getD (ord.length - 1 - k) 0), h _ (by
  rw [List.getD_eq_getElem?_getD, List.getElem?_eq_getElem (by omega)]
  exact List.getElem_mem _)⟩, by simp, fun k hk => by simp, ?_⟩
 apply List.ext_getElem?
 intro i
 by_cases hi : i < ord.length
 ·have h2 : ord.length - 1 - i < ord.length := by omega
  simp [hi, List.getD_eq_getElem?_getD, h2]
 ·rw [List.getElem?_eq_none (by simpa using Nat.le_of_not_lt hi), List.getElem?_eq_none (by simpa using Nat.le_of_not_lt hi)]
def vals2 {N : Nat} (l : List (Nd2 N)) : List Int := l.map fun x => x.1.2
theorem mergeF_snoc (edges : List (Int × Int)) (dom : List Int) : ∀ (l : List Int) (x : Int) (s : List (Int × Bool) × List (Int × List Int)), mergeF edges dom (l ++ [x]) s = (if mI0 edges x > 1 then (mput (mergeF edges dom l s).1 x true, mput (mergeF edges dom l s).2 (dom.getD x.toNat 0) (kidsOf (mergeF edges dom l s).2 (dom.getD x.toNat 0) ++ [x])) else mergeF edges dom l s)
 | [], _, _ => rfl
 | y :: l, x, s => by
  simp only [List.cons_append, mergeF]
  exact mergeF_snoc edges dom l x _
theorem cell_setBlock {w : World} {b : Nat} {o o' : Obj} {p : Addr} {v : Value} (hb : w.heap[b]? = some o') (ho : o.isCells = false) (h : (setBlock w b o).cell? p = some v) : w.cell? p = some v := by
 by_cases e : p.block = b
 ·have : (setBlock w b o).heap[p.block]? = some o := by rw [e]; simp [setBlock, blk_lt' hb]
  unfold World.cell? at h
  rw [this] at h
  cases o <;> simp [Obj.isCells] at ho h
 ·have : (setBlock w b o).heap[p.block]? = w.heap[p.block]? := by simp [setBlock, Ne.symm e]
  rwa [World.cell?_of_block (w := w) this] at h
theorem kidsOf_put (kids : List (Int × List Int)) (a : Int) (x : List Int) (k : Int) : kidsOf (mput kids a x) k = if k = a then x else kidsOf kids k := by
 unfold kidsOf
 rw [mget_put]
 split <;> rfl
theorem mergeF_kids (edges : List (Int × Int)) (dom : List Int) : ∀ (l : List Int) (s : List (Int × Bool) × List (Int × List Int)) (k : Int), (kidsOf (mergeF edges dom l s).2 k).length ≤ (kidsOf s.2 k).length + l.length
 | [], s, k => Nat.le_refl _
 | x :: l, s, k => by
  simp only [mergeF, List.length_cons]
  split
  ·refine Nat.le_trans (mergeF_kids edges dom l _ k) ?_
   simp only [kidsOf_put]
   split
   ·rename_i h; rw [h]; simp; omega
   ·omega
  ·exact Nat.le_trans (mergeF_kids edges dom l s k) (by omega)
theorem KeepsFrom.chg {B : Nat} {S : Nat → Prop} {W W' : World} (h : Chg S W W') (hS : ∀ k o, S k → B ≤ k → W.heap[k]? = some o → o.isCells = true) : KeepsFrom B W W' :=
 ⟨h.size, fun k o hB hk ho => (h.block k (blk_lt' hk) (fun hs => by have := hS k o hs hB hk; rw [ho] at this; cases this)).trans hk⟩
set_option maxRecDepth 100000 in
set_option maxHeartbeats 4000000 in
theorem build_any (w : World) (As An : Option Addr) (cs cn : Nat) (succ : List (List Int)) (node : List Int) (x : Sh) (hG : kG.C w As succ.length succ) (hcs : succ.length ≤ cs) (hN : kI.C w An node.length node) (h : BuildIs succ node x) :
    Calls Try.prog 42 #[.agg #[.slice As succ.length cs], .slice An node.length cn] w fun e w' => ∃ A c ok, e = .returned (.agg (shc x A c).toArray) ∧ Kd.FK k31 w' ok x (shc x A c) ∧ (∀ b, ok b → w.heap.size ≤ b) ∧ Below w.heap.size w w' := by
  obtain ⟨r, d, l, e, k, s9, hord, hdom, hrl, hed, hrd, hbf⟩ := h
  obtain ⟨hs0, hs6, ⟨kv, hvd⟩, ⟨ko, hoo⟩, kr, hrv⟩ := hord
  have hmm := @run_makeMap Try.prog
  obtain ⟨b2, w1, z1, a1, M1⟩ := (Mem.start w).alloc (.cells #[.slice As succ.length cs] 27)
  obtain ⟨b4, w2, z2, a2, M2⟩ := M1.alloc (.cells shz.toArray 31)
  obtain ⟨b5, w3, z3, a3, M3⟩ := M2.alloc (.cells #[.int .i64 0] 3)
  have k5 := M3.cell (k := 2) (j := 0) rfl rfl
  have k6 := M3.free (k := 2) (j := 0) rfl
  obtain ⟨w3', s3, M3'⟩ := M3.set (k := 2) 0 rfl (.int .i64 0)
  have k2 := M3'.cell (k := 0) (j := 0) rfl rfl
  obtain ⟨bat, w4, z4, a4, M4⟩ := M3'.alloc (.map #[] 0)
  obtain ⟨bk, w5, z5, a5, M5⟩ := M4.newkm
  obtain ⟨bmg, w6, z6, a6, M6⟩ := M5.alloc (.map #[] 0)
  obtain ⟨blo, w7, z7, a7, M7⟩ := M6.alloc (.map #[] 0)
  obtain ⟨bbl, w8, z8, a8, M8⟩ := M7.alloc (.map #[] 0)
  obtain ⟨bb, w9, z9, a9, M9⟩ := M8.alloc (.cells #[.slice As succ.length cs, .slice An node.length cn, .map (some bat), .map (some bk), .map (some bmg), .map (some blo), .map (some bbl), .func (.func 64) #[] #[.pointer (some ⟨b5, 0, none⟩)]] 116)
  obtain ⟨b6, w10, z10, a10, M10⟩ := M9.alloc (.cells #[.pointer (some ⟨bb, 0, none⟩)] 112)
  have k3 := M10.cell (k := 0) (j := 0) rfl rfl
  have MM := Aside0.mk M10
  have HG := Aside0.mk hG
  have HN := Aside0.mk hN
  have HVD := Aside0.mk hvd
  have HOO := Aside0.mk hoo
  have HRV := Aside0.mk hrv
  have HDM := Aside0.mk hdom
  have HED := Aside0.mk hed
  have HRD := Aside0.mk hrd
  have HBF := Aside0.mk hbf
  clear M1 M2 M3 M3' M4 M5 M6 M7 M8 M9 M10 hG hN hvd hoo hrv hdom hed hrd hbf
  refine callsIn_wide.1 (callsIn_of_wp_marks (n := 5) Try.func42 rfl trivial ?_ rfl)
  refine wpIn_wide.2 ?_
  obtain ⟨Q', hQ'⟩ : ∃ Q', Q' = bodyPostM Fence.wide 5 Try.prog Try.f42 (fun e w' => ∃ A c ok, e = .returned (.agg (shc x A c).toArray) ∧ Kd.FK k31 w' ok x (shc x A c) ∧ (∀ b, ok b → w.heap.size ≤ b) ∧ Below w.heap.size w w') := ⟨_, rfl⟩
  rw [← hQ']
  have HQ := Aside0.mk hQ'
  clear hQ'
  simp only [Try.ntmps42, List.size_toArray, List.length_cons, List.length_nil, Nat.reduceAdd, Nat.reduceSub, Array.replicate_succ, Array.replicate_zero, List.push_toArray, List.append_toArray, List.nil_append, List.cons_append]
  go_wp2_with (first
    | (go_at_call 41; refine (order_any w10 As cs succ ko kv kr r (Kd.C_below HG.out MM.out.hb) hcs hs6 hs0 HVD.out HOO.out HRV.out).mono ?_; rintro e w11 ⟨v7, rfl, hr11, hb11⟩; have ho11 := own_R hr11; obtain ⟨A7, c7, rfl⟩ := own_slice ho11; have M11 := Aside0.mk (MM.out.newrow hb11 ho11 (fun k hk => own_base ho11 k hk)); clear hr11 hb11 ho11))
  have LP := Aside0.mk (show Mem w w11 [] [.blk b2 (.cells #[.slice As succ.length cs] 27 (0, 0)), .blk b4 (.cells shz.toArray 31 (0, 0)), .blk b5 (.cells #[.int .i64 (0 : Nat)] 3 (0, 0)), .blk bat (mI []), .km bk [] [], .blk bmg (mB []), .blk blo (mI []), .blk bbl (mI []), .blk bb (.cells #[.slice As succ.length cs, .slice An node.length cn, .map (some bat), .map (some bk), .map (some bmg), .map (some blo), .map (some bbl), .func (.func 64) #[] #[.pointer (some ⟨b5, 0, none⟩)]] 116 (0, 0)), .blk b6 (.cells #[.pointer (some ⟨bb, 0, none⟩)] 112 (0, 0)), .row (.slice A7 r.length c7) 3 1 r.length (nums .i64 r)] from M11.out)
  clear k5 k6 k2 k3 s3 hmm z1 z2 z3 z4 z5 z6 z7 z8 z9 z10 a1 a2 a3 a4 a5 a6 a7 a8 a9 a10 M11 MM
  obtain ⟨att, hatt⟩ : ∃ att, att = posF r 0 [] := ⟨_, rfl⟩
  rw [← hatt] at HED HBF
  have HED := Aside0.mk HED
  have HBF := Aside0.mk HBF
  have HATT := Aside0.mk hatt.symm
  clear hatt
  go_loopw [32] (fun t wr => ∃ (i : Nat) (m : List (Int × Int)), t = .int .i64 i ∧ i ≤ r.length ∧ Aside0 (posF (r.drop i) i m = att) ∧ Aside0 (Mem w wr [] [.blk b2 (.cells #[.slice As succ.length cs] 27 (0, 0)), .blk b4 (.cells shz.toArray 31 (0, 0)), .blk b5 (.cells #[.int .i64 (0 : Nat)] 3 (0, 0)), .blk bat (mI m), .km bk [] [], .blk bmg (mB []), .blk blo (mI []), .blk bbl (mI []), .blk bb (.cells #[.slice As succ.length cs, .slice An node.length cn, .map (some bat), .map (some bk), .map (some bmg), .map (some blo), .map (some bbl), .func (.func 64) #[] #[.pointer (some ⟨b5, 0, none⟩)]] 116 (0, 0)), .blk b6 (.cells #[.pointer (some ⟨bb, 0, none⟩)] 112 (0, 0)), .row (.slice A7 r.length c7) 3 1 r.length (nums .i64 r)])) (fun t _ => r.length - (intOf t).toNat)
  case atStart => exact ⟨0, [], rfl, Nat.zero_le _, ⟨by simpa using HATT.out⟩, LP⟩
  case round =>
    obtain ⟨i, m, rfl, hi, hA, hM⟩ := hrel
    have h1 := hA.out
    by_cases hlt : i < r.length
    · obtain ⟨y, hy⟩ : ∃ y, y = r.getD i 0 := ⟨_, rfl⟩
      rw [List.drop_eq_getElem_cons hlt, show r[i] = y by simp [hy, List.getD_eq_getElem?_getD, hlt]] at h1
      obtain ⟨bo, co, e8, c8⟩ := hM.out.rowNum (k := 10) rfl rfl hlt
      simp only [Value.slice.injEq, true_and] at e8
      obtain ⟨rfl, rfl⟩ := e8
      rw [← hy] at c8
      have k1 := hM.out.cell (k := 9) (j := 0) rfl rfl
      have k2 := hM.out.cell (k := 8) (j := 2) rfl rfl
      obtain ⟨w12, p12, M12⟩ := hM.out.putI (k := 3) rfl y i
      have H1 := Aside0.mk h1
      have M12 := Aside0.mk M12
      have hlt' : (i : Int) < r.length := by omega
      clear hy h1 hA
      go_wp2
      go_roundw
      case rel => exact ⟨i + 1, mput m y i, by go_num, by omega, H1, M12⟩
      case measure => simp [intOf]; omega
    · obtain rfl : r.length = i := by omega
      rw [List.drop_length] at h1
      simp only [posF] at h1
      subst h1
      have hmm := @run_makeMap Try.prog
      obtain ⟨be, w12, z12, a12, M12⟩ := hM.out.alloc (.map #[] 0)
      obtain ⟨b10, w13, z13, a13, M13⟩ := M12.alloc (.cells #[.map (some be)] 97)
      have LP2 := Aside0.mk (show Mem w w13 [] [.blk b2 (.cells #[.slice As succ.length cs] 27 (0, 0)), .blk b4 (.cells shz.toArray 31 (0, 0)), .blk b5 (.cells #[.int .i64 (0 : Nat)] 3 (0, 0)), .blk bat (mI m), .km bk [] [], .blk bmg (mB []), .blk blo (mI []), .blk bbl (mI []), .blk bb (.cells #[.slice As succ.length cs, .slice An node.length cn, .map (some bat), .map (some bk), .map (some bmg), .map (some blo), .map (some bbl), .func (.func 64) #[] #[.pointer (some ⟨b5, 0, none⟩)]] 116 (0, 0)), .blk b6 (.cells #[.pointer (some ⟨bb, 0, none⟩)] 112 (0, 0)), .row (.slice A7 r.length c7) 3 1 r.length (nums .i64 r), .blk be (mI []), .blk b10 (.cells #[.map (some be)] 97 (0, 0))] from M13)
      clear M12 M13 hM LP
      go_wp2
      clear hmm z12 z13 a12 a13
      go_loopw [47] (fun t wr => ∃ (i : Nat) (s : List (Int × Int) × List (Int × Int)), t = .int .i64 i ∧ i ≤ r.length ∧ Aside0 (edgesF succ m (r.drop i) s = some (l, e)) ∧ Aside0 (Mem w wr [] [.blk b2 (.cells #[.slice As succ.length cs] 27 (0, 0)), .blk b4 (.cells shz.toArray 31 (0, 0)), .blk b5 (.cells #[.int .i64 (0 : Nat)] 3 (0, 0)), .blk bat (mI m), .km bk [] [], .blk bmg (mB []), .blk blo (mI s.1), .blk bbl (mI []), .blk bb (.cells #[.slice As succ.length cs, .slice An node.length cn, .map (some bat), .map (some bk), .map (some bmg), .map (some blo), .map (some bbl), .func (.func 64) #[] #[.pointer (some ⟨b5, 0, none⟩)]] 116 (0, 0)), .blk b6 (.cells #[.pointer (some ⟨bb, 0, none⟩)] 112 (0, 0)), .row (.slice A7 r.length c7) 3 1 r.length (nums .i64 r), .blk be (mI s.2), .blk b10 (.cells #[.map (some be)] 97 (0, 0))])) (fun t _ => r.length - (intOf t).toNat)
      case atStart => exact ⟨0, ([], []), rfl, Nat.zero_le _, ⟨by simpa using HED.out.out⟩, LP2⟩
      case round =>
        obtain ⟨i, s, rfl, hi, hA, hM⟩ := hrel
        have h1 := hA.out
        by_cases hlt : i < r.length
        · obtain ⟨y, hy⟩ : ∃ y, y = r.getD i 0 := ⟨_, rfl⟩
          rw [List.drop_eq_getElem_cons hlt, show r[i] = y by simp [hy, List.getD_eq_getElem?_getD, hlt]] at h1
          simp only [edgesF] at h1
          by_cases hg : (0 ≤ y ∧ y < succ.length) ∧ (succ.getD y.toNat []).length ≤ 1000000000
          · rw [if_pos hg] at h1
            obtain ⟨⟨hy0, hy1⟩, hll⟩ := hg
            obtain ⟨y, rfl⟩ := Int.eq_ofNat_of_zero_le hy0
            rw [Int.toNat_natCast] at h1 hll
            obtain ⟨s1, hs1, h1⟩ := Option.bind_eq_some_iff.1 h1
            obtain ⟨ls, hls⟩ : ∃ ls, ls = succ.getD y [] := ⟨_, rfl⟩
            obtain ⟨ads, A0, c0, hAs, g1, g2, g3⟩ := C_row HG.out y (by omega)
            rw [← hls] at hs1 g1 g2 g3 hll
            obtain ⟨bo, co, e8, c8⟩ := hM.out.rowNum (k := 10) rfl rfl hlt
            simp only [Value.slice.injEq, true_and] at e8
            obtain ⟨rfl, rfl⟩ := e8
            rw [← hy] at c8
            have k1 : wr.cell? ⟨b2, 0, none⟩ = some (.slice (some ads) succ.length cs) := by rw [← hAs]; exact hM.out.cell (k := 0) (j := 0) rfl rfl
            have k2 := pw_cell_below hM.out.hb g1
            have HS1 := Aside0.mk hs1
            have H1 := Aside0.mk h1
            have G3 := Aside0.mk g3
            have hlt' : (i : Int) < r.length := by omega
            have hy1' : (y : Int) < succ.length := hy1
            clear hy h1 hA hs1 hls g1 g3 hAs
            go_wp2
            clear k1 k2 c8
            obtain ⟨wo, hwo⟩ : ∃ wo : World, wo = wr := ⟨_, rfl⟩
            subst hwo
            go_loopw [57] (fun t wq => ∃ (j : Nat) (s' : List (Int × Int) × List (Int × Int)), t = .int .i64 j ∧ j ≤ ls.length ∧ Aside0 (edgeF m y (ls.drop j) s' = some s1) ∧ Aside0 (Mem w wq [] [.blk b2 (.cells #[.slice As succ.length cs] 27 (0, 0)), .blk b4 (.cells shz.toArray 31 (0, 0)), .blk b5 (.cells #[.int .i64 (0 : Nat)] 3 (0, 0)), .blk bat (mI m), .km bk [] [], .blk bmg (mB []), .blk blo (mI s'.1), .blk bbl (mI []), .blk bb (.cells #[.slice As succ.length cs, .slice An node.length cn, .map (some bat), .map (some bk), .map (some bmg), .map (some blo), .map (some bbl), .func (.func 64) #[] #[.pointer (some ⟨b5, 0, none⟩)]] 116 (0, 0)), .blk b6 (.cells #[.pointer (some ⟨bb, 0, none⟩)] 112 (0, 0)), .row (.slice (some ⟨bo, 0, none⟩) r.length c7) 3 1 r.length (nums .i64 r), .blk be (mI s'.2), .blk b10 (.cells #[.map (some be)] 97 (0, 0))])) (fun t _ => ls.length - (intOf t).toNat)
            case atStart => exact ⟨0, s, rfl, Nat.zero_le _, ⟨by simpa using HS1.out⟩, hM⟩
            case round =>
              obtain ⟨j, s', rfl, hj, hE, hM2⟩ := hrel
              have h2 := hE.out
              by_cases hjl : j < ls.length
              · obtain ⟨z, hz⟩ : ∃ z, z = ls.getD j 0 := ⟨_, rfl⟩
                rw [List.drop_eq_getElem_cons hjl, show ls[j] = z by simp [hz, List.getD_eq_getElem?_getD, hjl]] at h2
                simp only [edgeF] at h2
                obtain ⟨adl, rfl, e1⟩ := C_num (Kd.C_below G3.out hM2.out.hb) j hjl
                rw [← hz] at e1
                have hjl' : (j : Int) < ls.length := by omega
                obtain ⟨wd, zd, MD⟩ := hM2.out.drew
                have k1 := MD.cell (k := 9) (j := 0) rfl rfl
                have k2 := MD.cell (k := 8) (j := 2) rfl rfl
                have L1 := look_I (MD.blk (k := 3) rfl) z
                have L2 := look_I (MD.blk (k := 3) rfl) y
                clear hz hE
                by_cases hle : mI0 m z ≤ mI0 m y
                · rw [if_pos hle] at h2
                  have k3 := MD.cell (k := 8) (j := 5) rfl rfl
                  obtain ⟨w15, p15, M15⟩ := MD.putI (k := 6) rfl z (-1)
                  have H2 := Aside0.mk h2
                  have M15 := Aside0.mk M15
                  clear h2 MD
                  go_wp2_with (first | (rw [zd]) | (refine wp_region_txt (fun _ => True) [] (by kernel_rfl) (by kernel_rfl) ?_) | (with_reducible refine wpT_nil ?_) | (refine wpT_W (v := ?_) trivial (by decide) (wanted_none rfl) (fun _ hS_ => ?_) ?_; rotate_left; (focus ((try dsimp only at hS_); go_simp; rfl)); (simp only [Act.put, List.setIfInBounds_toArray, List.set_cons_zero, List.set_cons_succ])) | (refine wpT_R (v := ?_) trivial (by decide) (wanted_none rfl) ?_ ?_; rotate_left; (focus (go_simp; rfl)); (simp only [Act.put, List.setIfInBounds_toArray, List.set_cons_zero, List.set_cons_succ])) | (refine wpT_A (v := ?_) (ob := ?_) trivial (by decide) (wanted_none rfl) ?_ ?_ ?_; rotate_left 2; (focus (go_simp; first | (constructor <;> rfl) | rfl)); (focus (exact trivial)); (simp only [Act.put, List.setIfInBounds_toArray, List.set_cons_zero, List.set_cons_succ])))
                  go_roundw
                  case rel => exact ⟨j + 1, (mput s'.1 z (-1), s'.2), by go_num, by omega, H2, M15⟩
                  case measure => simp [intOf]; omega
                · rw [if_neg hle] at h2
                  by_cases hg2 : 0 ≤ mI0 s'.2 z ∧ mI0 s'.2 z ≤ 1000000000
                  · rw [if_pos hg2] at h2
                    obtain ⟨hg3, hg4⟩ := hg2
                    have k3 := MD.cell (k := 12) (j := 0) rfl rfl
                    have L3 := look_I (MD.blk (k := 11) rfl) z
                    obtain ⟨c, hc⟩ : ∃ c, c = mI0 s'.2 z := ⟨_, rfl⟩
                    rw [← hc] at L3 h2 hg3 hg4
                    obtain ⟨w15, p15, M15⟩ := MD.putI (k := 11) rfl z (c + 1)
                    have H2 := Aside0.mk h2
                    have M15 := Aside0.mk M15
                    clear h2 MD hc
                    go_wp2_with (first | (rw [zd]) | (refine wp_region_txt (fun _ => True) [] (by kernel_rfl) (by kernel_rfl) ?_) | (with_reducible refine wpT_nil ?_) | (refine wpT_W (v := ?_) trivial (by decide) (wanted_none rfl) (fun _ hS_ => ?_) ?_; rotate_left; (focus ((try dsimp only at hS_); go_simp; rfl)); (simp only [Act.put, List.setIfInBounds_toArray, List.set_cons_zero, List.set_cons_succ])) | (refine wpT_R (v := ?_) trivial (by decide) (wanted_none rfl) ?_ ?_; rotate_left; (focus (go_simp; rfl)); (simp only [Act.put, List.setIfInBounds_toArray, List.set_cons_zero, List.set_cons_succ])) | (refine wpT_A (v := ?_) (ob := ?_) trivial (by decide) (wanted_none rfl) ?_ ?_ ?_; rotate_left 2; (focus (go_simp; first | (constructor <;> rfl) | rfl)); (focus (exact trivial)); (simp only [Act.put, List.setIfInBounds_toArray, List.set_cons_zero, List.set_cons_succ])))
                    go_roundw
                    case rel => exact ⟨j + 1, (s'.1, mput s'.2 z (c + 1)), by go_num, by omega, H2, M15⟩
                    case measure => simp [intOf]; omega
                  · rw [if_neg hg2] at h2; cases h2
              · obtain rfl : ls.length = j := by omega
                rw [List.drop_length] at h2
                simp only [edgeF, Option.some.injEq] at h2
                subst h2
                go_wp2
                go_roundw
                case rel => exact ⟨i + 1, s', by go_num, by omega, H1, hM2⟩
                case measure => simp [intOf]; omega
          · rw [if_neg hg] at h1; cases h1
        · obtain rfl : r.length = i := by omega
          rw [List.drop_length] at h1
          simp only [edgesF, Option.some.injEq] at h1
          subst h1
          have k1 := hM.out.cell (k := 0) (j := 0) rfl rfl
          clear hA LP2
          go_wp2_with (first
            | (go_at_call 65; refine (dominators_is wr As cs succ d (Kd.C_below HG.out hM.out.hb) hcs HDM.out).mono ?_; rintro e w15 ⟨vd, rfl, hr15, hb15⟩; have ho15 := own_R hr15; obtain ⟨Ad, cd, rfl⟩ := own_slice ho15; have M15 := hM.out.newrow hb15 ho15 (fun k hk => own_base ho15 k hk); obtain ⟨b15, w16, z16, a16, M16⟩ := M15.alloc (.cells #[.slice Ad d.length cd] 23); have M16 := Aside0.mk M16; clear hr15 hb15 ho15 M15)
            | (go_at_call 66; refine (backward_any w16 A7 r.length c7).mono ?_; rintro e w17 ⟨rfl, hw17⟩; obtain ⟨b17, w18, z18, a18, M18⟩ := M16.out.alloc (.cells #[.slice A7 r.length c7] 23); rw [a18] at hw17; subst hw17; rw [z18]; have M18 := Aside0.mk M18))
          obtain ⟨W0, hW0⟩ : ∃ W0, W0 = w17 := ⟨_, rfl⟩
          rw [← hW0] at M18 ⊢
          have hz18 : b17 < W0.heap.size := blk_lt' (M18.out.blk (k := 15) rfl)
          have q2 := blk_lt' (M18.out.blk (k := 0) rfl)
          have q4 := blk_lt' (M18.out.blk (k := 1) rfl)
          have q5 := blk_lt' (M18.out.blk (k := 2) rfl)
          have qat := blk_lt' (M18.out.blk (k := 3) rfl)
          have qk := blk_lt' (M18.out.km (k := 4) rfl).1
          have qmg := blk_lt' (M18.out.blk (k := 5) rfl)
          have qlo := blk_lt' (M18.out.blk (k := 6) rfl)
          have qbl := blk_lt' (M18.out.blk (k := 7) rfl)
          have qbb := blk_lt' (M18.out.blk (k := 8) rfl)
          have q6 := blk_lt' (M18.out.blk (k := 9) rfl)
          have qe := blk_lt' (M18.out.blk (k := 11) rfl)
          have q10 := blk_lt' (M18.out.blk (k := 12) rfl)
          have q15 := blk_lt' (M18.out.blk (k := 14) rfl)
          have hsolid : ∀ (vs : List Value) (st : List (Int × Bool) × List (Int × List Int)), ∀ c ∈ ([.blk b2 (.cells #[.slice As succ.length cs] 27 (0, 0)), .blk b4 (.cells shz.toArray 31 (0, 0)), .blk b5 (.cells #[.int .i64 (0 : Nat)] 3 (0, 0)), .blk bat (mI m), .km bk vs st.2, .blk bmg (mB st.1), .blk blo (mI l), .blk bbl (mI []), .blk bb (.cells #[.slice As succ.length cs, .slice An node.length cn, .map (some bat), .map (some bk), .map (some bmg), .map (some blo), .map (some bbl), .func (.func 64) #[] #[.pointer (some ⟨b5, 0, none⟩)]] 116 (0, 0)), .blk b6 (.cells #[.pointer (some ⟨bb, 0, none⟩)] 112 (0, 0)), .row (.slice A7 r.length c7) 3 1 r.length (nums .i64 r), .blk be (mI e), .blk b10 (.cells #[.map (some be)] 97 (0, 0)), .row (.slice Ad d.length cd) 3 1 d.length (nums .i64 d), .blk b15 (.cells #[.slice Ad d.length cd] 23 (0, 0)), .blk b17 (.cells #[.slice A7 r.length c7] 23 (0, 0))] : List Pc) ++ [], Solid W0.heap.size c := by
            intro vs st c hc
            simp only [List.append_nil, List.mem_cons, List.not_mem_nil, or_false] at hc
            rcases hc with rfl | rfl | rfl | rfl | rfl | rfl | rfl | rfl | rfl | rfl | rfl | rfl | rfl | rfl | rfl | rfl
            all_goals first
              | exact Solid.row
              | exact Solid.km qk
              | exact Solid.blk (by assumption)
          have HSO := Aside0.mk hsolid
          obtain ⟨xs, hxl, hxs, hxr⟩ := nd2_list d.length r HRD.out
          have hcap : ∀ W', Bel W0.heap.size (fun k => k = bmg ∨ k = bk) W0 W' → W'.cell? ⟨b17, 0, none⟩ = some (.slice A7 r.length c7) := fun W' hb => by
            refine hb.cell hz18 ?_ (M18.out.cell (k := 15) (j := 0) rfl rfl)
            rintro (e | e)
            · exact blk_ne_map (M18.out.blk (k := 15) rfl) (M18.out.blk (k := 5) rfl) e
            · exact blk_ne_map (M18.out.blk (k := 15) rfl) (M18.out.km (k := 4) rfl).1 e
          have hrow : ∀ W', Bel W0.heap.size (fun k => k = bmg ∨ k = bk) W0 W' → kI.C W' A7 r.length r := fun W' hb => by
            have ho := M18.out.row (k := 10) rfl
            have ho' := own_move (w1 := W') ho (fun k hk => hb.block k (own_lt ho k hk) (by
              obtain ⟨cs, hc⟩ := own_typed ho k hk
              rintro (e | e)
              · exact blk_ne_map hc (M18.out.blk (k := 5) rfl) e
              · exact blk_ne_map hc (M18.out.km (k := 4) rfl).1 e))
            obtain ⟨A', c', e', _, hC'⟩ := own_C ho'
            simp only [Value.slice.injEq, true_and] at e'
            obtain ⟨rfl, rfl⟩ := e'
            exact hC'
          have hSEQ := backward_stops 3 b17 W0.heap.size (fun k => k = bmg ∨ k = bk) d.length A7 c7 r xs hxl hxs W0 (Nat.le_refl _) hcap hrow
          have SEQ := Aside0.mk hSEQ
          have HXR := Aside0.mk hxr
          have hw0 := M18.out.size
          have hI0 : W0.heap.size ≤ W0.heap.size ∧ ∃ vs, (∀ v ∈ vs, ∀ k, v.ownBlock = some k → W0.heap.size ≤ k) ∧ Mem w W0 [] [.blk b2 (.cells #[.slice As succ.length cs] 27 (0, 0)), .blk b4 (.cells shz.toArray 31 (0, 0)), .blk b5 (.cells #[.int .i64 (0 : Nat)] 3 (0, 0)), .blk bat (mI m), .km bk vs ((mergeF e d (vals2 ([] : List (Nd2 d.length))) ([], []))).2, .blk bmg (mB ((mergeF e d (vals2 ([] : List (Nd2 d.length))) ([], []))).1), .blk blo (mI l), .blk bbl (mI []), .blk bb (.cells #[.slice As succ.length cs, .slice An node.length cn, .map (some bat), .map (some bk), .map (some bmg), .map (some blo), .map (some bbl), .func (.func 64) #[] #[.pointer (some ⟨b5, 0, none⟩)]] 116 (0, 0)), .blk b6 (.cells #[.pointer (some ⟨bb, 0, none⟩)] 112 (0, 0)), .row (.slice A7 r.length c7) 3 1 r.length (nums .i64 r), .blk be (mI e), .blk b10 (.cells #[.map (some be)] 97 (0, 0)), .row (.slice Ad d.length cd) 3 1 d.length (nums .i64 d), .blk b15 (.cells #[.slice Ad d.length cd] 23 (0, 0)), .blk b17 (.cells #[.slice A7 r.length c7] 23 (0, 0))] := ⟨Nat.le_refl _, [], by simp, M18.out⟩
          have HI0 := Aside0.mk hI0
          clear hSEQ hxs hxr hxl hcap hrow hI0 hsolid k1 hW0
          refine (wpIn_wide (n := 5)).1 ?_
          refine wpIn_rangeFunc_ownG (F := Fence.wide) (n := 5) rfl (by decide) (gf := 85) (lb := #[.pointer (some ⟨b17, 0, none⟩)]) rfl trivial (enters_of Try.func85 (by kernel_rfl) rfl)
            SEQ.out
            (fun h k => h.trans k) (fun W l o o' hl _ _ _ => (Bel.refl _ _ _).putObj hl o') (Below.refl _ _) (fun _ => rfl)
            (fun pre W => W0.heap.size ≤ W.heap.size ∧ ∃ vs, (∀ v ∈ vs, ∀ k, v.ownBlock = some k → W0.heap.size ≤ k) ∧ Mem w W [] [.blk b2 (.cells #[.slice As succ.length cs] 27 (0, 0)), .blk b4 (.cells shz.toArray 31 (0, 0)), .blk b5 (.cells #[.int .i64 (0 : Nat)] 3 (0, 0)), .blk bat (mI m), .km bk vs (mergeF e d (vals2 pre) ([], [])).2, .blk bmg (mB (mergeF e d (vals2 pre) ([], [])).1), .blk blo (mI l), .blk bbl (mI []), .blk bb (.cells #[.slice As succ.length cs, .slice An node.length cn, .map (some bat), .map (some bk), .map (some bmg), .map (some blo), .map (some bbl), .func (.func 64) #[] #[.pointer (some ⟨b5, 0, none⟩)]] 116 (0, 0)), .blk b6 (.cells #[.pointer (some ⟨bb, 0, none⟩)] 112 (0, 0)), .row (.slice A7 r.length c7) 3 1 r.length (nums .i64 r), .blk be (mI e), .blk b10 (.cells #[.map (some be)] 97 (0, 0)), .row (.slice Ad d.length cd) 3 1 d.length (nums .i64 d), .blk b15 (.cells #[.slice Ad d.length cd] 23 (0, 0)), .blk b17 (.cells #[.slice A7 r.length c7] 23 (0, 0))]) (fun _ _ _ => False)
            (fun pre W W' row hs hg hr => by obtain ⟨hz, vs, hv, hM⟩ := hs; exact ⟨Nat.le_trans hz hg.size, vs, hv, hM.otherRow (HSO.out vs _) hw0 hg hr⟩) (fun _ _ _ _ _ h _ _ => h) HI0.out ?a1 ?assign ?body ?done ?stop
          case assign =>
            intro l x W K hK
            have he : ∀ (t : Array Value), (#[89, 90].zip (enc2 x)).foldl (fun t (p, v) => t.setIfInBounds p v) t = (t.setIfInBounds 89 (.int .i64 x.1.1)).setIfInBounds 90 (.int .i64 x.1.2) := fun t => by simp [enc2]
            rw [he]
            simp only [List.setIfInBounds_toArray, List.set_cons_zero, List.set_cons_succ]
            gi_wp2
            exact hK
          case stop => exact fun _ _ _ _ _ _ h => h.elim
          case done =>
            rintro D ys W hDge rfl hI hK
            obtain ⟨hz, vs, hvs, hM⟩ := hI
            have hvals : vals2 ys = r.reverse := HXR.out
            rw [hvals] at hM
            have M1 := hM.mark (HSO.out vs _) hw0 hDge hK rfl
            have k1 := M1.cell (k := 9) (j := 0) rfl rfl
            have M1 := Aside0.mk M1
            clear hM hvals hvs hK hz
            go_wp2_with (go_at_call 67; refine ((builder_any w ⟨bb, bat, bk, bmg, blo, bbl, b5, As, An, cs, cn, vs⟩ ⟨succ, node, m, (mergeF e d r.reverse ([], [])).2, (mergeF e d r.reverse ([], [])).1⟩ HG.out HN.out k).1 0 ⟨l, [], 0⟩ (x, s9) W _ (M1.out.focus [8, 3, 4, 5, 6, 7, 2] rfl) HBF.out.out).mono ?_; rintro e' w20 ⟨A2, c2, ok2, rfl, M2⟩; obtain ⟨y1, y2, y3, y4, ys', yc, yf, M3⟩ := (M2.wide).fill4 (k := 9) rfl (.int .i64 x.f0) (.int .i64 x.f1) (.int .i64 x.f2) (.slice A2 x.f3.length c2); have M3 := Aside0.mk M3; clear M2)
            rw [HQ.out]
            refine ⟨by simp, .inl ⟨D, _, rfl, run_takeDeferred (M3.out.blk (k := 17) rfl), ?_⟩⟩
            have M4 := M3.out.putO (k := 17) rfl (.deferred none)
            exact ⟨_, results_cell_row rfl _ _ b4 31 (shc x A2 c2).toArray (0, 0) _ rfl (M4.blk (k := 9) rfl) Try.underlying31 rfl (by kernel_rfl), A2, c2, ok2, rfl, M4.fk (k := 7) rfl, M4.base (k := 7) rfl, M4.hb⟩
          case body =>
            rintro l' pre ⟨⟨ix, y⟩, hy0, hyN⟩ W ⟨hbelow, vs, hvs, hM⟩ hlen
            have hy0 : 0 ≤ y := hy0
            have hyN : y < d.length := hyN
            obtain ⟨y, rfl⟩ := Int.eq_ofNat_of_zero_le hy0
            have hsn : vals2 (pre ++ [(⟨(ix, (y : Int)), hy0, hyN⟩ : Nd2 d.length)]) = vals2 pre ++ [(y : Int)] := by simp [vals2]
            have hpl : (vals2 pre).length ≤ r.length := by have : xs.length = r.length := by have := congrArg List.length HXR.out; simpa using this
                                                           simp [vals2]; omega
            have hfold := mergeF_snoc e d (vals2 pre) (y : Int) ([], [])
            rw [← hsn] at hfold
            obtain ⟨st, hst⟩ : ∃ st, st = mergeF e d (vals2 pre) ([], []) := ⟨_, rfl⟩
            have hkl : ∀ k, (kidsOf st.2 k).length ≤ 1000000 := fun k => by rw [hst]; exact Nat.le_trans (mergeF_kids e d _ _ k) (by simp [kidsOf, mget]; omega)
            rw [← hst] at hM hfold
            have k1 := hM.cell (k := 12) (j := 0) rfl rfl
            have L1 := look_I (hM.blk (k := 11) rfl) y
            have MB := Aside0.mk hM
            have HVS := Aside0.mk hvs
            have HKL := Aside0.mk hkl
            clear hM hvs hsn hpl hst hlen hkl
            by_cases hgt : mI0 e y > 1
            · rw [if_pos hgt] at hfold
              obtain ⟨c, hc⟩ : ∃ c, c = mI0 e y := ⟨_, rfl⟩
              rw [← hc] at L1 hgt
              obtain ⟨dv, hdv⟩ : ∃ dv, dv = d.getD y 0 := ⟨_, rfl⟩
              rw [Int.toNat_natCast, ← hdv] at hfold
              have HFO := Aside0.mk hfold
              clear hfold
              obtain ⟨bd, cdd, e8, c8⟩ := MB.out.rowNum (k := 13) (i := y) rfl rfl (by omega)
              simp only [Value.slice.injEq, true_and] at e8
              obtain ⟨rfl, rfl⟩ := e8
              have k2 := MB.out.cell (k := 9) (j := 0) rfl rfl
              have k3 := MB.out.cell (k := 8) (j := 4) rfl rfl
              have p1 := put_B (MB.out.blk (k := 5) rfl) y true
              obtain ⟨W1, hW1⟩ : ∃ W1, W1 = setBlock W bmg (mB (mput st.1 y true)) := ⟨_, rfl⟩
              have M1 := MB.out.put (k := 5) rfl (mB (mput st.1 y true))
              rw [← hW1] at p1 M1
              obtain ⟨W2, hW2⟩ : ∃ W2, W1.drew = W2 := ⟨_, rfl⟩
              have M2 : Mem w W2 [] [.blk b2 (.cells #[.slice As succ.length cs] 27 (0, 0)), .blk b4 (.cells shz.toArray 31 (0, 0)), .blk b5 (.cells #[.int .i64 (0 : Nat)] 3 (0, 0)), .blk bat (mI m), .km bk vs (mput st.1 y true, st.2).2, .blk bmg (mB (mput st.1 y true, st.2).1), .blk blo (mI l), .blk bbl (mI []), .blk bb (.cells #[.slice As succ.length cs, .slice An node.length cn, .map (some bat), .map (some bk), .map (some bmg), .map (some blo), .map (some bbl), .func (.func 64) #[] #[.pointer (some ⟨b5, 0, none⟩)]] 116 (0, 0)), .blk b6 (.cells #[.pointer (some ⟨bb, 0, none⟩)] 112 (0, 0)), .row (.slice A7 r.length c7) 3 1 r.length (nums .i64 r), .blk be (mI e), .blk b10 (.cells #[.map (some be)] 97 (0, 0)), .row (.slice (some ⟨bd, 0, none⟩) d.length cd) 3 1 d.length (nums .i64 d), .blk b15 (.cells #[.slice (some ⟨bd, 0, none⟩) d.length cd] 23 (0, 0)), .blk b17 (.cells #[.slice A7 r.length c7] 23 (0, 0))] := by rw [← hW2]; exact M1.below (Below.refl _ _).drew
              obtain ⟨Ak, ck, hkv, hkc⟩ := kids_slice (M2.km (k := 4) rfl).2 dv
              have hS : ∀ (W3 : World) (vs3 : List Value) (st3 : List (Int × Bool) × List (Int × List Int)), Mem w W3 [] [.blk b2 (.cells #[.slice As succ.length cs] 27 (0, 0)), .blk b4 (.cells shz.toArray 31 (0, 0)), .blk b5 (.cells #[.int .i64 (0 : Nat)] 3 (0, 0)), .blk bat (mI m), .km bk vs3 st3.2, .blk bmg (mB st3.1), .blk blo (mI l), .blk bbl (mI []), .blk bb (.cells #[.slice As succ.length cs, .slice An node.length cn, .map (some bat), .map (some bk), .map (some bmg), .map (some blo), .map (some bbl), .func (.func 64) #[] #[.pointer (some ⟨b5, 0, none⟩)]] 116 (0, 0)), .blk b6 (.cells #[.pointer (some ⟨bb, 0, none⟩)] 112 (0, 0)), .row (.slice A7 r.length c7) 3 1 r.length (nums .i64 r), .blk be (mI e), .blk b10 (.cells #[.map (some be)] 97 (0, 0)), .row (.slice (some ⟨bd, 0, none⟩) d.length cd) 3 1 d.length (nums .i64 d), .blk b15 (.cells #[.slice (some ⟨bd, 0, none⟩) d.length cd] 23 (0, 0)), .blk b17 (.cells #[.slice A7 r.length c7] 23 (0, 0))] → (W3.cell? ⟨b6, 0, none⟩ = some (.pointer (some ⟨bb, 0, none⟩)) ∧ W3.cell? ⟨bb, 3, none⟩ = some (.map (some bk)) ∧ W3.cell? ⟨b15, 0, none⟩ = some (.slice (some ⟨bd, 0, none⟩) d.length cd) ∧ W3.cell? ⟨bd, y, none⟩ = some (.int .i64 dv)) := fun W3 vs3 st3 M3 => by
                refine ⟨M3.cell (k := 9) rfl rfl, M3.cell (k := 8) rfl rfl, M3.cell (k := 14) rfl rfl, ?_⟩
                obtain ⟨bd', cd', e9, c9⟩ := M3.rowNum (k := 13) (i := y) rfl rfl (by omega)
                simp only [Value.slice.injEq, Option.some.injEq, Addr.mk.injEq, and_true, true_and] at e9
                rw [e9.1, c9, hdv]
              have j0 := hS W2 vs (mput st.1 y true, st.2) M2
              have HS := Aside0.mk hS
              have M2 := Aside0.mk M2
              have HW := Aside0.mk (And.intro hW1 hW2)
              have HKV := Aside0.mk hkv
              have hyd : (y : Int) < d.length := hyN
              have hgt' : (1 : Int) < c := hgt
              clear hW1 M1 hS hkv hdv c8 hc
              gi_wp2_with (first | (rw [hW2]) | (refine wpIn_region_txt (fun W3 => W3.cell? ⟨b6, 0, none⟩ = some (.pointer (some ⟨bb, 0, none⟩)) ∧ W3.cell? ⟨bb, 3, none⟩ = some (.map (some bk)) ∧ W3.cell? ⟨b15, 0, none⟩ = some (.slice (some ⟨bd, 0, none⟩) d.length cd) ∧ W3.cell? ⟨bd, y, none⟩ = some (.int .i64 dv)) [0, 3, 4, 7, 2016] (by kernel_rfl) (by kernel_rfl) (by kernel_rfl) ?_))
              iterate 16 (first | (with_reducible refine wpT_nil ?_) | (refine wpT_W (v := ?_) (by assumption) (by decide) (wanted_none rfl) (fun _ hS_ => ?_) ?_; rotate_left; (focus ((try dsimp only at hS_); go_simp; rfl)); (simp only [Act.put, List.setIfInBounds_toArray, List.set_cons_zero, List.set_cons_succ])) | (refine wpT_R (v := ?_) (by assumption) (by decide) (wanted_none rfl) ?_ ?_; rotate_left; (focus (go_simp; rfl)); (simp only [Act.put, List.setIfInBounds_toArray, List.set_cons_zero, List.set_cons_succ])) | (refine wpT_A (v := ?_) (ob := ?_) (by assumption) (by decide) (wanted_none rfl) ?_ ?_ ?_; rotate_left 2; (focus (go_simp; first | (constructor <;> rfl) | rfl)); (focus (apply cell_alloc; assumption)); (simp only [Act.put, List.setIfInBounds_toArray, List.set_cons_zero, List.set_cons_succ])))
              have hlk : ∀ W', Ext W2 W' → (Instr.lookup 113 (.map (some bk)) (.int .i64 dv) false).run Try.prog W' = .ok (.slice Ak (kidsOf st.2 dv).length ck) W' := fun W' hx => by
                rw [run_look Try.underlying113 Try.underlying3 ((hx.2 bk (blk_lt' (M2.out.km (k := 4) rfl).1)).trans (M2.out.km (k := 4) rfl).1) zero23]
                rw [← HKV.out]
                rfl
              refine wpT_E (v := .slice Ak (kidsOf st.2 dv).length ck) j0 (by decide) (wanted_none rfl) (fun W' hx => ?_) ?_
              · have hlk' := hlk W' hx
                clear hlk
                go_simp
              simp only [Act.put, List.setIfInBounds_toArray, List.set_cons_zero, List.set_cons_succ]
              clear hlk
              (first | (with_reducible refine wpT_nil ?_) | (refine wpT_W (v := ?_) (by assumption) (by decide) (wanted_none rfl) (fun _ hS_ => ?_) ?_; rotate_left; (focus ((try dsimp only at hS_); go_simp; rfl)); (simp only [Act.put, List.setIfInBounds_toArray, List.set_cons_zero, List.set_cons_succ])) | (refine wpT_R (v := ?_) (by assumption) (by decide) (wanted_none rfl) ?_ ?_; rotate_left; (focus (go_simp; rfl)); (simp only [Act.put, List.setIfInBounds_toArray, List.set_cons_zero, List.set_cons_succ])) | (refine wpT_A (v := ?_) (ob := ?_) (by assumption) (by decide) (wanted_none rfl) ?_ ?_ ?_; rotate_left 2; (focus (go_simp; first | (constructor <;> rfl) | rfl)); (focus (apply cell_alloc; assumption)); (simp only [Act.put, List.setIfInBounds_toArray, List.set_cons_zero, List.set_cons_succ])))
              have jA : (W2.alloc (.cells #[.int .i64 (y : Int)] 3)).cell? ⟨b6, 0, none⟩ = some (.pointer (some ⟨bb, 0, none⟩)) ∧ (W2.alloc (.cells #[.int .i64 (y : Int)] 3)).cell? ⟨bb, 3, none⟩ = some (.map (some bk)) ∧ (W2.alloc (.cells #[.int .i64 (y : Int)] 3)).cell? ⟨b15, 0, none⟩ = some (.slice (some ⟨bd, 0, none⟩) d.length cd) ∧ (W2.alloc (.cells #[.int .i64 (y : Int)] 3)).cell? ⟨bd, y, none⟩ = some (.int .i64 dv) := ⟨cell_alloc _ j0.1, cell_alloc _ j0.2.1, cell_alloc _ j0.2.2.1, cell_alloc _ j0.2.2.2⟩
              refine wpT_A (v := .slice (some ⟨W2.heap.size, 0, none⟩) 1 1) (ob := .cells #[.int .i64 (y : Int)] 3) j0 (by decide) (wanted_none rfl) (by go_simp; first | done | rfl | (constructor <;> rfl)) jA ?_
              simp only [Act.put, List.setIfInBounds_toArray, List.set_cons_zero, List.set_cons_succ]
              refine wpT_L jA (by decide) (wanted_none rfl) (fun K_ hK_ => ?_)
              have HO := kmRow (M2.out.km (k := 4) rfl).2 dv
              rw [HKV.out] at HO
              have HKb := HKL.out dv
              refine step_app (ops := #[]) 0 rfl (.tmp 116) (.tmp 118) 23 3 (.int .i64 0) 1 8 rfl Try.underlying23 PShapeReducible.info3 rfl (by decide) (by decide) _ (kidsOf st.2 dv).length (nums .i64 (kidsOf st.2 dv)) [.int .i64 (y : Int)] rfl rfl rfl (by simp [Value.oneCell']) HO (Nat.zero_le _) (by omega) ?_
              intro A9 c9 w9 ho9 hg9 hat9
              have hadd := M2.out.kmAdd (k := 4) rfl dv y (w' := w9) (v' := .slice A9 ((kidsOf st.2 dv).length + 1) c9) (b' := 0) (by rw [HKV.out]; exact hg9) (by rw [List.length_append, nums_append]; exact ho9) (by rw [HKV.out]; exact hat9)
              obtain ⟨hbk9, w10', vs', p10, hw10, hvs', M10⟩ := hadd
              obtain ⟨st3, hst3⟩ : ∃ st3, st3 = (mput st.1 (y : Int) true, mput st.2 dv (kidsOf st.2 dv ++ [(y : Int)])) := ⟨_, rfl⟩
              have M10 : Mem w w10' [] [.blk b2 (.cells #[.slice As succ.length cs] 27 (0, 0)), .blk b4 (.cells shz.toArray 31 (0, 0)), .blk b5 (.cells #[.int .i64 (0 : Nat)] 3 (0, 0)), .blk bat (mI m), .km bk vs' st3.2, .blk bmg (mB st3.1), .blk blo (mI l), .blk bbl (mI []), .blk bb (.cells #[.slice As succ.length cs, .slice An node.length cn, .map (some bat), .map (some bk), .map (some bmg), .map (some blo), .map (some bbl), .func (.func 64) #[] #[.pointer (some ⟨b5, 0, none⟩)]] 116 (0, 0)), .blk b6 (.cells #[.pointer (some ⟨bb, 0, none⟩)] 112 (0, 0)), .row (.slice A7 r.length c7) 3 1 r.length (nums .i64 r), .blk be (mI e), .blk b10 (.cells #[.map (some be)] 97 (0, 0)), .row (.slice (some ⟨bd, 0, none⟩) d.length cd) 3 1 d.length (nums .i64 d), .blk b15 (.cells #[.slice (some ⟨bd, 0, none⟩) d.length cd] 23 (0, 0)), .blk b17 (.cells #[.slice A7 r.length c7] 23 (0, 0))] := by rw [hst3]; exact M10
              have j10 := HS.out w10' vs' st3 M10
              have j9 : w9.cell? ⟨b6, 0, none⟩ = some (.pointer (some ⟨bb, 0, none⟩)) ∧ w9.cell? ⟨bb, 3, none⟩ = some (.map (some bk)) ∧ w9.cell? ⟨b15, 0, none⟩ = some (.slice (some ⟨bd, 0, none⟩) d.length cd) ∧ w9.cell? ⟨bd, y, none⟩ = some (.int .i64 dv) := by
                rw [hw10] at j10
                exact ⟨cell_setBlock hbk9 rfl j10.1, cell_setBlock hbk9 rfl j10.2.1, cell_setBlock hbk9 rfl j10.2.2.1, cell_setBlock hbk9 rfl j10.2.2.2⟩
              have hrowB : ∀ q, (Value.slice Ak (kidsOf st.2 dv).length ck).ownBlock = some q → W0.heap.size ≤ q := fun q hq => by
                have e7 : kmV st.2 vs dv = .slice Ak (kidsOf st.2 dv).length ck := HKV.out
                rcases kmV_mem st.2 vs dv (by have := (M2.out.km (k := 4) rfl).2.len; simpa using this) with h10 | h10
                · have e9 : (Value.slice Ak (kidsOf st.2 dv).length ck).ownBlock = none := by rw [← e7, h10]; rfl
                  rw [e9] at hq; cases hq
                · exact HVS.out _ h10 q (by rw [e7]; exact hq)
              have hnew : ∀ u ∈ vs', ∀ q, u.ownBlock = some q → W0.heap.size ≤ q := by
                intro u hu q hq
                rcases hvs' u hu with h7 | rfl
                · exact HVS.out u h7 q hq
                · rcases hat9 with h8 | ⟨b8, h8, h9⟩
                  · rw [h8] at hq
                    exact hrowB q hq
                  · rw [h8] at hq
                    injection hq with hq
                    have := M2.out.size
                    have hsz : W0.heap.size ≤ W.heap.size := hbelow
                    have : W.heap.size ≤ W2.heap.size := by rw [← HW.out.2, HW.out.1]; simp [setBlock]
                    omega
              have hchg : Chg (fun q => q = bmg ∨ q = bk ∨ (Value.slice Ak (kidsOf st.2 dv).length ck).ownBlock = some q) W w10' := by
                have c1 : Chg (fun q => q = bmg ∨ q = bk ∨ (Value.slice Ak (kidsOf st.2 dv).length ck).ownBlock = some q) W W2 := by
                  rw [← HW.out.2, HW.out.1]
                  exact Chg.drew ⟨rfl, rfl, rfl, by simp [setBlock], fun q _ hn => by
                    have hne : bmg ≠ q := fun e => hn (.inl e.symm)
                    simp [setBlock, hne]⟩
                have c2 := c1.grown hg9 (fun q _ h => .inr (.inr h))
                rw [hw10]
                exact c2.trans' (S' := fun q => q = bk) ⟨rfl, rfl, rfl, by simp [setBlock], fun q _ hn => by
                  have hne : bk ≠ q := fun e => hn e.symm
                  simp [setBlock, hne]⟩ (fun q _ e => .inr (.inl e))
              have hkeep : KeepsFrom W0.heap.size W w10' := KeepsFrom.chg hchg (fun q o h hB hq => by
                rcases h with rfl | rfl | h
                · omega
                · omega
                · obtain ⟨cs', hc'⟩ := own_typed HO q h
                  have hqm : q ≠ bmg := blk_ne_map hc' (M2.out.blk (k := 5) rfl)
                  have : W2.heap[q]? = W.heap[q]? := by
                    rw [← HW.out.2, HW.out.1]
                    show (setBlock W bmg _).heap[q]? = _
                    simp [setBlock, Ne.symm hqm]
                  rw [this, hq] at hc'
                  cases hc'
                  rfl)
              have hbel : Bel W0.heap.size (fun k => k = bmg ∨ k = bk) W w10' := ⟨hchg.os, hchg.tape, hchg.output, hchg.size, fun q hq hn => hchg.block q (by omega) (by
                rintro (h | h | h)
                · exact hn (.inl h)
                · exact hn (.inr h)
                · have := hrowB q h; omega)⟩
              have HFIN := Aside0.mk (And.intro hkeep (And.intro hbel (And.intro hnew M10)))
              have HST3 := Aside0.mk hst3
              clear hkeep hbel hnew hchg hvs' hw10 M10 hst3 hat9 hg9 ho9 HO hbk9
              refine hK_ _ _ j9 ?_
              clear hK_ jA j0
              simp only [Act.put, List.setIfInBounds_toArray, List.set_cons_zero, List.set_cons_succ]
              refine wpT_L j9 (by decide) (wanted_none rfl) (fun K_ hK_ => ?_)
              go_simp
              refine hK_ _ _ j10 ?_
              clear hK_
              refine wpT_nil ?_
              gi_wp2
              refine ⟨HFIN.out.1, HFIN.out.2.1, Nat.le_trans hbelow HFIN.out.2.1.size, vs', HFIN.out.2.2.1, ?_⟩
              rw [HFO.out, ← HST3.out]
              exact HFIN.out.2.2.2
            · rw [if_neg hgt] at hfold
              have HFO := Aside0.mk hfold
              clear hfold
              have hgt' : mI0 e y ≤ 1 := by omega
              gi_wp2
              refine ⟨(KeepsOthers.refl _).from _, Bel.refl _ _ _, hbelow, vs, HVS.out, ?_⟩
              rw [HFO.out]
              exact MB.out
end Go.Proofs.Ytfiiihpdekppiaa
end
section
namespace Go.Proofs.Ytfiiihpdekppiaa
open PShapeReducible (S31 k31)
open Go.RowKit Go.Proofs Go.Proofs.YtfiiihpdekppiaaW.PrintWords
open Go.ChangeMaps (setBlock heap_setBlock_same heap_setBlock_other)
def GoodG (g : List (List Int)) : Prop := g.length ≤ 1000000 ∧ ∀ l ∈ g, l.length ≤ 1000000000
def StructIs (g : List (List Int)) (budget : Int) (x : Sh) (err : Int) : Prop :=
  (ValidIs g false ∧ x = ⟨0, 0, 0, []⟩ ∧ err = 51) ∨
  (ValidIs g true ∧ GoodG g ∧
    ((RedIs g true ∧ BuildIs g (rangeI g.length) x ∧ err = 0) ∨
     (RedIs g false ∧ ∃ r k t, OrderIs g r ∧ splitF k ⟨g, rangeI g.length, 0, max budget 0⟩ (setF (-1) r []) = some t ∧
       ((t = none ∧ x = ⟨0, 0, 0, []⟩ ∧ err = 50) ∨ ∃ s, t = some s ∧ BuildIs s.succ s.node x ∧ err = 0))))
theorem results_two {fn : Func} {p q : Tmp} (h : fn.results = #[.cell p 31, .tmp q]) (tmps : Array Value) (w : World) (g : Nat) (cs : Array Value) (fr : Nat × Nat) (v : Value)
  (hp : tmps.getD p undef = .pointer (some ⟨g, 0, none⟩)) (hg : w.heap[g]? = some (.cells cs 31 fr)) (hi : (Try.prog.info? 31).map (·.size) = some cs.size) (hv : tmps.getD q undef = v) :
  (results fn tmps).run Try.prog w = .ok (.tuple #[.agg cs, v]) w := by
 have hp' : tmps[p]?.getD undef = .pointer (some ⟨g, 0, none⟩) := by simpa using hp
 have hv' : tmps[q]?.getD undef = v := by simpa using hv
 simp [results, h, hp', hv', asAddr, run_loadVar_row w g 31 31 cs fr _ hg Try.underlying31 rfl hi]
def StructPost (w : World) (x : Sh) (err : Int) (e : Ending) (w' : World) : Prop := ∃ A c ok, e = .returned (.tuple #[.agg (shc x A c).toArray, .int .i64 err]) ∧ Kd.FK k31 w' ok x (shc x A c) ∧ (∀ b, ok b → w.heap.size ≤ b) ∧ Below w.heap.size w w'
set_option maxRecDepth 100000 in
set_option maxHeartbeats 4000000 in
theorem structure_bad (w : World) (A : Option Addr) (c : Nat) (g : List (List Int)) (budget : Int) (hC : kG.C w A g.length g) (hc : g.length ≤ c) (h : ValidIs g false) :
  Calls Try.prog 16 #[.agg #[.slice A g.length c], .int .i64 budget] w (StructPost w ⟨0, 0, 0, []⟩ 51) := by
 obtain ⟨kv, hv⟩ := h
 obtain ⟨b2, w1, z1, a1, M1⟩ := (Mem.start w).alloc (.cells #[.slice A g.length c] 27)
 obtain ⟨b4, w2, z2, a2, M2⟩ := M1.alloc (.cells shz.toArray 31)
 have k1 := M2.cell (k := 0) (j := 0) rfl rfl
 have HV := Aside0.mk hv
 have HC := Aside0.mk (Kd.C_below hC M2.hb)
 have M2 := Aside0.mk M2
 clear M1 hv hC
 go_enter Try.func16, Try.ntmps16
 go_wp2_with (go_at_call 36; refine (PShapeReducible.flow_Valid.calls kv A c g false w2 HC.out hc HV.out).mono ?_; rintro e w3 ⟨rfl, hb3⟩; obtain ⟨y1, y2, y3, y4, ys, yc, yf, M4⟩ := (M2.out.below hb3).fill4 (k := 1) rfl (.int .i64 0) (.int .i64 0) (.int .i64 0) (.slice none 0 0); have M4 := Aside0.mk M4; clear hb3)
 refine bodyPost_ret (results_two rfl _ _ b4 shz.toArray (0, 0) (.int .i64 51) rfl (M4.out.blk (k := 1) rfl) (by kernel_rfl) rfl) rfl ?_
 exact ⟨none, 0, fun _ => False, rfl, fk_leaf _ _ _ _, fun _ h => h.elim, M4.out.hb⟩
theorem rangeI_succ (i : Nat) : rangeI (i + 1) = rangeI i ++ [(i : Int)] := by simp [rangeI, List.range_succ]
theorem rangeI_length (i : Nat) : (rangeI i).length = i := by simp [rangeI]
set_option maxRecDepth 100000 in
set_option maxHeartbeats 4000000 in
theorem structure_any (w : World) (A : Option Addr) (c : Nat) (g : List (List Int)) (budget : Int) (x : Sh) (err : Int) (hC : kG.C w A g.length g) (hc : g.length ≤ c) (h : StructIs g budget x err) :
  Calls Try.prog 16 #[.agg #[.slice A g.length c], .int .i64 budget] w (StructPost w x err) := by
 rcases h with ⟨h1, rfl, rfl⟩ | ⟨⟨kv, hv⟩, ⟨hg6, hrows⟩, h⟩
 ·exact structure_bad w A c g budget hC hc h1
 obtain ⟨b2, w1, z1, a1, M1⟩ := (Mem.start w).alloc (.cells #[.slice A g.length c] 27)
 obtain ⟨b4, w2, z2, a2, M2⟩ := M1.alloc (.cells shz.toArray 31)
 have k1 := M2.cell (k := 0) (j := 0) rfl rfl
 have HV := Aside0.mk hv
 have HC := Aside0.mk hC
 have HR := Aside0.mk hrows
 have M2 := Aside0.mk M2
 have H := Aside0.mk h
 obtain ⟨mb, hmb⟩ : ∃ mb, mb = max budget 0 := ⟨_, rfl⟩
 have HMB := Aside0.mk hmb
 clear M1 hv hC h hrows hmb
 go_enter Try.func16, Try.ntmps16
 go_wp2_with (go_at_call 36; refine (PShapeReducible.flow_Valid.calls kv A c g true w2 (Kd.C_below HC.out M2.out.hb) hc HV.out).mono ?_; rintro e w3 ⟨rfl, hb3⟩; obtain ⟨bs, w4, z4, a4, M4⟩ := (M2.out.below hb3).alloc (.cells #[.slice none 0 0, .slice none 0 0, .int .i64 0, .int .i64 (max budget 0)] 65); have k2 := M4.cell (k := 0) (j := 0) rfl rfl; have M4 := Aside0.mk (show Mem w w4 [] [.blk b2 (.cells #[.slice A g.length c] 27 (0, 0)), .blk b4 (.cells shz.toArray 31 (0, 0)), .blk bs (.cells #[.slice none 0 0, (.slice none 0 0), .int .i64 0, .int .i64 (max budget 0)] 65 (0, 0)), .mat (.slice none 0 0) [] (g.take 0), .row (.slice none 0 0) 3 1 0 (nums .i64 (rangeI 0))] from (M4.nilmat).nilrow 3 1); clear hb3)
 clear k1 k2 z1 z2 z4 a1 a2 a4 M2
 go_loopw [20] (fun t wr => ∃ (i : Nat) (As : Option Addr) (cs : Nat) (nv : Value) (vs : List Value), t = .int .i64 i ∧ i ≤ g.length ∧ Aside0 (Mem w wr [] [.blk b2 (.cells #[.slice A g.length c] 27 (0, 0)), .blk b4 (.cells shz.toArray 31 (0, 0)), .blk bs (.cells #[.slice As i cs, nv, .int .i64 0, .int .i64 (max budget 0)] 65 (0, 0)), .mat (.slice As i cs) vs (g.take i), .row nv 3 1 i (nums .i64 (rangeI i))])) (fun t _ => g.length - (intOf t).toNat)
 case atStart => exact ⟨0, none, 0, .slice none 0 0, [], rfl, Nat.zero_le _, M4⟩
 case round =>
  obtain ⟨i, As, cs, nv, vs, rfl, hi, hM⟩ := hrel
  by_cases hlt : i < g.length
  ·obtain ⟨adg, A0, c0, rfl, g1, g2, g3⟩ := C_row HC.out i hlt
   obtain ⟨l, hl⟩ : ∃ l, l = g.getD i [] := ⟨_, rfl⟩
   rw [← hl] at g1 g2 g3
   have hll : l.length ≤ 1000000000 := HR.out l (by rw [hl, List.getD_eq_getElem?_getD, List.getElem?_eq_getElem hlt]; exact List.getElem_mem hlt)
   have htk : g.take (i + 1) = g.take i ++ [l] := by rw [List.take_succ_eq_append_getElem hlt, hl]; simp [List.getD_eq_getElem?_getD, hlt]
   have hlen : (g.take i).length = i := by simp; omega
   have k1 := pw_cell_below hM.out.hb g1
   obtain ⟨w5, z5, M5⟩ := hM.out.drew
   have k2 := M5.cell (k := 2) (j := 0) rfl rfl
   have HC5 := Aside0.mk (Kd.C_below g3 M5.hb)
   have M5 := Aside0.mk M5
   have HTK := Aside0.mk htk
   have HLN := Aside0.mk hlen
   have hlt' : (i : Int) < g.length := by omega
   clear hl g1 g3 htk hlen
   go_wp2_with (first | (rw [z5]) | (refine wp_region_txt (fun _ => True) [1006] (by kernel_rfl) (by kernel_rfl) ?_))
   iterate 6 (first | (with_reducible refine wpT_nil ?_) | (refine wpT_W (v := ?_) trivial (by decide) (wanted_none rfl) (fun _ hS_ => ?_) ?_; rotate_left; (focus ((try dsimp only at hS_); go_simp; rfl)); (simp only [Act.put, List.setIfInBounds_toArray, List.set_cons_zero, List.set_cons_succ])) | (refine wpT_R (v := ?_) trivial (by decide) (wanted_none rfl) ?_ ?_; rotate_left; (focus (go_simp; rfl)); (simp only [Act.put, List.setIfInBounds_toArray, List.set_cons_zero, List.set_cons_succ])) | (refine wpT_A (v := ?_) (ob := ?_) trivial (by decide) (wanted_none rfl) ?_ ?_ ?_; rotate_left 2; (focus (go_simp; first | (constructor <;> rfl) | rfl)); (focus (exact trivial)); (simp only [Act.put, List.setIfInBounds_toArray, List.set_cons_zero, List.set_cons_succ])))
   refine wpT_LA trivial (by decide) (wanted_none rfl) (fun K_ hK_ => ?_)
   go_wp2_with (go_at_call 37; refine (M5.out.clone HC5.out hll).mono ?_; rintro e w6 ⟨A6, c6, rfl, M6, hx6⟩)
   refine hK_ _ _ hx6 trivial ?_
   clear hK_
   have M6 := Aside0.mk M6
   clear hx6
   (first | (with_reducible refine wpT_nil ?_) | (refine wpT_W (v := ?_) trivial (by decide) (wanted_none rfl) (fun _ hS_ => ?_) ?_; rotate_left; (focus ((try dsimp only at hS_); go_simp; rfl)); (simp only [Act.put, List.setIfInBounds_toArray, List.set_cons_zero, List.set_cons_succ])) | (refine wpT_R (v := ?_) trivial (by decide) (wanted_none rfl) ?_ ?_; rotate_left; (focus (go_simp; rfl)); (simp only [Act.put, List.setIfInBounds_toArray, List.set_cons_zero, List.set_cons_succ])) | (refine wpT_A (v := ?_) (ob := ?_) trivial (by decide) (wanted_none rfl) ?_ ?_ ?_; rotate_left 2; (focus (go_simp; first | (constructor <;> rfl) | rfl)); (focus (exact trivial)); (simp only [Act.put, List.setIfInBounds_toArray, List.set_cons_zero, List.set_cons_succ])))
   refine wpT_L trivial (by decide) (wanted_none rfl) (fun K_ hK_ => ?_)
   refine step_mem_mat (ops := #[]) 3 4 rfl (.tmp 29) (.tmp 32) rfl Try.underlying25 info23 _ vs (g.take i) (.slice A6 l.length c6) l rfl rfl rfl M6.out rfl rfl (by have := HLN.out; omega) ?_
   intro A7 c7 w7 M7
   rw [HLN.out] at M7 ⊢
   refine hK_ _ _ trivial ?_
   clear hK_
   have d1 := M7.cell (k := 3) (j := 0) rfl rfl
   have d2 := M7.free (k := 3) (j := 0) rfl
   obtain ⟨w8, s8, M8⟩ := M7.set (k := 3) 0 rfl (.slice A7 (i + 1) c7)
   have M8 := Aside0.mk M8
   clear M7
   iterate 2 (first | (with_reducible refine wpT_nil ?_) | (refine wpT_W (v := ?_) trivial (by decide) (wanted_none rfl) (fun _ hS_ => ?_) ?_; rotate_left; (focus ((try dsimp only at hS_); go_simp; rfl)); (simp only [Act.put, List.setIfInBounds_toArray, List.set_cons_zero, List.set_cons_succ])) | (refine wpT_R (v := ?_) trivial (by decide) (wanted_none rfl) ?_ ?_; rotate_left; (focus (go_simp; rfl)); (simp only [Act.put, List.setIfInBounds_toArray, List.set_cons_zero, List.set_cons_succ])) | (refine wpT_A (v := ?_) (ob := ?_) trivial (by decide) (wanted_none rfl) ?_ ?_ ?_; rotate_left 2; (focus (go_simp; first | (constructor <;> rfl) | rfl)); (focus (exact trivial)); (simp only [Act.put, List.setIfInBounds_toArray, List.set_cons_zero, List.set_cons_succ])))
   refine wpT_L trivial (by decide) (wanted_none rfl) (fun K_ hK_ => ?_)
   go_simp
   refine hK_ _ _ trivial ?_
   clear hK_
   refine wpT_nil ?_
   clear d1 d2 s8 k1 k2 z5
   obtain ⟨An, cn, rfl⟩ := M8.out.rowSlice (k := 4) rfl
   have k3 := M8.out.cell (k := 3) (j := 1) rfl rfl
   go_wp2_with (first
    | ((with_reducible refine gate_dst (N := 43) rfl ?_); refine mem_append 4 (.tmp 40) (.tmp 42) 23 3 (.int .i64 0) 1 8 rfl rfl Try.underlying23 PShapeReducible.info3 rfl (by decide) (by decide) _ i (nums .i64 (rangeI i)) [.int .i64 (i : Int)] rfl rfl rfl (by simp [Value.oneCell']) M8.out rfl (by omega) ?_; intro A9 c9 w9 M9; have e1 := M9.cell (k := 3) (j := 1) rfl rfl; have e2 := M9.free (k := 3) (j := 1) rfl; obtain ⟨w10, s10, M10⟩ := M9.set (k := 3) 1 rfl (.slice A9 (i + 1) c9); have M10 := Aside0.mk M10; clear M9))
   go_roundw
   case rel =>
    refine ⟨i + 1, A7, c7, .slice A9 (i + 1) c9, vs ++ [.slice A6 l.length c6], by go_num, by omega, ⟨?_⟩⟩
    have := M10.out.order [1, 2, 3, 0, 4] rfl
    rw [HTK.out, rangeI_succ, nums_append]
    exact this
   case measure => simp [intOf]; omega
  ·obtain rfl : g.length = i := by omega
   rw [List.take_length] at hM
   have k1 := hM.out.cell (k := 0) (j := 0) rfl rfl
   obtain ⟨An, cn, rfl⟩ := hM.out.rowSlice (k := 4) rfl
   clear M4
   rcases H.out with ⟨hred, hbld, rfl⟩ | ⟨hred, r, k, t, hord, hspl, ht⟩
   ·have HRED := Aside0.mk hred
    have HBLD := Aside0.mk hbld
    clear hred hbld
    go_wp2_with (first
     | (go_at_call 38; refine (reducible_any wr A c g true (Kd.C_below HC.out hM.out.hb) hc HRED.out).mono ?_; rintro e w5 ⟨rfl, hb5⟩; obtain ⟨w6, z6, M6⟩ := (hM.out.below hb5).drew; have q0 := M6.cell (k := 2) (j := 0) rfl rfl; have q1 := M6.cell (k := 2) (j := 1) rfl rfl; have M6 := Aside0.mk M6; clear hb5)
     | (rw [z6]) | (refine wp_region_txt (fun _ => True) [] (by kernel_rfl) (by kernel_rfl) ?_) | (with_reducible refine wpT_nil ?_) | (refine wpT_W (v := ?_) trivial (by decide) (wanted_none rfl) (fun _ hS_ => ?_) ?_; rotate_left; (focus ((try dsimp only at hS_); go_simp; rfl)); (simp only [Act.put, List.setIfInBounds_toArray, List.set_cons_zero, List.set_cons_succ])) | (refine wpT_R (v := ?_) trivial (by decide) (wanted_none rfl) ?_ ?_; rotate_left; (focus (go_simp; rfl)); (simp only [Act.put, List.setIfInBounds_toArray, List.set_cons_zero, List.set_cons_succ])) | (refine wpT_A (v := ?_) (ob := ?_) trivial (by decide) (wanted_none rfl) ?_ ?_ ?_; rotate_left 2; (focus (go_simp; first | (constructor <;> rfl) | rfl)); (focus (exact trivial)); (simp only [Act.put, List.setIfInBounds_toArray, List.set_cons_zero, List.set_cons_succ])))
    obtain ⟨As9, cs9, e9, hcs9, hG9⟩ := M6.out.matC (k := 3) rfl
    obtain ⟨An9, cn9, f9, hcn9, hN9⟩ := M6.out.rowC (k := 4) (xs := rangeI g.length) rfl (rangeI_length _).symm
    have hb9 := build_any w6 As9 An9 cs9 cn9 g (rangeI g.length) x hG9 hcs9 hN9 HBLD.out
    rw [rangeI_length] at hb9 f9
    rw [← e9, ← f9] at hb9
    have BLD := Aside0.mk hb9
    clear e9 f9 hcs9 hG9 hcn9 hN9 hb9 q0 q1
    refine wpT_L trivial (by decide) (wanted_none rfl) (fun K_ hK_ => ?_)
    go_wp2_with (go_at_call 42; refine BLD.out.mono ?_; rintro e w17 ⟨A2, c2, ok2, rfl, hfk, hok, hb17⟩; obtain ⟨y1, y2, y3, y4, ys, yc, yf, M18⟩ := (M6.out.newfk hb17 hfk hok).fill4 (k := 1) rfl (.int .i64 x.f0) (.int .i64 x.f1) (.int .i64 x.f2) (.slice A2 x.f3.length c2); have M18 := Aside0.mk M18; clear hfk hok hb17)
    refine hK_ _ _ trivial ?_
    clear hK_
    refine wpT_L trivial (by decide) (wanted_none rfl) (fun K_ hK_ => ?_)
    go_simp
    refine hK_ _ _ trivial ?_
    clear hK_
    iterate 2 (first | (with_reducible refine wpT_nil ?_) | (refine wpT_W (v := ?_) trivial (by decide) (wanted_none rfl) (fun _ hS_ => ?_) ?_; rotate_left; (focus ((try dsimp only at hS_); go_simp; rfl)); (simp only [Act.put, List.setIfInBounds_toArray, List.set_cons_zero, List.set_cons_succ])) | (refine wpT_R (v := ?_) trivial (by decide) (wanted_none rfl) ?_ ?_; rotate_left; (focus (go_simp; rfl)); (simp only [Act.put, List.setIfInBounds_toArray, List.set_cons_zero, List.set_cons_succ])) | (refine wpT_A (v := ?_) (ob := ?_) trivial (by decide) (wanted_none rfl) ?_ ?_ ?_; rotate_left 2; (focus (go_simp; first | (constructor <;> rfl) | rfl)); (focus (exact trivial)); (simp only [Act.put, List.setIfInBounds_toArray, List.set_cons_zero, List.set_cons_succ])))
    go_wp2_with fail
    refine bodyPost_ret (results_two rfl _ _ b4 (shc x A2 c2).toArray (0, 0) (.int .i64 0) rfl (M18.out.blk (k := 1) rfl) (by kernel_rfl) rfl) rfl ?_
    exact ⟨A2, c2, _, rfl, M18.out.fk (k := 5) rfl, M18.out.base (k := 5) rfl, M18.out.hb⟩
   ·obtain ⟨hg0, _, ⟨kv2, hv2⟩, ⟨ko, hoo⟩, kr, hrv⟩ := hord
    have HRED := Aside0.mk hred
    have HOO := Aside0.mk hoo
    have HRV := Aside0.mk hrv
    have HV2 := Aside0.mk hv2
    have HSP := Aside0.mk hspl
    have hMr : Mem w wr [] [.blk b2 (.cells #[.slice A g.length c] 27 (0, 0)), .blk b4 (.cells shz.toArray 31 (0, 0)), .blk bs (.cells #[.slice As g.length cs, .slice An g.length cn, .int .i64 0, .int .i64 (max budget 0)] 65 (0, 0)), .mat (.slice As g.length cs) vs g, .row (.slice An g.length cn) 3 1 (rangeI g.length).length (nums .i64 (rangeI g.length))] := by rw [rangeI_length]; exact hM.out
    have HMR := Aside0.mk hMr
    clear hred hoo hrv hv2 hspl hMr
    rcases ht with ⟨rfl, rfl, rfl⟩ | ⟨sp, rfl, hbld, rfl⟩
    ·go_wp2_with (first
      | (go_at_call 38; refine (reducible_any wr A c g false (Kd.C_below HC.out HMR.out.hb) hc HRED.out).mono ?_; rintro e w5 ⟨rfl, hb5⟩; have M6 := HMR.out.below hb5; have k1b := M6.cell (k := 0) (j := 0) rfl rfl; have M6 := Aside0.mk M6; clear hb5)
      | (go_at_call 41; refine (order_any w5 A c g ko kv2 kr r (Kd.C_below HC.out M6.out.hb) hc hg6 hg0 HV2.out HOO.out HRV.out).mono ?_; rintro e w6 ⟨v7, rfl, hr11, hb11⟩; have ho11 := own_R hr11; obtain ⟨A7, c7, hv7, _, hC7⟩ := own_C ho11; subst hv7; have M7 := Aside0.mk (M6.out.newrow hb11 ho11 (fun k hk => own_base ho11 k hk)); have HC7 := Aside0.mk hC7; clear hr11 hb11 ho11 hC7)
      | (go_at_call 40; refine (M7.out.set40 (c := c7) (-1) HC7.out).mono ?_; rintro e w7 ⟨bset, rfl, M8, hb8⟩; have M8 := Aside0.mk M8; clear hb8)
      | (go_at_call 39; refine (split_any w bs k _ ⟨g, rangeI g.length, 0, max budget 0⟩ _ none w7 As cs bset vs (.slice An g.length cn) (M8.out.focus [2, 3, 4, 6] rfl) HSP.out).mono ?_; rintro e w8 ⟨rfl, M9⟩; obtain ⟨y1, y2, y3, y4, ys, yc, yf, M10⟩ := (M9.wide).fill4 (k := 1) rfl (.int .i64 0) (.int .i64 0) (.int .i64 0) (.slice none 0 0); have M10 := Aside0.mk M10; clear M9))
     refine bodyPost_ret (results_two rfl _ _ b4 shz.toArray (0, 0) (.int .i64 50) rfl (M10.out.blk (k := 1) rfl) (by kernel_rfl) rfl) rfl ?_
     exact ⟨none, 0, fun _ => False, rfl, fk_leaf _ _ _ _, fun _ h => h.elim, M10.out.hb⟩
    ·have HBLD := Aside0.mk hbld
     clear hbld
     go_wp2_with (first
      | (go_at_call 38; refine (reducible_any wr A c g false (Kd.C_below HC.out HMR.out.hb) hc HRED.out).mono ?_; rintro e w5 ⟨rfl, hb5⟩; have M6 := HMR.out.below hb5; have k1b := M6.cell (k := 0) (j := 0) rfl rfl; have M6 := Aside0.mk M6; clear hb5)
      | (go_at_call 41; refine (order_any w5 A c g ko kv2 kr r (Kd.C_below HC.out M6.out.hb) hc hg6 hg0 HV2.out HOO.out HRV.out).mono ?_; rintro e w6 ⟨v7, rfl, hr11, hb11⟩; have ho11 := own_R hr11; obtain ⟨A7, c7, hv7, _, hC7⟩ := own_C ho11; subst hv7; have M7 := Aside0.mk (M6.out.newrow hb11 ho11 (fun k hk => own_base ho11 k hk)); have HC7 := Aside0.mk hC7; clear hr11 hb11 ho11 hC7)
      | (go_at_call 40; refine (M7.out.set40 (c := c7) (-1) HC7.out).mono ?_; rintro e w7 ⟨bset, rfl, M8, hb8⟩; have M8 := Aside0.mk M8; clear hb8)
      | (go_at_call 39; refine (split_any w bs k _ ⟨g, rangeI g.length, 0, max budget 0⟩ _ (some sp) w7 As cs bset vs (.slice An g.length cn) (M8.out.focus [2, 3, 4, 6] rfl) HSP.out).mono ?_; rintro e w8 ⟨As9, cs9, vs9, nv9, rfl, M9⟩; obtain ⟨w16, z16, M16⟩ := (M9.wide).drew; have q0 := M16.cell (k := 0) (j := 0) rfl rfl; have q1 := M16.cell (k := 0) (j := 1) rfl rfl; have M16 := Aside0.mk M16; clear M9)
      | (rw [z16]) | (refine wp_region_txt (fun _ => True) [] (by kernel_rfl) (by kernel_rfl) ?_) | (with_reducible refine wpT_nil ?_) | (refine wpT_W (v := ?_) trivial (by decide) (wanted_none rfl) (fun _ hS_ => ?_) ?_; rotate_left; (focus ((try dsimp only at hS_); go_simp; rfl)); (simp only [Act.put, List.setIfInBounds_toArray, List.set_cons_zero, List.set_cons_succ])) | (refine wpT_R (v := ?_) trivial (by decide) (wanted_none rfl) ?_ ?_; rotate_left; (focus (go_simp; rfl)); (simp only [Act.put, List.setIfInBounds_toArray, List.set_cons_zero, List.set_cons_succ])) | (refine wpT_A (v := ?_) (ob := ?_) trivial (by decide) (wanted_none rfl) ?_ ?_ ?_; rotate_left 2; (focus (go_simp; first | (constructor <;> rfl) | rfl)); (focus (exact trivial)); (simp only [Act.put, List.setIfInBounds_toArray, List.set_cons_zero, List.set_cons_succ])))
     obtain ⟨As10, cs10, e9, hcs9, hG9⟩ := M16.out.matC (k := 1) rfl
     obtain ⟨An9, cn9, f9, hcn9, hN9⟩ := M16.out.rowC (k := 2) (xs := sp.node) rfl rfl
     have hb9 := build_any w16 As10 An9 cs10 cn9 sp.succ sp.node x hG9 hcs9 hN9 HBLD.out
     rw [← e9, ← f9] at hb9
     have BLD := Aside0.mk hb9
     clear e9 f9 hcs9 hG9 hcn9 hN9 hb9 q0 q1
     refine wpT_L trivial (by decide) (wanted_none rfl) (fun K_ hK_ => ?_)
     go_wp2_with (go_at_call 42; refine BLD.out.mono ?_; rintro e w17 ⟨A2, c2, ok2, rfl, hfk, hok, hb17⟩; obtain ⟨y1, y2, y3, y4, ys, yc, yf, M18⟩ := (M16.out.newfk hb17 hfk hok).fill4 (k := 4) rfl (.int .i64 x.f0) (.int .i64 x.f1) (.int .i64 x.f2) (.slice A2 x.f3.length c2); have M18 := Aside0.mk M18; clear hfk hok hb17)
     refine hK_ _ _ trivial ?_
     clear hK_
     refine wpT_L trivial (by decide) (wanted_none rfl) (fun K_ hK_ => ?_)
     go_simp
     refine hK_ _ _ trivial ?_
     clear hK_
     iterate 2 (first | (with_reducible refine wpT_nil ?_) | (refine wpT_W (v := ?_) trivial (by decide) (wanted_none rfl) (fun _ hS_ => ?_) ?_; rotate_left; (focus ((try dsimp only at hS_); go_simp; rfl)); (simp only [Act.put, List.setIfInBounds_toArray, List.set_cons_zero, List.set_cons_succ])) | (refine wpT_R (v := ?_) trivial (by decide) (wanted_none rfl) ?_ ?_; rotate_left; (focus (go_simp; rfl)); (simp only [Act.put, List.setIfInBounds_toArray, List.set_cons_zero, List.set_cons_succ])) | (refine wpT_A (v := ?_) (ob := ?_) trivial (by decide) (wanted_none rfl) ?_ ?_ ?_; rotate_left 2; (focus (go_simp; first | (constructor <;> rfl) | rfl)); (focus (exact trivial)); (simp only [Act.put, List.setIfInBounds_toArray, List.set_cons_zero, List.set_cons_succ])))
     go_wp2_with fail
     refine bodyPost_ret (results_two rfl _ _ b4 (shc x A2 c2).toArray (0, 0) (.int .i64 0) rfl (M18.out.blk (k := 4) rfl) (by kernel_rfl) rfl) rfl ?_
     exact ⟨A2, c2, _, rfl, M18.out.fk (k := 6) rfl, M18.out.base (k := 6) rfl, M18.out.hb⟩
end Go.Proofs.Ytfiiihpdekppiaa
end
section
namespace Go.Proofs.Ytfiiihpdekppiaa
open Go.RowKit Go.Proofs Go.Proofs.YtfiiihpdekppiaaW.PrintWords
open Go.ChangeMaps (setBlock heap_setBlock_same heap_setBlock_other)
def Stp.cells (p : Stp) : List Value := [.int .i64 p.kind, .int .i64 p.node]
def Frm.cells (f : Frm) : List Value := [.int .i64 f.label, .int .i64 f.start, .bool f.loop]
theorem info77 : (Try.prog.info? 77).map (fun i => (i.zero, i.size, i.bytes)) = some (some (.agg #[.int .i64 0, .int .i64 0, .slice none 0 0]), 3, 40) := by kernel_rfl
theorem info141 : (Try.prog.info? 141).map (fun i => (i.zero, i.size, i.bytes)) = some (some (.agg #[.int .i64 0, .int .i64 0, .bool false, .slice none 0 0]), 4, 48) := by kernel_rfl
structure Cp where
 vS : Value
 vF : Value
 vU : Value
 ts : List Value
 bs : List Value
def Cs.own (c : Cs) (bc : Nat) (gv : Value) (p : Cp) : List Pc :=
  [.blk bc (.cells #[gv, p.vS, p.vF, p.vU, .bool c.bad] 124 (0, 0)), .row p.vS 77 3 c.steps.length (recs (c.steps.map Stp.cells) p.ts), .rows p.ts (c.steps.map Stp.tos),
   .row p.vF 141 4 c.frames.length (recs (c.frames.map Frm.cells) p.bs), .rows p.bs (c.frames.map Frm.brk), .row p.vU 3 1 c.used.length (nums .i64 c.used)]
set_option maxRecDepth 100000 in
set_option maxHeartbeats 4000000 in
theorem emit_any (w0 w : World) (F : List Pc) (bc : Nat) (gv : Value) (c : Cs) (p : Cp) (a b : Int) (vt : Value) (xs : List Int)
  (M : Mem w0 w F (c.own bc gv p ++ [.row vt 3 1 xs.length (nums .i64 xs)])) (hl : c.steps.length < 1000000000) :
  Calls Try.prog 69 #[.pointer (some ⟨bc, 0, none⟩), .agg #[.int .i64 a, .int .i64 b, vt]] w fun e w' => e = .returned (.int .i64 c.steps.length) ∧ ∃ A cc, Mem w0 w' F ((c.emit ⟨a, b, xs⟩).own bc gv { p with vS := .slice A (c.steps.length + 1) cc, ts := p.ts ++ [vt] }) := by
 obtain ⟨vS, vF, vU, ts, bs⟩ := p
 obtain ⟨At, ct, rfl, hct⟩ := M.rowSlice' (k := 6) rfl
 obtain ⟨AS, cS, e, hcS⟩ := M.rowSlice' (k := 1) rfl
 dsimp only at e
 subst e
 have hts : ts.length = c.steps.length := by have := (M.rows (k := 2) rfl).len; simpa using this
 obtain ⟨b3, w1, z1, a1, M1⟩ := M.alloc (.cells #[.int .i64 a, .int .i64 b, .slice At xs.length ct] 77)
 obtain ⟨w2, z2, M2⟩ := M1.drew
 have e0 := M2.cell (k := 7) (j := 0) rfl rfl
 have e1 := M2.cell (k := 7) (j := 1) rfl rfl
 have e2 := M2.cell (k := 7) (j := 2) rfl rfl
 have k1 := M2.cell (k := 0) (j := 1) rfl rfl
 have MM := Aside0.mk M2
 have HW : IntKind.i64.wrap (((c.steps.length + 1 : Nat) : Int) - 1) = (c.steps.length : Int) := by rw [IntWalk.i64_in _ (by omega)]; omega
 have HTS := Aside0.mk hts
 clear M M1 M2 hct hts hcS
 go_enter Try.func69, Try.ntmps69
 go_wp2_with (first | (rw [z2]) | (refine wp_region_txt (fun _ => True) [] (by kernel_rfl) (by kernel_rfl) ?_))
 iterate 7 (first | (with_reducible refine wpT_nil ?_) | (refine wpT_W (v := ?_) trivial (by decide) (wanted_none rfl) (fun _ hS_ => ?_) ?_; rotate_left; (focus ((try dsimp only at hS_); go_simp; rfl)); (simp only [Act.put, List.setIfInBounds_toArray, List.set_cons_zero, List.set_cons_succ])) | (refine wpT_R (v := ?_) trivial (by decide) (wanted_none rfl) ?_ ?_; rotate_left; (focus (go_simp; rfl)); (simp only [Act.put, List.setIfInBounds_toArray, List.set_cons_zero, List.set_cons_succ])) | (refine wpT_A (v := ?_) (ob := ?_) trivial (by decide) (wanted_none rfl) ?_ ?_ ?_; rotate_left 2; (focus (go_simp; first | (constructor <;> rfl) | rfl)); (focus (exact trivial)); (simp only [Act.put, List.setIfInBounds_toArray, List.set_cons_zero, List.set_cons_succ])))
 refine wpT_L trivial (by decide) (wanted_none rfl) (fun K_ hK_ => ?_)
 refine step_mem_app (ops := #[]) 1 rfl (.tmp 9) (.tmp 11) 73 77 (.agg #[.int .i64 0, .int .i64 0, .slice none 0 0]) 3 40 rfl Try.underlying73 info77 rfl (by decide) (by decide) _ c.steps.length (recs (c.steps.map Stp.cells) ts) [.int .i64 a, .int .i64 b, .slice At xs.length ct] rfl rfl rfl (by simp [Value.oneCell']) MM.out rfl (by omega) ?_
 intro A4 c4 w4 M4
 refine hK_ _ _ trivial ?_
 clear hK_
 have d1 := M4.cell (k := 0) (j := 1) rfl rfl
 have d2 := M4.free (k := 0) (j := 1) rfl
 obtain ⟨w5, s5, M5⟩ := M4.set (k := 0) 1 rfl (.slice A4 (c.steps.length + 1) c4)
 have d3 := M5.cell (k := 0) (j := 1) rfl rfl
 have M5 := Aside0.mk M5
 clear M4
 iterate 2 (first | (with_reducible refine wpT_nil ?_) | (refine wpT_W (v := ?_) trivial (by decide) (wanted_none rfl) (fun _ hS_ => ?_) ?_; rotate_left; (focus ((try dsimp only at hS_); go_simp; rfl)); (simp only [Act.put, List.setIfInBounds_toArray, List.set_cons_zero, List.set_cons_succ])) | (refine wpT_R (v := ?_) trivial (by decide) (wanted_none rfl) ?_ ?_; rotate_left; (focus (go_simp; rfl)); (simp only [Act.put, List.setIfInBounds_toArray, List.set_cons_zero, List.set_cons_succ])) | (refine wpT_A (v := ?_) (ob := ?_) trivial (by decide) (wanted_none rfl) ?_ ?_ ?_; rotate_left 2; (focus (go_simp; first | (constructor <;> rfl) | rfl)); (focus (exact trivial)); (simp only [Act.put, List.setIfInBounds_toArray, List.set_cons_zero, List.set_cons_succ])))
 refine wpT_L trivial (by decide) (wanted_none rfl) (fun K_ hK_ => ?_)
 go_simp
 refine hK_ _ _ trivial ?_
 clear hK_
 refine wpT_nil ?_
 clear d1 d2 s5 k1 z2
 go_wp2
 go_ret
 refine ⟨by simp, A4, c4, ?_⟩
 have M6 := ((M5.out.lose (k := 7) rfl).join (k := 2) (j := 5) rfl rfl).order [1, 2, 0] rfl
 unfold Cs.own Cs.emit
 simp only [List.map_append, List.map_cons, List.map_nil, List.length_append, List.length_singleton]
 rw [recs_snoc _ _ (by rw [List.length_map]; exact HTS.out.symm)]
 exact M6
set_option maxRecDepth 100000 in
set_option maxHeartbeats 4000000 in
theorem enclosing_any (w : World) (bc : Nat) (vF : Value) (fs : List Frm) (bs : List Value) (label : Int) (loop : Bool) (hk : w.cell? ⟨bc, 2, none⟩ = some vF)
  (hl : fs.length < 1000000000) (hlen : fs.length = bs.length) (ho : w.ownsRow 0 141 4 vF fs.length (recs (fs.map Frm.cells) bs)) :
  Calls Try.prog 90 #[.pointer (some ⟨bc, 0, none⟩), .int .i64 label, .bool loop] w fun e w' => e = .returned (.int .i64 (enclF (fun f => decide (f.label = label) && (!loop || f.loop)) fs fs.length)) ∧ Drawn0 w w' := by
 obtain ⟨A, cF, rfl, hF⟩ : ∃ A c, vF = .slice A fs.length c ∧ ∀ i j u, i < fs.length → (recs (fs.map Frm.cells) bs)[i * 4 + j]? = some u → ∃ b, A = some ⟨b, 0, none⟩ ∧ w.cell? ⟨b, i * 4 + j, none⟩ = some u := by
  rcases ho.2 with ⟨rfl, h0⟩ | ⟨g, cap, cur, rfl, hb, hh, hn', r⟩
  ·exact ⟨none, 0, by rw [h0], fun i j u hi _ => by omega⟩
  ·refine ⟨_, cap, rfl, fun i j u hi hu => ⟨g, rfl, (ho.cellAt _ ?_).trans hu⟩⟩
   have := (List.getElem?_eq_some_iff.1 hu).1
   have h2 := ho.1
   omega
 have HF := Aside0.mk hF
 have HW : IntKind.i64.wrap ((fs.length : Int) - 1) = (fs.length : Int) - 1 := IntWalk.i64_in _ (by omega)
 have HLEN := Aside0.mk hlen
 clear hF ho hlen
 obtain ⟨T, hT⟩ : ∃ T : Frm → Bool, T = fun f => decide (f.label = label) && (!loop || f.loop) := ⟨_, rfl⟩
 rw [← hT]
 have HT := Aside0.mk hT
 clear hT
 go_enter Try.func90, Try.ntmps90
 go_wp2
 go_loopw [7] (fun t wr => ∃ k : Nat, t = .int .i64 ((k : Int) - 1) ∧ k ≤ fs.length ∧ Aside0 (enclF T fs k = enclF T fs fs.length) ∧ wr = w) (fun t _ => (intOf t + 1).toNat)
 case atStart => exact ⟨fs.length, by simp, Nat.le_refl _, ⟨rfl⟩, rfl⟩
 case round =>
  obtain ⟨k, rfl, hkl, hE, rfl⟩ := hrel
  cases k with
  | zero =>
   have h0 : ¬ (0 : Int) ≤ ((0 : Nat) : Int) - 1 := by omega
   go_wp2
   go_ret
   exact ⟨by simp [← hE.out, enclF], Drawn0.refl _⟩
  | succ k =>
   obtain ⟨f, hf⟩ : ∃ f, fs[k]? = some f := ⟨fs[k], List.getElem?_eq_getElem (by omega)⟩
   have hrec : ∀ j, j ≤ 3 → (recs (fs.map Frm.cells) bs)[k * 4 + j]? = (f.cells ++ [bs.getD k nilS])[j]? := fun j hj => by
    rw [recs_get (m := 3) (by simpa using HLEN.out) (by simp [Frm.cells]) (by simp; omega) hj]
    simp [List.getD_eq_getElem?_getD, hf]
   obtain ⟨b, rfl, c0⟩ := HF.out k 0 _ (by omega) (by rw [hrec 0 (by omega)]; rfl)
   obtain ⟨b', e1, c2⟩ := HF.out k 2 _ (by omega) (by rw [hrec 2 (by omega)]; rfl)
   cases e1
   have hE' : (if T f = true then (k : Int) else enclF T fs k) = enclF T fs fs.length := by
    rw [← hE.out]; simp [enclF, hf]
   have hkk : ((k + 1 : Nat) : Int) - 1 = (k : Int) := by omega
   rw [hkk]
   have h0 : (0 : Int) ≤ (k : Int) := by omega
   have h1 : (k : Int) < (fs.length : Int) := by omega
   have HW2 : IntKind.i64.wrap ((k : Int) - 1) = (k : Int) - 1 := IntWalk.i64_in _ (by omega)
   have HE := Aside0.mk hE'
   rw [Nat.add_zero] at c0
   clear hrec hE hE' hkk HF hf
   obtain ⟨fl, hfl⟩ : ∃ fl, fl = f.loop := ⟨_, rfl⟩
   rw [← hfl] at c2
   have hTf : T f = (decide (f.label = label) && (!loop || fl)) := by rw [HT.out, hfl]
   clear hfl
   by_cases hlab : f.label = label
   ·rw [hlab] at c0
    have hTf : T f = (!loop || fl) := by rw [hTf, hlab]; simp
    cases loop with
    | false =>
     have HR := Aside0.mk (show (k : Int) = enclF T fs fs.length by rw [← HE.out, hTf]; rfl)
     clear hTf hlab
     go_wp2
     go_ret
     exact ⟨by simp [HR.out], Drawn0.refl _⟩
    | true =>
     cases fl with
     | true =>
      have HR := Aside0.mk (show (k : Int) = enclF T fs fs.length by rw [← HE.out, hTf]; rfl)
      clear hTf hlab
      go_wp2
      go_ret
      exact ⟨by simp [HR.out], Drawn0.refl _⟩
     | false =>
      have HR := Aside0.mk (show enclF T fs k = enclF T fs fs.length by rw [← HE.out, hTf]; rfl)
      clear hTf hlab
      go_wp2
      go_roundw
      case rel => exact ⟨k, by simp, by omega, HR, trivial⟩
      case measure => simp [intOf]
   ·have HR := Aside0.mk (show enclF T fs k = enclF T fs fs.length by rw [← HE.out, hTf]; simp [hlab])
    have hlab' : (f.label == label) = false := by simpa using hlab
    clear hTf
    go_wp2
    go_roundw
    case rel => exact ⟨k, by simp, by omega, HR, trivial⟩
    case measure => simp [intOf]
end Go.Proofs.Ytfiiihpdekppiaa
end
