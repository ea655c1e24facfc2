/- A part of the proof that vellumlaw12.ShapeErrors is true for every input: walks of functions that the row reaches and plain laws that they need. Conditions: none. Joined by merge.py out of C25 B12 PShapeReduciblex9 C26 S10; a part that began as a print is named P or W there and is trimmed. -/
import Derived.Test.YtfiiihpdekppiaaE4
import Derived.Test.YtfiiihpdekppiaaE9
import Derived.Test.YtfiiihpdekppiaaE15
set_option linter.unusedVariables false
set_option linter.unusedSimpArgs false
section
namespace Go.Proofs.Ytfiiihpdekppiaa
open Go.RowKit Go.Proofs Go.Proofs.YtfiiihpdekppiaaW.PrintWords
open Go.ChangeMaps (setBlock heap_setBlock_same heap_setBlock_other)
open PShapeReducible (S31 k31 at_T31 rd_T31)
theorem step_mem_at {P : Program} {ops : Array Oper} {o : Oper} {a : Act} {Q : Exit → Act → World → Prop} {K : Act → World → Prop} {w0 W : World} {F H : List Pc} (k i : Nat) (hgd : o.guard = none) (s x : Operand)
  (ho : o.op = .call { callee := .builtin .append, args := #[s, x], argTypes := #[23, 23] })
  (ht : P.underlying 23 = some (.slice 3)) (hinfo : (P.info? 3).map (fun i => (i.zero, i.size, i.bytes)) = some (some (.int .i64 0), 1, 8))
  (vs : List Value) (xss : List (List Int)) (y : Int) (hs : a.eval s = vs.getD i nilS) (hx : a.eval x = .slice (some ⟨W.heap.size, 0, none⟩) 1 1)
  (M : Mem w0 W F H) (hk : H[k]? = some (.rows vs xss)) (hi : i < xss.length) (hl : (xss.getD i []).length < 1000000000)
  (h : ∀ A c w1, Mem w0 w1 F (H.set k (.rows (vs.set i (.slice A ((xss.getD i []).length + 1) c)) (xss.set i (xss.getD i [] ++ [y])))) → K (a.put o.dst (.slice A ((xss.getD i []).length + 1) c)) w1) :
  o.wp P a (W.alloc (.cells #[.int .i64 y] 3)) K Q := by
 have hr := M.rows hk
 have hlen := hr.len
 refine step_app (ops := ops) (ys := [.int .i64 y]) w0.heap.size hgd s x 23 3 (.int .i64 0) 1 8 ho ht hinfo rfl (by decide) (by decide) _ (xss.getD i []).length (nums .i64 (xss.getD i [])) hs hx rfl (by simp [Value.oneCell']) (hr.row i (by omega)) M.size (by omega) ?_
 intro A c w1 ho1 hg1 hat1
 refine h A c w1 (M.rowsTurn hk (by omega) (b' := w0.heap.size) hg1 ?_ hat1)
 simpa [nums] using ho1
theorem addBrk_cells (fs : List Frm) (n : Nat) (j : Int) : (addBrk fs n j).map Frm.cells = fs.map Frm.cells := by
 apply List.ext_getElem?
 intro i
 simp only [addBrk, List.getElem?_map, List.getElem?_modify]
 cases fs[i]? with
 | none => rfl
 | some q => by_cases hn : n = i <;> simp [hn, Frm.cells]
theorem addBrk_brk (fs : List Frm) (n : Nat) (j : Int) : (addBrk fs n j).map Frm.brk = (fs.map Frm.brk).set n ((fs.map Frm.brk).getD n [] ++ [j]) := by
 apply List.ext_getElem?
 intro i
 simp only [addBrk, List.getElem?_map, List.getElem?_modify, List.getElem?_set, List.getD_eq_getElem?_getD]
 by_cases hn : n = i
 ·subst hn
  cases h : fs[n]? with
  | none =>
   have := List.getElem?_eq_none_iff.1 h
   simp; omega
  | some q =>
   have := (List.getElem?_eq_some_iff.1 h).1
   simp [this]
 ·simp [hn]
theorem leave_eq (c : Cs) (kind node label : Int) (kids : List S31) (lv : Bool) (h : decide (kind = 6) = lv) (N : Int) (hN : N = enclF (fun f => decide (f.label = label) && (!lv || f.loop)) c.frames c.frames.length) :
  c.leave kind node label kids = if N < 0 ∨ kids.length ≠ 0 ∨ node ≠ 0 then c.fail else if kind = 5 then { c.emit ⟨1, 0, []⟩ with frames := addBrk c.frames N.toNat (c.steps.length : Int) } else (c.emit ⟨1, 0, []⟩).setTo c.steps.length [((c.frames[N.toNat]?).map Frm.start).getD 0] := by
 subst h
 subst hN
 rfl
theorem enclF_lt (t : Frm → Bool) (fs : List Frm) : ∀ k, k ≤ fs.length → enclF t fs k < 0 ∨ ∃ n : Nat, enclF t fs k = n ∧ n < fs.length
 | 0, _ => .inl (by simp [enclF])
 | k + 1, h => by
  unfold enclF
  split
  ·exact .inr ⟨k, rfl, h⟩
  ·exact enclF_lt t fs k (by omega)
theorem szF_eq (s : S31) : szF s = 1 + szL s.f3 := by cases s; rfl
theorem szL_mem : ∀ {ks : List S31} {k : S31}, k ∈ ks → szF k ≤ szL ks
 | a :: ks, k, h => by
  simp only [szL]
  rcases List.mem_cons.1 h with rfl | h
  ·omega
  ·have := szL_mem h; omega
set_option maxRecDepth 100000 in
set_option maxHeartbeats 4000000 in
theorem rshape_step (w0 : World) (bc : Nat) (gA : Option Addr) (gc : Nat) (g : List (List Int)) (hG : kG.C w0 gA g.length g) (hg : g.length ≤ 1000000000) (kind node label : Int) (kids : List S31) (ih : ∀ k ∈ kids, ShapeOk w0 bc gA gc g k)
  (F : List Pc) (c : Cs) (p : Cp) (w : World) (A : Option Addr) (n m : Nat) (M : Mem w0 w F (c.own bc (.slice gA g.length gc) p)) (hok : c.Ok (szL kids + 1 + m)) (hK : k31.C w0 A kids.length kids) (hn : kids.length ≤ n) :
  Calls Try.prog 68 #[.pointer (some ⟨bc, 0, none⟩), .agg #[.int .i64 kind, .int .i64 node, .int .i64 label, .slice A kids.length n]] w fun e w' => e = .returned (.tuple #[]) ∧ ∃ p', Mem w0 w' F ((shapeF g ⟨kind, node, label, kids⟩ c).own bc (.slice gA g.length gc) p') := by
 obtain ⟨b3, w1, z1, a1, M1⟩ := M.alloc (.cells #[.int .i64 kind, .int .i64 node, .int .i64 label, .slice A kids.length n] 31)
 have M1 := Aside0.mk (show Mem w0 w1 F (c.own bc (.slice gA g.length gc) p ++ [.blk b3 (.cells #[.int .i64 kind, .int .i64 node, .int .i64 label, .slice A kids.length n] 31 (0, 0))]) from M1)
 have HG := Aside0.mk hG
 have HK := Aside0.mk hK
 have IH := Aside0.mk ih
 have HOK := Aside0.mk hok
 have e0 : w1.cell? ⟨b3, 0, none⟩ = some (.int .i64 kind) := M1.out.cell (k := 6) (j := 0) rfl rfl
 have e1 : w1.cell? ⟨b3, 1, none⟩ = some (.int .i64 node) := M1.out.cell (k := 6) (j := 1) rfl rfl
 have e2 : w1.cell? ⟨b3, 2, none⟩ = some (.int .i64 label) := M1.out.cell (k := 6) (j := 2) rfl rfl
 have e3 : w1.cell? ⟨b3, 3, none⟩ = some (.slice A kids.length n) := M1.out.cell (k := 6) (j := 3) rfl rfl
 have k4 : w1.cell? ⟨bc, 4, none⟩ = some (.bool c.bad) := M1.out.cell (k := 0) (j := 4) rfl rfl
 have hbig : kids.length < 1000000000 := by have h8 := hok.st; have := szL_len kids; simp only [big] at h8; omega
 clear M hG hK ih hok
 by_cases hbad : c.bad = true
 ·rw [hbad] at k4
  have HF := Aside0.mk (show shapeF g ⟨kind, node, label, kids⟩ c = c by rw [shapeF, if_pos hbad])
  clear hbad
  go_enter Try.func68, Try.ntmps68
  go_wp2
  refine bodyPost_ret (results_none rfl _ _ _) rfl ?_
  refine ⟨rfl, p, ?_⟩
  rw [HF.out]
  exact M1.out.lose (k := 6) rfl
 have hbf : c.bad = false := by simpa using hbad
 rw [hbf] at k4
 obtain ⟨w3, s3, M3⟩ := M1.out.set (k := 0) 4 rfl (.bool true)
 have f4 := M1.out.free (k := 0) (j := 4) rfl
 have M3 := Aside0.mk (show Mem w0 w3 F (c.fail.own bc (.slice gA g.length gc) p ++ [.blk b3 (.cells #[.int .i64 kind, .int .i64 node, .int .i64 label, .slice A kids.length n] 31 (0, 0))]) from M3)
 have HF0 := Aside0.mk hbad
 have HBF := Aside0.mk hbf
 clear hbad hbf
 by_cases h1 : kind = 1
 ·subst h1
  by_cases hb : node ≠ 0 ∨ label ≠ 0
  ·have HF := Aside0.mk (show shapeF g ⟨1, node, label, kids⟩ c = c.fail by rw [shapeF, if_neg HF0.out, if_pos rfl, if_pos hb])
   clear HF0
   by_cases hn0 : node = 0
   ·have hl0 : (label != 0) = true := by simpa using hb.resolve_left (by simpa using hn0)
    subst hn0
    clear hb
    go_enter Try.func68, Try.ntmps68
    go_wp2
    refine bodyPost_ret (results_none rfl _ _ _) rfl ?_
    refine ⟨rfl, p, ?_⟩
    rw [HF.out]
    exact M3.out.lose (k := 6) rfl
   ·have hl0 : (node != 0) = true := by simpa using hn0
    clear hb hn0
    go_enter Try.func68, Try.ntmps68
    go_wp2
    refine bodyPost_ret (results_none rfl _ _ _) rfl ?_
    refine ⟨rfl, p, ?_⟩
    rw [HF.out]
    exact M3.out.lose (k := 6) rfl
  ·have hn0 : node = 0 := Classical.byContradiction fun h => hb (.inl h)
   have hl0 : label = 0 := Classical.byContradiction fun h => hb (.inr h)
   subst hn0 hl0
   have HF := Aside0.mk (show shapeF g ⟨1, 0, 0, kids⟩ c = seqF g kids c by rw [shapeF, if_neg HF0.out, if_pos rfl, if_neg hb])
   clear HF0 hb s3 f4 M3
   go_enter Try.func68, Try.ntmps68
   go_wp2
   clear k4 e0 e1 e2 e3
   go_loopw [4] (fun t wr => ∃ (i : Nat) (c' : Cs) (p' : Cp), t = .int .i64 i ∧ i ≤ kids.length ∧ Aside0 (seqF g (kids.drop i) c' = seqF g kids c) ∧ Aside0 (c'.Ok (szL (kids.drop i) + 1 + m)) ∧
    Aside0 (Mem w0 wr F (c'.own bc (.slice gA g.length gc) p' ++ [.blk b3 (.cells #[.int .i64 1, .int .i64 0, .int .i64 0, .slice A kids.length n] 31 (0, 0))]))) (fun t _ => kids.length - (intOf t).toNat)
   case atStart => exact ⟨0, c, p, rfl, Nat.zero_le _, ⟨rfl⟩, ⟨HOK.out⟩, M1⟩
   case round =>
    clear M1 HOK a1 z1
    obtain ⟨i, c', p', rfl, hi, hA, hO, hM⟩ := hrel
    have e3 : wr.cell? ⟨b3, 3, none⟩ = some (.slice A kids.length n) := hM.out.cell (k := 6) (j := 3) rfl rfl
    by_cases hlt : i < kids.length
    ·obtain ⟨k, hk⟩ : ∃ k, k = kids[i] := ⟨_, rfl⟩
     obtain ⟨ad, A3, c3, e, g0, g1, g2, g3, hc3, hC3⟩ := kid_at HK.out i hlt
     subst e
     rw [← hk] at g0 g1 g2 g3 hc3 hC3
     have hA2 := hA.out
     have hO2 := hO.out
     rw [List.drop_eq_getElem_cons hlt, ← hk] at hA2 hO2
     rw [seqF] at hA2
     simp only [szL] at hO2
     have hkm : k ∈ kids := by rw [hk]; exact List.getElem_mem hlt
     have IHK := Aside0.mk (IH.out k hkm)
     have HA := Aside0.mk hA2
     have HO := Aside0.mk hO2
     have HC3 := Aside0.mk hC3
     have q0 := pw_cell_below hM.out.hb g0
     have q1 := pw_cell_below hM.out.hb g1
     have q2 := pw_cell_below hM.out.hb g2
     have q3 := pw_cell_below hM.out.hb g3
     have hlt' : (i : Int) < kids.length := by omega
     have HLT := Aside0.mk hlt
     clear hA hO hA2 hO2 hkm hC3 g0 g1 g2 g3 hk
     go_wp2_with (first
      | (go_at_call 68; refine (IHK.out F _ c' p' wr A3 c3 (szL (kids.drop (i + 1)) + 1 + m) hM.out (HO.out.mono (by omega)) HC3.out hc3).mono ?_; rintro e w8 ⟨rfl, p8, M8⟩; have M8 := Aside0.mk M8))
     go_roundw
     case rel =>
      have h9 := shapeF_ok g (szL (kids.drop (i + 1)) + 1 + m) k c' (HO.out.mono (by omega))
      exact ⟨i + 1, _, p8, by go_num, by have := HLT.out; omega, HA, ⟨h9.1⟩, M8⟩
     case measure => have := HLT.out; simp [intOf]; omega
    ·obtain rfl : i = kids.length := by omega
     have hA2 := hA.out
     rw [List.drop_length, seqF] at hA2
     subst hA2
     go_wp2
     go_end0
     refine ⟨rfl, p', ?_⟩
     rw [HF.out]
     exact hM.out.lose (k := 6) rfl
 by_cases h2 : kind = 2
 ·subst h2
  have HF := Aside0.mk (show shapeF g ⟨2, node, label, kids⟩ c = rvisitF g node label kids c by rw [shapeF, if_neg HF0.out, if_neg (by decide), if_pos rfl]; rfl)
  clear HF0 s3 f4 M3 h1
  have HN := Aside0.mk hn
  go_enter Try.func68, Try.ntmps68
  go_wp2_with (first
   | (go_at_call 88; refine (rvisit_any w0 bc gA gc g HG.out hg 2 node label kids IH.out _ c p w1 A n m M1.out.narrow HOK.out HK.out HN.out).mono ?_; rintro e w8 ⟨rfl, p8, M8⟩; have M9 := M8.wide; have M9 := Aside0.mk M9; clear M8))
  go_end0
  refine ⟨rfl, p8, ?_⟩
  rw [HF.out]
  exact M9.out.lose (k := 6) rfl
 have h1' : (kind == 1) = false := by simpa using h1
 have h2' : (kind == 2) = false := by simpa using h2
 by_cases h34 : kind = 3 ∨ kind = 4
 ·have HF := Aside0.mk (show shapeF g ⟨kind, node, label, kids⟩ c = rbodyF g kind node label kids c by rw [shapeF, if_neg HF0.out, if_neg h1, if_neg h2, if_pos h34]; rfl)
  clear HF0 s3 f4 M3 h1 h2
  by_cases h3 : kind = 3
  ·subst h3
   clear h1' h2' h34
   go_enter Try.func68, Try.ntmps68
   go_wp2_with (first
    | (go_at_call 89; refine (rbody_any w0 bc gA gc g 3 node label kids IH.out _ c p w1 A n m M1.out.narrow HOK.out HBF.out HK.out).mono ?_; rintro e w8 ⟨rfl, p8, M8⟩; have M9 := M8.wide; have M9 := Aside0.mk M9; clear M8))
   go_end0
   refine ⟨rfl, p8, ?_⟩
   rw [HF.out]
   exact M9.out.lose (k := 6) rfl
  ·have h4 : kind = 4 := h34.resolve_left h3
   subst h4
   clear h1' h2' h34 h3
   go_enter Try.func68, Try.ntmps68
   go_wp2_with (first
    | (go_at_call 89; refine (rbody_any w0 bc gA gc g 4 node label kids IH.out _ c p w1 A n m M1.out.narrow HOK.out HBF.out HK.out).mono ?_; rintro e w8 ⟨rfl, p8, M8⟩; have M9 := M8.wide; have M9 := Aside0.mk M9; clear M8))
   go_end0
   refine ⟨rfl, p8, ?_⟩
   rw [HF.out]
   exact M9.out.lose (k := 6) rfl
 have h3' : (kind == 3) = false := by simpa using fun h => h34 (.inl h)
 have h4' : (kind == 4) = false := by simpa using fun h => h34 (.inr h)
 by_cases h56 : kind = 5 ∨ kind = 6
 ·obtain ⟨vS, vF, vU, ts, bs⟩ := p
  have hbl : bs.length = c.frames.length := by have := (M1.out.rows (k := 4) rfl).len; simpa using this
  have hfr : c.frames.length < 1000000000 := by have := HOK.out.fr; simp only [big] at this; omega
  have hst : c.steps.length < 1000000000 := by have := HOK.out.st; simp only [big] at this; omega
  have k2 : w1.cell? ⟨bc, 2, none⟩ = some vF := M1.out.cell (k := 0) (j := 2) rfl rfl
  have ho : w1.ownsRow 0 141 4 vF c.frames.length (recs (c.frames.map Frm.cells) bs) := M1.out.says (k := 3) rfl
  have HBL := Aside0.mk hbl
  rcases h56 with rfl | rfl
  ·have HF := Aside0.mk (show shapeF g ⟨5, node, label, kids⟩ c = c.leave 5 node label kids by rw [shapeF, if_neg HF0.out, if_neg (by decide), if_neg (by decide), if_neg (by decide), if_pos (by decide)])
   obtain ⟨N, hN⟩ : ∃ N, N = enclF (fun f => decide (f.label = label) && (!false || f.loop)) c.frames c.frames.length := ⟨_, rfl⟩
   have EN := Aside0.mk (enclosing_any w1 bc vF c.frames bs label false k2 hfr hbl.symm ho)
   have HNL := Aside0.mk (enclF_lt (fun f => decide (f.label = label) && (!false || f.loop)) c.frames c.frames.length (Nat.le_refl _))
   rw [← hN] at HNL
   have HN := Aside0.mk hN
   clear HF0 s3 f4 M3 ho hN hbl h1 h2 h34 h1' h2' h3' h4'
   by_cases hbad : N < 0 ∨ kids.length ≠ 0 ∨ node ≠ 0
   ·have HFL := Aside0.mk (show shapeF g ⟨5, node, label, kids⟩ c = c.fail from HF.out.trans (by rw [leave_eq c 5 node label kids false rfl N HN.out, if_pos hbad]))
    by_cases hNneg : N < 0
    ·clear hbad
     go_enter Try.func68, Try.ntmps68
     go_wp2_with (first
      | (go_at_call 90; refine EN.out.mono ?_; rintro e w4 ⟨rfl, hd4⟩; rw [← HN.out]; have M4 := M1.out.drawn hd4; have k4' : w4.cell? ⟨bc, 4, none⟩ = some (.bool false) := (by have := M4.cell (k := 0) (j := 4) rfl rfl; rw [HBF.out] at this; exact this); have e0' : w4.cell? ⟨b3, 0, none⟩ = some (.int .i64 5) := M4.cell (k := 6) (j := 0) rfl rfl; have e1' : w4.cell? ⟨b3, 1, none⟩ = some (.int .i64 node) := M4.cell (k := 6) (j := 1) rfl rfl; have e3' : w4.cell? ⟨b3, 3, none⟩ = some (.slice A kids.length n) := M4.cell (k := 6) (j := 3) rfl rfl; obtain ⟨w5, s5, M5⟩ := M4.set (k := 0) 4 rfl (.bool true); have f5 := M4.free (k := 0) (j := 4) rfl; have M5 := Aside0.mk (show Mem w0 w5 F (c.fail.own bc (.slice gA g.length gc) ⟨vS, vF, vU, ts, bs⟩ ++ [.blk b3 (.cells #[.int .i64 5, .int .i64 node, .int .i64 label, .slice A kids.length n] 31 (0, 0))]) from M5); have M4 := Aside0.mk M4; clear hd4))
     refine bodyPost_ret (results_none rfl _ _ _) rfl ?_
     refine ⟨rfl, ⟨vS, vF, vU, ts, bs⟩, ?_⟩
     rw [HFL.out]
     exact M5.out.lose (k := 6) rfl
    ·by_cases hk0 : kids.length = 0
     ·have hn0 : (node != 0) = true := by simpa using (hbad.resolve_left hNneg).resolve_left (by simpa using hk0)
      have hk1 : ((kids.length : Int) != 0) = false := by simp [hk0]
      clear hbad hk0
      go_enter Try.func68, Try.ntmps68
      go_wp2_with (first
       | (go_at_call 90; refine EN.out.mono ?_; rintro e w4 ⟨rfl, hd4⟩; rw [← HN.out]; have M4 := M1.out.drawn hd4; have k4' : w4.cell? ⟨bc, 4, none⟩ = some (.bool false) := (by have := M4.cell (k := 0) (j := 4) rfl rfl; rw [HBF.out] at this; exact this); have e0' : w4.cell? ⟨b3, 0, none⟩ = some (.int .i64 5) := M4.cell (k := 6) (j := 0) rfl rfl; have e1' : w4.cell? ⟨b3, 1, none⟩ = some (.int .i64 node) := M4.cell (k := 6) (j := 1) rfl rfl; have e3' : w4.cell? ⟨b3, 3, none⟩ = some (.slice A kids.length n) := M4.cell (k := 6) (j := 3) rfl rfl; obtain ⟨w5, s5, M5⟩ := M4.set (k := 0) 4 rfl (.bool true); have f5 := M4.free (k := 0) (j := 4) rfl; have M5 := Aside0.mk (show Mem w0 w5 F (c.fail.own bc (.slice gA g.length gc) ⟨vS, vF, vU, ts, bs⟩ ++ [.blk b3 (.cells #[.int .i64 5, .int .i64 node, .int .i64 label, .slice A kids.length n] 31 (0, 0))]) from M5); have M4 := Aside0.mk M4; clear hd4))
      refine bodyPost_ret (results_none rfl _ _ _) rfl ?_
      refine ⟨rfl, ⟨vS, vF, vU, ts, bs⟩, ?_⟩
      rw [HFL.out]
      exact M5.out.lose (k := 6) rfl
     ·have hk1 : ((kids.length : Int) != 0) = true := bne_iff_ne.mpr (by omega)
      clear hbad hk0
      go_enter Try.func68, Try.ntmps68
      go_wp2_with (first
       | (go_at_call 90; refine EN.out.mono ?_; rintro e w4 ⟨rfl, hd4⟩; rw [← HN.out]; have M4 := M1.out.drawn hd4; have k4' : w4.cell? ⟨bc, 4, none⟩ = some (.bool false) := (by have := M4.cell (k := 0) (j := 4) rfl rfl; rw [HBF.out] at this; exact this); have e0' : w4.cell? ⟨b3, 0, none⟩ = some (.int .i64 5) := M4.cell (k := 6) (j := 0) rfl rfl; have e1' : w4.cell? ⟨b3, 1, none⟩ = some (.int .i64 node) := M4.cell (k := 6) (j := 1) rfl rfl; have e3' : w4.cell? ⟨b3, 3, none⟩ = some (.slice A kids.length n) := M4.cell (k := 6) (j := 3) rfl rfl; obtain ⟨w5, s5, M5⟩ := M4.set (k := 0) 4 rfl (.bool true); have f5 := M4.free (k := 0) (j := 4) rfl; have M5 := Aside0.mk (show Mem w0 w5 F (c.fail.own bc (.slice gA g.length gc) ⟨vS, vF, vU, ts, bs⟩ ++ [.blk b3 (.cells #[.int .i64 5, .int .i64 node, .int .i64 label, .slice A kids.length n] 31 (0, 0))]) from M5); have M4 := Aside0.mk M4; clear hd4))
      refine bodyPost_ret (results_none rfl _ _ _) rfl ?_
      refine ⟨rfl, ⟨vS, vF, vU, ts, bs⟩, ?_⟩
      rw [HFL.out]
      exact M5.out.lose (k := 6) rfl
   ·have hNneg : ¬ N < 0 := fun h => hbad (.inl h)
    have hk0 : kids.length = 0 := Classical.byContradiction fun h => hbad (.inr (.inl h))
    have hn0 : node = 0 := Classical.byContradiction fun h => hbad (.inr (.inr h))
    subst hn0
    obtain ⟨q, hq, hql⟩ : ∃ q : Nat, N = q ∧ q < c.frames.length := HNL.out.resolve_left hNneg
    subst hq
    have hk1 : ((kids.length : Int) != 0) = false := by simp [hk0]
    have hNn : ¬ ((q : Int) < 0) := hNneg
    have HBAD := Aside0.mk hbad
    clear hbad hNneg hk0 HNL
    go_enter Try.func68, Try.ntmps68
    go_wp2_with (first
     | (go_at_call 90; refine EN.out.mono ?_; rintro e w4 ⟨rfl, hd4⟩; rw [← HN.out]; have M4 := M1.out.drawn hd4; have k4' : w4.cell? ⟨bc, 4, none⟩ = some (.bool false) := (by have := M4.cell (k := 0) (j := 4) rfl rfl; rw [HBF.out] at this; exact this); have e0' : w4.cell? ⟨b3, 0, none⟩ = some (.int .i64 5) := M4.cell (k := 6) (j := 0) rfl rfl; have e1' : w4.cell? ⟨b3, 1, none⟩ = some (.int .i64 0) := M4.cell (k := 6) (j := 1) rfl rfl; have e3' : w4.cell? ⟨b3, 3, none⟩ = some (.slice A kids.length n) := M4.cell (k := 6) (j := 3) rfl rfl; have M4 := Aside0.mk M4; clear hd4)
     | (go_at_call 69; refine (emit0 bc _ c _ 1 0 M4.out hst).mono ?_; rintro e w9 ⟨rfl, p9, M9⟩; have e0'' : w9.cell? ⟨b3, 0, none⟩ = some (.int .i64 5) := M9.cell (k := 6) (j := 0) rfl rfl; have M9 := Aside0.mk M9))
    obtain ⟨vS, vF, vU, ts', bs'⟩ := p9
    obtain ⟨d, hd⟩ : ∃ d, d = c.emit ⟨1, 0, []⟩ := ⟨_, rfl⟩
    rw [← hd] at M9
    have hdf : d.frames = c.frames := by rw [hd]; rfl
    have hds : d.steps.length = c.steps.length + 1 := by rw [hd]; simp [Cs.emit]
    have hql' : (q : Int) < d.frames.length := by rw [hdf]; omega
    have hql2 : q < d.frames.length := by rw [hdf]; exact hql
    obtain ⟨w10, z10, M10⟩ := M9.out.drew
    obtain ⟨bF, cF, e, hcF, hcell⟩ := M10.rowForm (k := 3) rfl (by omega)
    dsimp only at e
    subst e
    have hbl2 : bs'.length = d.frames.length := by have := (M10.rows (k := 4) rfl).len; simpa using this
    obtain ⟨fq, hfq⟩ : ∃ fq, d.frames[q]? = some fq := ⟨_, List.getElem?_eq_getElem hql2⟩
    have hrec : ∀ j, j ≤ 3 → (recs (d.frames.map Frm.cells) bs')[q * 4 + j]? = (fq.cells ++ [bs'.getD q nilS])[j]? := fun j hj => by
     rw [recs_get (m := 3) (by simp [hbl2]) (frm_len _) (by simpa using hql2) hj]
     congr 2
     simp [List.getD_eq_getElem?_getD, hfq]
    have k2d : w10.cell? ⟨bc, 2, none⟩ = some (.slice (some ⟨bF, 0, none⟩) d.frames.length cF) := M10.cell (k := 0) (j := 2) rfl rfl
    obtain ⟨bks, hbks⟩ : ∃ bks, bks = (d.frames.map Frm.brk).getD q [] := ⟨_, rfl⟩
    obtain ⟨Av, nv, hv⟩ : ∃ A c, bs'.getD q nilS = .slice A bks.length c := by
     have := (M10.rows (k := 4) rfl).row q (by show q < bs'.length; omega)
     rw [← hbks] at this
     exact own_slice this
    have hbk : bks.length < 1000000000 := by
     have h8 := (HOK.out.br c.frames[q] (List.getElem_mem _)).1
     have h7 : bks = c.frames[q].brk := by rw [hbks, hdf]; simp [List.getD_eq_getElem?_getD, hql]
     rw [h7]; simp only [big] at h8; omega
    have r3 : w10.cell? ⟨bF, q * 4 + 3, none⟩ = some (.slice Av bks.length nv) := hcell _ _ ((hrec 3 (by omega)).trans (by rw [hv]; rfl))
    have HC := Aside0.mk hrec
    have HB2 := Aside0.mk hbl2
    have HV := Aside0.mk hv
    have HBK := Aside0.mk hbks
    have HD := Aside0.mk hd
    have HDF := Aside0.mk hdf
    have M10 := Aside0.mk M10
    have HQ := Aside0.mk hql2
    clear hfq hrec hbl2 hv hbks hd hdf hds hql hql2 M9 M4 M1 hcell hcF e0 e1 e2 e3 k4 k2
    go_wp2_with (first | (rw [z10]) | (refine wp_region_txt (fun W => W.cell? ⟨bc, 2, none⟩ = some (.slice (some ⟨bF, 0, none⟩) d.frames.length cF)) [3] (by kernel_rfl) (by kernel_rfl) ?_))
    iterate 15 (first | (with_reducible refine wpT_nil ?_) | (refine wpT_W (v := ?_) (by assumption) (by decide) (wanted_none rfl) (fun _ hS_ => ?_) ?_; rotate_left; (focus ((try dsimp only at hS_); go_simp; rfl)); (simp only [Act.put, List.setIfInBounds_toArray, List.set_cons_zero, List.set_cons_succ])) | (refine wpT_R (v := ?_) (by assumption) (by decide) (wanted_none rfl) ?_ ?_; rotate_left; (focus (go_simp; rfl)); (simp only [Act.put, List.setIfInBounds_toArray, List.set_cons_zero, List.set_cons_succ])) | (refine wpT_A (v := ?_) (ob := ?_) (by assumption) (by decide) (wanted_none rfl) ?_ ?_ ?_; rotate_left 2; (focus (go_simp; first | (constructor <;> rfl) | rfl)); (focus (apply cell_alloc; assumption)); (simp only [Act.put, List.setIfInBounds_toArray, List.set_cons_zero, List.set_cons_succ])))
    refine wpT_L (cell_alloc _ k2d) (by decide) (wanted_none rfl) (fun K_ hK_ => ?_)
    refine step_mem_at (ops := #[]) 4 q rfl (.tmp 98) (.tmp 100) rfl Try.underlying23 PShapeReducible.info3 bs' (d.frames.map Frm.brk) (c.steps.length : Int) (by rw [HV.out]; rfl) rfl M10.out rfl (by simpa using HQ.out) (by rw [← HBK.out]; exact hbk) ?_
    intro A12 c12 w12 M12
    rw [← HBK.out] at M12 ⊢
    have k2e : w12.cell? ⟨bc, 2, none⟩ = some (.slice (some ⟨bF, 0, none⟩) d.frames.length cF) := M12.cell (k := 0) (j := 2) rfl rfl
    refine hK_ _ _ k2e ?_
    clear hK_
    obtain ⟨w13, s13, M13⟩ := M12.rowPut (k := 3) (q * 4 + 3) rfl (.slice A12 (bks.length + 1) c12)
    have r4 : w12.cell? ⟨bF, q * 4 + 3, none⟩ = some (.slice Av bks.length nv) := by
     obtain ⟨bF', cF', e, _, hc⟩ := M12.rowForm (k := 3) rfl (by omega)
     simp only [Value.slice.injEq, Option.some.injEq, Addr.mk.injEq, and_true, true_and] at e
     obtain ⟨rfl, rfl⟩ := e
     exact hc _ _ ((HC.out 3 (by omega)).trans (by rw [HV.out]; rfl))
    have r5 := (M12.row (k := 3) rfl).frozenAt (q * 4 + 3)
    have k2f : w13.cell? ⟨bc, 2, none⟩ = some (.slice (some ⟨bF, 0, none⟩) d.frames.length cF) := M13.cell (k := 0) (j := 2) rfl rfl
    have M13 := Aside0.mk M13
    clear M12
    iterate 2 (first | (with_reducible refine wpT_nil ?_) | (refine wpT_W (v := ?_) (by assumption) (by decide) (wanted_none rfl) (fun _ hS_ => ?_) ?_; rotate_left; (focus ((try dsimp only at hS_); go_simp; rfl)); (simp only [Act.put, List.setIfInBounds_toArray, List.set_cons_zero, List.set_cons_succ])) | (refine wpT_R (v := ?_) (by assumption) (by decide) (wanted_none rfl) ?_ ?_; rotate_left; (focus (go_simp; rfl)); (simp only [Act.put, List.setIfInBounds_toArray, List.set_cons_zero, List.set_cons_succ])) | (refine wpT_A (v := ?_) (ob := ?_) (by assumption) (by decide) (wanted_none rfl) ?_ ?_ ?_; rotate_left 2; (focus (go_simp; first | (constructor <;> rfl) | rfl)); (focus (apply cell_alloc; assumption)); (simp only [Act.put, List.setIfInBounds_toArray, List.set_cons_zero, List.set_cons_succ])))
    refine wpT_L k2e (by decide) (wanted_none rfl) (fun K_ hK_ => ?_)
    go_simp
    refine hK_ _ _ k2f ?_
    clear hK_
    refine wpT_nil ?_
    go_wp2
    go_end0
    refine ⟨rfl, ⟨vS, .slice (some ⟨bF, 0, none⟩) d.frames.length cF, vU, ts', bs'.set q (.slice A12 (bks.length + 1) c12)⟩, ?_⟩
    rw [HF.out]
    have hfin : c.leave 5 0 label kids = { d with frames := addBrk d.frames q (c.steps.length : Int) } := by
     rw [leave_eq c 5 0 label kids false rfl q HN.out, if_neg HBAD.out, if_pos rfl, HD.out]
     rfl
    have hr2 : (recs (d.frames.map Frm.cells) bs').set (q * 4 + 3) (.slice A12 (bks.length + 1) c12) = recs (d.frames.map Frm.cells) (bs'.set q (.slice A12 (bks.length + 1) c12)) := recs_set (m := 3) (by simp [HB2.out]) (frm_len _) (by simpa using HQ.out) _
    rw [hfin]
    unfold Cs.own
    simp only [addBrk_cells, addBrk_brk, addBrk_length]
    rw [← hr2, ← HBK.out]
    exact M13.out.lose (k := 6) rfl
  ·have HF := Aside0.mk (show shapeF g ⟨6, node, label, kids⟩ c = c.leave 6 node label kids by rw [shapeF, if_neg HF0.out, if_neg (by decide), if_neg (by decide), if_neg (by decide), if_pos (by decide)])
   obtain ⟨N, hN⟩ : ∃ N, N = enclF (fun f => decide (f.label = label) && (!true || f.loop)) c.frames c.frames.length := ⟨_, rfl⟩
   have EN := Aside0.mk (enclosing_any w1 bc vF c.frames bs label true k2 hfr hbl.symm ho)
   have HNL := Aside0.mk (enclF_lt (fun f => decide (f.label = label) && (!true || f.loop)) c.frames c.frames.length (Nat.le_refl _))
   rw [← hN] at HNL
   have HN := Aside0.mk hN
   clear HF0 s3 f4 M3 ho hN hbl h1 h2 h34 h1' h2' h3' h4'
   by_cases hbad : N < 0 ∨ kids.length ≠ 0 ∨ node ≠ 0
   ·have HFL := Aside0.mk (show shapeF g ⟨6, node, label, kids⟩ c = c.fail from HF.out.trans (by rw [leave_eq c 6 node label kids true rfl N HN.out, if_pos hbad]))
    by_cases hNneg : N < 0
    ·clear hbad
     go_enter Try.func68, Try.ntmps68
     go_wp2_with (first
      | (go_at_call 90; refine EN.out.mono ?_; rintro e w4 ⟨rfl, hd4⟩; rw [← HN.out]; have M4 := M1.out.drawn hd4; have k4' : w4.cell? ⟨bc, 4, none⟩ = some (.bool false) := (by have := M4.cell (k := 0) (j := 4) rfl rfl; rw [HBF.out] at this; exact this); have e0' : w4.cell? ⟨b3, 0, none⟩ = some (.int .i64 6) := M4.cell (k := 6) (j := 0) rfl rfl; have e1' : w4.cell? ⟨b3, 1, none⟩ = some (.int .i64 node) := M4.cell (k := 6) (j := 1) rfl rfl; have e3' : w4.cell? ⟨b3, 3, none⟩ = some (.slice A kids.length n) := M4.cell (k := 6) (j := 3) rfl rfl; obtain ⟨w5, s5, M5⟩ := M4.set (k := 0) 4 rfl (.bool true); have f5 := M4.free (k := 0) (j := 4) rfl; have M5 := Aside0.mk (show Mem w0 w5 F (c.fail.own bc (.slice gA g.length gc) ⟨vS, vF, vU, ts, bs⟩ ++ [.blk b3 (.cells #[.int .i64 6, .int .i64 node, .int .i64 label, .slice A kids.length n] 31 (0, 0))]) from M5); have M4 := Aside0.mk M4; clear hd4))
     refine bodyPost_ret (results_none rfl _ _ _) rfl ?_
     refine ⟨rfl, ⟨vS, vF, vU, ts, bs⟩, ?_⟩
     rw [HFL.out]
     exact M5.out.lose (k := 6) rfl
    ·by_cases hk0 : kids.length = 0
     ·have hn0 : (node != 0) = true := by simpa using (hbad.resolve_left hNneg).resolve_left (by simpa using hk0)
      have hk1 : ((kids.length : Int) != 0) = false := by simp [hk0]
      clear hbad hk0
      go_enter Try.func68, Try.ntmps68
      go_wp2_with (first
       | (go_at_call 90; refine EN.out.mono ?_; rintro e w4 ⟨rfl, hd4⟩; rw [← HN.out]; have M4 := M1.out.drawn hd4; have k4' : w4.cell? ⟨bc, 4, none⟩ = some (.bool false) := (by have := M4.cell (k := 0) (j := 4) rfl rfl; rw [HBF.out] at this; exact this); have e0' : w4.cell? ⟨b3, 0, none⟩ = some (.int .i64 6) := M4.cell (k := 6) (j := 0) rfl rfl; have e1' : w4.cell? ⟨b3, 1, none⟩ = some (.int .i64 node) := M4.cell (k := 6) (j := 1) rfl rfl; have e3' : w4.cell? ⟨b3, 3, none⟩ = some (.slice A kids.length n) := M4.cell (k := 6) (j := 3) rfl rfl; obtain ⟨w5, s5, M5⟩ := M4.set (k := 0) 4 rfl (.bool true); have f5 := M4.free (k := 0) (j := 4) rfl; have M5 := Aside0.mk (show Mem w0 w5 F (c.fail.own bc (.slice gA g.length gc) ⟨vS, vF, vU, ts, bs⟩ ++ [.blk b3 (.cells #[.int .i64 6, .int .i64 node, .int .i64 label, .slice A kids.length n] 31 (0, 0))]) from M5); have M4 := Aside0.mk M4; clear hd4))
      refine bodyPost_ret (results_none rfl _ _ _) rfl ?_
      refine ⟨rfl, ⟨vS, vF, vU, ts, bs⟩, ?_⟩
      rw [HFL.out]
      exact M5.out.lose (k := 6) rfl
     ·have hk1 : ((kids.length : Int) != 0) = true := bne_iff_ne.mpr (by omega)
      clear hbad hk0
      go_enter Try.func68, Try.ntmps68
      go_wp2_with (first
       | (go_at_call 90; refine EN.out.mono ?_; rintro e w4 ⟨rfl, hd4⟩; rw [← HN.out]; have M4 := M1.out.drawn hd4; have k4' : w4.cell? ⟨bc, 4, none⟩ = some (.bool false) := (by have := M4.cell (k := 0) (j := 4) rfl rfl; rw [HBF.out] at this; exact this); have e0' : w4.cell? ⟨b3, 0, none⟩ = some (.int .i64 6) := M4.cell (k := 6) (j := 0) rfl rfl; have e1' : w4.cell? ⟨b3, 1, none⟩ = some (.int .i64 node) := M4.cell (k := 6) (j := 1) rfl rfl; have e3' : w4.cell? ⟨b3, 3, none⟩ = some (.slice A kids.length n) := M4.cell (k := 6) (j := 3) rfl rfl; obtain ⟨w5, s5, M5⟩ := M4.set (k := 0) 4 rfl (.bool true); have f5 := M4.free (k := 0) (j := 4) rfl; have M5 := Aside0.mk (show Mem w0 w5 F (c.fail.own bc (.slice gA g.length gc) ⟨vS, vF, vU, ts, bs⟩ ++ [.blk b3 (.cells #[.int .i64 6, .int .i64 node, .int .i64 label, .slice A kids.length n] 31 (0, 0))]) from M5); have M4 := Aside0.mk M4; clear hd4))
      refine bodyPost_ret (results_none rfl _ _ _) rfl ?_
      refine ⟨rfl, ⟨vS, vF, vU, ts, bs⟩, ?_⟩
      rw [HFL.out]
      exact M5.out.lose (k := 6) rfl
   ·have hNneg : ¬ N < 0 := fun h => hbad (.inl h)
    have hk0 : kids.length = 0 := Classical.byContradiction fun h => hbad (.inr (.inl h))
    have hn0 : node = 0 := Classical.byContradiction fun h => hbad (.inr (.inr h))
    subst hn0
    obtain ⟨q, hq, hql⟩ : ∃ q : Nat, N = q ∧ q < c.frames.length := HNL.out.resolve_left hNneg
    subst hq
    have hk1 : ((kids.length : Int) != 0) = false := by simp [hk0]
    have hNn : ¬ ((q : Int) < 0) := hNneg
    have HBAD := Aside0.mk hbad
    clear hbad hNneg hk0 HNL
    go_enter Try.func68, Try.ntmps68
    go_wp2_with (first
     | (go_at_call 90; refine EN.out.mono ?_; rintro e w4 ⟨rfl, hd4⟩; rw [← HN.out]; have M4 := M1.out.drawn hd4; have k4' : w4.cell? ⟨bc, 4, none⟩ = some (.bool false) := (by have := M4.cell (k := 0) (j := 4) rfl rfl; rw [HBF.out] at this; exact this); have e0' : w4.cell? ⟨b3, 0, none⟩ = some (.int .i64 6) := M4.cell (k := 6) (j := 0) rfl rfl; have e1' : w4.cell? ⟨b3, 1, none⟩ = some (.int .i64 0) := M4.cell (k := 6) (j := 1) rfl rfl; have e3' : w4.cell? ⟨b3, 3, none⟩ = some (.slice A kids.length n) := M4.cell (k := 6) (j := 3) rfl rfl; have M4 := Aside0.mk M4; clear hd4)
     | (go_at_call 69; refine (emit0 bc _ c _ 1 0 M4.out hst).mono ?_; rintro e w9 ⟨rfl, p9, M9⟩; have e0'' : w9.cell? ⟨b3, 0, none⟩ = some (.int .i64 6) := M9.cell (k := 6) (j := 0) rfl rfl; have M9 := Aside0.mk M9))
    obtain ⟨vS, vF, vU, ts', bs'⟩ := p9
    obtain ⟨d, hd⟩ : ∃ d, d = c.emit ⟨1, 0, []⟩ := ⟨_, rfl⟩
    rw [← hd] at M9
    have hdf : d.frames = c.frames := by rw [hd]; rfl
    have hds : d.steps.length = c.steps.length + 1 := by rw [hd]; simp [Cs.emit]
    have hql' : (q : Int) < d.frames.length := by rw [hdf]; omega
    have hql2 : q < d.frames.length := by rw [hdf]; exact hql
    obtain ⟨w10, z10, M10⟩ := M9.out.drew
    obtain ⟨bF, cF, e, hcF, hcell⟩ := M10.rowForm (k := 3) rfl (by omega)
    dsimp only at e
    subst e
    have hbl2 : bs'.length = d.frames.length := by have := (M10.rows (k := 4) rfl).len; simpa using this
    obtain ⟨fq, hfq⟩ : ∃ fq, d.frames[q]? = some fq := ⟨_, List.getElem?_eq_getElem hql2⟩
    have hrec : ∀ j, j ≤ 3 → (recs (d.frames.map Frm.cells) bs')[q * 4 + j]? = (fq.cells ++ [bs'.getD q nilS])[j]? := fun j hj => by
     rw [recs_get (m := 3) (by simp [hbl2]) (frm_len _) (by simpa using hql2) hj]
     congr 2
     simp [List.getD_eq_getElem?_getD, hfq]
    have k2d : w10.cell? ⟨bc, 2, none⟩ = some (.slice (some ⟨bF, 0, none⟩) d.frames.length cF) := M10.cell (k := 0) (j := 2) rfl rfl
    obtain ⟨st, hst2⟩ : ∃ st, st = fq.start := ⟨_, rfl⟩
    have HFQ := Aside0.mk hfq
    have r1 : w10.cell? ⟨bF, q * 4 + 1, none⟩ = some (.int .i64 st) := hcell _ _ ((hrec 1 (by omega)).trans (by rw [hst2]; rfl))
    obtain ⟨n8, w11, z11, a11, M11⟩ := M10.one st
    have M11' := (M11.order [0, 1, 2, 3, 4, 5, 7, 6] rfl)
    obtain ⟨bS, cS, w12, k1, s12, ⟨u9', t12⟩, f12, M12⟩ := Mem.setTo (n := c.steps.length) (xs := [st]) (H := [.blk b3 (.cells #[.int .i64 6, .int .i64 0, .int .i64 label, .slice A kids.length n] 31 (0, 0))]) M11' (by omega)
    have k1d : w10.cell? ⟨bc, 1, none⟩ = some (.slice (some ⟨bS, 0, none⟩) d.steps.length cS) := by
     obtain ⟨A, nn, e⟩ := own_vS M10
     have h1 := pw_cell_below (below_alloc (Below.refl _ _) (.cells #[.int .i64 st] 3)) e
     rw [a11, k1] at h1
     rw [e, ← h1]
    have hsl : (c.steps.length : Int) < d.steps.length := by omega
    have A8 := Aside0.mk (And.intro a11 z11)
    have M12 := Aside0.mk M12
    have HD := Aside0.mk hd
    have HDF := Aside0.mk hdf
    have HDS := Aside0.mk hds
    have HS2 := Aside0.mk hst2
    have HQL := Aside0.mk hql
    clear hfq hrec hbl2 hd hdf hds hql hql2 M9 M4 M1 hcell hcF e0 e1 e2 e3 k4 k2 M10 M11 M11' a11 z11 hst2
    go_wp2_with (first | (rw [z10]) | (refine wp_region_txt (fun _ => True) [] (by kernel_rfl) (by kernel_rfl) ?_))
    iterate 14 (first | (with_reducible refine wpT_nil ?_) | (refine wpT_W (v := ?_) trivial (by decide) (wanted_none rfl) (fun _ hS_ => ?_) ?_; rotate_left; (focus ((try dsimp only at hS_); go_simp; rfl)); (simp only [Act.put, List.setIfInBounds_toArray, List.set_cons_zero, List.set_cons_succ])) | (refine wpT_R (v := ?_) trivial (by decide) (wanted_none rfl) ?_ ?_; rotate_left; (focus (go_simp; rfl)); (simp only [Act.put, List.setIfInBounds_toArray, List.set_cons_zero, List.set_cons_succ])) | (refine wpT_A (v := ?_) (ob := ?_) trivial (by decide) (wanted_none rfl) ?_ ?_ ?_; rotate_left 2; (focus (go_simp; first | (constructor <;> rfl) | rfl)); (focus (exact trivial)); (simp only [Act.put, List.setIfInBounds_toArray, List.set_cons_zero, List.set_cons_succ])))
    rw [A8.out.1, A8.out.2]
    iterate 2 (first | (with_reducible refine wpT_nil ?_) | (refine wpT_W (v := ?_) trivial (by decide) (wanted_none rfl) (fun _ hS_ => ?_) ?_; rotate_left; (focus ((try dsimp only at hS_); go_simp; rfl)); (simp only [Act.put, List.setIfInBounds_toArray, List.set_cons_zero, List.set_cons_succ])) | (refine wpT_R (v := ?_) trivial (by decide) (wanted_none rfl) ?_ ?_; rotate_left; (focus (go_simp; rfl)); (simp only [Act.put, List.setIfInBounds_toArray, List.set_cons_zero, List.set_cons_succ])) | (refine wpT_A (v := ?_) (ob := ?_) trivial (by decide) (wanted_none rfl) ?_ ?_ ?_; rotate_left 2; (focus (go_simp; first | (constructor <;> rfl) | rfl)); (focus (exact trivial)); (simp only [Act.put, List.setIfInBounds_toArray, List.set_cons_zero, List.set_cons_succ])))
    (refine wpT_L trivial (by decide) (wanted_none rfl) (fun K_ hK_ => ?_); go_simp; refine hK_ _ _ trivial ?_; clear hK_)
    refine wpT_nil ?_
    go_wp2
    go_end0
    refine ⟨rfl, ?_⟩
    rw [HF.out]
    have hfin : c.leave 6 0 label kids = d.setTo c.steps.length [st] := by
     rw [leave_eq c 6 0 label kids true rfl q HN.out, if_neg HBAD.out, if_neg (by decide), ← HD.out, Int.toNat_natCast, HS2.out]
     congr 2
     rw [← HDF.out, HFQ.out]
     rfl
    rw [hfin]
    exact ⟨_, M12.out.lose (k := 6) rfl⟩
 ·have h5' : (kind == 5) = false := by simpa using fun h => h56 (.inl h)
  have h6' : (kind == 6) = false := by simpa using fun h => h56 (.inr h)
  have HF := Aside0.mk (show shapeF g ⟨kind, node, label, kids⟩ c = c.fail by rw [shapeF, if_neg HF0.out, if_neg h1, if_neg h2, if_neg h34, if_neg h56])
  clear HF0 h1 h2 h34 h56
  go_enter Try.func68, Try.ntmps68
  go_wp2
  go_end0
  refine ⟨rfl, p, ?_⟩
  rw [HF.out]
  exact M3.out.lose (k := 6) rfl
theorem rshape_any (w0 : World) (bc : Nat) (gA : Option Addr) (gc : Nat) (g : List (List Int)) (hG : kG.C w0 gA g.length g) (hg : g.length ≤ 1000000000) : ∀ (N : Nat) (s : S31), szF s ≤ N → ShapeOk w0 bc gA gc g s
 | 0, s, h => by rw [szF_eq] at h; omega
 | N + 1, s, h => by
  intro F H c p w A n m M hok hK hn
  rw [szF_eq] at h hok
  obtain ⟨kind, node, label, kids⟩ := s
  refine (rshape_step w0 bc gA gc g hG hg kind node label kids (fun k hk => rshape_any w0 bc gA gc g hG hg N k ?_) (H ++ F) c p w A n m M.narrow (hok.mono (by simp only []; omega)) hK hn).mono ?_
  ·have := szL_mem hk
   simp only [] at h
   omega
  ·rintro e w' ⟨rfl, p', M'⟩
   exact ⟨rfl, p', M'.wide⟩
end Go.Proofs.Ytfiiihpdekppiaa
end
section
namespace Go.Proofs.Ytfiiihpdekppiaa
open Go.RowKit Go.Proofs Go.Proofs.YtfiiihpdekppiaaW.PrintWords
open PShapeReducible (S31 S77 k77 k77_mk)
def Stp.s77 (p : Stp) : S77 := ⟨p.kind, p.node, p.tos⟩
theorem recs_chunk {m : Nat} : ∀ {hs : List (List Value)} {vs : List Value}, hs.length = vs.length → (∀ h ∈ hs, h.length = m) → ∀ {i : Nat}, i < hs.length → ((recs hs vs).drop (i * (m + 1))).take (m + 1) = hs.getD i [] ++ [vs.getD i nilS]
 | [], _, _, _, i, hi => by simp at hi
 | h :: hs, [], hl, _, _, _ => by simp at hl
 | h :: hs, v :: vs, hl, hm, i, hi => by
  have h0 := hm h (by simp)
  have e : recs (h :: hs) (v :: vs) = (h ++ [v]) ++ recs hs vs := by simp [recs]
  cases i with
  | zero =>
   rw [e]
   simp only [Nat.zero_mul, List.drop_zero, List.getD_cons_zero]
   rw [List.take_append_of_le_length (by simp [h0]), List.take_of_length_le (by simp [h0])]
  | succ i =>
   have ih := recs_chunk (hs := hs) (vs := vs) (by simpa using hl) (fun x hx => hm x (by simp [hx])) (i := i) (by simpa using hi)
   rw [e, show (i + 1) * (m + 1) = (h ++ [v]).length + i * (m + 1) by simp [h0, Nat.add_mul]; omega, List.drop_append]
   simp only [List.getD_cons_succ]
   rw [← ih, List.drop_of_length_le (by omega), List.nil_append, Nat.add_sub_cancel_left]
section
variable {w0 w w' : World} {F H L : List Pc}
theorem Mem.stepsC {k j : Nat} {v : Value} {ts : List Value} {ss : List Stp} (h : Mem w0 w F H) (hk : H[k]? = some (.row v 77 3 ss.length (recs (ss.map Stp.cells) ts))) (hj : H[j]? = some (.rows ts (ss.map Stp.tos))) :
  ∃ A n, v = .slice A (ss.map Stp.s77).length n ∧ (ss.map Stp.s77).length ≤ n ∧ k77.C w A (ss.map Stp.s77).length (ss.map Stp.s77) := by
 have h1 : w.ownsRow 0 77 3 v ss.length (recs (ss.map Stp.cells) ts) := h.says hk
 have h2 := h.rows hj
 have hlen : ts.length = ss.length := by simpa using h2.len
 have hr : OwnRow (k77.K w) 77 3 w 0 v (ss.map Stp.s77) := by
  refine ⟨_, by rw [List.length_map]; exact h1, by rw [List.length_map, recs_len (m := 2) (by simpa using hlen.symm) (by simp [Stp.cells])]; simp, fun i p hp => ?_⟩
  rw [List.getElem?_map] at hp
  obtain ⟨s, hs, rfl⟩ := Option.map_eq_some_iff.1 hp
  have hi := (List.getElem?_eq_some_iff.1 hs).1
  rw [recs_chunk (m := 2) (by simpa using hlen.symm) (by simp [Stp.cells]) (by simpa using hi)]
  obtain ⟨A, c, e1, e2, e3⟩ := own_C (h2.row i (by omega))
  have e4 : (ss.map Stp.tos).getD i [] = s.tos := by simp [List.getD_eq_getElem?_getD, hs]
  have e5 : (ss.map Stp.cells).getD i [] = s.cells := by simp [List.getD_eq_getElem?_getD, hs]
  rw [e4] at e1 e2 e3
  rw [e5, e1]
  exact k77_mk w s.s77 e2 e3
 exact OwnRow.reads hr
theorem Mem.rowsPut {k i j b n : Nat} {vs : List Value} {xss : List (List Int)} (h : Mem w0 w F H) (hk : H[k]? = some (.rows vs xss)) (hi : i < xss.length) (hv : vs.getD i nilS = .slice (some ⟨b, 0, none⟩) (xss.getD i []).length n) (x : Int) :
  ∃ w2, w.setCell ⟨b, j, none⟩ (.int .i64 x) = w2 ∧ Mem w0 w2 F (H.set k (.rows vs (xss.set i ((xss.getD i []).set j x)))) := by
 refine ⟨_, rfl, ?_⟩
 have h2 : Rows3 w 0 vs xss := h.says hk
 have hlen := h2.len
 have hrow := h2.row i (by omega)
 rw [hv] at hrow
 have hst := (hrow.stored j (.int .i64 x)).1
 have hg : w.grownBy (w.setCell ⟨b, j, none⟩ (.int .i64 x)) (vs.getD i nilS).ownBlock := ⟨rfl, rfl, rfl, by simp [World.setCell], fun q hq hn => by
  rw [hv] at hn
  exact Below.heap_setCell w _ _ q (fun e => hn (by rw [e]; rfl))⟩
 have := h.rowsTurn (i := i) hk (by omega) (v' := vs.getD i nilS) (xs' := (xss.getD i []).set j x) (b' := 0) hg (by
  rw [hv, List.length_set]
  have e : nums .i64 ((xss.getD i []).set j x) = (nums .i64 (xss.getD i [])).set j (.int .i64 x) := by simp [nums, List.map_set]
  rw [e]
  exact hst) (.inl rfl)
 have hset : vs.set i (vs.getD i nilS) = vs := by
  rw [List.getD_eq_getElem?_getD, List.getElem?_eq_getElem (by omega)]
  simp
 rw [hset] at this
 exact this
theorem Mem.rowsAt {k i : Nat} {vs : List Value} {xss : List (List Int)} (h : Mem w0 w F H) (hk : H[k]? = some (.rows vs xss)) (hi : i < xss.length) : ∃ A n, vs.getD i nilS = .slice A (xss.getD i []).length n ∧ (0 < (xss.getD i []).length → ∃ b, A = some ⟨b, 0, none⟩ ∧ ∀ j, j < (xss.getD i []).length → w.cell? ⟨b, j, none⟩ = some (.int .i64 ((xss.getD i []).getD j 0)) ∧ w.frozen? ⟨b, j, none⟩ = false) := by
 have h2 := h.rows hk
 have hrow := h2.row i (by have := h2.len; omega)
 obtain ⟨A, c, e⟩ := own_slice hrow
 refine ⟨A, c, e, fun h0 => ?_⟩
 rcases hrow.2 with ⟨_, h1⟩ | ⟨b, cap, cur, e1, _, _, hn', _⟩
 ·omega
 ·rw [e1] at hrow e
  injection e with e2 _ _
  refine ⟨b, e2.symm, fun j hj => ⟨?_, hrow.frozenAt j⟩⟩
  rw [hrow.cellAt j (by omega)]
  generalize xss.getD i [] = l at hj ⊢
  simp [nums, List.getD_eq_getElem?_getD, hj]
end
end Go.Proofs.Ytfiiihpdekppiaa
end
section
namespace Go.Proofs.Ytfiiihpdekppiaa.PShapeReducible
open Go.RowKit Go.Proofs.YtfiiihpdekppiaaW.PrintWords Go.Proofs.YtfiiihpdekppiaaW.PrintLast Go.Proofs.YtfiiihpdekppiaaW.PrintMore
attribute [local go_sem] max2_int min2_int max_two min_two max_three min_three max_four min_four
set_option linter.unusedVariables false
set_option linter.unusedSimpArgs false
def IsS124 (w0 W : World) (g : Nat) (f0 : List (List Int)) (f1 : List (S77)) (f2 : List (S141)) (f3 : List Int) (f4 : Bool) : Prop := ∃ A0 c0, ∃ A1 c1, ∃ A2 c2, ∃ A3 c3, W.heap[g]? = some (.cells #[.slice A0 f0.length c0, .slice A1 f1.length c1, .slice A2 f2.length c2, .slice A3 f3.length c3, .bool f4] 124 (0, 0)) ∧ w0.heap.size ≤ g ∧ Kd.C (Kd.slice 3 (Kd.int .i64)) w0 A0 f0.length f0 ∧ Kd.C k77 w0 A1 f1.length f1 ∧ Kd.C k141 w0 A2 f2.length f2 ∧ Kd.C (Kd.int .i64) w0 A3 f3.length f3
theorem IsS124.grown {w0 W : World} {g : Nat} {f0 : List (List Int)} {f1 : List (S77)} {f2 : List (S141)} {f3 : List Int} {f4 : Bool} {W1 : World} {row : Option Nat} (h : IsS124 w0 W g f0 f1 f2 f3 f4) (hw : W.grownBy W1 row) (hne : some g ≠ row) : IsS124 w0 W1 g f0 f1 f2 f3 f4 := by
 obtain ⟨A0, c0, A1, c1, A2, c2, A3, c3, hb, hg, hr0, hr1, hr2, hr3⟩ := h
 exact ⟨A0, c0, A1, c1, A2, c2, A3, c3, blk_grown hb hw hne, hg, hr0, hr1, hr2, hr3⟩
theorem IsS124.kept {w0 W : World} {g : Nat} {f0 : List (List Int)} {f1 : List (S77)} {f2 : List (S141)} {f3 : List Int} {f4 : Bool} {W1 : World} {S : Nat → Prop} (h : IsS124 w0 W g f0 f1 f2 f3 f4) (hk : Kept W W1 S) (hne : ¬ S g) : IsS124 w0 W1 g f0 f1 f2 f3 f4 := by
 obtain ⟨A0, c0, A1, c1, A2, c2, A3, c3, hb, hg, hr0, hr1, hr2, hr3⟩ := h
 exact ⟨A0, c0, A1, c1, A2, c2, A3, c3, blk_kept hb hk hne, hg, hr0, hr1, hr2, hr3⟩
theorem IsS124.below {w0 W : World} {g : Nat} {f0 : List (List Int)} {f1 : List (S77)} {f2 : List (S141)} {f3 : List Int} {f4 : Bool} {W1 : World} (h : IsS124 w0 W g f0 f1 f2 f3 f4) (hw : Below W.heap.size W W1) : IsS124 w0 W1 g f0 f1 f2 f3 f4 := h.grown (grown_of_below hw none) (by simp)
theorem IsS124.alloc {w0 W : World} {g : Nat} {f0 : List (List Int)} {f1 : List (S77)} {f2 : List (S141)} {f3 : List Int} {f4 : Bool} (h : IsS124 w0 W g f0 f1 f2 f3 f4) (o : Obj) : IsS124 w0 (W.alloc o) g f0 f1 f2 f3 f4 := h.below (below_alloc (Below.refl _ _) o)
theorem IsS124.drewN {w0 W : World} {g : Nat} {f0 : List (List Int)} {f1 : List (S77)} {f2 : List (S141)} {f3 : List Int} {f4 : Bool} (h : IsS124 w0 W g f0 f1 f2 f3 f4) (m : Nat) : IsS124 w0 (W.drewN m) g f0 f1 f2 f3 f4 := h
theorem IsS124.drew {w0 W : World} {g : Nat} {f0 : List (List Int)} {f1 : List (S77)} {f2 : List (S141)} {f3 : List Int} {f4 : Bool} (h : IsS124 w0 W g f0 f1 f2 f3 f4) : IsS124 w0 W.drew g f0 f1 f2 f3 f4 := h
theorem IsS124.at_ {w0 W : World} {g : Nat} {f0 : List (List Int)} {f1 : List (S77)} {f2 : List (S141)} {f3 : List Int} {f4 : Bool} {w' : World} {m : Nat} (hq : W.drewN m = w') (h : IsS124 w0 W g f0 f1 f2 f3 f4) : IsS124 w0 w' g f0 f1 f2 f3 f4 := by subst hq; exact IsS124.drewN h m
theorem IsS124.apart {w0 W : World} {g : Nat} {f0 : List (List Int)} {f1 : List (S77)} {f2 : List (S141)} {f3 : List Int} {f4 : Bool} {α : Type} {d : Kd α} {e : Nat} {base : Nat} {ok : Nat → Prop} {v : Value} {xs : List α} (h : IsS124 w0 W g f0 f1 f2 f3 f4) (ho : d.R e W base ok v xs) (ht : ∀ q, q ∈ e :: d.E → q ≠ 124) : d.R e W base (fun k => ok k ∧ k ≠ g) v xs := by
 obtain ⟨A0, c0, A1, c1, A2, c2, A3, c3, hb, hg, hr0, hr1, hr2, hr3⟩ := h
 exact Kd.R_types ho hb ht
theorem IsS124.own_ne {w0 W : World} {g : Nat} {f0 : List (List Int)} {f1 : List (S77)} {f2 : List (S141)} {f3 : List Int} {f4 : Bool} {α : Type} {d : Kd α} {e : Nat} {base : Nat} {ok : Nat → Prop} {v : Value} {xs : List α} (h : IsS124 w0 W g f0 f1 f2 f3 f4) (ho : d.R e W base ok v xs) (ht : e ≠ 124) : some g ≠ v.ownBlock := by
 obtain ⟨A0, c0, A1, c1, A2, c2, A3, c3, hb, hg, hr0, hr1, hr2, hr3⟩ := h
 exact Kd.R_ne ho hb ht
theorem IsS124.lt {w0 W : World} {g : Nat} {f0 : List (List Int)} {f1 : List (S77)} {f2 : List (S141)} {f3 : List Int} {f4 : Bool} (h : IsS124 w0 W g f0 f1 f2 f3 f4) : g < W.heap.size := by
 obtain ⟨A0, c0, A1, c1, A2, c2, A3, c3, hb, hg, hr0, hr1, hr2, hr3⟩ := h
 exact blk_lt hb
theorem IsS124.far {w0 W : World} {g : Nat} {f0 : List (List Int)} {f1 : List (S77)} {f2 : List (S141)} {f3 : List Int} {f4 : Bool} {p : Addr} (h : IsS124 w0 W g f0 f1 f2 f3 f4) (hne : g ≠ p.block) (u : Value) : IsS124 w0 (W.setCell p u) g f0 f1 f2 f3 f4 := by
 obtain ⟨A0, c0, A1, c1, A2, c2, A3, c3, hb, hg, hr0, hr1, hr2, hr3⟩ := h
 exact ⟨A0, c0, A1, c1, A2, c2, A3, c3, blk_far hb hne u, hg, hr0, hr1, hr2, hr3⟩
theorem IsS124.new (w0 W : World) (A0 : Option Addr) (c0 : Nat) (A1 : Option Addr) (c1 : Nat) (A2 : Option Addr) (c2 : Nat) (A3 : Option Addr) (c3 : Nat) (f0 : List (List Int)) (f1 : List (S77)) (f2 : List (S141)) (f3 : List Int) (f4 : Bool) (hB : Below w0.heap.size w0 W) (hr0 : Kd.C (Kd.slice 3 (Kd.int .i64)) w0 A0 f0.length f0) (hr1 : Kd.C k77 w0 A1 f1.length f1) (hr2 : Kd.C k141 w0 A2 f2.length f2) (hr3 : Kd.C (Kd.int .i64) w0 A3 f3.length f3) : IsS124 w0 (W.alloc (.cells #[.slice A0 f0.length c0, .slice A1 f1.length c1, .slice A2 f2.length c2, .slice A3 f3.length c3, .bool f4] 124)) W.heap.size f0 f1 f2 f3 f4 := ⟨A0, c0, A1, c1, A2, c2, A3, c3, by simpa using heap_alloc_new W _, hB.size, hr0, hr1, hr2, hr3⟩
def vellumref12_Next.l0 : Nat → List (S77) → Int → Int → Option (Int)
 | 0, _, _, _ => none
 | k + 1, x0, x1, x5 => if x5 ≤ (x0.length : Int) then (if 0 ≤ x1 then (if x1 < (x0.length : Int) then (if ((rd_T77 x0 x1).f0) = 0 then (some x1) else (if ((rd_T77 x0 x1).f0) = 2 then (some (-1)) else (if 0 < (((rd_T77 x0 x1).f2).length : Int) then (vellumref12_Next.l0 k x0 (rd ((rd_T77 x0 x1).f2) 0) (wrap64 (x5 + 1))) else (none)))) else (none)) else (none)) else (some (-1))
def vellumref12_Next.f (k : Nat) (l0 : List (S77)) (a1 : Int) : Option (Int) := vellumref12_Next.l0 k l0 a1 0
theorem vellumref12_Next.mono_l : ∀ k, (∀ y0 y1 y2, LeO (vellumref12_Next.l0 k y0 y1 y2) (vellumref12_Next.l0 (k + 1) y0 y1 y2))
 | 0 => fun _ _ _ r h => by simp [vellumref12_Next.l0] at h
 | k + 1 => by
  have ih0 := vellumref12_Next.mono_l k
  ·intro y0 y1 y2
   unfold vellumref12_Next.l0
   repeat' first
   | (with_reducible exact ih0 _ _ _)
   | (with_reducible exact LeO.refl _)
   | (with_reducible exact LeO.none _)
   | (with_reducible refine LeO.ite ?_ ?_)
   | (with_reducible refine LeO.bind ?_ (fun _ => ?_))
   | exact ih0 _ _ _
   | exact LeO.none _
   | refine LeO.ite ?_ ?_
   | refine LeO.bind ?_ (fun _ => ?_)
theorem vellumref12_Next.mono : ∀ a0 a1 k, LeO (vellumref12_Next.f k a0 a1) (vellumref12_Next.f (k + 1) a0 a1) := by
 intro a0 a1 k
 have ih0 := vellumref12_Next.mono_l k
 unfold vellumref12_Next.f
 repeat' first
   | (with_reducible exact ih0 _ _ _)
   | (with_reducible exact LeO.refl _)
   | (with_reducible exact LeO.none _)
   | (with_reducible refine LeO.ite ?_ ?_)
   | (with_reducible refine LeO.bind ?_ (fun _ => ?_))
   | exact ih0 _ _ _
   | exact LeO.none _
   | refine LeO.ite ?_ ?_
   | refine LeO.bind ?_ (fun _ => ?_)
set_option maxHeartbeats 8000000 in
set_option maxRecDepth 100000 in
theorem vellumref12_Next.calls (k : Nat) (A0 : Option Addr) (c0 : Nat) (l0 : List (S77)) (a1 : Int) (r : Int) (w : World) (hr0 : Kd.C k77 w A0 l0.length l0) (hc0 : l0.length ≤ c0) (h : vellumref12_Next.f k l0 a1 = some r) :
  Calls Try.prog 46 #[.slice A0 l0.length c0, .int .i64 a1] w fun e w' => e = .returned (.int .i64 r) ∧ Drawn0 w w' := by
 have HR0 := Aside0.mk hr0
 have HC0 := Aside0.mk hc0
 clear hr0 hc0
 have H : (vellumref12_Next.l0 k l0 a1 0) = some r := h
 clear h
 have H' := Aside0.mk H
 clear H
 go_enter Try.func46, Try.ntmps46
 go_wp2
 go_loopg [1, 5] k (fun kq v1 v5 w' => ∃ (x1_1 : Int) (x5_1 : Int), v1 = .int .i64 x1_1 ∧ v5 = .int .i64 x5_1 ∧ Aside0 (vellumref12_Next.l0 kq l0 x1_1 x5_1 = some r) ∧ Aside0 (kq ≤ k) ∧ Drawn0 w w')
 case atStart => exact ⟨(a1), (0), (by first | rfl | (simp; done) | (simp [*]; done)), (by first | rfl | (simp; done) | (simp [*]; done)), H', ⟨Nat.le_refl _⟩, by repeat (first | exact Drawn0.refl _ | apply Drawn0.step)⟩
 case round =>
  clear H'
  try clear p2
  obtain ⟨x1_1, x5_1, rfl, rfl, HA, HK1, ⟨m1, rfl⟩⟩ := hrel
  cases gk with
  | zero => exact absurd HA.out (by simp [vellumref12_Next.l0])
  | succ k1 =>
   have H := HA.out
   clear HA
   simp only [vellumref12_Next.l0] at H
   by_cases c3 : x5_1 ≤ (l0.length : Int)
   ·rw [if_pos c3] at H
    have c3b0 : decide (x5_1 ≤ (l0.length : Int)) = true := decide_eq_true c3
    clear c3
    by_cases c4 : 0 ≤ x1_1
    ·rw [if_pos c4] at H
     have c4b0 : decide (0 ≤ x1_1) = true := decide_eq_true c4
     clear c4
     by_cases c5 : x1_1 < (l0.length : Int)
     ·rw [if_pos c5] at H
      have c5b0 : decide (x1_1 < (l0.length : Int)) = true := decide_eq_true c5
      clear c5
      by_cases c6 : ((rd_T77 l0 x1_1).f0) = 0
      ·rw [if_pos c6] at H
       have c6b0 : (((rd_T77 l0 x1_1).f0) == 0) = true := beq_iff_eq.mpr c6
       have c6b1 : (((rd_T77 l0 x1_1).f0) != 0) = false := bne_eq_false_iff_eq.mpr c6
       clear c6
       obtain rfl := Option.some.inj H
       have p281 : 0 ≤ (x1_1 : Int) := of_decide_eq_true (by first | (with_reducible assumption) | assumption)
       have q281 : x1_1 < (l0.length : Int) := of_decide_eq_true (by first | (with_reducible assumption) | assumption)
       obtain ⟨ad281, A281_2, c281_2, e281, hx281_0, hx281_1, hx281_2, hl281_2, hi281_2⟩ := at_T77 HR0.out x1_1 p281 q281
       cases e281
       have HR281_2 := Aside0.mk hi281_2
       have HC281_2 := Aside0.mk hl281_2
       clear hi281_2 hl281_2
       replace p281 := eq_true p281
       replace q281 := eq_true q281
       go_wp2
       go_ret
       exact ⟨by first | rfl | (simp; done) | (simp [*]; done), by repeat (first | exact Drawn0.refl _ | apply Drawn0.step)⟩
      ·rw [if_neg c6] at H
       have c6b0 : (((rd_T77 l0 x1_1).f0) == 0) = false := beq_eq_false_iff_ne.mpr c6
       have c6b1 : (((rd_T77 l0 x1_1).f0) != 0) = true := bne_iff_ne.mpr c6
       by_cases c7 : ((rd_T77 l0 x1_1).f0) = 2
       ·rw [if_pos c7] at H
        have c7b0 : (((rd_T77 l0 x1_1).f0) == 2) = true := beq_iff_eq.mpr c7
        have c7b1 : (((rd_T77 l0 x1_1).f0) != 2) = false := bne_eq_false_iff_eq.mpr c7
        clear c7
        obtain rfl := Option.some.inj H
        have p281 : 0 ≤ (x1_1 : Int) := of_decide_eq_true (by first | (with_reducible assumption) | assumption)
        have q281 : x1_1 < (l0.length : Int) := of_decide_eq_true (by first | (with_reducible assumption) | assumption)
        obtain ⟨ad281, A281_2, c281_2, e281, hx281_0, hx281_1, hx281_2, hl281_2, hi281_2⟩ := at_T77 HR0.out x1_1 p281 q281
        cases e281
        have HR281_2 := Aside0.mk hi281_2
        have HC281_2 := Aside0.mk hl281_2
        clear hi281_2 hl281_2
        replace p281 := eq_true p281
        replace q281 := eq_true q281
        go_wp2
        go_ret
        exact ⟨by first | rfl | (simp; done) | (simp [*]; done), by repeat (first | exact Drawn0.refl _ | apply Drawn0.step)⟩
       ·rw [if_neg c7] at H
        have c7b0 : (((rd_T77 l0 x1_1).f0) == 2) = false := beq_eq_false_iff_ne.mpr c7
        have c7b1 : (((rd_T77 l0 x1_1).f0) != 2) = true := bne_iff_ne.mpr c7
        by_cases c8 : 0 < (((rd_T77 l0 x1_1).f2).length : Int)
        ·rw [if_pos c8] at H
         have c8b0 : decide (0 < (((rd_T77 l0 x1_1).f2).length : Int)) = true := decide_eq_true c8
         have c8b1 : decide (0 < ((rd_T77 l0 x1_1).f2).length) = true := decide_eq_true (by omega)
         clear c8
         have H' := Aside0.mk H
         clear H
         have p281 : 0 ≤ (x1_1 : Int) := of_decide_eq_true (by first | (with_reducible assumption) | assumption)
         have q281 : x1_1 < (l0.length : Int) := of_decide_eq_true (by first | (with_reducible assumption) | assumption)
         obtain ⟨ad281, A281_2, c281_2, e281, hx281_0, hx281_1, hx281_2, hl281_2, hi281_2⟩ := at_T77 HR0.out x1_1 p281 q281
         cases e281
         have HR281_2 := Aside0.mk hi281_2
         have HC281_2 := Aside0.mk hl281_2
         clear hi281_2 hl281_2
         replace p281 := eq_true p281
         replace q281 := eq_true q281
         have p282 : 0 ≤ (x1_1 : Int) := of_decide_eq_true (by first | (with_reducible assumption) | assumption)
         have q282 : x1_1 < (l0.length : Int) := of_decide_eq_true (by first | (with_reducible assumption) | assumption)
         obtain ⟨ad282, A282_2, c282_2, e282, hx282_0, hx282_1, hx282_2, hl282_2, hi282_2⟩ := at_T77 HR0.out x1_1 p282 q282
         obtain rfl : ad281 = ad282 := (by injection e282)
         have HR282_2 := Aside0.mk hi282_2
         have HC282_2 := Aside0.mk hl282_2
         clear hi282_2 hl282_2
         replace p282 := eq_true p282
         replace q282 := eq_true q282
         have ea_ := Option.some.inj (hx281_2.symm.trans hx282_2)
         injection ea_ with ea_ en_ ec_
         subst ea_
         subst ec_
         clear en_
         have p283 : 0 ≤ (0 : Int) := (by omega)
         have q283 : 0 < (((rd_T77 l0 x1_1).f2).length : Int) := of_decide_eq_true (by first | (with_reducible assumption) | assumption)
         obtain ⟨ad283, e283, hx283_0⟩ := Kd.at_int HR282_2.out 0 p283 q283
         cases e283
         have qi283 : (0 < ((rd_T77 l0 x1_1).f2).length) = True := eq_true (by omega)
         (try rw [show ((0 : Int)).toNat = 0 from rfl] at hx283_0)
         (try rw [Addr.add_zero'] at hx283_0)
         replace p283 := eq_true p283
         replace q283 := eq_true q283
         go_wp2
         go_roundg k1
         case measure => have := HK1.out; omega
         case rel => exact ⟨(rd ((rd_T77 l0 x1_1).f2) 0), (wrap64 (x5_1 + 1)), (by first | rfl | (simp; done) | (simp [*]; done)), (by first | rfl | (simp; done) | (simp [*]; done)), H', ⟨by have := HK1.out; omega⟩, by repeat (first | exact Drawn0.refl _ | apply Drawn0.step)⟩
        ·rw [if_neg c8] at H
         exact absurd H (by simp)
     ·rw [if_neg c5] at H
      exact absurd H (by simp)
    ·rw [if_neg c4] at H
     exact absurd H (by simp)
   ·rw [if_neg c3] at H
    have c3b0 : decide (x5_1 ≤ (l0.length : Int)) = false := decide_eq_false c3
    clear c3
    obtain rfl := Option.some.inj H
    go_wp2
    go_ret
    exact ⟨by first | rfl | (simp; done) | (simp [*]; done), by repeat (first | exact Drawn0.refl _ | apply Drawn0.step)⟩
end Go.Proofs.Ytfiiihpdekppiaa.PShapeReducible
end
section
namespace Go.Proofs.Ytfiiihpdekppiaa
open Go.RowKit Go.Proofs Go.Proofs.YtfiiihpdekppiaaW.PrintWords
open Go.ChangeMaps (setBlock heap_setBlock_same heap_setBlock_other)
open PShapeReducible (S31 k31 at_T31 rd_T31 S77 k77)
def clampAt (hi : Int) (i j : Nat) (xss : List (List Int)) : List (List Int) :=
 xss.mapIdx fun a l => if a < i then l.map (min · hi) else if a = i then l.mapIdx fun b x => if b < j then min x hi else x else l
theorem clampAt_length (hi : Int) (i j : Nat) (xss : List (List Int)) : (clampAt hi i j xss).length = xss.length := by simp [clampAt]
theorem clampAt_get (hi : Int) (i j : Nat) (xss : List (List Int)) : (clampAt hi i j xss).getD i [] = (xss.getD i []).mapIdx fun b x => if b < j then min x hi else x := by
 simp only [clampAt, List.getD_eq_getElem?_getD, List.getElem?_mapIdx]
 cases xss[i]? <;> simp
theorem mapIdx_id' {α : Type} (l : List α) : l.mapIdx (fun _ x => x) = l := by
 apply List.ext_getElem?
 intro i
 simp only [List.getElem?_mapIdx]
 cases l[i]? <;> rfl
theorem clampAt_zero (hi : Int) (xss : List (List Int)) : clampAt hi 0 0 xss = xss := by
 apply List.ext_getElem?
 intro i
 simp only [clampAt, List.getElem?_mapIdx]
 cases xss[i]? with
 | none => rfl
 | some l => by_cases h : i = 0 <;> simp [h, mapIdx_id']
theorem clampAt_end (hi : Int) (i : Nat) (xss : List (List Int)) : clampAt hi i (xss.getD i []).length xss = clampAt hi (i + 1) 0 xss := by
 apply List.ext_getElem?
 intro a
 simp only [clampAt, List.getElem?_mapIdx, List.getD_eq_getElem?_getD]
 cases h : xss[a]? with
 | none => rfl
 | some l =>
  simp only [Option.map_some, Option.some.injEq]
  by_cases h1 : a < i
  ·rw [if_pos h1, if_pos (by omega)]
  ·by_cases h2 : a = i
   ·subst h2
    rw [if_neg h1, if_pos rfl, if_pos (by omega), h]
    apply List.ext_getElem?
    intro b
    simp only [Option.getD_some, List.getElem?_mapIdx, List.getElem?_map]
    cases h3 : l[b]? with
    | none => rfl
    | some x => simp only [Option.map_some]; rw [if_pos (List.getElem?_eq_some_iff.1 h3).1]
   ·rw [if_neg h1, if_neg h2, if_neg (by omega)]
    by_cases h4 : a = i + 1
    ·rw [if_pos h4]; simp [mapIdx_id']
    ·rw [if_neg h4]
theorem clampAt_step (hi : Int) (i j : Nat) (xss : List (List Int)) (hij : j < (xss.getD i []).length) :
  (clampAt hi i j xss).set i (((clampAt hi i j xss).getD i []).set j (min ((xss.getD i []).getD j 0) hi)) = clampAt hi i (j + 1) xss := by
 rw [clampAt_get]
 apply List.ext_getElem?
 intro a
 rw [List.getElem?_set]
 by_cases h1 : i = a
 ·subst h1
  have hlt : i < xss.length := by
   rcases Nat.lt_or_ge i xss.length with h | h
   ·exact h
   ·rw [List.getD_eq_getElem?_getD, List.getElem?_eq_none h] at hij; simp at hij
  rw [if_pos rfl, clampAt_length, if_pos hlt]
  simp only [clampAt, List.getElem?_mapIdx, List.getElem?_eq_getElem hlt, Option.map_some, Nat.lt_irrefl, if_false, if_true, Option.some.injEq, List.getD_eq_getElem?_getD, Option.getD_some]
  rw [List.getD_eq_getElem?_getD, List.getElem?_eq_getElem hlt, Option.getD_some] at hij
  apply List.ext_getElem?
  intro b
  rw [List.getElem?_set]
  by_cases h2 : j = b
  ·subst h2
   rw [if_pos rfl]
   simp [hij]
  ·rw [if_neg h2]
   simp only [List.getElem?_mapIdx]
   cases xss[i][b]? with
   | none => rfl
   | some x =>
    simp only [Option.map_some, Option.some.injEq]
    by_cases h3 : b < j
    ·rw [if_pos h3, if_pos (by omega)]
    ·rw [if_neg h3, if_neg (by omega)]
 ·rw [if_neg h1]
  simp only [clampAt, List.getElem?_mapIdx]
  cases xss[a]? with
  | none => rfl
  | some l =>
   simp only [Option.map_some, Option.some.injEq]
   by_cases h2 : a < i
   ·rw [if_pos h2, if_pos h2]
   ·rw [if_neg h2, if_neg h2, if_neg (fun h => h1 h.symm), if_neg (fun h => h1 h.symm)]
def withTos (ss : List Stp) (xss : List (List Int)) : List Stp := ss.mapIdx fun a p => { p with tos := xss.getD a [] }
theorem withTos_cells (ss : List Stp) (xss : List (List Int)) : (withTos ss xss).map Stp.cells = ss.map Stp.cells := by
 apply List.ext_getElem?
 intro i
 simp only [withTos, List.getElem?_map, List.getElem?_mapIdx]
 cases ss[i]? <;> rfl
theorem withTos_tos (ss : List Stp) (xss : List (List Int)) (h : xss.length = ss.length) : (withTos ss xss).map Stp.tos = xss := by
 apply List.ext_getElem?
 intro i
 simp only [withTos, List.getElem?_map, List.getElem?_mapIdx]
 by_cases hi : i < ss.length
 ·simp [hi, List.getD_eq_getElem?_getD, h]
 ·rw [List.getElem?_eq_none (by omega), List.getElem?_eq_none (by omega)]; rfl
theorem withTos_length (ss : List Stp) (xss : List (List Int)) : (withTos ss xss).length = ss.length := by simp [withTos]
theorem withTos_clamp (ss : List Stp) : withTos ss (clampAt ((ss.length : Int) - 1) ss.length 0 (ss.map Stp.tos)) = clampT ss := by
 apply List.ext_getElem?
 intro i
 simp only [withTos, clampT, List.getElem?_mapIdx, List.getElem?_map]
 cases h : ss[i]? with
 | none => rfl
 | some p =>
  have hi := (List.getElem?_eq_some_iff.1 h).1
  simp only [Option.map_some, Option.some.injEq, clampAt, List.getD_eq_getElem?_getD, List.getElem?_mapIdx, List.getElem?_map, h, if_pos hi, Option.getD_some]
def stepsOwn (v : Value) (ts : List Value) (ss : List Stp) : List Pc := [.row v 77 3 ss.length (recs (ss.map Stp.cells) ts), .rows ts (ss.map Stp.tos)]
set_option maxRecDepth 100000 in
set_option maxHeartbeats 4000000 in
theorem compile_any (w : World) (A : Option Addr) (c n cg : Nat) (g : List (List Int)) (kind node label : Int) (kids : List S31) (hG : kG.C w A g.length g) (hg : g.length ≤ 1000000000) (hgc : g.length ≤ cg) (A3 : Option Addr) (hK : k31.C w A3 kids.length kids) (hn : kids.length ≤ n) (hsz : szL kids ≤ 100000000) :
  Calls Try.prog 45 #[.agg #[.int .i64 kind, .int .i64 node, .int .i64 label, .slice A3 kids.length n], .agg #[.slice A g.length cg]] w fun e w' => ∃ v ts, e = .returned v ∧ Mem w w' [] (stepsOwn v ts (compileF g ⟨kind, node, label, kids⟩)) := by
 obtain ⟨b2, w1, z1, a1, M1⟩ := (Mem.start w).alloc (.cells #[.int .i64 kind, .int .i64 node, .int .i64 label, .slice A3 kids.length n] 31)
 obtain ⟨b3, w2, z2, a2, M2⟩ := M1.alloc (.cells #[.slice A g.length cg] 27)
 obtain ⟨bc, w3, z3, a3, M3⟩ := M2.alloc (.cells #[.slice A g.length cg, nilS, nilS, nilS, .bool false] 124)
 have k1 := M2.cell (k := 1) (j := 0) rfl rfl
 have e0 : w3.cell? ⟨b2, 0, none⟩ = some (.int .i64 kind) := M3.cell (k := 0) (j := 0) rfl rfl
 have e1 : w3.cell? ⟨b2, 1, none⟩ = some (.int .i64 node) := M3.cell (k := 0) (j := 1) rfl rfl
 have e2 : w3.cell? ⟨b2, 2, none⟩ = some (.int .i64 label) := M3.cell (k := 0) (j := 2) rfl rfl
 have e3 : w3.cell? ⟨b2, 3, none⟩ = some (.slice A3 kids.length n) := M3.cell (k := 0) (j := 3) rfl rfl
 have M4 : Mem w w3 [] ((Cs.mk [] [] [] false).own bc (.slice A g.length cg) ⟨nilS, nilS, nilS, [], []⟩ ++ [.blk b2 (.cells #[.int .i64 kind, .int .i64 node, .int .i64 label, .slice A3 kids.length n] 31 (0, 0)), .blk b3 (.cells #[.slice A g.length cg] 27 (0, 0))]) := by
  have h1 := (((((M3.nilrow 77 3).norows).nilrow 141 4).norows).nilrow 3 1).order [2, 3, 4, 5, 6, 7, 0, 1] rfl
  exact h1
 have M4 := Aside0.mk M4
 have HG := Aside0.mk hG
 have HK := Aside0.mk hK
 have HN := Aside0.mk hn
 have SH := Aside0.mk (rshape_any w bc A cg g hG hg _ ⟨kind, node, label, kids⟩ (Nat.le_refl _))
 have HSZ := Aside0.mk hsz
 obtain ⟨cF, hcF⟩ : ∃ cF, cF = shapeF g ⟨kind, node, label, kids⟩ ⟨[], [], [], false⟩ := ⟨_, rfl⟩
 have HOK := Aside0.mk (shapeF_ok g 100000000 ⟨kind, node, label, kids⟩ ⟨[], [], [], false⟩ ⟨by simp only [szF_eq, big, List.length_nil]; omega, by simp only [szF_eq, big, List.length_nil]; omega, by simp only [szF_eq, big, List.length_nil]; omega, by simp⟩)
 have HOK0 := Aside0.mk (show (Cs.mk [] [] [] false).Ok (szF ⟨kind, node, label, kids⟩ + 100000000) from ⟨by simp only [szF_eq, big, List.length_nil]; omega, by simp only [szF_eq, big, List.length_nil]; omega, by simp only [szF_eq, big, List.length_nil]; omega, by simp⟩)
 rw [← hcF] at HOK
 have HCF := Aside0.mk hcF
 clear hG hK M1 M2 M3 hcF hn hsz
 go_enter Try.func45, Try.ntmps45
 go_wp2_with (first
  | (go_at_call 68; refine (SH.out [] _ _ _ w3 A3 n 100000000 M4.out HOK0.out HK.out HN.out).mono ?_; rintro e w5 ⟨rfl, p5, M5⟩; rw [← HCF.out] at M5; have k4 : w5.cell? ⟨bc, 4, none⟩ = some (.bool cF.bad) := M5.cell (k := 0) (j := 4) rfl rfl; obtain ⟨bd, hbd⟩ : ∃ bd, bd = cF.bad := ⟨_, rfl⟩; rw [← hbd] at k4; have HBD := Aside0.mk hbd; have M5 := Aside0.mk M5; clear hbd; cases bd))
 ·have HLC : cF.steps.length < 1000000000 := by have h8 := HOK.out.2.1; simp only [big] at h8; omega
  have HCOMP := Aside0.mk (show compileF g ⟨kind, node, label, kids⟩ = clampT (cF.steps ++ [⟨2, 0, []⟩]) by
   unfold compileF
   simp only []
   rw [← HCF.out, if_neg (by rw [← HBD.out]; decide)]
   rfl)
  go_wp2_with (first
   | (go_at_call 69; refine (emit0 bc _ cF p5 2 0 M5.out HLC).mono ?_; rintro e w6 ⟨rfl, p6, M6⟩; have M6 := Aside0.mk M6))
  obtain ⟨vS, vF, vU, ts, bs⟩ := p6
  obtain ⟨ss, hss⟩ : ∃ ss, ss = cF.steps ++ [⟨2, 0, []⟩] := ⟨_, rfl⟩
  obtain ⟨R, hR⟩ : ∃ R, Mem w w6 R [.blk bc (.cells #[.slice A g.length cg, vS, vF, vU, .bool cF.bad] 124 (0, 0)), .row vS 77 3 ss.length (recs (ss.map Stp.cells) ts), .rows ts (clampAt ((ss.length : Int) - 1) 0 0 (ss.map Stp.tos))] := by
   have h1 := M6.out.focus [0, 1, 2] rfl
   rw [clampAt_zero, hss]
   exact ⟨_, h1⟩
  have HM := Aside0.mk hR
  have HLS : ss.length = cF.steps.length + 1 := by rw [hss]; simp
  obtain ⟨bS, cS, e, hcS, _⟩ := hR.rowForm (k := 1) rfl (by omega)
  subst e
  have HTS := Aside0.mk (show ts.length = ss.length by have := (hR.rows (k := 2) rfl).len; simpa [clampAt_length] using this)
  rw [← hss] at HCOMP
  have HBIG : ss.length ≤ 1000000000 := by omega
  have HX := Aside0.mk (show ∀ i : Nat, i < ss.length → ∀ j ≤ 2, (recs (ss.map Stp.cells) ts)[i * 3 + j]? = ((ss.map Stp.cells).getD i [] ++ [ts.getD i nilS])[j]? from fun i hi j hj => step_cell HTS.out hi hj)
  obtain ⟨X, hX⟩ : ∃ X, X = ss.map Stp.tos := ⟨_, rfl⟩
  rw [← hX] at HM
  have HXE := Aside0.mk hX
  have HXL := Aside0.mk (show X.length = ss.length by rw [hX]; simp)
  clear hR hss M5 M6 M4 e0 e1 e2 e3 k1 k4 z1 z2 z3 a1 a2 a3 hX HLS HLC
  go_loopw [6] (fun t wr => ∃ i : Nat, t = .int .i64 i ∧ i ≤ ss.length ∧ Aside0 (Mem w wr R [.blk bc (.cells #[.slice A g.length cg, .slice (some ⟨bS, 0, none⟩) ss.length cS, vF, vU, .bool cF.bad] 124 (0, 0)), .row (.slice (some ⟨bS, 0, none⟩) ss.length cS) 77 3 ss.length (recs (ss.map Stp.cells) ts), .rows ts (clampAt ((ss.length : Int) - 1) i 0 X)])) (fun t _ => ss.length - (intOf t).toNat)
  case atStart => exact ⟨0, rfl, Nat.zero_le _, HM⟩
  case round =>
   clear HM
   obtain ⟨i, rfl, hi, hM⟩ := hrel
   have k1 : wr.cell? ⟨bc, 1, none⟩ = some (.slice (some ⟨bS, 0, none⟩) ss.length cS) := hM.out.cell (k := 0) (j := 1) rfl rfl
   by_cases hlt : i < ss.length
   ·have hlt' : (i : Int) < ss.length := by omega
    have HLT := Aside0.mk hlt
    have hll : (X.getD i []).length ≤ 9223372036854775807 := by
     have h1 := (hM.out.rows (k := 2) rfl).row i (by have := HTS.out; omega)
     rw [clampAt_get] at h1
     rcases h1.2 with ⟨_, h0⟩ | ⟨_, cap, _, _, _, _, h4, h5, _⟩
     ·simp only [List.length_mapIdx] at h0; omega
     ·simp only [List.length_mapIdx] at h4; unfold maxLen at h5; omega
    go_wp2
    go_loopw [7] (fun t wr => ∃ j : Nat, t = .int .i64 j ∧ j ≤ (X.getD i []).length ∧ Aside0 (Mem w wr R [.blk bc (.cells #[.slice A g.length cg, .slice (some ⟨bS, 0, none⟩) ss.length cS, vF, vU, .bool cF.bad] 124 (0, 0)), .row (.slice (some ⟨bS, 0, none⟩) ss.length cS) 77 3 ss.length (recs (ss.map Stp.cells) ts), .rows ts (clampAt ((ss.length : Int) - 1) i j X)])) (fun t _ => (X.getD i []).length - (intOf t).toNat)
    case atStart => exact ⟨0, rfl, Nat.zero_le _, hM⟩
    case round =>
     clear hM k1
     obtain ⟨j, rfl, hj, hM⟩ := hrel
     obtain ⟨w8, z8, M8⟩ := hM.out.drew
     have hget : (clampAt ((ss.length : Int) - 1) i j X).getD i [] = (X.getD i []).mapIdx fun b x => if b < j then min x ((ss.length : Int) - 1) else x := clampAt_get _ _ _ _
     have hgl : ((clampAt ((ss.length : Int) - 1) i j X).getD i []).length = (X.getD i []).length := by rw [hget]; simp
     obtain ⟨Ai, ni, hti, hrow⟩ := M8.rowsAt (k := 2) (i := i) rfl (by rw [clampAt_length, HXL.out]; exact HLT.out)
     rw [hgl] at hti hrow
     obtain ⟨bS', cS', e, _, hcell⟩ := M8.rowForm (k := 1) rfl (by have := HLT.out; omega)
     simp only [Value.slice.injEq, Option.some.injEq, Addr.mk.injEq, and_true, true_and] at e
     obtain ⟨rfl, rfl⟩ := e
     have r2 : w8.cell? ⟨bS, i * 3 + 2, none⟩ = some (.slice Ai (X.getD i []).length ni) := hcell _ _ ((HX.out i HLT.out 2 (Nat.le_refl _)).trans (by
      have h1 : ((ss.map Stp.cells).getD i []).length = 2 := by
       simp [List.getD_eq_getElem?_getD, HLT.out, Stp.cells]
      rw [List.getElem?_append_right (by omega), h1, hti]; rfl))
     have r2' : wr.cell? ⟨bS, i * 3 + 2, none⟩ = some (.slice Ai (X.getD i []).length ni) := by rw [← z8] at r2; exact r2
     have k1 : wr.cell? ⟨bc, 1, none⟩ = some (.slice (some ⟨bS, 0, none⟩) ss.length cS) := hM.out.cell (k := 0) (j := 1) rfl rfl
     have k1' : w8.cell? ⟨bc, 1, none⟩ = some (.slice (some ⟨bS, 0, none⟩) ss.length cS) := M8.cell (k := 0) (j := 1) rfl rfl
     by_cases hjl : j < (X.getD i []).length
     ·obtain ⟨bi, rfl, hrw⟩ := hrow (by omega)
      obtain ⟨q1, q2⟩ := hrw j hjl
      have hx : ((clampAt ((ss.length : Int) - 1) i j X).getD i []).getD j 0 = (X.getD i []).getD j 0 := by
       rw [hget]
       simp [List.getD_eq_getElem?_getD, List.getElem?_mapIdx]
      rw [hx] at q1
      obtain ⟨x, hxx⟩ : ∃ x, x = (X.getD i []).getD j 0 := ⟨_, rfl⟩
      rw [← hxx] at q1
      obtain ⟨w9, z9, M9⟩ := M8.rowsPut (k := 2) (i := i) (j := j) (b := bi) (n := ni) rfl (by rw [clampAt_length, HXL.out]; exact HLT.out) (by rw [hgl]; exact hti) (min x ((ss.length : Int) - 1))
      have M10 : Mem w w9 R [.blk bc (.cells #[.slice A g.length cg, .slice (some ⟨bS, 0, none⟩) ss.length cS, vF, vU, .bool cF.bad] 124 (0, 0)), .row (.slice (some ⟨bS, 0, none⟩) ss.length cS) 77 3 ss.length (recs (ss.map Stp.cells) ts), .rows ts (clampAt ((ss.length : Int) - 1) i (j + 1) X)] := by
       have := clampAt_step ((ss.length : Int) - 1) i j X hjl
       rw [← this, ← hxx]
       exact M9
      have M10 := Aside0.mk M10
      have HJL := Aside0.mk hjl
      have hjl' : (j : Int) < (X.getD i []).length := by omega
      have hw1 : IntKind.i64.wrap ((ss.length : Int) - 1) = (ss.length : Int) - 1 := IntWalk.i64_in _ (by omega)
      clear hget hgl hti hrow hrw hcell hx hxx M8 M9 hM
      go_wp2_with (first | (rw [z8]) | (refine wp_region_txt (fun _ => True) [] (by kernel_rfl) (by kernel_rfl) ?_))
      iterate 28 (first | (with_reducible refine wpT_nil ?_) | (refine wpT_W (v := ?_) trivial (by decide) (wanted_none rfl) (fun _ hS_ => ?_) ?_; rotate_left; (focus ((try dsimp only at hS_); go_simp; rfl)); (simp only [Act.put, List.setIfInBounds_toArray, List.set_cons_zero, List.set_cons_succ])) | (refine wpT_R (v := ?_) trivial (by decide) (wanted_none rfl) ?_ ?_; rotate_left; (focus (go_simp; rfl)); (simp only [Act.put, List.setIfInBounds_toArray, List.set_cons_zero, List.set_cons_succ])) | (refine wpT_A (v := ?_) (ob := ?_) trivial (by decide) (wanted_none rfl) ?_ ?_ ?_; rotate_left 2; (focus (go_simp; first | (constructor <;> rfl) | rfl)); (focus (exact trivial)); (simp only [Act.put, List.setIfInBounds_toArray, List.set_cons_zero, List.set_cons_succ])))
      (refine wpT_L trivial (by decide) (wanted_none rfl) (fun K_ hK_ => ?_); go_simp; refine hK_ _ _ trivial ?_; clear hK_)
      refine wpT_nil ?_
      go_wp2
      go_roundw
      case rel => exact ⟨j + 1, by go_num, by have := HJL.out; omega, M10⟩
      case measure => have := HJL.out; simp [intOf]; omega
     ·obtain rfl : j = (X.getD i []).length := by omega
      have M11 := Aside0.mk (show Mem w wr R [.blk bc (.cells #[.slice A g.length cg, .slice (some ⟨bS, 0, none⟩) ss.length cS, vF, vU, .bool cF.bad] 124 (0, 0)), .row (.slice (some ⟨bS, 0, none⟩) ss.length cS) 77 3 ss.length (recs (ss.map Stp.cells) ts), .rows ts (clampAt ((ss.length : Int) - 1) (i + 1) 0 X)] by rw [← clampAt_end]; exact hM.out)
      clear hget hgl hti hrow hcell M8 hM
      go_wp2
      go_roundw
      case rel => exact ⟨i + 1, by go_num, by have := HLT.out; omega, M11⟩
      case measure => have := HLT.out; simp [intOf]; omega
   ·obtain rfl : i = ss.length := by omega
    go_wp2
    go_ret
    refine ⟨_, ts, rfl, ?_⟩
    rw [HCOMP.out, ← withTos_clamp, ← HXE.out]
    unfold stepsOwn
    rw [withTos_length, withTos_cells, withTos_tos _ _ (by rw [clampAt_length, HXL.out])]
    have h0 := hM.out
    rw [← List.append_nil R] at h0
    exact (Mem.sub (F' := R) h0).lose (k := 0) rfl
 ·go_ret
  refine ⟨nilS, [], rfl, ?_⟩
  have : compileF g ⟨kind, node, label, kids⟩ = [] := by
   unfold compileF
   simp only []
   rw [← HCF.out, if_pos HBD.out.symm]
  rw [this]
  exact (((Mem.start w).below M5.out.hb).nilrow 77 3).norows
end Go.Proofs.Ytfiiihpdekppiaa
end
section
namespace Go.Proofs.Ytfiiihpdekppiaa
open Go.RowKit Go.Proofs Go.Proofs.YtfiiihpdekppiaaW.PrintWords
open PShapeReducible (S31 S77 k77 rd_T77 vellumref12_Next.f vellumref06_Valid.f)
def nx (ss : List S77) (a : Int) : Option Int := vellumref12_Next.f (ss.length + 2) ss a
def rTos (ss : List S77) (row : List Int) : Nat → List Int → List Int → Option (Option (List Int))
 | _, [], st => some (some st)
 | j, t :: ts, st => (nx ss t).bind fun m =>
  if m < 0 then some none
  else if m < ss.length ∧ j < row.length ∧ st.length < 1000000000 then
   if (rd_T77 ss m).f1 ≠ row.getD j 0 then some none else rTos ss row (j + 1) ts (m :: st)
  else none
def rChk (ss : List S77) (g : List (List Int)) : Nat → List Bool → List Int → Option Bool
 | 0, _, _ => none
 | _ + 1, _, [] => some true
 | k + 1, seen, n :: st =>
  if 0 ≤ n ∧ n < ss.length then
   if seen.getD n.toNat false = true then rChk ss g k seen st
   else if 0 ≤ (rd_T77 ss n).f1 ∧ (rd_T77 ss n).f1 < g.length then
    (rTos ss (g.getD (rd_T77 ss n).f1.toNat []) 0 (rd_T77 ss n).f2 st).bind fun r =>
     match r with
     | none => some false
     | some st' => rChk ss g k (seen.set n.toNat true) st'
   else none
  else none
def rCheckS (ss : List S77) (g : List (List Int)) (k : Nat) : Option Bool :=
 if ss.length = 0 then some false
 else (nx ss 0).bind fun f =>
  if f < 0 then some false
  else if f < ss.length then (if (rd_T77 ss f).f1 ≠ 0 then some false else rChk ss g k (List.replicate ss.length false) [f])
  else none
def RefValidIs (g : List (List Int)) (b : Bool) : Prop := ∃ k, vellumref06_Valid.f k g = some b
def RefCheckIs (s : S31) (g : List (List Int)) (b : Bool) : Prop :=
 (RefValidIs g false ∧ b = false) ∨ (RefValidIs g true ∧ g.length ≤ 1000000000 ∧ szL s.f3 ≤ 100000000 ∧ ∃ k, rCheckS ((compileF g s).map Stp.s77) g k = some b)
def modI (a m : Int) : Int := Int.tmod (wrap64 (Int.tmod a m + m)) m
end Go.Proofs.Ytfiiihpdekppiaa
end
