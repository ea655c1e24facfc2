/- A part of the proof that vellumlaw12.ShapeErrors is true for every input: walks of functions that the row reaches and plain laws that they need. Conditions: none. Joined by merge.py out of PShapeReduciblex0 S7 T7 T1 S2 S3; a part that began as a print is named P or W there and is trimmed. -/
import Derived.Test.YtfiiihpdekppiaaE1
import Derived.Test.YtfiiihpdekppiaaE2
import Derived.Test.YtfiiihpdekppiaaE3
import Derived.Test.YtfiiihpdekppiaaProg
import Derived.Below
import Derived.Deep.Draws
import Derived.Deep.AppendLies
import Derived.Maps.AppendAt
import Derived.OwnWalk
import Derived.Laws.BytesArg
import Derived.Laws.MakeOwn
import Derived.Laws.OwnMore
import Derived.Deep.OwnRows
import Derived.Tactics
import Derived.Lib.ConvBytes
import Derived.Laws.Slices
import Derived.WalkKit
import Derived.KernelRfl
import Derived.RowKit3
import Derived.Deep.LoopGhost
import Derived.Deep.QuietTactic
import Derived.BigQuiet
import Derived.WideLaws
import Derived.Deep.DeepCutAuto
import Derived.Deep.CutBlock
import Derived.Deep.RegionHeld3
import Derived.Laws.Rows
import Derived.Lib.AppendStr
import Derived.ArgAppend
import Derived.Laws.IdiomCopy
import Derived.OrdersHeld
import Derived.Laws.BitsLemmas
import Derived.RowKit
import Derived.Laws.StructEq
set_option linter.unusedVariables false
set_option linter.unusedSimpArgs false
section
namespace Go.Proofs.Ytfiiihpdekppiaa.PShapeReducible
open Go.RowKit Go.Proofs.YtfiiihpdekppiaaW.PrintWords Go.Proofs.YtfiiihpdekppiaaW.PrintLast Go.Proofs.YtfiiihpdekppiaaW.PrintMore
attribute [local go_sem] max2_int min2_int max_two min_two max_three min_three max_four min_four
set_option linter.unusedVariables false
set_option linter.unusedSimpArgs false
def errW : Option Int → Value
 | none => .nilIface
 | some c => .iface 0 (.int .i64 c)
theorem errW_none : errW none = .nilIface := rfl
theorem errW_some (c : Int) : errW (some c) = .iface 0 (.int .i64 c) := rfl
theorem info3 : (Try.prog.info? 3).map (fun i => (i.zero, i.size, i.bytes)) = some (some (.int .i64 0), 1, 8) := by kernel_rfl
def rd_L1 (xs : List (List Int)) (i : Int) : (List Int) := xs.getD i.toNat ([] : List Int)
theorem at_L1 {w : World} {A : Option Addr} {n : Nat} {xs : List (List Int)} (h : Kd.C (Kd.slice 3 (Kd.int .i64)) w A n xs) (i : Int) (h0 : 0 ≤ i) (h1 : i < n) : ∃ ad A0 c0, A = some ad ∧ w.cell? (ad.add i.toNat) = some (.slice A0 (rd_L1 xs i).length c0) ∧ (rd_L1 xs i).length ≤ c0 ∧ (Kd.int .i64).C w A0 (rd_L1 xs i).length (rd_L1 xs i) := by
 obtain ⟨ad, c, e, _, hK, hc0⟩ := Kd.C_get h ([] : List Int) i h0 h1
 have hc : ∀ j u, c[j]? = some u → w.cell? (ad.add (i.toNat * 1 + j)) = some u := hc0
 obtain ⟨A0, c0, rfl, l0, g0⟩ := hK
 exact ⟨ad, A0, c0, e, by have hq := hc 0 _ rfl; rwa [Nat.mul_one, Nat.add_zero] at hq, l0, g0⟩
structure S31 where
 f0 : Int
 f1 : Int
 f2 : Int
 f3 : (List S31)
def z31 : S31 := ⟨(0 : Int), (0 : Int), (0 : Int), ([] : List S31)⟩
def F31 (d : Kd S31) : Kd S31 := Kd.iso (Kd.pair (Kd.int .i64) (Kd.pair (Kd.int .i64) (Kd.pair (Kd.int .i64) (Kd.slice 31 d)))) (fun x : S31 => (x.f0, x.f1, x.f2, x.f3))
theorem mono31 : Kd.Mono F31 := Kd.mono_iso _ (Kd.mono_pair (Kd.mono_const _) (Kd.mono_pair (Kd.mono_const _) (Kd.mono_pair (Kd.mono_const _) (Kd.mono_slice 31 Kd.mono_id))))
theorem sub31 : Kd.Sub F31 [31] := Kd.sub_iso _ (Kd.sub_pair (Kd.sub_const _ (by decide)) (Kd.sub_pair (Kd.sub_const _ (by decide)) (Kd.sub_pair (Kd.sub_const _ (by decide)) (Kd.sub_slice 31 (by decide) Kd.sub_id))))
theorem sz31 : ∀ n, (Kd.upto F31 4 [31] n).sz = 4 := Kd.upto_sz (fun _ => rfl)
def k31 : Kd S31 := Kd.fix F31 4 [31] sz31 (Kd.upto_E sub31)
theorem k31_open {w : World} {x : S31} {cs : List Value} (h : k31.K w x cs) : ∃ A3 c3, cs = [.int .i64 x.f0, .int .i64 x.f1, .int .i64 x.f2, .slice A3 x.f3.length c3] ∧ x.f3.length ≤ c3 ∧ k31.C w A3 x.f3.length x.f3 := by
 obtain ⟨n, h⟩ := h
 cases n with
 | zero => exact h.elim
 | succ n =>
  obtain ⟨_, _, rfl, rfl, ⟨_, _, rfl, rfl, ⟨_, _, rfl, rfl, ⟨A3, c3, rfl, l3, g3⟩⟩⟩⟩ := h
  exact ⟨A3, c3, rfl, l3, Kd.fix_C g3⟩
theorem k31_mk (w : World) (x : S31) {A3 : Option Addr} {c3 : Nat} (l3 : x.f3.length ≤ c3) (g3 : k31.C w A3 x.f3.length x.f3) : k31.K w x [.int .i64 x.f0, .int .i64 x.f1, .int .i64 x.f2, .slice A3 x.f3.length c3] := by
 obtain ⟨n3, q3⟩ := Kd.fix_C_back mono31 g3
 have r3 := Kd.upto_C_le mono31 sz31 (show n3 ≤ n3 by omega) q3
 exact ⟨n3 + 1, ⟨[.int .i64 x.f0], [.int .i64 x.f1, .int .i64 x.f2, .slice A3 x.f3.length c3], rfl, rfl, ⟨[.int .i64 x.f1], [.int .i64 x.f2, .slice A3 x.f3.length c3], rfl, rfl, ⟨[.int .i64 x.f2], [.slice A3 x.f3.length c3], rfl, rfl, ⟨A3, c3, rfl, l3, r3⟩⟩⟩⟩⟩
theorem k31_mkF (W : World) (ok : Nat → Prop) (x : S31) {A3 : Option Addr} {c3 : Nat} (l3 : x.f3.length ≤ c3) (g3 : Kd.F k31 W ok A3 x.f3.length x.f3) : Kd.FK k31 W ok x [.int .i64 x.f0, .int .i64 x.f1, .int .i64 x.f2, .slice A3 x.f3.length c3] := fun W2 hW => k31_mk W2 x l3 (g3 W2 hW)
def rd_T31 (xs : List S31) (i : Int) : S31 := xs.getD i.toNat z31
theorem at_T31 {w : World} {A : Option Addr} {n : Nat} {xs : List S31} (h : Kd.C k31 w A n xs) (i : Int) (h0 : 0 ≤ i) (h1 : i < n) : ∃ ad A3 c3, A = some ad ∧ w.cell? (ad.add (i.toNat * 4)) = some (.int .i64 (rd_T31 xs i).f0) ∧ w.cell? ⟨(ad.add (i.toNat * 4)).block, (ad.add (i.toNat * 4)).off + 1, none⟩ = some (.int .i64 (rd_T31 xs i).f1) ∧ w.cell? ⟨(ad.add (i.toNat * 4)).block, (ad.add (i.toNat * 4)).off + 2, none⟩ = some (.int .i64 (rd_T31 xs i).f2) ∧ w.cell? ⟨(ad.add (i.toNat * 4)).block, (ad.add (i.toNat * 4)).off + 3, none⟩ = some (.slice A3 (rd_T31 xs i).f3.length c3) ∧ (rd_T31 xs i).f3.length ≤ c3 ∧ k31.C w A3 (rd_T31 xs i).f3.length (rd_T31 xs i).f3 := by
 obtain ⟨ad, c, e, _, hK, hc0⟩ := Kd.C_get h z31 i h0 h1
 have hc : ∀ j u, c[j]? = some u → w.cell? (ad.add (i.toNat * 4 + j)) = some u := hc0
 obtain ⟨A3, c3, rfl, l3, g3⟩ := k31_open hK
 exact ⟨ad, A3, c3, e, hc 0 _ rfl, by rw [← add_field _ _ 1 (by omega)]; exact hc 1 _ rfl, by rw [← add_field _ _ 2 (by omega)]; exact hc 2 _ rfl, by rw [← add_field _ _ 3 (by omega)]; exact hc 3 _ rfl, l3, g3⟩
structure S141 where
 f0 : Int
 f1 : Int
 f2 : Bool
 f3 : (List Int)
def k141 : Kd S141 := Kd.iso (Kd.pair (Kd.int .i64) (Kd.pair (Kd.int .i64) (Kd.pair Kd.bool (Kd.slice 3 (Kd.int .i64))))) (fun x : S141 => (x.f0, x.f1, x.f2, x.f3))
structure S77 where
 f0 : Int
 f1 : Int
 f2 : (List Int)
def z77 : S77 := ⟨(0 : Int), (0 : Int), ([] : List Int)⟩
def k77 : Kd S77 := Kd.iso (Kd.pair (Kd.int .i64) (Kd.pair (Kd.int .i64) (Kd.slice 3 (Kd.int .i64)))) (fun x : S77 => (x.f0, x.f1, x.f2))
theorem k77_open {w : World} {x : S77} {cs : List Value} (h : k77.K w x cs) : ∃ A2 c2, cs = [.int .i64 x.f0, .int .i64 x.f1, .slice A2 x.f2.length c2] ∧ x.f2.length ≤ c2 ∧ (Kd.int .i64).C w A2 x.f2.length x.f2 := by
 obtain ⟨_, _, rfl, rfl, ⟨_, _, rfl, rfl, ⟨A2, c2, rfl, l2, g2⟩⟩⟩ := h
 exact ⟨A2, c2, rfl, l2, g2⟩
theorem k77_mk (w : World) (x : S77) {A2 : Option Addr} {c2 : Nat} (l2 : x.f2.length ≤ c2) (g2 : (Kd.int .i64).C w A2 x.f2.length x.f2) : k77.K w x [.int .i64 x.f0, .int .i64 x.f1, .slice A2 x.f2.length c2] := ⟨[.int .i64 x.f0], [.int .i64 x.f1, .slice A2 x.f2.length c2], rfl, rfl, ⟨[.int .i64 x.f1], [.slice A2 x.f2.length c2], rfl, rfl, ⟨A2, c2, rfl, l2, g2⟩⟩⟩
def rd_T77 (xs : List S77) (i : Int) : S77 := xs.getD i.toNat z77
theorem at_T77 {w : World} {A : Option Addr} {n : Nat} {xs : List S77} (h : Kd.C k77 w A n xs) (i : Int) (h0 : 0 ≤ i) (h1 : i < n) : ∃ ad A2 c2, A = some ad ∧ w.cell? (ad.add (i.toNat * 3)) = some (.int .i64 (rd_T77 xs i).f0) ∧ w.cell? ⟨(ad.add (i.toNat * 3)).block, (ad.add (i.toNat * 3)).off + 1, none⟩ = some (.int .i64 (rd_T77 xs i).f1) ∧ w.cell? ⟨(ad.add (i.toNat * 3)).block, (ad.add (i.toNat * 3)).off + 2, none⟩ = some (.slice A2 (rd_T77 xs i).f2.length c2) ∧ (rd_T77 xs i).f2.length ≤ c2 ∧ (Kd.int .i64).C w A2 (rd_T77 xs i).f2.length (rd_T77 xs i).f2 := by
 obtain ⟨ad, c, e, _, hK, hc0⟩ := Kd.C_get h z77 i h0 h1
 have hc : ∀ j u, c[j]? = some u → w.cell? (ad.add (i.toNat * 3 + j)) = some u := hc0
 obtain ⟨A2, c2, rfl, l2, g2⟩ := k77_open hK
 exact ⟨ad, A2, c2, e, hc 0 _ rfl, by rw [← add_field _ _ 1 (by omega)]; exact hc 1 _ rfl, by rw [← add_field _ _ 2 (by omega)]; exact hc 2 _ rfl, l2, g2⟩
structure S49 where
 f0 : Int
 f1 : (List Int)
end Go.Proofs.Ytfiiihpdekppiaa.PShapeReducible
end
section
namespace Go.Proofs.Ytfiiihpdekppiaa
open PShapeReducible (S31)
def kidsOf (kids : List (Int × List Int)) (n : Int) : List Int := (mget kids n).getD []
structure Bd where
 succ : List (List Int)
 node : List Int
 att : List (Int × Int)
 kids : List (Int × List Int)
 merged : List (Int × Bool)
structure Bs where
 loops : List (Int × Int)
 blocks : List (Int × Int)
 n : Nat
inductive Job where
 | tree (n : Int)
 | within (n : Int) (behind : List Int)
 | branch (n m : Int)
def brs (f : Int → Bs → Option (S31 × Bs)) : List Int → Bs → Option (List S31 × Bs)
 | [], s => some ([], s)
 | m :: l, s => (f m s).bind fun q => (brs f l q.2).bind fun p => some (q.1 :: p.1, p.2)
def bF (B : Bd) : Nat → Job → Bs → Option (S31 × Bs)
 | 0, _, _ => none
 | k + 1, .tree n, s =>
  match mget s.loops n with
  | none => bF B k (.within n (kidsOf B.kids n)) s
  | some _ =>
   if s.n ≤ 1000000000 then (bF B k (.within n (kidsOf B.kids n)) { s with loops := mput s.loops n s.n, n := s.n + 1 }).bind fun q => some (⟨3, 0, s.n, [q.1]⟩, q.2)
   else none
 | k + 1, .within n (x :: r), s =>
  if s.n ≤ 1000000000 ∧ r.length ≤ 1000000 then
   (bF B k (.within n r) { s with blocks := mput s.blocks x s.n, n := s.n + 1 }).bind fun q =>
    (bF B k (.tree x) q.2).bind fun p => some (⟨1, 0, 0, [⟨4, 0, s.n, [q.1]⟩, p.1]⟩, p.2)
  else none
 | k + 1, .within n [], s =>
  if (0 ≤ n ∧ n < B.succ.length) ∧ n < B.node.length ∧ (B.succ.getD n.toNat []).length ≤ 1000000 then
   (brs (fun m s => bF B k (.branch n m) s) (B.succ.getD n.toNat []) s).bind fun q => some (⟨2, B.node.getD n.toNat 0, 0, q.1⟩, q.2)
  else none
 | k + 1, .branch n m, s =>
  if mI0 B.att m ≤ mI0 B.att n then some (⟨6, 0, mI0 s.loops m, []⟩, s)
  else if mB0 B.merged m = true then some (⟨5, 0, mI0 s.blocks m, []⟩, s)
  else bF B k (.tree m) s
def posF : List Int → Nat → List (Int × Int) → List (Int × Int)
 | [], _, m => m
 | x :: r, k, m => posF r (k + 1) (mput m x k)
def edgeF (att : List (Int × Int)) (x : Int) : List Int → List (Int × Int) × List (Int × Int) → Option (List (Int × Int) × List (Int × Int))
 | [], s => some s
 | y :: l, s =>
  if mI0 att y ≤ mI0 att x then edgeF att x l (mput s.1 y (-1), s.2)
  else if 0 ≤ mI0 s.2 y ∧ mI0 s.2 y ≤ 1000000000 then edgeF att x l (s.1, mput s.2 y (mI0 s.2 y + 1))
  else none
def edgesF (succ : List (List Int)) (att : List (Int × Int)) : List Int → List (Int × Int) × List (Int × Int) → Option (List (Int × Int) × List (Int × Int))
 | [], s => some s
 | x :: r, s => if (0 ≤ x ∧ x < succ.length) ∧ (succ.getD x.toNat []).length ≤ 1000000000 then (edgeF att x (succ.getD x.toNat []) s).bind fun s' => edgesF succ att r s' else none
def mergeF (edges : List (Int × Int)) (dom : List Int) : List Int → List (Int × Bool) × List (Int × List Int) → List (Int × Bool) × List (Int × List Int)
 | [], s => s
 | x :: r, s => mergeF edges dom r (if mI0 edges x > 1 then (mput s.1 x true, mput s.2 (dom.getD x.toNat 0) (kidsOf s.2 (dom.getD x.toNat 0) ++ [x])) else s)
end Go.Proofs.Ytfiiihpdekppiaa
end
section
namespace Go.Proofs.Ytfiiihpdekppiaa
def insI (x : Int) : List Int → List Int
 | [] => [x]
 | y :: l => if x ≤ y then x :: y :: l else y :: insI x l
def isort (xs : List Int) : List Int := xs.foldr insI []
theorem insI_perm (x : Int) : ∀ l, (insI x l).Perm (x :: l)
 | [] => List.Perm.refl _
 | y :: l => by
  unfold insI
  split
  ·exact List.Perm.refl _
  ·exact ((insI_perm x l).cons y).trans (List.Perm.swap x y l)
theorem insI_sorted (x : Int) : ∀ l, l.Pairwise (· ≤ ·) → (insI x l).Pairwise (· ≤ ·)
 | [], _ => by simp [insI]
 | y :: l, h => by
  obtain ⟨h1, h2⟩ := List.pairwise_cons.1 h
  unfold insI
  split
  ·next hxy =>
   refine List.pairwise_cons.2 ⟨fun z hz => ?_, h⟩
   rcases List.mem_cons.1 hz with rfl | hz
   ·exact hxy
   ·have := h1 z hz; omega
  ·next hxy =>
   refine List.pairwise_cons.2 ⟨fun z hz => ?_, insI_sorted x l h2⟩
   rcases List.mem_cons.1 ((insI_perm x l).mem_iff.1 hz) with rfl | hz
   ·omega
   ·exact h1 z hz
theorem isort_perm : ∀ xs, (isort xs).Perm xs
 | [] => List.Perm.refl _
 | x :: xs => (insI_perm x _).trans ((isort_perm xs).cons x)
theorem isort_sorted : ∀ xs, (isort xs).Pairwise (· ≤ ·)
 | [] => List.Pairwise.nil
 | x :: xs => insI_sorted x _ (isort_sorted xs)
theorem sortI_perm' (xs : List Int) : (sortI xs).Perm xs := List.mergeSort_perm _ _
theorem sortI_sorted (xs : List Int) : (sortI xs).Pairwise (· ≤ ·) := by
 have := List.pairwise_mergeSort (le := fun (x y : Int) => decide (x ≤ y)) (fun a b c h1 h2 => by simp at *; omega) (fun a b => by simp; omega) xs
 exact this.imp (fun h => by simpa using h)
theorem sortI_isort : sortI = isort := by
 funext xs
 exact List.Perm.eq_of_pairwise (le := fun x y : Int => x ≤ y) (fun a b _ _ h1 h2 => Int.le_antisymm h1 h2) (sortI_sorted xs) (isort_sorted xs) ((sortI_perm' xs).trans (isort_perm xs).symm)
section
variable (srt : List Int → List Int)
def tarVisitG (succ : List (List Int)) (set : List (Int × Bool)) : Nat → Tar → Int → Option Tar
 | 0, _, _ => none
 | k + 1, s, n =>
  if (0 ≤ n ∧ n < succ.length) ∧ s.st.length ≤ 1000000 then
   (tarKids set (tarVisitG succ set k) n (succ.getD n.toNat []) { idx := mput s.idx n s.idx.length, low := mput s.low n s.idx.length, st := s.st ++ [n], on := mput s.on n true, out := s.out }).bind fun s =>
    if mI0 s.low n = mI0 s.idx n then
     if s.st.idxOf n < s.st.length ∧ s.st.length ≤ 1000000 ∧ s.out.length ≤ 1000000 then
      some { s with st := s.st.take (s.st.idxOf n), on := (s.st.drop (s.st.idxOf n)).foldl (fun m x => mput m x false) s.on, out := if 1 < (s.st.drop (s.st.idxOf n)).length ∨ (succ.getD n.toNat []).contains n = true then s.out ++ [srt (s.st.drop (s.st.idxOf n))] else s.out }
     else none
    else some s
  else none
def tarAllG (succ : List (List Int)) (set : List (Int × Bool)) (k : Nat) : List Int → Tar → Option Tar
 | [], s => some s
 | n :: l, s => if mget s.idx n = none then (tarVisitG srt succ set k s n).bind fun s' => tarAllG succ set k l s' else tarAllG succ set k l s
def partsG (k : Nat) (succ : List (List Int)) (set : List (Int × Bool)) : Option (List (List Int)) :=
 (tarAllG srt succ set k (srt (set.map (·.1))) { idx := [], low := [], st := [], on := [], out := [] }).map (·.out)
def copyG (s : Sp) (nodes inside : List (Int × Bool)) (es : List Int) : Option (Option (Sp × List (Int × Bool))) :=
 if nodes.length ≤ 1000000 ∧ 0 ≤ s.copies ∧ s.copies ≤ 1000000000 ∧ es.length ≤ 1000000 then
  if s.budget < s.copies + nodes.length then some none
  else (copyAdd s.succ.length (srt (nodes.map (·.1))) 0 [] [] s.succ s.node).bind fun q =>
   if q.2.2.1.length ≤ 1000000 ∧ (∀ l ∈ q.2.2.1, l.length ≤ 1000000000) then
    some (some ({ succ := redAll q.1 inside es s.succ.length q.2.2.1, node := q.2.2.2, copies := s.copies + nodes.length, budget := s.budget }, q.2.1))
   else none
 else none
def splitPartsG (sp : Sp → List (Int × Bool) → Option (Option Sp)) (k : Nat) : List (List Int) → Sp → Option (Option Sp)
 | [], s => some (some s)
 | part :: ps, s =>
  if part.length ≤ 1000000 ∧ s.succ.length ≤ 1000000 ∧ (∀ l ∈ s.succ, l.length ≤ 1000000000) then
   (entriesF k s.succ part (setF (-1) part [])).bind fun es =>
    match es with
    | [] => splitPartsG sp k ps s
    | head :: others =>
     (match others with
      | [] => some (some s)
      | o :: os =>
       (reachLoop s.succ (setF head part []) k [] (o :: os).reverse).bind fun reach =>
        (copyG srt s reach (setF (-1) part []) (o :: os)).bind fun c =>
         match c with
         | none => some none
         | some (s1, copied) => sp s1 copied).bind fun r =>
      match r with
      | none => some none
      | some s1 =>
       (sp s1 (setF head part [])).bind fun r2 =>
        match r2 with
        | none => some none
        | some s2 => splitPartsG sp k ps s2
  else none
def splitG : Nat → Sp → List (Int × Bool) → Option (Option Sp)
 | 0, _, _ => none
 | k + 1, s, nodes =>
  if nodes.length ≤ 1000000 ∧ s.succ.length ≤ 1000000 ∧ (∀ l ∈ s.succ, l.length ≤ 1000000000) then
   (partsG srt k s.succ nodes).bind fun ps => if ps.length ≤ 1000000 then splitPartsG srt (splitG k) k ps s else none
  else none
end
theorem tarVisitG_eq (succ : List (List Int)) (set : List (Int × Bool)) : ∀ k, tarVisitG sortI succ set k = tarVisit succ set k
 | 0 => rfl
 | k + 1 => by
  funext s n
  unfold tarVisitG tarVisit
  rw [tarVisitG_eq succ set k]
theorem tarAllG_eq (succ : List (List Int)) (set : List (Int × Bool)) (k : Nat) : ∀ l s, tarAllG sortI succ set k l s = tarAll succ set k l s
 | [], _ => rfl
 | n :: l, s => by
  unfold tarAllG tarAll
  rw [tarVisitG_eq]
  simp only [tarAllG_eq succ set k l]
theorem partsG_eq (k : Nat) (succ : List (List Int)) (set : List (Int × Bool)) : partsG sortI k succ set = partsF k succ set := by
 unfold partsG partsF
 rw [tarAllG_eq]
theorem copyG_eq (s : Sp) (nodes inside : List (Int × Bool)) (es : List Int) : copyG sortI s nodes inside es = copyF s nodes inside es := rfl
theorem splitPartsG_eq (sp : Sp → List (Int × Bool) → Option (Option Sp)) (k : Nat) : ∀ ps s, splitPartsG sortI sp k ps s = splitParts sp k ps s
 | [], _ => rfl
 | p :: ps, s => by
  unfold splitPartsG splitParts
  simp only [splitPartsG_eq sp k ps, copyG_eq]
  rfl
theorem splitG_eq : ∀ k, splitG sortI k = splitF k
 | 0 => rfl
 | k + 1 => by
  funext s nodes
  unfold splitG splitF
  simp only [splitG_eq k, partsG_eq, splitPartsG_eq]
theorem split_eval (k : Nat) (s : Sp) (nodes : List (Int × Bool)) : splitF k s nodes = splitG isort k s nodes := by rw [← splitG_eq, sortI_isort]
end Go.Proofs.Ytfiiihpdekppiaa
end
section
namespace Go.Proofs.Ytfiiihpdekppiaa
def succs (g : List (List Int)) (n : Int) : List Int := g.getD n.toNat []
def ValidG (g : List (List Int)) : Prop := ∀ l ∈ g, ∀ s ∈ l, 0 ≤ s ∧ s < g.length
inductive Reach (g : List (List Int)) : Int → Int → Prop
 | refl (a : Int) : Reach g a a
 | step {a b c : Int} : Reach g a b → c ∈ succs g b → Reach g a c
theorem Reach.trans {g : List (List Int)} {a b c : Int} (h1 : Reach g a b) (h2 : Reach g b c) : Reach g a c := by
 induction h2 with
 | refl => exact h1
 | step _ hc ih => exact ih.step hc
theorem succs_mem {g : List (List Int)} (hv : ValidG g) {n s : Int} (h : s ∈ succs g n) : 0 ≤ s ∧ s < g.length := by
 unfold succs at h
 rw [List.getD_eq_getElem?_getD] at h
 cases e : g[n.toNat]? with
 | none => simp [e] at h
 | some l => rw [e] at h; exact hv l (List.mem_of_getElem? e) s h
structure OrdOk (g : List (List Int)) (r : List Int) : Prop where
 rng : ∀ v ∈ r, 0 ≤ v ∧ v < g.length
 nd : r.Nodup
 root : ∃ t, r = 0 :: t
 closed : ∀ u ∈ r, ∀ s ∈ succs g u, s ∈ r
 reach : ∀ v ∈ r, Reach g 0 v
 dfs : ∀ u ∈ r, ∀ s ∈ succs g u, (∃ a b, r = a ++ u :: b ∧ s ∈ b) ∨ Reach g s u
 tree : ∀ v ∈ r, v ≠ 0 → ∃ u, v ∈ succs g u ∧ ∃ a b, r = a ++ v :: b ∧ u ∈ a
structure OI (g : List (List Int)) (seen : List Bool) (st : List (Int × Int)) (acc : List Int) : Prop where
 len : seen.length = g.length
 rng : ∀ v ∈ acc ++ st.map (·.1), 0 ≤ v ∧ v < g.length
 nd : (acc ++ st.map (·.1)).Nodup
 sn : ∀ v : Int, 0 ≤ v → v < g.length → (seen.getD v.toNat false = true ↔ v ∈ acc ++ st.map (·.1))
 ix : ∀ p ∈ st, 0 ≤ p.2 ∧ p.2 ≤ (succs g p.1).length
 fin : ∀ u ∈ acc, ∀ s ∈ succs g u, (∃ a b, acc = a ++ u :: b ∧ s ∈ b) ∨ Reach g s u
 cl : ∀ u ∈ acc, ∀ s ∈ succs g u, s ∈ acc ++ st.map (·.1)
 cur : ∀ a p b, st = a ++ p :: b → ∀ (j : Nat) (s : Int), (j : Int) < p.2 → (succs g p.1)[j]? = some s → s ∈ acc ∨ (Reach g s p.1 ∧ s ∈ st.map (·.1)) ∨ s ∈ a.map (·.1)
 path : ∀ a p b, st = a ++ p :: b → ∀ q ∈ b, Reach g q.1 p.1
 top : ∀ v ∈ acc ++ st.map (·.1), Reach g 0 v
 root : (∃ a i, st = a ++ [(0, i)]) ∨ (st = [] ∧ ∃ r, acc = 0 :: r)
 adj : ∀ a x y b, st = a ++ x :: y :: b → x.1 ∈ succs g y.1
 tr : ∀ v ∈ acc, v ≠ 0 → ∃ u, v ∈ succs g u ∧ ((∃ a b, acc = a ++ v :: b ∧ u ∈ a) ∨ u ∈ st.map (·.1))
def left (g : List (List Int)) (seen : List Bool) (st : List (Int × Int)) : Nat :=
 (st.map fun p => (succs g p.1).length - p.2.toNat + 1).sum + ((List.range g.length).map fun v => if seen.getD v false then 0 else (g.getD v []).length + 2).sum + 1
theorem mem_sum_le {α : Type} : ∀ (l : List α) (h : α → Nat) (v : α), v ∈ l → h v ≤ (l.map h).sum
 | [], _, _, hv => by simp at hv
 | b :: l, h, v, hv => by
  simp only [List.map_cons, List.sum_cons]
  rcases List.mem_cons.1 hv with rfl | hv
  ·omega
  ·have := mem_sum_le l h v hv; omega
theorem sum_set_lt : ∀ (l : List Nat) (f h : Nat → Nat) (v : Nat), v ∈ l → l.Nodup → (∀ x ∈ l, x ≠ v → h x = f x) → (l.map f).sum + h v = (l.map h).sum + f v
 | [], _, _, _, hv, _, _ => by simp at hv
 | a :: l, f, h, v, hv, hn, he => by
  obtain ⟨hn1, hn2⟩ := List.nodup_cons.1 hn
  simp only [List.map_cons, List.sum_cons]
  rcases List.mem_cons.1 hv with rfl | hv
  ·have : l.map f = l.map h := List.map_congr_left fun x hx => (he x (by simp [hx]) (fun e => hn1 (e ▸ hx))).symm
   rw [this]
   omega
  ·have := sum_set_lt l f h v hv hn2 (fun x hx => he x (by simp [hx]))
   have h1 := he a (by simp) (fun e => hn1 (e ▸ hv))
   rw [h1]
   omega
theorem nodup_sub_len {α : Type} [DecidableEq α] : ∀ {l m : List α}, l.Nodup → (∀ x ∈ l, x ∈ m) → l.length ≤ m.length
 | [], _, _, _ => Nat.zero_le _
 | a :: l, m, hn, hs => by
  obtain ⟨h1, h2⟩ := List.nodup_cons.1 hn
  have ha := hs a (by simp)
  have := nodup_sub_len (l := l) (m := m.erase a) h2 (fun x hx => (List.mem_erase_of_ne (fun e => h1 (by rw [← e]; exact hx))).2 (hs x (by simp [hx])))
  rw [List.length_erase_of_mem ha] at this
  have := List.length_pos_of_mem ha
  simp only [List.length_cons]
  omega
theorem nodup_len {l : List Int} {n : Nat} (hn : l.Nodup) (hr : ∀ v ∈ l, 0 ≤ v ∧ v < n) : l.length ≤ n := by
 have := nodup_sub_len (m := (List.range n).map fun (i : Nat) => (i : Int)) hn (fun x hx => by
  have := hr x hx
  exact List.mem_map.2 ⟨x.toNat, by simp; omega, by omega⟩)
 simpa using this
theorem left_push {g : List (List Int)} {seen : List Bool} {n i s : Int} {st : List (Int × Int)} (hl : seen.length = g.length) (hs0 : 0 ≤ s) (hs : s < g.length) (hu : seen.getD s.toNat false = false) (hi0 : 0 ≤ i) (hi : i < (succs g n).length) :
  left g (seen.set s.toNat true) ((s, 0) :: (n, i + 1) :: st) + 1 ≤ left g seen ((n, i) :: st) := by
 unfold left
 have h1 := sum_set_lt (List.range g.length) (fun v => if (seen.set s.toNat true).getD v false then 0 else (g.getD v []).length + 2) (fun v => if seen.getD v false then 0 else (g.getD v []).length + 2) s.toNat (by simp; omega) List.nodup_range (fun x _ hne => by
  have : (seen.set s.toNat true).getD x false = seen.getD x false := by
   simp only [List.getD_eq_getElem?_getD]
   rw [List.getElem?_set_ne (fun e => hne e.symm)]
  simp only [this])
 have h2 : (seen.set s.toNat true).getD s.toNat false = true := by
  rw [List.getD_eq_getElem?_getD, List.getElem?_set_self (by omega)]; rfl
 have h3 := mem_sum_le (List.range g.length) (fun v => if seen.getD v false then 0 else (g.getD v []).length + 2) s.toNat (by simp; omega)
 simp only [h2, hu, if_true, Bool.false_eq_true, if_false] at h1 h3
 simp only [List.map_cons, List.sum_cons, succs] at hi ⊢
 have e1 : (0 : Int).toNat = 0 := rfl
 rw [e1]
 omega
theorem left_next {g : List (List Int)} {seen : List Bool} {n i : Int} {st : List (Int × Int)} (hi0 : 0 ≤ i) (hi : i < (succs g n).length) : left g seen ((n, i + 1) :: st) + 1 ≤ left g seen ((n, i) :: st) := by
 unfold left
 simp only [List.map_cons, List.sum_cons]
 omega
theorem left_pop {g : List (List Int)} {seen : List Bool} {n i : Int} {st : List (Int × Int)} : left g seen st + 1 ≤ left g seen ((n, i) :: st) := by
 unfold left
 simp only [List.map_cons, List.sum_cons]
 omega
theorem OI.next {g : List (List Int)} {seen : List Bool} {n i : Int} {st : List (Int × Int)} {acc : List Int} (h : OI g seen ((n, i) :: st) acc) (hi : i < (succs g n).length) {s : Int} (hs : (succs g n)[i.toNat]? = some s) (hsn : s ∈ acc ++ ((n, i) :: st).map (·.1)) : OI g seen ((n, i + 1) :: st) acc := by
 have hi0 := (h.ix (n, i) (by simp)).1
 refine ⟨h.len, by simpa using h.rng, by simpa using h.nd, by simpa using h.sn, ?_, h.fin, by simpa using h.cl, ?_, ?_, by simpa using h.top, ?_, ?_, by simpa using h.tr⟩
 ·intro p hp
  rcases List.mem_cons.1 hp with rfl | hp
  ·simp only; omega
  ·exact h.ix p (by simp [hp])
 ·intro a p b e j t hj ht
  cases a with
  | nil =>
   simp only [List.nil_append, List.cons.injEq] at e
   obtain ⟨rfl, rfl⟩ := e
   simp only at hj ht
   by_cases hji : (j : Int) < i
   ·have := h.cur [] _ _ rfl j t hji ht
    simpa using this
   ·have : j = i.toNat := by omega
    subst this
    rw [hs] at ht
    injection ht with ht
    subst ht
    simp only [List.map_cons, List.mem_append, List.mem_cons] at hsn
    rcases hsn with hsn | rfl | hsn
    ·exact .inl hsn
    ·exact .inr (.inl ⟨.refl _, by simp⟩)
    ·obtain ⟨q, hq, rfl⟩ := List.mem_map.1 hsn
     exact .inr (.inl ⟨h.path [] _ _ rfl q hq, by simp; exact .inr ⟨_, hq⟩⟩)
  | cons x a =>
   simp only [List.cons_append, List.cons.injEq] at e
   obtain ⟨rfl, rfl⟩ := e
   have := h.cur ((n, i) :: a) p b rfl j t hj ht
   simpa using this
 ·intro a p b e q hq
  cases a with
  | nil =>
   simp only [List.nil_append, List.cons.injEq] at e
   obtain ⟨rfl, rfl⟩ := e
   exact h.path [] (n, i) _ rfl q hq
  | cons x a =>
   simp only [List.cons_append, List.cons.injEq] at e
   obtain ⟨rfl, rfl⟩ := e
   exact h.path ((n, i) :: a) p b rfl q hq
 ·rcases h.root with ⟨a, k, e⟩ | ⟨e, _⟩
  ·left
   cases a with
   | nil => simp only [List.nil_append, List.cons.injEq, Prod.mk.injEq] at e; obtain ⟨⟨rfl, rfl⟩, rfl⟩ := e; exact ⟨[], i + 1, rfl⟩
   | cons x a => simp only [List.cons_append, List.cons.injEq] at e; obtain ⟨rfl, rfl⟩ := e; exact ⟨(n, i + 1) :: a, k, rfl⟩
  ·cases e
 ·intro a x y b e
  cases a with
  | nil =>
   simp only [List.nil_append, List.cons.injEq] at e
   obtain ⟨rfl, rfl⟩ := e
   exact h.adj [] (n, i) y b rfl
  | cons z a =>
   simp only [List.cons_append, List.cons.injEq] at e
   obtain ⟨rfl, rfl⟩ := e
   exact h.adj ((n, i) :: a) x y b rfl
theorem OI.push {g : List (List Int)} (hv : ValidG g) {seen : List Bool} {n i : Int} {st : List (Int × Int)} {acc : List Int} (h : OI g seen ((n, i) :: st) acc) (hi : i < (succs g n).length) {s : Int} (hs : (succs g n)[i.toNat]? = some s) (hsn : seen.getD s.toNat false = false) : OI g (seen.set s.toNat true) ((s, 0) :: (n, i + 1) :: st) acc := by
 have hi0 := (h.ix (n, i) (by simp)).1
 have hmem : s ∈ succs g n := List.mem_of_getElem? hs
 have hsr := succs_mem hv hmem
 have hnot : s ∉ acc ++ ((n, i) :: st).map (·.1) := fun hc => by rw [(h.sn s hsr.1 hsr.2).2 hc] at hsn; cases hsn
 have hV : ∀ v, v ∈ acc ++ ((s, (0 : Int)) :: (n, i + 1) :: st).map (·.1) ↔ v = s ∨ v ∈ acc ++ ((n, i) :: st).map (·.1) := fun v => by
  simp only [List.map_cons, List.mem_append, List.mem_cons]
  constructor
  ·rintro (h | h | h | h) <;> simp [h]
  ·rintro (h | h | h | h) <;> simp [h]
 have hsucc : Reach g n s := (Reach.refl n).step hmem
 refine ⟨by simp [h.len], ?_, ?_, ?_, ?_, h.fin, ?_, ?_, ?_, ?_, ?_, ?_, ?_⟩
 ·intro v hvm
  rcases (hV v).1 hvm with rfl | h'
  ·exact hsr
  ·exact h.rng v h'
 ·have h1 := h.nd
  simp only [List.map_cons] at h1 hnot ⊢
  exact List.perm_middle.nodup_iff.2 (List.nodup_cons.2 ⟨hnot, h1⟩)
 ·intro v h0 h1
  rw [hV, ← h.sn v h0 h1]
  by_cases hvs : v = s
  ·subst hvs
   simp [List.getD_eq_getElem?_getD, List.getElem?_set_self (show v.toNat < seen.length by rw [h.len]; omega)]
  ·rw [List.getD_eq_getElem?_getD, List.getElem?_set_ne (by omega), ← List.getD_eq_getElem?_getD]
   simp [hvs]
 ·intro p hp
  simp only [List.mem_cons] at hp
  rcases hp with rfl | rfl | hp
  ·simp
  ·simp only; omega
  ·exact h.ix p (by simp [hp])
 ·intro u hu t ht
  exact (hV t).2 (.inr (h.cl u hu t ht))
 ·intro a p b e j t hj ht
  cases a with
  | nil =>
   simp only [List.nil_append, List.cons.injEq] at e
   obtain ⟨rfl, rfl⟩ := e
   simp only at hj
   omega
  | cons x a =>
   simp only [List.cons_append, List.cons.injEq] at e
   obtain ⟨rfl, e⟩ := e
   cases a with
   | nil =>
    simp only [List.nil_append, List.cons.injEq] at e
    obtain ⟨rfl, rfl⟩ := e
    simp only at hj ht
    by_cases hji : (j : Int) < i
    ·rcases h.cur [] _ _ rfl j t hji ht with h1 | h1 | h1
     ·exact .inl h1
     ·exact .inr (.inl ⟨h1.1, by have := h1.2; simp at this ⊢; exact .inr this⟩)
     ·simp at h1
    ·have : j = i.toNat := by omega
     subst this
     rw [hs] at ht
     injection ht with ht
     subst ht
     exact .inr (.inr (by simp))
   | cons y a =>
    simp only [List.cons_append, List.cons.injEq] at e
    obtain ⟨rfl, rfl⟩ := e
    rcases h.cur ((n, i) :: a) p b rfl j t hj ht with h1 | h1 | h1
    ·exact .inl h1
    ·exact .inr (.inl ⟨h1.1, by have := h1.2; simp at this ⊢; exact .inr this⟩)
    ·exact .inr (.inr (by simp at h1 ⊢; exact .inr h1))
 ·intro a p b e q hq
  cases a with
  | nil =>
   simp only [List.nil_append, List.cons.injEq] at e
   obtain ⟨rfl, rfl⟩ := e
   rcases List.mem_cons.1 hq with rfl | hq
   ·exact hsucc
   ·exact (h.path [] (n, i) _ rfl q hq).trans hsucc
  | cons x a =>
   simp only [List.cons_append, List.cons.injEq] at e
   obtain ⟨rfl, e⟩ := e
   cases a with
   | nil =>
    simp only [List.nil_append, List.cons.injEq] at e
    obtain ⟨rfl, rfl⟩ := e
    exact h.path [] (n, i) _ rfl q hq
   | cons y a =>
    simp only [List.cons_append, List.cons.injEq] at e
    obtain ⟨rfl, rfl⟩ := e
    exact h.path ((n, i) :: a) p b rfl q hq
 ·intro v hvm
  rcases (hV v).1 hvm with rfl | h'
  ·exact (h.top n (by simp)).step hmem
  ·exact h.top v h'
 ·rcases h.root with ⟨a, k, e⟩ | ⟨e, _⟩
  ·left
   cases a with
   | nil => simp only [List.nil_append, List.cons.injEq, Prod.mk.injEq] at e; obtain ⟨⟨rfl, rfl⟩, rfl⟩ := e; exact ⟨[(s, 0)], i + 1, rfl⟩
   | cons x a => simp only [List.cons_append, List.cons.injEq] at e; obtain ⟨rfl, rfl⟩ := e; exact ⟨(s, 0) :: (n, i + 1) :: a, k, rfl⟩
  ·cases e
 ·intro a x y b e
  cases a with
  | nil =>
   simp only [List.nil_append, List.cons.injEq] at e
   obtain ⟨rfl, rfl, rfl⟩ := e
   exact hmem
  | cons z a =>
   simp only [List.cons_append, List.cons.injEq] at e
   obtain ⟨rfl, e⟩ := e
   cases a with
   | nil =>
    simp only [List.nil_append, List.cons.injEq] at e
    obtain ⟨rfl, rfl⟩ := e
    exact h.adj [] (n, i) y b rfl
   | cons z a =>
    simp only [List.cons_append, List.cons.injEq] at e
    obtain ⟨rfl, rfl⟩ := e
    exact h.adj ((n, i) :: a) x y b rfl
 ·intro v hv hv0
  obtain ⟨u, h1, h2 | h2⟩ := h.tr v hv hv0
  ·exact ⟨u, h1, .inl h2⟩
  ·exact ⟨u, h1, .inr (by simp at h2 ⊢; exact .inr h2)⟩
theorem OI.pop {g : List (List Int)} {seen : List Bool} {n i : Int} {st : List (Int × Int)} {acc : List Int} (h : OI g seen ((n, i) :: st) acc) (hi : i = (succs g n).length) : OI g seen st (n :: acc) := by
 have hV : ∀ v, v ∈ (n :: acc) ++ st.map (·.1) ↔ v ∈ acc ++ ((n, i) :: st).map (·.1) := fun v => by
  simp only [List.map_cons, List.mem_append, List.mem_cons]
  constructor
  ·rintro ((h | h) | h) <;> simp [h]
  ·rintro (h | h | h) <;> simp [h]
 have hcur : ∀ s ∈ succs g n, s ∈ acc ∨ Reach g s n ∧ s ∈ ((n, i) :: st).map (·.1) := fun s hs => by
  obtain ⟨j, hj⟩ := List.mem_iff_getElem?.1 hs
  have hjl := (List.getElem?_eq_some_iff.1 hj).1
  rcases h.cur [] _ _ rfl j s (by simp only; omega) hj with h1 | h1 | h1
  ·exact .inl h1
  ·exact .inr h1
  ·simp at h1
 refine ⟨h.len, fun v hv => h.rng v ((hV v).1 hv), ?_, fun v h0 h1 => by rw [hV, h.sn v h0 h1], fun p hp => h.ix p (by simp [hp]), ?_, ?_, ?_, ?_, fun v hv => h.top v ((hV v).1 hv), ?_, ?_, ?_⟩
 ·have h1 := h.nd
  simp only [List.map_cons, List.cons_append] at h1 ⊢
  exact List.perm_middle.nodup_iff.1 h1
 ·intro u hu s hs
  rcases List.mem_cons.1 hu with rfl | hu
  ·rcases hcur s hs with h1 | h1
   ·exact .inl ⟨[], acc, rfl, h1⟩
   ·exact .inr h1.1
  ·rcases h.fin u hu s hs with ⟨a, b, e, h1⟩ | h1
   ·exact .inl ⟨n :: a, b, by rw [e]; rfl, h1⟩
   ·exact .inr h1
 ·intro u hu s hs
  rw [hV]
  rcases List.mem_cons.1 hu with rfl | hu
  ·rcases hcur s hs with h1 | h1
   ·simp [h1]
   ·exact List.mem_append.2 (.inr h1.2)
  ·exact h.cl u hu s hs
 ·intro a p b e j t hj ht
  subst e
  rcases h.cur ((n, i) :: a) p b rfl j t hj ht with h1 | h1 | h1
  ·exact .inl (by simp [h1])
  ·simp only [List.map_cons, List.mem_cons] at h1
   rcases h1 with ⟨h1, rfl | h2⟩
   ·exact .inl (by simp)
   ·exact .inr (.inl ⟨h1, h2⟩)
  ·simp only [List.map_cons, List.mem_cons] at h1
   rcases h1 with rfl | h1
   ·exact .inl (by simp)
   ·exact .inr (.inr h1)
 ·intro a p b e q hq
  subst e
  exact h.path ((n, i) :: a) p b rfl q hq
 ·rcases h.root with ⟨a, k, e⟩ | ⟨e, _⟩
  ·cases a with
   | nil => simp only [List.nil_append, List.cons.injEq, Prod.mk.injEq] at e; obtain ⟨⟨rfl, rfl⟩, rfl⟩ := e; exact .inr ⟨rfl, acc, rfl⟩
   | cons x a => simp only [List.cons_append, List.cons.injEq] at e; obtain ⟨rfl, rfl⟩ := e; exact .inl ⟨a, k, rfl⟩
  ·cases e
 ·intro a x y b e
  subst e
  exact h.adj ((n, i) :: a) x y b rfl
 ·intro v hv hv0
  rcases List.mem_cons.1 hv with rfl | hv
  ·cases st with
   | nil =>
    rcases h.root with ⟨a, k, e⟩ | ⟨e, _⟩
    ·cases a with
     | nil => simp only [List.nil_append, List.cons.injEq, Prod.mk.injEq] at e; exact absurd e.1.1 hv0
     | cons x a => simp at e
    ·cases e
   | cons q st => exact ⟨q.1, h.adj [] _ q st rfl, .inr (by simp)⟩
  ·obtain ⟨u, h1, ⟨a, b, e, h2⟩ | h2⟩ := h.tr v hv hv0
   ·exact ⟨u, h1, .inl ⟨n :: a, b, by rw [e]; rfl, by simp [h2]⟩⟩
   ·simp only [List.map_cons, List.mem_cons] at h2
    rcases h2 with rfl | h2
    ·obtain ⟨a, b, e⟩ := List.append_of_mem (show v ∈ acc by assumption)
     exact ⟨u, h1, .inl ⟨u :: a, b, by rw [e]; rfl, by simp⟩⟩
    ·exact ⟨u, h1, .inr h2⟩
theorem ordLoop_total {g : List (List Int)} (hv : ValidG g) (hl : g.length ≤ 1000000) : ∀ (k : Nat) (seen : List Bool) (st : List (Int × Int)) (acc : List Int), OI g seen st acc → left g seen st ≤ k → ∃ r, ordLoop g k seen st acc = some r ∧ OrdOk g r
 | 0, seen, st, acc, h, hk => by unfold left at hk; omega
 | k + 1, seen, [], acc, h, _ => by
  refine ⟨acc, rfl, ?_⟩
  have h1 := h.rng
  have h2 := h.nd
  have h3 := h.cl
  have h4 := h.top
  simp only [List.map_nil, List.append_nil] at h1 h2 h3 h4
  refine ⟨h1, h2, ?_, h3, h4, h.fin, fun v hv h0 => ?_⟩
  ·rcases h.root with ⟨a, i, e⟩ | ⟨_, h5⟩
   ·simp at e
   ·exact h5
  ·obtain ⟨u, h5, h6 | h6⟩ := h.tr v hv h0
   ·exact ⟨u, h5, h6⟩
   ·simp at h6
 | k + 1, seen, (n, i) :: st, acc, h, hk => by
  have hlen : (acc ++ ((n, i) :: st).map (·.1)).length ≤ g.length := nodup_len h.nd h.rng
  simp only [List.length_append, List.map_cons, List.length_cons, List.length_map] at hlen
  have hn := h.rng n (by simp)
  have hi := h.ix (n, i) (by simp)
  simp only [succs] at hi
  unfold ordLoop
  rw [if_pos hn]
  by_cases h1 : i = (g.getD n.toNat []).length
  ·rw [if_pos h1, if_pos (by omega)]
   refine ordLoop_total hv hl k _ _ _ (h.pop h1) ?_
   have := left_pop (g := g) (seen := seen) (n := n) (i := i) (st := st)
   omega
  ·have hi1 : i < (succs g n).length := by unfold succs; omega
   obtain ⟨s, hs⟩ : ∃ s, (succs g n)[i.toNat]? = some s := ⟨_, List.getElem?_eq_getElem (by omega)⟩
   have hsm := succs_mem hv (List.mem_of_getElem? hs)
   have hsg : (g.getD n.toNat []).getD i.toNat 0 = s := by rw [List.getD_eq_getElem?_getD (l := g.getD n.toNat [])]; unfold succs at hs; rw [hs]; rfl
   rw [if_neg h1, if_pos ⟨hi.1, by omega⟩, hsg, if_pos ⟨hsm.1, by rw [h.len]; exact hsm.2⟩]
   by_cases hseen : seen.getD s.toNat false = true
   ·rw [if_pos hseen]
    refine ordLoop_total hv hl k _ _ _ (h.next hi1 hs ((h.sn s hsm.1 hsm.2).1 hseen)) ?_
    have := left_next (g := g) (seen := seen) (n := n) (i := i) (st := st) hi.1 hi1
    omega
   ·rw [if_neg hseen]
    have hseen' : seen.getD s.toNat false = false := by simpa using hseen
    rw [if_pos (by omega)]
    refine ordLoop_total hv hl k _ _ _ (h.push hv hi1 hs hseen') ?_
    have := left_push (g := g) (seen := seen) (n := n) (i := i) (s := s) (st := st) h.len hsm.1 hsm.2 hseen' hi.1 hi1
    omega
theorem order_total {g : List (List Int)} (hv : ValidG g) (h0 : 0 < g.length) (hl : g.length ≤ 1000000) : ∃ k r, orderF k g = some r ∧ OrdOk g r := by
 obtain ⟨r, h1, h2⟩ := ordLoop_total hv hl _ ((List.replicate g.length false).set 0 true) [(0, 0)] [] (by
  refine ⟨by simp, by simp; omega, by simp, ?_, by simp, by simp, by simp, ?_, ?_, ?_, .inl ⟨[], 0, rfl⟩, ?_, by simp⟩
  ·intro v h1 h2
   simp only [List.map_cons, List.map_nil, List.nil_append, List.mem_singleton]
   rw [List.getD_eq_getElem?_getD, List.getElem?_set]
   by_cases hv0 : v = 0
   ·subst hv0; simp [h0]
   ·rw [if_neg (by omega)]
    have : ((List.replicate g.length false)[v.toNat]?).getD false = false := by rw [List.getElem?_replicate]; split <;> rfl
    simp [this, hv0]
  ·intro a p b e j s hj
   cases a with
   | nil => simp at e; obtain ⟨rfl, _⟩ := e; simp at hj; omega
   | cons x a => simp at e
  ·intro a p b e q hq
   cases a with
   | nil => simp at e; obtain ⟨_, rfl⟩ := e; simp at hq
   | cons x a => simp at e
  ·simp; exact .refl _
  ·intro a x y b e
   cases a with
   | nil => simp at e
   | cons z a => simp at e) (Nat.le_refl _)
 exact ⟨_, r, h1, h2⟩
end Go.Proofs.Ytfiiihpdekppiaa
end
section
namespace Go.Proofs.Ytfiiihpdekppiaa
def predsIn (n : Int) : List Int → List (List Int) → Option (List (List Int))
 | [], p => some p
 | s :: r, p =>
  if 0 ≤ s ∧ s < p.length then
   if (p.getD s.toNat []).length < 1000000000 then predsIn n r (p.set s.toNat (p.getD s.toNat [] ++ [n])) else none
  else none
def viewLoop (g : List (List Int)) : List Int → Nat → List (Int × Int) → List (List Int) → Option (List (Int × Int) × List (List Int))
 | [], _, m, p => some (m, p)
 | n :: r, i, m, p =>
  if 0 ≤ n ∧ n < g.length then (predsIn n (g.getD n.toNat []) p).bind fun p' => viewLoop g r (i + 1) (mput m n i) p' else none
end Go.Proofs.Ytfiiihpdekppiaa
end
section
namespace Go.Proofs.Ytfiiihpdekppiaa
def climb (m : List (Int × Int)) (idom : List Int) : Nat → Int → Int → Option Int
 | 0, _, _ => none
 | k + 1, a, b => if mI0 m a > mI0 m b then (if 0 ≤ a ∧ a < idom.length then climb m idom k (idom.getD a.toNat 0) b else none) else some a
def meetF (m : List (Int × Int)) (idom : List Int) : Nat → Int → Int → Option Int
 | 0, _, _ => none
 | k + 1, a, b => if a ≠ b then (climb m idom k a b).bind fun a' => (climb m idom k b a').bind fun b' => meetF m idom k a' b' else some a
def nodeB (order : List Int) (m : List (Int × Int)) (idom : List Int) (a : Nat) : Bool :=
 decide (idom.getD a 0 < 0) || (decide (0 ≤ mI0 m a) && decide (order.getD (mI0 m a).toNat (-1) = a) && decide (0 ≤ idom.getD a 0 ∧ idom.getD a 0 < idom.length) && decide (0 ≤ idom.getD (idom.getD a 0).toNat 0) && (decide (mI0 m (idom.getD a 0) < mI0 m a) || decide (mI0 m a = 0)))
def treeB (order : List Int) (m : List (Int × Int)) (idom : List Int) : Bool := (List.range idom.length).all (nodeB order m idom)
def inT (idom : List Int) (a : Int) : Prop := 0 ≤ a ∧ a < idom.length ∧ 0 ≤ idom.getD a.toNat 0
theorem treeB_at {order : List Int} {m : List (Int × Int)} {idom : List Int} (h : treeB order m idom = true) {a : Int} (ha : inT idom a) :
  0 ≤ mI0 m a ∧ order.getD (mI0 m a).toNat (-1) = a ∧ inT idom (idom.getD a.toNat 0) ∧ (mI0 m (idom.getD a.toNat 0) < mI0 m a ∨ mI0 m a = 0) := by
 obtain ⟨h0, h1, h2⟩ := ha
 obtain ⟨a, rfl⟩ := Int.eq_ofNat_of_zero_le h0
 have := List.all_eq_true.1 h a (by simpa using h1)
 simp only [nodeB, Bool.or_eq_true, Bool.and_eq_true, decide_eq_true_eq] at this
 rw [Int.toNat_natCast] at h2 ⊢
 rcases this with h' | ⟨⟨⟨⟨p1, p2⟩, p3, p4⟩, p5⟩, p6⟩
 ·omega
 ·exact ⟨p1, p2, ⟨p3, p4, p5⟩, p6⟩
section
variable {order : List Int} {m : List (Int × Int)} {idom : List Int}
theorem climb_total (h : treeB order m idom = true) {b : Int} (hb : 0 ≤ mI0 m b) : ∀ (k : Nat) (a : Int), inT idom a → mI0 m a < k → ∃ a', climb m idom k a b = some a' ∧ inT idom a' ∧ mI0 m a' ≤ mI0 m b ∧ mI0 m a' ≤ mI0 m a ∧ (mI0 m a ≤ mI0 m b → a' = a)
 | 0, a, ha, hk => by have := (treeB_at h ha).1; omega
 | k + 1, a, ha, hk => by
  obtain ⟨h1, h2, h3, h4⟩ := treeB_at h ha
  unfold climb
  by_cases hgt : mI0 m a > mI0 m b
  ·rw [if_pos hgt, if_pos ⟨ha.1, ha.2.1⟩]
   obtain ⟨a', e1, e2, e3, e4, _⟩ := climb_total h hb k _ h3 (by omega)
   exact ⟨a', e1, e2, e3, by omega, by omega⟩
  ·rw [if_neg hgt]
   exact ⟨a, rfl, ha, by omega, Int.le_refl _, fun _ => rfl⟩
theorem meet_total (h : treeB order m idom = true) : ∀ (k : Nat) (a b : Int), inT idom a → inT idom b → mI0 m a + mI0 m b + 1 < k → ∃ r, meetF m idom k a b = some r ∧ inT idom r
 | 0, a, b, ha, hb, hk => by have := (treeB_at h ha).1; have := (treeB_at h hb).1; omega
 | k + 1, a, b, ha, hb, hk => by
  obtain ⟨a1, a2, _, _⟩ := treeB_at h ha
  obtain ⟨b1, b2, _, _⟩ := treeB_at h hb
  unfold meetF
  by_cases hab : a = b
  ·rw [if_neg (by simpa using hab)]; exact ⟨a, rfl, ha⟩
  ·rw [if_pos hab]
   have hne : mI0 m a ≠ mI0 m b := fun e => hab (by rw [← a2, ← b2, e])
   obtain ⟨a', e1, e2, e3, e4, e5⟩ := climb_total h b1 k a ha (by omega)
   have a1' := (treeB_at h e2).1
   obtain ⟨b', f1, f2, f3, f4, f5⟩ := climb_total h a1' k b hb (by omega)
   rw [e1]
   simp only [Option.bind_some]
   rw [f1]
   simp only [Option.bind_some]
   exact meet_total h k a' b' e2 f2 (by
    have := (treeB_at h f2).1
    rcases Int.lt_or_gt_of_ne hne with hl | hg
    ·have := e5 (by omega); subst this; omega
    ·omega)
end
def stepT (order : List Int) (m : List (Int × Int)) (idom : List Int) (d p : Int) : Int :=
 if idom.getD p.toNat 0 < 0 then d else if d < 0 then p else (meetF m idom (2 * order.length + 2) p d).getD 0
def foldT (order : List Int) (m : List (Int × Int)) (idom : List Int) (ps : List Int) : Int := ps.foldl (stepT order m idom) (-1)
theorem at_lt {order : List Int} {m : List (Int × Int)} {idom : List Int} (h : treeB order m idom = true) {a : Int} (ha : inT idom a) : mI0 m a < order.length := by
 obtain ⟨h1, h2, _, _⟩ := treeB_at h ha
 rcases Int.lt_or_le (mI0 m a) order.length with h' | h'
 ·exact h'
 ·rw [List.getD_eq_getElem?_getD, List.getElem?_eq_none (by omega)] at h2
  simp only [Option.getD_none] at h2
  have := ha.1
  omega
theorem stepT_good {order : List Int} {m : List (Int × Int)} {idom : List Int} (h : treeB order m idom = true) {d p : Int} (hp : 0 ≤ p ∧ p < idom.length) (hd : d = -1 ∨ inT idom d) :
  (stepT order m idom d p = -1 ∨ inT idom (stepT order m idom d p)) ∧ (¬ idom.getD p.toNat 0 < 0 → ¬ d < 0 → meetF m idom (2 * order.length + 2) p d = some (stepT order m idom d p)) := by
 unfold stepT
 by_cases h1 : idom.getD p.toNat 0 < 0
 ·rw [if_pos h1]; exact ⟨hd, fun h' => absurd h1 h'⟩
 ·rw [if_neg h1]
  have hpT : inT idom p := ⟨hp.1, hp.2, by omega⟩
  by_cases h2 : d < 0
  ·rw [if_pos h2]; exact ⟨.inr hpT, fun _ h' => absurd h2 h'⟩
  ·rw [if_neg h2]
   have hdT : inT idom d := hd.resolve_left (by omega)
   obtain ⟨r, e1, e2⟩ := meet_total h (2 * order.length + 2) p d hpT hdT (by have := at_lt h hpT; have := at_lt h hdT; omega)
   rw [e1]
   exact ⟨.inr e2, fun _ _ => rfl⟩
theorem foldT_snoc (order : List Int) (m : List (Int × Int)) (idom : List Int) (ps : List Int) (p : Int) : foldT order m idom (ps ++ [p]) = stepT order m idom (foldT order m idom ps) p := by simp [foldT]
theorem foldT_good {order : List Int} {m : List (Int × Int)} {idom : List Int} (h : treeB order m idom = true) : ∀ (ps : List Int) (d : Int), (d = -1 ∨ inT idom d) → (∀ p ∈ ps, 0 ≤ p ∧ p < idom.length) → (ps.foldl (stepT order m idom) d = -1 ∨ inT idom (ps.foldl (stepT order m idom) d))
 | [], d, hd, _ => hd
 | p :: ps, d, hd, hp => foldT_good h ps _ (stepT_good h (hp p (by simp)) hd).1 (fun q hq => hp q (by simp [hq]))
def domPass (order : List Int) (m : List (Int × Int)) (preds : List (List Int)) : List Int → List Int → Bool → Option (List Int × Bool)
 | [], idom, ch => some (idom, ch)
 | n :: r, idom, ch =>
  if 0 ≤ n ∧ n < idom.length then
   if treeB order m idom = true ∧ (∀ p ∈ preds.getD n.toNat [], 0 ≤ p ∧ p < idom.length) then
    if idom.getD n.toNat 0 = foldT order m idom (preds.getD n.toNat []) then domPass order m preds r idom ch
    else domPass order m preds r (idom.set n.toNat (foldT order m idom (preds.getD n.toNat []))) true
   else none
  else none
def domLoop (order : List Int) (m : List (Int × Int)) (preds : List (List Int)) : Nat → List Int → Option (List Int)
 | 0, _ => none
 | k + 1, idom => (domPass order m preds order.tail idom false).bind fun q => if q.2 = true then domLoop order m preds k q.1 else some q.1
def domsF (k : Nat) (order : List Int) (m : List (Int × Int)) (preds : List (List Int)) (nodes : Nat) : Option (List Int) :=
 domLoop order m preds k ((List.replicate nodes (-1)).set 0 0)
end Go.Proofs.Ytfiiihpdekppiaa
end
