/- A part of the proof that vellumlaw12.ShapeNested is true for every input: walks of functions that the row reaches and plain laws that they need. Conditions: none. Joined by merge.py out of C36 T8 PShapeReduciblex11 PShapeNestedx0 PShapeNestedx9; a part that began as a print is named P or W there and is trimmed. -/
import Derived.Test.YtfiiihpdekppiaaN2
import Derived.Test.YtfiiihpdekppiaaN3
import Derived.Test.YtfiiihpdekppiaaN4
import Derived.Test.YtfiiihpdekppiaaN5
import Derived.Test.YtfiiihpdekppiaaN20
import Derived.Test.YtfiiihpdekppiaaProg
import Derived.Below
import Derived.Deep.Draws
import Derived.Deep.AppendLies
import Derived.Maps.AppendAt
import Derived.OwnWalk
import Derived.Laws.BytesArg
import Derived.Laws.MakeOwn
import Derived.Laws.OwnMore
import Derived.Deep.OwnRows
import Derived.Tactics
import Derived.Lib.ConvBytes
import Derived.Laws.Slices
import Derived.WalkKit
import Derived.KernelRfl
import Derived.RowKit3
import Derived.Deep.LoopGhost
import Derived.Deep.QuietTactic
import Derived.BigQuiet
import Derived.WideLaws
import Derived.Deep.DeepCutAuto
import Derived.Deep.CutBlock
import Derived.Deep.RegionHeld3
import Derived.Laws.Rows
import Derived.Lib.AppendStr
import Derived.ArgAppend
import Derived.Laws.IdiomCopy
import Derived.OrdersHeld
import Derived.Laws.BitsLemmas
import Derived.RowKit
import Derived.Laws.StructEq
set_option linter.unusedVariables false
set_option linter.unusedSimpArgs false
section
namespace Go.Proofs.Ytfiiihpdekppiaa
open Go.RowKit Go.Proofs Go.Proofs.YtfiiihpdekppiaaW.PrintWords
open Go.ChangeMaps (setBlock heap_setBlock_same heap_setBlock_other)
open PShapeReducible (S31 k31 at_T31 rd_T31 S77 k77)
def sanA : List (List Int) := [[1, 2], [3], [3], []]
def sanB : List (List Int) := [[1], [2, 3], [1], []]
def sanC : List (List Int) := [[1, 2], [2], [1]]
structure SanFacts (s t u x : S31) : Prop where
  hs : StructIs sanA 0 s 0
  ht : StructIs sanB 0 t 0
  hx : StructIs sanC 0 x 50
  hu : StructIs sanC 8 u 0
  r1 : RefCheckIs s sanA true
  r2 : RefCheckIs t sanB true
  r3 : RefCheckIs u sanC true
  c1 : CheckIs s sanA true
  c2 : CheckIs s sanB false
section
variable {w0 W : World} {F H : List Pc}
theorem Mem.rcheck {k j c n : Nat} {A A3 : Option Addr} {vs : List Value} {g : List (List Int)} {ok : Nat → Prop} {x : S31} {b : Bool} (M : Mem w0 W F H) (hk : H[k]? = some (.mat (.slice A g.length c) vs g)) (hj : H[j]? = some (.fk ok x (shc x A3 n))) (h : RefCheckIs x g b) :
    Calls Try.prog 22 #[.agg #[.int .i64 x.f0, .int .i64 x.f1, .int .i64 x.f2, .slice A3 x.f3.length n], .agg #[.slice A g.length c]] W fun e w' => e = .returned (.bool b) ∧ Mem w0 w' F H := by
  obtain ⟨A', c', e, hc, hC⟩ := M.matC hk
  cases e
  obtain ⟨h1, h2⟩ := M.fkC hj
  refine (rcheck_any W A n c g x.f0 x.f1 x.f2 x.f3 b hC hc A3 h2 h1 (by cases x; exact h)).mono ?_
  rintro e w' ⟨rfl, hb⟩
  exact ⟨rfl, M.below hb⟩
theorem Mem.scheck {k j c n : Nat} {A A3 : Option Addr} {vs : List Value} {g : List (List Int)} {ok : Nat → Prop} {x : S31} {b : Bool} (M : Mem w0 W F H) (hk : H[k]? = some (.mat (.slice A g.length c) vs g)) (hj : H[j]? = some (.fk ok x (shc x A3 n))) (h : CheckIs x g b) :
    Calls Try.prog 32 #[.agg #[.int .i64 x.f0, .int .i64 x.f1, .int .i64 x.f2, .slice A3 x.f3.length n], .agg #[.slice A g.length c]] W fun e w' => e = .returned (.bool b) ∧ Mem w0 w' F H := by
  obtain ⟨A', c', e, hc, hC⟩ := M.matC hk
  cases e
  obtain ⟨h1, h2⟩ := M.fkC hj
  refine (scheck_any W A n c g x.f0 x.f1 x.f2 x.f3 b hC hc A3 h2 h1 (by cases x; exact h)).mono ?_
  rintro e w' ⟨rfl, hb⟩
  exact ⟨rfl, M.below hb⟩
theorem Mem.struct {k c : Nat} {A : Option Addr} {vs : List Value} {g : List (List Int)} {x : S31} {budget err : Int} (M : Mem w0 W F H) (hk : H[k]? = some (.mat (.slice A g.length c) vs g)) (h : StructIs g budget x err) :
    Calls Try.prog 16 #[.agg #[.slice A g.length c], .int .i64 budget] W fun e w' => ∃ A3 n ok, e = .returned (.tuple #[.agg #[.int .i64 x.f0, .int .i64 x.f1, .int .i64 x.f2, .slice A3 x.f3.length n], .int .i64 err]) ∧ Mem w0 w' F (H ++ [.fk ok x (shc x A3 n)]) := by
  obtain ⟨A', c', e, hc, hC⟩ := M.matC hk
  cases e
  refine (structure_any W A c g budget x err hC hc h).mono ?_
  rintro e w' ⟨A3, n, ok, rfl, hfk, hok, hb⟩
  exact ⟨A3, n, _, rfl, M.newfk hb hfk hok⟩
end
set_option maxRecDepth 100000 in
set_option maxHeartbeats 4000000 in
theorem sanity_any (s t u x : S31) (h : SanFacts s t u x) (w : World) : Calls Try.prog 14 #[] w fun e w' => e = .returned (.bool true) ∧ Below w.heap.size w w' := by
  have HH := Aside0.mk h
  clear h
  obtain ⟨ab0, aw0, az0, aa0, aM0⟩ := Mem.lit2 (Mem.start w) 1 2
  obtain ⟨ab1, aw1, az1, aa1, aM1⟩ := Mem.one (aM0) 3
  obtain ⟨ab2, aw2, az2, aa2, aM2⟩ := Mem.one (aM1) 3
  obtain ⟨ab3, aw3, az3, aa3, aM3⟩ := Mem.lit0 (aM2)
  obtain ⟨abm, awm, azm, aam, aMm⟩ := Mem.graph4 (H := []) (show Mem w _ [] ([] ++ [.row (.slice (some ⟨ab0, 0, none⟩) 2 2) 3 1 ([1, 2] : List Int).length (nums .i64 [1, 2]), .row (.slice (some ⟨ab1, 0, none⟩) 1 1) 3 1 ([3] : List Int).length (nums .i64 [3]), .row (.slice (some ⟨ab2, 0, none⟩) 1 1) 3 1 ([3] : List Int).length (nums .i64 [3]), .row (.slice (some ⟨ab3, 0, none⟩) 0 0) 3 1 ([] : List Int).length (nums .i64 [])]) from aM3)
  clear aM0 aM1 aM2 aM3
  obtain ⟨abg, awg, azg, aag, aMg⟩ := Mem.alloc (show Mem w _ [] ([] ++ [.mat (.slice (some ⟨abm, 0, none⟩) 4 4) [.slice (some ⟨ab0, 0, none⟩) 2 2, .slice (some ⟨ab1, 0, none⟩) 1 1, .slice (some ⟨ab2, 0, none⟩) 1 1, .slice (some ⟨ab3, 0, none⟩) 0 0] [[1, 2], [3], [3], []]]) from aMm) (.cells #[.slice none 0 0] 27)
  have agf := aMg.free (k := 1) (j := 0) rfl
  have agc := aMg.cell (k := 1) (j := 0) rfl rfl
  obtain ⟨aws, aes, aMs⟩ := aMg.set (k := 1) 0 rfl (.slice (some ⟨abm, 0, none⟩) 4 4)
  have agd : aws.cell? ⟨abg, 0, none⟩ = some (.slice (some ⟨abm, 0, none⟩) 4 4) := aMs.cell (k := 1) (j := 0) rfl rfl
  have aMs := Aside0.mk (show Mem w aws [] [.mat (.slice (some ⟨abm, 0, none⟩) 4 4) [.slice (some ⟨ab0, 0, none⟩) 2 2, .slice (some ⟨ab1, 0, none⟩) 1 1, .slice (some ⟨ab2, 0, none⟩) 1 1, .slice (some ⟨ab3, 0, none⟩) 0 0] [[1, 2], [3], [3], []], .blk abg (.cells #[.slice (some ⟨abm, 0, none⟩) 4 4] 27 (0, 0))] from aMs)
  clear aMm aMg
  go_enter Try.func14, Try.ntmps14
  go_wp2_with (fail)
  go_at_call 16
  refine (Mem.struct (g := sanA) (c := 4) (k := 0) aMs.out rfl HH.out.hs).mono ?_
  rintro e sw ⟨sA, sn, sok, rfl, sM⟩
  obtain ⟨sbb, sw2, sz2, sa2, sM2⟩ := sM.alloc (.cells #[.int .i64 0, .int .i64 0, .int .i64 0, .slice none 0 0] 31)
  obtain ⟨sy1, sy2, sy3, sy4, ⟨ss1, ss2, ss3, ss4⟩, ⟨sc1, sc2, sc3, sc4⟩, ⟨sf1, sf2, sf3, sf4⟩, sM3⟩ := sM2.fill4 (k := 3) rfl (.int .i64 s.f0) (.int .i64 s.f1) (.int .i64 s.f2) (.slice sA s.f3.length sn)
  have sMs := Aside0.mk (show Mem w sy4 [] [.mat (.slice (some ⟨abm, 0, none⟩) 4 4) [.slice (some ⟨ab0, 0, none⟩) 2 2, .slice (some ⟨ab1, 0, none⟩) 1 1, .slice (some ⟨ab2, 0, none⟩) 1 1, .slice (some ⟨ab3, 0, none⟩) 0 0] [[1, 2], [3], [3], []], .blk abg (.cells #[.slice (some ⟨abm, 0, none⟩) 4 4] 27 (0, 0)), .fk sok s (shc s sA sn), .blk sbb (.cells #[.int .i64 s.f0, .int .i64 s.f1, .int .i64 s.f2, .slice sA s.f3.length sn] 31 (0, 0))] from sM3)
  clear sM sM2 sM3
  obtain ⟨bb0, bw0, bz0, ba0, bM0⟩ := Mem.one (sMs.out) 1
  obtain ⟨bb1, bw1, bz1, ba1, bM1⟩ := Mem.lit2 (bM0) 2 3
  obtain ⟨bb2, bw2, bz2, ba2, bM2⟩ := Mem.one (bM1) 1
  obtain ⟨bb3, bw3, bz3, ba3, bM3⟩ := Mem.lit0 (bM2)
  obtain ⟨bbm, bwm, bzm, bam, bMm⟩ := Mem.graph4 (H := [.mat (.slice (some ⟨abm, 0, none⟩) 4 4) [.slice (some ⟨ab0, 0, none⟩) 2 2, .slice (some ⟨ab1, 0, none⟩) 1 1, .slice (some ⟨ab2, 0, none⟩) 1 1, .slice (some ⟨ab3, 0, none⟩) 0 0] [[1, 2], [3], [3], []], .blk abg (.cells #[.slice (some ⟨abm, 0, none⟩) 4 4] 27 (0, 0)), .fk sok s (shc s sA sn), .blk sbb (.cells #[.int .i64 s.f0, .int .i64 s.f1, .int .i64 s.f2, .slice sA s.f3.length sn] 31 (0, 0))]) (show Mem w _ [] ([.mat (.slice (some ⟨abm, 0, none⟩) 4 4) [.slice (some ⟨ab0, 0, none⟩) 2 2, .slice (some ⟨ab1, 0, none⟩) 1 1, .slice (some ⟨ab2, 0, none⟩) 1 1, .slice (some ⟨ab3, 0, none⟩) 0 0] [[1, 2], [3], [3], []], .blk abg (.cells #[.slice (some ⟨abm, 0, none⟩) 4 4] 27 (0, 0)), .fk sok s (shc s sA sn), .blk sbb (.cells #[.int .i64 s.f0, .int .i64 s.f1, .int .i64 s.f2, .slice sA s.f3.length sn] 31 (0, 0))] ++ [.row (.slice (some ⟨bb0, 0, none⟩) 1 1) 3 1 ([1] : List Int).length (nums .i64 [1]), .row (.slice (some ⟨bb1, 0, none⟩) 2 2) 3 1 ([2, 3] : List Int).length (nums .i64 [2, 3]), .row (.slice (some ⟨bb2, 0, none⟩) 1 1) 3 1 ([1] : List Int).length (nums .i64 [1]), .row (.slice (some ⟨bb3, 0, none⟩) 0 0) 3 1 ([] : List Int).length (nums .i64 [])]) from bM3)
  clear bM0 bM1 bM2 bM3
  obtain ⟨bbg, bwg, bzg, bag, bMg⟩ := Mem.alloc (show Mem w _ [] ([.mat (.slice (some ⟨abm, 0, none⟩) 4 4) [.slice (some ⟨ab0, 0, none⟩) 2 2, .slice (some ⟨ab1, 0, none⟩) 1 1, .slice (some ⟨ab2, 0, none⟩) 1 1, .slice (some ⟨ab3, 0, none⟩) 0 0] [[1, 2], [3], [3], []], .blk abg (.cells #[.slice (some ⟨abm, 0, none⟩) 4 4] 27 (0, 0)), .fk sok s (shc s sA sn), .blk sbb (.cells #[.int .i64 s.f0, .int .i64 s.f1, .int .i64 s.f2, .slice sA s.f3.length sn] 31 (0, 0))] ++ [.mat (.slice (some ⟨bbm, 0, none⟩) 4 4) [.slice (some ⟨bb0, 0, none⟩) 1 1, .slice (some ⟨bb1, 0, none⟩) 2 2, .slice (some ⟨bb2, 0, none⟩) 1 1, .slice (some ⟨bb3, 0, none⟩) 0 0] [[1], [2, 3], [1], []]]) from bMm) (.cells #[.slice none 0 0] 27)
  have bgf := bMg.free (k := 5) (j := 0) rfl
  have bgc := bMg.cell (k := 5) (j := 0) rfl rfl
  obtain ⟨bws, bes, bMs⟩ := bMg.set (k := 5) 0 rfl (.slice (some ⟨bbm, 0, none⟩) 4 4)
  have bgd : bws.cell? ⟨bbg, 0, none⟩ = some (.slice (some ⟨bbm, 0, none⟩) 4 4) := bMs.cell (k := 5) (j := 0) rfl rfl
  have bMs := Aside0.mk (show Mem w bws [] [.mat (.slice (some ⟨abm, 0, none⟩) 4 4) [.slice (some ⟨ab0, 0, none⟩) 2 2, .slice (some ⟨ab1, 0, none⟩) 1 1, .slice (some ⟨ab2, 0, none⟩) 1 1, .slice (some ⟨ab3, 0, none⟩) 0 0] [[1, 2], [3], [3], []], .blk abg (.cells #[.slice (some ⟨abm, 0, none⟩) 4 4] 27 (0, 0)), .fk sok s (shc s sA sn), .blk sbb (.cells #[.int .i64 s.f0, .int .i64 s.f1, .int .i64 s.f2, .slice sA s.f3.length sn] 31 (0, 0)), .mat (.slice (some ⟨bbm, 0, none⟩) 4 4) [.slice (some ⟨bb0, 0, none⟩) 1 1, .slice (some ⟨bb1, 0, none⟩) 2 2, .slice (some ⟨bb2, 0, none⟩) 1 1, .slice (some ⟨bb3, 0, none⟩) 0 0] [[1], [2, 3], [1], []], .blk bbg (.cells #[.slice (some ⟨bbm, 0, none⟩) 4 4] 27 (0, 0))] from bMs)
  clear bMm bMg
  dsimp only
  go_wp2_with (fail)
  go_at_call 16
  refine (Mem.struct (g := sanB) (c := 4) (k := 4) bMs.out rfl HH.out.ht).mono ?_
  rintro e tw ⟨tA, tn, tok, rfl, tM⟩
  obtain ⟨tbb, tw2, tz2, ta2, tM2⟩ := tM.alloc (.cells #[.int .i64 0, .int .i64 0, .int .i64 0, .slice none 0 0] 31)
  obtain ⟨ty1, ty2, ty3, ty4, ⟨ts1, ts2, ts3, ts4⟩, ⟨tc1, tc2, tc3, tc4⟩, ⟨tf1, tf2, tf3, tf4⟩, tM3⟩ := tM2.fill4 (k := 7) rfl (.int .i64 t.f0) (.int .i64 t.f1) (.int .i64 t.f2) (.slice tA t.f3.length tn)
  have tMs := Aside0.mk (show Mem w ty4 [] [.mat (.slice (some ⟨abm, 0, none⟩) 4 4) [.slice (some ⟨ab0, 0, none⟩) 2 2, .slice (some ⟨ab1, 0, none⟩) 1 1, .slice (some ⟨ab2, 0, none⟩) 1 1, .slice (some ⟨ab3, 0, none⟩) 0 0] [[1, 2], [3], [3], []], .blk abg (.cells #[.slice (some ⟨abm, 0, none⟩) 4 4] 27 (0, 0)), .fk sok s (shc s sA sn), .blk sbb (.cells #[.int .i64 s.f0, .int .i64 s.f1, .int .i64 s.f2, .slice sA s.f3.length sn] 31 (0, 0)), .mat (.slice (some ⟨bbm, 0, none⟩) 4 4) [.slice (some ⟨bb0, 0, none⟩) 1 1, .slice (some ⟨bb1, 0, none⟩) 2 2, .slice (some ⟨bb2, 0, none⟩) 1 1, .slice (some ⟨bb3, 0, none⟩) 0 0] [[1], [2, 3], [1], []], .blk bbg (.cells #[.slice (some ⟨bbm, 0, none⟩) 4 4] 27 (0, 0)), .fk tok t (shc t tA tn), .blk tbb (.cells #[.int .i64 t.f0, .int .i64 t.f1, .int .i64 t.f2, .slice tA t.f3.length tn] 31 (0, 0))] from tM3)
  clear tM tM2 tM3
  obtain ⟨cb0, cw0, cz0, ca0, cM0⟩ := Mem.lit2 (tMs.out) 1 2
  obtain ⟨cb1, cw1, cz1, ca1, cM1⟩ := Mem.one (cM0) 2
  obtain ⟨cb2, cw2, cz2, ca2, cM2⟩ := Mem.one (cM1) 1
  obtain ⟨cbm, cwm, czm, cam, cMm⟩ := Mem.graph3 (H := [.mat (.slice (some ⟨abm, 0, none⟩) 4 4) [.slice (some ⟨ab0, 0, none⟩) 2 2, .slice (some ⟨ab1, 0, none⟩) 1 1, .slice (some ⟨ab2, 0, none⟩) 1 1, .slice (some ⟨ab3, 0, none⟩) 0 0] [[1, 2], [3], [3], []], .blk abg (.cells #[.slice (some ⟨abm, 0, none⟩) 4 4] 27 (0, 0)), .fk sok s (shc s sA sn), .blk sbb (.cells #[.int .i64 s.f0, .int .i64 s.f1, .int .i64 s.f2, .slice sA s.f3.length sn] 31 (0, 0)), .mat (.slice (some ⟨bbm, 0, none⟩) 4 4) [.slice (some ⟨bb0, 0, none⟩) 1 1, .slice (some ⟨bb1, 0, none⟩) 2 2, .slice (some ⟨bb2, 0, none⟩) 1 1, .slice (some ⟨bb3, 0, none⟩) 0 0] [[1], [2, 3], [1], []], .blk bbg (.cells #[.slice (some ⟨bbm, 0, none⟩) 4 4] 27 (0, 0)), .fk tok t (shc t tA tn), .blk tbb (.cells #[.int .i64 t.f0, .int .i64 t.f1, .int .i64 t.f2, .slice tA t.f3.length tn] 31 (0, 0))]) (show Mem w _ [] ([.mat (.slice (some ⟨abm, 0, none⟩) 4 4) [.slice (some ⟨ab0, 0, none⟩) 2 2, .slice (some ⟨ab1, 0, none⟩) 1 1, .slice (some ⟨ab2, 0, none⟩) 1 1, .slice (some ⟨ab3, 0, none⟩) 0 0] [[1, 2], [3], [3], []], .blk abg (.cells #[.slice (some ⟨abm, 0, none⟩) 4 4] 27 (0, 0)), .fk sok s (shc s sA sn), .blk sbb (.cells #[.int .i64 s.f0, .int .i64 s.f1, .int .i64 s.f2, .slice sA s.f3.length sn] 31 (0, 0)), .mat (.slice (some ⟨bbm, 0, none⟩) 4 4) [.slice (some ⟨bb0, 0, none⟩) 1 1, .slice (some ⟨bb1, 0, none⟩) 2 2, .slice (some ⟨bb2, 0, none⟩) 1 1, .slice (some ⟨bb3, 0, none⟩) 0 0] [[1], [2, 3], [1], []], .blk bbg (.cells #[.slice (some ⟨bbm, 0, none⟩) 4 4] 27 (0, 0)), .fk tok t (shc t tA tn), .blk tbb (.cells #[.int .i64 t.f0, .int .i64 t.f1, .int .i64 t.f2, .slice tA t.f3.length tn] 31 (0, 0))] ++ [.row (.slice (some ⟨cb0, 0, none⟩) 2 2) 3 1 ([1, 2] : List Int).length (nums .i64 [1, 2]), .row (.slice (some ⟨cb1, 0, none⟩) 1 1) 3 1 ([2] : List Int).length (nums .i64 [2]), .row (.slice (some ⟨cb2, 0, none⟩) 1 1) 3 1 ([1] : List Int).length (nums .i64 [1])]) from cM2)
  clear cM0 cM1 cM2
  obtain ⟨cbg, cwg, czg, cag, cMg⟩ := Mem.alloc (show Mem w _ [] ([.mat (.slice (some ⟨abm, 0, none⟩) 4 4) [.slice (some ⟨ab0, 0, none⟩) 2 2, .slice (some ⟨ab1, 0, none⟩) 1 1, .slice (some ⟨ab2, 0, none⟩) 1 1, .slice (some ⟨ab3, 0, none⟩) 0 0] [[1, 2], [3], [3], []], .blk abg (.cells #[.slice (some ⟨abm, 0, none⟩) 4 4] 27 (0, 0)), .fk sok s (shc s sA sn), .blk sbb (.cells #[.int .i64 s.f0, .int .i64 s.f1, .int .i64 s.f2, .slice sA s.f3.length sn] 31 (0, 0)), .mat (.slice (some ⟨bbm, 0, none⟩) 4 4) [.slice (some ⟨bb0, 0, none⟩) 1 1, .slice (some ⟨bb1, 0, none⟩) 2 2, .slice (some ⟨bb2, 0, none⟩) 1 1, .slice (some ⟨bb3, 0, none⟩) 0 0] [[1], [2, 3], [1], []], .blk bbg (.cells #[.slice (some ⟨bbm, 0, none⟩) 4 4] 27 (0, 0)), .fk tok t (shc t tA tn), .blk tbb (.cells #[.int .i64 t.f0, .int .i64 t.f1, .int .i64 t.f2, .slice tA t.f3.length tn] 31 (0, 0))] ++ [.mat (.slice (some ⟨cbm, 0, none⟩) 3 3) [.slice (some ⟨cb0, 0, none⟩) 2 2, .slice (some ⟨cb1, 0, none⟩) 1 1, .slice (some ⟨cb2, 0, none⟩) 1 1] [[1, 2], [2], [1]]]) from cMm) (.cells #[.slice none 0 0] 27)
  have cgf := cMg.free (k := 9) (j := 0) rfl
  have cgc := cMg.cell (k := 9) (j := 0) rfl rfl
  obtain ⟨cws, ces, cMs⟩ := cMg.set (k := 9) 0 rfl (.slice (some ⟨cbm, 0, none⟩) 3 3)
  have cgd : cws.cell? ⟨cbg, 0, none⟩ = some (.slice (some ⟨cbm, 0, none⟩) 3 3) := cMs.cell (k := 9) (j := 0) rfl rfl
  have cMs := Aside0.mk (show Mem w cws [] [.mat (.slice (some ⟨abm, 0, none⟩) 4 4) [.slice (some ⟨ab0, 0, none⟩) 2 2, .slice (some ⟨ab1, 0, none⟩) 1 1, .slice (some ⟨ab2, 0, none⟩) 1 1, .slice (some ⟨ab3, 0, none⟩) 0 0] [[1, 2], [3], [3], []], .blk abg (.cells #[.slice (some ⟨abm, 0, none⟩) 4 4] 27 (0, 0)), .fk sok s (shc s sA sn), .blk sbb (.cells #[.int .i64 s.f0, .int .i64 s.f1, .int .i64 s.f2, .slice sA s.f3.length sn] 31 (0, 0)), .mat (.slice (some ⟨bbm, 0, none⟩) 4 4) [.slice (some ⟨bb0, 0, none⟩) 1 1, .slice (some ⟨bb1, 0, none⟩) 2 2, .slice (some ⟨bb2, 0, none⟩) 1 1, .slice (some ⟨bb3, 0, none⟩) 0 0] [[1], [2, 3], [1], []], .blk bbg (.cells #[.slice (some ⟨bbm, 0, none⟩) 4 4] 27 (0, 0)), .fk tok t (shc t tA tn), .blk tbb (.cells #[.int .i64 t.f0, .int .i64 t.f1, .int .i64 t.f2, .slice tA t.f3.length tn] 31 (0, 0)), .mat (.slice (some ⟨cbm, 0, none⟩) 3 3) [.slice (some ⟨cb0, 0, none⟩) 2 2, .slice (some ⟨cb1, 0, none⟩) 1 1, .slice (some ⟨cb2, 0, none⟩) 1 1] [[1, 2], [2], [1]], .blk cbg (.cells #[.slice (some ⟨cbm, 0, none⟩) 3 3] 27 (0, 0))] from cMs)
  clear cMm cMg
  dsimp only
  go_wp2_with (fail)
  go_at_call 16
  refine (Mem.struct (g := sanC) (c := 3) (k := 8) cMs.out rfl HH.out.hx).mono ?_
  rintro e xw ⟨xA, xn, xok, rfl, xM⟩
  obtain ⟨xbb, xw2, xz2, xa2, xM2⟩ := xM.alloc (.cells #[.int .i64 0, .int .i64 0, .int .i64 0, .slice none 0 0] 31)
  obtain ⟨xy1, xy2, xy3, xy4, ⟨xs1, xs2, xs3, xs4⟩, ⟨xc1, xc2, xc3, xc4⟩, ⟨xf1, xf2, xf3, xf4⟩, xM3⟩ := xM2.fill4 (k := 11) rfl (.int .i64 x.f0) (.int .i64 x.f1) (.int .i64 x.f2) (.slice xA x.f3.length xn)
  have xMs := Aside0.mk (show Mem w xy4 [] [.mat (.slice (some ⟨abm, 0, none⟩) 4 4) [.slice (some ⟨ab0, 0, none⟩) 2 2, .slice (some ⟨ab1, 0, none⟩) 1 1, .slice (some ⟨ab2, 0, none⟩) 1 1, .slice (some ⟨ab3, 0, none⟩) 0 0] [[1, 2], [3], [3], []], .blk abg (.cells #[.slice (some ⟨abm, 0, none⟩) 4 4] 27 (0, 0)), .fk sok s (shc s sA sn), .blk sbb (.cells #[.int .i64 s.f0, .int .i64 s.f1, .int .i64 s.f2, .slice sA s.f3.length sn] 31 (0, 0)), .mat (.slice (some ⟨bbm, 0, none⟩) 4 4) [.slice (some ⟨bb0, 0, none⟩) 1 1, .slice (some ⟨bb1, 0, none⟩) 2 2, .slice (some ⟨bb2, 0, none⟩) 1 1, .slice (some ⟨bb3, 0, none⟩) 0 0] [[1], [2, 3], [1], []], .blk bbg (.cells #[.slice (some ⟨bbm, 0, none⟩) 4 4] 27 (0, 0)), .fk tok t (shc t tA tn), .blk tbb (.cells #[.int .i64 t.f0, .int .i64 t.f1, .int .i64 t.f2, .slice tA t.f3.length tn] 31 (0, 0)), .mat (.slice (some ⟨cbm, 0, none⟩) 3 3) [.slice (some ⟨cb0, 0, none⟩) 2 2, .slice (some ⟨cb1, 0, none⟩) 1 1, .slice (some ⟨cb2, 0, none⟩) 1 1] [[1, 2], [2], [1]], .blk cbg (.cells #[.slice (some ⟨cbm, 0, none⟩) 3 3] 27 (0, 0)), .fk xok x (shc x xA xn), .blk xbb (.cells #[.int .i64 x.f0, .int .i64 x.f1, .int .i64 x.f2, .slice xA x.f3.length xn] 31 (0, 0))] from xM3)
  clear xM xM2 xM3
  have cgd2 : xy4.cell? ⟨cbg, 0, none⟩ = some (.slice (some ⟨cbm, 0, none⟩) 3 3) := xMs.out.cell (k := 9) (j := 0) rfl rfl
  dsimp only
  go_wp2_with (fail)
  go_at_call 16
  refine (Mem.struct (g := sanC) (c := 3) (k := 8) xMs.out rfl HH.out.hu).mono ?_
  rintro e uw ⟨uA, un, uok, rfl, uM⟩
  obtain ⟨ubb, uw2, uz2, ua2, uM2⟩ := uM.alloc (.cells #[.int .i64 0, .int .i64 0, .int .i64 0, .slice none 0 0] 31)
  obtain ⟨uy1, uy2, uy3, uy4, ⟨us1, us2, us3, us4⟩, ⟨uc1, uc2, uc3, uc4⟩, ⟨uf1, uf2, uf3, uf4⟩, uM3⟩ := uM2.fill4 (k := 13) rfl (.int .i64 u.f0) (.int .i64 u.f1) (.int .i64 u.f2) (.slice uA u.f3.length un)
  have uMs := Aside0.mk (show Mem w uy4 [] [.mat (.slice (some ⟨abm, 0, none⟩) 4 4) [.slice (some ⟨ab0, 0, none⟩) 2 2, .slice (some ⟨ab1, 0, none⟩) 1 1, .slice (some ⟨ab2, 0, none⟩) 1 1, .slice (some ⟨ab3, 0, none⟩) 0 0] [[1, 2], [3], [3], []], .blk abg (.cells #[.slice (some ⟨abm, 0, none⟩) 4 4] 27 (0, 0)), .fk sok s (shc s sA sn), .blk sbb (.cells #[.int .i64 s.f0, .int .i64 s.f1, .int .i64 s.f2, .slice sA s.f3.length sn] 31 (0, 0)), .mat (.slice (some ⟨bbm, 0, none⟩) 4 4) [.slice (some ⟨bb0, 0, none⟩) 1 1, .slice (some ⟨bb1, 0, none⟩) 2 2, .slice (some ⟨bb2, 0, none⟩) 1 1, .slice (some ⟨bb3, 0, none⟩) 0 0] [[1], [2, 3], [1], []], .blk bbg (.cells #[.slice (some ⟨bbm, 0, none⟩) 4 4] 27 (0, 0)), .fk tok t (shc t tA tn), .blk tbb (.cells #[.int .i64 t.f0, .int .i64 t.f1, .int .i64 t.f2, .slice tA t.f3.length tn] 31 (0, 0)), .mat (.slice (some ⟨cbm, 0, none⟩) 3 3) [.slice (some ⟨cb0, 0, none⟩) 2 2, .slice (some ⟨cb1, 0, none⟩) 1 1, .slice (some ⟨cb2, 0, none⟩) 1 1] [[1, 2], [2], [1]], .blk cbg (.cells #[.slice (some ⟨cbm, 0, none⟩) 3 3] 27 (0, 0)), .fk xok x (shc x xA xn), .blk xbb (.cells #[.int .i64 x.f0, .int .i64 x.f1, .int .i64 x.f2, .slice xA x.f3.length xn] 31 (0, 0)), .fk uok u (shc u uA un), .blk ubb (.cells #[.int .i64 u.f0, .int .i64 u.f1, .int .i64 u.f2, .slice uA u.f3.length un] 31 (0, 0))] from uM3)
  clear uM uM2 uM3
  have ps0 := uMs.out.cell (k := 3) (j := 0) rfl rfl
  have ps1 := uMs.out.cell (k := 3) (j := 1) rfl rfl
  have ps2 := uMs.out.cell (k := 3) (j := 2) rfl rfl
  have ps3 := uMs.out.cell (k := 3) (j := 3) rfl rfl
  have pag := uMs.out.cell (k := 1) (j := 0) rfl rfl
  dsimp only
  go_wp2_with (fail)
  go_at_call 22
  refine (Mem.rcheck (g := sanA) (c := 4) (k := 0) (j := 2) uMs.out rfl rfl HH.out.r1).mono ?_
  rintro e v1 ⟨rfl, M1⟩
  have M1 := Aside0.mk M1
  have qt0 := M1.out.cell (k := 7) (j := 0) rfl rfl
  have qt1 := M1.out.cell (k := 7) (j := 1) rfl rfl
  have qt2 := M1.out.cell (k := 7) (j := 2) rfl rfl
  have qt3 := M1.out.cell (k := 7) (j := 3) rfl rfl
  have qbg := M1.out.cell (k := 5) (j := 0) rfl rfl
  dsimp only
  go_wp2_with (fail)
  go_at_call 22
  refine (Mem.rcheck (g := sanB) (c := 4) (k := 4) (j := 6) M1.out rfl rfl HH.out.r2).mono ?_
  rintro e v2 ⟨rfl, M2⟩
  have M2 := Aside0.mk M2
  have ru0 := M2.out.cell (k := 13) (j := 0) rfl rfl
  have ru1 := M2.out.cell (k := 13) (j := 1) rfl rfl
  have ru2 := M2.out.cell (k := 13) (j := 2) rfl rfl
  have ru3 := M2.out.cell (k := 13) (j := 3) rfl rfl
  have rcg := M2.out.cell (k := 9) (j := 0) rfl rfl
  dsimp only
  go_wp2_with (fail)
  go_at_call 22
  refine (Mem.rcheck (g := sanC) (c := 3) (k := 8) (j := 12) M2.out rfl rfl HH.out.r3).mono ?_
  rintro e v3 ⟨rfl, M3⟩
  have M3 := Aside0.mk M3
  have is0 := M3.out.cell (k := 3) (j := 0) rfl rfl
  have is1 := M3.out.cell (k := 3) (j := 1) rfl rfl
  have is2 := M3.out.cell (k := 3) (j := 2) rfl rfl
  have is3 := M3.out.cell (k := 3) (j := 3) rfl rfl
  have iag := M3.out.cell (k := 1) (j := 0) rfl rfl
  dsimp only
  go_wp2_with (fail)
  go_at_call 32
  refine (Mem.scheck (g := sanA) (c := 4) (k := 0) (j := 2) M3.out rfl rfl HH.out.c1).mono ?_
  rintro e v4 ⟨rfl, M4⟩
  have M4 := Aside0.mk M4
  have js0 := M4.out.cell (k := 3) (j := 0) rfl rfl
  have js1 := M4.out.cell (k := 3) (j := 1) rfl rfl
  have js2 := M4.out.cell (k := 3) (j := 2) rfl rfl
  have js3 := M4.out.cell (k := 3) (j := 3) rfl rfl
  have jbg := M4.out.cell (k := 5) (j := 0) rfl rfl
  dsimp only
  go_wp2_with (fail)
  go_at_call 32
  refine (Mem.scheck (g := sanB) (c := 4) (k := 4) (j := 2) M4.out rfl rfl HH.out.c2).mono ?_
  rintro e v5 ⟨rfl, M5⟩
  have M5 := Aside0.mk M5
  dsimp only
  go_wp2_with (fail)
  go_ret
  exact ⟨rfl, M5.out.hb⟩
end Go.Proofs.Ytfiiihpdekppiaa
end
section
namespace Go.Proofs.Ytfiiihpdekppiaa
open Go.RowKit Go.Proofs Go.Proofs.YtfiiihpdekppiaaW.PrintWords
open PShapeReducible (S31 S77)
def fitG (g : List (List Int)) : Prop := ValidG g ∧ 0 < g.length ∧ g.length ≤ 1000000 ∧ ∀ l ∈ g, l.length ≤ 1000000000
instance (g : List (List Int)) : Decidable (fitG g) := inferInstanceAs (Decidable (ValidG g ∧ 0 < g.length ∧ g.length ≤ 1000000 ∧ ∀ l ∈ g, l.length ≤ 1000000000))
def domE (k : Nat) (g : List (List Int)) : Option (List Int × List (Int × Int) × List (List Int) × List Int) :=
  if fitG g then
    (orderF k g).bind fun r => (viewLoop g r 0 [] (List.replicate g.length [])).bind fun q => (domsF k r q.1 q.2 g.length).bind fun d =>
      if r.length ≤ 1000000 ∧ 0 < r.length ∧ q.2.length = g.length ∧ d.length = g.length ∧ ∀ y ∈ r, 0 ≤ y ∧ y < d.length then some (r, q.1, q.2, d) else none
  else none
theorem domE_is {k : Nat} {g : List (List Int)} {r : List Int} {m : List (Int × Int)} {p : List (List Int)} {d : List Int} (h : domE k g = some (r, m, p, d)) : fitG g ∧ DomIs g r m p d ∧ r.length ≤ 1000000 ∧ ∀ y ∈ r, 0 ≤ y ∧ y < d.length := by
  unfold domE at h
  split at h
  · next hf =>
    obtain ⟨r', h1, h⟩ := Option.bind_eq_some_iff.1 h
    obtain ⟨q, h2, h⟩ := Option.bind_eq_some_iff.1 h
    obtain ⟨d', h3, h⟩ := Option.bind_eq_some_iff.1 h
    split at h
    · next hc =>
      injection h with h
      injection h with e1 h
      injection h with e2 h
      injection h with e3 e4
      subst e1 e2 e3 e4
      obtain ⟨c1, c2, c3, c4, c5⟩ := hc
      have hv := valid_is g (by have := hf.2.2.1; omega) hf.2.2.2
      rw [decide_eq_true (show ValidG g ∧ 0 < g.length from ⟨hf.1, hf.2.1⟩)] at hv
      exact ⟨hf, ⟨⟨⟨hf.2.1, hf.2.2.1, hv, ⟨k, h1⟩, reverse_is r' (by omega)⟩, h2, c3⟩, c2, c4, ⟨k, h3⟩⟩, c1, c5⟩
    · cases h
  · cases h
def buildE (k : Nat) (succ : List (List Int)) (node : List Int) : Option S31 :=
  (domE k succ).bind fun q => (edgesF succ (posF q.1 0 []) q.1 ([], [])).bind fun le =>
    let M := mergeF le.2 (q.2.2.2.set 0 (-1)) q.1.reverse ([], [])
    (bF ⟨succ, node, posF q.1 0 [], M.2, M.1⟩ k (.tree 0) ⟨le.1, [], 0⟩).map (·.1)
theorem buildE_is {k : Nat} {succ : List (List Int)} {node : List Int} {x : S31} (h : buildE k succ node = some x) : BuildIs succ node x := by
  unfold buildE at h
  obtain ⟨⟨r, m, p, d⟩, h1, h⟩ := Option.bind_eq_some_iff.1 h
  obtain ⟨⟨l, e⟩, h2, h⟩ := Option.bind_eq_some_iff.1 h
  obtain ⟨⟨x', s9⟩, h3, h4⟩ := Option.map_eq_some_iff.1 h
  dsimp only at h2 h3 h4
  subst h4
  obtain ⟨hf, hd, h5, h6⟩ := domE_is h1
  exact ⟨r, d.set 0 (-1), l, e, k, s9, hd.1.1, ⟨r, m, p, d, hd, rfl⟩, h5, h2, fun y hy => by rw [List.length_set]; exact h6 y hy, h3⟩
def structE (k : Nat) (g : List (List Int)) (budget : Int) : Option (S31 × Int) :=
  (domE k g).bind fun q => (redOut k g q.2.1 q.2.2.2 q.1).bind fun b =>
    if b = true then (buildE k g (rangeI g.length)).map fun x => (x, 0)
    else (splitG isort k ⟨g, rangeI g.length, 0, max budget 0⟩ (setF (-1) q.1 [])).bind fun t =>
      match t with
      | none => some (⟨0, 0, 0, []⟩, 50)
      | some s => (buildE k s.succ s.node).map fun x => (x, 0)
theorem structE_is {k : Nat} {g : List (List Int)} {budget : Int} {x : S31} {err : Int} (h : structE k g budget = some (x, err)) : StructIs g budget x err := by
  unfold structE at h
  obtain ⟨⟨r, m, p, d⟩, h1, h⟩ := Option.bind_eq_some_iff.1 h
  obtain ⟨b, h2, h⟩ := Option.bind_eq_some_iff.1 h
  dsimp only at h2 h
  obtain ⟨hf, hd, h5, h6⟩ := domE_is h1
  refine .inr ⟨hd.1.1.2.2.1, ⟨hf.2.2.1, hf.2.2.2⟩, ?_⟩
  cases b with
  | true =>
    rw [if_pos rfl] at h
    obtain ⟨x', h3, h4⟩ := Option.map_eq_some_iff.1 h
    injection h4 with h4 h5
    subst h4 h5
    exact .inl ⟨.inr ⟨r, m, p, d, k, hd, h2⟩, buildE_is h3, rfl⟩
  | false =>
    rw [if_neg (by decide)] at h
    obtain ⟨t, h3, h4⟩ := Option.bind_eq_some_iff.1 h
    rw [← split_eval] at h3
    refine .inr ⟨.inr ⟨r, m, p, d, k, hd, h2⟩, r, k, t, hd.1.1, h3, ?_⟩
    cases t with
    | none =>
      injection h4 with h4
      injection h4 with h4 h5
      exact .inl ⟨rfl, h4.symm, h5.symm⟩
    | some s =>
      obtain ⟨x', h6, h7⟩ := Option.map_eq_some_iff.1 h4
      injection h7 with h7 h8
      subst h7 h8
      exact .inr ⟨s, rfl, buildE_is h6, rfl⟩
theorem refValid_l1 (g : List (List Int)) (b : Bool) (x3 : Int) (h3 : 0 ≤ x3 ∧ x3 < g.length) (l : List Int) (hl : l = g.getD x3.toNat []) (hll : l.length ≤ 1000000000)
    (hbad : (∃ s ∈ l, ¬ (0 ≤ s ∧ s < g.length)) → b = false) (hgood : (∀ s ∈ l, 0 ≤ s ∧ s < g.length) → ∃ k, PShapeReducible.vellumref06_Valid.l0 k (wrap64 (x3 + 1)) g = some b) :
    ∀ (m i : Nat), i + m = l.length → (∀ j, j < i → 0 ≤ l.getD j 0 ∧ l.getD j 0 < g.length) → ∃ k, PShapeReducible.vellumref06_Valid.l1 k x3 i g = some b
  | 0, i, hi, hj => by
    obtain ⟨k, hk⟩ := hgood (fun s hs => by
      obtain ⟨j, hjj⟩ := List.mem_iff_getElem?.1 hs
      have := (List.getElem?_eq_some_iff.1 hjj).1
      have h1 := hj j (by omega)
      rw [List.getD_eq_getElem?_getD, hjj] at h1
      exact h1)
    have e2 : PShapeReducible.rd_L1 g x3 = l := hl.symm
    refine ⟨k + 1, ?_⟩
    rw [PShapeReducible.vellumref06_Valid.l1, if_pos h3.1, if_pos h3.2, e2, if_neg (by omega)]
    exact hk
  | m + 1, i, hi, hj => by
    have hget : l.getD i 0 ∈ l := by rw [List.getD_eq_getElem?_getD, List.getElem?_eq_getElem (by omega)]; exact List.getElem_mem _
    have e : rd l (i : Int) = l.getD i 0 := rfl
    have e2 : PShapeReducible.rd_L1 g x3 = l := hl.symm
    by_cases h1 : 0 ≤ l.getD i 0 ∧ l.getD i 0 < g.length
    · obtain ⟨k, hk⟩ := refValid_l1 g b x3 h3 l hl hll hbad hgood m (i + 1) (by omega) (fun j hjj => by
        by_cases h : j < i
        · exact hj j h
        · have : j = i := by omega
          rw [this]; exact h1)
      refine ⟨k + 1, ?_⟩
      rw [PShapeReducible.vellumref06_Valid.l1, if_pos h3.1, if_pos h3.2, e2, if_pos (by omega), if_pos (by omega), e, if_neg (by omega), if_neg (by omega), wrap64_in (by omega) (by omega)]
      exact hk
    · have hb := hbad ⟨_, hget, h1⟩
      refine ⟨1, ?_⟩
      rw [PShapeReducible.vellumref06_Valid.l1, if_pos h3.1, if_pos h3.2, e2, if_pos (by omega), if_pos (by omega), e, hb]
      by_cases h2 : l.getD i 0 < 0
      · rw [if_pos h2]
      · rw [if_neg h2, if_pos (by omega)]
theorem refValid_l0 (g : List (List Int)) (hg : g.length ≤ 1000000000) (hr : ∀ l ∈ g, l.length ≤ 1000000000) (b : Bool) (hb : b = decide (ValidG g ∧ 0 < g.length)) :
    ∀ (m i : Nat), i + m = g.length → (∀ j, j < i → ∀ s ∈ g.getD j [], 0 ≤ s ∧ s < g.length) → ∃ k, PShapeReducible.vellumref06_Valid.l0 k i g = some b
  | 0, i, hi, hj => by
    refine ⟨1, ?_⟩
    rw [PShapeReducible.vellumref06_Valid.l0, if_neg (by omega), hb]
    have hv : ValidG g := fun l hl s hs => by
      obtain ⟨j, hjj⟩ := List.mem_iff_getElem?.1 hl
      have := (List.getElem?_eq_some_iff.1 hjj).1
      have h1 := hj j (by omega) s
      rw [List.getD_eq_getElem?_getD, hjj] at h1
      exact h1 hs
    congr 1
    simp [hv]
  | m + 1, i, hi, hj => by
    have hmem : g.getD i [] ∈ g := by rw [List.getD_eq_getElem?_getD, List.getElem?_eq_getElem (by omega)]; exact List.getElem_mem _
    obtain ⟨k, hk⟩ := refValid_l1 g b i (by omega) (g.getD i []) rfl (hr _ hmem) (by
        rintro ⟨s, hs, hn⟩
        rw [hb]
        exact decide_eq_false (fun h => hn (h.1 _ hmem s hs))) (by
        intro h
        rw [wrap64_in (by omega) (by omega)]
        exact refValid_l0 g hg hr b hb m (i + 1) (by omega) (fun j hjj => by
          by_cases h' : j < i
          · exact hj j h'
          · have : j = i := by omega
            rw [this]; exact h)) (g.getD i []).length 0 (by omega) (by omega)
    refine ⟨k + 1, ?_⟩
    rw [PShapeReducible.vellumref06_Valid.l0, if_pos (by omega)]
    exact hk
theorem refValid_is (g : List (List Int)) (hg : g.length ≤ 1000000000) (hr : ∀ l ∈ g, l.length ≤ 1000000000) : RefValidIs g (decide (ValidG g ∧ 0 < g.length)) :=
  refValid_l0 g hg hr _ rfl g.length 0 (by omega) (by omega)
def refCheckE (k : Nat) (s : S31) (g : List (List Int)) : Option Bool :=
  if fitG g ∧ szL s.f3 ≤ 100000000 then rCheckS ((compileF g s).map Stp.s77) g k else none
theorem refCheckE_is {k : Nat} {s : S31} {g : List (List Int)} {b : Bool} (h : refCheckE k s g = some b) : RefCheckIs s g b := by
  unfold refCheckE at h
  split at h
  · next hc =>
    have hv := refValid_is g (by have := hc.1.2.2.1; omega) hc.1.2.2.2
    rw [decide_eq_true (show ValidG g ∧ 0 < g.length from ⟨hc.1.1, hc.1.2.1⟩)] at hv
    exact .inr ⟨hv, by have := hc.1.2.2.1; omega, hc.2, k, h⟩
  · cases h
def checkE (k : Nat) (s : S31) (g : List (List Int)) : Option Bool :=
  if fitG g ∧ szL s.f3 ≤ 100000000 then (if (kRun g s).1 = true then kCheckS (kPts g s) g k else some false) else none
theorem checkE_is {k : Nat} {s : S31} {g : List (List Int)} {b : Bool} (h : checkE k s g = some b) : CheckIs s g b := by
  unfold checkE at h
  split at h
  · next hc =>
    have hv := valid_is g (by have := hc.1.2.2.1; omega) hc.1.2.2.2
    rw [decide_eq_true (show ValidG g ∧ 0 < g.length from ⟨hc.1.1, hc.1.2.1⟩)] at hv
    refine .inr ⟨hv, by have := hc.1.2.2.1; omega, hc.2, ?_⟩
    split at h
    · next h1 => exact .inr ⟨h1, k, h⟩
    · next h1 => injection h with h; exact .inl ⟨by simpa using h1, h.symm⟩
  · cases h
def sanS : S31 := ⟨1, 0, 0, [⟨4, 0, 0, [⟨2, 0, 0, [⟨2, 1, 0, [⟨5, 0, 0, []⟩]⟩, ⟨2, 2, 0, [⟨5, 0, 0, []⟩]⟩]⟩]⟩, ⟨2, 3, 0, []⟩]⟩
def sanT : S31 := ⟨2, 0, 0, [⟨3, 0, 0, [⟨2, 1, 0, [⟨2, 2, 0, [⟨6, 0, 0, []⟩]⟩, ⟨2, 3, 0, []⟩]⟩]⟩]⟩
def sanU : S31 := ⟨1, 0, 0, [⟨4, 0, 0, [⟨2, 0, 0, [⟨5, 0, 0, []⟩, ⟨2, 2, 0, [⟨5, 0, 0, []⟩]⟩]⟩]⟩, ⟨3, 0, 1, [⟨2, 1, 0, [⟨2, 2, 0, [⟨6, 0, 1, []⟩]⟩]⟩]⟩]⟩
theorem sanFacts : SanFacts sanS sanT sanU ⟨0, 0, 0, []⟩ where
  hs := structE_is (k := 60) (by kernel_rfl)
  ht := structE_is (k := 60) (by kernel_rfl)
  hx := structE_is (k := 60) (by kernel_rfl)
  hu := structE_is (k := 60) (by kernel_rfl)
  r1 := refCheckE_is (k := 60) (by kernel_rfl)
  r2 := refCheckE_is (k := 60) (by kernel_rfl)
  r3 := refCheckE_is (k := 60) (by kernel_rfl)
  c1 := checkE_is (k := 60) (by kernel_rfl)
  c2 := checkE_is (k := 60) (by kernel_rfl)
#print axioms sanFacts
end Go.Proofs.Ytfiiihpdekppiaa
end
section
namespace Go.Proofs.Ytfiiihpdekppiaa.PShapeReducible
open Go.RowKit Go.Proofs.YtfiiihpdekppiaaW.PrintWords Go.Proofs.YtfiiihpdekppiaaW.PrintLast Go.Proofs.YtfiiihpdekppiaaW.PrintMore
attribute [local go_sem] max2_int min2_int max_two min_two max_three min_three max_four min_four
set_option linter.unusedVariables false
set_option linter.unusedSimpArgs false
mutual
def vellumref12_Count.j0 : Nat → Int → Int → Int → Int → Int → List (S31) → Option (Int)
  | 0, _, _, _, _, _, _ => none
  | k + 1, x1, x5, x401000, x401001, x401002, x401003 => vellumref12_Count.l0 k x1 x5 0 x401000 x401001 x401002 x401003
def vellumref12_Count.l0 : Nat → Int → Int → Int → Int → Int → Int → List (S31) → Option (Int)
  | 0, _, _, _, _, _, _, _ => none
  | k + 1, x1, x5, x6, x401000, x401001, x401002, x401003 => if x6 < (x401003.length : Int) then (if 0 ≤ x6 then ((vellumref12_Count.f k ((rd_T31 x401003 x6).f0) ((rd_T31 x401003 x6).f1) ((rd_T31 x401003 x6).f2) ((rd_T31 x401003 x6).f3) x1).bind fun t402 => (vellumref12_Count.l0 k x1 (wrap64 (x5 + t402)) (wrap64 (x6 + 1)) x401000 x401001 x401002 x401003)) else (none)) else (some x5)
def vellumref12_Count.f : Nat → Int → Int → Int → List (S31) → Int → Option (Int)
  | 0, _, _, _, _, _ => none
  | k + 1, a0_0, a0_1, a0_2, l0_3, a1 => if a0_0 = a1 then (vellumref12_Count.j0 k a1 1 a0_0 a0_1 a0_2 l0_3) else (vellumref12_Count.j0 k a1 0 a0_0 a0_1 a0_2 l0_3)
end
theorem vellumref12_Count.mono_l : ∀ k, (∀ y0 y1 y2 y3 y4, LeO (vellumref12_Count.f k y0 y1 y2 y3 y4) (vellumref12_Count.f (k + 1) y0 y1 y2 y3 y4)) ∧ (∀ y0 y1 y2 y3 y4 y5, LeO (vellumref12_Count.j0 k y0 y1 y2 y3 y4 y5) (vellumref12_Count.j0 (k + 1) y0 y1 y2 y3 y4 y5)) ∧ (∀ y0 y1 y2 y3 y4 y5 y6, LeO (vellumref12_Count.l0 k y0 y1 y2 y3 y4 y5 y6) (vellumref12_Count.l0 (k + 1) y0 y1 y2 y3 y4 y5 y6))
  | 0 => ⟨fun _ _ _ _ _ r h => by simp [vellumref12_Count.f] at h, fun _ _ _ _ _ _ r h => by simp [vellumref12_Count.j0] at h, fun _ _ _ _ _ _ _ r h => by simp [vellumref12_Count.l0] at h⟩
  | k + 1 => by
    obtain ⟨ih0, ih1, ih2⟩ := vellumref12_Count.mono_l k
    refine ⟨?_, ?_, ?_⟩
    · intro y0 y1 y2 y3 y4
      unfold vellumref12_Count.f
      repeat' first
      | (with_reducible exact ih0 _ _ _ _ _)
      | (with_reducible exact ih1 _ _ _ _ _ _)
      | (with_reducible exact ih2 _ _ _ _ _ _ _)
      | (with_reducible exact LeO.refl _)
      | (with_reducible exact LeO.none _)
      | (with_reducible refine LeO.ite ?_ ?_)
      | (with_reducible refine LeO.bind ?_ (fun _ => ?_))
      | exact ih0 _ _ _ _ _
      | exact ih1 _ _ _ _ _ _
      | exact ih2 _ _ _ _ _ _ _
      | exact LeO.none _
      | refine LeO.ite ?_ ?_
      | refine LeO.bind ?_ (fun _ => ?_)
    · intro y0 y1 y2 y3 y4 y5
      unfold vellumref12_Count.j0
      repeat' first
      | (with_reducible exact ih0 _ _ _ _ _)
      | (with_reducible exact ih1 _ _ _ _ _ _)
      | (with_reducible exact ih2 _ _ _ _ _ _ _)
      | (with_reducible exact LeO.refl _)
      | (with_reducible exact LeO.none _)
      | (with_reducible refine LeO.ite ?_ ?_)
      | (with_reducible refine LeO.bind ?_ (fun _ => ?_))
      | exact ih0 _ _ _ _ _
      | exact ih1 _ _ _ _ _ _
      | exact ih2 _ _ _ _ _ _ _
      | exact LeO.none _
      | refine LeO.ite ?_ ?_
      | refine LeO.bind ?_ (fun _ => ?_)
    · intro y0 y1 y2 y3 y4 y5 y6
      unfold vellumref12_Count.l0
      repeat' first
      | (with_reducible exact ih0 _ _ _ _ _)
      | (with_reducible exact ih1 _ _ _ _ _ _)
      | (with_reducible exact ih2 _ _ _ _ _ _ _)
      | (with_reducible exact LeO.refl _)
      | (with_reducible exact LeO.none _)
      | (with_reducible refine LeO.ite ?_ ?_)
      | (with_reducible refine LeO.bind ?_ (fun _ => ?_))
      | exact ih0 _ _ _ _ _
      | exact ih1 _ _ _ _ _ _
      | exact ih2 _ _ _ _ _ _ _
      | exact LeO.none _
      | refine LeO.ite ?_ ?_
      | refine LeO.bind ?_ (fun _ => ?_)
theorem vellumref12_Count.mono : ∀ a0 a1 a2 a3 a4 k, LeO (vellumref12_Count.f k a0 a1 a2 a3 a4) (vellumref12_Count.f (k + 1) a0 a1 a2 a3 a4) := by
  intro a0 a1 a2 a3 a4 k
  obtain ⟨ih0, ih1, ih2⟩ := vellumref12_Count.mono_l k
  exact ih0 a0 a1 a2 a3 a4
set_option maxHeartbeats 8000000 in
set_option maxRecDepth 100000 in
theorem vellumref12_Count.calls (k : Nat) : ∀ (a0_0 : Int) (a0_1 : Int) (a0_2 : Int) (A0_3 : Option Addr) (c0_3 : Nat) (l0_3 : List (S31)) (a1 : Int) (r : Int) (w : World) (hr0_3 : Kd.C k31 w A0_3 l0_3.length l0_3) (hc0_3 : l0_3.length ≤ c0_3) (h : vellumref12_Count.f k a0_0 a0_1 a0_2 l0_3 a1 = some r),
    Calls Try.prog 24 #[.agg #[.int .i64 a0_0, .int .i64 a0_1, .int .i64 a0_2, .slice A0_3 l0_3.length c0_3], .int .i64 a1] w fun e w' => e = .returned (.int .i64 r) ∧ Below w.heap.size w w' := by
  induction k using Nat.strongRecOn with
  | _ k ih =>
  intro a0_0 a0_1 a0_2 A0_3 c0_3 l0_3 a1 r w hr0_3 hc0_3 h
  cases k with
  | zero => exact absurd h (by simp [vellumref12_Count.f])
  | succ k =>
  simp only [vellumref12_Count.f] at h
  have hu31 := Try.underlying31
  have HR0_3 := Aside0.mk hr0_3
  have HC0_3 := Aside0.mk hc0_3
  clear hr0_3 hc0_3
  have HB := Aside0.mk (Below.refl w.heap.size w)
  have H : (if a0_0 = a1 then (vellumref12_Count.j0 k a1 1 a0_0 a0_1 a0_2 l0_3) else (vellumref12_Count.j0 k a1 0 a0_0 a0_1 a0_2 l0_3)) = some r := h
  clear h
  have HC3 := Aside0.mk H
  clear H
  go_enter Try.func24, Try.ntmps24
  go_upto_if 10 with (first | ((with_reducible refine gate_dst (N := 2) rfl ?_); refine box_event ?hg (N := 2) ?hd (cs := #[.int .i64 a0_0, .int .i64 a0_1, .int .i64 a0_2, .slice A0_3 l0_3.length c0_3]) (t := 31) ?hr ?_; (case hd => rfl); (case hg => rfl); (case hr => first | (go_simp; done) | (go_simp; rfl)); intro gb400 hg w4 hbox hb; have n0_ := Aside0.mk (below_step (by repeat (first | (with_reducible first | exact HB.out | apply below_alloc | apply pw_below_drewN | apply below_drew1) | exact HB.out)) hb); have n1_ := Aside0.mk (hbox); have n2_ := Aside0.mk ((by rw [hg]; exact (below_size (by repeat (first | (with_reducible first | exact HB.out | apply below_alloc | apply pw_below_drewN | apply below_drew1) | exact HB.out))) : w.heap.size ≤ gb400)); have n3_ := Aside0.mk ((by rw [hg]; exact (below_size (by repeat (first | (with_reducible first | exact HB.out | apply below_alloc | apply pw_below_drewN | apply below_drew1) | exact HB.out))) : w.heap.size ≤ gb400)); clear HB; have HB := n0_; have BK400 := n1_; have GW400 := n2_; have GE400 := n3_; clear n0_ n1_ n2_ n3_; clear hb hbox hg; have hcz5_0 : w4.cell? ⟨gb400, 0, none⟩ = some (.int .i64 a0_0) := (blk_cell BK400.out 0).trans rfl; have hcz5_1 : w4.cell? ⟨gb400, 1, none⟩ = some (.int .i64 a0_1) := (blk_cell BK400.out 1).trans rfl; have hcz5_2 : w4.cell? ⟨gb400, 2, none⟩ = some (.int .i64 a0_2) := (blk_cell BK400.out 2).trans rfl; have hcz5_3 : w4.cell? ⟨gb400, 3, none⟩ = some (.slice A0_3 l0_3.length c0_3) := (blk_cell BK400.out 3).trans rfl; have hfz5_0 := blk_frozen BK400.out 0; have hfz5_1 := blk_frozen BK400.out 1; have hfz5_2 := blk_frozen BK400.out 2; have hfz5_3 := blk_frozen BK400.out 3))
  (try simp only [Act.put, List.setIfInBounds_toArray, List.set_cons_zero, List.set_cons_succ])
  go_cut [5] (fun v5 wc => ∃ (kq : Nat) (x5_2 : Int), v5 = .int .i64 x5_2 ∧ Aside0 (vellumref12_Count.j0 kq a1 x5_2 a0_0 a0_1 a0_2 l0_3 = some r) ∧ Aside0 (kq ≤ k) ∧ Aside0 (wc.heap[gb400]? = some (.cells #[.int .i64 a0_0, .int .i64 a0_1, .int .i64 a0_2, (.slice A0_3 l0_3.length c0_3)] 31 (0, 0))) ∧ Aside0 (Below w.heap.size w wc))
  case first =>
    have H := HC3.out
    clear HC3
    by_cases c6 : a0_0 = a1
    · rw [if_pos c6] at H
      have c6b0 : (a0_0 == a1) = true := beq_iff_eq.mpr c6
      have c6b1 : (a0_0 != a1) = false := bne_eq_false_iff_eq.mpr c6
      clear c6
      (first | rw [c6b0] | (simp only [i64_w, i32_w]; rw [c6b0]) | skip)
      have H' := Aside0.mk H
      clear H
      go_wp2
      go_meet
      case rel => exact ⟨_, (1), (by first | rfl | (simp; done) | (simp [*]; done)), H', ⟨by first | omega | exact Nat.le_refl _⟩, ⟨by (with_reducible repeat (first | refine blk_drewN ?_ _ | refine blk_drew ?_ | refine blk_alloc ?_ _)); exact BK400.out⟩, ⟨by repeat (first | (with_reducible first | exact HB.out | apply below_alloc | apply pw_below_drewN | apply below_drew1 | refine below_set ?_ GE400.out) | exact HB.out)⟩⟩
    · rw [if_neg c6] at H
      have c6b0 : (a0_0 == a1) = false := beq_eq_false_iff_ne.mpr c6
      have c6b1 : (a0_0 != a1) = true := bne_iff_ne.mpr c6
      (first | rw [c6b0] | (simp only [i64_w, i32_w]; rw [c6b0]) | skip)
      have H' := Aside0.mk H
      clear H
      go_wp2
      go_meet
      case rel => exact ⟨_, (0), (by first | rfl | (simp; done) | (simp [*]; done)), H', ⟨by first | omega | exact Nat.le_refl _⟩, ⟨by (with_reducible repeat (first | refine blk_drewN ?_ _ | refine blk_drew ?_ | refine blk_alloc ?_ _)); exact BK400.out⟩, ⟨by repeat (first | (with_reducible first | exact HB.out | apply below_alloc | apply pw_below_drewN | apply below_drew1 | refine below_set ?_ GE400.out) | exact HB.out)⟩⟩
  case rest =>
    clear HC3
    try clear c2
    try clear p2
    try clear c6
    try clear c6b0
    try clear c6b1
    try clear hcz5_0
    try clear hcz5_1
    try clear hcz5_2
    try clear hcz5_3
    try clear hfz5_0
    try clear hfz5_1
    try clear hfz5_2
    try clear hfz5_3
    obtain ⟨kq, x5_2, rfl, HA, HJ2, BK400, HB⟩ := hcut
    cases kq with
    | zero => exact absurd HA.out (by simp [vellumref12_Count.j0])
    | succ kj2 =>
      have H := HA.out
      clear HA
      simp only [vellumref12_Count.j0] at H
      have H' := Aside0.mk H
      clear H
      go_wp2
      go_loopg [5, 6] kj2 (fun kq v5 v6 w' => ∃ (x5_2 : Int) (x6_2 : Int), v5 = .int .i64 x5_2 ∧ v6 = .int .i64 x6_2 ∧ Aside0 (vellumref12_Count.l0 kq a1 x5_2 x6_2 a0_0 a0_1 a0_2 l0_3 = some r) ∧ Aside0 (kq ≤ kj2) ∧ Aside0 (w'.heap[gb400]? = some (.cells #[.int .i64 a0_0, .int .i64 a0_1, .int .i64 a0_2, (.slice A0_3 l0_3.length c0_3)] 31 (0, 0))) ∧ Aside0 (Below w.heap.size w w'))
      case atStart => exact ⟨(x5_2), (0), (by first | rfl | (simp; done) | (simp [*]; done)), (by first | rfl | (simp; done) | (simp [*]; done)), H', ⟨Nat.le_refl _⟩, ⟨by (with_reducible repeat (first | refine blk_drewN ?_ _ | refine blk_drew ?_ | refine blk_alloc ?_ _)); exact BK400.out⟩, ⟨by repeat (first | (with_reducible first | exact HB.out | apply below_alloc | apply pw_below_drewN | apply below_drew1 | refine below_set ?_ GE400.out) | exact HB.out)⟩⟩
      case round =>
        clear H'
        try clear c2
        try clear p2
        try clear c6
        try clear c6b0
        try clear c6b1
        try clear hcz5_0
        try clear hcz5_1
        try clear hcz5_2
        try clear hcz5_3
        try clear hfz5_0
        try clear hfz5_1
        try clear hfz5_2
        try clear hfz5_3
        try clear p2
        obtain ⟨x5_2, x6_2, rfl, rfl, HA, HK2, BK400, HB⟩ := hrel
        cases gk with
        | zero => exact absurd HA.out (by simp [vellumref12_Count.l0])
        | succ k2 =>
          have H := HA.out
          clear HA
          simp only [vellumref12_Count.l0] at H
          by_cases c7 : x6_2 < (l0_3.length : Int)
          · rw [if_pos c7] at H
            have c7b0 : decide (x6_2 < (l0_3.length : Int)) = true := decide_eq_true c7
            clear c7
            by_cases c8 : 0 ≤ x6_2
            · rw [if_pos c8] at H
              have c8b0 : decide (0 ≤ x6_2) = true := decide_eq_true c8
              clear c8
              replace H := Option.bind_eq_some_iff.mp H
              obtain ⟨t402, A90, H⟩ := H
              replace H : (vellumref12_Count.l0 k2 a1 (wrap64 (x5_2 + t402)) (wrap64 (x6_2 + 1)) a0_0 a0_1 a0_2 l0_3) = some r := H
              have A9 := Aside0.mk A90
              clear A90
              have H' := Aside0.mk H
              clear H
              have hcz10_0 : wr.cell? ⟨gb400, 0, none⟩ = some (.int .i64 a0_0) := (blk_cell BK400.out 0).trans rfl
              have hcz10_1 : wr.cell? ⟨gb400, 1, none⟩ = some (.int .i64 a0_1) := (blk_cell BK400.out 1).trans rfl
              have hcz10_2 : wr.cell? ⟨gb400, 2, none⟩ = some (.int .i64 a0_2) := (blk_cell BK400.out 2).trans rfl
              have hcz10_3 : wr.cell? ⟨gb400, 3, none⟩ = some (.slice A0_3 l0_3.length c0_3) := (blk_cell BK400.out 3).trans rfl
              have hfz10_0 := blk_frozen BK400.out 0
              have hfz10_1 := blk_frozen BK400.out 1
              have hfz10_2 := blk_frozen BK400.out 2
              have hfz10_3 := blk_frozen BK400.out 3
              have p401 : 0 ≤ (x6_2 : Int) := of_decide_eq_true (by first | (with_reducible assumption) | assumption)
              have q401 : x6_2 < (l0_3.length : Int) := of_decide_eq_true (by first | (with_reducible assumption) | assumption)
              obtain ⟨ad401, A401_3, c401_3, e401, hx401_0, hx401_1, hx401_2, hx401_3, hl401_3, hi401_3⟩ := at_T31 HR0_3.out x6_2 p401 q401
              cases e401
              replace hx401_0 := (HB.out.cell (World.block_lt_of_cell? w _ hx401_0)).trans hx401_0
              replace hx401_1 := (HB.out.cell (World.block_lt_of_cell? w _ hx401_1)).trans hx401_1
              replace hx401_2 := (HB.out.cell (World.block_lt_of_cell? w _ hx401_2)).trans hx401_2
              replace hx401_3 := (HB.out.cell (World.block_lt_of_cell? w _ hx401_3)).trans hx401_3
              have HR401_3 := Aside0.mk hi401_3
              have HC401_3 := Aside0.mk hl401_3
              clear hi401_3 hl401_3
              replace p401 := eq_true p401
              replace q401 := eq_true q401
              go_wp2_with (first | ((with_reducible refine gate_callee (f := 24) rfl ?_); refine goesL_ (some 25) rfl rfl Try.func24 (by kernel_rfl) rfl #[.agg #[.int .i64 ((rd_T31 l0_3 x6_2).f0), .int .i64 ((rd_T31 l0_3 x6_2).f1), .int .i64 ((rd_T31 l0_3 x6_2).f2), .slice A401_3 ((rd_T31 l0_3 x6_2).f3).length c401_3], .int .i64 a1] rfl (by (try simp only [List.map_toArray, List.map_cons, List.map_nil]); first | done | rfl | (simp only [List.length_drop, List.length_take]; rfl)) ?_; (with_reducible refine (ih k2 (by have := HJ2.out; have := HK2.out; omega) ((rd_T31 l0_3 x6_2).f0) ((rd_T31 l0_3 x6_2).f1) ((rd_T31 l0_3 x6_2).f2) _ _ ((rd_T31 l0_3 x6_2).f3) a1 t402 _ ?side1 ?side2 A9.out).mono ?_); (case side1 => repeat (first | exact (Kd.C_below HR401_3.out HB.out) | (with_reducible refine Kd.C_alloc ?_ _) | (with_reducible refine Kd.C_drewN ?_ _) | (with_reducible refine Kd.C_drew ?_))); (case side2 => exact HC401_3.out); rintro e w11 ⟨rfl, hb⟩; refine ⟨_, rfl, ?_⟩; have n0_ := Aside0.mk (Go.Proofs.YtfiiihpdekppiaaW.PrintWords.blk_below (g := gb400) (o := .cells #[.int .i64 a0_0, .int .i64 a0_1, .int .i64 a0_2, .slice (some ad401) l0_3.length c0_3] 31 (0, 0)) (by (with_reducible repeat (first | refine blk_drewN ?_ _ | refine blk_drew ?_ | refine blk_alloc ?_ _)); exact BK400.out) hb); have n1_ := Aside0.mk (below_step (by repeat (first | (with_reducible first | exact HB.out | apply below_alloc | apply pw_below_drewN | apply below_drew1 | refine below_set ?_ GE400.out) | exact HB.out)) hb); clear BK400; clear HB; have BK400 := n0_; have HB := n1_; clear n0_ n1_; (try clear hb); (try clear hb2); (try clear hk); (try clear hi)))
              go_roundg k2
              case measure => have := HJ2.out; have := HK2.out; omega
              case rel => exact ⟨(wrap64 (x5_2 + t402)), (wrap64 (x6_2 + 1)), (by first | rfl | (simp; done) | (simp [*]; done)), (by first | rfl | (simp; done) | (simp [*]; done)), H', ⟨by have := HJ2.out; have := HK2.out; omega⟩, ⟨by (with_reducible repeat (first | refine blk_drewN ?_ _ | refine blk_drew ?_ | refine blk_alloc ?_ _)); exact BK400.out⟩, ⟨by repeat (first | (with_reducible first | exact HB.out | apply below_alloc | apply pw_below_drewN | apply below_drew1 | refine below_set ?_ GE400.out) | exact HB.out)⟩⟩
            · rw [if_neg c8] at H
              exact absurd H (by simp)
          · rw [if_neg c7] at H
            have c7b0 : decide (x6_2 < (l0_3.length : Int)) = false := decide_eq_false c7
            clear c7
            obtain rfl := Option.some.inj H
            have hcz12_0 : wr.cell? ⟨gb400, 0, none⟩ = some (.int .i64 a0_0) := (blk_cell BK400.out 0).trans rfl
            have hcz12_1 : wr.cell? ⟨gb400, 1, none⟩ = some (.int .i64 a0_1) := (blk_cell BK400.out 1).trans rfl
            have hcz12_2 : wr.cell? ⟨gb400, 2, none⟩ = some (.int .i64 a0_2) := (blk_cell BK400.out 2).trans rfl
            have hcz12_3 : wr.cell? ⟨gb400, 3, none⟩ = some (.slice A0_3 l0_3.length c0_3) := (blk_cell BK400.out 3).trans rfl
            have hfz12_0 := blk_frozen BK400.out 0
            have hfz12_1 := blk_frozen BK400.out 1
            have hfz12_2 := blk_frozen BK400.out 2
            have hfz12_3 := blk_frozen BK400.out 3
            go_wp2
            go_ret
            exact ⟨by first | rfl | (simp [errW_none, errW_some] <;> rfl) | (simp [*, errW_none, errW_some] <;> rfl), by repeat (first | (with_reducible first | exact HB.out | apply below_alloc | apply pw_below_drewN | apply below_drew1 | refine below_set ?_ GE400.out) | exact HB.out)⟩
end Go.Proofs.Ytfiiihpdekppiaa.PShapeReducible
end
section
namespace Go.Proofs.Ytfiiihpdekppiaa.PShapeNested
open Go.RowKit Go.Proofs.YtfiiihpdekppiaaW.PrintWords Go.Proofs.YtfiiihpdekppiaaW.PrintLast Go.Proofs.YtfiiihpdekppiaaW.PrintMore
attribute [local go_sem] max2_int min2_int max_two min_two max_three min_three max_four min_four
set_option linter.unusedVariables false
set_option linter.unusedSimpArgs false
def errW : Option Int → Value
  | none => .nilIface
  | some c => .iface 0 (.int .i64 c)
theorem errW_none : errW none = .nilIface := rfl
theorem errW_some (c : Int) : errW (some c) = .iface 0 (.int .i64 c) := rfl
theorem info3 : (Try.prog.info? 3).map (fun i => (i.zero, i.size, i.bytes)) = some (some (.int .i64 0), 1, 8) := by kernel_rfl
def rd_L1 (xs : List (List Int)) (i : Int) : (List Int) := xs.getD i.toNat ([] : List Int)
theorem at_L1 {w : World} {A : Option Addr} {n : Nat} {xs : List (List Int)} (h : Kd.C (Kd.slice 3 (Kd.int .i64)) w A n xs) (i : Int) (h0 : 0 ≤ i) (h1 : i < n) : ∃ ad A0 c0, A = some ad ∧ w.cell? (ad.add i.toNat) = some (.slice A0 (rd_L1 xs i).length c0) ∧ (rd_L1 xs i).length ≤ c0 ∧ (Kd.int .i64).C w A0 (rd_L1 xs i).length (rd_L1 xs i) := by
  obtain ⟨ad, c, e, _, hK, hc0⟩ := Kd.C_get h ([] : List Int) i h0 h1
  have hc : ∀ j u, c[j]? = some u → w.cell? (ad.add (i.toNat * 1 + j)) = some u := hc0
  obtain ⟨A0, c0, rfl, l0, g0⟩ := hK
  exact ⟨ad, A0, c0, e, by have hq := hc 0 _ rfl; rwa [Nat.mul_one, Nat.add_zero] at hq, l0, g0⟩
structure S31 where
  f0 : Int
  f1 : Int
  f2 : Int
  f3 : (List S31)
structure S141 where
  f0 : Int
  f1 : Int
  f2 : Bool
  f3 : (List Int)
def k141 : Kd S141 := Kd.iso (Kd.pair (Kd.int .i64) (Kd.pair (Kd.int .i64) (Kd.pair Kd.bool (Kd.slice 3 (Kd.int .i64))))) (fun x : S141 => (x.f0, x.f1, x.f2, x.f3))
structure S77 where
  f0 : Int
  f1 : Int
  f2 : (List Int)
def k77 : Kd S77 := Kd.iso (Kd.pair (Kd.int .i64) (Kd.pair (Kd.int .i64) (Kd.slice 3 (Kd.int .i64)))) (fun x : S77 => (x.f0, x.f1, x.f2))
end Go.Proofs.Ytfiiihpdekppiaa.PShapeNested
end
section
namespace Go.Proofs.Ytfiiihpdekppiaa.PShapeNested
open Go.RowKit Go.Proofs.YtfiiihpdekppiaaW.PrintWords Go.Proofs.YtfiiihpdekppiaaW.PrintLast Go.Proofs.YtfiiihpdekppiaaW.PrintMore
attribute [local go_sem] max2_int min2_int max_two min_two max_three min_three max_four min_four
set_option linter.unusedVariables false
set_option linter.unusedSimpArgs false
def IsS124 (w0 W : World) (g : Nat) (f0 : List (List Int)) (f1 : List (S77)) (f2 : List (S141)) (f3 : List Int) (f4 : Bool) : Prop := ∃ A0 c0, ∃ A1 c1, ∃ A2 c2, ∃ A3 c3, W.heap[g]? = some (.cells #[.slice A0 f0.length c0, .slice A1 f1.length c1, .slice A2 f2.length c2, .slice A3 f3.length c3, .bool f4] 124 (0, 0)) ∧ w0.heap.size ≤ g ∧ Kd.C (Kd.slice 3 (Kd.int .i64)) w0 A0 f0.length f0 ∧ Kd.C k77 w0 A1 f1.length f1 ∧ Kd.C k141 w0 A2 f2.length f2 ∧ Kd.C (Kd.int .i64) w0 A3 f3.length f3
theorem IsS124.drewN {w0 W : World} {g : Nat} {f0 : List (List Int)} {f1 : List (S77)} {f2 : List (S141)} {f3 : List Int} {f4 : Bool} (h : IsS124 w0 W g f0 f1 f2 f3 f4) (m : Nat) : IsS124 w0 (W.drewN m) g f0 f1 f2 f3 f4 := h
def vellumref06_Ints.l0 : Nat → List Int → List Int → Int → Option (Bool)
  | 0, _, _, _ => none
  | k + 1, x0, x1, x5 => if x5 < (x0.length : Int) then (if 0 ≤ x5 then (if x5 < (x1.length : Int) then (if (rd x0 x5) = (rd x1 x5) then (vellumref06_Ints.l0 k x0 x1 (wrap64 (x5 + 1))) else (some false)) else (none)) else (none)) else (some true)
def vellumref06_Ints.f (k : Nat) (l0 : List Int) (l1 : List Int) : Option (Bool) := if (l0.length : Int) = (l1.length : Int) then (vellumref06_Ints.l0 k l0 l1 0) else (some false)
set_option maxHeartbeats 8000000 in
set_option maxRecDepth 100000 in
theorem vellumref06_Ints.calls (k : Nat) (A0 : Option Addr) (c0 : Nat) (l0 : List Int) (A1 : Option Addr) (c1 : Nat) (l1 : List Int) (r : Bool) (w : World) (hr0 : Kd.C (Kd.int .i64) w A0 l0.length l0) (hc0 : l0.length ≤ c0) (hr1 : Kd.C (Kd.int .i64) w A1 l1.length l1) (hc1 : l1.length ≤ c1) (h : vellumref06_Ints.f k l0 l1 = some r) :
    Calls Try.prog 19 #[.slice A0 l0.length c0, .slice A1 l1.length c1] w fun e w' => e = .returned (.bool r) ∧ Drawn0 w w' := by
  have HR0 := Aside0.mk hr0
  have HC0 := Aside0.mk hc0
  clear hr0 hc0
  have HR1 := Aside0.mk hr1
  have HC1 := Aside0.mk hc1
  clear hr1 hc1
  have H : (if (l0.length : Int) = (l1.length : Int) then (vellumref06_Ints.l0 k l0 l1 0) else (some false)) = some r := h
  clear h
  by_cases c3 : (l0.length : Int) = (l1.length : Int)
  · rw [if_pos c3] at H
    have c3b0 : ((l0.length : Int) == (l1.length : Int)) = true := beq_iff_eq.mpr c3
    have c3b1 : ((l0.length : Int) != (l1.length : Int)) = false := bne_eq_false_iff_eq.mpr c3
    have c3b2 : (l0.length == l1.length) = true := by first | simpa using c3 | (simp at c3 ⊢; omega)
    clear c3
    have H' := Aside0.mk H
    clear H
    go_enter Try.func19, Try.ntmps19
    go_wp2
    repeat (go_quiet (fail); try go_wp2)
    go_loopg [5] k (fun kq v5 w' => ∃ (x5_1 : Int), v5 = .int .i64 x5_1 ∧ Aside0 (vellumref06_Ints.l0 kq l0 l1 x5_1 = some r) ∧ Aside0 (kq ≤ k) ∧ Drawn0 w w')
    case atStart => exact ⟨(0), (by first | rfl | (simp; done) | (simp [*]; done)), H', ⟨Nat.le_refl _⟩, by repeat (first | exact Drawn0.refl _ | apply Drawn0.step)⟩
    case round =>
      clear H'
      try clear c1
      try clear p2
      try clear c3
      try clear c3b0
      try clear c3b1
      try clear c3b2
      obtain ⟨x5_1, rfl, HA, HK1, ⟨m1, rfl⟩⟩ := hrel
      cases gk with
      | zero => exact absurd HA.out (by simp [vellumref06_Ints.l0])
      | succ k1 =>
        have H := HA.out
        clear HA
        simp only [vellumref06_Ints.l0] at H
        by_cases c4 : x5_1 < (l0.length : Int)
        · rw [if_pos c4] at H
          have c4b0 : decide (x5_1 < (l0.length : Int)) = true := decide_eq_true c4
          clear c4
          by_cases c5 : 0 ≤ x5_1
          · rw [if_pos c5] at H
            have c5b0 : decide (0 ≤ x5_1) = true := decide_eq_true c5
            clear c5
            by_cases c6 : x5_1 < (l1.length : Int)
            · rw [if_pos c6] at H
              have c6b0 : decide (x5_1 < (l1.length : Int)) = true := decide_eq_true c6
              clear c6
              by_cases c7 : (rd l0 x5_1) = (rd l1 x5_1)
              · rw [if_pos c7] at H
                have c7b0 : ((rd l0 x5_1) == (rd l1 x5_1)) = true := beq_iff_eq.mpr c7
                have c7b1 : ((rd l0 x5_1) != (rd l1 x5_1)) = false := bne_eq_false_iff_eq.mpr c7
                clear c7
                have H' := Aside0.mk H
                clear H
                have p305 : 0 ≤ (x5_1 : Int) := of_decide_eq_true (by first | (with_reducible assumption) | assumption)
                have q305 : x5_1 < (l0.length : Int) := of_decide_eq_true (by first | (with_reducible assumption) | assumption)
                obtain ⟨ad305, e305, hx305_0⟩ := Kd.at_int HR0.out x5_1 p305 q305
                cases e305
                replace p305 := eq_true p305
                replace q305 := eq_true q305
                have p306 : 0 ≤ (x5_1 : Int) := of_decide_eq_true (by first | (with_reducible assumption) | assumption)
                have q306 : x5_1 < (l1.length : Int) := of_decide_eq_true (by first | (with_reducible assumption) | assumption)
                obtain ⟨ad306, e306, hx306_0⟩ := Kd.at_int HR1.out x5_1 p306 q306
                cases e306
                replace p306 := eq_true p306
                replace q306 := eq_true q306
                go_wp2
                repeat (go_quiet (fail); try go_wp2)
                go_roundg k1
                case measure => have := HK1.out; omega
                case rel => exact ⟨(wrap64 (x5_1 + 1)), (by first | rfl | (simp; done) | (simp [*]; done)), H', ⟨by have := HK1.out; omega⟩, by repeat (first | exact Drawn0.refl _ | apply Drawn0.step)⟩
              · rw [if_neg c7] at H
                have c7b0 : ((rd l0 x5_1) == (rd l1 x5_1)) = false := beq_eq_false_iff_ne.mpr c7
                have c7b1 : ((rd l0 x5_1) != (rd l1 x5_1)) = true := bne_iff_ne.mpr c7
                obtain rfl := Option.some.inj H
                have p305 : 0 ≤ (x5_1 : Int) := of_decide_eq_true (by first | (with_reducible assumption) | assumption)
                have q305 : x5_1 < (l0.length : Int) := of_decide_eq_true (by first | (with_reducible assumption) | assumption)
                obtain ⟨ad305, e305, hx305_0⟩ := Kd.at_int HR0.out x5_1 p305 q305
                cases e305
                replace p305 := eq_true p305
                replace q305 := eq_true q305
                have p306 : 0 ≤ (x5_1 : Int) := of_decide_eq_true (by first | (with_reducible assumption) | assumption)
                have q306 : x5_1 < (l1.length : Int) := of_decide_eq_true (by first | (with_reducible assumption) | assumption)
                obtain ⟨ad306, e306, hx306_0⟩ := Kd.at_int HR1.out x5_1 p306 q306
                cases e306
                replace p306 := eq_true p306
                replace q306 := eq_true q306
                go_wp2
                repeat (go_quiet (fail); try go_wp2)
                go_ret
                exact ⟨by first | rfl | (simp; done) | (simp [*]; done), by repeat (first | exact Drawn0.refl _ | apply Drawn0.step)⟩
            · rw [if_neg c6] at H
              exact absurd H (by simp)
          · rw [if_neg c5] at H
            exact absurd H (by simp)
        · rw [if_neg c4] at H
          have c4b0 : decide (x5_1 < (l0.length : Int)) = false := decide_eq_false c4
          clear c4
          obtain rfl := Option.some.inj H
          go_wp2
          repeat (go_quiet (fail); try go_wp2)
          go_ret
          exact ⟨by first | rfl | (simp; done) | (simp [*]; done), by repeat (first | exact Drawn0.refl _ | apply Drawn0.step)⟩
  · rw [if_neg c3] at H
    have c3b0 : ((l0.length : Int) == (l1.length : Int)) = false := beq_eq_false_iff_ne.mpr c3
    have c3b1 : ((l0.length : Int) != (l1.length : Int)) = true := bne_iff_ne.mpr c3
    have c3b2 : (l0.length == l1.length) = false := by first | simpa using c3 | (simp at c3 ⊢; omega)
    obtain rfl := Option.some.inj H
    go_enter Try.func19, Try.ntmps19
    go_wp2
    repeat (go_quiet (fail); try go_wp2)
    go_ret
    exact ⟨by first | rfl | (simp; done) | (simp [*]; done), by repeat (first | exact Drawn0.refl _ | apply Drawn0.step)⟩
def vellumref12_Mod.f (a0 : Int) (a1 : Int) : Option (Int) := if a1 = 0 then (none) else (some (Int.tmod (wrap64 ((Int.tmod a0 a1) + a1)) a1))
set_option maxHeartbeats 8000000 in
set_option maxRecDepth 100000 in
theorem vellumref12_Mod.calls (a0 : Int) (a1 : Int) (r : Int) (w : World) (h : vellumref12_Mod.f a0 a1 = some r) :
    Calls Try.prog 33 #[.int .i64 a0, .int .i64 a1] w fun e w' => e = .returned (.int .i64 r) ∧ Drawn0 w w' := by
  have H : (if a1 = 0 then (none) else (some (Int.tmod (wrap64 ((Int.tmod a0 a1) + a1)) a1))) = some r := h
  clear h
  by_cases c3 : a1 = 0
  · rw [if_pos c3] at H
    exact absurd H (by simp)
  · rw [if_neg c3] at H
    have c3b0 : (a1 == 0) = false := beq_eq_false_iff_ne.mpr c3
    have c3b1 : (a1 != 0) = true := bne_iff_ne.mpr c3
    obtain rfl := Option.some.inj H
    go_enter Try.func33, Try.ntmps33
    go_wp2
    go_ret
    exact ⟨by first | rfl | (simp; done) | (simp [*]; done), by repeat (first | exact Drawn0.refl _ | apply Drawn0.step)⟩
end Go.Proofs.Ytfiiihpdekppiaa.PShapeNested
end
