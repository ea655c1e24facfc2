/- A part of the proof that vellumlaw12.ShapeErrors is true for every input: walks of functions that the row reaches and plain laws that they need. Conditions: none. Joined by merge.py out of C36 T8 T3 T4 T5 T6; a part that began as a print is named P or W there and is trimmed. -/
import Derived.Test.YtfiiihpdekppiaaE4
import Derived.Test.YtfiiihpdekppiaaE5
import Derived.Test.YtfiiihpdekppiaaE6
import Derived.Test.YtfiiihpdekppiaaE19
set_option linter.unusedVariables false
set_option linter.unusedSimpArgs false
section
namespace Go.Proofs.Ytfiiihpdekppiaa
open Go.RowKit Go.Proofs Go.Proofs.YtfiiihpdekppiaaW.PrintWords
open Go.ChangeMaps (setBlock heap_setBlock_same heap_setBlock_other)
open PShapeReducible (S31 k31 at_T31 rd_T31 S77 k77)
def sanA : List (List Int) := [[1, 2], [3], [3], []]
def sanB : List (List Int) := [[1], [2, 3], [1], []]
def sanC : List (List Int) := [[1, 2], [2], [1]]
structure SanFacts (s t u x : S31) : Prop where
 hs : StructIs sanA 0 s 0
 ht : StructIs sanB 0 t 0
 hx : StructIs sanC 0 x 50
 hu : StructIs sanC 8 u 0
 r1 : RefCheckIs s sanA true
 r2 : RefCheckIs t sanB true
 r3 : RefCheckIs u sanC true
 c1 : CheckIs s sanA true
 c2 : CheckIs s sanB false
section
variable {w0 W : World} {F H : List Pc}
theorem Mem.rcheck {k j c n : Nat} {A A3 : Option Addr} {vs : List Value} {g : List (List Int)} {ok : Nat → Prop} {x : S31} {b : Bool} (M : Mem w0 W F H) (hk : H[k]? = some (.mat (.slice A g.length c) vs g)) (hj : H[j]? = some (.fk ok x (shc x A3 n))) (h : RefCheckIs x g b) :
  Calls Try.prog 22 #[.agg #[.int .i64 x.f0, .int .i64 x.f1, .int .i64 x.f2, .slice A3 x.f3.length n], .agg #[.slice A g.length c]] W fun e w' => e = .returned (.bool b) ∧ Mem w0 w' F H := by
 obtain ⟨A', c', e, hc, hC⟩ := M.matC hk
 cases e
 obtain ⟨h1, h2⟩ := M.fkC hj
 refine (rcheck_any W A n c g x.f0 x.f1 x.f2 x.f3 b hC hc A3 h2 h1 (by cases x; exact h)).mono ?_
 rintro e w' ⟨rfl, hb⟩
 exact ⟨rfl, M.below hb⟩
theorem Mem.scheck {k j c n : Nat} {A A3 : Option Addr} {vs : List Value} {g : List (List Int)} {ok : Nat → Prop} {x : S31} {b : Bool} (M : Mem w0 W F H) (hk : H[k]? = some (.mat (.slice A g.length c) vs g)) (hj : H[j]? = some (.fk ok x (shc x A3 n))) (h : CheckIs x g b) :
  Calls Try.prog 32 #[.agg #[.int .i64 x.f0, .int .i64 x.f1, .int .i64 x.f2, .slice A3 x.f3.length n], .agg #[.slice A g.length c]] W fun e w' => e = .returned (.bool b) ∧ Mem w0 w' F H := by
 obtain ⟨A', c', e, hc, hC⟩ := M.matC hk
 cases e
 obtain ⟨h1, h2⟩ := M.fkC hj
 refine (scheck_any W A n c g x.f0 x.f1 x.f2 x.f3 b hC hc A3 h2 h1 (by cases x; exact h)).mono ?_
 rintro e w' ⟨rfl, hb⟩
 exact ⟨rfl, M.below hb⟩
theorem Mem.struct {k c : Nat} {A : Option Addr} {vs : List Value} {g : List (List Int)} {x : S31} {budget err : Int} (M : Mem w0 W F H) (hk : H[k]? = some (.mat (.slice A g.length c) vs g)) (h : StructIs g budget x err) :
  Calls Try.prog 16 #[.agg #[.slice A g.length c], .int .i64 budget] W fun e w' => ∃ A3 n ok, e = .returned (.tuple #[.agg #[.int .i64 x.f0, .int .i64 x.f1, .int .i64 x.f2, .slice A3 x.f3.length n], .int .i64 err]) ∧ Mem w0 w' F (H ++ [.fk ok x (shc x A3 n)]) := by
 obtain ⟨A', c', e, hc, hC⟩ := M.matC hk
 cases e
 refine (structure_any W A c g budget x err hC hc h).mono ?_
 rintro e w' ⟨A3, n, ok, rfl, hfk, hok, hb⟩
 exact ⟨A3, n, _, rfl, M.newfk hb hfk hok⟩
end
set_option maxRecDepth 100000 in
set_option maxHeartbeats 4000000 in
theorem sanity_any (s t u x : S31) (h : SanFacts s t u x) (w : World) : Calls Try.prog 14 #[] w fun e w' => e = .returned (.bool true) ∧ Below w.heap.size w w' := by
 have HH := Aside0.mk h
 clear h
 obtain ⟨ab0, aw0, az0, aa0, aM0⟩ := Mem.lit2 (Mem.start w) 1 2
 obtain ⟨ab1, aw1, az1, aa1, aM1⟩ := Mem.one (aM0) 3
 obtain ⟨ab2, aw2, az2, aa2, aM2⟩ := Mem.one (aM1) 3
 obtain ⟨ab3, aw3, az3, aa3, aM3⟩ := Mem.lit0 (aM2)
 obtain ⟨abm, awm, azm, aam, aMm⟩ := Mem.graph4 (H := []) (show Mem w _ [] ([] ++ [.row (.slice (some ⟨ab0, 0, none⟩) 2 2) 3 1 ([1, 2] : List Int).length (nums .i64 [1, 2]), .row (.slice (some ⟨ab1, 0, none⟩) 1 1) 3 1 ([3] : List Int).length (nums .i64 [3]), .row (.slice (some ⟨ab2, 0, none⟩) 1 1) 3 1 ([3] : List Int).length (nums .i64 [3]), .row (.slice (some ⟨ab3, 0, none⟩) 0 0) 3 1 ([] : List Int).length (nums .i64 [])]) from aM3)
 clear aM0 aM1 aM2 aM3
 obtain ⟨abg, awg, azg, aag, aMg⟩ := Mem.alloc (show Mem w _ [] ([] ++ [.mat (.slice (some ⟨abm, 0, none⟩) 4 4) [.slice (some ⟨ab0, 0, none⟩) 2 2, .slice (some ⟨ab1, 0, none⟩) 1 1, .slice (some ⟨ab2, 0, none⟩) 1 1, .slice (some ⟨ab3, 0, none⟩) 0 0] [[1, 2], [3], [3], []]]) from aMm) (.cells #[.slice none 0 0] 27)
 have agf := aMg.free (k := 1) (j := 0) rfl
 have agc := aMg.cell (k := 1) (j := 0) rfl rfl
 obtain ⟨aws, aes, aMs⟩ := aMg.set (k := 1) 0 rfl (.slice (some ⟨abm, 0, none⟩) 4 4)
 have agd : aws.cell? ⟨abg, 0, none⟩ = some (.slice (some ⟨abm, 0, none⟩) 4 4) := aMs.cell (k := 1) (j := 0) rfl rfl
 have aMs := Aside0.mk (show Mem w aws [] [.mat (.slice (some ⟨abm, 0, none⟩) 4 4) [.slice (some ⟨ab0, 0, none⟩) 2 2, .slice (some ⟨ab1, 0, none⟩) 1 1, .slice (some ⟨ab2, 0, none⟩) 1 1, .slice (some ⟨ab3, 0, none⟩) 0 0] [[1, 2], [3], [3], []], .blk abg (.cells #[.slice (some ⟨abm, 0, none⟩) 4 4] 27 (0, 0))] from aMs)
 clear aMm aMg
 go_enter Try.func14, Try.ntmps14
 go_wp2_with (fail)
 go_at_call 16
 refine (Mem.struct (g := sanA) (c := 4) (k := 0) aMs.out rfl HH.out.hs).mono ?_
 rintro e sw ⟨sA, sn, sok, rfl, sM⟩
 obtain ⟨sbb, sw2, sz2, sa2, sM2⟩ := sM.alloc (.cells #[.int .i64 0, .int .i64 0, .int .i64 0, .slice none 0 0] 31)
 obtain ⟨sy1, sy2, sy3, sy4, ⟨ss1, ss2, ss3, ss4⟩, ⟨sc1, sc2, sc3, sc4⟩, ⟨sf1, sf2, sf3, sf4⟩, sM3⟩ := sM2.fill4 (k := 3) rfl (.int .i64 s.f0) (.int .i64 s.f1) (.int .i64 s.f2) (.slice sA s.f3.length sn)
 have sMs := Aside0.mk (show Mem w sy4 [] [.mat (.slice (some ⟨abm, 0, none⟩) 4 4) [.slice (some ⟨ab0, 0, none⟩) 2 2, .slice (some ⟨ab1, 0, none⟩) 1 1, .slice (some ⟨ab2, 0, none⟩) 1 1, .slice (some ⟨ab3, 0, none⟩) 0 0] [[1, 2], [3], [3], []], .blk abg (.cells #[.slice (some ⟨abm, 0, none⟩) 4 4] 27 (0, 0)), .fk sok s (shc s sA sn), .blk sbb (.cells #[.int .i64 s.f0, .int .i64 s.f1, .int .i64 s.f2, .slice sA s.f3.length sn] 31 (0, 0))] from sM3)
 clear sM sM2 sM3
 obtain ⟨bb0, bw0, bz0, ba0, bM0⟩ := Mem.one (sMs.out) 1
 obtain ⟨bb1, bw1, bz1, ba1, bM1⟩ := Mem.lit2 (bM0) 2 3
 obtain ⟨bb2, bw2, bz2, ba2, bM2⟩ := Mem.one (bM1) 1
 obtain ⟨bb3, bw3, bz3, ba3, bM3⟩ := Mem.lit0 (bM2)
 obtain ⟨bbm, bwm, bzm, bam, bMm⟩ := Mem.graph4 (H := [.mat (.slice (some ⟨abm, 0, none⟩) 4 4) [.slice (some ⟨ab0, 0, none⟩) 2 2, .slice (some ⟨ab1, 0, none⟩) 1 1, .slice (some ⟨ab2, 0, none⟩) 1 1, .slice (some ⟨ab3, 0, none⟩) 0 0] [[1, 2], [3], [3], []], .blk abg (.cells #[.slice (some ⟨abm, 0, none⟩) 4 4] 27 (0, 0)), .fk sok s (shc s sA sn), .blk sbb (.cells #[.int .i64 s.f0, .int .i64 s.f1, .int .i64 s.f2, .slice sA s.f3.length sn] 31 (0, 0))]) (show Mem w _ [] ([.mat (.slice (some ⟨abm, 0, none⟩) 4 4) [.slice (some ⟨ab0, 0, none⟩) 2 2, .slice (some ⟨ab1, 0, none⟩) 1 1, .slice (some ⟨ab2, 0, none⟩) 1 1, .slice (some ⟨ab3, 0, none⟩) 0 0] [[1, 2], [3], [3], []], .blk abg (.cells #[.slice (some ⟨abm, 0, none⟩) 4 4] 27 (0, 0)), .fk sok s (shc s sA sn), .blk sbb (.cells #[.int .i64 s.f0, .int .i64 s.f1, .int .i64 s.f2, .slice sA s.f3.length sn] 31 (0, 0))] ++ [.row (.slice (some ⟨bb0, 0, none⟩) 1 1) 3 1 ([1] : List Int).length (nums .i64 [1]), .row (.slice (some ⟨bb1, 0, none⟩) 2 2) 3 1 ([2, 3] : List Int).length (nums .i64 [2, 3]), .row (.slice (some ⟨bb2, 0, none⟩) 1 1) 3 1 ([1] : List Int).length (nums .i64 [1]), .row (.slice (some ⟨bb3, 0, none⟩) 0 0) 3 1 ([] : List Int).length (nums .i64 [])]) from bM3)
 clear bM0 bM1 bM2 bM3
 obtain ⟨bbg, bwg, bzg, bag, bMg⟩ := Mem.alloc (show Mem w _ [] ([.mat (.slice (some ⟨abm, 0, none⟩) 4 4) [.slice (some ⟨ab0, 0, none⟩) 2 2, .slice (some ⟨ab1, 0, none⟩) 1 1, .slice (some ⟨ab2, 0, none⟩) 1 1, .slice (some ⟨ab3, 0, none⟩) 0 0] [[1, 2], [3], [3], []], .blk abg (.cells #[.slice (some ⟨abm, 0, none⟩) 4 4] 27 (0, 0)), .fk sok s (shc s sA sn), .blk sbb (.cells #[.int .i64 s.f0, .int .i64 s.f1, .int .i64 s.f2, .slice sA s.f3.length sn] 31 (0, 0))] ++ [.mat (.slice (some ⟨bbm, 0, none⟩) 4 4) [.slice (some ⟨bb0, 0, none⟩) 1 1, .slice (some ⟨bb1, 0, none⟩) 2 2, .slice (some ⟨bb2, 0, none⟩) 1 1, .slice (some ⟨bb3, 0, none⟩) 0 0] [[1], [2, 3], [1], []]]) from bMm) (.cells #[.slice none 0 0] 27)
 have bgf := bMg.free (k := 5) (j := 0) rfl
 have bgc := bMg.cell (k := 5) (j := 0) rfl rfl
 obtain ⟨bws, bes, bMs⟩ := bMg.set (k := 5) 0 rfl (.slice (some ⟨bbm, 0, none⟩) 4 4)
 have bgd : bws.cell? ⟨bbg, 0, none⟩ = some (.slice (some ⟨bbm, 0, none⟩) 4 4) := bMs.cell (k := 5) (j := 0) rfl rfl
 have bMs := Aside0.mk (show Mem w bws [] [.mat (.slice (some ⟨abm, 0, none⟩) 4 4) [.slice (some ⟨ab0, 0, none⟩) 2 2, .slice (some ⟨ab1, 0, none⟩) 1 1, .slice (some ⟨ab2, 0, none⟩) 1 1, .slice (some ⟨ab3, 0, none⟩) 0 0] [[1, 2], [3], [3], []], .blk abg (.cells #[.slice (some ⟨abm, 0, none⟩) 4 4] 27 (0, 0)), .fk sok s (shc s sA sn), .blk sbb (.cells #[.int .i64 s.f0, .int .i64 s.f1, .int .i64 s.f2, .slice sA s.f3.length sn] 31 (0, 0)), .mat (.slice (some ⟨bbm, 0, none⟩) 4 4) [.slice (some ⟨bb0, 0, none⟩) 1 1, .slice (some ⟨bb1, 0, none⟩) 2 2, .slice (some ⟨bb2, 0, none⟩) 1 1, .slice (some ⟨bb3, 0, none⟩) 0 0] [[1], [2, 3], [1], []], .blk bbg (.cells #[.slice (some ⟨bbm, 0, none⟩) 4 4] 27 (0, 0))] from bMs)
 clear bMm bMg
 dsimp only
 go_wp2_with (fail)
 go_at_call 16
 refine (Mem.struct (g := sanB) (c := 4) (k := 4) bMs.out rfl HH.out.ht).mono ?_
 rintro e tw ⟨tA, tn, tok, rfl, tM⟩
 obtain ⟨tbb, tw2, tz2, ta2, tM2⟩ := tM.alloc (.cells #[.int .i64 0, .int .i64 0, .int .i64 0, .slice none 0 0] 31)
 obtain ⟨ty1, ty2, ty3, ty4, ⟨ts1, ts2, ts3, ts4⟩, ⟨tc1, tc2, tc3, tc4⟩, ⟨tf1, tf2, tf3, tf4⟩, tM3⟩ := tM2.fill4 (k := 7) rfl (.int .i64 t.f0) (.int .i64 t.f1) (.int .i64 t.f2) (.slice tA t.f3.length tn)
 have tMs := Aside0.mk (show Mem w ty4 [] [.mat (.slice (some ⟨abm, 0, none⟩) 4 4) [.slice (some ⟨ab0, 0, none⟩) 2 2, .slice (some ⟨ab1, 0, none⟩) 1 1, .slice (some ⟨ab2, 0, none⟩) 1 1, .slice (some ⟨ab3, 0, none⟩) 0 0] [[1, 2], [3], [3], []], .blk abg (.cells #[.slice (some ⟨abm, 0, none⟩) 4 4] 27 (0, 0)), .fk sok s (shc s sA sn), .blk sbb (.cells #[.int .i64 s.f0, .int .i64 s.f1, .int .i64 s.f2, .slice sA s.f3.length sn] 31 (0, 0)), .mat (.slice (some ⟨bbm, 0, none⟩) 4 4) [.slice (some ⟨bb0, 0, none⟩) 1 1, .slice (some ⟨bb1, 0, none⟩) 2 2, .slice (some ⟨bb2, 0, none⟩) 1 1, .slice (some ⟨bb3, 0, none⟩) 0 0] [[1], [2, 3], [1], []], .blk bbg (.cells #[.slice (some ⟨bbm, 0, none⟩) 4 4] 27 (0, 0)), .fk tok t (shc t tA tn), .blk tbb (.cells #[.int .i64 t.f0, .int .i64 t.f1, .int .i64 t.f2, .slice tA t.f3.length tn] 31 (0, 0))] from tM3)
 clear tM tM2 tM3
 obtain ⟨cb0, cw0, cz0, ca0, cM0⟩ := Mem.lit2 (tMs.out) 1 2
 obtain ⟨cb1, cw1, cz1, ca1, cM1⟩ := Mem.one (cM0) 2
 obtain ⟨cb2, cw2, cz2, ca2, cM2⟩ := Mem.one (cM1) 1
 obtain ⟨cbm, cwm, czm, cam, cMm⟩ := Mem.graph3 (H := [.mat (.slice (some ⟨abm, 0, none⟩) 4 4) [.slice (some ⟨ab0, 0, none⟩) 2 2, .slice (some ⟨ab1, 0, none⟩) 1 1, .slice (some ⟨ab2, 0, none⟩) 1 1, .slice (some ⟨ab3, 0, none⟩) 0 0] [[1, 2], [3], [3], []], .blk abg (.cells #[.slice (some ⟨abm, 0, none⟩) 4 4] 27 (0, 0)), .fk sok s (shc s sA sn), .blk sbb (.cells #[.int .i64 s.f0, .int .i64 s.f1, .int .i64 s.f2, .slice sA s.f3.length sn] 31 (0, 0)), .mat (.slice (some ⟨bbm, 0, none⟩) 4 4) [.slice (some ⟨bb0, 0, none⟩) 1 1, .slice (some ⟨bb1, 0, none⟩) 2 2, .slice (some ⟨bb2, 0, none⟩) 1 1, .slice (some ⟨bb3, 0, none⟩) 0 0] [[1], [2, 3], [1], []], .blk bbg (.cells #[.slice (some ⟨bbm, 0, none⟩) 4 4] 27 (0, 0)), .fk tok t (shc t tA tn), .blk tbb (.cells #[.int .i64 t.f0, .int .i64 t.f1, .int .i64 t.f2, .slice tA t.f3.length tn] 31 (0, 0))]) (show Mem w _ [] ([.mat (.slice (some ⟨abm, 0, none⟩) 4 4) [.slice (some ⟨ab0, 0, none⟩) 2 2, .slice (some ⟨ab1, 0, none⟩) 1 1, .slice (some ⟨ab2, 0, none⟩) 1 1, .slice (some ⟨ab3, 0, none⟩) 0 0] [[1, 2], [3], [3], []], .blk abg (.cells #[.slice (some ⟨abm, 0, none⟩) 4 4] 27 (0, 0)), .fk sok s (shc s sA sn), .blk sbb (.cells #[.int .i64 s.f0, .int .i64 s.f1, .int .i64 s.f2, .slice sA s.f3.length sn] 31 (0, 0)), .mat (.slice (some ⟨bbm, 0, none⟩) 4 4) [.slice (some ⟨bb0, 0, none⟩) 1 1, .slice (some ⟨bb1, 0, none⟩) 2 2, .slice (some ⟨bb2, 0, none⟩) 1 1, .slice (some ⟨bb3, 0, none⟩) 0 0] [[1], [2, 3], [1], []], .blk bbg (.cells #[.slice (some ⟨bbm, 0, none⟩) 4 4] 27 (0, 0)), .fk tok t (shc t tA tn), .blk tbb (.cells #[.int .i64 t.f0, .int .i64 t.f1, .int .i64 t.f2, .slice tA t.f3.length tn] 31 (0, 0))] ++ [.row (.slice (some ⟨cb0, 0, none⟩) 2 2) 3 1 ([1, 2] : List Int).length (nums .i64 [1, 2]), .row (.slice (some ⟨cb1, 0, none⟩) 1 1) 3 1 ([2] : List Int).length (nums .i64 [2]), .row (.slice (some ⟨cb2, 0, none⟩) 1 1) 3 1 ([1] : List Int).length (nums .i64 [1])]) from cM2)
 clear cM0 cM1 cM2
 obtain ⟨cbg, cwg, czg, cag, cMg⟩ := Mem.alloc (show Mem w _ [] ([.mat (.slice (some ⟨abm, 0, none⟩) 4 4) [.slice (some ⟨ab0, 0, none⟩) 2 2, .slice (some ⟨ab1, 0, none⟩) 1 1, .slice (some ⟨ab2, 0, none⟩) 1 1, .slice (some ⟨ab3, 0, none⟩) 0 0] [[1, 2], [3], [3], []], .blk abg (.cells #[.slice (some ⟨abm, 0, none⟩) 4 4] 27 (0, 0)), .fk sok s (shc s sA sn), .blk sbb (.cells #[.int .i64 s.f0, .int .i64 s.f1, .int .i64 s.f2, .slice sA s.f3.length sn] 31 (0, 0)), .mat (.slice (some ⟨bbm, 0, none⟩) 4 4) [.slice (some ⟨bb0, 0, none⟩) 1 1, .slice (some ⟨bb1, 0, none⟩) 2 2, .slice (some ⟨bb2, 0, none⟩) 1 1, .slice (some ⟨bb3, 0, none⟩) 0 0] [[1], [2, 3], [1], []], .blk bbg (.cells #[.slice (some ⟨bbm, 0, none⟩) 4 4] 27 (0, 0)), .fk tok t (shc t tA tn), .blk tbb (.cells #[.int .i64 t.f0, .int .i64 t.f1, .int .i64 t.f2, .slice tA t.f3.length tn] 31 (0, 0))] ++ [.mat (.slice (some ⟨cbm, 0, none⟩) 3 3) [.slice (some ⟨cb0, 0, none⟩) 2 2, .slice (some ⟨cb1, 0, none⟩) 1 1, .slice (some ⟨cb2, 0, none⟩) 1 1] [[1, 2], [2], [1]]]) from cMm) (.cells #[.slice none 0 0] 27)
 have cgf := cMg.free (k := 9) (j := 0) rfl
 have cgc := cMg.cell (k := 9) (j := 0) rfl rfl
 obtain ⟨cws, ces, cMs⟩ := cMg.set (k := 9) 0 rfl (.slice (some ⟨cbm, 0, none⟩) 3 3)
 have cgd : cws.cell? ⟨cbg, 0, none⟩ = some (.slice (some ⟨cbm, 0, none⟩) 3 3) := cMs.cell (k := 9) (j := 0) rfl rfl
 have cMs := Aside0.mk (show Mem w cws [] [.mat (.slice (some ⟨abm, 0, none⟩) 4 4) [.slice (some ⟨ab0, 0, none⟩) 2 2, .slice (some ⟨ab1, 0, none⟩) 1 1, .slice (some ⟨ab2, 0, none⟩) 1 1, .slice (some ⟨ab3, 0, none⟩) 0 0] [[1, 2], [3], [3], []], .blk abg (.cells #[.slice (some ⟨abm, 0, none⟩) 4 4] 27 (0, 0)), .fk sok s (shc s sA sn), .blk sbb (.cells #[.int .i64 s.f0, .int .i64 s.f1, .int .i64 s.f2, .slice sA s.f3.length sn] 31 (0, 0)), .mat (.slice (some ⟨bbm, 0, none⟩) 4 4) [.slice (some ⟨bb0, 0, none⟩) 1 1, .slice (some ⟨bb1, 0, none⟩) 2 2, .slice (some ⟨bb2, 0, none⟩) 1 1, .slice (some ⟨bb3, 0, none⟩) 0 0] [[1], [2, 3], [1], []], .blk bbg (.cells #[.slice (some ⟨bbm, 0, none⟩) 4 4] 27 (0, 0)), .fk tok t (shc t tA tn), .blk tbb (.cells #[.int .i64 t.f0, .int .i64 t.f1, .int .i64 t.f2, .slice tA t.f3.length tn] 31 (0, 0)), .mat (.slice (some ⟨cbm, 0, none⟩) 3 3) [.slice (some ⟨cb0, 0, none⟩) 2 2, .slice (some ⟨cb1, 0, none⟩) 1 1, .slice (some ⟨cb2, 0, none⟩) 1 1] [[1, 2], [2], [1]], .blk cbg (.cells #[.slice (some ⟨cbm, 0, none⟩) 3 3] 27 (0, 0))] from cMs)
 clear cMm cMg
 dsimp only
 go_wp2_with (fail)
 go_at_call 16
 refine (Mem.struct (g := sanC) (c := 3) (k := 8) cMs.out rfl HH.out.hx).mono ?_
 rintro e xw ⟨xA, xn, xok, rfl, xM⟩
 obtain ⟨xbb, xw2, xz2, xa2, xM2⟩ := xM.alloc (.cells #[.int .i64 0, .int .i64 0, .int .i64 0, .slice none 0 0] 31)
 obtain ⟨xy1, xy2, xy3, xy4, ⟨xs1, xs2, xs3, xs4⟩, ⟨xc1, xc2, xc3, xc4⟩, ⟨xf1, xf2, xf3, xf4⟩, xM3⟩ := xM2.fill4 (k := 11) rfl (.int .i64 x.f0) (.int .i64 x.f1) (.int .i64 x.f2) (.slice xA x.f3.length xn)
 have xMs := Aside0.mk (show Mem w xy4 [] [.mat (.slice (some ⟨abm, 0, none⟩) 4 4) [.slice (some ⟨ab0, 0, none⟩) 2 2, .slice (some ⟨ab1, 0, none⟩) 1 1, .slice (some ⟨ab2, 0, none⟩) 1 1, .slice (some ⟨ab3, 0, none⟩) 0 0] [[1, 2], [3], [3], []], .blk abg (.cells #[.slice (some ⟨abm, 0, none⟩) 4 4] 27 (0, 0)), .fk sok s (shc s sA sn), .blk sbb (.cells #[.int .i64 s.f0, .int .i64 s.f1, .int .i64 s.f2, .slice sA s.f3.length sn] 31 (0, 0)), .mat (.slice (some ⟨bbm, 0, none⟩) 4 4) [.slice (some ⟨bb0, 0, none⟩) 1 1, .slice (some ⟨bb1, 0, none⟩) 2 2, .slice (some ⟨bb2, 0, none⟩) 1 1, .slice (some ⟨bb3, 0, none⟩) 0 0] [[1], [2, 3], [1], []], .blk bbg (.cells #[.slice (some ⟨bbm, 0, none⟩) 4 4] 27 (0, 0)), .fk tok t (shc t tA tn), .blk tbb (.cells #[.int .i64 t.f0, .int .i64 t.f1, .int .i64 t.f2, .slice tA t.f3.length tn] 31 (0, 0)), .mat (.slice (some ⟨cbm, 0, none⟩) 3 3) [.slice (some ⟨cb0, 0, none⟩) 2 2, .slice (some ⟨cb1, 0, none⟩) 1 1, .slice (some ⟨cb2, 0, none⟩) 1 1] [[1, 2], [2], [1]], .blk cbg (.cells #[.slice (some ⟨cbm, 0, none⟩) 3 3] 27 (0, 0)), .fk xok x (shc x xA xn), .blk xbb (.cells #[.int .i64 x.f0, .int .i64 x.f1, .int .i64 x.f2, .slice xA x.f3.length xn] 31 (0, 0))] from xM3)
 clear xM xM2 xM3
 have cgd2 : xy4.cell? ⟨cbg, 0, none⟩ = some (.slice (some ⟨cbm, 0, none⟩) 3 3) := xMs.out.cell (k := 9) (j := 0) rfl rfl
 dsimp only
 go_wp2_with (fail)
 go_at_call 16
 refine (Mem.struct (g := sanC) (c := 3) (k := 8) xMs.out rfl HH.out.hu).mono ?_
 rintro e uw ⟨uA, un, uok, rfl, uM⟩
 obtain ⟨ubb, uw2, uz2, ua2, uM2⟩ := uM.alloc (.cells #[.int .i64 0, .int .i64 0, .int .i64 0, .slice none 0 0] 31)
 obtain ⟨uy1, uy2, uy3, uy4, ⟨us1, us2, us3, us4⟩, ⟨uc1, uc2, uc3, uc4⟩, ⟨uf1, uf2, uf3, uf4⟩, uM3⟩ := uM2.fill4 (k := 13) rfl (.int .i64 u.f0) (.int .i64 u.f1) (.int .i64 u.f2) (.slice uA u.f3.length un)
 have uMs := Aside0.mk (show Mem w uy4 [] [.mat (.slice (some ⟨abm, 0, none⟩) 4 4) [.slice (some ⟨ab0, 0, none⟩) 2 2, .slice (some ⟨ab1, 0, none⟩) 1 1, .slice (some ⟨ab2, 0, none⟩) 1 1, .slice (some ⟨ab3, 0, none⟩) 0 0] [[1, 2], [3], [3], []], .blk abg (.cells #[.slice (some ⟨abm, 0, none⟩) 4 4] 27 (0, 0)), .fk sok s (shc s sA sn), .blk sbb (.cells #[.int .i64 s.f0, .int .i64 s.f1, .int .i64 s.f2, .slice sA s.f3.length sn] 31 (0, 0)), .mat (.slice (some ⟨bbm, 0, none⟩) 4 4) [.slice (some ⟨bb0, 0, none⟩) 1 1, .slice (some ⟨bb1, 0, none⟩) 2 2, .slice (some ⟨bb2, 0, none⟩) 1 1, .slice (some ⟨bb3, 0, none⟩) 0 0] [[1], [2, 3], [1], []], .blk bbg (.cells #[.slice (some ⟨bbm, 0, none⟩) 4 4] 27 (0, 0)), .fk tok t (shc t tA tn), .blk tbb (.cells #[.int .i64 t.f0, .int .i64 t.f1, .int .i64 t.f2, .slice tA t.f3.length tn] 31 (0, 0)), .mat (.slice (some ⟨cbm, 0, none⟩) 3 3) [.slice (some ⟨cb0, 0, none⟩) 2 2, .slice (some ⟨cb1, 0, none⟩) 1 1, .slice (some ⟨cb2, 0, none⟩) 1 1] [[1, 2], [2], [1]], .blk cbg (.cells #[.slice (some ⟨cbm, 0, none⟩) 3 3] 27 (0, 0)), .fk xok x (shc x xA xn), .blk xbb (.cells #[.int .i64 x.f0, .int .i64 x.f1, .int .i64 x.f2, .slice xA x.f3.length xn] 31 (0, 0)), .fk uok u (shc u uA un), .blk ubb (.cells #[.int .i64 u.f0, .int .i64 u.f1, .int .i64 u.f2, .slice uA u.f3.length un] 31 (0, 0))] from uM3)
 clear uM uM2 uM3
 have ps0 := uMs.out.cell (k := 3) (j := 0) rfl rfl
 have ps1 := uMs.out.cell (k := 3) (j := 1) rfl rfl
 have ps2 := uMs.out.cell (k := 3) (j := 2) rfl rfl
 have ps3 := uMs.out.cell (k := 3) (j := 3) rfl rfl
 have pag := uMs.out.cell (k := 1) (j := 0) rfl rfl
 dsimp only
 go_wp2_with (fail)
 go_at_call 22
 refine (Mem.rcheck (g := sanA) (c := 4) (k := 0) (j := 2) uMs.out rfl rfl HH.out.r1).mono ?_
 rintro e v1 ⟨rfl, M1⟩
 have M1 := Aside0.mk M1
 have qt0 := M1.out.cell (k := 7) (j := 0) rfl rfl
 have qt1 := M1.out.cell (k := 7) (j := 1) rfl rfl
 have qt2 := M1.out.cell (k := 7) (j := 2) rfl rfl
 have qt3 := M1.out.cell (k := 7) (j := 3) rfl rfl
 have qbg := M1.out.cell (k := 5) (j := 0) rfl rfl
 dsimp only
 go_wp2_with (fail)
 go_at_call 22
 refine (Mem.rcheck (g := sanB) (c := 4) (k := 4) (j := 6) M1.out rfl rfl HH.out.r2).mono ?_
 rintro e v2 ⟨rfl, M2⟩
 have M2 := Aside0.mk M2
 have ru0 := M2.out.cell (k := 13) (j := 0) rfl rfl
 have ru1 := M2.out.cell (k := 13) (j := 1) rfl rfl
 have ru2 := M2.out.cell (k := 13) (j := 2) rfl rfl
 have ru3 := M2.out.cell (k := 13) (j := 3) rfl rfl
 have rcg := M2.out.cell (k := 9) (j := 0) rfl rfl
 dsimp only
 go_wp2_with (fail)
 go_at_call 22
 refine (Mem.rcheck (g := sanC) (c := 3) (k := 8) (j := 12) M2.out rfl rfl HH.out.r3).mono ?_
 rintro e v3 ⟨rfl, M3⟩
 have M3 := Aside0.mk M3
 have is0 := M3.out.cell (k := 3) (j := 0) rfl rfl
 have is1 := M3.out.cell (k := 3) (j := 1) rfl rfl
 have is2 := M3.out.cell (k := 3) (j := 2) rfl rfl
 have is3 := M3.out.cell (k := 3) (j := 3) rfl rfl
 have iag := M3.out.cell (k := 1) (j := 0) rfl rfl
 dsimp only
 go_wp2_with (fail)
 go_at_call 32
 refine (Mem.scheck (g := sanA) (c := 4) (k := 0) (j := 2) M3.out rfl rfl HH.out.c1).mono ?_
 rintro e v4 ⟨rfl, M4⟩
 have M4 := Aside0.mk M4
 have js0 := M4.out.cell (k := 3) (j := 0) rfl rfl
 have js1 := M4.out.cell (k := 3) (j := 1) rfl rfl
 have js2 := M4.out.cell (k := 3) (j := 2) rfl rfl
 have js3 := M4.out.cell (k := 3) (j := 3) rfl rfl
 have jbg := M4.out.cell (k := 5) (j := 0) rfl rfl
 dsimp only
 go_wp2_with (fail)
 go_at_call 32
 refine (Mem.scheck (g := sanB) (c := 4) (k := 4) (j := 2) M4.out rfl rfl HH.out.c2).mono ?_
 rintro e v5 ⟨rfl, M5⟩
 have M5 := Aside0.mk M5
 dsimp only
 go_wp2_with (fail)
 go_ret
 exact ⟨rfl, M5.out.hb⟩
end Go.Proofs.Ytfiiihpdekppiaa
end
section
namespace Go.Proofs.Ytfiiihpdekppiaa
open Go.RowKit Go.Proofs Go.Proofs.YtfiiihpdekppiaaW.PrintWords
open PShapeReducible (S31 S77)
def fitG (g : List (List Int)) : Prop := ValidG g ∧ 0 < g.length ∧ g.length ≤ 1000000 ∧ ∀ l ∈ g, l.length ≤ 1000000000
instance (g : List (List Int)) : Decidable (fitG g) := inferInstanceAs (Decidable (ValidG g ∧ 0 < g.length ∧ g.length ≤ 1000000 ∧ ∀ l ∈ g, l.length ≤ 1000000000))
def domE (k : Nat) (g : List (List Int)) : Option (List Int × List (Int × Int) × List (List Int) × List Int) :=
 if fitG g then
  (orderF k g).bind fun r => (viewLoop g r 0 [] (List.replicate g.length [])).bind fun q => (domsF k r q.1 q.2 g.length).bind fun d =>
   if r.length ≤ 1000000 ∧ 0 < r.length ∧ q.2.length = g.length ∧ d.length = g.length ∧ ∀ y ∈ r, 0 ≤ y ∧ y < d.length then some (r, q.1, q.2, d) else none
 else none
theorem domE_is {k : Nat} {g : List (List Int)} {r : List Int} {m : List (Int × Int)} {p : List (List Int)} {d : List Int} (h : domE k g = some (r, m, p, d)) : fitG g ∧ DomIs g r m p d ∧ r.length ≤ 1000000 ∧ ∀ y ∈ r, 0 ≤ y ∧ y < d.length := by
 unfold domE at h
 split at h
 ·next hf =>
  obtain ⟨r', h1, h⟩ := Option.bind_eq_some_iff.1 h
  obtain ⟨q, h2, h⟩ := Option.bind_eq_some_iff.1 h
  obtain ⟨d', h3, h⟩ := Option.bind_eq_some_iff.1 h
  split at h
  ·next hc =>
   injection h with h
   injection h with e1 h
   injection h with e2 h
   injection h with e3 e4
   subst e1 e2 e3 e4
   obtain ⟨c1, c2, c3, c4, c5⟩ := hc
   have hv := valid_is g (by have := hf.2.2.1; omega) hf.2.2.2
   rw [decide_eq_true (show ValidG g ∧ 0 < g.length from ⟨hf.1, hf.2.1⟩)] at hv
   exact ⟨hf, ⟨⟨⟨hf.2.1, hf.2.2.1, hv, ⟨k, h1⟩, reverse_is r' (by omega)⟩, h2, c3⟩, c2, c4, ⟨k, h3⟩⟩, c1, c5⟩
  ·cases h
 ·cases h
def buildE (k : Nat) (succ : List (List Int)) (node : List Int) : Option S31 :=
 (domE k succ).bind fun q => (edgesF succ (posF q.1 0 []) q.1 ([], [])).bind fun le =>
  let M := mergeF le.2 (q.2.2.2.set 0 (-1)) q.1.reverse ([], [])
  (bF ⟨succ, node, posF q.1 0 [], M.2, M.1⟩ k (.tree 0) ⟨le.1, [], 0⟩).map (·.1)
theorem buildE_is {k : Nat} {succ : List (List Int)} {node : List Int} {x : S31} (h : buildE k succ node = some x) : BuildIs succ node x := by
 unfold buildE at h
 obtain ⟨⟨r, m, p, d⟩, h1, h⟩ := Option.bind_eq_some_iff.1 h
 obtain ⟨⟨l, e⟩, h2, h⟩ := Option.bind_eq_some_iff.1 h
 obtain ⟨⟨x', s9⟩, h3, h4⟩ := Option.map_eq_some_iff.1 h
 dsimp only at h2 h3 h4
 subst h4
 obtain ⟨hf, hd, h5, h6⟩ := domE_is h1
 exact ⟨r, d.set 0 (-1), l, e, k, s9, hd.1.1, ⟨r, m, p, d, hd, rfl⟩, h5, h2, fun y hy => by rw [List.length_set]; exact h6 y hy, h3⟩
def structE (k : Nat) (g : List (List Int)) (budget : Int) : Option (S31 × Int) :=
 (domE k g).bind fun q => (redOut k g q.2.1 q.2.2.2 q.1).bind fun b =>
  if b = true then (buildE k g (rangeI g.length)).map fun x => (x, 0)
  else (splitG isort k ⟨g, rangeI g.length, 0, max budget 0⟩ (setF (-1) q.1 [])).bind fun t =>
   match t with
   | none => some (⟨0, 0, 0, []⟩, 50)
   | some s => (buildE k s.succ s.node).map fun x => (x, 0)
theorem structE_is {k : Nat} {g : List (List Int)} {budget : Int} {x : S31} {err : Int} (h : structE k g budget = some (x, err)) : StructIs g budget x err := by
 unfold structE at h
 obtain ⟨⟨r, m, p, d⟩, h1, h⟩ := Option.bind_eq_some_iff.1 h
 obtain ⟨b, h2, h⟩ := Option.bind_eq_some_iff.1 h
 dsimp only at h2 h
 obtain ⟨hf, hd, h5, h6⟩ := domE_is h1
 refine .inr ⟨hd.1.1.2.2.1, ⟨hf.2.2.1, hf.2.2.2⟩, ?_⟩
 cases b with
 | true =>
  rw [if_pos rfl] at h
  obtain ⟨x', h3, h4⟩ := Option.map_eq_some_iff.1 h
  injection h4 with h4 h5
  subst h4 h5
  exact .inl ⟨.inr ⟨r, m, p, d, k, hd, h2⟩, buildE_is h3, rfl⟩
 | false =>
  rw [if_neg (by decide)] at h
  obtain ⟨t, h3, h4⟩ := Option.bind_eq_some_iff.1 h
  rw [← split_eval] at h3
  refine .inr ⟨.inr ⟨r, m, p, d, k, hd, h2⟩, r, k, t, hd.1.1, h3, ?_⟩
  cases t with
  | none =>
   injection h4 with h4
   injection h4 with h4 h5
   exact .inl ⟨rfl, h4.symm, h5.symm⟩
  | some s =>
   obtain ⟨x', h6, h7⟩ := Option.map_eq_some_iff.1 h4
   injection h7 with h7 h8
   subst h7 h8
   exact .inr ⟨s, rfl, buildE_is h6, rfl⟩
theorem refValid_l1 (g : List (List Int)) (b : Bool) (x3 : Int) (h3 : 0 ≤ x3 ∧ x3 < g.length) (l : List Int) (hl : l = g.getD x3.toNat []) (hll : l.length ≤ 1000000000)
  (hbad : (∃ s ∈ l, ¬ (0 ≤ s ∧ s < g.length)) → b = false) (hgood : (∀ s ∈ l, 0 ≤ s ∧ s < g.length) → ∃ k, PShapeReducible.vellumref06_Valid.l0 k (wrap64 (x3 + 1)) g = some b) :
  ∀ (m i : Nat), i + m = l.length → (∀ j, j < i → 0 ≤ l.getD j 0 ∧ l.getD j 0 < g.length) → ∃ k, PShapeReducible.vellumref06_Valid.l1 k x3 i g = some b
 | 0, i, hi, hj => by
  obtain ⟨k, hk⟩ := hgood (fun s hs => by
   obtain ⟨j, hjj⟩ := List.mem_iff_getElem?.1 hs
   have := (List.getElem?_eq_some_iff.1 hjj).1
   have h1 := hj j (by omega)
   rw [List.getD_eq_getElem?_getD, hjj] at h1
   exact h1)
  have e2 : PShapeReducible.rd_L1 g x3 = l := hl.symm
  refine ⟨k + 1, ?_⟩
  rw [PShapeReducible.vellumref06_Valid.l1, if_pos h3.1, if_pos h3.2, e2, if_neg (by omega)]
  exact hk
 | m + 1, i, hi, hj => by
  have hget : l.getD i 0 ∈ l := by rw [List.getD_eq_getElem?_getD, List.getElem?_eq_getElem (by omega)]; exact List.getElem_mem _
  have e : rd l (i : Int) = l.getD i 0 := rfl
  have e2 : PShapeReducible.rd_L1 g x3 = l := hl.symm
  by_cases h1 : 0 ≤ l.getD i 0 ∧ l.getD i 0 < g.length
  ·obtain ⟨k, hk⟩ := refValid_l1 g b x3 h3 l hl hll hbad hgood m (i + 1) (by omega) (fun j hjj => by
    by_cases h : j < i
    ·exact hj j h
    ·have : j = i := by omega
     rw [this]; exact h1)
   refine ⟨k + 1, ?_⟩
   rw [PShapeReducible.vellumref06_Valid.l1, if_pos h3.1, if_pos h3.2, e2, if_pos (by omega), if_pos (by omega), e, if_neg (by omega), if_neg (by omega), wrap64_in (by omega) (by omega)]
   exact hk
  ·have hb := hbad ⟨_, hget, h1⟩
   refine ⟨1, ?_⟩
   rw [PShapeReducible.vellumref06_Valid.l1, if_pos h3.1, if_pos h3.2, e2, if_pos (by omega), if_pos (by omega), e, hb]
   by_cases h2 : l.getD i 0 < 0
   ·rw [if_pos h2]
   ·rw [if_neg h2, if_pos (by omega)]
theorem refValid_l0 (g : List (List Int)) (hg : g.length ≤ 1000000000) (hr : ∀ l ∈ g, l.length ≤ 1000000000) (b : Bool) (hb : b = decide (ValidG g ∧ 0 < g.length)) :
  ∀ (m i : Nat), i + m = g.length → (∀ j, j < i → ∀ s ∈ g.getD j [], 0 ≤ s ∧ s < g.length) → ∃ k, PShapeReducible.vellumref06_Valid.l0 k i g = some b
 | 0, i, hi, hj => by
  refine ⟨1, ?_⟩
  rw [PShapeReducible.vellumref06_Valid.l0, if_neg (by omega), hb]
  have hv : ValidG g := fun l hl s hs => by
   obtain ⟨j, hjj⟩ := List.mem_iff_getElem?.1 hl
   have := (List.getElem?_eq_some_iff.1 hjj).1
   have h1 := hj j (by omega) s
   rw [List.getD_eq_getElem?_getD, hjj] at h1
   exact h1 hs
  congr 1
  simp [hv]
 | m + 1, i, hi, hj => by
  have hmem : g.getD i [] ∈ g := by rw [List.getD_eq_getElem?_getD, List.getElem?_eq_getElem (by omega)]; exact List.getElem_mem _
  obtain ⟨k, hk⟩ := refValid_l1 g b i (by omega) (g.getD i []) rfl (hr _ hmem) (by
    rintro ⟨s, hs, hn⟩
    rw [hb]
    exact decide_eq_false (fun h => hn (h.1 _ hmem s hs))) (by
    intro h
    rw [wrap64_in (by omega) (by omega)]
    exact refValid_l0 g hg hr b hb m (i + 1) (by omega) (fun j hjj => by
     by_cases h' : j < i
     ·exact hj j h'
     ·have : j = i := by omega
      rw [this]; exact h)) (g.getD i []).length 0 (by omega) (by omega)
  refine ⟨k + 1, ?_⟩
  rw [PShapeReducible.vellumref06_Valid.l0, if_pos (by omega)]
  exact hk
theorem refValid_is (g : List (List Int)) (hg : g.length ≤ 1000000000) (hr : ∀ l ∈ g, l.length ≤ 1000000000) : RefValidIs g (decide (ValidG g ∧ 0 < g.length)) :=
 refValid_l0 g hg hr _ rfl g.length 0 (by omega) (by omega)
def refCheckE (k : Nat) (s : S31) (g : List (List Int)) : Option Bool :=
 if fitG g ∧ szL s.f3 ≤ 100000000 then rCheckS ((compileF g s).map Stp.s77) g k else none
theorem refCheckE_is {k : Nat} {s : S31} {g : List (List Int)} {b : Bool} (h : refCheckE k s g = some b) : RefCheckIs s g b := by
 unfold refCheckE at h
 split at h
 ·next hc =>
  have hv := refValid_is g (by have := hc.1.2.2.1; omega) hc.1.2.2.2
  rw [decide_eq_true (show ValidG g ∧ 0 < g.length from ⟨hc.1.1, hc.1.2.1⟩)] at hv
  exact .inr ⟨hv, by have := hc.1.2.2.1; omega, hc.2, k, h⟩
 ·cases h
def checkE (k : Nat) (s : S31) (g : List (List Int)) : Option Bool :=
 if fitG g ∧ szL s.f3 ≤ 100000000 then (if (kRun g s).1 = true then kCheckS (kPts g s) g k else some false) else none
theorem checkE_is {k : Nat} {s : S31} {g : List (List Int)} {b : Bool} (h : checkE k s g = some b) : CheckIs s g b := by
 unfold checkE at h
 split at h
 ·next hc =>
  have hv := valid_is g (by have := hc.1.2.2.1; omega) hc.1.2.2.2
  rw [decide_eq_true (show ValidG g ∧ 0 < g.length from ⟨hc.1.1, hc.1.2.1⟩)] at hv
  refine .inr ⟨hv, by have := hc.1.2.2.1; omega, hc.2, ?_⟩
  split at h
  ·next h1 => exact .inr ⟨h1, k, h⟩
  ·next h1 => injection h with h; exact .inl ⟨by simpa using h1, h.symm⟩
 ·cases h
def sanS : S31 := ⟨1, 0, 0, [⟨4, 0, 0, [⟨2, 0, 0, [⟨2, 1, 0, [⟨5, 0, 0, []⟩]⟩, ⟨2, 2, 0, [⟨5, 0, 0, []⟩]⟩]⟩]⟩, ⟨2, 3, 0, []⟩]⟩
def sanT : S31 := ⟨2, 0, 0, [⟨3, 0, 0, [⟨2, 1, 0, [⟨2, 2, 0, [⟨6, 0, 0, []⟩]⟩, ⟨2, 3, 0, []⟩]⟩]⟩]⟩
def sanU : S31 := ⟨1, 0, 0, [⟨4, 0, 0, [⟨2, 0, 0, [⟨5, 0, 0, []⟩, ⟨2, 2, 0, [⟨5, 0, 0, []⟩]⟩]⟩]⟩, ⟨3, 0, 1, [⟨2, 1, 0, [⟨2, 2, 0, [⟨6, 0, 1, []⟩]⟩]⟩]⟩]⟩
theorem sanFacts : SanFacts sanS sanT sanU ⟨0, 0, 0, []⟩ where
 hs := structE_is (k := 60) (by kernel_rfl)
 ht := structE_is (k := 60) (by kernel_rfl)
 hx := structE_is (k := 60) (by kernel_rfl)
 hu := structE_is (k := 60) (by kernel_rfl)
 r1 := refCheckE_is (k := 60) (by kernel_rfl)
 r2 := refCheckE_is (k := 60) (by kernel_rfl)
 r3 := refCheckE_is (k := 60) (by kernel_rfl)
 c1 := checkE_is (k := 60) (by kernel_rfl)
 c2 := checkE_is (k := 60) (by kernel_rfl)
#print axioms sanFacts
end Go.Proofs.Ytfiiihpdekppiaa
end
section
namespace Go.Proofs.Ytfiiihpdekppiaa
open Go.RowKit Go.Proofs Go.Proofs.YtfiiihpdekppiaaW.PrintWords
def degs (g : List (List Int)) (r : List Int) : Nat := (r.map fun n => (succs g n).length).sum
theorem predsIn_ok (n : Int) : ∀ (l : List Int) (p : List (List Int)), (∀ s ∈ l, 0 ≤ s ∧ s < p.length) → (∀ s : Nat, (p.getD s []).length + l.length ≤ 1000000000) →
  ∃ p', predsIn n l p = some p' ∧ p'.length = p.length ∧ (∀ s : Nat, (p'.getD s []).length ≤ (p.getD s []).length + l.length) ∧ ∀ (s : Nat) (x : Int), x ∈ p'.getD s [] ↔ x ∈ p.getD s [] ∨ (x = n ∧ (s : Int) ∈ l)
 | [], p, _, _ => ⟨p, rfl, rfl, by simp, by simp⟩
 | a :: l, p, h, hb => by
  have ha := h a (by simp)
  have hb1 := hb a.toNat
  simp only [List.length_cons] at hb hb1
  have hget : ∀ s : Nat, (p.set a.toNat (p.getD a.toNat [] ++ [n])).getD s [] = if s = a.toNat then p.getD a.toNat [] ++ [n] else p.getD s [] := fun s => by
   rw [List.getD_eq_getElem?_getD, List.getElem?_set]
   by_cases e : a.toNat = s
   ·rw [if_pos e, if_pos (by omega), if_pos e.symm]; rfl
   ·rw [if_neg e, if_neg (fun h => e h.symm), List.getD_eq_getElem?_getD]
  have hlen : ∀ s : Nat, ((p.set a.toNat (p.getD a.toNat [] ++ [n])).getD s []).length ≤ (p.getD s []).length + 1 := fun s => by
   rw [hget]
   split
   ·next e => rw [e]; simp
   ·omega
  obtain ⟨p', h1, h2, h3, h4⟩ := predsIn_ok n l (p.set a.toNat (p.getD a.toNat [] ++ [n])) (fun s hs => by rw [List.length_set]; exact h s (by simp [hs])) (fun s => by have := hlen s; have := hb s; omega)
  refine ⟨p', ?_, by rw [h2, List.length_set], fun s => by have := h3 s; have := hlen s; simp only [List.length_cons]; omega, fun s x => ?_⟩
  ·rw [predsIn, if_pos ha, if_pos (by omega)]
   exact h1
  ·rw [h4, hget]
   by_cases e : s = a.toNat
   ·have e2 : (s : Int) = a := by omega
    rw [if_pos e, ← e]
    simp only [List.mem_append, List.mem_cons, List.not_mem_nil, or_false, e2, true_or, and_true]
    constructor
    ·rintro ((h | h) | h)
     ·exact .inl h
     ·exact .inr h
     ·exact .inr h.1
    ·rintro (h | h)
     ·exact .inl (.inl h)
     ·exact .inl (.inr h)
   ·have e2 : (s : Int) ≠ a := by omega
    rw [if_neg e]
    simp only [List.mem_cons, e2, false_or]
theorem viewLoop_ok (g : List (List Int)) (hv : ValidG g) : ∀ (r : List Int) (i : Nat) (m : List (Int × Int)) (p : List (List Int)), (∀ n ∈ r, 0 ≤ n ∧ n < g.length) → r.Nodup → p.length = g.length → (∀ s : Nat, (p.getD s []).length + degs g r ≤ 1000000000) →
  ∃ m' p', viewLoop g r i m p = some (m', p') ∧ p'.length = g.length ∧ (∀ x, mget m' x = if x ∈ r then some ((i + r.idxOf x : Nat) : Int) else mget m x) ∧ ∀ (s : Nat) (x : Int), x ∈ p'.getD s [] ↔ x ∈ p.getD s [] ∨ (x ∈ r ∧ (s : Int) ∈ succs g x)
 | [], i, m, p, _, _, hp, _ => ⟨m, p, rfl, hp, by simp, by simp⟩
 | n :: r, i, m, p, hr, hnd, hp, hb => by
  obtain ⟨hn1, hn2⟩ := List.nodup_cons.1 hnd
  have hd : degs g (n :: r) = (succs g n).length + degs g r := by simp [degs]
  rw [hd] at hb
  obtain ⟨p1, a1, a2, a3, a4⟩ := predsIn_ok n (succs g n) p (fun s hs => by rw [hp]; exact succs_mem hv hs) (fun s => by have := hb s; omega)
  obtain ⟨m', p', b1, b2, b3, b4⟩ := viewLoop_ok g hv r (i + 1) (mput m n i) p1 (fun x hx => hr x (by simp [hx])) hn2 (by rw [a2, hp]) (fun s => by have := hb s; have := a3 s; omega)
  refine ⟨m', p', ?_, b2, fun x => ?_, fun s x => ?_⟩
  ·rw [viewLoop, if_pos (hr n (by simp))]
   unfold succs at a1
   rw [a1]
   exact b1
  ·rw [b3, mget_put]
   by_cases e : x = n
   ·subst e
    rw [if_neg hn1, if_pos rfl, if_pos (by simp)]
    simp
   ·by_cases hx : x ∈ r
    ·rw [if_pos hx, if_pos (by simp [hx]), List.idxOf_cons, show (n == x) = false from beq_eq_false_iff_ne.2 (fun h => e h.symm)]
     simp only [cond_false]
     congr 1
     omega
    ·rw [if_neg hx, if_neg e, if_neg (by simp [hx, e])]
  ·rw [b4, a4]
   constructor
   ·rintro ((h | ⟨rfl, h⟩) | h)
    ·exact .inl h
    ·exact .inr ⟨by simp, h⟩
    ·exact .inr ⟨by simp [h.1], h.2⟩
   ·rintro (h | ⟨h1, h2⟩)
    ·exact .inl (.inl h)
    ·rcases List.mem_cons.1 h1 with rfl | h1
     ·exact .inl (.inr ⟨rfl, h2⟩)
     ·exact .inr ⟨h1, h2⟩
structure ViewOk (g : List (List Int)) (r : List Int) (m : List (Int × Int)) (p : List (List Int)) : Prop where
 ord : OrdOk g r
 len : p.length = g.length
 att : ∀ x, mget m x = if x ∈ r then some ((r.idxOf x : Nat) : Int) else none
 preds : ∀ (s : Nat) (x : Int), x ∈ p.getD s [] ↔ x ∈ r ∧ (s : Int) ∈ succs g x
theorem viewOk_is {g : List (List Int)} (hv : ValidG g) (h0 : 0 < g.length) (hl : g.length ≤ 1000000) (hr : ∀ l ∈ g, l.length ≤ 1000) : ∃ r m p, ViewIs g r m p ∧ ViewOk g r m p := by
 obtain ⟨r, h1, h2⟩ := order_is hv h0 hl (fun l hl => by have := hr l hl; omega)
 have hdeg : ∀ xs : List Int, degs g xs ≤ xs.length * 1000 := by
  intro xs
  induction xs with
  | nil => simp [degs]
  | cons a xs ih =>
   have : (succs g a).length ≤ 1000 := by
    unfold succs
    rw [List.getD_eq_getElem?_getD]
    cases e : g[a.toNat]? with
    | none => simp
    | some l => exact hr l (List.mem_of_getElem? e)
   simp only [degs, List.map_cons, List.sum_cons, List.length_cons] at ih ⊢
   omega
 have hrl := nodup_len h2.nd h2.rng
 obtain ⟨m, p, b1, b2, b3, b4⟩ := viewLoop_ok g hv r 0 [] (List.replicate g.length []) h2.rng h2.nd (by simp) (fun s => by
  have : ((List.replicate g.length ([] : List Int)).getD s []).length = 0 := by
   rw [List.getD_eq_getElem?_getD, List.getElem?_replicate]; split <;> rfl
  have := hdeg r
  omega)
 refine ⟨r, m, p, ⟨h1, b1, b2⟩, h2, b2, fun x => ?_, fun s x => ?_⟩
 ·rw [b3]; simp [mget]
 ·rw [b4]
  have : x ∉ (List.replicate g.length ([] : List Int)).getD s [] := by
   rw [List.getD_eq_getElem?_getD, List.getElem?_replicate]; split <;> simp
  exact ⟨fun h => h.resolve_left this, .inr⟩
end Go.Proofs.Ytfiiihpdekppiaa
end
section
namespace Go.Proofs.Ytfiiihpdekppiaa
open Go.RowKit Go.Proofs Go.Proofs.YtfiiihpdekppiaaW.PrintWords
section
variable {g : List (List Int)} {r : List Int} {m : List (Int × Int)} {p : List (List Int)}
theorem ViewOk.pos (h : ViewOk g r m p) {x : Int} (hx : x ∈ r) : mI0 m x = r.idxOf x := by simp [mI0, h.att, hx]
theorem ViewOk.pos_lt (h : ViewOk g r m p) {x : Int} (hx : x ∈ r) : 0 ≤ mI0 m x ∧ mI0 m x < r.length := by
 rw [h.pos hx]
 have := List.idxOf_lt_length_of_mem hx
 omega
theorem ViewOk.at_pos (h : ViewOk g r m p) {x : Int} (hx : x ∈ r) : r.getD (mI0 m x).toNat (-1) = x := by
 have hl := List.idxOf_lt_length_of_mem hx
 rw [h.pos hx, Int.toNat_natCast, List.getD_eq_getElem?_getD, List.getElem?_eq_getElem hl, List.getElem_idxOf]
 rfl
theorem ViewOk.pos_inj (h : ViewOk g r m p) {x y : Int} (hx : x ∈ r) (hy : y ∈ r) (e : mI0 m x = mI0 m y) : x = y := by
 rw [← h.at_pos hx, ← h.at_pos hy, e]
theorem ViewOk.zero_mem (h : ViewOk g r m p) : (0 : Int) ∈ r := by obtain ⟨t, e⟩ := h.ord.root; rw [e]; simp
theorem ViewOk.pos_zero (h : ViewOk g r m p) : mI0 m 0 = 0 := by
 obtain ⟨t, e⟩ := h.ord.root
 rw [h.pos h.zero_mem, e]; simp
theorem ViewOk.pos_pos (h : ViewOk g r m p) {x : Int} (hx : x ∈ r) (h0 : x ≠ 0) : 0 < mI0 m x := by
 have h1 := (h.pos_lt hx).1
 have h2 : mI0 m x ≠ 0 := fun e => h0 (h.pos_inj hx h.zero_mem (by rw [e, h.pos_zero]))
 omega
end
def par (idom : List Int) (a : Int) : Int := idom.getD a.toNat 0
inductive Anc (idom : List Int) (x : Int) : Int → Prop
 | refl : Anc idom x x
 | step {a : Int} : Anc idom x (par idom a) → a ≠ 0 → Anc idom x a
structure TreeOkT (g : List (List Int)) (r : List Int) (m : List (Int × Int)) (idom : List Int) : Prop where
 len : idom.length = g.length
 out : ∀ a, inT idom a → a ∈ r
 up : ∀ a, inT idom a → a ≠ 0 → inT idom (par idom a) ∧ mI0 m (par idom a) < mI0 m a
 root : inT idom 0
 neg : ∀ a : Int, 0 ≤ a → a < g.length → ¬ inT idom a → par idom a = -1
section
variable {g : List (List Int)} {r : List Int} {m : List (Int × Int)} {p : List (List Int)} {idom : List Int}
theorem TreeOkT.treeB (h : TreeOkT g r m idom) (hV : ViewOk g r m p) (h0 : par idom 0 = 0) : treeB r m idom = true := by
 unfold Ytfiiihpdekppiaa.treeB
 refine List.all_eq_true.2 fun a ha => ?_
 have ha' : a < idom.length := by simpa using ha
 unfold nodeB
 by_cases hneg : idom.getD a 0 < 0
 ·simp [show idom[a]?.getD 0 < 0 by rw [← List.getD_eq_getElem?_getD]; exact hneg]
 ·have hT : inT idom a := ⟨by omega, by omega, by rw [Int.toNat_natCast]; omega⟩
  have hr := h.out _ hT
  by_cases ha0 : (a : Int) = 0
  ·have e : a = 0 := by omega
   subst e
   have e0 : idom.getD 0 0 = 0 := h0
   have e1 := hV.at_pos hV.zero_mem
   have e2 := hV.pos_zero
   simp only [Int.natCast_zero, Bool.or_eq_true, Bool.and_eq_true, decide_eq_true_eq, e0]
   rw [e2] at e1 ⊢
   right
   refine ⟨⟨⟨⟨by omega, e1⟩, by omega, ?_⟩, ?_⟩, .inr rfl⟩
   ·have := h.root.2.1; omega
   ·show 0 ≤ idom.getD 0 0
    omega
  ·obtain ⟨h1, h2⟩ := h.up _ hT ha0
   have e1 := hV.at_pos hr
   have e2 := (hV.pos_lt hr).1
   have ep : par idom a = idom.getD a 0 := by simp [par]
   rw [ep] at h1 h2
   simp only [Bool.or_eq_true, Bool.and_eq_true, decide_eq_true_eq]
   exact .inr ⟨⟨⟨⟨e2, e1⟩, h1.1, h1.2.1⟩, h1.2.2⟩, .inl h2⟩
theorem Anc.trans {x y a : Int} (h1 : Anc idom x y) (h2 : Anc idom y a) : Anc idom x a := by
 induction h2 with
 | refl => exact h1
 | step _ h ih => exact .step ih h
theorem TreeOkT.anc_le (h : TreeOkT g r m idom) {x a : Int} (hx : Anc idom x a) (ha : inT idom a) : mI0 m x ≤ mI0 m a ∧ inT idom x := by
 induction hx with
 | refl => exact ⟨Int.le_refl _, ha⟩
 | step _ h0 ih =>
  obtain ⟨h1, h2⟩ := h.up _ ha h0
  have := ih h1
  exact ⟨by omega, this.2⟩
theorem TreeOkT.anc_lt (h : TreeOkT g r m idom) {x a : Int} (hx : Anc idom x a) (ha : inT idom a) (hne : x ≠ a) : mI0 m x < mI0 m a ∧ a ≠ 0 ∧ Anc idom x (par idom a) := by
 cases hx with
 | refl => exact absurd rfl hne
 | step h1 h0 =>
  obtain ⟨h2, h3⟩ := h.up _ ha h0
  have := (h.anc_le h1 h2).1
  exact ⟨by omega, h0, h1⟩
theorem climb_spec (h : TreeOkT g r m idom) (hV : ViewOk g r m p) {b : Int} (hb : 0 ≤ mI0 m b) : ∀ (k : Nat) (a a' : Int), inT idom a → climb m idom k a b = some a' → inT idom a' ∧ Anc idom a' a ∧ mI0 m a' ≤ mI0 m b ∧ ∀ x, Anc idom x a → mI0 m x ≤ mI0 m b → Anc idom x a'
 | 0, a, a', _, e => by simp [climb] at e
 | k + 1, a, a', ha, e => by
  unfold climb at e
  by_cases h1 : mI0 m a > mI0 m b
  ·rw [if_pos h1, if_pos ⟨ha.1, ha.2.1⟩] at e
   have h0 : a ≠ 0 := fun e => by rw [e, hV.pos_zero] at h1; omega
   obtain ⟨h2, h3⟩ := h.up _ ha h0
   obtain ⟨c1, c2, c3, c4⟩ := climb_spec h hV hb k (par idom a) a' h2 e
   refine ⟨c1, c2.step h0, c3, fun x hx hle => c4 x ?_ hle⟩
   exact (h.anc_lt hx ha (fun e => by rw [e] at hle; omega)).2.2
  ·rw [if_neg h1] at e
   injection e with e
   subst e
   exact ⟨ha, .refl, by omega, fun x hx _ => hx⟩
theorem meet_spec (h : TreeOkT g r m idom) (hV : ViewOk g r m p) : ∀ (k : Nat) (a b d : Int), inT idom a → inT idom b → meetF m idom k a b = some d → inT idom d ∧ ∀ x, Anc idom x d ↔ Anc idom x a ∧ Anc idom x b
 | 0, a, b, d, _, _, e => by simp [meetF] at e
 | k + 1, a, b, d, ha, hb, e => by
  unfold meetF at e
  by_cases hab : a = b
  ·rw [if_neg (by simpa using hab)] at e
   injection e with e
   subst e
   subst hab
   exact ⟨ha, fun x => ⟨fun h => ⟨h, h⟩, fun h => h.1⟩⟩
  ·rw [if_pos hab] at e
   obtain ⟨a', e1, e2⟩ := Option.bind_eq_some_iff.1 e
   obtain ⟨b', e3, e4⟩ := Option.bind_eq_some_iff.1 e2
   obtain ⟨c1, c2, c3, c4⟩ := climb_spec h hV (hV.pos_lt (h.out _ hb)).1 k a a' ha e1
   obtain ⟨d1, d2, d3, d4⟩ := climb_spec h hV (hV.pos_lt (h.out _ c1)).1 k b b' hb e3
   obtain ⟨f1, f2⟩ := meet_spec h hV k a' b' d c1 d1 e4
   refine ⟨f1, fun x => ?_⟩
   rw [f2]
   constructor
   ·exact fun ⟨h1, h2⟩ => ⟨h1.trans c2, h2.trans d2⟩
   ·intro ⟨h1, h2⟩
    have h3 := c4 x h1 (h.anc_le h2 hb).1
    exact ⟨h3, d4 x h2 (h.anc_le h3 c1).1⟩
theorem fold_spec (h : TreeOkT g r m idom) (hV : ViewOk g r m p) (hB : Ytfiiihpdekppiaa.treeB r m idom = true) : ∀ (ps : List Int) (d : Int), (d = -1 ∨ inT idom d) → (∀ q ∈ ps, 0 ≤ q ∧ q < idom.length) →
  (ps.foldl (stepT r m idom) d = -1 ∧ d = -1 ∧ ∀ q ∈ ps, ¬ inT idom q) ∨ (inT idom (ps.foldl (stepT r m idom) d) ∧ ∀ x, Anc idom x (ps.foldl (stepT r m idom) d) ↔ (d = -1 ∨ Anc idom x d) ∧ ∀ q ∈ ps, inT idom q → Anc idom x q)
 | [], d, hd, _ => by
  rcases hd with rfl | hd
  ·exact .inl ⟨rfl, rfl, by simp⟩
  ·refine .inr ⟨hd, fun x => ⟨fun h => ⟨.inr h, by simp⟩, ?_⟩⟩
   rintro ⟨h1 | h1, _⟩
   ·have := hd.1; simp only [List.foldl_nil] at *; omega
   ·exact h1
 | q :: ps, d, hd, hq => by
  have hq0 := hq q (by simp)
  simp only [List.foldl_cons]
  have hps : ∀ q ∈ ps, 0 ≤ q ∧ q < idom.length := fun x hx => hq x (by simp [hx])
  by_cases hqT : inT idom q
  ·have hneg : ¬ idom.getD q.toNat 0 < 0 := by have := hqT.2.2; omega
   rcases hd with rfl | hd
   ·have e : stepT r m idom (-1) q = q := by unfold stepT; rw [if_neg hneg, if_pos (by omega)]
    rw [e]
    rcases fold_spec h hV hB ps q (.inr hqT) hps with ⟨_, e2, _⟩ | ⟨c1, c2⟩
    ·have := hqT.1; omega
    ·refine .inr ⟨c1, fun x => ?_⟩
     rw [c2]
     constructor
     ·rintro ⟨h1 | h1, h2⟩
      ·have := hqT.1; omega
      ·exact ⟨.inl rfl, fun y hy hyT => by rcases List.mem_cons.1 hy with rfl | hy; exact h1; exact h2 y hy hyT⟩
     ·rintro ⟨_, h2⟩
      exact ⟨.inr (h2 q (by simp) hqT), fun y hy hyT => h2 y (by simp [hy]) hyT⟩
   ·obtain ⟨g1, g2⟩ := stepT_good hB (d := d) hq0 (.inr hd)
    have hd0 : ¬ d < 0 := by have := hd.1; omega
    obtain ⟨c1, c2⟩ := meet_spec h hV _ _ _ _ hqT hd (g2 hneg hd0)
    rcases fold_spec h hV hB ps _ (.inr c1) hps with ⟨_, e2, _⟩ | ⟨f1, f2⟩
    ·have := c1.1; omega
    ·refine .inr ⟨f1, fun x => ?_⟩
     rw [f2]
     constructor
     ·rintro ⟨h1 | h1, h2⟩
      ·have := c1.1; omega
      ·have h3 := (c2 x).1 h1
       exact ⟨.inr h3.2, fun y hy hyT => by rcases List.mem_cons.1 hy with rfl | hy; exact h3.1; exact h2 y hy hyT⟩
     ·rintro ⟨h1 | h1, h2⟩
      ·have := hd.1; omega
      ·exact ⟨.inr ((c2 x).2 ⟨h2 q (by simp) hqT, h1⟩), fun y hy hyT => h2 y (by simp [hy]) hyT⟩
  ·have hneg : idom.getD q.toNat 0 < 0 := by
    rcases Int.lt_or_le (idom.getD q.toNat 0) 0 with h1 | h1
    ·exact h1
    ·exact absurd ⟨hq0.1, hq0.2, h1⟩ hqT
   have e : stepT r m idom d q = d := by unfold stepT; rw [if_pos hneg]
   rw [e]
   rcases fold_spec h hV hB ps d hd hps with ⟨e1, e2, e3⟩ | ⟨c1, c2⟩
   ·exact .inl ⟨e1, e2, fun y hy => by rcases List.mem_cons.1 hy with rfl | hy; exact hqT; exact e3 y hy⟩
   ·refine .inr ⟨c1, fun x => ?_⟩
    rw [c2]
    constructor
    ·rintro ⟨h1, h2⟩
     exact ⟨h1, fun y hy hyT => by rcases List.mem_cons.1 hy with rfl | hy; exact absurd hyT hqT; exact h2 y hy hyT⟩
    ·rintro ⟨h1, h2⟩
     exact ⟨h1, fun y hy hyT => h2 y (by simp [hy]) hyT⟩
end
end Go.Proofs.Ytfiiihpdekppiaa
end
section
namespace Go.Proofs.Ytfiiihpdekppiaa
open Go.RowKit Go.Proofs Go.Proofs.YtfiiihpdekppiaaW.PrintWords
section
variable {g : List (List Int)} {r : List Int} {m : List (Int × Int)} {p : List (List Int)} {S0 S1 cur : List Int}
def Low (m : List (Int × Int)) (S0 : List Int) (n q c : Int) : Prop := Anc S0 c q ∧ mI0 m c < mI0 m n ∧ ∀ c', Anc S0 c' q → mI0 m c' < mI0 m n → Anc S0 c' c
def Eqn (p : List (List Int)) (m : List (Int × Int)) (S0 S1 : List Int) (n : Int) : Prop :=
 ∀ x, x ≠ n → (Anc S1 x n ↔ (∀ q ∈ p.getD n.toNat [], mI0 m q < mI0 m n → Anc S1 x q) ∧ (∀ q ∈ p.getD n.toNat [], mI0 m n ≤ mI0 m q → inT S0 q → ∃ c, Low m S0 n q c ∧ Anc S1 x c))
theorem par_set {n d : Int} (hn : 0 ≤ n ∧ n < S0.length) (a : Int) (ha : 0 ≤ a) : par (S0.set n.toNat d) a = if a = n then d else par S0 a := by
 unfold par
 rw [List.getD_eq_getElem?_getD, List.getElem?_set]
 by_cases e : a = n
 ·subst e; rw [if_pos rfl, if_pos (by omega), if_pos rfl]; rfl
 ·rw [if_neg (by omega), if_neg e, List.getD_eq_getElem?_getD]
theorem inT_par {idom : List Int} {a : Int} : inT idom a ↔ 0 ≤ a ∧ a < idom.length ∧ 0 ≤ par idom a := Iff.rfl
theorem anc_zero_iff {x : Int} : Anc S0 x 0 ↔ x = 0 := by
 constructor
 ·intro h1; cases h1 with
  | refl => rfl
  | step _ h0 => exact absurd rfl h0
 ·rintro rfl; exact .refl
theorem anc_iff {x a : Int} (h0 : a ≠ 0) : Anc S0 x a ↔ x = a ∨ Anc S0 x (par S0 a) := by
 constructor
 ·intro h1; cases h1 with
  | refl => exact .inl rfl
  | step h _ => exact .inr h
 ·rintro (rfl | h)
  ·exact .refl
  ·exact .step h h0
theorem TreeOkT.ind (h : TreeOkT g r m S0) (hV : ViewOk g r m p) {C : Int → Prop} (h0 : C 0) (hs : ∀ a, inT S0 a → a ≠ 0 → C (par S0 a) → C a) : ∀ a, inT S0 a → C a := by
 have : ∀ (k : Nat) (a : Int), mI0 m a < k → inT S0 a → C a := by
  intro k
  induction k with
  | zero => intro a hk ha; have := (hV.pos_lt (h.out _ ha)).1; omega
  | succ k ih =>
   intro a hk ha
   by_cases e : a = 0
   ·rw [e]; exact h0
   ·obtain ⟨h1, h2⟩ := h.up _ ha e
    exact hs a ha e (ih _ (by omega) h1)
 intro a ha
 exact this (mI0 m a).toNat.succ a (by omega) ha
theorem anc_agree (h : TreeOkT g r m S0) (hV : ViewOk g r m p) {P : Int} (ha : ∀ a, inT S0 a → mI0 m a ≤ P → par S1 a = par S0 a) {x : Int} : ∀ (a : Int), inT S0 a → mI0 m a ≤ P → (Anc S1 x a ↔ Anc S0 x a) := by
 refine h.ind hV ?_ ?_
 ·intro _; rw [anc_zero_iff, anc_zero_iff]
 ·intro a haT e ih hP
  obtain ⟨h1, h2⟩ := h.up _ haT e
  rw [anc_iff e, anc_iff e, ha a haT hP, ih (by omega)]
theorem low_ex (h : TreeOkT g r m cur) (hV : ViewOk g r m p) {n : Int} (hn : 0 < mI0 m n) (hag : ∀ a, inT cur a → mI0 m n ≤ mI0 m a → par cur a = par S0 a) :
  ∀ q, inT cur q → ∃ c, inT cur c ∧ Low m S0 n q c ∧ ∀ x, mI0 m x < mI0 m n → (Anc cur x q ↔ Anc cur x c) := by
 have base : ∀ q, inT cur q → mI0 m q < mI0 m n → ∃ c, inT cur c ∧ Low m S0 n q c ∧ ∀ x, mI0 m x < mI0 m n → (Anc cur x q ↔ Anc cur x c) := fun q hq hlt => ⟨q, hq, ⟨.refl, hlt, fun c' hc _ => hc⟩, fun x _ => Iff.rfl⟩
 refine h.ind hV (base 0 h.root (by rw [hV.pos_zero]; exact hn)) ?_
 intro q hq e ih
 by_cases hlt : mI0 m q < mI0 m n
 ·exact base q hq hlt
 ·obtain ⟨c, h1, ⟨h2, h3, h4⟩, h5⟩ := ih
  have he := hag q hq (by omega)
  rw [he] at h2 h4
  refine ⟨c, h1, ⟨.step h2 e, h3, fun c' hc hlt' => h4 c' ?_ hlt'⟩, fun x hx => ?_⟩
  ·rcases (anc_iff e).1 hc with rfl | hc
   ·omega
   ·exact hc
  ·rw [anc_iff e, ← h5 x hx]
   constructor
   ·rintro (rfl | h6)
    ·omega
    ·exact h6
   ·exact .inr
theorem TreeOkT.low_uniq (h : TreeOkT g r m S0) (hV : ViewOk g r m p) {n q c c' : Int} (hq : inT S0 q) (h1 : Low m S0 n q c) (h2 : Low m S0 n q c') : c = c' := by
 have h3 := h1.2.2 c' h2.1 h2.2.1
 have h4 := h2.2.2 c h1.1 h1.2.1
 have h5 := (h.anc_le h1.1 hq).2
 have h6 := (h.anc_le h2.1 hq).2
 exact hV.pos_inj (h.out _ h5) (h.out _ h6) (Int.le_antisymm (h.anc_le h4 h6).1 (h.anc_le h3 h5).1)
theorem ViewOk.fwd (h : ViewOk g r m p) {n : Int} (hn : n ∈ r) (h0 : n ≠ 0) : ∃ q ∈ p.getD n.toNat [], q ∈ r ∧ mI0 m q < mI0 m n := by
 obtain ⟨u, h1, a, b, e, h2⟩ := h.ord.tree n hn h0
 have hu : u ∈ r := by rw [e]; simp [h2]
 refine ⟨u, (h.preds _ _).2 ⟨hu, by have := (h.ord.rng n hn).1; rw [Int.toNat_of_nonneg this]; exact h1⟩, hu, ?_⟩
 have hnd := h.ord.nd
 rw [h.pos hu, h.pos hn]
 rw [e] at hnd ⊢
 have hna : n ∉ a := fun hc => by
  have := (List.nodup_append.1 hnd).2.2 n hc n (by simp)
  exact this rfl
 rw [List.idxOf_append, if_pos h2, List.idxOf_append, if_neg hna, List.idxOf_cons_self]
 have := List.idxOf_lt_length_of_mem h2
 omega
structure PassI (g : List (List Int)) (r : List Int) (m : List (Int × Int)) (p : List (List Int)) (S0 : List Int) (rest : List Int) (cur : List Int) : Prop where
 tree : TreeOkT g r m cur
 zero : par cur 0 = 0
 old : ∀ a : Int, 0 ≤ a → a < g.length → a = 0 ∨ a ∉ r ∨ a ∈ rest → par cur a = par S0 a
 new : ∀ n ∈ r, n ≠ 0 → n ∉ rest → inT cur n ∧ Eqn p m S0 cur n
theorem pass_step (hV : ViewOk g r m p) {done rest : List Int} {n : Int} (hT0 : TreeOkT g r m S0) (hr : r = done ++ n :: rest) (hn0 : n ≠ 0) (h : PassI g r m p S0 (n :: rest) cur) :
  (0 ≤ n ∧ n < cur.length) ∧ (treeB r m cur = true ∧ ∀ q ∈ p.getD n.toNat [], 0 ≤ q ∧ q < cur.length) ∧ PassI g r m p S0 rest (cur.set n.toNat (foldT r m cur (p.getD n.toNat []))) ∧ 0 ≤ foldT r m cur (p.getD n.toNat []) := by
 have hnr : n ∈ r := by rw [hr]; simp
 have hn := hV.ord.rng n hnr
 have hnd := hV.ord.nd
 have hlen := h.tree.len
 have hB := h.tree.treeB hV h.zero
 have hps : ∀ q ∈ p.getD n.toNat [], q ∈ r := fun q hq => ((hV.preds _ _).1 hq).1
 have hpr : ∀ q ∈ p.getD n.toNat [], 0 ≤ q ∧ q < cur.length := fun q hq => by have := hV.ord.rng q (hps q hq); omega
 have hnp : 0 < mI0 m n := hV.pos_pos hnr hn0
 have hahead : ∀ a ∈ r, (a ∈ n :: rest ↔ mI0 m n ≤ mI0 m a) := fun a ha => by
  have hna : n ∉ done := fun hc => by rw [hr] at hnd; exact (List.nodup_append.1 hnd).2.2 n hc n (by simp) rfl
  rw [hV.pos hnr, hV.pos ha, hr, List.idxOf_append, if_neg hna, List.idxOf_cons_self, List.idxOf_append]
  by_cases had : a ∈ done
  ·rw [if_pos had]
   have h1 := List.idxOf_lt_length_of_mem had
   have h2 : a ∉ n :: rest := fun hc => by rw [hr] at hnd; exact (List.nodup_append.1 hnd).2.2 a had a hc rfl
   constructor
   ·intro h3; exact absurd h3 h2
   ·intro h3; omega
  ·rw [if_neg had]
   have h2 : a ∈ n :: rest := by rw [hr] at ha; simpa [had] using ha
   constructor
   ·intro _; omega
   ·intro _; exact h2
 have hold : ∀ a, inT cur a → mI0 m n ≤ mI0 m a → par cur a = par S0 a := fun a ha hle => by
  have har := h.tree.out a ha
  have := hV.ord.rng a har
  exact h.old a this.1 this.2 (.inr (.inr ((hahead a har).2 hle)))
 obtain ⟨q0, hq0, hq0r, hq0l⟩ := hV.fwd hnr hn0
 have hq0T : inT cur q0 := by
  by_cases e : q0 = 0
  ·rw [e]; exact h.tree.root
  ·exact (h.new q0 hq0r e (fun hc => by have := (hahead q0 hq0r).1 hc; omega)).1
 obtain ⟨d, hd⟩ : ∃ d, d = foldT r m cur (p.getD n.toNat []) := ⟨_, rfl⟩
 rcases fold_spec h.tree hV hB (p.getD n.toNat []) (-1) (.inl rfl) hpr with ⟨_, _, e3⟩ | ⟨hdT, hdA⟩
 ·exact absurd hq0T (e3 q0 hq0)
 change inT cur (foldT r m cur (p.getD n.toNat [])) at hdT
 change ∀ x, Anc cur x (foldT r m cur (p.getD n.toNat [])) ↔ _ at hdA
 rw [← hd] at hdT hdA ⊢
 have hdl : mI0 m d < mI0 m n := by
  have := (h.tree.anc_le (((hdA d).1 .refl).2 q0 hq0 hq0T) hq0T).1
  omega
 have hnc : 0 ≤ n ∧ n < cur.length := by omega
 have hps2 : ∀ a, 0 ≤ a → par (cur.set n.toNat d) a = if a = n then d else par cur a := fun a ha => par_set hnc a ha
 have hT2 : ∀ a, inT (cur.set n.toNat d) a ↔ inT cur a ∨ a = n := fun a => by
  rw [inT_par, inT_par, List.length_set]
  constructor
  ·rintro ⟨h1, h2, h3⟩
   rw [hps2 a h1] at h3
   by_cases e : a = n
   ·exact .inr e
   ·rw [if_neg e] at h3; exact .inl ⟨h1, h2, h3⟩
  ·rintro (⟨h1, h2, h3⟩ | rfl)
   ·refine ⟨h1, h2, ?_⟩
    rw [hps2 a h1]
    split
    ·exact hdT.1
    ·exact h3
   ·refine ⟨hnc.1, hnc.2, ?_⟩
    rw [hps2 a hnc.1, if_pos rfl]; exact hdT.1
 have hag : ∀ a, inT cur a → mI0 m a ≤ mI0 m n - 1 → par (cur.set n.toNat d) a = par cur a := fun a ha hle => by
  rw [hps2 a ha.1, if_neg (fun e => by rw [e] at hle; omega)]
 have hA : ∀ x a, inT cur a → mI0 m a < mI0 m n → (Anc (cur.set n.toNat d) x a ↔ Anc cur x a) := fun x a ha hl => anc_agree h.tree hV hag a ha (by omega)
 have hTree : TreeOkT g r m (cur.set n.toNat d) := by
  refine ⟨by rw [List.length_set]; exact hlen, fun a ha => ?_, fun a ha ha0 => ?_, (hT2 0).2 (.inl h.tree.root), fun a h0 hl hna => ?_⟩
  ·rcases (hT2 a).1 ha with h1 | rfl
   ·exact h.tree.out a h1
   ·exact hnr
  ·rw [hps2 a ha.1]
   by_cases e : a = n
   ·rw [if_pos e, e]; exact ⟨(hT2 _).2 (.inl hdT), hdl⟩
   ·rw [if_neg e]
    have h1 := ((hT2 a).1 ha).resolve_right e
    have h2 := h.tree.up a h1 ha0
    exact ⟨(hT2 _).2 (.inl h2.1), h2.2⟩
  ·rw [hT2] at hna
   rw [hps2 a h0, if_neg (fun e => hna (.inr e))]
   exact h.tree.neg a h0 hl (fun e => hna (.inl e))
 refine ⟨hnc, ⟨hB, hpr⟩, ⟨hTree, ?_, fun a h0 hl hc => ?_, fun a ha ha0 hc => ?_⟩, hdT.1⟩
 ·rw [hps2 0 (Int.le_refl _), if_neg (fun e => hn0 e.symm)]; exact h.zero
 ·have hne : a ≠ n := by
   rintro rfl
   rcases hc with hc | hc | hc
   ·exact hn0 hc
   ·exact hc hnr
   ·rw [hr] at hnd
    exact (List.nodup_cons.1 (List.nodup_append.1 hnd).2.1).1 hc
  rw [hps2 a h0, if_neg hne]
  refine h.old a h0 hl ?_
  rcases hc with hc | hc | hc
  ·exact .inl hc
  ·exact .inr (.inl hc)
  ·exact .inr (.inr (by simp [hc]))
 ·by_cases e : a = n
  ·subst e
   refine ⟨(hT2 a).2 (.inr rfl), fun x hx => ?_⟩
   rw [anc_iff hn0, hps2 a hnc.1, if_pos rfl, hA x d hdT hdl, hdA x]
   have hor : (x = a ∨ (-1 = (-1 : Int) ∨ Anc cur x (-1)) ∧ ∀ q ∈ p.getD a.toNat [], inT cur q → Anc cur x q) ↔ ∀ q ∈ p.getD a.toNat [], inT cur q → Anc cur x q := ⟨fun h => (h.resolve_left hx).2, fun h => .inr ⟨.inl rfl, h⟩⟩
   rw [hor]
   have hfT : ∀ q ∈ p.getD a.toNat [], mI0 m q < mI0 m a → inT cur q := fun q hq hl => by
    by_cases e : q = 0
    ·rw [e]; exact h.tree.root
    ·exact (h.new q (hps q hq) e (fun hc => by have := (hahead q (hps q hq)).1 hc; omega)).1
   have hTS : ∀ q, q ∈ r → mI0 m a ≤ mI0 m q → (inT cur q ↔ inT S0 q) := fun q hq hle => by
    have h1 := hV.ord.rng q hq
    have h2 := h.old q h1.1 h1.2 (.inr (.inr ((hahead q hq).2 hle)))
    rw [inT_par, inT_par, h2]
    constructor
    ·rintro ⟨h3, h4, h5⟩
     exact ⟨h3, by rw [hT0.len]; omega, h5⟩
    ·rintro ⟨h3, h4, h5⟩
     exact ⟨h3, by omega, h5⟩
   constructor
   ·intro hall
    refine ⟨fun q hq hl => (hA x q (hfT q hq hl) hl).2 (hall q hq (hfT q hq hl)), fun q hq hle hqT => ?_⟩
    have hqT' := (hTS q (hps q hq) hle).2 hqT
    obtain ⟨c, c1, c2, c3⟩ := low_ex h.tree hV hnp hold q hqT'
    have hxq := hall q hq hqT'
    have hxl : mI0 m x < mI0 m a := by
     have := (h.tree.anc_le (hall q0 hq0 hq0T) hq0T).1
     omega
    exact ⟨c, c2, (hA x c c1 c2.2.1).2 ((c3 x hxl).1 hxq)⟩
   ·rintro ⟨h1, h2⟩ q hq hqT
    rcases Int.lt_or_le (mI0 m q) (mI0 m a) with hl | hle
    ·exact (hA x q hqT hl).1 (h1 q hq hl)
    ·obtain ⟨c, c1, c2, c3⟩ := low_ex h.tree hV hnp hold q hqT
     have hqT0 := (hTS q (hps q hq) hle).1 hqT
     obtain ⟨c', d1, d2⟩ := h2 q hq hle hqT0
     obtain rfl : c' = c := hT0.low_uniq hV hqT0 d1 c2
     have hxl : mI0 m x < mI0 m a := by
      have := (hTree.anc_le d2 ((hT2 _).2 (.inl c1))).1
      have := c2.2.1
      omega
     exact (c3 x hxl).2 ((hA x c' c1 c2.2.1).1 d2)
  ·have h1 := h.new a ha ha0 (by simp [e, hc])
   have hal : mI0 m a < mI0 m n := by
    rcases Int.lt_or_le (mI0 m a) (mI0 m n) with h2 | h2
    ·exact h2
    ·exact absurd ((hahead a ha).2 h2) (by simp [e, hc])
   have hT3 : ∀ q ∈ r, mI0 m q < mI0 m a → inT cur q := fun q hq hl => by
    by_cases e : q = 0
    ·rw [e]; exact h.tree.root
    ·exact (h.new q hq e (fun hc => by have := (hahead q hq).1 hc; omega)).1
   have hps3 : ∀ q ∈ p.getD a.toNat [], q ∈ r := fun q hq => ((hV.preds _ _).1 hq).1
   refine ⟨(hT2 a).2 (.inl h1.1), fun x hx => ?_⟩
   rw [hA x a h1.1 hal, h1.2 x hx]
   constructor
   ·rintro ⟨h2, h3⟩
    refine ⟨fun q hq hl => (hA x q (hT3 q (hps3 q hq) hl) (by omega)).2 (h2 q hq hl), fun q hq hle hqT => ?_⟩
    obtain ⟨c, c1, c2⟩ := h3 q hq hle hqT
    have hcT := (hT0.anc_le c1.1 hqT).2
    exact ⟨c, c1, (hA x c (hT3 c (hT0.out c hcT) c1.2.1) (by have := c1.2.1; omega)).2 c2⟩
   ·rintro ⟨h2, h3⟩
    refine ⟨fun q hq hl => (hA x q (hT3 q (hps3 q hq) hl) (by omega)).1 (h2 q hq hl), fun q hq hle hqT => ?_⟩
    obtain ⟨c, c1, c2⟩ := h3 q hq hle hqT
    have hcT := (hT0.anc_le c1.1 hqT).2
    exact ⟨c, c1, (hA x c (hT3 c (hT0.out c hcT) c1.2.1) (by have := c1.2.1; omega)).1 c2⟩
end
end Go.Proofs.Ytfiiihpdekppiaa
end
section
namespace Go.Proofs.Ytfiiihpdekppiaa
open Go.RowKit Go.Proofs Go.Proofs.YtfiiihpdekppiaaW.PrintWords
inductive RA (g : List (List Int)) (x : Int) : Int → Int → Prop
 | refl {a : Int} (h : a ≠ x) : RA g x a a
 | step {a b c : Int} : RA g x a b → c ∈ succs g b → c ≠ x → RA g x a c
theorem RA.ne {g : List (List Int)} {x a b : Int} (h : RA g x a b) : b ≠ x := by cases h <;> assumption
def Dm (g : List (List Int)) (x n : Int) : Prop := ¬ RA g x 0 n
section
variable {g : List (List Int)} {r : List Int} {m : List (Int × Int)} {p : List (List Int)} {S0 S1 S2 cur : List Int}
theorem ViewOk.pos_nn (h : ViewOk g r m p) (x : Int) : 0 ≤ mI0 m x := by
 unfold mI0
 rw [h.att]
 split <;> simp
theorem domPass_ok (hV : ViewOk g r m p) (hT0 : TreeOkT g r m S0) : ∀ (rest done : List Int) (cur : List Int) (ch : Bool), r = done ++ rest → (0 : Int) ∉ rest → PassI g r m p S0 rest cur →
  (ch = false → cur = S0) → (ch = true → ∃ n ∈ r, n ≠ 0 ∧ n ∉ rest ∧ par cur n ≠ par S0 n) →
  ∃ S1 ch', domPass r m p rest cur ch = some (S1, ch') ∧ PassI g r m p S0 [] S1 ∧ (ch' = false → S1 = S0) ∧ (ch' = true → ∃ n ∈ r, n ≠ 0 ∧ par S1 n ≠ par S0 n)
 | [], done, cur, ch, hr, h0, h, h1, h2 => ⟨cur, ch, rfl, h, h1, fun e => by obtain ⟨n, a, b, _, c⟩ := h2 e; exact ⟨n, a, b, c⟩⟩
 | n :: rest, done, cur, ch, hr, h0, h, h1, h2 => by
  have hn0 : n ≠ 0 := fun e => h0 (by simp [e])
  obtain ⟨a1, a2, a3, a4⟩ := pass_step hV hT0 hr hn0 h
  have hnr : n ∈ r := by rw [hr]; simp
  have hnd := hV.ord.nd
  rw [hr] at hnd
  have hnrest : n ∉ rest := (List.nodup_cons.1 (List.nodup_append.1 hnd).2.1).1
  unfold domPass
  rw [if_pos a1, if_pos a2]
  have hpn : par cur n = par S0 n := h.old n (hV.ord.rng n hnr).1 (hV.ord.rng n hnr).2 (.inr (.inr (by simp)))
  by_cases e : cur.getD n.toNat 0 = foldT r m cur (p.getD n.toNat [])
  ·rw [if_pos e]
   have hset : cur.set n.toNat (foldT r m cur (p.getD n.toNat [])) = cur := by
    rw [← e]
    apply List.ext_getElem?
    intro i
    rw [List.getElem?_set]
    split
    ·next hi =>
     subst hi
     rw [if_pos (by omega), List.getD_eq_getElem?_getD, List.getElem?_eq_getElem (by omega)]; rfl
    ·rfl
   rw [hset] at a3
   exact domPass_ok hV hT0 rest (done ++ [n]) cur ch (by rw [hr]; simp) (fun hc => h0 (by simp [hc])) a3 h1 (fun hc => by
    obtain ⟨x, b1, b2, b3, b4⟩ := h2 hc
    exact ⟨x, b1, b2, fun hx => b3 (by simp [hx]), b4⟩)
  ·rw [if_neg e]
   refine domPass_ok hV hT0 rest (done ++ [n]) _ true (by rw [hr]; simp) (fun hc => h0 (by simp [hc])) a3 (fun hc => by cases hc) (fun _ => ⟨n, hnr, hn0, hnrest, ?_⟩)
   rw [par_set a1 n a1.1, if_pos rfl, ← hpn]
   exact fun h => e h.symm
structure Pass (g : List (List Int)) (r : List Int) (m : List (Int × Int)) (p : List (List Int)) (S0 S1 : List Int) : Prop where
 tree : TreeOkT g r m S1
 zero : par S1 0 = 0
 full : ∀ n ∈ r, inT S1 n
 eqn : ∀ n ∈ r, n ≠ 0 → Eqn p m S0 S1 n
theorem pass_ok (hV : ViewOk g r m p) (hT0 : TreeOkT g r m S0) (hz : par S0 0 = 0) : ∃ S1 ch, domPass r m p r.tail S0 false = some (S1, ch) ∧ Pass g r m p S0 S1 ∧ (ch = false → S1 = S0) ∧ (ch = true → ∃ n ∈ r, n ≠ 0 ∧ par S1 n ≠ par S0 n) := by
 obtain ⟨t, e⟩ := hV.ord.root
 have hnd := hV.ord.nd
 rw [e] at hnd
 obtain ⟨S1, ch, h1, h2, h3, h4⟩ := domPass_ok hV hT0 t [0] S0 false e (List.nodup_cons.1 hnd).1 ⟨hT0, hz, fun _ _ _ _ => rfl, fun n hn h0 hnt => by
  rw [e] at hn; exact absurd ((List.mem_cons.1 hn).resolve_left h0) hnt⟩ (fun _ => rfl) (fun h => by cases h)
 refine ⟨S1, ch, by rw [e] at h1 ⊢; exact h1, ⟨h2.tree, h2.zero, fun n hn => ?_, fun n hn h0 => (h2.new n hn h0 (by simp)).2⟩, h3, h4⟩
 by_cases h0 : n = 0
 ·rw [h0]; exact h2.tree.root
 ·exact (h2.new n hn h0 (by simp)).1
theorem Pass.fwd (h : Pass g r m p S0 S1) {x n q : Int} (hn : n ∈ r) (h0 : n ≠ 0) (hx : x ≠ n) (ha : Anc S1 x n) (hq : q ∈ p.getD n.toNat []) (hl : mI0 m q < mI0 m n) : Anc S1 x q := ((h.eqn n hn h0 x hx).1 ha).1 q hq hl
theorem ViewOk.ind (h : ViewOk g r m p) {C : Int → Prop} (hs : ∀ n ∈ r, (∀ q ∈ r, mI0 m q < mI0 m n → C q) → C n) : ∀ n ∈ r, C n := by
 have : ∀ (k : Nat) (n : Int), n ∈ r → mI0 m n < k → C n := by
  intro k
  induction k with
  | zero => intro n hn hk; have := (h.pos_lt hn).1; omega
  | succ k ih => intro n hn hk; exact hs n hn (fun q hq hl => ih q hq (by omega))
 intro n hn
 exact this (mI0 m n).toNat.succ n hn (by have := (h.pos_lt hn).1; omega)
theorem key (hV : ViewOk g r m p) (hF0 : ∀ x n q, n ∈ r → n ≠ 0 → x ≠ n → Anc S0 x n → q ∈ p.getD n.toNat [] → mI0 m q < mI0 m n → Anc S0 x q) (h0T : TreeOkT g r m S0) (h0f : ∀ n ∈ r, inT S0 n) (h1 : Pass g r m p S1 S2) {x c : Int} (hl : mI0 m x < mI0 m c) :
  ∀ n ∈ r, Anc S2 x n → Anc S0 c n → Anc S2 x c := by
 refine hV.ind fun n hn ih hx hc => ?_
 by_cases e : c = n
 ·rw [e]; exact hx
 ·have hn0 : n ≠ 0 := fun h => e (by rw [h] at hc ⊢; exact anc_zero_iff.1 hc)
  obtain ⟨q, hq, hqr, hql⟩ := hV.fwd hn hn0
  have hcq := hF0 c n q hn hn0 e hc hq hql
  have hcl := (h0T.anc_le hc (h0f n hn)).1
  have hxn : x ≠ n := fun h => by rw [h] at hl; omega
  exact ih q hqr hql (h1.fwd hn hn0 hxn hx hq hql) hcq
def Sub (r : List Int) (S1 S0 : List Int) : Prop := ∀ n ∈ r, ∀ x, Anc S1 x n → Anc S0 x n
theorem sub_first (hV : ViewOk g r m p) (hi : ∀ a, inT S0 a → a = 0) (h1 : Pass g r m p S0 S1) (h2 : Pass g r m p S1 S2) : Sub r S2 S1 := by
 refine hV.ind fun n hn ih x hx => ?_
 by_cases e : x = n
 ·rw [e]; exact .refl
 ·by_cases hn0 : n = 0
  ·rw [hn0] at hx ⊢; exact anc_zero_iff.2 (anc_zero_iff.1 hx)
  ·refine (h1.eqn n hn hn0 x e).2 ⟨fun q hq hl => ih q ((hV.preds _ _).1 hq).1 hl x (h2.fwd hn hn0 e hx hq hl), fun q hq hle hqT => ?_⟩
   have := hi q hqT
   rw [this, hV.pos_zero] at hle
   have := hV.pos_pos hn hn0
   omega
theorem sub_next (hV : ViewOk g r m p) (h0T : TreeOkT g r m S0) (h0f : ∀ n ∈ r, inT S0 n) (hF0 : ∀ x n q, n ∈ r → n ≠ 0 → x ≠ n → Anc S0 x n → q ∈ p.getD n.toNat [] → mI0 m q < mI0 m n → Anc S0 x q)
  (h1 : Pass g r m p S0 S1) (h2 : Pass g r m p S1 S2) (hs : Sub r S1 S0) : Sub r S2 S1 := by
 refine hV.ind fun n hn ih x hx => ?_
 by_cases e : x = n
 ·rw [e]; exact .refl
 ·by_cases hn0 : n = 0
  ·rw [hn0] at hx ⊢; exact anc_zero_iff.2 (anc_zero_iff.1 hx)
  ·have he := (h2.eqn n hn hn0 x e).1 hx
   refine (h1.eqn n hn hn0 x e).2 ⟨fun q hq hl => ih q ((hV.preds _ _).1 hq).1 hl x (he.1 q hq hl), fun q hq hle hqT => ?_⟩
   have hqr := ((hV.preds _ _).1 hq).1
   obtain ⟨c, ⟨c1, c2, c3⟩, c4⟩ := he.2 q hq hle (h1.full q hqr)
   obtain ⟨c', d1, d2, _⟩ := low_ex (S0 := S0) h0T hV (hV.pos_pos hn hn0) (fun _ _ _ => rfl) q hqT
   have hcr := h1.tree.out c (h1.tree.anc_le c1 (h1.full q hqr)).2
   have hxc : Anc S1 x c := ih c hcr c2 x c4
   have hxq : Anc S1 x q := hxc.trans c1
   have hcc : Anc S0 c c' := d2.2.2 c (hs q hqr c c1) c2
   have hle2 := (h0T.anc_le hcc d1).1
   have hxl := (h1.tree.anc_le hxc (h1.full c hcr)).1
   refine ⟨c', d2, ?_⟩
   by_cases exc : mI0 m x < mI0 m c'
   ·exact key hV hF0 h0T h0f h1 exc q hqr hxq d2.1
   ·have hxr := h1.tree.out x (h1.tree.anc_le hxc (h1.full c hcr)).2
    have : x = c' := hV.pos_inj hxr (h0T.out _ d1) (by omega)
    rw [this]; exact .refl
def weight (r : List Int) (m : List (Int × Int)) (S : List Int) : Nat := (r.map fun n => (mI0 m (par S n)).toNat).sum
theorem sum_le {α : Type} : ∀ (l : List α) (f h : α → Nat), (∀ x ∈ l, f x ≤ h x) → (l.map f).sum ≤ (l.map h).sum
 | [], _, _, _ => Nat.le_refl _
 | a :: l, f, h, hle => by
  simp only [List.map_cons, List.sum_cons]
  have h1 := hle a (by simp)
  have := sum_le l f h (fun x hx => hle x (by simp [hx]))
  omega
theorem sum_lt {α : Type} : ∀ (l : List α) (f h : α → Nat), (∀ x ∈ l, f x ≤ h x) → (∃ x ∈ l, f x < h x) → (l.map f).sum < (l.map h).sum
 | [], _, _, _, h => by obtain ⟨_, h, _⟩ := h; simp at h
 | a :: l, f, h, hle, ⟨x, hx, hlt⟩ => by
  simp only [List.map_cons, List.sum_cons]
  have h1 := hle a (by simp)
  have hle' : ∀ x ∈ l, f x ≤ h x := fun x hx => hle x (by simp [hx])
  rcases List.mem_cons.1 hx with rfl | hx
  ·have := sum_le l f h hle'
   omega
  ·have := sum_lt l f h hle' ⟨x, hx, hlt⟩
   omega
theorem weight_lt (hV : ViewOk g r m p) (h1 : Pass g r m p S0 S1) (h2 : Pass g r m p S1 S2) (hs : Sub r S2 S1) (hc : ∃ n ∈ r, n ≠ 0 ∧ par S2 n ≠ par S1 n) : weight r m S2 < weight r m S1 := by
 have hle : ∀ n ∈ r, n ≠ 0 → Anc S1 (par S2 n) (par S1 n) ∧ inT S1 (par S1 n) ∧ par S2 n ∈ r := fun n hn h0 => by
  have ha : Anc S2 (par S2 n) n := .step .refl h0
  have h3 := hs n hn _ ha
  have hne : par S2 n ≠ n := fun e => by have := (h2.tree.up n (h2.full n hn) h0).2; rw [e] at this; omega
  exact ⟨(h1.tree.anc_lt h3 (h1.full n hn) hne).2.2, (h1.tree.up n (h1.full n hn) h0).1, h2.tree.out _ (h2.tree.up n (h2.full n hn) h0).1⟩
 refine sum_lt r _ _ (fun n hn => ?_) ?_
 ·by_cases h0 : n = 0
  ·rw [h0, h1.zero, h2.zero]; exact Nat.le_refl _
  ·obtain ⟨a, b, _⟩ := hle n hn h0
   have := (h1.tree.anc_le a b).1
   omega
 ·obtain ⟨n, hn, h0, hne⟩ := hc
  obtain ⟨a, b, c⟩ := hle n hn h0
  have h3 := (h1.tree.anc_lt a b hne).1
  have := (hV.pos_lt c).1
  exact ⟨n, hn, by omega⟩
theorem Pass.hF (h : Pass g r m p S0 S1) : ∀ x n q, n ∈ r → n ≠ 0 → x ≠ n → Anc S1 x n → q ∈ p.getD n.toNat [] → mI0 m q < mI0 m n → Anc S1 x q := fun _ _ _ hn h0 hx ha hq hl => h.fwd hn h0 hx ha hq hl
def Sound (g : List (List Int)) (r S : List Int) : Prop := ∀ n ∈ r, inT S n → ∀ x, Dm g x n → Anc S x n
theorem Dm.pred (hV : ViewOk g r m p) {x n q : Int} (h : Dm g x n) (hx : x ≠ n) (hq : q ∈ p.getD n.toNat []) (hn : n ∈ r) : Dm g x q := fun hc => by
 have := ((hV.preds _ _).1 hq).2
 rw [Int.toNat_of_nonneg (hV.ord.rng n hn).1] at this
 exact h (.step hc this (fun e => hx e.symm))
theorem Dm.le (hV : ViewOk g r m p) {x : Int} : ∀ n ∈ r, Dm g x n → x ∈ r ∧ mI0 m x ≤ mI0 m n := by
 refine hV.ind fun n hn ih h => ?_
 by_cases e : x = n
 ·rw [e]; exact ⟨hn, Int.le_refl _⟩
 ·by_cases h0 : n = 0
  ·exact absurd (RA.refl (fun h' => e (by rw [h0]; exact h'.symm))) (by rw [h0] at h; exact h)
  ·obtain ⟨q, hq, hqr, hql⟩ := hV.fwd hn h0
   have := ih q hqr hql (h.pred hV e hq hn)
   exact ⟨this.1, by omega⟩
theorem sound_next (hV : ViewOk g r m p) (h0T : TreeOkT g r m S0) (hFR : ∀ x c n, n ∈ r → inT S0 n → Anc S0 c n → mI0 m x < mI0 m c → RA g x 0 c → RA g x 0 n) (h1 : Pass g r m p S0 S1) (hs : Sound g r S0) : Sound g r S1 := by
 have : ∀ n ∈ r, ∀ x, Dm g x n → Anc S1 x n := by
  refine hV.ind fun n hn ih x hx => ?_
  by_cases e : x = n
  ·rw [e]; exact .refl
  ·by_cases hn0 : n = 0
   ·exact absurd (RA.refl (fun h' => e (by rw [hn0]; exact h'.symm))) (by rw [hn0] at hx; exact hx)
   ·obtain ⟨q0, hq0, hq0r, hq0l⟩ := hV.fwd hn hn0
    have hxl : mI0 m x < mI0 m n := by have := ((hx.pred hV e hq0 hn).le hV q0 hq0r).2; omega
    refine (h1.eqn n hn hn0 x e).2 ⟨fun q hq hl => ih q ((hV.preds _ _).1 hq).1 hl x (hx.pred hV e hq hn), fun q hq hle hqT => ?_⟩
    have hqr := ((hV.preds _ _).1 hq).1
    have hdq := hx.pred hV e hq hn
    obtain ⟨c, d1, d2, _⟩ := low_ex (S0 := S0) h0T hV (hV.pos_pos hn hn0) (fun _ _ _ => rfl) q hqT
    have hxq := hs q hqr hqT x hdq
    have hxc := d2.2.2 x hxq hxl
    refine ⟨c, d2, ?_⟩
    have hcr := h0T.out _ d1
    by_cases exc : x = c
    ·rw [exc]; exact .refl
    ·have hlt := (h0T.anc_lt hxc d1 exc).1
     exact ih c hcr d2.2.1 x (fun hra => hdq (hFR x c q hqr hqT d2.1 hlt hra))
 exact fun n hn _ x hx => this n hn x hx
theorem hFR_pass (hV : ViewOk g r m p) (h : Pass g r m p S0 S1) : ∀ x c n, n ∈ r → inT S1 n → Anc S1 c n → mI0 m x < mI0 m c → RA g x 0 c → RA g x 0 n := by
 intro x c n hn _ hc hl hra
 have : ∀ n ∈ r, Anc S1 c n → RA g x 0 n := by
  refine hV.ind fun n hn ih hc => ?_
  by_cases e : c = n
  ·rw [← e]; exact hra
  ·have hn0 : n ≠ 0 := fun h => e (by rw [h] at hc ⊢; exact anc_zero_iff.1 hc)
   obtain ⟨q, hq, hqr, hql⟩ := hV.fwd hn hn0
   have h3 := ih q hqr hql (h.fwd hn hn0 e hc hq hql)
   have h4 := ((hV.preds _ _).1 hq).2
   rw [Int.toNat_of_nonneg (hV.ord.rng n hn).1] at h4
   refine h3.step h4 (fun e2 => ?_)
   have := (h.tree.anc_le hc (h.full n hn)).1
   rw [e2] at this
   omega
 exact this n hn hc
structure DomOk (g : List (List Int)) (r : List Int) (m : List (Int × Int)) (p : List (List Int)) (d : List Int) : Prop where
 view : ViewOk g r m p
 tree : TreeOkT g r m d
 zero : par d 0 = 0
 full : ∀ n ∈ r, inT d n
 dom : ∀ n ∈ r, ∀ x, Anc d x n ↔ Dm g x n
theorem fix_dom (hV : ViewOk g r m p) (h : Pass g r m p S1 S1) (hs : Sound g r S1) : DomOk g r m p S1 := by
 refine ⟨hV, h.tree, h.zero, h.full, fun n hn x => ⟨fun ha hra => ?_, fun hd => hs n hn (h.full n hn) x hd⟩⟩
 have : ∀ a b, RA g x a b → a = 0 → b ∈ r → Anc S1 x b → False := by
  intro a b hra
  induction hra with
  | refl hne => intro h0 _ h2; rw [h0] at hne h2; exact hne (anc_zero_iff.1 h2).symm
  | @step b c h1 h2 h3 ih =>
   intro h0 hcr hac
   have hbr : b ∈ r := by
    have : ∀ a b, RA g x a b → a ∈ r → b ∈ r := by
     intro a b h
     induction h with
     | refl _ => exact fun h => h
     | step _ hc _ ih => exact fun h => hV.ord.closed _ (ih h) _ hc
    exact this _ _ h1 (by rw [h0]; exact hV.zero_mem)
   refine ih h0 hbr ?_
   by_cases hc0 : c = 0
   ·rw [hc0] at hac; exact absurd (by rw [hc0]; exact (anc_zero_iff.1 hac).symm) h3
   ·have hbp : b ∈ p.getD c.toNat [] := (hV.preds _ _).2 ⟨hbr, by rw [Int.toNat_of_nonneg (hV.ord.rng c hcr).1]; exact h2⟩
    have he := (h.eqn c hcr hc0 x (fun e => h3 e.symm)).1 hac
    rcases Int.lt_or_le (mI0 m b) (mI0 m c) with hl | hle
    ·exact he.1 b hbp hl
    ·obtain ⟨d, d1, d2⟩ := he.2 b hbp hle (h.full b hbr)
     exact d2.trans d1.1
 exact this 0 n hra rfl hn ha
theorem domLoop_ok (hV : ViewOk g r m p) : ∀ (k : Nat) (S0 S1 : List Int), TreeOkT g r m S0 → Pass g r m p S0 S1 → (∀ a, inT S0 a → a = 0) ∨ (Sub r S1 S0 ∧ (∀ n ∈ r, inT S0 n) ∧ ∀ x n q, n ∈ r → n ≠ 0 → x ≠ n → Anc S0 x n → q ∈ p.getD n.toNat [] → mI0 m q < mI0 m n → Anc S0 x q) →
  Sound g r S1 → weight r m S1 < k → ∃ d, domLoop r m p k S1 = some d ∧ DomOk g r m p d
 | 0, _, _, _, _, _, _, hk => by omega
 | k + 1, S0, S1, h0T, h1, hor, hs, hk => by
  obtain ⟨S2, ch, a1, a2, a3, a4⟩ := pass_ok hV h1.tree h1.zero
  unfold domLoop
  rw [a1]
  simp only [Option.bind_some]
  have hsub : Sub r S2 S1 := by
   rcases hor with hi | ⟨b1, b2, b3⟩
   ·exact sub_first hV hi h1 a2
   ·exact sub_next hV h0T b2 b3 h1 a2 b1
  cases ch with
  | false =>
   have e := a3 rfl
   subst e
   exact ⟨S2, by simp, fix_dom hV a2 hs⟩
  | true =>
   rw [if_pos rfl]
   have hw := weight_lt hV h1 a2 hsub (a4 rfl)
   exact domLoop_ok hV k S1 S2 h1.tree a2 (.inr ⟨hsub, h1.full, h1.hF⟩) (sound_next hV h1.tree (hFR_pass hV h1) a2 hs) (by omega)
theorem doms_ok (hV : ViewOk g r m p) (h0 : 0 < g.length) : ∃ k d, domsF k r m p g.length = some d ∧ DomOk g r m p d := by
 have hpar : ∀ a : Int, 0 ≤ a → a < g.length → par ((List.replicate g.length (-1)).set 0 0) a = if a = 0 then 0 else -1 := fun a ha hl => by
  have := par_set (S0 := List.replicate g.length (-1)) (n := 0) (d := 0) (by simp; omega) a ha
  rw [Int.toNat_zero] at this
  rw [this]
  split
  ·rfl
  ·unfold par
   rw [List.getD_eq_getElem?_getD, List.getElem?_replicate, if_pos (by omega)]; rfl
 have hi : ∀ a, inT ((List.replicate g.length (-1)).set 0 0) a → a = 0 := fun a ha => by
  rw [inT_par] at ha
  obtain ⟨h1, h2, h3⟩ := ha
  simp only [List.length_set, List.length_replicate] at h2
  rw [hpar a h1 h2] at h3
  split at h3
  ·assumption
  ·omega
 have hT0 : TreeOkT g r m ((List.replicate g.length (-1)).set 0 0) := by
  refine ⟨by simp, fun a ha => ?_, fun a ha h => absurd (hi a ha) h, ?_, fun a h1 h2 h3 => ?_⟩
  ·rw [hi a ha]; exact hV.zero_mem
  ·rw [inT_par]
   refine ⟨Int.le_refl _, by simp; omega, ?_⟩
   rw [hpar 0 (Int.le_refl _) (by omega)]; decide
  ·rw [hpar a h1 h2, if_neg]
   rintro rfl
   apply h3
   rw [inT_par]
   refine ⟨Int.le_refl _, by simp; omega, ?_⟩
   rw [hpar 0 (Int.le_refl _) (by omega)]; decide
 have hz : par ((List.replicate g.length (-1)).set 0 0) 0 = 0 := by rw [hpar 0 (Int.le_refl _) (by omega)]; rfl
 obtain ⟨S1, ch, a1, a2, a3, a4⟩ := pass_ok hV hT0 hz
 have hs1 : Sound g r S1 := by
  refine sound_next hV hT0 ?_ a2 ?_
  ·intro x c n hn hT hc hl _
   have := hi n hT
   rw [this] at hc
   have := anc_zero_iff.1 hc
   rw [this, hV.pos_zero] at hl
   have := hV.pos_nn x
   omega
  ·intro n hn hT x hx
   rw [hi n hT] at hx ⊢
   exact anc_zero_iff.2 (Classical.byContradiction fun e => hx (.refl (fun h => e h.symm)))
 cases ch with
 | false =>
  have e := a3 rfl
  subst e
  exact ⟨1, _, by unfold domsF domLoop; rw [a1]; simp, fix_dom hV a2 hs1⟩
 | true =>
  obtain ⟨d, b1, b2⟩ := domLoop_ok hV (weight r m S1 + 1) _ S1 hT0 a2 (.inl hi) hs1 (by omega)
  refine ⟨weight r m S1 + 2, d, ?_, b2⟩
  unfold domsF domLoop
  rw [a1]
  simpa using b1
end
end Go.Proofs.Ytfiiihpdekppiaa
end
