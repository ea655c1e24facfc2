/- A part of the proof that vellumlaw12.ShapeErrors is true for every input: walks of functions that the row reaches and plain laws that they need. Conditions: none. Joined by merge.py out of S1 S5 S6; a part that began as a print is named P or W there and is trimmed. -/
import GoSem.Core.Value
set_option linter.unusedVariables false
set_option linter.unusedSimpArgs false
section
namespace Go.Proofs.Ytfiiihpdekppiaa
def mget {β : Type} (l : List (Int × β)) (k : Int) : Option β := (l.find? fun p => p.1 == k).map (·.2)
def mput {β : Type} : List (Int × β) → Int → β → List (Int × β)
 | [], k, v => [(k, v)]
 | p :: r, k, v => if p.1 = k then (k, v) :: r else p :: mput r k v
def ordLoop (g : List (List Int)) : Nat → List Bool → List (Int × Int) → List Int → Option (List Int)
 | 0, _, _, _ => none
 | _ + 1, _, [], acc => some acc
 | k + 1, seen, (n, i) :: st, acc =>
  if 0 ≤ n ∧ n < g.length then
   if i = (g.getD n.toNat []).length then
    if acc.length < 1000000000 then ordLoop g k seen st (n :: acc) else none
   else if 0 ≤ i ∧ i < (g.getD n.toNat []).length then
    if 0 ≤ (g.getD n.toNat []).getD i.toNat 0 ∧ (g.getD n.toNat []).getD i.toNat 0 < seen.length then
     if seen.getD ((g.getD n.toNat []).getD i.toNat 0).toNat false then ordLoop g k seen ((n, i + 1) :: st) acc
     else if st.length < 1000000 then ordLoop g k (seen.set ((g.getD n.toNat []).getD i.toNat 0).toNat true) (((g.getD n.toNat []).getD i.toNat 0, 0) :: (n, i + 1) :: st) acc
     else none
    else none
   else none
  else none
def orderF (k : Nat) (g : List (List Int)) : Option (List Int) :=
 ordLoop g k ((List.replicate g.length false).set 0 true) [(0, 0)] []
end Go.Proofs.Ytfiiihpdekppiaa
end
section
namespace Go.Proofs.Ytfiiihpdekppiaa
def mB0 (m : List (Int × Bool)) (k : Int) : Bool := (mget m k).getD false
def setF (wo : Int) (xs : List Int) (m : List (Int × Bool)) : List (Int × Bool) := xs.foldl (fun m n => if n ≠ wo then mput m n true else m) m
def reachLoop (succ : List (List Int)) (set : List (Int × Bool)) : Nat → List (Int × Bool) → List Int → Option (List (Int × Bool))
 | 0, _, _ => none
 | _ + 1, out, [] => some out
 | k + 1, out, n :: st =>
  if mB0 set n = true ∧ mB0 out n = false then
   (if (0 ≤ n ∧ n < succ.length) ∧ st.length + (succ.getD n.toNat []).length ≤ 1000000000 then reachLoop succ set k (mput out n true) ((succ.getD n.toNat []).reverse ++ st) else none)
  else reachLoop succ set k out st
def rangeI (n : Nat) : List Int := (List.range n).map fun (i : Nat) => (i : Int)
def outsideB (succ : List (List Int)) (live inside : List (Int × Bool)) (n : Int) : Bool :=
 decide (n = 0) || (List.range succ.length).any fun m => mB0 live m && !mB0 inside m && (succ.getD m []).contains n
def entriesF (k : Nat) (succ : List (List Int)) (part : List Int) (inside : List (Int × Bool)) : Option (List Int) :=
 (reachLoop succ (setF (-1) (rangeI succ.length) []) k [] [0]).map fun live => part.filter (outsideB succ live inside)
def sortI (xs : List Int) : List Int := xs.mergeSort fun x y => decide (x ≤ y)
structure Tar where
 idx : List (Int × Int)
 low : List (Int × Int)
 st : List Int
 on : List (Int × Bool)
 out : List (List Int)
def mI0 (m : List (Int × Int)) (k : Int) : Int := (mget m k).getD 0
def tarKids (set : List (Int × Bool)) (visit : Tar → Int → Option Tar) (n : Int) : List Int → Tar → Option Tar
 | [], s => some s
 | m :: l, s =>
  if mB0 set m = false then tarKids set visit n l s
  else if mget s.idx m = none then (visit s m).bind fun s' => tarKids set visit n l { s' with low := mput s'.low n (min (mI0 s'.low n) (mI0 s'.low m)) }
  else if mB0 s.on m = true then tarKids set visit n l { s with low := mput s.low n (min (mI0 s.low n) (mI0 s.idx m)) }
  else tarKids set visit n l s
def tarVisit (succ : List (List Int)) (set : List (Int × Bool)) : Nat → Tar → Int → Option Tar
 | 0, _, _ => none
 | k + 1, s, n =>
  if (0 ≤ n ∧ n < succ.length) ∧ s.st.length ≤ 1000000 then
   (tarKids set (tarVisit succ set k) n (succ.getD n.toNat []) { idx := mput s.idx n s.idx.length, low := mput s.low n s.idx.length, st := s.st ++ [n], on := mput s.on n true, out := s.out }).bind fun s =>
    if mI0 s.low n = mI0 s.idx n then
     if s.st.idxOf n < s.st.length ∧ s.st.length ≤ 1000000 ∧ s.out.length ≤ 1000000 then
      some { s with st := s.st.take (s.st.idxOf n), on := (s.st.drop (s.st.idxOf n)).foldl (fun m x => mput m x false) s.on, out := if 1 < (s.st.drop (s.st.idxOf n)).length ∨ (succ.getD n.toNat []).contains n = true then s.out ++ [sortI (s.st.drop (s.st.idxOf n))] else s.out }
     else none
    else some s
  else none
def tarAll (succ : List (List Int)) (set : List (Int × Bool)) (k : Nat) : List Int → Tar → Option Tar
 | [], s => some s
 | n :: l, s => if mget s.idx n = none then (tarVisit succ set k s n).bind fun s' => tarAll succ set k l s' else tarAll succ set k l s
def partsF (k : Nat) (succ : List (List Int)) (set : List (Int × Bool)) : Option (List (List Int)) :=
 (tarAll succ set k (sortI (set.map (·.1))) { idx := [], low := [], st := [], on := [], out := [] }).map (·.out)
end Go.Proofs.Ytfiiihpdekppiaa
end
section
namespace Go.Proofs.Ytfiiihpdekppiaa
structure Sp where
 succ : List (List Int)
 node : List Int
 copies : Int
 budget : Int
def redM (tom : List (Int × Int)) (want : Int → Bool) (m : Int) : Int :=
 match mget tom m with
 | some c => if want m then c else m
 | none => m
def copyAdd (first : Nat) : List Int → Nat → List (Int × Int) → List (Int × Bool) → List (List Int) → List Int → Option (List (Int × Int) × List (Int × Bool) × List (List Int) × List Int)
 | [], _, tom, out, succ, node => some (tom, out, succ, node)
 | n :: r, k, tom, out, succ, node =>
  if (0 ≤ n ∧ n < succ.length) ∧ n < node.length ∧ (k + first ≤ 1000000 ∧ succ.length ≤ 1000000 ∧ node.length ≤ 1000000) ∧ (succ.getD n.toNat []).length ≤ 1000000000 then
   copyAdd first r (k + 1) (mput tom n (first + k)) (mput out (first + k) true) (succ ++ [succ.getD n.toNat []]) (node ++ [node.getD n.toNat 0])
  else none
def redRow (tom : List (Int × Int)) (inside : List (Int × Bool)) (es : List Int) (first n : Nat) (l : List Int) : List Int :=
 if first ≤ n then l.map (redM tom fun _ => true) else if mB0 inside n then l else l.map (redM tom fun m => es.contains m)
def redAll (tom : List (Int × Int)) (inside : List (Int × Bool)) (es : List Int) (first : Nat) (succ : List (List Int)) : List (List Int) := succ.mapIdx (redRow tom inside es first)
def copyF (s : Sp) (nodes inside : List (Int × Bool)) (es : List Int) : Option (Option (Sp × List (Int × Bool))) :=
 if nodes.length ≤ 1000000 ∧ 0 ≤ s.copies ∧ s.copies ≤ 1000000000 ∧ es.length ≤ 1000000 then
  if s.budget < s.copies + nodes.length then some none
  else (copyAdd s.succ.length (sortI (nodes.map (·.1))) 0 [] [] s.succ s.node).bind fun q =>
   if q.2.2.1.length ≤ 1000000 ∧ (∀ l ∈ q.2.2.1, l.length ≤ 1000000000) then
    some (some ({ succ := redAll q.1 inside es s.succ.length q.2.2.1, node := q.2.2.2, copies := s.copies + nodes.length, budget := s.budget }, q.2.1))
   else none
 else none
def splitParts (sp : Sp → List (Int × Bool) → Option (Option Sp)) (k : Nat) : List (List Int) → Sp → Option (Option Sp)
 | [], s => some (some s)
 | part :: ps, s =>
  if part.length ≤ 1000000 ∧ s.succ.length ≤ 1000000 ∧ (∀ l ∈ s.succ, l.length ≤ 1000000000) then
   (entriesF k s.succ part (setF (-1) part [])).bind fun es =>
    match es with
    | [] => splitParts sp k ps s
    | head :: others =>
     (match others with
      | [] => some (some s)
      | o :: os =>
       (reachLoop s.succ (setF head part []) k [] (o :: os).reverse).bind fun reach =>
        (copyF s reach (setF (-1) part []) (o :: os)).bind fun c =>
         match c with
         | none => some none
         | some (s1, copied) => sp s1 copied).bind fun r =>
      match r with
      | none => some none
      | some s1 =>
       (sp s1 (setF head part [])).bind fun r2 =>
        match r2 with
        | none => some none
        | some s2 => splitParts sp k ps s2
  else none
def splitF : Nat → Sp → List (Int × Bool) → Option (Option Sp)
 | 0, _, _ => none
 | k + 1, s, nodes =>
  if nodes.length ≤ 1000000 ∧ s.succ.length ≤ 1000000 ∧ (∀ l ∈ s.succ, l.length ≤ 1000000000) then
   (partsF k s.succ nodes).bind fun ps => if ps.length ≤ 1000000 then splitParts (splitF k) k ps s else none
  else none
end Go.Proofs.Ytfiiihpdekppiaa
end
