/- A part of the proof that vellumlaw12.ShapeErrors is true for every input: walks of functions that the row reaches and plain laws that they need. Conditions: none. Joined by merge.py out of T10 T11 T12 T13; a part that began as a print is named P or W there and is trimmed. -/
import Derived.Test.YtfiiihpdekppiaaE1
import Derived.Test.YtfiiihpdekppiaaE14
import Derived.Test.YtfiiihpdekppiaaE20
set_option linter.unusedVariables false
set_option linter.unusedSimpArgs false
section
namespace Go.Proofs.Ytfiiihpdekppiaa
open Go.RowKit Go.Proofs Go.Proofs.YtfiiihpdekppiaaW.PrintWords
def keys {β : Type} (l : List (Int × β)) : List Int := l.map (·.1)
theorem mget_keys {β : Type} {l : List (Int × β)} {k : Int} : mget l k ≠ none ↔ k ∈ keys l := by
 induction l with
 | nil => simp [mget, keys]
 | cons p l ih =>
  have e : keys (p :: l) = p.1 :: keys l := rfl
  rw [e, List.mem_cons, ← ih]
  by_cases h : p.1 = k
  ·simp [mget, h]
  ·have h' : ¬ k = p.1 := fun e => h e.symm
   have e2 : mget (p :: l) k = mget l k := by unfold mget; rw [List.find?_cons, show (p.1 == k) = false by simpa using h]
   rw [e2]; simp [h']
theorem mem_keys_put {β : Type} {l : List (Int × β)} {k x : Int} {v : β} : x ∈ keys (mput l k v) ↔ x = k ∨ x ∈ keys l := by
 rw [← mget_keys, ← mget_keys, mget_put]
 by_cases h : x = k <;> simp [h]
theorem keys_put_nodup {β : Type} {k : Int} {v : β} : ∀ {l : List (Int × β)}, (keys l).Nodup → (keys (mput l k v)).Nodup
 | [], _ => by simp [mput, keys]
 | p :: l, h => by
  have h' := List.nodup_cons.1 (show (p.1 :: keys l).Nodup from h)
  unfold mput
  by_cases e : p.1 = k
  ·rw [if_pos e]
   show (k :: keys l).Nodup
   rw [← e]; exact h
  ·rw [if_neg e]
   show (p.1 :: keys (mput l k v)).Nodup
   refine List.nodup_cons.2 ⟨fun hm => ?_, keys_put_nodup h'.2⟩
   rcases mem_keys_put.1 hm with h1 | h1
   ·exact e h1
   ·exact h'.1 h1
theorem mB0_put {l : List (Int × Bool)} {k j : Int} {v : Bool} : mB0 (mput l k v) j = if j = k then v else mB0 l j := by
 unfold mB0; rw [mget_put]; split <;> rfl
theorem mB0_keys {l : List (Int × Bool)} {x : Int} (h : mB0 l x = true) : x ∈ keys l := by
 rw [← mget_keys]; intro e; simp [mB0, e] at h
structure SetOk (l : List (Int × Bool)) : Prop where
 nd : (keys l).Nodup
 yes : ∀ x ∈ keys l, mB0 l x = true
theorem SetOk.nil : SetOk [] := ⟨by simp [keys], by simp [keys]⟩
theorem SetOk.put {l : List (Int × Bool)} (h : SetOk l) (k : Int) : SetOk (mput l k true) := by
 refine ⟨keys_put_nodup h.nd, fun x hx => ?_⟩
 rw [mB0_put]
 split
 ·rfl
 ·exact h.yes x ((mem_keys_put.1 hx).resolve_left ‹_›)
theorem keys_len {β : Type} (l : List (Int × β)) : (keys l).length = l.length := by simp [keys]
theorem setF_ok (wo : Int) : ∀ (xs : List Int) (m : List (Int × Bool)), SetOk m → SetOk (setF wo xs m) ∧ ∀ x, x ∈ keys (setF wo xs m) ↔ (x ∈ xs ∧ x ≠ wo) ∨ x ∈ keys m
 | [], m, h => ⟨h, by simp [setF]⟩
 | a :: xs, m, h => by
  by_cases e : a ≠ wo
  ·have := setF_ok wo xs _ (h.put a)
   have e2 : setF wo (a :: xs) m = setF wo xs (mput m a true) := by simp [setF, e]
   rw [e2]
   refine ⟨this.1, fun x => ?_⟩
   rw [this.2, mem_keys_put, List.mem_cons]
   constructor
   ·rintro (⟨h1, h2⟩ | rfl | h1)
    ·exact .inl ⟨.inr h1, h2⟩
    ·exact .inl ⟨.inl rfl, e⟩
    ·exact .inr h1
   ·rintro (⟨rfl | h1, h2⟩ | h1)
    ·exact .inr (.inl rfl)
    ·exact .inl ⟨h1, h2⟩
    ·exact .inr (.inr h1)
  ·have := setF_ok wo xs _ h
   have e2 : setF wo (a :: xs) m = setF wo xs m := by simp only [setF, List.foldl_cons, if_neg e]
   rw [e2]
   refine ⟨this.1, fun x => ?_⟩
   rw [this.2, List.mem_cons]
   have e3 : a = wo := by simpa using e
   constructor
   ·rintro (⟨h1, h2⟩ | h1)
    ·exact .inl ⟨.inr h1, h2⟩
    ·exact .inr h1
   ·rintro (⟨rfl | h1, h2⟩ | h1)
    ·exact absurd e3 h2
    ·exact .inl ⟨h1, h2⟩
    ·exact .inr h1
section
variable {succ : List (List Int)} {set : List (Int × Bool)}
structure TI (set : List (Int × Bool)) (s : Tar) : Prop where
 nd : (s.out.flatten ++ s.st).Nodup
 idx : ∀ x ∈ s.out.flatten ++ s.st, mget s.idx x ≠ none ∧ mB0 set x = true
 ne : ∀ p ∈ s.out, p ≠ []
def un (set : List (Int × Bool)) (s : Tar) : Nat := (keys set).countP fun x => decide (mget s.idx x = none)
structure TExt (set : List (Int × Bool)) (s s' : Tar) : Prop where
 ok : TI set s'
 st : ∃ t, s'.st = s.st ++ t
 idx : ∀ x, mget s.idx x ≠ none → mget s'.idx x ≠ none
theorem TExt.refl {s : Tar} (h : TI set s) : TExt set s s := ⟨h, ⟨[], by simp⟩, fun _ h => h⟩
theorem TExt.trans {s s' s'' : Tar} (h : TExt set s s') (h' : TExt set s' s'') : TExt set s s'' := by
 obtain ⟨t, e⟩ := h.st
 obtain ⟨t', e'⟩ := h'.st
 exact ⟨h'.ok, ⟨t ++ t', by rw [e', e, List.append_assoc]⟩, fun x hx => h'.idx x (h.idx x hx)⟩
theorem TExt.un {s s' : Tar} (h : TExt set s s') : un set s' ≤ un set s := by
 apply List.countP_mono_left
 intro x _ hx
 simp only [decide_eq_true_eq] at hx ⊢
 exact Classical.byContradiction fun hn => h.idx x hn hx
theorem TI.low {s : Tar} (h : TI set s) (l : List (Int × Int)) : TI set { s with low := l } := ⟨h.nd, h.idx, h.ne⟩
theorem TExt.low {s s' : Tar} (h : TExt set s s') (l : List (Int × Int)) : TExt set s { s' with low := l } := ⟨h.ok.low l, h.st, h.idx⟩
theorem flatten_len : ∀ {ps : List (List Int)}, (∀ p ∈ ps, p ≠ []) → ps.length ≤ ps.flatten.length
 | [], _ => by simp
 | p :: ps, h => by
  have := flatten_len fun q hq => h q (List.mem_cons_of_mem p hq)
  have := List.length_pos_iff.2 (h p (by simp))
  simp only [List.length_cons, List.flatten_cons, List.length_append]
  omega
theorem TI.len {s : Tar} (h : TI set s) : s.out.flatten.length + s.st.length ≤ set.length := by
 have := nodup_sub_len h.nd fun x hx => mB0_keys (h.idx x hx).2
 rw [keys_len, List.length_append] at this
 exact this
theorem tarKids_ok {k : Nat} {f : Tar → Int → Option Tar} {n : Int} (hf : ∀ s m, TI set s → mget s.idx m = none → mB0 set m = true → un set s ≤ k → ∃ s', f s m = some s' ∧ TExt set s s') :
  ∀ (l : List Int) (s : Tar), TI set s → un set s ≤ k → ∃ s', tarKids set f n l s = some s' ∧ TExt set s s'
 | [], s, h, _ => ⟨s, rfl, .refl h⟩
 | m :: l, s, h, hk => by
  unfold tarKids
  by_cases h1 : mB0 set m = false
  ·rw [if_pos h1]; exact tarKids_ok hf l s h hk
  rw [if_neg h1]
  by_cases h2 : mget s.idx m = none
  ·rw [if_pos h2]
   obtain ⟨s', e, hE⟩ := hf s m h h2 (by simpa using h1) hk
   rw [e]
   simp only [Option.bind_some]
   have hE' := hE.low (mput s'.low n (min (mI0 s'.low n) (mI0 s'.low m)))
   obtain ⟨s'', e', hE''⟩ := tarKids_ok hf l _ hE'.ok (Nat.le_trans hE'.un hk)
   exact ⟨s'', e', hE'.trans hE''⟩
  rw [if_neg h2]
  by_cases h3 : mB0 s.on m = true
  ·rw [if_pos h3]
   have hE' := (TExt.refl h).low (mput s.low n (min (mI0 s.low n) (mI0 s.idx m)))
   obtain ⟨s'', e', hE''⟩ := tarKids_ok hf l _ hE'.ok (Nat.le_trans hE'.un hk)
   exact ⟨s'', e', hE'.trans hE''⟩
  ·rw [if_neg h3]; exact tarKids_ok hf l s h hk
theorem sortI_permT (xs : List Int) : (sortI xs).Perm xs := List.mergeSort_perm _ _
theorem countP_lt {α : Type} {l : List α} {p q : α → Bool} {a : α} (h : ∀ x ∈ l, q x = true → p x = true) (ha : a ∈ l) (hp : p a = true) (hq : q a = false) : l.countP q < l.countP p := by
 induction l with
 | nil => simp at ha
 | cons b l ih =>
  have hm := List.countP_mono_left (l := l) (p := q) (q := p) fun x hx => h x (List.mem_cons_of_mem _ hx)
  rw [List.countP_cons, List.countP_cons]
  rcases List.mem_cons.1 ha with rfl | ha'
  ·rw [hp, hq, if_pos rfl, if_neg (by simp)]; omega
  ·have h1 := ih (fun x hx => h x (List.mem_cons_of_mem _ hx)) ha'
   have h2 := h b (by simp)
   cases hqb : q b
   ·rw [if_neg (by simp)]; omega
   ·rw [h2 hqb, if_pos rfl]; omega
theorem tarVisit_ok (hr : ∀ x, mB0 set x = true → 0 ≤ x ∧ x < succ.length) (hs : set.length ≤ 1000000) :
  ∀ (k : Nat) (s : Tar) (n : Int), TI set s → mget s.idx n = none → mB0 set n = true → un set s ≤ k → ∃ s', tarVisit succ set k s n = some s' ∧ TExt set s s' ∧ mget s'.idx n ≠ none
 | 0, s, n, h, h1, h2, hk => by
  have : 0 < (keys set).countP fun x => decide (mget s.idx x = none) := List.countP_pos_iff.2 ⟨n, mB0_keys h2, by simpa using h1⟩
  unfold un at hk
  omega
 | k + 1, s, n, h, h1, h2, hk => by
  have hlen := h.len
  have hns : n ∉ s.out.flatten ++ s.st := fun hm => (h.idx n hm).1 h1
  unfold tarVisit
  rw [if_pos ⟨hr n h2, by omega⟩]
  have T0 : TI set { idx := mput s.idx n s.idx.length, low := mput s.low n s.idx.length, st := s.st ++ [n], on := mput s.on n true, out := s.out } := by
   refine ⟨?_, ?_, h.ne⟩
   ·show (s.out.flatten ++ (s.st ++ [n])).Nodup
    rw [← List.append_assoc]
    refine List.nodup_append.2 ⟨h.nd, by simp, fun a ha b hb e => ?_⟩
    rw [List.mem_singleton.1 hb] at e
    exact hns (e ▸ ha)
   ·intro x hx
    show mget (mput s.idx n _) x ≠ none ∧ _
    rw [mget_put]
    have hx' : x ∈ s.out.flatten ++ s.st ∨ x = n := by
     have : x ∈ s.out.flatten ++ (s.st ++ [n]) := hx
     rw [← List.append_assoc, List.mem_append, List.mem_singleton] at this
     exact this
    rcases hx' with h3 | rfl
    ·refine ⟨?_, (h.idx x h3).2⟩
     split
     ·simp
     ·exact (h.idx x h3).1
    ·simp [h2]
  have hun : un set { idx := mput s.idx n (s.idx.length : Int), low := mput s.low n (s.idx.length : Int), st := s.st ++ [n], on := mput s.on n true, out := s.out } < un set s := by
   apply countP_lt (a := n)
   ·intro x _ hx
    simp only [decide_eq_true_eq, mget_put] at hx ⊢
    split at hx
    ·simp at hx
    ·exact hx
   ·exact mB0_keys h2
   ·simpa using h1
   ·simp [mget_put]
  obtain ⟨s2, e2, E2⟩ := tarKids_ok (k := k) (n := n) (fun s m a b c d => by obtain ⟨s', e, E, _⟩ := tarVisit_ok hr hs k s m a b c d; exact ⟨s', e, E⟩) (succ.getD n.toNat []) _ T0 (by omega)
  rw [e2]
  simp only [Option.bind_some]
  obtain ⟨t, et⟩ := E2.st
  have et : s2.st = s.st ++ (n :: t) := by simpa using et
  have hn2 : mget s2.idx n ≠ none := E2.idx n (by show mget (mput s.idx n _) n ≠ none; simp [mget_put])
  have hgrow : ∀ x, mget s.idx x ≠ none → mget s2.idx x ≠ none := fun x hx => E2.idx x (by
   show mget (mput s.idx n _) x ≠ none
   rw [mget_put]; split
   ·simp
   ·exact hx)
  by_cases hl : mI0 s2.low n = mI0 s2.idx n
  ·rw [if_pos hl]
   have hlen2 := E2.ok.len
   have hfl := flatten_len E2.ok.ne
   have hix : s2.st.idxOf n = s.st.length := by
    rw [et, List.idxOf_append, if_neg fun hm => hns (List.mem_append.2 (.inr hm))]
    simp
   have hlt : s2.st.idxOf n < s2.st.length := by rw [hix, et]; simp
   rw [if_pos ⟨hlt, by omega, by omega⟩]
   have etk : s2.st.take (s2.st.idxOf n) = s.st := by rw [hix, et]; simp
   have edr : s2.st.drop (s2.st.idxOf n) = n :: t := by rw [hix, et]; simp
   refine ⟨_, rfl, ⟨?_, ⟨[], by show s2.st.take _ = _; rw [etk]; simp⟩, hgrow⟩, hn2⟩
   have hnd2 : (s2.out.flatten ++ (s.st ++ (n :: t))).Nodup := by rw [← et]; exact E2.ok.nd
   rw [etk, edr]
   by_cases hc : 1 < (n :: t).length ∨ (succ.getD n.toNat []).contains n = true
   ·rw [if_pos hc]
    have hp : ((s2.out ++ [sortI (n :: t)]).flatten ++ s.st).Perm (s2.out.flatten ++ (s.st ++ (n :: t))) := by
     rw [List.flatten_append, List.append_assoc]
     refine List.Perm.append_left _ ?_
     simp only [List.flatten_cons, List.flatten_nil, List.append_nil]
     exact ((sortI_permT _).append_right _).trans List.perm_append_comm
    refine ⟨hp.nodup_iff.2 hnd2, fun x hx => ?_, fun p hp => ?_⟩
    ·have := hp.mem_iff.1 hx
     rw [← et] at this
     exact E2.ok.idx x this
    ·rcases List.mem_append.1 hp with h3 | h3
     ·exact E2.ok.ne p h3
     ·rw [List.mem_singleton.1 h3]
      intro e
      have := (sortI_permT (n :: t)).length_eq
      rw [e] at this
      simp at this
   ·rw [if_neg hc]
    have hsub : (s2.out.flatten ++ s.st).Sublist (s2.out.flatten ++ (s.st ++ (n :: t))) := List.Sublist.append_left (List.sublist_append_left _ _) _
    refine ⟨hnd2.sublist hsub, fun x hx => ?_, E2.ok.ne⟩
    have := hsub.subset hx
    rw [← et] at this
    exact E2.ok.idx x this
  ·rw [if_neg hl]
   exact ⟨s2, rfl, ⟨E2.ok, ⟨n :: t, et⟩, hgrow⟩, hn2⟩
theorem un_le (s : Tar) : un set s ≤ set.length := by
 have := List.countP_le_length (p := fun x => decide (mget s.idx x = none)) (l := keys set)
 rw [keys_len] at this
 exact this
theorem tarAll_ok (hr : ∀ x, mB0 set x = true → 0 ≤ x ∧ x < succ.length) (hs : set.length ≤ 1000000) {k : Nat} (hk : set.length ≤ k) :
  ∀ (l : List Int) (s : Tar), (∀ x ∈ l, mB0 set x = true) → TI set s → ∃ s', tarAll succ set k l s = some s' ∧ TExt set s s'
 | [], s, _, h => ⟨s, rfl, .refl h⟩
 | n :: l, s, hl, h => by
  unfold tarAll
  by_cases h1 : mget s.idx n = none
  ·rw [if_pos h1]
   obtain ⟨s', e, E, _⟩ := tarVisit_ok hr hs k s n h h1 (hl n (by simp)) (Nat.le_trans (un_le s) hk)
   rw [e]
   simp only [Option.bind_some]
   obtain ⟨s'', e', E'⟩ := tarAll_ok hr hs hk l s' (fun x hx => hl x (by simp [hx])) E.ok
   exact ⟨s'', e', E.trans E'⟩
  ·rw [if_neg h1]
   exact tarAll_ok hr hs hk l s (fun x hx => hl x (by simp [hx])) h
theorem partsF_ok (hS : SetOk set) (hr : ∀ x ∈ keys set, 0 ≤ x ∧ x < succ.length) (hs : set.length ≤ 1000000) {k : Nat} (hk : set.length ≤ k) :
  ∃ ps, partsF k succ set = some ps ∧ ps.flatten.Nodup ∧ (∀ x ∈ ps.flatten, x ∈ keys set) ∧ ∀ p ∈ ps, p ≠ [] := by
 obtain ⟨s, e, E⟩ := tarAll_ok (succ := succ) (set := set) (fun x hx => hr x (mB0_keys hx)) hs hk (sortI (set.map (·.1))) { idx := [], low := [], st := [], on := [], out := [] } (fun x hx => hS.yes x (show x ∈ set.map (·.1) from (sortI_permT _).mem_iff.1 hx)) ⟨by simp, by simp, by simp⟩
 refine ⟨s.out, by unfold partsF; rw [e]; rfl, (List.nodup_append.1 E.ok.nd).1, fun x hx => mB0_keys (E.ok.idx x (List.mem_append.2 (.inl hx))).2, E.ok.ne⟩
end
end Go.Proofs.Ytfiiihpdekppiaa
end
section
namespace Go.Proofs.Ytfiiihpdekppiaa
open Go.RowKit Go.Proofs Go.Proofs.YtfiiihpdekppiaaW.PrintWords
def cst : Nat → Nat
 | 0 => 0
 | k + 1 => k + 2 * cst k
theorem cst_add (b : Nat) : ∀ a, cst a + cst b ≤ cst (a + b)
 | 0 => by simp [cst]
 | a + 1 => by
  have := cst_add b a
  rw [show a + 1 + b = (a + b) + 1 by omega]
  have e1 : cst (a + 1) = a + 2 * cst a := rfl
  have e2 : cst (a + b + 1) = a + b + 2 * cst (a + b) := rfl
  omega
theorem cst_mono {a b : Nat} (h : a ≤ b) : cst a ≤ cst b := by
 have := cst_add (b - a) a
 rw [show a + (b - a) = b by omega] at this
 omega
structure SpOk (n0 : Nat) (s : Sp) : Prop where
 val : ValidG s.succ
 len : s.node.length = s.succ.length
 cop : 0 ≤ s.copies ∧ (s.succ.length : Int) = n0 + s.copies
 bud : s.copies ≤ s.budget ∧ s.budget + n0 ≤ 10000
 row : ∀ l ∈ s.succ, l.length ≤ 1000
 nod : ∀ x ∈ s.node, 0 ≤ x ∧ x < n0
theorem SpOk.size {n0 : Nat} {s : Sp} (h : SpOk n0 s) : s.succ.length ≤ 10000 := by
 have := h.cop; have := h.bud; omega
theorem row_at {succ : List (List Int)} (h : ∀ l ∈ succ, l.length ≤ 1000) (n : Nat) : (succ.getD n []).length ≤ 1000 := by
 rw [List.getD_eq_getElem?_getD]
 cases e : succ[n]? with
 | none => simp
 | some l => exact h l (List.mem_of_getElem? e)
def unm (set out : List (Int × Bool)) : Nat := (keys set).countP fun x => decide (mB0 out x = false)
theorem unm_le (set out : List (Int × Bool)) : unm set out ≤ set.length := by
 have := List.countP_le_length (p := fun x => decide (mB0 out x = false)) (l := keys set)
 rw [keys_len] at this
 exact this
theorem reachLoop_ok {succ : List (List Int)} {set : List (Int × Bool)} (hr : ∀ x, mB0 set x = true → 0 ≤ x ∧ x < succ.length) (hrow : ∀ l ∈ succ, l.length ≤ 1000) :
  ∀ (k : Nat) (out : List (Int × Bool)) (st : List Int), SetOk out → st.length + 1001 * unm set out < k → st.length + 1000 * unm set out ≤ 1000000000 →
   ∃ o, reachLoop succ set k out st = some o ∧ SetOk o ∧ ∀ x ∈ keys o, x ∈ keys out ∨ mB0 set x = true
 | 0, out, st, _, hk, _ => by omega
 | k + 1, out, [], h, _, _ => ⟨out, rfl, h, fun _ hx => .inl hx⟩
 | k + 1, out, n :: st, h, hk, hb => by
  unfold reachLoop
  simp only [List.length_cons] at hk hb
  by_cases hc : mB0 set n = true ∧ mB0 out n = false
  ·have hl := row_at hrow n.toNat
   have hlt : unm set (mput out n true) < unm set out := by
    apply countP_lt (a := n)
    ·intro x _ hx
     simp only [decide_eq_true_eq, mB0_put] at hx ⊢
     split at hx
     ·simp at hx
     ·exact hx
    ·exact mB0_keys hc.1
    ·simpa using hc.2
    ·simp [mB0_put]
   rw [if_pos hc, if_pos ⟨hr n hc.1, by omega⟩]
   obtain ⟨o, e, ho, hs⟩ := reachLoop_ok hr hrow k (mput out n true) ((succ.getD n.toNat []).reverse ++ st) (h.put n) (by simp only [List.length_append, List.length_reverse]; omega) (by simp only [List.length_append, List.length_reverse]; omega)
   refine ⟨o, e, ho, fun x hx => ?_⟩
   rcases hs x hx with h1 | h1
   ·rcases mem_keys_put.1 h1 with rfl | h2
    ·exact .inr hc.1
    ·exact .inl h2
   ·exact .inr h1
  ·rw [if_neg hc]
   exact reachLoop_ok hr hrow k out st h (by omega) (by omega)
def enough : Nat := 20000000
theorem reach_ok {succ : List (List Int)} {set : List (Int × Bool)} (hr : ∀ x, mB0 set x = true → 0 ≤ x ∧ x < succ.length) (hrow : ∀ l ∈ succ, l.length ≤ 1000) (hs : set.length ≤ 10000) {k : Nat} (hk : enough < k) (st : List Int) (hst : st.length ≤ 10000) :
  ∃ o, reachLoop succ set k [] st = some o ∧ SetOk o ∧ ∀ x ∈ keys o, mB0 set x = true := by
 have hu := unm_le set []
 have hk' : 20000000 < k := hk
 obtain ⟨o, e, h1, h2⟩ := reachLoop_ok hr hrow k [] st .nil (by omega) (by omega)
 exact ⟨o, e, h1, fun x hx => (h2 x hx).resolve_left (by simp [keys])⟩
theorem rangeI_mem {n : Nat} {x : Int} : x ∈ rangeI n ↔ 0 ≤ x ∧ x < n := by
 unfold rangeI
 rw [List.mem_map]
 constructor
 ·rintro ⟨i, hi, rfl⟩
  have := List.mem_range.1 hi
  omega
 ·intro h
  exact ⟨x.toNat, List.mem_range.2 (by omega), by omega⟩
theorem SetOk.len_le {m : List (Int × Bool)} (h : SetOk m) {xs : List Int} (hx : ∀ x ∈ keys m, x ∈ xs) : m.length ≤ xs.length := by
 have := nodup_sub_len h.nd hx
 rwa [keys_len] at this
theorem entries_ok {succ : List (List Int)} (hrow : ∀ l ∈ succ, l.length ≤ 1000) (hs : succ.length ≤ 10000) {k : Nat} (hk : enough < k) (part : List Int) (inside : List (Int × Bool)) :
  ∃ es, entriesF k succ part inside = some es ∧ es.Sublist part := by
 obtain ⟨h1, h2⟩ := setF_ok (-1) (rangeI succ.length) [] .nil
 have hm : ∀ x ∈ keys (setF (-1) (rangeI succ.length) []), x ∈ rangeI succ.length := fun x hx => by
  rcases (h2 x).1 hx with h | h
  ·exact h.1
  ·simp [keys] at h
 have hl := h1.len_le hm
 have hrl : (rangeI succ.length).length = succ.length := by simp [rangeI]
 obtain ⟨o, e, _, _⟩ := reach_ok (succ := succ) (set := setF (-1) (rangeI succ.length) []) (fun x hx => rangeI_mem.1 (hm x (mB0_keys hx))) hrow (by omega) hk [0] (by simp)
 exact ⟨_, by unfold entriesF; rw [e]; rfl, List.filter_sublist⟩
theorem copyAdd_ok (first : Nat) : ∀ (ns : List Int) (i : Nat) (tom : List (Int × Int)) (out : List (Int × Bool)) (succ : List (List Int)) (node : List Int), SetOk out →
  (∀ n ∈ ns, 0 ≤ n ∧ n < succ.length) → node.length = succ.length → first + i + ns.length ≤ 100000 → succ.length + ns.length ≤ 100000 → (∀ l ∈ succ, l.length ≤ 1000) →
  ∃ q, copyAdd first ns i tom out succ node = some q ∧ SetOk q.2.1 ∧ (∀ x c, mget q.1 x = some c → mget tom x = some c ∨ (((first + i : Nat) : Int) ≤ c ∧ c < ((first + i + ns.length : Nat) : Int))) ∧
   (∀ x ∈ keys q.2.1, x ∈ keys out ∨ (((first + i : Nat) : Int) ≤ x ∧ x < ((first + i + ns.length : Nat) : Int))) ∧ (∀ l ∈ q.2.2.1, l ∈ succ) ∧ q.2.2.1.length = succ.length + ns.length ∧ (∀ x ∈ q.2.2.2, x ∈ node) ∧ q.2.2.2.length = node.length + ns.length
 | [], i, tom, out, succ, node, h, _, _, _, _, _ => ⟨(tom, out, succ, node), rfl, h, fun _ _ h => .inl h, fun _ h => .inl h, fun _ h => h, by simp, fun _ h => h, by simp⟩
 | n :: r, i, tom, out, succ, node, h, hn, hl, hf, hs, hrow => by
  have hn0 := hn n (by simp)
  have hrl := row_at hrow n.toNat
  simp only [List.length_cons] at hf hs
  unfold copyAdd
  rw [if_pos ⟨hn0, by omega, ⟨by omega, by omega, by omega⟩, by omega⟩]
  have hmem : succ.getD n.toNat [] ∈ succ := by
   rw [List.getD_eq_getElem?_getD, List.getElem?_eq_getElem (by omega)]
   exact List.getElem_mem _
  have hmemn : node.getD n.toNat 0 ∈ node := by
   rw [List.getD_eq_getElem?_getD, List.getElem?_eq_getElem (by omega)]
   exact List.getElem_mem _
  have hsub : ∀ l ∈ succ ++ [succ.getD n.toNat []], l ∈ succ := fun l hl => by
   rcases List.mem_append.1 hl with h1 | h1
   ·exact h1
   ·rw [List.mem_singleton.1 h1]; exact hmem
  obtain ⟨q, e, q1, q2, q3, q4, q5, q6, q7⟩ := copyAdd_ok first r (i + 1) (mput tom n (first + i)) (mput out (first + i) true) (succ ++ [succ.getD n.toNat []]) (node ++ [node.getD n.toNat 0]) (h.put _)
   (fun m hm => by have := hn m (by simp [hm]); simp only [List.length_append, List.length_singleton]; omega) (by simp [hl]) (by omega) (by simp only [List.length_append, List.length_singleton]; omega) (fun l hl => hrow l (hsub l hl))
  refine ⟨q, e, q1, fun x c hx => ?_, fun x hx => ?_, fun l hl => hsub l (q4 l hl), by rw [q5]; simp; omega, fun x hx => ?_, by rw [q7]; simp; omega⟩
  ·simp only [List.length_cons]
   rcases q2 x c hx with h1 | h1
   ·rw [mget_put] at h1
    split at h1
    ·right
     have : ((first : Int) + i) = c := by simpa using h1
     omega
    ·exact .inl h1
   ·right; omega
  ·simp only [List.length_cons]
   rcases q3 x hx with h1 | h1
   ·rcases mem_keys_put.1 h1 with h2 | h2
    ·right; omega
    ·exact .inl h2
   ·right; omega
  ·rcases List.mem_append.1 (q6 x hx) with h1 | h1
   ·exact h1
   ·rw [List.mem_singleton.1 h1]; exact hmemn
theorem redRow_len (tom : List (Int × Int)) (inside : List (Int × Bool)) (es : List Int) (first n : Nat) (l : List Int) : (redRow tom inside es first n l).length = l.length := by
 unfold redRow
 split
 ·simp
 ·split <;> simp
theorem redRow_mem {tom : List (Int × Int)} {inside : List (Int × Bool)} {es : List Int} {first n : Nat} {l : List Int} {x : Int} (h : x ∈ redRow tom inside es first n l) : x ∈ l ∨ ∃ m, mget tom m = some x := by
 have key : ∀ (want : Int → Bool), x ∈ l.map (redM tom want) → x ∈ l ∨ ∃ m, mget tom m = some x := fun want hx => by
  obtain ⟨m, hm, e⟩ := List.mem_map.1 hx
  unfold redM at e
  split at e
  ·split at e
   ·subst e; exact .inr ⟨m, ‹_›⟩
   ·subst e; exact .inl hm
  ·subst e; exact .inl hm
 unfold redRow at h
 split at h
 ·exact key _ h
 ·split at h
  ·exact .inl h
  ·exact key _ h
theorem copyF_ok {n0 : Nat} {s : Sp} (h : SpOk n0 s) {nodes : List (Int × Bool)} (hN : SetOk nodes) (hr : ∀ x ∈ keys nodes, 0 ≤ x ∧ x < s.succ.length) (inside : List (Int × Bool)) (es : List Int) (hes : es.length ≤ 10000) :
  (copyF s nodes inside es = some none ∧ s.budget < s.copies + nodes.length) ∨
  ∃ s' copied, copyF s nodes inside es = some (some (s', copied)) ∧ SpOk n0 s' ∧ s'.budget = s.budget ∧ s'.copies = s.copies + nodes.length ∧ SetOk copied ∧ copied.length ≤ nodes.length ∧ ∀ x ∈ keys copied, 0 ≤ x ∧ x < s'.succ.length := by
 have hsz := h.size
 have hcop := h.cop
 have hbud := h.bud
 have hnl : nodes.length ≤ 10000 := by
  have := hN.len_le (xs := rangeI s.succ.length) fun x hx => rangeI_mem.2 (hr x hx)
  have hrl : (rangeI s.succ.length).length = s.succ.length := by simp [rangeI]
  omega
 unfold copyF
 rw [if_pos ⟨by omega, by omega, by omega, by omega⟩]
 by_cases hb : s.budget < s.copies + nodes.length
 ·exact .inl ⟨by rw [if_pos hb], hb⟩
 right
 rw [if_neg hb]
 have hkl : (sortI (nodes.map (·.1))).length = nodes.length := by rw [(sortI_permT _).length_eq]; simp
 obtain ⟨q, e, q1, q2, q3, q4, q5, q6, q7⟩ := copyAdd_ok s.succ.length (sortI (nodes.map (·.1))) 0 [] [] s.succ s.node .nil (fun n hn => hr n (show n ∈ nodes.map (·.1) from (sortI_permT _).mem_iff.1 hn)) h.len (by omega) (by omega) h.row
 rw [e]
 simp only [Option.bind_some]
 rw [hkl] at q2 q3 q5 q7
 rw [if_pos ⟨by omega, fun l hl => by have := h.row l (q4 l hl); omega⟩]
 have hlen : (redAll q.1 inside es s.succ.length q.2.2.1).length = s.succ.length + nodes.length := by simp [redAll, q5]
 refine ⟨_, _, rfl, ⟨?_, ?_, ⟨by show 0 ≤ s.copies + _; omega, ?_⟩, ⟨by show s.copies + _ ≤ s.budget; omega, hbud.2⟩, ?_, fun x hx => h.nod x (q6 x hx)⟩, rfl, rfl, q1, ?_, ?_⟩
 ·intro l hl x hx
  show 0 ≤ x ∧ x < ((redAll q.1 inside es s.succ.length q.2.2.1).length : Int)
  rw [hlen]
  obtain ⟨i, hi, rfl⟩ := List.mem_mapIdx.1 (show l ∈ q.2.2.1.mapIdx (redRow q.1 inside es s.succ.length) from hl)
  rcases redRow_mem hx with h1 | ⟨m, hm⟩
  ·have := h.val _ (q4 _ (List.getElem_mem hi)) x h1
   omega
  ·rcases q2 m x hm with h1 | h1
   ·simp [mget] at h1
   ·omega
 ·show q.2.2.2.length = (redAll q.1 inside es s.succ.length q.2.2.1).length
  rw [hlen, q7, h.len]
 ·show ((redAll q.1 inside es s.succ.length q.2.2.1).length : Int) = n0 + (s.copies + nodes.length)
  rw [hlen]
  have := hcop.2
  omega
 ·intro l hl
  obtain ⟨i, hi, rfl⟩ := List.mem_mapIdx.1 (show l ∈ q.2.2.1.mapIdx (redRow q.1 inside es s.succ.length) from hl)
  rw [redRow_len]
  exact h.row _ (q4 _ (List.getElem_mem hi))
 ·have hx : ∀ x ∈ keys q.2.1, x ∈ (rangeI nodes.length).map fun j => (s.succ.length : Int) + j := fun x hx => by
   rcases q3 x hx with h1 | h1
   ·simp [keys] at h1
   ·exact List.mem_map.2 ⟨x - s.succ.length, rangeI_mem.2 (by omega), by omega⟩
  have := q1.len_le hx
  simpa [rangeI] using this
 ·intro x hx
  show 0 ≤ x ∧ x < ((redAll q.1 inside es s.succ.length q.2.2.1).length : Int)
  rw [hlen]
  rcases q3 x hx with h1 | h1
  ·simp [keys] at h1
  ·omega
def Res (n0 : Nat) (s : Sp) (c : Nat) (r : Option Sp) : Prop :=
 (r = none ∧ s.budget < s.copies + c) ∨ ∃ s', r = some s' ∧ SpOk n0 s' ∧ s'.budget = s.budget ∧ s.copies ≤ s'.copies ∧ s'.copies ≤ s.copies + c
theorem Res.mono {n0 : Nat} {s : Sp} {a b : Nat} {r : Option Sp} (h : Res n0 s a r) (hab : a ≤ b) : Res n0 s b r := by
 rcases h with ⟨h1, h2⟩ | ⟨s', h1, h2, h3, h4, h5⟩
 ·exact .inl ⟨h1, by omega⟩
 ·exact .inr ⟨s', h1, h2, h3, h4, by omega⟩
theorem Res.andThen {n0 : Nat} {s s' : Sp} {a b : Nat} {r : Option Sp} (hb : s'.budget = s.budget) (hc : s.copies ≤ s'.copies ∧ s'.copies ≤ s.copies + a) (h : Res n0 s' b r) : Res n0 s (a + b) r := by
 rcases h with ⟨h1, h2⟩ | ⟨s'', h1, h2, h3, h4, h5⟩
 ·exact .inl ⟨h1, by omega⟩
 ·exact .inr ⟨s'', h1, h2, by omega, by omega, by omega⟩
theorem SpOk.grown {n0 : Nat} {s s' : Sp} (h : SpOk n0 s) (h' : SpOk n0 s') (hc : s.copies ≤ s'.copies) {x : Int} (hx : 0 ≤ x ∧ x < s.succ.length) : 0 ≤ x ∧ x < s'.succ.length := by
 have := h.cop.2; have := h'.cop.2; omega
theorem without {head : Int} {part : List Int} (hnd : part.Nodup) (hh : head ∈ part) : SetOk (setF head part []) ∧ (∀ x ∈ keys (setF head part []), x ∈ part ∧ x ≠ head) ∧ ∀ m : List (Int × Bool), SetOk m → (∀ x ∈ keys m, x ∈ part ∧ x ≠ head) → m.length + 1 ≤ part.length := by
 obtain ⟨h1, h2⟩ := setF_ok head part [] .nil
 refine ⟨h1, fun x hx => ?_, fun m hm hx => ?_⟩
 ·rcases (h2 x).1 hx with h | h
  ·exact h
  ·simp [keys] at h
 ·have := nodup_sub_len (List.nodup_cons.2 ⟨fun hc => (hx head hc).2 rfl, hm.nd⟩) (m := part) fun x hx' => by
   rcases List.mem_cons.1 hx' with rfl | h
   ·exact hh
   ·exact (hx x h).1
  simpa [keys_len] using this
theorem bind_to {α β : Type} {x : Option α} {r : α} {F : α → Option β} {C : β → Prop} (e : x = some r) (h : ∃ q, F r = some q ∧ C q) : ∃ q, x.bind F = some q ∧ C q := by
 rw [e]; exact h
theorem splitParts_ok {n0 N : Nat} {sp : Sp → List (Int × Bool) → Option (Option Sp)} {k : Nat} (hk : enough < k)
  (hsp : ∀ s nodes, SpOk n0 s → SetOk nodes → (∀ x ∈ keys nodes, 0 ≤ x ∧ x < s.succ.length) → nodes.length < N → ∃ r, sp s nodes = some r ∧ Res n0 s (cst nodes.length) r) :
  ∀ (ps : List (List Int)) (s : Sp), SpOk n0 s → ps.flatten.Nodup → (∀ x ∈ ps.flatten, 0 ≤ x ∧ x < s.succ.length) → ps.flatten.length ≤ N →
   ∃ r, splitParts sp k ps s = some r ∧ Res n0 s (cst ps.flatten.length) r
 | [], s, h, _, _, _ => ⟨some s, rfl, .inr ⟨s, rfl, h, rfl, by omega, by omega⟩⟩
 | part :: ps, s, h, hnd, hx, hN => by
  rw [List.flatten_cons] at hnd hx hN
  rw [List.length_append] at hN
  have hsz := h.size
  obtain ⟨hnd1, hnd2, _⟩ := List.nodup_append.1 hnd
  have hx1 : ∀ x ∈ part, 0 ≤ x ∧ x < s.succ.length := fun x h => hx x (List.mem_append.2 (.inl h))
  have hx2 : ∀ x ∈ ps.flatten, 0 ≤ x ∧ x < s.succ.length := fun x h => hx x (List.mem_append.2 (.inr h))
  have hpl : part.length ≤ 10000 := by
   have := nodup_sub_len hnd1 (m := rangeI s.succ.length) fun x hx => rangeI_mem.2 (hx1 x hx)
   have hrl : (rangeI s.succ.length).length = s.succ.length := by simp [rangeI]
   omega
  have hca := cst_add ps.flatten.length part.length
  rw [List.flatten_cons, List.length_append]
  unfold splitParts
  rw [if_pos ⟨by omega, by omega, fun l hl => by have := h.row l hl; omega⟩]
  obtain ⟨es, e, hsub⟩ := entries_ok h.row hsz hk part (setF (-1) part [])
  rw [e]
  simp only [Option.bind_some]
  match es, hsub with
  | [], _ =>
   obtain ⟨r, er, hr⟩ := splitParts_ok hk hsp ps s h hnd2 hx2 (by omega)
   exact ⟨r, er, hr.mono (by omega)⟩
  | head :: others, hsub =>
   have hhead : head ∈ part := hsub.subset (by simp)
   obtain ⟨hW, hWx, hWl⟩ := without hnd1 hhead
   have hWlen := hWl _ hW hWx
   have hfirst : ∃ r, (match others with
      | [] => some (some s)
      | o :: os =>
       (reachLoop s.succ (setF head part []) k [] (o :: os).reverse).bind fun reach =>
        (copyF s reach (setF (-1) part []) (o :: os)).bind fun c =>
         match c with
         | none => some none
         | some (s1, copied) => sp s1 copied) = some r ∧ Res n0 s (part.length - 1 + cst (part.length - 1)) r := by
    match others with
    | [] => exact ⟨some s, rfl, .inr ⟨s, rfl, h, rfl, by omega, by omega⟩⟩
    | o :: os =>
     have hol : (o :: os).length ≤ part.length := by have := hsub.length_le; simp only [List.length_cons] at this ⊢; omega
     obtain ⟨reach, er, hR, hRx⟩ := reach_ok (succ := s.succ) (set := setF head part []) (fun x hx => hx1 x (hWx x (mB0_keys hx)).1) h.row (by omega) hk (o :: os).reverse (by rw [List.length_reverse]; omega)
     have hRx' : ∀ x ∈ keys reach, x ∈ part ∧ x ≠ head := fun x hx => hWx x (mB0_keys (hRx x hx))
     have hRl := hWl _ hR hRx'
     simp only
     rw [er]
     simp only [Option.bind_some]
     rcases copyF_ok h hR (fun x hx => hx1 x (hRx' x hx).1) (setF (-1) part []) (o :: os) (by omega) with ⟨ec, hb⟩ | ⟨s1, copied, ec, h1, hb1, hc1, hC, hCl, hCx⟩
     ·rw [ec]
      exact ⟨none, rfl, .inl ⟨rfl, by omega⟩⟩
     ·rw [ec]
      simp only [Option.bind_some]
      obtain ⟨r, e2, hr⟩ := hsp s1 copied h1 hC hCx (by omega)
      have := cst_mono (show copied.length ≤ part.length - 1 by omega)
      exact ⟨r, e2, Res.andThen hb1 (by omega) (hr.mono this)⟩
   obtain ⟨r, er, hr⟩ := hfirst
   have hcp : cst part.length = part.length - 1 + 2 * cst (part.length - 1) := by
    have : part.length = (part.length - 1) + 1 := by omega
    rw [this]; simp [cst]
   dsimp only
   refine bind_to (r := r) er ?_
   rcases hr with ⟨rfl, hb⟩ | ⟨s1, rfl, h1, hb1, hc1, hc1'⟩
   ·exact ⟨none, rfl, .inl ⟨rfl, by omega⟩⟩
   ·simp only
    obtain ⟨r2, e2, hr2⟩ := hsp s1 (setF head part []) h1 hW (fun x hx => h.grown h1 hc1 (hx1 x (hWx x hx).1)) (by omega)
    have hm := cst_mono (show (setF head part []).length ≤ part.length - 1 by omega)
    rw [e2]
    simp only [Option.bind_some]
    rcases hr2 with ⟨rfl, hb⟩ | ⟨s2, rfl, h2, hb2, hc2, hc2'⟩
    ·exact ⟨none, rfl, .inl ⟨rfl, by omega⟩⟩
    ·simp only
     obtain ⟨r3, e3, hr3⟩ := splitParts_ok hk hsp ps s2 h2 hnd2 (fun x hx => h.grown h2 (by omega) (hx2 x hx)) (by omega)
     exact ⟨r3, e3, (Res.andThen (a := cst part.length) (by omega) (by omega) hr3).mono (by omega)⟩
theorem splitF_ok {n0 : Nat} : ∀ (k : Nat) (s : Sp) (nodes : List (Int × Bool)), SpOk n0 s → SetOk nodes → (∀ x ∈ keys nodes, 0 ≤ x ∧ x < s.succ.length) → enough + 1 + nodes.length < k →
  ∃ r, splitF k s nodes = some r ∧ Res n0 s (cst nodes.length) r
 | 0, _, _, _, _, _, hk => by omega
 | k + 1, s, nodes, h, hN, hx, hk => by
  have hsz := h.size
  have hnl : nodes.length ≤ 10000 := by
   have := hN.len_le (xs := rangeI s.succ.length) fun x h => rangeI_mem.2 (hx x h)
   have hrl : (rangeI s.succ.length).length = s.succ.length := by simp [rangeI]
   omega
  unfold splitF
  rw [if_pos ⟨by omega, by omega, fun l hl => by have := h.row l hl; omega⟩]
  obtain ⟨ps, e, p1, p2, p3⟩ := partsF_ok hN hx (by omega) (k := k) (by omega)
  have hfl := flatten_len p3
  have hpl : ps.flatten.length ≤ nodes.length := by
   have := nodup_sub_len p1 p2
   rwa [keys_len] at this
  rw [e]
  simp only [Option.bind_some]
  rw [if_pos (by omega)]
  obtain ⟨r, er, hr⟩ := splitParts_ok (N := nodes.length) (k := k) (by omega) (fun s' nodes' a b c d => splitF_ok k s' nodes' a b c (by omega)) ps s h p1 (fun x hx' => hx x (p2 x hx')) hpl
  exact ⟨r, er, hr.mono (cst_mono hpl)⟩
end Go.Proofs.Ytfiiihpdekppiaa
end
section
namespace Go.Proofs.Ytfiiihpdekppiaa
open Go.RowKit Go.Proofs Go.Proofs.YtfiiihpdekppiaaW.PrintWords
open PShapeReducible (S31)
theorem posF_get : ∀ (r : List Int) (k : Nat) (m : List (Int × Int)) (x : Int), r.Nodup → mget (posF r k m) x = if x ∈ r then some ((k + r.idxOf x : Nat) : Int) else mget m x
 | [], k, m, x, _ => by simp [posF]
 | a :: r, k, m, x, h => by
  obtain ⟨h1, h2⟩ := List.nodup_cons.1 h
  unfold posF
  rw [posF_get r (k + 1) _ x h2, mget_put]
  by_cases e : x = a
  ·subst e; simp [h1]
  ·have : (a :: r).idxOf x = r.idxOf x + 1 := by rw [List.idxOf_cons, show (a == x) = false by simpa using fun h => e h.symm]; rfl
   simp only [List.mem_cons, e, false_or, this, if_false]
   split
   ·congr 2; omega
   ·rfl
theorem ViewOk.pos_pw {g : List (List Int)} {r : List Int} {m : List (Int × Int)} {p : List (List Int)} (h : ViewOk g r m p) : r.Pairwise fun a b => mI0 m a < mI0 m b := by
 rw [List.pairwise_iff_getElem]
 intro i j hi hj hij
 rw [h.pos (List.getElem_mem hi), h.pos (List.getElem_mem hj), h.ord.nd.idxOf_getElem i hi, h.ord.nd.idxOf_getElem j hj]
 omega
def fwdc (succ : List (List Int)) (att : List (Int × Int)) (r : List Int) (y : Int) : Nat := (r.map fun x => if mI0 att y ≤ mI0 att x then 0 else (succs succ x).count y).sum
theorem mI0_put {l : List (Int × Int)} {k j v : Int} : mI0 (mput l k v) j = if j = k then v else mI0 l j := by
 unfold mI0; rw [mget_put]; split <;> rfl
theorem edgeF_ok (att : List (Int × Int)) (x : Int) : ∀ (l : List Int) (s : List (Int × Int) × List (Int × Int)), (∀ y, 0 ≤ mI0 s.2 y ∧ mI0 s.2 y + l.length ≤ 1000000000) →
  ∃ s', edgeF att x l s = some s' ∧ (∀ y, mI0 s'.2 y = mI0 s.2 y + ((if mI0 att y ≤ mI0 att x then 0 else l.count y : Nat) : Int)) ∧ ∀ y, mget s'.1 y ≠ none ↔ (mget s.1 y ≠ none ∨ (y ∈ l ∧ mI0 att y ≤ mI0 att x))
 | [], s, _ => ⟨s, rfl, fun y => by simp, fun y => by simp⟩
 | a :: l, s, h => by
  unfold edgeF
  by_cases ha : mI0 att a ≤ mI0 att x
  ·rw [if_pos ha]
   obtain ⟨s', e, h1, h2⟩ := edgeF_ok att x l (mput s.1 a (-1), s.2) (fun y => by have := h y; simp only [List.length_cons] at this; show 0 ≤ mI0 s.2 y ∧ mI0 s.2 y + _ ≤ _; omega)
   refine ⟨s', e, fun y => ?_, fun y => ?_⟩
   ·rw [h1 y]
    by_cases hy : mI0 att y ≤ mI0 att x
    ·simp [hy]
    ·have : ¬ a = y := fun e => hy (e ▸ ha)
     simp [hy, List.count_cons, this]
   ·rw [h2 y, mget_put, List.mem_cons]
    by_cases e : y = a
    ·subst e; simp [ha]
    ·simp [e]
  ·rw [if_neg ha]
   have hb := h a
   simp only [List.length_cons] at hb
   rw [if_pos ⟨by omega, by omega⟩]
   obtain ⟨s', e, h1, h2⟩ := edgeF_ok att x l (s.1, mput s.2 a (mI0 s.2 a + 1)) (fun y => by
    have := h y
    simp only [List.length_cons] at this
    show 0 ≤ mI0 (mput s.2 a _) y ∧ _
    rw [mI0_put]; split <;> omega)
   refine ⟨s', e, fun y => ?_, fun y => ?_⟩
   ·rw [h1 y]
    show mI0 (mput s.2 a _) y + _ = _
    rw [mI0_put]
    by_cases e : y = a
    ·subst e; simp only [if_true, ha, if_false, List.count_cons_self]; omega
    ·have : ¬ a = y := fun h => e h.symm
     simp [e, List.count_cons, this]
   ·rw [h2 y, List.mem_cons]
    by_cases e : y = a
    ·subst e; simp [ha]
    ·simp [e]
theorem edgesF_ok {succ : List (List Int)} (att : List (Int × Int)) (hrow : ∀ l ∈ succ, l.length ≤ 1000) : ∀ (r : List Int) (s : List (Int × Int) × List (Int × Int)), (∀ x ∈ r, 0 ≤ x ∧ x < succ.length) → (∀ y, 0 ≤ mI0 s.2 y ∧ mI0 s.2 y + 1000 * r.length ≤ 1000000000) →
  ∃ s', edgesF succ att r s = some s' ∧ (∀ y, mI0 s'.2 y = mI0 s.2 y + fwdc succ att r y) ∧ ∀ y, mget s'.1 y ≠ none ↔ (mget s.1 y ≠ none ∨ ∃ x ∈ r, y ∈ succs succ x ∧ mI0 att y ≤ mI0 att x)
 | [], s, _, _ => ⟨s, rfl, fun y => by simp [fwdc], fun y => by simp⟩
 | a :: r, s, hx, h => by
  have hl := row_at hrow a.toNat
  unfold edgesF
  rw [if_pos ⟨hx a (by simp), by omega⟩]
  obtain ⟨s1, e1, h1, h2⟩ := edgeF_ok att a (succ.getD a.toNat []) s (fun y => by have := h y; simp only [List.length_cons] at this; omega)
  rw [e1]
  simp only [Option.bind_some]
  obtain ⟨s2, e2, h3, h4⟩ := edgesF_ok att hrow r s1 (fun x hx' => hx x (by simp [hx'])) (fun y => by
   have := h y
   have hy := h1 y
   have hc : (succ.getD a.toNat []).count y ≤ (succ.getD a.toNat []).length := List.count_le_length
   simp only [List.length_cons] at this
   split at hy <;> omega)
  refine ⟨s2, e2, fun y => ?_, fun y => ?_⟩
  ·rw [h3 y, h1 y]
   simp only [fwdc, List.map_cons, List.sum_cons, succs]
   omega
  ·rw [h4 y, h2 y]
   simp only [List.mem_cons, exists_eq_or_imp, succs]
   rw [or_assoc]
theorem kidsOf_putT {m : List (Int × List Int)} {k n : Int} {v : List Int} : kidsOf (mput m k v) n = if n = k then v else kidsOf m n := by
 unfold kidsOf; rw [mget_put]; split <;> rfl
theorem mergeF_ok (edges : List (Int × Int)) (dom : List Int) : ∀ (l : List Int) (s : List (Int × Bool) × List (Int × List Int)), l.Nodup → (∀ n, ∀ x ∈ kidsOf s.2 n, x ∉ l) → (∀ n, (kidsOf s.2 n).Nodup) →
  (∀ x, mB0 (mergeF edges dom l s).1 x = true ↔ (mB0 s.1 x = true ∨ (x ∈ l ∧ mI0 edges x > 1))) ∧ (∀ n x, x ∈ kidsOf (mergeF edges dom l s).2 n ↔ (x ∈ kidsOf s.2 n ∨ (x ∈ l ∧ mI0 edges x > 1 ∧ dom.getD x.toNat 0 = n))) ∧ ∀ n, (kidsOf (mergeF edges dom l s).2 n).Nodup
 | [], s, _, _, h => ⟨fun x => by simp [mergeF], fun n x => by simp [mergeF], h⟩
 | a :: l, s, hnd, h1, h2 => by
  obtain ⟨ha, hl⟩ := List.nodup_cons.1 hnd
  unfold mergeF
  by_cases hc : mI0 edges a > 1
  ·rw [if_pos hc]
   obtain ⟨p1, p2, p3⟩ := mergeF_ok edges dom l (mput s.1 a true, mput s.2 (dom.getD a.toNat 0) (kidsOf s.2 (dom.getD a.toNat 0) ++ [a])) hl (fun n x hx hxl => by
    have hx' : x ∈ kidsOf (mput s.2 (dom.getD a.toNat 0) (kidsOf s.2 (dom.getD a.toNat 0) ++ [a])) n := hx
    rw [kidsOf_putT] at hx'
    split at hx'
    ·rcases List.mem_append.1 hx' with h | h
     ·exact h1 _ x h (by simp [hxl])
     ·rw [List.mem_singleton.1 h] at hxl; exact ha hxl
    ·exact h1 n x hx' (by simp [hxl])) (fun n => by
    show (kidsOf (mput s.2 (dom.getD a.toNat 0) (kidsOf s.2 (dom.getD a.toNat 0) ++ [a])) n).Nodup
    rw [kidsOf_putT]
    split
    ·refine List.nodup_append.2 ⟨h2 _, by simp, fun x hx y hy e => ?_⟩
     rw [List.mem_singleton.1 hy] at e
     exact h1 _ x hx (by simp [e])
    ·exact h2 n)
   refine ⟨fun x => ?_, fun n x => ?_, p3⟩
   ·rw [p1 x]
    show (mB0 (mput s.1 a true) x = true ∨ _) ↔ _
    rw [mB0_put, List.mem_cons]
    by_cases e : x = a
    ·subst e; simp [hc]
    ·simp [e]
   ·rw [p2 n x]
    show (x ∈ kidsOf (mput s.2 (dom.getD a.toNat 0) (kidsOf s.2 (dom.getD a.toNat 0) ++ [a])) n ∨ _) ↔ _
    rw [kidsOf_putT, List.mem_cons]
    by_cases e : n = dom.getD a.toNat 0
    ·rw [if_pos e, List.mem_append, List.mem_singleton, ← e]
     constructor
     ·rintro ((h | rfl) | ⟨h3, h4, h5⟩)
      ·exact .inl h
      ·exact .inr ⟨.inl rfl, hc, e.symm⟩
      ·exact .inr ⟨.inr h3, h4, h5⟩
     ·rintro (h | ⟨rfl | h3, h4, h5⟩)
      ·exact .inl (.inl h)
      ·exact .inl (.inr rfl)
      ·exact .inr ⟨h3, h4, h5⟩
    ·rw [if_neg e]
     constructor
     ·rintro (h | ⟨h3, h4, h5⟩)
      ·exact .inl h
      ·exact .inr ⟨.inr h3, h4, h5⟩
     ·rintro (h | ⟨rfl | h3, h4, h5⟩)
      ·exact .inl h
      ·exact absurd h5.symm e
      ·exact .inr ⟨h3, h4, h5⟩
  ·rw [if_neg hc]
   obtain ⟨p1, p2, p3⟩ := mergeF_ok edges dom l s hl (fun n x hx hxl => h1 n x hx (by simp [hxl])) h2
   refine ⟨fun x => ?_, fun n x => ?_, p3⟩
   ·rw [p1 x, List.mem_cons]
    constructor
    ·rintro (h | ⟨h3, h4⟩)
     ·exact .inl h
     ·exact .inr ⟨.inr h3, h4⟩
    ·rintro (h | ⟨rfl | h3, h4⟩)
     ·exact .inl h
     ·exact absurd h4 hc
     ·exact .inr ⟨h3, h4⟩
   ·rw [p2 n x, List.mem_cons]
    constructor
    ·rintro (h | ⟨h3, h4⟩)
     ·exact .inl h
     ·exact .inr ⟨.inr h3, h4⟩
    ·rintro (h | ⟨rfl | h3, h4, h5⟩)
     ·exact .inl h
     ·exact absurd h4 hc
     ·exact .inr ⟨h3, h4, h5⟩
theorem mergeF_srt (edges : List (Int × Int)) (dom : List Int) (att : Int → Int) : ∀ (l : List Int) (s : List (Int × Bool) × List (Int × List Int)), l.Pairwise (fun a b => att b < att a) → (∀ n, ∀ x ∈ kidsOf s.2 n, ∀ y ∈ l, att y < att x) → (∀ n, (kidsOf s.2 n).Pairwise fun a b => att b < att a) →
  ∀ n, (kidsOf (mergeF edges dom l s).2 n).Pairwise fun a b => att b < att a
 | [], s, _, _, h => h
 | a :: l, s, hp, h1, h2 => by
  obtain ⟨hp1, hp2⟩ := List.pairwise_cons.1 hp
  unfold mergeF
  split
  ·refine mergeF_srt edges dom att l _ hp2 (fun n x hx y hy => ?_) (fun n => ?_)
   ·have hx' : x ∈ kidsOf (mput s.2 (dom.getD a.toNat 0) (kidsOf s.2 (dom.getD a.toNat 0) ++ [a])) n := hx
    rw [kidsOf_putT] at hx'
    split at hx'
    ·rcases List.mem_append.1 hx' with h | h
     ·exact h1 _ x h y (by simp [hy])
     ·rw [List.mem_singleton.1 h]; exact hp1 y hy
    ·exact h1 n x hx' y (by simp [hy])
   ·show (kidsOf (mput s.2 (dom.getD a.toNat 0) (kidsOf s.2 (dom.getD a.toNat 0) ++ [a])) n).Pairwise _
    rw [kidsOf_putT]
    split
    ·refine List.pairwise_append.2 ⟨h2 _, by simp, fun x hx y hy => ?_⟩
     rw [List.mem_singleton.1 hy]
     exact h1 _ x hx a (by simp)
    ·exact h2 n
  ·exact mergeF_srt edges dom att l s hp2 (fun n x hx y hy => h1 n x hx y (by simp [hy])) h2
inductive Desc (ch : Int → List Int) (a : Int) : Int → Prop
 | refl : Desc ch a a
 | step {b c : Int} : Desc ch a b → c ∈ ch b → Desc ch a c
section
variable {r : List Int} {ch : Int → List Int} {att : Int → Int}
structure Forest (r : List Int) (ch : Int → List Int) (att : Int → Int) : Prop where
 nd : r.Nodup
 mem : ∀ n ∈ r, ∀ c ∈ ch n, c ∈ r ∧ att n < att c
 knd : ∀ n ∈ r, (ch n).Nodup
 uniq : ∀ n ∈ r, ∀ n' ∈ r, ∀ c, c ∈ ch n → c ∈ ch n' → n = n'
theorem Forest.desc (h : Forest r ch att) {a z : Int} (ha : a ∈ r) (hd : Desc ch a z) : z ∈ r ∧ att a ≤ att z := by
 induction hd with
 | refl => exact ⟨ha, Int.le_refl _⟩
 | step _ hc ih =>
  have := h.mem _ ih.1 _ hc
  exact ⟨this.1, by omega⟩
theorem Forest.lin (h : Forest r ch att) {a b z : Int} (ha : a ∈ r) (hb : b ∈ r) (h1 : Desc ch a z) : Desc ch b z → Desc ch a b ∨ Desc ch b a := by
 induction h1 with
 | refl => exact fun h2 => .inr h2
 | @step p c h1 hc ih =>
  intro h2
  cases h2 with
  | refl => exact .inl (.step h1 hc)
  | @step p' _ h2 hc' =>
   have := h.uniq _ (h.desc ha h1).1 _ (h.desc hb h2).1 _ hc hc'
   subst this
   exact ih h2
theorem Forest.apart (h : Forest r ch att) {n c c' z : Int} (hn : n ∈ r) (hc : c ∈ ch n) (hc' : c' ∈ ch n) (h1 : Desc ch c z) (h2 : Desc ch c' z) : c = c' := by
 have key : ∀ c c', c ∈ ch n → c' ∈ ch n → Desc ch c c' → c = c' := fun c c' hc hc' hd => by
  have hcr := h.mem n hn c hc
  cases hd with
  | refl => rfl
  | @step q _ hd hq =>
   have := h.uniq _ (h.desc hcr.1 hd).1 _ hn _ hq hc'
   subst this
   have := (h.desc hcr.1 hd).2
   omega
 rcases h.lin (h.mem n hn c hc).1 (h.mem n hn c' hc').1 h1 h2 with h3 | h3
 ·exact key c c' hc hc' h3
 ·exact (key c' c hc' hc h3).symm
theorem Desc.front {ch : Int → List Int} {n c z : Int} (hc : c ∈ ch n) (h : Desc ch c z) : Desc ch n z := by
 induction h with
 | refl => exact .step .refl hc
 | step _ h ih => exact .step ih h
theorem Forest.cnt (h : Forest r ch att) : ∃ cnt : Int → Nat, (∀ n ∈ r, 1 + ((ch n).map cnt).sum ≤ cnt n) ∧ ∀ n, cnt n ≤ r.length := by
 classical
 refine ⟨fun n => (r.filter fun z => decide (Desc ch n z)).length, fun n hn => ?_, fun n => List.length_filter_le _ _⟩
 have e : 1 + ((ch n).map fun n => (r.filter fun z => decide (Desc ch n z)).length).sum = (n :: (ch n).flatMap fun c => r.filter fun z => decide (Desc ch c z)).length := by
  rw [List.length_cons, List.length_flatMap]
  omega
 rw [e]
 refine nodup_sub_len (List.nodup_cons.2 ⟨fun hm => ?_, ?_⟩) fun x hx => ?_
 ·obtain ⟨c, hc, hz⟩ := List.mem_flatMap.1 hm
  have hz' : Desc ch c n := by simpa using (List.mem_filter.1 hz).2
  have h1 := h.mem n hn c hc
  have := (h.desc h1.1 hz').2
  omega
 ·refine List.pairwise_flatMap.2 ⟨fun c _ => h.nd.sublist List.filter_sublist, ?_⟩
  refine List.Pairwise.imp_of_mem ?_ (h.knd n hn)
  intro c c' hc hc' hne x hx y hy e
  subst e
  exact hne (h.apart hn hc hc' (by simpa using (List.mem_filter.1 hx).2) (by simpa using (List.mem_filter.1 hy).2))
 ·rcases List.mem_cons.1 hx with rfl | hx
  ·exact List.mem_filter.2 ⟨hn, by simpa using Desc.refl⟩
  ·obtain ⟨c, hc, hz⟩ := List.mem_flatMap.1 hx
   obtain ⟨h1, h2⟩ := List.mem_filter.1 hz
   exact List.mem_filter.2 ⟨h1, by simpa using Desc.front hc (by simpa using h2)⟩
end
def chF (B : Bd) (n : Int) : List Int := kidsOf B.kids n ++ (succs B.succ n).filter fun m => decide (¬ mI0 B.att m ≤ mI0 B.att n) && !mB0 B.merged m
def wsum (cnt : Int → Nat) (xs : List Int) : Nat := (xs.map fun x => 2 * cnt x).sum
theorem wsum_eq (cnt : Int → Nat) : ∀ xs : List Int, wsum cnt xs = 2 * (xs.map cnt).sum
 | [] => rfl
 | x :: xs => by
  have := wsum_eq cnt xs
  simp only [wsum, List.map_cons, List.sum_cons] at this ⊢
  omega
structure BdOk (B : Bd) (r : List Int) (cnt : Int → Nat) (N : Nat) : Prop where
 rng : ∀ n ∈ r, (0 ≤ n ∧ n < B.succ.length) ∧ n < B.node.length ∧ (B.succ.getD n.toNat []).length ≤ 1000000
 mem : ∀ n ∈ r, ∀ c ∈ chF B n, c ∈ r ∧ mI0 B.att n < mI0 B.att c
 att : ∀ n ∈ r, 0 ≤ mI0 B.att n ∧ mI0 B.att n < N
 kids : ∀ n, (kidsOf B.kids n).length ≤ N
 small : N ≤ 1000000
 cnt : ∀ n ∈ r, 1 + ((chF B n).map cnt).sum ≤ cnt n
theorem brs_ok {f : Int → Bs → Option (S31 × Bs)} {cost : Int → Nat} : ∀ (l : List Int) (s : Bs), (∀ m ∈ l, ∀ s : Bs, s.n + cost m ≤ 1000000000 → ∃ x s', f m s = some (x, s') ∧ s.n ≤ s'.n ∧ s'.n ≤ s.n + cost m) → s.n + (l.map cost).sum ≤ 1000000000 →
  ∃ xs s', brs f l s = some (xs, s') ∧ s.n ≤ s'.n ∧ s'.n ≤ s.n + (l.map cost).sum
 | [], s, _, _ => ⟨[], s, rfl, Nat.le_refl _, by simp⟩
 | m :: l, s, h, hb => by
  simp only [List.map_cons, List.sum_cons] at hb
  obtain ⟨x, s1, e1, h1, h1'⟩ := h m (by simp) s (by omega)
  obtain ⟨xs, s2, e2, h2, h2'⟩ := brs_ok l s1 (fun m hm => h m (by simp [hm])) (by omega)
  refine ⟨x :: xs, s2, ?_, by omega, ?_⟩
  ·unfold brs; rw [e1]; simp only [Option.bind_some]; rw [e2]; rfl
  ·simp only [List.map_cons, List.sum_cons]; omega
theorem bF_within {B : Bd} {r : List Int} {cnt : Int → Nat} {N K : Nat} (h : BdOk B r cnt N) {n : Int} (hn : n ∈ r)
  (ht : ∀ c ∈ chF B n, ∀ (k : Nat) (s : Bs), K ≤ k → s.n + 2 * cnt c ≤ 1000000001 → ∃ x s', bF B k (.tree c) s = some (x, s') ∧ s.n ≤ s'.n ∧ s'.n + 1 ≤ s.n + 2 * cnt c) (hcnt : ∀ c ∈ chF B n, 1 ≤ cnt c) :
  ∀ (xs : List Int) (k : Nat) (s : Bs), (∀ x ∈ xs, x ∈ kidsOf B.kids n) → xs.length ≤ N → K + 2 + xs.length ≤ k → s.n + wsum cnt xs + wsum cnt ((succs B.succ n).filter fun m => decide (¬ mI0 B.att m ≤ mI0 B.att n) && !mB0 B.merged m) ≤ 1000000000 →
   ∃ x s', bF B k (.within n xs) s = some (x, s') ∧ s.n ≤ s'.n ∧ s'.n ≤ s.n + wsum cnt xs + wsum cnt ((succs B.succ n).filter fun m => decide (¬ mI0 B.att m ≤ mI0 B.att n) && !mB0 B.merged m)
 | [], 0, s, _, _, hk, _ => by omega
 | [], k + 1, s, _, _, hk, hb => by
  have hr := h.rng n hn
  unfold bF
  rw [if_pos hr]
  have e : wsum cnt ((succs B.succ n).filter fun m => decide (¬ mI0 B.att m ≤ mI0 B.att n) && !mB0 B.merged m) = ((succs B.succ n).map fun m => if (decide (¬ mI0 B.att m ≤ mI0 B.att n) && !mB0 B.merged m) = true then 2 * cnt m else 0).sum := by
   generalize succs B.succ n = l
   induction l with
   | nil => rfl
   | cons a l ih =>
    simp only [wsum, List.map_cons, List.sum_cons] at ih ⊢
    rw [List.filter_cons]
    split
    ·simp only [List.map_cons, List.sum_cons]; omega
    ·omega
  rw [e] at hb ⊢
  simp only [wsum, List.map_nil, List.sum_nil] at hb ⊢
  obtain ⟨ys, s', e', h1, h2⟩ := brs_ok (f := fun m s => bF B k (.branch n m) s) (cost := fun m => if (decide (¬ mI0 B.att m ≤ mI0 B.att n) && !mB0 B.merged m) = true then 2 * cnt m else 0) (succs B.succ n) s (fun m hm s hs => by
   match k, hk with
   | k + 1, hk =>
    unfold bF
    by_cases c1 : mI0 B.att m ≤ mI0 B.att n
    ·rw [if_pos c1]; exact ⟨_, s, rfl, Nat.le_refl _, by omega⟩
    rw [if_neg c1]
    by_cases c2 : mB0 B.merged m = true
    ·rw [if_pos c2]; exact ⟨_, s, rfl, Nat.le_refl _, by omega⟩
    rw [if_neg c2]
    have hc : (decide (¬ mI0 B.att m ≤ mI0 B.att n) && !mB0 B.merged m) = true := by simp [c1, c2]
    rw [if_pos hc] at hs ⊢
    have hm' : m ∈ chF B n := List.mem_append.2 (.inr (List.mem_filter.2 ⟨hm, hc⟩))
    obtain ⟨x, s', e, h1, h2⟩ := ht m hm' k s (by omega) (by omega)
    exact ⟨x, s', e, h1, by omega⟩) (by omega)
  refine ⟨_, s', by rw [show B.succ.getD n.toNat [] = succs B.succ n from rfl, e']; rfl, h1, by omega⟩
 | x :: xs, 0, s, _, _, hk, _ => by omega
 | x :: xs, k + 1, s, hx, hl, hk, hb => by
  have hN := h.small
  simp only [List.length_cons] at hl hk
  have hw : wsum cnt (x :: xs) = 2 * cnt x + wsum cnt xs := by simp [wsum]
  rw [hw] at hb ⊢
  have hxc : x ∈ chF B n := List.mem_append.2 (.inl (hx x (by simp)))
  have h1c := hcnt x hxc
  unfold bF
  rw [if_pos ⟨by omega, by omega⟩]
  obtain ⟨q, s1, e1, h1, h1'⟩ := bF_within h hn ht hcnt xs k { s with blocks := mput s.blocks x s.n, n := s.n + 1 } (fun y hy => hx y (by simp [hy])) (by omega) (by omega) (by show s.n + 1 + _ + _ ≤ _; omega)
  have h1 : s.n + 1 ≤ s1.n := h1
  have h1' : s1.n ≤ s.n + 1 + wsum cnt xs + _ := h1'
  rw [e1]
  simp only [Option.bind_some]
  obtain ⟨p, s2, e2, h2, h2'⟩ := ht x hxc k s1 (by omega) (by omega)
  rw [e2]
  exact ⟨_, s2, rfl, by omega, by omega⟩
theorem bF_tree {B : Bd} {r : List Int} {cnt : Int → Nat} {N : Nat} (h : BdOk B r cnt N) :
  ∀ (j : Nat) (n : Int), n ∈ r → (N : Int) ≤ mI0 B.att n + j → ∀ (k : Nat) (s : Bs), j * (N + 4) ≤ k → s.n + 2 * cnt n ≤ 1000000001 → ∃ x s', bF B k (.tree n) s = some (x, s') ∧ s.n ≤ s'.n ∧ s'.n + 1 ≤ s.n + 2 * cnt n
 | 0, n, hn, hj, k, s, hk, hb => by have := h.att n hn; omega
 | j + 1, n, hn, hj, 0, s, hk, hb => by rw [Nat.add_mul] at hk; omega
 | j + 1, n, hn, hj, k + 1, s, hk, hb => by
  rw [Nat.add_mul] at hk
  have hcn := h.cnt n hn
  have hws := wsum_eq cnt (chF B n)
  have hwa : wsum cnt (chF B n) = wsum cnt (kidsOf B.kids n) + wsum cnt ((succs B.succ n).filter fun m => decide (¬ mI0 B.att m ≤ mI0 B.att n) && !mB0 B.merged m) := by simp [wsum, chF]
  have hkl := h.kids n
  have hW := bF_within (K := j * (N + 4)) h hn (fun c hc k s a b => by
   have := h.mem n hn c hc
   exact bF_tree h j c this.1 (by omega) k s a b) (fun c hc => by have := h.cnt c (h.mem n hn c hc).1; omega) (kidsOf B.kids n) k
  unfold bF
  cases e : mget s.loops n with
  | none =>
   simp only
   obtain ⟨x, s', e', h1, h2⟩ := hW s (fun _ h => h) hkl (by omega) (by omega)
   exact ⟨x, s', e', h1, by omega⟩
  | some v =>
   simp only
   rw [if_pos (by omega)]
   obtain ⟨x, s', e', h1, h2⟩ := hW { s with loops := mput s.loops n s.n, n := s.n + 1 } (fun _ h => h) hkl (by omega) (by show s.n + 1 + _ + _ ≤ _; omega)
   have h1 : s.n + 1 ≤ s'.n := h1
   have h2 : s'.n ≤ s.n + 1 + wsum cnt (kidsOf B.kids n) + _ := h2
   rw [e']
   exact ⟨_, s', rfl, by omega, by omega⟩
theorem count_le_sum {succ : List (List Int)} {att : List (Int × Int)} {y : Int} : ∀ (r : List Int) (n : Int), n ∈ r → ¬ mI0 att y ≤ mI0 att n → (succs succ n).count y ≤ fwdc succ att r y
 | [], _, h, _ => by simp at h
 | a :: r, n, h, hc => by
  simp only [fwdc, List.map_cons, List.sum_cons]
  rcases List.mem_cons.1 h with rfl | h
  ·rw [if_neg hc]; omega
  ·have := count_le_sum (succ := succ) r n h hc
   simp only [fwdc] at this
   omega
theorem two_le_sum {succ : List (List Int)} {att : List (Int × Int)} {y : Int} : ∀ (r : List Int) (n n' : Int), r.Nodup → n ∈ r → n' ∈ r → n ≠ n' → ¬ mI0 att y ≤ mI0 att n → ¬ mI0 att y ≤ mI0 att n' → (succs succ n).count y + (succs succ n').count y ≤ fwdc succ att r y
 | [], _, _, _, h, _, _, _, _ => by simp at h
 | a :: r, n, n', hnd, h, h', hne, hc, hc' => by
  obtain ⟨h1, h2⟩ := List.nodup_cons.1 hnd
  have key : fwdc succ att (a :: r) y = (if mI0 att y ≤ mI0 att a then 0 else (succs succ a).count y) + fwdc succ att r y := by simp [fwdc]
  rw [key]
  rcases List.mem_cons.1 h with rfl | hm
  ·rw [if_neg hc]
   have := count_le_sum (succ := succ) r n' ((List.mem_cons.1 h').resolve_left fun e => hne e.symm) hc'
   omega
  ·rcases List.mem_cons.1 h' with rfl | hm'
   ·rw [if_neg hc']
    have := count_le_sum (succ := succ) r n hm hc
    omega
   ·have := two_le_sum (succ := succ) r n n' h2 hm hm' hne hc hc'
    omega
structure BdIs (g : List (List Int)) (node : List Int) (B : Bd) (l : List (Int × Int)) (r : List Int) (m : List (Int × Int)) (p : List (List Int)) (d : List Int) : Prop where
 dom : DomOk g r m p d
 succ : B.succ = g
 node : B.node = node
 att : ∀ x, mI0 B.att x = mI0 m x
 merged : ∀ x, mB0 B.merged x = true ↔ (x ∈ r ∧ fwdc g m r x > 1)
 kids : ∀ n x, x ∈ kidsOf B.kids n ↔ (x ∈ r ∧ fwdc g m r x > 1 ∧ par d x = n)
 knd : ∀ n, (kidsOf B.kids n).Nodup
 loops : ∀ y, mget l y ≠ none ↔ ∃ x ∈ r, y ∈ succs g x ∧ mI0 m y ≤ mI0 m x
 srt : ∀ n, (kidsOf B.kids n).Pairwise fun a b => mI0 m b < mI0 m a
theorem BdIs.forest {g : List (List Int)} {node : List Int} {B : Bd} {l : List (Int × Int)} {r : List Int} {m : List (Int × Int)} {p : List (List Int)} {d : List Int} (h : BdIs g node B l r m p d) : Forest r (chF B) (mI0 m) := by
 have hV := h.dom.view
 have hz : fwdc g m r 0 = 0 := by
  have : ∀ xs : List Int, (∀ x ∈ xs, x ∈ r) → fwdc g m xs 0 = 0 := fun xs => by
   induction xs with
   | nil => simp [fwdc]
   | cons a xs ih =>
    intro hx
    have hi := ih fun x hx' => hx x (by simp [hx'])
    have := hV.pos_nn a
    simp only [fwdc, List.map_cons, List.sum_cons] at hi ⊢
    rw [if_pos (by rw [hV.pos_zero]; omega), hi]
  exact this r fun _ h => h
 have split : ∀ n c, c ∈ chF B n → (c ∈ r ∧ fwdc g m r c > 1 ∧ par d c = n) ∨ (c ∈ succs g n ∧ ¬ mI0 m c ≤ mI0 m n ∧ ¬ (c ∈ r ∧ fwdc g m r c > 1)) := fun n c hc => by
  rcases List.mem_append.1 hc with h1 | h1
  ·exact .inl ((h.kids n c).1 h1)
  ·obtain ⟨h2, h3⟩ := List.mem_filter.1 h1
   rw [h.succ] at h2
   simp only [Bool.and_eq_true, decide_eq_true_eq, Bool.not_eq_true', h.att] at h3
   exact .inr ⟨h2, h3.1, fun hc => by have := (h.merged c).2 hc; rw [this] at h3; simp at h3⟩
 refine ⟨hV.ord.nd, fun n hn c hc => ?_, fun n hn => ?_, fun n hn n' hn' c hc hc' => ?_⟩
 ·rcases split n c hc with ⟨h1, h2, h3⟩ | ⟨h1, h2, _⟩
  ·have hc0 : c ≠ 0 := fun e => by rw [e, hz] at h2; omega
   have := h.dom.tree.up c (h.dom.full c h1) hc0
   rw [h3] at this
   exact ⟨h1, this.2⟩
  ·exact ⟨hV.ord.closed n hn c h1, by omega⟩
 ·refine List.nodup_append.2 ⟨h.knd n, ?_, fun a ha b hb e => ?_⟩
  ·rw [List.nodup_iff_count]
   intro a
   by_cases hm : a ∈ (succs B.succ n).filter fun m => decide (¬ mI0 B.att m ≤ mI0 B.att n) && !mB0 B.merged m
   ·obtain ⟨h2, h3⟩ := List.mem_filter.1 hm
    rw [h.succ] at h2
    simp only [Bool.and_eq_true, decide_eq_true_eq, Bool.not_eq_true', h.att] at h3
    have h5 : ¬ fwdc g m r a > 1 := fun hc => by have := (h.merged a).2 ⟨hV.ord.closed n hn a h2, hc⟩; rw [this] at h3; simp at h3
    have h6 := count_le_sum (succ := g) (att := m) r n hn h3.1
    have h7 : ((succs B.succ n).filter fun m => decide (¬ mI0 B.att m ≤ mI0 B.att n) && !mB0 B.merged m).count a ≤ (succs B.succ n).count a := List.filter_sublist.count_le a
    rw [h.succ] at h7
    rw [h.succ]
    omega
   ·rw [List.count_eq_zero_of_not_mem hm]; omega
  ·subst e
   have h1 := (h.kids n a).1 ha
   obtain ⟨_, h3⟩ := List.mem_filter.1 hb
   have := (h.merged a).2 ⟨h1.1, h1.2.1⟩
   rw [this] at h3
   simp at h3
 ·rcases split n c hc with ⟨h1, h2, h3⟩ | ⟨h1, h2, h4⟩
  ·rcases split n' c hc' with ⟨_, _, h3'⟩ | ⟨_, _, h4'⟩
   ·rw [← h3, h3']
   ·exact absurd ⟨h1, h2⟩ h4'
  ·rcases split n' c hc' with ⟨h1', h2', _⟩ | ⟨h1', h2', _⟩
   ·exact absurd ⟨h1', h2'⟩ h4
   ·refine Classical.byContradiction fun hne => ?_
    have h5 := two_le_sum (succ := g) (att := m) r n n' hV.ord.nd hn hn' hne h2 h2'
    have h6 := List.count_pos_iff.2 h1
    have h7 := List.count_pos_iff.2 h1'
    exact h4 ⟨hV.ord.closed n hn c h1, by omega⟩
theorem build_ok {g : List (List Int)} {node : List Int} (hv : ValidG g) (h0 : 0 < g.length) (hl : g.length ≤ 10000) (hrow : ∀ l ∈ g, l.length ≤ 1000) (hnode : node.length = g.length) :
  ∃ x, BuildIs g node x ∧ ∃ B l r m p d k s9, BdIs g node B l r m p d ∧ ViewIs g r m p ∧ bF B k (.tree 0) ⟨l, [], 0⟩ = some (x, s9) := by
 obtain ⟨r, m, p, hVI, hV⟩ := viewOk_is hv h0 (by omega) hrow
 obtain ⟨kd, d, hd, hD⟩ := doms_ok hV h0
 have hdl : d.length = g.length := hD.tree.len
 have hrl : r.length ≤ g.length := nodup_len hV.ord.nd hV.ord.rng
 have hr0 : 0 < r.length := by obtain ⟨t, e⟩ := hV.ord.root; rw [e]; simp
 have hpos : ∀ x, mI0 (posF r 0 []) x = mI0 m x := fun x => by
  unfold mI0
  rw [posF_get r 0 [] x hV.ord.nd, hV.att]
  split
  ·rw [Nat.zero_add]
  ·rfl
 have hfw : ∀ y, fwdc g (posF r 0 []) r y = fwdc g m r y := fun y => by simp only [fwdc, hpos]
 obtain ⟨⟨l, e⟩, hed, he, hlo⟩ := edgesF_ok (succ := g) (posF r 0 []) hrow r ([], []) hV.ord.rng (fun y => by
  show 0 ≤ mI0 [] y ∧ mI0 [] y + _ ≤ _
  simp only [mI0, mget, List.find?_nil, Option.map_none, Option.getD_none]
  omega)
 have he' : ∀ y, mI0 e y = fwdc g m r y := fun y => by
  have := he y
  simp only [mI0, mget, List.find?_nil, Option.map_none, Option.getD_none, Int.zero_add] at this
  rw [← hfw]; exact this
 obtain ⟨m1, m2, m3⟩ := mergeF_ok e (d.set 0 (-1)) r.reverse ([], []) ((List.reverse_perm r).nodup_iff.2 hV.ord.nd) (fun n x hx => by simp [kidsOf, mget] at hx) (fun n => by simp [kidsOf, mget])
 have hz : fwdc g m r 0 = 0 := by
  have : ∀ xs : List Int, fwdc g m xs 0 = 0 := fun xs => by
   induction xs with
   | nil => simp [fwdc]
   | cons a xs ih =>
    have := hV.pos_nn a
    simp only [fwdc, List.map_cons, List.sum_cons] at ih ⊢
    rw [if_pos (by rw [hV.pos_zero]; omega), ih]
  exact this r
 have hdp : ∀ x ∈ r, x ≠ 0 → (d.set 0 (-1)).getD x.toNat 0 = par d x := fun x hx hx0 => by
  have := hV.ord.rng x hx
  unfold par
  rw [List.getD_eq_getElem?_getD, List.getElem?_set_ne (by omega), ← List.getD_eq_getElem?_getD]
 let B : Bd := ⟨g, node, posF r 0 [], (mergeF e (d.set 0 (-1)) r.reverse ([], [])).2, (mergeF e (d.set 0 (-1)) r.reverse ([], [])).1⟩
 have hB : BdIs g node B l r m p d := by
  refine ⟨hD, rfl, rfl, hpos, fun x => ?_, fun n x => ?_, m3, fun y => ?_, mergeF_srt e (d.set 0 (-1)) (mI0 m) r.reverse ([], []) (List.pairwise_reverse.2 (hV.pos_pw)) (fun n x hx => by simp [kidsOf, mget] at hx) (fun n => by simp [kidsOf, mget])⟩
  ·rw [m1 x, he' x, List.mem_reverse]
   simp only [mB0, mget, List.find?_nil, Option.map_none, Option.getD_none, Bool.false_eq_true, false_or]
   exact and_congr_right fun _ => by omega
  ·rw [m2 n x, he' x, List.mem_reverse]
   simp only [kidsOf, mget, List.find?_nil, Option.map_none, Option.getD_none, List.not_mem_nil, false_or]
   constructor
   ·rintro ⟨h1, h2, h3⟩
    have hx0 : x ≠ 0 := fun e => by rw [e, hz] at h2; omega
    exact ⟨h1, by omega, by rw [← hdp x h1 hx0]; exact h3⟩
   ·rintro ⟨h1, h2, h3⟩
    have hx0 : x ≠ 0 := fun e => by rw [e, hz] at h2; omega
    exact ⟨h1, by omega, by rw [hdp x h1 hx0]; exact h3⟩
  ·rw [hlo y]
   simp only [hpos]
   simp [mget]
 obtain ⟨cnt, c1, c2⟩ := hB.forest.cnt
 have hOk : BdOk B r cnt r.length := by
  refine ⟨fun n hn => ?_, fun n hn c hc => ?_, fun n hn => ?_, fun n => ?_, by omega, c1⟩
  ·have h1 := hV.ord.rng n hn
   have h2 := row_at hrow n.toNat
   exact ⟨h1, by show n < node.length; omega, by show (g.getD n.toNat []).length ≤ _; omega⟩
  ·have := hB.forest.mem n hn c hc
   rw [hB.att, hB.att]
   exact this
  ·rw [hB.att]; exact hV.pos_lt hn
  ·exact nodup_sub_len (hB.knd n) fun x hx => ((hB.kids n x).1 hx).1
 have hc0 := c2 0
 obtain ⟨x, s9, ex, _⟩ := bF_tree hOk r.length 0 hV.zero_mem (by rw [hB.att, hV.pos_zero]; omega) (r.length * (r.length + 4)) ⟨l, [], 0⟩ (Nat.le_refl _) (by show 0 + _ ≤ _; omega)
 refine ⟨x, ⟨r, d.set 0 (-1), l, e, _, s9, hVI.1, ⟨r, m, p, d, ⟨hVI, hr0, hdl, kd, hd⟩, rfl⟩, by omega, hed, fun y hy => ?_, ex⟩, B, l, r, m, p, d, _, s9, hB, hVI, ex⟩
 rw [List.length_set, hdl]
 exact hV.ord.rng y hy
end Go.Proofs.Ytfiiihpdekppiaa
end
section
namespace Go.Proofs.Ytfiiihpdekppiaa
open Go.RowKit Go.Proofs Go.Proofs.YtfiiihpdekppiaaW.PrintWords
open PShapeReducible (S31)
section
variable {g : List (List Int)} {r : List Int} {m : List (Int × Int)} {p : List (List Int)} {d : List Int}
theorem redIn_ok (h : DomOk g r m p d) {u : Int} (hu : u ∈ r) {k : Nat} (hk : r.length ≤ k) : ∀ l : List Int, ∃ b, redIn k m d u l = some b
 | [] => ⟨true, rfl⟩
 | s :: l => by
  unfold redIn
  split
  ·obtain ⟨a', e, _⟩ := climb_total (h.tree.treeB h.view h.zero) (h.view.pos_nn s) k u (h.full u hu) (by have := h.view.pos_lt hu; omega)
   rw [e]
   simp only [Option.bind_some]
   split
   ·exact redIn_ok h hu hk l
   ·exact ⟨false, rfl⟩
  ·exact redIn_ok h hu hk l
theorem redOut_ok (h : DomOk g r m p d) {k : Nat} (hk : r.length ≤ k) : ∀ xs : List Int, (∀ x ∈ xs, x ∈ r) → ∃ b, redOut k g m d xs = some b
 | [], _ => ⟨true, rfl⟩
 | u :: xs, hx => by
  have hu := hx u (by simp)
  unfold redOut
  rw [if_pos (h.view.ord.rng u hu)]
  obtain ⟨b, e⟩ := redIn_ok h hu hk (g.getD u.toNat [])
  rw [e]
  simp only [Option.bind_some]
  split
  ·exact redOut_ok h hk xs fun x hx' => hx x (by simp [hx'])
  ·exact ⟨false, rfl⟩
end
theorem red_is {g : List (List Int)} (hv : ValidG g) (h0 : 0 < g.length) (hl : g.length ≤ 10000) (hrow : ∀ l ∈ g, l.length ≤ 1000) :
  ∃ b r m p d k, DomIs g r m p d ∧ DomOk g r m p d ∧ redOut k g m d r = some b ∧ RedIs g b := by
 obtain ⟨r, m, p, hVI, hV⟩ := viewOk_is hv h0 (by omega) hrow
 obtain ⟨kd, d, hd, hD⟩ := doms_ok hV h0
 have hr0 : 0 < r.length := by obtain ⟨t, e⟩ := hV.ord.root; rw [e]; simp
 obtain ⟨b, e⟩ := redOut_ok hD (Nat.le_refl r.length) r fun _ h => h
 have hDI : DomIs g r m p d := ⟨hVI, hr0, hD.tree.len, kd, hd⟩
 exact ⟨b, r, m, p, d, _, hDI, hD, e, .inr ⟨r, m, p, d, _, hDI, e⟩⟩
theorem struct_ok {g : List (List Int)} (hv : ValidG g) (h0 : 0 < g.length) (hl : g.length ≤ 5000) (hrow : ∀ l ∈ g, l.length ≤ 1000) (budget : Int) (hb : budget ≤ 5000) :
  ∃ x err, StructIs g budget x err ∧ (err = 0 ∨ (err = 50 ∧ x = ⟨0, 0, 0, []⟩ ∧ max budget 0 < cst g.length)) := by
 obtain ⟨b, r, m, p, d, k, hDI, hD, _, hR⟩ := red_is hv h0 (by omega) hrow
 have hval : ValidIs g true := by
  have := valid_is g (by omega) (fun l hl => by have := hrow l hl; omega)
  rwa [decide_eq_true ⟨hv, h0⟩] at this
 have hGood : GoodG g := ⟨by omega, fun l hl => by have := hrow l hl; omega⟩
 cases b with
 | true =>
  obtain ⟨x, hB, _⟩ := build_ok (node := rangeI g.length) hv h0 (by omega) hrow (by simp [rangeI])
  exact ⟨x, 0, .inr ⟨hval, hGood, .inl ⟨hR, hB, rfl⟩⟩, .inl rfl⟩
 | false =>
  have hr : r.length ≤ g.length := nodup_len hD.view.ord.nd hD.view.ord.rng
  obtain ⟨hS, hSx⟩ := setF_ok (-1) r [] .nil
  have hSr : ∀ x ∈ keys (setF (-1) r []), x ∈ r := fun x hx => by
   rcases (hSx x).1 hx with h | h
   ·exact h.1
   ·simp [keys] at h
  have hSl := hS.len_le hSr
  have hOk : SpOk g.length ⟨g, rangeI g.length, 0, max budget 0⟩ := by
   refine ⟨hv, by simp [rangeI], ⟨Int.le_refl _, by simp⟩, ⟨by show (0 : Int) ≤ max budget 0; omega, by show max budget 0 + _ ≤ _; omega⟩, hrow, fun x hx => rangeI_mem.1 hx⟩
  obtain ⟨t, e, hres⟩ := splitF_ok (enough + 2 + (setF (-1) r []).length) _ (setF (-1) r []) hOk hS (fun x hx => hD.view.ord.rng x (hSr x hx)) (by omega)
  rcases hres with ⟨rfl, hbad⟩ | ⟨s, rfl, hs, hsb, hsc, hsc'⟩
  ·have := cst_mono (show (setF (-1) r []).length ≤ g.length by omega)
   have hbad : max budget 0 < 0 + (cst (setF (-1) r []).length : Int) := hbad
   exact ⟨⟨0, 0, 0, []⟩, 50, .inr ⟨hval, hGood, .inr ⟨hR, r, _, none, hDI.1.1, e, .inl ⟨rfl, rfl, rfl⟩⟩⟩, .inr ⟨rfl, rfl, by omega⟩⟩
  ·have hsl := hs.cop
   obtain ⟨x, hB, _⟩ := build_ok (g := s.succ) (node := s.node) hs.val (by omega) hs.size hs.row hs.len
   exact ⟨x, 0, .inr ⟨hval, hGood, .inr ⟨hR, r, _, some s, hDI.1.1, e, .inr ⟨s, rfl, hB, rfl⟩⟩⟩, .inl rfl⟩
theorem struct_bad {g : List (List Int)} (hv : ¬ (ValidG g ∧ 0 < g.length)) (hl : g.length ≤ 1000000000) (hrow : ∀ l ∈ g, l.length ≤ 1000000000) (budget : Int) : ValidIs g false ∧ StructIs g budget ⟨0, 0, 0, []⟩ 51 := by
 have := valid_is g hl hrow
 rw [decide_eq_false hv] at this
 exact ⟨this, .inl ⟨this, rfl, rfl⟩⟩
end Go.Proofs.Ytfiiihpdekppiaa
end
