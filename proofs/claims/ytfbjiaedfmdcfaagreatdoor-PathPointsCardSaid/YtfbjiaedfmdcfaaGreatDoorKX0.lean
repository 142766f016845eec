/-
  A path's parts, more of them plainly.
-/
import Derived.Test.YtfbjiaedfmdcfaaGreatDoorKY28
import Derived.Test.YtfbjiaedfmdcfaaGreatDoorKY5
namespace Go.Proofs.YtfbjiaedfmdcfaaGreatDoor
open Go.RowKit Go.Shelf Go.Proofs
theorem partsOf_mem {p x : ByteArray} (h : x ∈ partsOf p) : x.data.toList ∈ partsL p.data.toList := by
  unfold partsOf at h
  obtain ⟨y, hy, rfl⟩ := List.mem_map.1 h
  rw [bsOf_data]; exact hy
/-- texts with slashes around: their parts -/
def slashed : List (List UInt8) → List UInt8
  | [] => []
  | x :: r => x ++ 47 :: slashed r
theorem slashed_snoc (l : List (List UInt8)) (x : List UInt8) : slashed (l ++ [x]) = slashed l ++ (x ++ [47]) := by
  induction l with
  | nil => rfl
  | cons y l ih => simp only [List.cons_append, slashed, ih, List.append_assoc]
theorem cutS_slashed : ∀ (l : List (List UInt8)), (∀ x ∈ l, 47 ∉ x) → cutS (slashed l) = l ++ [[]]
  | [], _ => by simp [slashed, cutS]
  | x :: l, h => by
    rw [slashed, cutS_at (h x List.mem_cons_self), cutS_slashed l fun y hy => h y (List.mem_cons_of_mem _ hy)]
    rfl
theorem parts_slashed {l : List (List UInt8)} (h : ∀ x ∈ l, 47 ∉ x ∧ goodPart x = true) : partsL (47 :: slashed l) = l := by
  unfold partsL
  rw [cutS_slash, cutS_slashed l fun x hx => (h x hx).1]
  rw [List.filter_cons, if_neg (by simp [goodPart]), List.filter_append]
  rw [List.filter_eq_self.2 fun x hx => (h x hx).2]
  simp [goodPart]
def moreL (l : List UInt8) : List UInt8 := l.flatMap fun c => if c = 47 then [47, 46, 47] else [c]
theorem moreL_snoc (l : List UInt8) (c : UInt8) : moreL (l ++ [c]) = moreL l ++ (if c = 47 then [47, 46, 47] else [c]) := by simp [moreL]
theorem parts_more_aux : ∀ (l a : List UInt8), 47 ∉ a → partsL (a ++ moreL l) = partsL (a ++ l)
  | [], a, _ => rfl
  | c :: l, a, ha => by
    by_cases hc : c = 47
    · subst hc
      have e : moreL (47 :: l) = 47 :: ([46] ++ 47 :: moreL l) := by simp [moreL]
      have h := parts_more_aux l [] (by simp)
      simp only [List.nil_append] at h
      unfold partsL at h ⊢
      rw [e, cutS_at ha, cutS_at ha, cutS_at (by simp), List.filter_cons, List.filter_cons (x := a), List.filter_cons, h]
      simp [goodPart]
    · have e : moreL (c :: l) = c :: moreL l := by simp [moreL, hc]
      have h := parts_more_aux l (a ++ [c]) (by
        rw [List.mem_append, not_or]; exact ⟨ha, by simpa using fun h => hc h.symm⟩)
      rw [e]
      simpa using h
theorem parts_more (l : List UInt8) : partsL (moreL l ++ [47, 46]) = partsL l := by
  have h := parts_more_aux l [] (by simp)
  simp only [List.nil_append] at h
  rw [← h]
  unfold partsL
  rw [cutS_mid, List.filter_append]
  simp [cutS, goodPart]
theorem mem_moreL {l : List UInt8} {b : UInt8} (hb : b ≠ 46) (h47 : b ≠ 47) : b ∈ moreL l ↔ b ∈ l := by
  unfold moreL
  rw [List.mem_flatMap]
  constructor
  · rintro ⟨c, hc, h⟩
    by_cases e : c = 47
    · rw [if_pos e] at h
      simp [hb, h47] at h
    · rw [if_neg e, List.mem_singleton] at h
      rw [h]; exact hc
  · intro h
    exact ⟨b, h, by rw [if_neg h47]; exact List.mem_singleton_self _⟩
theorem Gr.goes_in {g : Gr} (h : g.Ok) (fol : Bool) (s : Spot) (r : List ByteArray) (k : Nat) : SpotIn g s →
    ((g.goes fol s r k).2 ≠ 0 → (g.goes fol s r k).1 = spot0) ∧ ((g.goes fol s r k).2 = 0 → SpotIn g (g.goes fol s r k).1 ∧ (fol = true → (g.goes fol s r k).1.there = true → (g.got (g.goes fol s r k).1.ino).kind ≠ 3)) := by
  refine Gr.goes_ind (g := g) (fol := fol) (P := fun s r k => SpotIn g s → ((g.goes fol s r k).2 ≠ 0 → (g.goes fol s r k).1 = spot0) ∧ ((g.goes fol s r k).2 = 0 → SpotIn g (g.goes fol s r k).1 ∧ (fol = true → (g.goes fol s r k).1.there = true → (g.got (g.goes fol s r k).1.ino).kind ≠ 3))) ?_ ?_ ?_ s r k
  · intro s r k hl ih hs
    rw [Gr.goes_link hl]
    split
    · exact ⟨fun _ => rfl, fun h => by cases h⟩
    · rename_i hk
      split
      · rename_i hd
        exact ⟨fun _ => rfl, fun h => absurd h hd⟩
      · rename_i hd
        exact ih hk (Decidable.not_not.1 hd) (SpotIn.start h hs.dir _)
  · intro s k hl hs
    rw [Gr.goes_end hl]
    refine ⟨fun h => absurd rfl h, fun _ => ⟨hs, fun hf ht hk => ?_⟩⟩
    rw [hf] at hl
    have h1 := hs.there ht
    dsimp only at ht hk
    unfold Gr.isLink at hl
    rw [h1, ht, hk] at hl
    cases hl
  · intro s name r k hl ih hs
    rw [Gr.goes_step hl]
    split
    · rename_i hw
      exact ⟨fun _ => rfl, fun h => absurd h hw⟩
    · rename_i hw
      exact ih (Decidable.not_not.1 hw) (SpotIn.step h (Decidable.not_not.1 hw) _)
theorem Gr.findP_in {g : Gr} (h : g.Ok) (at_ : St) (p : ByteArray) (fol : Bool) :
    ((g.findP at_ p fol).2 ≠ 0 → (g.findP at_ p fol).1 = spot0) ∧ ((g.findP at_ p fol).2 = 0 → SpotIn g (g.findP at_ p fol).1 ∧ (fol = true → (g.findP at_ p fol).1.there = true → (g.got (g.findP at_ p fol).1.ino).kind ≠ 3)) := by
  unfold Gr.findP
  split
  · rename_i hw
    exact ⟨fun _ => rfl, fun h => absurd h hw⟩
  · split
    · exact ⟨fun _ => rfl, fun h => by cases h⟩
    · rename_i ha
      exact Gr.goes_in h fol _ _ _ (SpotIn.start h (by cases e : (g.get at_).isSome with
        | true => rfl
        | false => rw [e] at ha; exact absurd rfl ha) _)
end Go.Proofs.YtfbjiaedfmdcfaaGreatDoor
namespace Go.Proofs.YtfbjiaedfmdcfaaGreatDoor.L15
open Go.RowKit Go.Shelf Go.Proofs
theorem eq_spot (s : Spot) (w : World) : (Op.equal 60 s.v s.v).run Tryz.prog w = .ok true w := by
  show (Op.equalIn (9999 + 1) 60 _ _).run Tryz.prog w = _
  have hu := Tryz.underlying2
  have hs := Tryz.underlying9
  have hb := Tryz.underlying4
  have ha := Tryz.underlying26
  have ho := Tryz.underlying60
  obtain ⟨⟨a, b⟩, c, ⟨d, e⟩, f⟩ := s
  unfold Spot.v
  simp only
  go_simp
theorem eql_spot (s : Spot) (w : World) : (binOp .eql 60 s.v s.v).run Tryz.prog w = .ok (.bool true) w := by
  have h := eq_spot s w
  unfold Spot.v at h ⊢
  simp only [binOp]
  simp [h]
end Go.Proofs.YtfbjiaedfmdcfaaGreatDoor.L15
namespace Go.Proofs.YtfbjiaedfmdcfaaGreatDoor
open Go.RowKit Go.Proofs

def moreText (p : ByteArray) : ByteArray := bsOf (moreL p.data.toList ++ [47, 46])
theorem parts_moreText (p : ByteArray) : partsOf (moreText p) = partsOf p := by
  unfold partsOf moreText
  rw [bsOf_data, parts_more]
theorem why_more {p : ByteArray} (h0 : p.size ≠ 0) (h1 : p.size ≤ 60) (h2 : (moreText p).size ≤ 128) : splitWhy (moreText p) = splitWhy p := by
  have hn : hasNul (moreText p) = hasNul p := by
    unfold hasNul moreText
    rw [bsOf_data, Bool.eq_iff_iff, List.contains_iff_mem, List.contains_iff_mem, List.mem_append, mem_moreL (by decide) (by decide)]
    simp
  have hz : (moreText p).size ≠ 0 := by unfold moreText; rw [bsOf_size]; simp
  unfold splitWhy
  rw [if_neg hz, if_neg h0, parts_moreText, hn, decide_eq_false (show ¬ 128 < (moreText p).size by omega), decide_eq_false (show ¬ 128 < p.size by omega)]
theorem start_more {p : ByteArray} (h0 : p.size ≠ 0) (at_ : St) : startAt at_ (moreText p) = startAt at_ p := by
  have e : isRooted (moreText p) = isRooted p := by
    unfold isRooted moreText
    rw [bsOf_data]
    rw [size_data] at h0
    cases hl : p.data.toList with
    | nil => rw [hl] at h0; exact absurd rfl h0
    | cons a l =>
      unfold moreL
      rw [List.flatMap_cons]
      by_cases ha : a = 47
      · rw [if_pos ha, ha]; rfl
      · rw [if_neg ha]; simp [Lib.hasPrefix, List.isPrefixOf]
  unfold startAt
  rw [e]
theorem Gr.findP_more (g : Gr) {p : ByteArray} (h0 : p.size ≠ 0) (h1 : p.size ≤ 60) (h2 : (moreText p).size ≤ 128) (at_ : St) (fol : Bool) : g.findP at_ (moreText p) fol = g.findP at_ p fol := by
  unfold Gr.findP
  rw [why_more h0 h1 h2, start_more h0, parts_moreText]
theorem moreL_len (l : List UInt8) : (moreL l).length ≤ 3 * l.length := by
  induction l with
  | nil => simp [moreL]
  | cons a l ih =>
    unfold moreL at ih ⊢
    rw [List.flatMap_cons, List.length_append, List.length_cons]
    by_cases ha : a = 47
    · rw [if_pos ha]; simp only [List.length_cons, List.length_nil]; omega
    · rw [if_neg ha]; simp only [List.length_cons, List.length_nil]; omega
theorem more_take {l : List UInt8} {i : Nat} (hi : i < l.length) : bsOf (moreL (l.take (i + 1))) = bsOf (moreL (l.take i)) ++ (if l[i] = 47 then ⟨#[47, 46, 47]⟩ else ⟨#[l[i]]⟩) := by
  rw [List.take_succ_eq_append_getElem hi, moreL_snoc]
  apply ByteArray.ext
  by_cases h : l[i] = 47
  · rw [if_pos h, if_pos h]; simp [bsOf, ByteArray.data_append]
  · rw [if_neg h, if_neg h]; simp [bsOf, ByteArray.data_append]
theorem more_end (p : ByteArray) : bsOf (moreL p.data.toList) ++ ⟨#[47, 46]⟩ = moreText p := by
  unfold moreText
  apply ByteArray.ext
  simp [bsOf, ByteArray.data_append]
end Go.Proofs.YtfbjiaedfmdcfaaGreatDoor
namespace Go.Proofs.YtfbjiaedfmdcfaaGreatDoor
open Go.RowKit Go.Proofs

theorem slashed_cut (l : List UInt8) : slashed (cutS l) = l ++ [47] := by
  induction l with
  | nil => rfl
  | cons c l ih =>
    rw [cutS_cons]
    by_cases hc : c = 47
    · rw [if_pos hc, hc]
      show 47 :: slashed (cutS l) = _
      rw [ih]; rfl
    · rw [if_neg hc]
      cases h : cutS l with
      | nil => exact absurd h (cutS_ne l)
      | cons x r =>
        rw [h] at ih
        show c :: (x ++ 47 :: slashed r) = _
        have : x ++ 47 :: slashed r = l ++ [47] := ih
        rw [this]; rfl
theorem slashed_filter_len (f : List UInt8 → Bool) : ∀ L : List (List UInt8), (slashed (L.filter f)).length ≤ (slashed L).length
  | [] => Nat.le_refl _
  | x :: L => by
    have ih := slashed_filter_len f L
    rw [List.filter_cons]
    split
    · simp only [slashed, List.length_append, List.length_cons]; omega
    · simp only [slashed, List.length_append, List.length_cons]; omega
theorem mem_slashed {b : UInt8} : ∀ {L : List (List UInt8)}, b ∈ slashed L → b = 47 ∨ ∃ x ∈ L, b ∈ x
  | [], h => by cases h
  | x :: L, h => by
    rw [slashed, List.mem_append, List.mem_cons] at h
    rcases h with h | h | h
    · exact .inr ⟨x, List.mem_cons_self, h⟩
    · exact .inl h
    · rcases mem_slashed h with h | ⟨y, hy, hb⟩
      · exact .inl h
      · exact .inr ⟨y, List.mem_cons_of_mem _ hy, hb⟩
def backText (L : List ByteArray) : ByteArray := bsOf (47 :: slashed (L.map (·.data.toList)))
theorem parts_data (p : ByteArray) : (partsOf p).map (·.data.toList) = partsL p.data.toList := by
  unfold partsOf
  rw [List.map_map]
  conv => rhs; rw [← List.map_id (partsL p.data.toList)]
  exact List.map_congr_left fun x _ => bsOf_data x
theorem back_len (p : ByteArray) : (backText (partsOf p)).size ≤ p.size + 2 := by
  unfold backText
  rw [bsOf_size, parts_data, List.length_cons]
  have h1 := slashed_filter_len goodPart (cutS p.data.toList)
  rw [slashed_cut, List.length_append] at h1
  rw [size_data]
  unfold partsL
  simp only [List.length_cons, List.length_nil] at h1
  omega
theorem back_parts (p : ByteArray) : partsOf (backText (partsOf p)) = partsOf p := by
  unfold backText
  rw [parts_data]
  unfold partsOf
  rw [bsOf_data, parts_slashed]
  intro x hx
  obtain ⟨h1, h2, h3, _⟩ := partsL_good hx
  exact ⟨h3, goodPart_of h1 h2⟩
theorem part_bytes {p : ByteArray} (h : splitWhy p = 0) {x : ByteArray} (hx : x ∈ partsOf p) : x.size ≤ 8 ∧ x.data.toList ≠ [] ∧ x.data.toList ≠ [46] ∧ 47 ∉ x.data.toList ∧ 0 ∉ x.data.toList := by
  obtain ⟨_, _, h3, h4⟩ := splitWhy_zero h
  obtain ⟨g1, g2, g3, g4⟩ := partsL_good (partsOf_mem hx)
  refine ⟨h3 x hx, g1, g2, g3, fun h0 => ?_⟩
  unfold hasNul at h4
  have := g4 0 h0
  rw [← List.contains_iff_mem, h4] at this
  cases this
theorem back_why {p : ByteArray} (h : splitWhy p = 0) (hs : (backText (partsOf p)).size ≤ 128) : splitWhy (backText (partsOf p)) = 0 := by
  refine splitWhy_of (by unfold backText; rw [bsOf_size]; simp) hs (fun x hx => (part_bytes h (by rw [back_parts] at hx; exact hx)).1) ?_
  unfold hasNul backText
  rw [bsOf_data, Bool.eq_false_iff]
  intro hc
  rw [List.contains_iff_mem, List.mem_cons] at hc
  rcases hc with hc | hc
  · cases hc
  · rcases mem_slashed hc with hc | ⟨x, hx, hb⟩
    · cases hc
    · obtain ⟨y, hy, rfl⟩ := List.mem_map.1 hx
      exact (part_bytes h hy).2.2.2.2 hb
theorem back_take {L : List ByteArray} {i : Nat} (hi : i < L.length) : backText (L.take (i + 1)) = backText (L.take i) ++ L[i]! ++ ⟨#[47]⟩ := by
  unfold backText
  rw [List.take_succ_eq_append_getElem hi, List.map_append, List.map_cons, List.map_nil, slashed_snoc, getElem!_pos L i hi]
  apply ByteArray.ext
  simp [bsOf, ByteArray.data_append]
theorem back_mono {L : List ByteArray} (i : Nat) : (backText (L.take i)).size ≤ (backText L).size := by
  unfold backText
  rw [bsOf_size, bsOf_size, List.length_cons, List.length_cons]
  have : ∀ (a b : List ByteArray), (slashed (a.map (·.data.toList))).length ≤ (slashed ((a ++ b).map (·.data.toList))).length := by
    intro a b
    induction a with
    | nil => simp [slashed]
    | cons x a ih => simp only [List.cons_append, List.map_cons, slashed, List.length_append, List.length_cons]; omega
  have h := this (L.take i) (L.drop i)
  rw [List.take_append_drop] at h
  omega
end Go.Proofs.YtfbjiaedfmdcfaaGreatDoor
