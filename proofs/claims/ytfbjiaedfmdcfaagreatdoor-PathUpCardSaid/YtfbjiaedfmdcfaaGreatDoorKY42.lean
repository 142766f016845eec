/-
  Opening operations; no condition.
-/
import Derived.Test.YtfbjiaedfmdcfaaGreatDoorKY41
import Derived.Test.YtfbjiaedfmdcfaaGreatDoorKY3
/-! ## OpenO -/
namespace Go.Proofs.YtfbjiaedfmdcfaaGreatDoor
open Go.RowKit Go.ChangeShapes Go.Deep

section
variable {H : Type} {enc : TypeId × Value → H} {w : World} {base : Nat} {spare : Nat → Bool} {held : Bool}
theorem mem_weightsAll {P : Program} {e : TypeId} {d : DataW H} : ∀ {ds : List (DataW H)}, d ∈ ds → ∀ n ∈ d.weights P e, n ∈ DataW.weightsAll P e ds
  | d0 :: ds, hd, n, hn => by
    unfold DataW.weightsAll
    rw [List.mem_append]
    rcases List.mem_cons.1 hd with rfl | hd
    · exact .inl hn
    · exact .inr (mem_weightsAll hd n hn)
theorem open_text_w {t : TypeId} {fuel : Nat} {cs : List Value} {x : DataW H × List MemPlace} (ht : Tryz.prog.underlying t = some .string) (h : DataW.trod enc Tryz.prog w base spare held fuel t cs = some x) : ∃ s : ByteArray, cs = [.string s] ∧ s.size ∈ x.1.weights Tryz.prog t := by
  cases fuel with
  | zero => simp [DataW.trod] at h
  | succ n =>
    unfold DataW.trod at h
    rw [ht] at h
    split at h <;> simp_all
    obtain ⟨h1, h2⟩ := h
    rw [← h2]
    simp [DataW.weights]

/-- a slice of structs of k cells, whose strings are short -/
theorem open_list_w {α : Type} [Inhabited α] {encE : α → List Value} {Q : α → Prop} {k : Nat} {t e : TypeId} {fuel : Nat} {v : Value} {x : DataW H × List MemPlace} (ht : Tryz.prog.underlying t = some (.slice e)) (hk : Tryz.prog.cellsOf e = k) (hk0 : 0 < k)
    (hel : ∀ n cs y, DataW.trod enc Tryz.prog w 0 (fun _ => true) held n e cs = some y → (∀ m ∈ y.1.weights Tryz.prog e, m ≤ reachBytes) → ∃ z, cs = encE z ∧ Q z)
    (h : DataW.trod enc Tryz.prog w 0 (fun _ => true) held fuel t v.cells.toList = some x) (hw : ∀ m ∈ x.1.weights Tryz.prog t, m ≤ reachBytes) (hv : ∃ a len cap, v = .slice a len cap) : ∃ zs : List α, SlAt w k encE v zs ∧ ∀ z ∈ zs, Q z := by
  obtain ⟨a0, l0, c0, rfl⟩ := hv
  rcases open_slice ht h with ⟨h1, _⟩ | ⟨a, len, cap, m, n, D, Pl, h1, _, h2, h3, h4, hx, h5⟩
  · simp [Value.cells] at h1
    obtain ⟨rfl, rfl, rfl⟩ := h1
    exact ⟨[], .inl ⟨none, 0, rfl, rfl⟩, by simp⟩
  · simp [Value.cells] at h1
    obtain ⟨rfl, rfl, rfl⟩ := h1
    simp at h4
    subst h4
    by_cases hl0 : l0 = 0
    · subst hl0
      exact ⟨[], .inl ⟨_, _, rfl, rfl⟩, by simp⟩
    have key : ∀ i, i < l0 → ∃ z, Q z ∧ (encE z).length = k ∧ ∀ j u, (encE z)[j]? = some u → w.cell? (a.add (i * k + j)) = some u := by
      intro i hi
      obtain ⟨cs, hc1, hc2⟩ := h5 i (by omega)
      obtain ⟨z, rfl, hq⟩ := hel _ _ _ hc2 (fun q hq => hw q (by
        rw [hx]
        simp only [DataW.weights, ht]
        rw [List.mem_cons, List.mem_append]
        exact .inr (.inl (mem_weightsAll (List.mem_map.2 ⟨i, List.mem_range.2 hi, rfl⟩) q hq))))
      rw [hk] at hc1
      obtain ⟨_, hlen, hcell⟩ := World.cells?_some hc1
      refine ⟨z, hq, hlen, fun j u hu => ?_⟩
      have hj : j < k := by rw [← hlen]; exact (List.getElem?_eq_some_iff.1 hu).1
      have := hcell j hj
      rw [Addr.add_add] at this
      rw [this]; exact hu
    obtain ⟨f, hf⟩ : ∃ f : Nat → α, ∀ i, i < l0 → Q (f i) ∧ (encE (f i)).length = k ∧ ∀ j u, (encE (f i))[j]? = some u → w.cell? (a.add (i * k + j)) = some u := by
      classical
      exact ⟨fun i => if h : i < l0 then (key i h).choose else default, fun i hi => by simp only [dif_pos hi]; exact (key i hi).choose_spec⟩
    obtain ⟨b, off, sp⟩ := a
    have hsp : sp = none := by
      obtain ⟨_, hl, hc⟩ := hf 0 (by omega)
      have hu : (encE (f 0))[0]? = some (encE (f 0))[0] := List.getElem?_eq_getElem (by omega)
      have := hc 0 _ hu
      rw [Nat.zero_mul, Nat.zero_add, show (⟨b, off, sp⟩ : Addr).add 0 = ⟨b, off, sp⟩ by simp [Addr.add]] at this
      cases sp with
      | none => rfl
      | some s => unfold World.cell? at this; split at this <;> simp at this
    subst hsp
    refine ⟨(List.range l0).map f, .inr ⟨b, off, m, by simp, by simpa using h2, h3, ?_, ?_⟩, ?_⟩
    · obtain ⟨_, hl, hc⟩ := hf 0 (by omega)
      have hu : (encE (f 0))[0]? = some (encE (f 0))[0] := List.getElem?_eq_getElem (by omega)
      have := hc 0 _ hu
      rw [Addr.add_lit] at this
      unfold World.cell? at this
      split at this
      · rename_i hh; exact (Array.getElem?_eq_some_iff.1 hh).1
      · cases this
    · intro j hj i u hu
      have hj' : j < l0 := by simpa using hj
      rw [getElem!_pos _ j hj] at hu
      simp at hu
      have := (hf j hj').2.2 i u hu
      rw [Addr.add_lit] at this
      rw [Nat.add_assoc]; exact this
    · intro z hz
      obtain ⟨i, hi, rfl⟩ := List.mem_map.1 hz
      exact (hf i (List.mem_range.1 hi)).1
set_option maxRecDepth 100000 in
theorem open_op {fuel : Nat} {cs : List Value} {x : DataW H × List MemPlace} (h : DataW.trod enc Tryz.prog w base spare held fuel 42 cs = some x) (hw : ∀ m ∈ x.1.weights Tryz.prog 42, m ≤ reachBytes) : ∃ z : Op, cs = z.cells ∧ z.Small := by
  obtain ⟨xs, n, _, hx, hl, hlen, hf⟩ := DataW.trod_struct Tryz.underlying42 h
  rw [show Tryz.prog.cellsOf 42 = 13 by kernel_rfl] at hl
  match xs, hlen with
  | [y0, y1, y2, y3, y4, y5, y6, y7, y8], _ =>
    have h0 := hf 0 _ rfl
    have h1 := hf 1 _ rfl
    have h2 := hf 2 _ rfl
    have h3 := hf 3 _ rfl
    have h4 := hf 4 _ rfl
    have h5 := hf 5 _ rfl
    have h6 := hf 6 _ rfl
    have h7 := hf 7 _ rfl
    have h8 := hf 8 _ rfl
    simp only [List.getElem?_cons_zero, List.getElem?_cons_succ] at h0 h1 h2 h3 h4 h5 h6 h7 h8
    have hm : ∀ (j : Nat) (f : Field) (y : DataW H × List MemPlace), [y0, y1, y2, y3, y4, y5, y6, y7, y8][j]? = some y → (match Tryz.prog.underlying 42 with | some (.struct fs) => fs[j]? | _ => none) = some f → ∀ m ∈ y.1.weights Tryz.prog f.type, m ≤ reachBytes := by
      intro j f y hy hf m hm
      refine hw m ?_
      rw [hx]
      rw [Tryz.underlying42] at hf
      simp only [DataW.weights, Tryz.underlying42]
      refine DataW.weights_mem_each (j := j) (t := f.type) (d := y.1) ?_ ?_ m hm
      · rw [List.getElem?_map, Array.getElem?_toList]
        have hf' := hf
        simp only at hf'
        rw [hf']; rfl
      · rw [List.getElem?_map, hy]; rfl
    obtain ⟨s0, e0⟩ := open_st h0
    obtain ⟨k1, e1⟩ := open_i64 Tryz.underlying3 h1
    obtain ⟨s2, e2⟩ := open_st h2
    obtain ⟨s3, e3⟩ := open_st h3
    obtain ⟨s4, e4⟩ := open_st h4
    obtain ⟨n5, e5, z5'⟩ := open_text_w Tryz.underlying9 h5
    have z5 : n5.size ≤ reachBytes := hm 5 _ y5 rfl (by rw [Tryz.underlying42]; rfl) _ z5'
    obtain ⟨n6, e6, z6'⟩ := open_text_w Tryz.underlying9 h6
    have z6 : n6.size ≤ reachBytes := hm 6 _ y6 rfl (by rw [Tryz.underlying42]; rfl) _ z6'
    obtain ⟨k7, e7⟩ := open_i64 Tryz.underlying3 h7
    obtain ⟨n8, e8, z8'⟩ := open_text_w Tryz.underlying9 h8
    have z8 : n8.size ≤ reachBytes := hm 8 _ y8 rfl (by rw [Tryz.underlying42]; rfl) _ z8'
    refine ⟨⟨s0, k1, s2, s3, s4, n5, n6, k7, n8⟩, ?_, z5, z6, z8⟩
    match cs, hl with
    | [c0, c1, c2, c3, c4, c5, c6, c7, c8, c9, c10, c11, c12], _ =>
      have q0 : [c0, c1] = s0.cells := e0
      have q1 : [c2] = [.int .i64 k1] := e1
      have q2 : [c3, c4] = s2.cells := e2
      have q3 : [c5, c6] = s3.cells := e3
      have q4 : [c7, c8] = s4.cells := e4
      have q5 : [c9] = [.string n5] := e5
      have q6 : [c10] = [.string n6] := e6
      have q7 : [c11] = [.int .i64 k7] := e7
      have q8 : [c12] = [.string n8] := e8
      simp [St.cells] at q0 q1 q2 q3 q4 q5 q6 q7 q8
      simp [Op.cells, q0, q1, q2, q3, q4, q5, q6, q7, q8]
end
end Go.Proofs.YtfbjiaedfmdcfaaGreatDoor
