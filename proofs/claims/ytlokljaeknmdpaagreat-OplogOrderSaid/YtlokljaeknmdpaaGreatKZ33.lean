/-
  Opening a parameter that is a slice of inodes, of entries; no condition.
-/
import Derived.Test.YtlokljaeknmdpaaGreatKZ8
import Derived.Deep.Slices
import Derived.ChangeOld
/-! ## Open -/
namespace Go.Proofs.YtlokljaeknmdpaaGreat
open Go.RowKit Go.ChangeShapes Go.Deep

section
variable {H : Type} {enc : TypeId × Value → H} {w : World} {base : Nat} {spare : Nat → Bool} {held : Bool}

theorem open_i64 {t : TypeId} {fuel : Nat} {cs : List Value} {x : DataW H × List MemPlace} (ht : Tryz.prog.underlying t = some (.int .i64)) (h : DataW.trod enc Tryz.prog w base spare held fuel t cs = some x) : ∃ n, cs = [.int .i64 n] := by
  cases fuel with
  | zero => simp [DataW.trod] at h
  | succ n =>
    unfold DataW.trod at h
    rw [ht] at h
    split at h <;> simp_all

theorem list2 {cs : List Value} {a b : Value} (hl : cs.length = 2) (h0 : (cs.drop 0).take 1 = [a]) (h1 : (cs.drop 1).take 1 = [b]) : cs = [a, b] := by
  match cs, hl with
  | [x, y], _ => simp at h0 h1; simp [h0, h1]

set_option maxRecDepth 100000 in
theorem open_st {fuel : Nat} {cs : List Value} {x : DataW H × List MemPlace} (h : DataW.trod enc Tryz.prog w base spare held fuel 31 cs = some x) : ∃ z : St, cs = z.cells := by
  obtain ⟨xs, n, _, _, hl, hlen, hf⟩ := DataW.trod_struct Tryz.underlying31 h
  rw [show Tryz.prog.cellsOf 31 = 2 by kernel_rfl] at hl
  match xs, hlen with
  | [y0, y1], _ =>
    have h0 := hf 0 _ rfl
    have h1 := hf 1 _ rfl
    simp only [List.getElem?_cons_zero, List.getElem?_cons_succ] at h0 h1
    obtain ⟨a, ha⟩ := open_i64 Tryz.underlying2 h0
    obtain ⟨b, hb⟩ := open_i64 Tryz.underlying3 h1
    exact ⟨⟨a, b⟩, list2 hl ha hb⟩

/-- a slice of structs of k cells -/
theorem open_list {α : Type} [Inhabited α] {encE : α → List Value} {Q : α → Prop} {k : Nat} {t e : TypeId} {fuel : Nat} {v : Value} {x : DataW H × List MemPlace} (ht : Tryz.prog.underlying t = some (.slice e)) (hk : Tryz.prog.cellsOf e = k) (hk0 : 0 < k)
    (hel : ∀ n cs y, DataW.trod enc Tryz.prog w 0 (fun _ => true) held n e cs = some y → ∃ z, cs = encE z ∧ Q z)
    (h : DataW.trod enc Tryz.prog w 0 (fun _ => true) held fuel t v.cells.toList = some x) (hv : ∃ a len cap, v = .slice a len cap) : ∃ zs : List α, SlAt w k encE v zs ∧ ∀ z ∈ zs, Q z := by
  obtain ⟨a0, l0, c0, rfl⟩ := hv
  rcases open_slice ht h with ⟨h1, _⟩ | ⟨a, len, cap, m, n, D, Pl, h1, _, h2, h3, h4, _, h5⟩
  · simp [Value.cells] at h1
    obtain ⟨rfl, rfl, rfl⟩ := h1
    exact ⟨[], .inl ⟨none, 0, rfl, rfl⟩, by simp⟩
  · simp [Value.cells] at h1
    obtain ⟨rfl, rfl, rfl⟩ := h1
    simp at h4
    subst h4
    by_cases hl0 : l0 = 0
    · subst hl0
      exact ⟨[], .inl ⟨_, _, rfl, rfl⟩, by simp⟩
    have key : ∀ i, i < l0 → ∃ z, Q z ∧ (encE z).length = k ∧ ∀ j u, (encE z)[j]? = some u → w.cell? (a.add (i * k + j)) = some u := by
      intro i hi
      obtain ⟨cs, hc1, hc2⟩ := h5 i (by omega)
      obtain ⟨z, rfl, hq⟩ := hel _ _ _ hc2
      rw [hk] at hc1
      obtain ⟨_, hlen, hcell⟩ := World.cells?_some hc1
      refine ⟨z, hq, hlen, fun j u hu => ?_⟩
      have hj : j < k := by rw [← hlen]; exact (List.getElem?_eq_some_iff.1 hu).1
      have := hcell j hj
      rw [Addr.add_add] at this
      rw [this]; exact hu
    obtain ⟨f, hf⟩ : ∃ f : Nat → α, ∀ i, i < l0 → Q (f i) ∧ (encE (f i)).length = k ∧ ∀ j u, (encE (f i))[j]? = some u → w.cell? (a.add (i * k + j)) = some u := by
      classical
      exact ⟨fun i => if h : i < l0 then (key i h).choose else default, fun i hi => by simp only [dif_pos hi]; exact (key i hi).choose_spec⟩
    obtain ⟨b, off, sp⟩ := a
    have hsp : sp = none := by
      obtain ⟨_, hl, hc⟩ := hf 0 (by omega)
      have hu : (encE (f 0))[0]? = some (encE (f 0))[0] := List.getElem?_eq_getElem (by omega)
      have := hc 0 _ hu
      rw [Nat.zero_mul, Nat.zero_add, show (⟨b, off, sp⟩ : Addr).add 0 = ⟨b, off, sp⟩ by simp [Addr.add]] at this
      cases sp with
      | none => rfl
      | some s => unfold World.cell? at this; split at this <;> simp at this
    subst hsp
    refine ⟨(List.range l0).map f, .inr ⟨b, off, m, by simp, by simpa using h2, h3, ?_, ?_⟩, ?_⟩
    · obtain ⟨_, hl, hc⟩ := hf 0 (by omega)
      have hu : (encE (f 0))[0]? = some (encE (f 0))[0] := List.getElem?_eq_getElem (by omega)
      have := hc 0 _ hu
      rw [Addr.add_lit] at this
      unfold World.cell? at this
      split at this
      · rename_i hh; exact (Array.getElem?_eq_some_iff.1 hh).1
      · cases this
    · intro j hj i u hu
      have hj' : j < l0 := by simpa using hj
      rw [getElem!_pos _ j hj] at hu
      simp at hu
      have := (hf j hj').2.2 i u hu
      rw [Addr.add_lit] at this
      rw [Nat.add_assoc]; exact this
    · intro z hz
      obtain ⟨i, hi, rfl⟩ := List.mem_map.1 hz
      exact (hf i (List.mem_range.1 hi)).1
end
end Go.Proofs.YtlokljaeknmdpaaGreat
