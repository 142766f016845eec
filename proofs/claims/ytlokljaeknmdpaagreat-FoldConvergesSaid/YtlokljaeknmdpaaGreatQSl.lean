/-
  Slices of structs; slices.ContainsFunc at them, by its contract; no condition.
-/
import Derived.Test.YtlokljaeknmdpaaGreatKMap
import Derived.Test.YtlokljaeknmdpaaGreatLay
import Derived.WalkKit
import Derived.Lib.SliceRun
namespace Go.Proofs.YtlokljaeknmdpaaGreat
open Go.RowKit Go.Shelf

/-- v is a slice of the list zs; an element has k cells -/
def SlAt {α : Type} [Inhabited α] (w : World) (k : Nat) (enc : α → List Value) (v : Value) (zs : List α) : Prop :=
  (∃ a c, v = .slice a 0 c ∧ zs = []) ∨ ∃ b off c, v = .slice (some ⟨b, off, none⟩) zs.length c ∧ zs.length ≤ c ∧ c ≤ maxLen ∧ b < w.heap.size ∧ ∀ j, j < zs.length → ∀ i u, (enc zs[j]!)[i]? = some u → w.cell? ⟨b, off + j * k + i, none⟩ = some u

theorem SlAt.below {α : Type} [Inhabited α] {w w' : World} {k : Nat} {enc : α → List Value} {v : Value} {zs : List α} (h : SlAt w k enc v zs) (hb : Below w.heap.size w w') : SlAt w' k enc v zs := by
  rcases h with h | ⟨b, off, c, rfl, h1, h2, h3, h4⟩
  · exact .inl h
  · exact .inr ⟨b, off, c, rfl, h1, h2, Nat.lt_of_lt_of_le h3 hb.size, fun j hj i u hu => (hb.cell (p := ⟨b, _, none⟩) h3).trans (h4 j hj i u hu)⟩

/-- its length -/
theorem SlAt.len {α : Type} [Inhabited α] {w : World} {k : Nat} {enc : α → List Value} {v : Value} {zs : List α} (h : SlAt w k enc v zs) : ∃ a c, v = .slice a zs.length c := by
  rcases h with ⟨a, c, rfl, rfl⟩ | ⟨b, off, c, rfl, _⟩
  · exact ⟨a, c, rfl⟩
  · exact ⟨_, _, rfl⟩

theorem noContIno (a : Option Addr) (c : Nat) (f : Value) (w : World) : Calls Tryz.prog 116 #[.slice a 0 c, f] w fun e w' => e = .returned (.bool false) ∧ Below w.heap.size w w' := by
  have hI : Calls Tryz.prog 161 #[.slice a 0 c, f] w fun e w' => e = .returned (.int .i64 (-1)) ∧ w' = w := by
    go_enter Tryz.func161, Tryz.ntmps161
    go_wp2
    refine wp_loop_rounds 1 ?_
    rw [rounds_succ]
    go_wp2
    go_ret
    exact ⟨rfl, rfl⟩
  go_enter Tryz.func116, Tryz.ntmps116
  go_wp2_with (go_at_call 161; refine hI.mono ?_; rintro e w' ⟨rfl, rfl⟩)
  go_ret
  exact ⟨rfl, Below.refl _ _⟩

theorem noContEnt (a : Option Addr) (c : Nat) (f : Value) (w : World) : Calls Tryz.prog 118 #[.slice a 0 c, f] w fun e w' => e = .returned (.bool false) ∧ Below w.heap.size w w' := by
  have hI : Calls Tryz.prog 162 #[.slice a 0 c, f] w fun e w' => e = .returned (.int .i64 (-1)) ∧ w' = w := by
    go_enter Tryz.func162, Tryz.ntmps162
    go_wp2
    refine wp_loop_rounds 1 ?_
    rw [rounds_succ]
    go_wp2
    go_ret
    exact ⟨rfl, rfl⟩
  go_enter Tryz.func118, Tryz.ntmps118
  go_wp2_with (go_at_call 162; refine hI.mono ?_; rintro e w' ⟨rfl, rfl⟩)
  go_ret
  exact ⟨rfl, Below.refl _ _⟩

/-- slices.ContainsFunc at a list of inodes, whatever predicate -/
theorem containsIno (p : Ino → Bool) (g : Nat) (lb : Array Value) (eg : ∀ args w, (callFunc g args).run Tryz.prog w = .ok (.enter g args) w) (v : Value) (zs : List Ino) (w : World) (h : SlAt w 6 Ino.cells v zs) (hz : zs.length ≤ 1000)
    (hp : ∀ (W : World) (x : Ino), Below w.heap.size w W → Calls Tryz.prog g (#[x.v] ++ lb) W fun e w' => e = .returned (.bool (p x)) ∧ Below W.heap.size W w') :
    Calls Tryz.prog 116 #[v, .func (.func g) #[] lb] w fun e w' => e = .returned (.bool (zs.any p)) ∧ Below w.heap.size w w' := by
  rcases h with ⟨a', c', rfl, rfl⟩ | ⟨b, off, c, rfl, _, _, hb, hc⟩
  · exact noContIno _ _ _ w
  · have := AnyQ.slices_ContainsFunc lHasIno 6 Tryz.isAgg62 Tryz.sizeOf62 Ino.cells (fun _ => rfl) p g lb eg b off zs.length c zs w (fun W x hb => (hp W x hb).mono fun e w' ⟨h1, h2⟩ => ⟨h1, hb.trans (h2.mono hb.size)⟩) (Nat.le_refl _) (by omega) hb hc
    rw [List.take_length] at this
    exact this

/-- slices.ContainsFunc at a list of entries, whatever predicate -/
theorem containsEnt (p : Ent → Bool) (g : Nat) (lb : Array Value) (eg : ∀ args w, (callFunc g args).run Tryz.prog w = .ok (.enter g args) w) (v : Value) (zs : List Ent) (w : World) (h : SlAt w 5 Ent.cells v zs) (hz : zs.length ≤ 1000)
    (hp : ∀ (W : World) (x : Ent), Below w.heap.size w W → Calls Tryz.prog g (#[x.v] ++ lb) W fun e w' => e = .returned (.bool (p x)) ∧ Below W.heap.size W w') :
    Calls Tryz.prog 118 #[v, .func (.func g) #[] lb] w fun e w' => e = .returned (.bool (zs.any p)) ∧ Below w.heap.size w w' := by
  rcases h with ⟨a', c', rfl, rfl⟩ | ⟨b, off, c, rfl, _, _, hb, hc⟩
  · exact noContEnt _ _ _ w
  · have := AnyQ.slices_ContainsFunc lHasEnt 5 Tryz.isAgg34 Tryz.sizeOf34 Ent.cells (fun _ => rfl) p g lb eg b off zs.length c zs w (fun W x hb => (hp W x hb).mono fun e w' ⟨h1, h2⟩ => ⟨h1, hb.trans (h2.mono hb.size)⟩) (Nat.le_refl _) (by omega) hb hc
    rw [List.take_length] at this
    exact this
end Go.Proofs.YtlokljaeknmdpaaGreat
