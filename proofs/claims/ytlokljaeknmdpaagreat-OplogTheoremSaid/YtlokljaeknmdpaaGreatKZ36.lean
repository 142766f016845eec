/-
  What differs between graphs, plainly: what an operation turns, itself, three graphs; no condition.
-/
import Derived.Test.YtlokljaeknmdpaaGreatKZ35
/-! ## UndoLaw -/
namespace Go.Proofs.YtlokljaeknmdpaaGreat

section
variable {g : Gr}
/-- what stays of inodes' kinds where nothing is made -/
def Keeps (a b : Gr) : Prop := ∀ k c, b.core k = some c → ∃ d, a.core k = some d ∧ d.1 = c.1
theorem Keeps.refl (a : Gr) : Keeps a a := fun _ c h => ⟨c, h, rfl⟩
theorem Keeps.trans {a b c : Gr} (h1 : Keeps a b) (h2 : Keeps b c) : Keeps a c := fun k x hx => by
  obtain ⟨y, hy, e⟩ := h2 k x hx
  obtain ⟨z, hz, e'⟩ := h1 k y hy
  exact ⟨z, hz, e'.trans e⟩
theorem Keeps.of_eq {a b : Gr} (h : ∀ k, b.core k = a.core k) : Keeps a b := fun k c hc => ⟨c, (h k).symm.trans hc, rfl⟩
theorem Keeps.agree {a b : Gr} (h : Keeps a b) : KindsAgree a b := fun k c d h1 h2 => by
  obtain ⟨x, hx, e⟩ := h k c h1
  rw [h2] at hx; cases hx; exact e.symm
theorem core_tie (g : Gr) (x : Ent) (k : St) : (g.tie x).core k = g.core k := by
  unfold Gr.tie; split
  · exact Gr.core_tied g x k
  · rfl
theorem keeps_drop (g : Gr) (id : St) : Keeps g (g.drop id) := by
  unfold Gr.drop; split
  · intro k c hc
    rw [Gr.core_dropped] at hc
    split at hc
    · cases hc
    · exact ⟨c, hc, rfl⟩
  · exact Keeps.refl g
theorem keeps_gone (g : Gr) (p : Pl) : Keeps g (g.gone p) := by
  unfold Gr.gone
  cases g.look p with
  | none => exact Keeps.refl g
  | some id =>
    simp only
    split
    · exact (Keeps.of_eq (Gr.core_untie g p)).trans (keeps_drop _ _)
    · exact Keeps.of_eq (Gr.core_untie g p)
theorem keeps_setIf (g : Gr) (id : St) (m : Int) (d : ByteArray) : Keeps g (g.setIf id m d) := by
  intro k c hc
  rw [Gr.core_setIf] at hc
  split at hc
  · cases hq : g.core k with
    | none => rw [hq] at hc; cases hc
    | some x =>
      rw [hq] at hc
      simp only [Option.map_some, Option.some.injEq] at hc
      exact ⟨x, rfl, by rw [← hc]⟩
  · exact ⟨c, hc, rfl⟩
theorem Gr.Ok.apply_agree (h : g.Ok) (o : Op) : KindsAgree g (g.apply o) := by
  by_cases hw : g.opWhy o = 0
  · obtain ⟨hm, hkw⟩ := opWhy_zero hw
    rw [apply_zero hw]
    by_cases hk : o.kind = 1 ∨ o.kind = 2 ∨ o.kind = 3
    · rw [kindWhy_make hk] at hkw
      obtain ⟨hdo, hok⟩ := h.does_make hk hm hkw
      have hn := (Gr.makesWhy_zero hkw).2.2.1
      rw [hdo]
      intro k c d h1 h2
      have hG := Gr.Ok.get_put (i := ⟨o.stamp, o.kind, 1, 0, o.data⟩) hok h k
      unfold Gr.core at h1 h2
      have hG' : (g.grown o).get k = _ := hG
      rw [hG'] at h1
      split at h1
      · rename_i hks
        have hks' : k = o.stamp := hks
        rw [hks', hn] at h2; cases h2
      · rw [h1] at h2; cases h2; rfl
    · refine Keeps.agree ?_
      unfold Gr.does
      rw [if_neg hk]
      split
      · exact Keeps.of_eq (core_tie _ _)
      split
      · exact keeps_gone _ _
      split
      · unfold Gr.rename
        cases g.look ⟨o.to, o.new⟩ with
        | none => exact (Keeps.of_eq (Gr.core_untie g _)).trans (Keeps.of_eq (core_tie _ _))
        | some t =>
          simp only
          split
          · exact Keeps.refl g
          · exact ((keeps_gone _ _).trans (Keeps.of_eq (Gr.core_untie _ _))).trans (Keeps.of_eq (core_tie _ _))
      split
      · exact keeps_setIf _ _ _ _
      split
      · exact keeps_setIf _ _ _ _
      split
      · exact keeps_setIf _ _ _ _
      · exact Keeps.refl g
  · rw [apply_err hw]
    exact (Keeps.refl g).agree
/-- an operation taken back -/
theorem Gr.Ok.back_apply (h : g.Ok) (o : Op) : (g.apply o).back { diffOf g (g.apply o) with err := g.opWhy o } = g := back_diff h (h.apply o) (h.apply_agree o) _

/-! ### a graph and itself -/
/-! ### how much an operation turns -/
end
end Go.Proofs.YtlokljaeknmdpaaGreat
