/-
  A row of records of what operations turned, plainly laid; no condition.
-/
import Derived.Test.YtlokljaeknmdpaaGreatKLC
/-! ## Recs -/
namespace Go.Proofs.YtlokljaeknmdpaaGreat.L12
open Go.RowKit Go.Shelf Go.Proofs

/-- a record as it lies in a row -/
structure Raw where
  a : Value
  b : Value
  c : Value
  d : Value
  e : Int
instance : Inhabited Raw := ⟨⟨.slice none 0 0, .slice none 0 0, .slice none 0 0, .slice none 0 0, 0⟩⟩
def Raw.cells (r : Raw) : List Value := [r.a, r.b, r.c, r.d, .int .i64 r.e]
theorem infoRec : (Tryz.prog.info? 44).map (fun i => (i.zero, i.size, i.bytes)) = some (some (.agg #[.slice none 0 0, .slice none 0 0, .slice none 0 0, .slice none 0 0, .int .i64 0]), 5, 104) := by kernel_rfl
/-- a row of another type stays when one grows -/
theorem row_grown {W W' : World} {B k n : Nat} {t t2 : TypeId} {v : Value} {xs : List Value} {row : Option Nat} (h : W.ownsRow B t k v n xs) (hg : W.grownBy W' row) (hk : ∀ g, row = some g → ∃ c fz, W.heap[g]? = some (.cells c t2 fz)) (hne : t2 ≠ t) : W'.ownsRow B t k v n xs := by
  refine ⟨h.1, ?_⟩
  rcases h.2 with h0 | ⟨g, cap, cur, hv, hb, hh, rest⟩
  · exact .inl h0
  · refine .inr ⟨g, cap, cur, hv, hb, (hg.block g (Array.getElem?_eq_some_iff.1 hh).1 fun e => ?_).trans hh, rest⟩
    obtain ⟨c, fz, h2⟩ := hk g e.symm
    rw [hh] at h2
    simp only [Option.some.injEq, Obj.cells.injEq] at h2
    exact hne h2.2.1.symm
theorem row_kind {W : World} {B k n : Nat} {t : TypeId} {v : Value} {xs : List Value} (h : W.ownsRow B t k v n xs) : ∀ g, v.ownBlock = some g → ∃ c fz, W.heap[g]? = some (.cells c t fz) := fun g e => by
  rcases h.2 with ⟨rfl, _⟩ | ⟨g', cap, cur, rfl, _, hh, _⟩
  · cases e
  · have e' : g' = g := by simpa [Value.ownBlock] using e
    subst e'
    exact ⟨_, _, hh⟩
theorem rec_grown {B : Nat} {w w' : World} {v1 v2 v3 v4 : Value} {r : Rec} {row : Option Nat} (h : RecAt B w v1 v2 v3 v4 r) (hg : w.grownBy w' row) (hk : ∀ g, row = some g → ∃ c fz, w.heap[g]? = some (.cells c 44 fz)) : RecAt B w' v1 v2 v3 v4 r :=
  ⟨row_grown h.1 hg hk (by decide), row_grown h.2.1 hg hk (by decide), row_grown h.2.2.1 hg hk (by decide), row_grown h.2.2.2 hg hk (by decide)⟩
theorem row_turn {W W' : World} {B k n mI mE : Nat} {t : TypeId} {v : Value} {xs : List Value} (h : W.ownsRow B t k v n xs) (ht : Turn (Maps2 mI mE) W W') (h1 : mI < B) (h2 : mE < B) : W'.ownsRow B t k v n xs :=
  ownsRow_kept2 h fun j hj hl => ht.block j hl fun hm => by rcases hm with e | e <;> omega
theorem rec_turn {B mI mE : Nat} {w w' : World} {v1 v2 v3 v4 : Value} {r : Rec} (h : RecAt B w v1 v2 v3 v4 r) (ht : Turn (Maps2 mI mE) w w') (h1 : mI < B) (h2 : mE < B) : RecAt B w' v1 v2 v3 v4 r :=
  ⟨row_turn h.1 ht h1 h2, row_turn h.2.1 ht h1 h2, row_turn h.2.2.1 ht h1 h2, row_turn h.2.2.2 ht h1 h2⟩
/-- the records of the first n operations -/
def RecsAt (B : Nat) (l : List Op) (n : Nat) (rs : List Raw) (w : World) : Prop := rs.length = n ∧ ∀ j, j < n → RecAt B w rs[j]!.a rs[j]!.b rs[j]!.c rs[j]!.d (diffOf (ran (l.take j)) (ran (l.take (j + 1)))) ∧ (∃ p1 p2 p3 p4 n1 n2 n3 n4 c1 c2 c3 c4, rs[j]!.a = .slice p1 n1 c1 ∧ rs[j]!.b = .slice p2 n2 c2 ∧ rs[j]!.c = .slice p3 n3 c3 ∧ rs[j]!.d = .slice p4 n4 c4)
theorem RecsAt.to {B n : Nat} {l : List Op} {rs : List Raw} {w w' : World} (h : RecsAt B l n rs w) (hk : ∀ v1 v2 v3 v4 r, RecAt B w v1 v2 v3 v4 r → RecAt B w' v1 v2 v3 v4 r) : RecsAt B l n rs w' := ⟨h.1, fun j hj => ⟨hk _ _ _ _ _ (h.2 j hj).1, (h.2 j hj).2⟩⟩
theorem RecsAt.snoc {B n : Nat} {l : List Op} {rs : List Raw} {w : World} (h : RecsAt B l n rs w) {p1 p2 p3 p4 : Option Addr} {n1 n2 n3 n4 c1 c2 c3 c4 : Nat} (e : Int) (hr : RecAt B w (.slice p1 n1 c1) (.slice p2 n2 c2) (.slice p3 n3 c3) (.slice p4 n4 c4) (diffOf (ran (l.take n)) (ran (l.take (n + 1))))) :
    RecsAt B l (n + 1) (rs ++ [⟨.slice p1 n1 c1, .slice p2 n2 c2, .slice p3 n3 c3, .slice p4 n4 c4, e⟩]) w := by
  refine ⟨by rw [List.length_append, h.1]; rfl, fun j hj => ?_⟩
  by_cases hjn : j < n
  · have e : (rs ++ [(⟨.slice p1 n1 c1, .slice p2 n2 c2, .slice p3 n3 c3, .slice p4 n4 c4, e⟩ : Raw)])[j]! = rs[j]! := by
      have hl := h.1
      rw [getElem!_pos _ j (by rw [List.length_append]; omega), getElem!_pos rs j (by omega), List.getElem_append_left (by omega)]
    rw [e]
    exact h.2 j hjn
  · obtain rfl : j = n := by omega
    have e : (rs ++ [(⟨.slice p1 n1 c1, .slice p2 n2 c2, .slice p3 n3 c3, .slice p4 n4 c4, e⟩ : Raw)])[j]! = ⟨.slice p1 n1 c1, .slice p2 n2 c2, .slice p3 n3 c3, .slice p4 n4 c4, e⟩ := by
      have hl := h.1
      rw [getElem!_pos _ j (by rw [List.length_append, List.length_singleton]; omega), List.getElem_append_right (by omega)]
      simp [hl]
    rw [e]
    exact ⟨hr, _, _, _, _, _, _, _, _, _, _, _, _, rfl, rfl, rfl, rfl⟩
theorem raw_flat (rs : List Raw) (x : Raw) : (rs ++ [x]).flatMap Raw.cells = rs.flatMap Raw.cells ++ x.cells := by rw [List.flatMap_append, List.flatMap_cons, List.flatMap_nil, List.append_nil]
theorem back_step (l : List Op) (q : Nat) (hq : q < l.length) : (ran (l.take (q + 1))).back (diffOf (ran (l.take q)) (ran (l.take (q + 1)))) = ran (l.take q) := by
  rw [ran_step l q hq]
  exact (ran_ok (l.take q)).back_apply l[q]!
end Go.Proofs.YtlokljaeknmdpaaGreat.L12
