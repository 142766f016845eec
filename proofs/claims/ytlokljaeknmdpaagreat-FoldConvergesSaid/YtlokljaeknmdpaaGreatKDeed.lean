/-
  A deed, plainly; a graph in order has few entries; no condition. · thimbleref09.Nodes, Entries: are two lists the same; condition: at most 100000 elements.
-/
import Derived.Test.YtlokljaeknmdpaaGreatQGrCopy
import Derived.Test.YtlokljaeknmdpaaGreatKFine
/-! ## DeedPl -/
namespace Go.Proofs.YtlokljaeknmdpaaGreat
open Go.RowKit Go.Shelf Go.Proofs

structure Deed where
  kind : Int
  of : Int
  mode : Int
  e : Ent
  data : ByteArray
  deriving Inhabited
def Deed.cells (d : Deed) : List Value := [.int .i64 d.kind, .int .i64 d.of, .int .i64 d.mode, .int .i64 d.e.at_.t, .int .i64 d.e.at_.r, .string d.e.name, .int .i64 d.e.ino.t, .int .i64 d.e.ino.r, .string d.data]
def Deed.v (d : Deed) : Value := .agg #[.int .i64 d.kind, .int .i64 d.of, .int .i64 d.mode, .int .i64 d.e.at_.t, .int .i64 d.e.at_.r, .string d.e.name, .int .i64 d.e.ino.t, .int .i64 d.e.ino.r, .string d.data]

noncomputable def Gr.deedWhy (g : Gr) (d : Deed) : Int :=
  if d.kind = 0 then g.makeWhy d.e.ino d.of else if d.kind = 1 then g.tieWhy d.e else if d.kind = 2 then g.untieWhy d.e.pl else if d.kind = 3 then g.dropWhy d.e.ino else g.setWhy d.e.ino
noncomputable def Gr.deed (g : Gr) (d : Deed) : Gr :=
  if d.kind = 0 then g.make d.e.ino d.of else if d.kind = 1 then g.tie d.e else if d.kind = 2 then g.untie d.e.pl else if d.kind = 3 then g.drop d.e.ino else if g.setWhy d.e.ino = 0 then g.set d.e.ino d.mode d.data else g
theorem Gr.Ok.deed {g : Gr} (h : g.Ok) (d : Deed) : (g.deed d).Ok := by
  unfold Gr.deed
  split
  · unfold Gr.make; split
    · exact h.make ‹_›
    · exact h
  split
  · unfold Gr.tie; split
    · exact h.tie ‹_›
    · exact h
  split
  · unfold Gr.untie
    cases hl : g.look d.e.pl with
    | none => exact h
    | some id => exact h.untie hl
  split
  · unfold Gr.drop; split
    · exact h.drop ‹_›
    · exact h
  split
  · exact h.set _ _ _
  · exact h

/-- the entries of a graph in order are few -/
theorem sumTo_le {e : List Ent} {m : Nat} : ∀ (l : List St), (∀ d ∈ l, linksTo e d ≤ m) → sumTo e l ≤ m * l.length
  | [], _ => by simp [sumTo]
  | d :: l, h => by
    have h1 := sumTo_le l fun x hx => h x (List.mem_cons_of_mem _ hx)
    have h2 := h d List.mem_cons_self
    simp only [sumTo, List.length_cons, Nat.mul_succ]
    omega
theorem Gr.Ok.few {g : Gr} (h : g.Ok) : g.e.length ≤ 240 := by
  have h1 := sumTo_all (g.n.map (·.id)) (h.sn.nodup strictSt) g.e fun x hx => by
    obtain ⟨i, hi, he⟩ := Gr.isSome_iff.1 (h.ends x hx).2.1
    exact List.mem_map.2 ⟨i, hi, he⟩
  have h2 := sumTo_le (e := g.e) (m := 6) (g.n.map (·.id)) fun d hd => by
    obtain ⟨i, hi, rfl⟩ := List.mem_map.1 hd
    have h3 := h.links i hi
    have h4 := h.most i hi
    have : linksTo g.e i.id = g.count i.id := rfl
    omega
  have h3 := h.len
  rw [h1, List.length_map] at h2
  omega

theorem Gr.under_no {g : Gr} {a d : St} (h : g.parent a = none) (hne : a ≠ d) : g.under a d = false := by
  rw [Bool.eq_false_iff]
  intro hu
  rcases (Gr.under_iff.1 hu).inv with h1 | ⟨p, hp, _⟩
  · exact hne h1
  · rw [h] at hp; cases hp

theorem own_below {mI mE : Nat} {w0 a b : World} (h : Turn (Maps2 mI mE) a b) (h1 : w0.heap.size ≤ mI) (h2 : w0.heap.size ≤ mE) (hs : w0.heap.size ≤ a.heap.size) : Below w0.heap.size a b :=
  h.below hs fun k hk hm => by rcases hm with h | h <;> omega

end Go.Proofs.YtlokljaeknmdpaaGreat

/-! ## Same -/
namespace Go.Proofs.YtlokljaeknmdpaaGreat
open Go.RowKit Go.Shelf Go.Proofs

/-- a comparison's answer -/
def SameB {α : Type} (x y : List α) (w : World) (e : Ending) (w' : World) : Prop := ∃ b, e = .returned (.bool b) ∧ (x = y → b = true) ∧ Below w.heap.size w w'

theorem slAt_at {α : Type} [Inhabited α] {w : World} {k : Nat} {enc : α → List Value} {a : Option Addr} {c n : Nat} {zs : List α} (h : SlAt w k enc (.slice a n c) zs) {i : Nat} (hi : i < zs.length) : ∃ b off, a = some ⟨b, off, none⟩ ∧ b < w.heap.size ∧ ∀ j, j < zs.length → ∀ i u, (enc zs[j]!)[i]? = some u → w.cell? ⟨b, off + j * k + i, none⟩ = some u := by
  rcases h with ⟨_, _, _, h0⟩ | ⟨b, off, c', h0, _, _, h3, h4⟩
  · rw [h0] at hi; exact absurd hi (Nat.not_lt_zero _)
  · simp at h0; exact ⟨b, off, h0.1, h3, h4⟩

theorem eq_ino (p q : Ino) (hne : p ≠ q) (w : World) : (Op.equal 62 (.agg #[.int .i64 p.id.t, .int .i64 p.id.r, .int .i64 p.kind, .int .i64 p.links, .int .i64 p.mode, .string p.data]) (.agg #[.int .i64 q.id.t, .int .i64 q.id.r, .int .i64 q.kind, .int .i64 q.links, .int .i64 q.mode, .string q.data])).run Tryz.prog w = .ok false w := by
  show (Op.equalIn (9999 + 1) 62 _ _).run Tryz.prog w = _
  have hu := Tryz.underlying2
  have hv := Tryz.underlying3
  have hs := Tryz.underlying9
  have ha := Tryz.underlying31
  obtain ⟨⟨p0, p1⟩, p2, p3, p4, p5⟩ := p
  obtain ⟨⟨q0, q1⟩, q2, q3, q4, q5⟩ := q
  simp only
  go_simp
  by_cases h0 : p0 = q0 <;> by_cases h1 : p1 = q1 <;> by_cases h2 : p2 = q2 <;> by_cases h3 : p3 = q3 <;> by_cases h4 : p4 = q4 <;> by_cases h5 : p5.toList = q5.toList
  all_goals first
    | (exfalso; exact hne (by rw [h0, h1, h2, h3, h4, toList_ext h5]))
    | simp [*]
theorem eq_ent (p q : Ent) (hne : p ≠ q) (w : World) : (Op.equal 34 (.agg #[.int .i64 p.at_.t, .int .i64 p.at_.r, .string p.name, .int .i64 p.ino.t, .int .i64 p.ino.r]) (.agg #[.int .i64 q.at_.t, .int .i64 q.at_.r, .string q.name, .int .i64 q.ino.t, .int .i64 q.ino.r])).run Tryz.prog w = .ok false w := by
  show (Op.equalIn (9999 + 1) 34 _ _).run Tryz.prog w = _
  have hu := Tryz.underlying2
  have hv := Tryz.underlying3
  have hs := Tryz.underlying9
  have ha := Tryz.underlying31
  obtain ⟨⟨p0, p1⟩, p5, p2, p3⟩ := p
  obtain ⟨⟨q0, q1⟩, q5, q2, q3⟩ := q
  simp only
  go_simp
  by_cases h0 : p0 = q0 <;> by_cases h1 : p1 = q1 <;> by_cases h2 : p2 = q2 <;> by_cases h3 : p3 = q3 <;> by_cases h5 : p5.toList = q5.toList
  all_goals first
    | (exfalso; exact hne (by rw [h0, h1, h2, h3, toList_ext h5]))
    | simp [*]

theorem neq_ino (p q : Ino) (hne : p ≠ q) (w : World) : (binOp .neq 62 (.agg #[.int .i64 p.id.t, .int .i64 p.id.r, .int .i64 p.kind, .int .i64 p.links, .int .i64 p.mode, .string p.data]) (.agg #[.int .i64 q.id.t, .int .i64 q.id.r, .int .i64 q.kind, .int .i64 q.links, .int .i64 q.mode, .string q.data])).run Tryz.prog w = .ok (.bool true) w := by
  simp only [binOp]
  simp [eq_ino p q hne w]
theorem neq_ent (p q : Ent) (hne : p ≠ q) (w : World) : (binOp .neq 34 (.agg #[.int .i64 p.at_.t, .int .i64 p.at_.r, .string p.name, .int .i64 p.ino.t, .int .i64 p.ino.r]) (.agg #[.int .i64 q.at_.t, .int .i64 q.at_.r, .string q.name, .int .i64 q.ino.t, .int .i64 q.ino.r])).run Tryz.prog w = .ok (.bool true) w := by
  simp only [binOp]
  simp [eq_ent p q hne w]

set_option maxRecDepth 100000 in
set_option maxHeartbeats 4000000 in
theorem nodes_same (v1 v2 : Value) (x y : List Ino) (w : World) (h1 : SlAt w 6 Ino.cells v1 x) (h2 : SlAt w 6 Ino.cells v2 y) (hx : x.length ≤ 100000) :
    Calls Tryz.prog 85 #[v1, v2] w (SameB x y w) := by
  obtain ⟨a1, c1, rfl⟩ := h1.len
  obtain ⟨a2, c2, rfl⟩ := h2.len
  by_cases hl : x.length = y.length
  · have e : ((x.length : Int) != (y.length : Int)) = false := by simp [hl]
    have HS1 : Hid (∀ W, Below w.heap.size w W → SlAt W 6 Ino.cells (.slice a1 x.length c1) x) := Lib.hid fun W hW => h1.below hW
    have HS2 : Hid (∀ W, Below w.heap.size w W → SlAt W 6 Ino.cells (.slice a2 y.length c2) y) := Lib.hid fun W hW => h2.below hW
    have HL := Lib.hid hl
    clear h1 h2 hl
    go_enter Tryz.func85, Tryz.ntmps85
    go_wp2
    go_loopg [5] x.length (fun gg s5 wr => ∃ k : Nat, s5 = .int .i64 k ∧ k ≤ x.length ∧ x.length - k ≤ gg ∧ Aside (Below w.heap.size w wr))
    case atStart => exact ⟨0, rfl, Nat.zero_le _, by omega, Below.refl _ _⟩
    case round =>
      obtain ⟨k, rfl, hk, hgg, hB⟩ := hrel
      by_cases hlt : k < x.length
      · have hlti : (k : Int) < (x.length : Int) := by omega
        have hlti2 : (k : Int) < (y.length : Int) := by have := HL.out; omega
        have hk0 : (0 : Int) ≤ (k : Int) := by omega
        have hwk : IntKind.i64.wrap ((k : Int) + 1) = (k : Int) + 1 := wrapNat (k + 1) (by omega)
        obtain ⟨b, off, rfl, hb, hc⟩ := slAt_at (HS1.out wr hB.out) hlt
        obtain ⟨b', off', rfl, hb', hc'⟩ := slAt_at (HS2.out wr hB.out) (i := k) (by have := HL.out; omega)
        obtain ⟨x0, x1, x2, x3, x4, x5⟩ := cellsIno hc k hlt
        obtain ⟨y0, y1, y2, y3, y4, y5⟩ := cellsIno hc' k (by have := HL.out; omega)
        clear hc hc'
        by_cases hxy : x[k]! = y[k]!
        · rw [← hxy] at y0 y1 y2 y3 y4 y5
          clear hxy
          generalize x[k]! = z at *
          go_wp2
          go_quiet (fail)
          go_wp2
          go_roundg (x.length - (k + 1))
          case measure => omega
          case rel => exact ⟨k + 1, by first | rfl | go_num, by omega, by omega, (show Aside _ from ⟨hB.out.os, hB.out.tape, hB.out.output, hB.out.size, hB.out.block⟩)⟩
        · have HNE : Hid (x ≠ y) := Lib.hid fun h => hxy (by rw [h])
          have HXY := Lib.hid hxy
          have heq := neq_ino _ _ hxy
          clear hxy
          generalize x[k]! = z at *
          generalize y[k]! = z' at *
          go_wp2
          go_region
          all_goals
            go_wp2
            go_ret
            exact ⟨false, rfl, (fun h => absurd h HNE.out), hB.out.drew⟩
      · have hlti : ¬ (k : Int) < (x.length : Int) := by omega
        go_wp2
        go_ret
        exact ⟨true, rfl, fun _ => rfl, hB.out⟩
  · have e : ((x.length : Int) != (y.length : Int)) = true := by simp; omega
    have HL := Lib.hid hl
    clear h1 h2 hl
    go_enter Tryz.func85, Tryz.ntmps85
    go_wp2
    go_ret
    exact ⟨false, rfl, fun h => absurd (by rw [h]) HL.out, Below.refl _ _⟩
set_option maxRecDepth 100000 in
set_option maxHeartbeats 4000000 in
theorem entries_same (v1 v2 : Value) (x y : List Ent) (w : World) (h1 : SlAt w 5 Ent.cells v1 x) (h2 : SlAt w 5 Ent.cells v2 y) (hx : x.length ≤ 100000) :
    Calls Tryz.prog 86 #[v1, v2] w (SameB x y w) := by
  obtain ⟨a1, c1, rfl⟩ := h1.len
  obtain ⟨a2, c2, rfl⟩ := h2.len
  by_cases hl : x.length = y.length
  · have e : ((x.length : Int) != (y.length : Int)) = false := by simp [hl]
    have HS1 : Hid (∀ W, Below w.heap.size w W → SlAt W 5 Ent.cells (.slice a1 x.length c1) x) := Lib.hid fun W hW => h1.below hW
    have HS2 : Hid (∀ W, Below w.heap.size w W → SlAt W 5 Ent.cells (.slice a2 y.length c2) y) := Lib.hid fun W hW => h2.below hW
    have HL := Lib.hid hl
    clear h1 h2 hl
    go_enter Tryz.func86, Tryz.ntmps86
    go_wp2
    go_loopg [5] x.length (fun gg s5 wr => ∃ k : Nat, s5 = .int .i64 k ∧ k ≤ x.length ∧ x.length - k ≤ gg ∧ Aside (Below w.heap.size w wr))
    case atStart => exact ⟨0, rfl, Nat.zero_le _, by omega, Below.refl _ _⟩
    case round =>
      obtain ⟨k, rfl, hk, hgg, hB⟩ := hrel
      by_cases hlt : k < x.length
      · have hlti : (k : Int) < (x.length : Int) := by omega
        have hlti2 : (k : Int) < (y.length : Int) := by have := HL.out; omega
        have hk0 : (0 : Int) ≤ (k : Int) := by omega
        have hwk : IntKind.i64.wrap ((k : Int) + 1) = (k : Int) + 1 := wrapNat (k + 1) (by omega)
        obtain ⟨b, off, rfl, hb, hc⟩ := slAt_at (HS1.out wr hB.out) hlt
        obtain ⟨b', off', rfl, hb', hc'⟩ := slAt_at (HS2.out wr hB.out) (i := k) (by have := HL.out; omega)
        obtain ⟨x0, x1, x2, x3, x4⟩ := cellsEnt hc k hlt
        obtain ⟨y0, y1, y2, y3, y4⟩ := cellsEnt hc' k (by have := HL.out; omega)
        clear hc hc'
        by_cases hxy : x[k]! = y[k]!
        · rw [← hxy] at y0 y1 y2 y3 y4
          clear hxy
          generalize x[k]! = z at *
          go_wp2
          go_quiet (fail)
          go_wp2
          go_roundg (x.length - (k + 1))
          case measure => omega
          case rel => exact ⟨k + 1, by first | rfl | go_num, by omega, by omega, (show Aside _ from ⟨hB.out.os, hB.out.tape, hB.out.output, hB.out.size, hB.out.block⟩)⟩
        · have HNE : Hid (x ≠ y) := Lib.hid fun h => hxy (by rw [h])
          have HXY := Lib.hid hxy
          have heq := neq_ent _ _ hxy
          clear hxy
          generalize x[k]! = z at *
          generalize y[k]! = z' at *
          go_wp2
          go_region
          all_goals
            go_wp2
            go_ret
            exact ⟨false, rfl, (fun h => absurd h HNE.out), hB.out.drew⟩
      · have hlti : ¬ (k : Int) < (x.length : Int) := by omega
        go_wp2
        go_ret
        exact ⟨true, rfl, fun _ => rfl, hB.out⟩
  · have e : ((x.length : Int) != (y.length : Int)) = true := by simp; omega
    have HL := Lib.hid hl
    clear h1 h2 hl
    go_enter Tryz.func86, Tryz.ntmps86
    go_wp2
    go_ret
    exact ⟨false, rfl, fun h => absurd (by rw [h]) HL.out, Below.refl _ _⟩
end Go.Proofs.YtlokljaeknmdpaaGreat
