/-
  thimblelaw09.do: a deed; condition: the graph is in order.
-/
import Derived.Test.YtmnkaohhjhjciaaGrCopy
import Derived.Test.YtmnkaohhjhjciaaSumLaw
namespace Go.Proofs.Ytmnkaohhjhjciaa
open Go.RowKit Go.Shelf Go.Proofs

structure Deed where
  kind : Int
  of : Int
  mode : Int
  e : Ent
  data : ByteArray
  deriving Inhabited
def Deed.cells (d : Deed) : List Value := [.int .i64 d.kind, .int .i64 d.of, .int .i64 d.mode, .int .i64 d.e.at_.t, .int .i64 d.e.at_.r, .string d.e.name, .int .i64 d.e.ino.t, .int .i64 d.e.ino.r, .string d.data]
def Deed.v (d : Deed) : Value := .agg #[.int .i64 d.kind, .int .i64 d.of, .int .i64 d.mode, .int .i64 d.e.at_.t, .int .i64 d.e.at_.r, .string d.e.name, .int .i64 d.e.ino.t, .int .i64 d.e.ino.r, .string d.data]

noncomputable def Gr.deedWhy (g : Gr) (d : Deed) : Int :=
  if d.kind = 0 then g.makeWhy d.e.ino d.of else if d.kind = 1 then g.tieWhy d.e else if d.kind = 2 then g.untieWhy d.e.pl else if d.kind = 3 then g.dropWhy d.e.ino else g.setWhy d.e.ino
noncomputable def Gr.deed (g : Gr) (d : Deed) : Gr :=
  if d.kind = 0 then g.make d.e.ino d.of else if d.kind = 1 then g.tie d.e else if d.kind = 2 then g.untie d.e.pl else if d.kind = 3 then g.drop d.e.ino else if g.setWhy d.e.ino = 0 then g.set d.e.ino d.mode d.data else g
theorem Gr.Ok.deed {g : Gr} (h : g.Ok) (d : Deed) : (g.deed d).Ok := by
  unfold Gr.deed
  split
  · unfold Gr.make; split
    · exact h.make ‹_›
    · exact h
  split
  · unfold Gr.tie; split
    · exact h.tie ‹_›
    · exact h
  split
  · unfold Gr.untie
    cases hl : g.look d.e.pl with
    | none => exact h
    | some id => exact h.untie hl
  split
  · unfold Gr.drop; split
    · exact h.drop ‹_›
    · exact h
  split
  · exact h.set _ _ _
  · exact h

/-- the entries of a graph in order are few -/
theorem sumTo_le {e : List Ent} {m : Nat} : ∀ (l : List St), (∀ d ∈ l, linksTo e d ≤ m) → sumTo e l ≤ m * l.length
  | [], _ => by simp [sumTo]
  | d :: l, h => by
    have h1 := sumTo_le l fun x hx => h x (List.mem_cons_of_mem _ hx)
    have h2 := h d List.mem_cons_self
    simp only [sumTo, List.length_cons, Nat.mul_succ]
    omega
theorem Gr.Ok.few {g : Gr} (h : g.Ok) : g.e.length ≤ 240 := by
  have h1 := sumTo_all (g.n.map (·.id)) (h.sn.nodup strictSt) g.e fun x hx => by
    obtain ⟨i, hi, he⟩ := Gr.isSome_iff.1 (h.ends x hx).2.1
    exact List.mem_map.2 ⟨i, hi, he⟩
  have h2 := sumTo_le (e := g.e) (m := 6) (g.n.map (·.id)) fun d hd => by
    obtain ⟨i, hi, rfl⟩ := List.mem_map.1 hd
    have h3 := h.links i hi
    have h4 := h.most i hi
    have : linksTo g.e i.id = g.count i.id := rfl
    omega
  have h3 := h.len
  rw [h1, List.length_map] at h2
  omega

set_option maxRecDepth 100000 in
set_option maxHeartbeats 2000000 in
theorem do_any (gb mI mE : Nat) (g : Gr) (d : Deed) (w : World) (h : GrAt w gb mI mE g) (hok : g.Ok) (hx : d.e.name.size ≤ maxLen) :
    Calls Try.prog 21 #[.pointer (some ⟨gb, 0, none⟩), d.v] w (Done gb mI mE (g.deed d) (.int .i64 (g.deedWhy d)) w) := by
  have hl : g.e.length ≤ 1000 := by have := hok.few; omega
  have hb0 : Below w.heap.size w (w.alloc (.cells #[.int .i64 d.kind, .int .i64 d.of, .int .i64 d.mode, .int .i64 d.e.at_.t, .int .i64 d.e.at_.r, .string d.e.name, .int .i64 d.e.ino.t, .int .i64 d.e.ino.r, .string d.data] 48)) := (Below.refl _ w).alloc (Nat.le_refl _) _
  have HB0 := Lib.hid hb0
  have H0 := Lib.hid (make_g gb mI mE g d.e.ino d.of _ (h.below hb0) hok)
  have H1 := Lib.hid (tie_g gb mI mE g d.e _ (h.below hb0) hok hl hx)
  have H2 := Lib.hid (untie_g gb mI mE g d.e.pl _ (h.below hb0) hok)
  have H3 := Lib.hid (drop_g gb mI mE g d.e.ino _ (h.below hb0) hok hl)
  have H4 := Lib.hid (set_g gb mI mE g d.e.ino d.mode d.data _ (h.below hb0) hok)
  clear h hok hl hb0
  obtain ⟨kind, of, mode, ⟨at_, name, ino⟩, data⟩ := d
  simp only at *
  unfold Gr.deedWhy Gr.deed
  simp only at *
  unfold Deed.v
  unfold Ent.v at H1
  unfold St.v at H0 H2 H3 H4
  by_cases k0 : kind = 0
  · subst k0
    clear H1 H2 H3 H4
    go_enter Try.func21, Try.ntmps21
    go_wp2_with (go_at_call 42; refine H0.out.mono ?_; rintro e w1 ⟨rfl, hG, hT⟩)
    go_ret
    exact ⟨rfl, hG, (HB0.out.turn _).trans hT⟩
  · rw [if_neg k0, if_neg k0]
    have e0 : (kind == 0) = false := beq_eq_false_iff_ne.2 k0
    by_cases k1 : kind = 1
    · subst k1
      clear H0 H2 H3 H4 k0 e0
      go_enter Try.func21, Try.ntmps21
      go_wp2_with (go_at_call 38; refine H1.out.mono ?_; rintro e w1 ⟨rfl, hG, hT⟩)
      go_ret
      exact ⟨rfl, hG, (HB0.out.turn _).trans hT⟩
    · rw [if_neg k1, if_neg k1]
      have e1 : (kind == 1) = false := beq_eq_false_iff_ne.2 k1
      by_cases k2 : kind = 2
      · subst k2
        clear H0 H1 H3 H4 k0 e0 k1 e1
        go_enter Try.func21, Try.ntmps21
        go_wp2_with (go_at_call 39; refine H2.out.mono ?_; rintro e w1 ⟨rfl, hG, hT⟩)
        go_ret
        exact ⟨rfl, hG.new (New.alloc' _ _), ((HB0.out.turn _).trans hT).trans ((New.alloc' _ _).turn _)⟩
      · rw [if_neg k2, if_neg k2]
        have e2 : (kind == 2) = false := beq_eq_false_iff_ne.2 k2
        by_cases k3 : kind = 3
        · subst k3
          clear H0 H1 H2 H4 k0 e0 k1 e1 k2 e2
          go_enter Try.func21, Try.ntmps21
          go_wp2_with (go_at_call 40; refine H3.out.mono ?_; rintro e w1 ⟨rfl, hG, hT⟩)
          go_ret
          exact ⟨rfl, hG, (HB0.out.turn _).trans hT⟩
        · rw [if_neg k3, if_neg k3]
          have e3 : (kind == 3) = false := beq_eq_false_iff_ne.2 k3
          clear H0 H1 H2 H3 k0 k1 k2 k3
          generalize (if g.setWhy ino = 0 then g.set ino mode data else g) = g' at H4 ⊢
          go_enter Try.func21, Try.ntmps21
          go_wp2_with (go_at_call 41; refine H4.out.mono ?_; rintro e w1 ⟨rfl, hG, hT⟩)
          go_ret
          exact ⟨rfl, hG, (HB0.out.turn _).trans hT⟩
end Go.Proofs.Ytmnkaohhjhjciaa
