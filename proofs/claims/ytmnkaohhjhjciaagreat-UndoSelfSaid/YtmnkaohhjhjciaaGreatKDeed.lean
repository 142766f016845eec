/-
  thimblelaw09.do: a deed; condition: the graph is in order. · thimblelaw09.shown: the document's example; no condition. · thimbleref09.Nodes, Entries: are two lists the same; condition: at most 100000 elements.
-/
import Derived.Test.YtmnkaohhjhjciaaGreatQGrCopy
import Derived.Test.YtmnkaohhjhjciaaGreatKFine
/-! ## Deed -/
namespace Go.Proofs.YtmnkaohhjhjciaaGreat
open Go.RowKit Go.Shelf Go.Proofs

structure Deed where
  kind : Int
  of : Int
  mode : Int
  e : Ent
  data : ByteArray
  deriving Inhabited
def Deed.cells (d : Deed) : List Value := [.int .i64 d.kind, .int .i64 d.of, .int .i64 d.mode, .int .i64 d.e.at_.t, .int .i64 d.e.at_.r, .string d.e.name, .int .i64 d.e.ino.t, .int .i64 d.e.ino.r, .string d.data]
def Deed.v (d : Deed) : Value := .agg #[.int .i64 d.kind, .int .i64 d.of, .int .i64 d.mode, .int .i64 d.e.at_.t, .int .i64 d.e.at_.r, .string d.e.name, .int .i64 d.e.ino.t, .int .i64 d.e.ino.r, .string d.data]

noncomputable def Gr.deedWhy (g : Gr) (d : Deed) : Int :=
  if d.kind = 0 then g.makeWhy d.e.ino d.of else if d.kind = 1 then g.tieWhy d.e else if d.kind = 2 then g.untieWhy d.e.pl else if d.kind = 3 then g.dropWhy d.e.ino else g.setWhy d.e.ino
noncomputable def Gr.deed (g : Gr) (d : Deed) : Gr :=
  if d.kind = 0 then g.make d.e.ino d.of else if d.kind = 1 then g.tie d.e else if d.kind = 2 then g.untie d.e.pl else if d.kind = 3 then g.drop d.e.ino else if g.setWhy d.e.ino = 0 then g.set d.e.ino d.mode d.data else g
theorem Gr.Ok.deed {g : Gr} (h : g.Ok) (d : Deed) : (g.deed d).Ok := by
  unfold Gr.deed
  split
  · unfold Gr.make; split
    · exact h.make ‹_›
    · exact h
  split
  · unfold Gr.tie; split
    · exact h.tie ‹_›
    · exact h
  split
  · unfold Gr.untie
    cases hl : g.look d.e.pl with
    | none => exact h
    | some id => exact h.untie hl
  split
  · unfold Gr.drop; split
    · exact h.drop ‹_›
    · exact h
  split
  · exact h.set _ _ _
  · exact h

/-- the entries of a graph in order are few -/
theorem sumTo_le {e : List Ent} {m : Nat} : ∀ (l : List St), (∀ d ∈ l, linksTo e d ≤ m) → sumTo e l ≤ m * l.length
  | [], _ => by simp [sumTo]
  | d :: l, h => by
    have h1 := sumTo_le l fun x hx => h x (List.mem_cons_of_mem _ hx)
    have h2 := h d List.mem_cons_self
    simp only [sumTo, List.length_cons, Nat.mul_succ]
    omega
theorem Gr.Ok.few {g : Gr} (h : g.Ok) : g.e.length ≤ 240 := by
  have h1 := sumTo_all (g.n.map (·.id)) (h.sn.nodup strictSt) g.e fun x hx => by
    obtain ⟨i, hi, he⟩ := Gr.isSome_iff.1 (h.ends x hx).2.1
    exact List.mem_map.2 ⟨i, hi, he⟩
  have h2 := sumTo_le (e := g.e) (m := 6) (g.n.map (·.id)) fun d hd => by
    obtain ⟨i, hi, rfl⟩ := List.mem_map.1 hd
    have h3 := h.links i hi
    have h4 := h.most i hi
    have : linksTo g.e i.id = g.count i.id := rfl
    omega
  have h3 := h.len
  rw [h1, List.length_map] at h2
  omega

set_option maxRecDepth 100000 in
set_option maxHeartbeats 2000000 in
theorem do_any (gb mI mE : Nat) (g : Gr) (d : Deed) (w : World) (h : GrAt w gb mI mE g) (hok : g.Ok) (hx : d.e.name.size ≤ maxLen) :
    Calls Tryz.prog 22 #[.pointer (some ⟨gb, 0, none⟩), d.v] w (Done gb mI mE (g.deed d) (.int .i64 (g.deedWhy d)) w) := by
  have hl : g.e.length ≤ 1000 := by have := hok.few; omega
  have hb0 : Below w.heap.size w (w.alloc (.cells #[.int .i64 d.kind, .int .i64 d.of, .int .i64 d.mode, .int .i64 d.e.at_.t, .int .i64 d.e.at_.r, .string d.e.name, .int .i64 d.e.ino.t, .int .i64 d.e.ino.r, .string d.data] 38)) := (Below.refl _ w).alloc (Nat.le_refl _) _
  have HB0 := Lib.hid hb0
  have H0 := Lib.hid (make_g gb mI mE g d.e.ino d.of _ (h.below hb0) hok)
  have H1 := Lib.hid (tie_g gb mI mE g d.e _ (h.below hb0) hok hl hx)
  have H2 := Lib.hid (untie_g gb mI mE g d.e.pl _ (h.below hb0) hok)
  have H3 := Lib.hid (drop_g gb mI mE g d.e.ino _ (h.below hb0) hok hl)
  have H4 := Lib.hid (set_g gb mI mE g d.e.ino d.mode d.data _ (h.below hb0) hok)
  clear h hok hl hb0
  obtain ⟨kind, of, mode, ⟨at_, name, ino⟩, data⟩ := d
  simp only at *
  unfold Gr.deedWhy Gr.deed
  simp only at *
  unfold Deed.v
  unfold Ent.v at H1
  unfold St.v at H0 H2 H3 H4
  by_cases k0 : kind = 0
  · subst k0
    clear H1 H2 H3 H4
    go_enter Tryz.func22, Tryz.ntmps22
    go_wp2_with (go_at_call 26; refine H0.out.mono ?_; rintro e w1 ⟨rfl, hG, hT⟩)
    go_ret
    exact ⟨rfl, hG, (HB0.out.turn _).trans hT⟩
  · rw [if_neg k0, if_neg k0]
    have e0 : (kind == 0) = false := beq_eq_false_iff_ne.2 k0
    by_cases k1 : kind = 1
    · subst k1
      clear H0 H2 H3 H4 k0 e0
      go_enter Tryz.func22, Tryz.ntmps22
      go_wp2_with (go_at_call 27; refine H1.out.mono ?_; rintro e w1 ⟨rfl, hG, hT⟩)
      go_ret
      exact ⟨rfl, hG, (HB0.out.turn _).trans hT⟩
    · rw [if_neg k1, if_neg k1]
      have e1 : (kind == 1) = false := beq_eq_false_iff_ne.2 k1
      by_cases k2 : kind = 2
      · subst k2
        clear H0 H1 H3 H4 k0 e0 k1 e1
        go_enter Tryz.func22, Tryz.ntmps22
        go_wp2_with (go_at_call 47; refine H2.out.mono ?_; rintro e w1 ⟨rfl, hG, hT⟩)
        go_ret
        exact ⟨rfl, hG.new (New.alloc' _ _), ((HB0.out.turn _).trans hT).trans ((New.alloc' _ _).turn _)⟩
      · rw [if_neg k2, if_neg k2]
        have e2 : (kind == 2) = false := beq_eq_false_iff_ne.2 k2
        by_cases k3 : kind = 3
        · subst k3
          clear H0 H1 H2 H4 k0 e0 k1 e1 k2 e2
          go_enter Tryz.func22, Tryz.ntmps22
          go_wp2_with (go_at_call 48; refine H3.out.mono ?_; rintro e w1 ⟨rfl, hG, hT⟩)
          go_ret
          exact ⟨rfl, hG, (HB0.out.turn _).trans hT⟩
        · rw [if_neg k3, if_neg k3]
          have e3 : (kind == 3) = false := beq_eq_false_iff_ne.2 k3
          clear H0 H1 H2 H3 k0 k1 k2 k3
          generalize (if g.setWhy ino = 0 then g.set ino mode data else g) = g' at H4 ⊢
          go_enter Tryz.func22, Tryz.ntmps22
          go_wp2_with (go_at_call 63; refine H4.out.mono ?_; rintro e w1 ⟨rfl, hG, hT⟩)
          go_ret
          exact ⟨rfl, hG, (HB0.out.turn _).trans hT⟩
end Go.Proofs.YtmnkaohhjhjciaaGreat

/-! ## Shown9 -/
namespace Go.Proofs.YtmnkaohhjhjciaaGreat
open Go.RowKit Go.Shelf Go.Proofs

theorem Gr.under_no {g : Gr} {a d : St} (h : g.parent a = none) (hne : a ≠ d) : g.under a d = false := by
  rw [Bool.eq_false_iff]
  intro hu
  rcases (Gr.under_iff.1 hu).inv with h1 | ⟨p, hp, _⟩
  · exact hne h1
  · rw [h] at hp; cases hp

def shX1 : Ent := ⟨⟨0, 0⟩, ⟨#[97]⟩, ⟨1, 0⟩⟩
def shX2 : Ent := ⟨⟨1, 0⟩, ⟨#[98]⟩, ⟨0, 0⟩⟩
def shG1 : Gr := ⟨[⟨⟨0, 0⟩, 1, 0, 0, ⟨#[]⟩⟩, ⟨⟨1, 0⟩, 1, 0, 0, ⟨#[]⟩⟩], []⟩
def shG2 : Gr := ⟨[⟨⟨0, 0⟩, 1, 0, 0, ⟨#[]⟩⟩, ⟨⟨1, 0⟩, 1, 1, 0, ⟨#[]⟩⟩], [shX1]⟩
theorem sh1 : Gr.new.makeWhy ⟨1, 0⟩ 1 = 0 := by decide
theorem sh1g : Gr.new.make ⟨1, 0⟩ 1 = shG1 := by
  unfold Gr.make; rw [sh1]; rfl
theorem sh2 : shG1.tieWhy shX1 = 0 := by
  unfold Gr.tieWhy
  rw [Gr.under_no (by rfl) (by decide)]
  have : nameOk shX1.name = true := by kernel_rfl
  rw [this]
  rfl
theorem sh2g : shG1.tie shX1 = shG2 := by
  unfold Gr.tie; rw [sh2]; rfl
theorem sh3 : shG2.tieWhy shX2 = 8 := by
  unfold Gr.tieWhy
  have : nameOk shX2.name = true := by kernel_rfl
  rw [this]
  have e : (decide (shX2.ino = ⟨0, 0⟩) || shG2.under shX2.at_ shX2.ino) = true := by
    rw [show decide (shX2.ino = ⟨0, 0⟩) = true by rfl]; rfl
  rw [e]
  rfl
theorem shOk1 : shG1.Ok := by rw [← sh1g]; exact Gr.Ok.new.deed ⟨0, 1, 0, ⟨⟨0, 0⟩, ⟨#[]⟩, ⟨1, 0⟩⟩, ⟨#[]⟩⟩
theorem shOk2 : shG2.Ok := by rw [← sh2g]; exact shOk1.deed ⟨1, 0, 0, shX1, ⟨#[]⟩⟩

theorem own_below {mI mE : Nat} {w0 a b : World} (h : Turn (Maps2 mI mE) a b) (h1 : w0.heap.size ≤ mI) (h2 : w0.heap.size ≤ mE) (hs : w0.heap.size ≤ a.heap.size) : Below w0.heap.size a b :=
  h.below hs fun k hk hm => by rcases hm with h | h <;> omega

set_option maxRecDepth 100000 in
set_option maxHeartbeats 2000000 in
theorem shown9_any (w : World) : Calls Tryz.prog 18 #[] w fun x w' => x = .returned (.bool true) ∧ Below w.heap.size w w' := by
  go_enter Tryz.func18, Tryz.ntmps18
  go_wp2_with fail
  refine (new_g w).mono ?_
  rintro e w1 ⟨v, rfl, ⟨gb, mI, mE, rfl, hG, h1, h2, h3⟩, hb⟩
  have hlt := hG.lt
  have hz1 : w.heap.size ≤ w1.heap.size := hb.size
  have HG1 := Lib.hid (make_g gb mI mE Gr.new ⟨1, 0⟩ 1 (w1.alloc (.cells #[.int .i64 1, .int .i64 0] 34)) (hG.new (New.alloc' _ _)) Gr.Ok.new)
  have HB1 := Lib.hid hb
  clear hG hb
  rw [sh1, sh1g] at HG1
  unfold St.v at HG1
  go_wp2_with fail
  refine (HG1.out).mono ?_
  rintro e w2 ⟨rfl, hG, hT⟩
  have hs2 := hT.size
  simp only [World.size_alloc] at hs2
  have hc2 : ∀ b o, b < w1.heap.size + 1 → w2.cell? ⟨b, o, none⟩ = (w1.alloc (.cells #[.int .i64 1, .int .i64 0] 34)).cell? ⟨b, o, none⟩ := fun b o h => (tcell hT).1 b o (by simp only [World.size_alloc]; exact h)
  have HB2 := Lib.hid ((HB1.out.alloc HB1.out.size _).trans (own_below hT h2 h3 (le_al HB1.out.size)))
  have HG2 := Lib.hid (tie_g gb mI mE shG1 shX1 w2 hG shOk1 (by decide) (by decide))
  rw [sh2, sh2g] at HG2
  unfold shX1 Ent.v at HG2
  have hlt2 : w1.heap.size < w2.heap.size := by omega
  clear hG hT
  go_wp2_with fail
  refine (HG2.out).mono ?_
  rintro e w3 ⟨rfl, hG, hT⟩
  have hs3 := hT.size
  have hc3 : ∀ b o, b < w2.heap.size → w3.cell? ⟨b, o, none⟩ = w2.cell? ⟨b, o, none⟩ := (tcell hT).1
  have HB3 := Lib.hid (HB2.out.trans (own_below hT h2 h3 HB2.out.size))
  have HG3 := Lib.hid (tie_g gb mI mE shG2 shX2 w3 hG shOk2 (by decide) (by decide))
  rw [sh3] at HG3
  unfold shX2 Ent.v at HG3
  clear hG hT
  go_wp2_with fail
  refine (HG3.out).mono ?_
  rintro e w4 ⟨rfl, hG, hT⟩
  have HB4 := Lib.hid (HB3.out.trans (own_below hT h2 h3 HB3.out.size))
  clear hG hT
  go_wp2
  go_ret
  exact ⟨rfl, HB4.out⟩

/-- what was played -/
noncomputable def played (l : List Deed) : Gr := l.foldl Gr.deed Gr.new
theorem played_snoc (l : List Deed) (d : Deed) : played (l ++ [d]) = (played l).deed d := by unfold played; rw [List.foldl_append]; rfl
theorem played_ok (l : List Deed) : (played l).Ok := by
  have : ∀ (l : List Deed) (g : Gr), g.Ok → (l.foldl Gr.deed g).Ok := by
    intro l
    induction l with
    | nil => intro g h; exact h
    | cons d l ih => intro g h; exact ih _ (h.deed d)
  exact this l _ Gr.Ok.new
theorem played_step (l : List Deed) (i : Nat) (hi : i < l.length) : played (l.take (i + 1)) = (played (l.take i)).deed l[i]! := by
  rw [List.take_succ_eq_append_getElem hi, played_snoc, getElem!_pos l i hi]
end Go.Proofs.YtmnkaohhjhjciaaGreat

/-! ## Same -/
namespace Go.Proofs.YtmnkaohhjhjciaaGreat
open Go.RowKit Go.Shelf Go.Proofs

/-- a comparison's answer -/
def SameB {α : Type} (x y : List α) (w : World) (e : Ending) (w' : World) : Prop := ∃ b, e = .returned (.bool b) ∧ (x = y → b = true) ∧ Below w.heap.size w w'

theorem slAt_at {α : Type} [Inhabited α] {w : World} {k : Nat} {enc : α → List Value} {a : Option Addr} {c n : Nat} {zs : List α} (h : SlAt w k enc (.slice a n c) zs) {i : Nat} (hi : i < zs.length) : ∃ b off, a = some ⟨b, off, none⟩ ∧ b < w.heap.size ∧ ∀ j, j < zs.length → ∀ i u, (enc zs[j]!)[i]? = some u → w.cell? ⟨b, off + j * k + i, none⟩ = some u := by
  rcases h with ⟨_, _, _, h0⟩ | ⟨b, off, c', h0, _, _, h3, h4⟩
  · rw [h0] at hi; exact absurd hi (Nat.not_lt_zero _)
  · simp at h0; exact ⟨b, off, h0.1, h3, h4⟩

theorem eq_ino (p q : Ino) (hne : p ≠ q) (w : World) : (Op.equal 62 (.agg #[.int .i64 p.id.t, .int .i64 p.id.r, .int .i64 p.kind, .int .i64 p.links, .int .i64 p.mode, .string p.data]) (.agg #[.int .i64 q.id.t, .int .i64 q.id.r, .int .i64 q.kind, .int .i64 q.links, .int .i64 q.mode, .string q.data])).run Tryz.prog w = .ok false w := by
  show (Op.equalIn (9999 + 1) 62 _ _).run Tryz.prog w = _
  have hu := Tryz.underlying2
  have hv := Tryz.underlying3
  have hs := Tryz.underlying9
  have ha := Tryz.underlying34
  obtain ⟨⟨p0, p1⟩, p2, p3, p4, p5⟩ := p
  obtain ⟨⟨q0, q1⟩, q2, q3, q4, q5⟩ := q
  simp only
  go_simp
  by_cases h0 : p0 = q0 <;> by_cases h1 : p1 = q1 <;> by_cases h2 : p2 = q2 <;> by_cases h3 : p3 = q3 <;> by_cases h4 : p4 = q4 <;> by_cases h5 : p5.toList = q5.toList
  all_goals first
    | (exfalso; exact hne (by rw [h0, h1, h2, h3, h4, toList_ext h5]))
    | simp [*]
theorem eq_ent (p q : Ent) (hne : p ≠ q) (w : World) : (Op.equal 36 (.agg #[.int .i64 p.at_.t, .int .i64 p.at_.r, .string p.name, .int .i64 p.ino.t, .int .i64 p.ino.r]) (.agg #[.int .i64 q.at_.t, .int .i64 q.at_.r, .string q.name, .int .i64 q.ino.t, .int .i64 q.ino.r])).run Tryz.prog w = .ok false w := by
  show (Op.equalIn (9999 + 1) 36 _ _).run Tryz.prog w = _
  have hu := Tryz.underlying2
  have hv := Tryz.underlying3
  have hs := Tryz.underlying9
  have ha := Tryz.underlying34
  obtain ⟨⟨p0, p1⟩, p5, p2, p3⟩ := p
  obtain ⟨⟨q0, q1⟩, q5, q2, q3⟩ := q
  simp only
  go_simp
  by_cases h0 : p0 = q0 <;> by_cases h1 : p1 = q1 <;> by_cases h2 : p2 = q2 <;> by_cases h3 : p3 = q3 <;> by_cases h5 : p5.toList = q5.toList
  all_goals first
    | (exfalso; exact hne (by rw [h0, h1, h2, h3, toList_ext h5]))
    | simp [*]

theorem neq_ino (p q : Ino) (hne : p ≠ q) (w : World) : (binOp .neq 62 (.agg #[.int .i64 p.id.t, .int .i64 p.id.r, .int .i64 p.kind, .int .i64 p.links, .int .i64 p.mode, .string p.data]) (.agg #[.int .i64 q.id.t, .int .i64 q.id.r, .int .i64 q.kind, .int .i64 q.links, .int .i64 q.mode, .string q.data])).run Tryz.prog w = .ok (.bool true) w := by
  simp only [binOp]
  simp [eq_ino p q hne w]
theorem neq_ent (p q : Ent) (hne : p ≠ q) (w : World) : (binOp .neq 36 (.agg #[.int .i64 p.at_.t, .int .i64 p.at_.r, .string p.name, .int .i64 p.ino.t, .int .i64 p.ino.r]) (.agg #[.int .i64 q.at_.t, .int .i64 q.at_.r, .string q.name, .int .i64 q.ino.t, .int .i64 q.ino.r])).run Tryz.prog w = .ok (.bool true) w := by
  simp only [binOp]
  simp [eq_ent p q hne w]

set_option maxRecDepth 100000 in
set_option maxHeartbeats 4000000 in
theorem nodes_same (v1 v2 : Value) (x y : List Ino) (w : World) (h1 : SlAt w 6 Ino.cells v1 x) (h2 : SlAt w 6 Ino.cells v2 y) (hx : x.length ≤ 100000) :
    Calls Tryz.prog 36 #[v1, v2] w (SameB x y w) := by
  obtain ⟨a1, c1, rfl⟩ := h1.len
  obtain ⟨a2, c2, rfl⟩ := h2.len
  by_cases hl : x.length = y.length
  · have e : ((x.length : Int) != (y.length : Int)) = false := by simp [hl]
    have HS1 : Hid (∀ W, Below w.heap.size w W → SlAt W 6 Ino.cells (.slice a1 x.length c1) x) := Lib.hid fun W hW => h1.below hW
    have HS2 : Hid (∀ W, Below w.heap.size w W → SlAt W 6 Ino.cells (.slice a2 y.length c2) y) := Lib.hid fun W hW => h2.below hW
    have HL := Lib.hid hl
    clear h1 h2 hl
    go_enter Tryz.func36, Tryz.ntmps36
    go_wp2
    go_loopg [5] x.length (fun gg s5 wr => ∃ k : Nat, s5 = .int .i64 k ∧ k ≤ x.length ∧ x.length - k ≤ gg ∧ Aside (Below w.heap.size w wr))
    case atStart => exact ⟨0, rfl, Nat.zero_le _, by omega, Below.refl _ _⟩
    case round =>
      obtain ⟨k, rfl, hk, hgg, hB⟩ := hrel
      by_cases hlt : k < x.length
      · have hlti : (k : Int) < (x.length : Int) := by omega
        have hlti2 : (k : Int) < (y.length : Int) := by have := HL.out; omega
        have hk0 : (0 : Int) ≤ (k : Int) := by omega
        have hwk : IntKind.i64.wrap ((k : Int) + 1) = (k : Int) + 1 := wrapNat (k + 1) (by omega)
        obtain ⟨b, off, rfl, hb, hc⟩ := slAt_at (HS1.out wr hB.out) hlt
        obtain ⟨b', off', rfl, hb', hc'⟩ := slAt_at (HS2.out wr hB.out) (i := k) (by have := HL.out; omega)
        obtain ⟨x0, x1, x2, x3, x4, x5⟩ := cellsIno hc k hlt
        obtain ⟨y0, y1, y2, y3, y4, y5⟩ := cellsIno hc' k (by have := HL.out; omega)
        clear hc hc'
        by_cases hxy : x[k]! = y[k]!
        · rw [← hxy] at y0 y1 y2 y3 y4 y5
          clear hxy
          generalize x[k]! = z at *
          go_wp2
          go_quiet (fail)
          go_wp2
          go_roundg (x.length - (k + 1))
          case measure => omega
          case rel => exact ⟨k + 1, by first | rfl | go_num, by omega, by omega, (show Aside _ from ⟨hB.out.os, hB.out.tape, hB.out.output, hB.out.size, hB.out.block⟩)⟩
        · have HNE : Hid (x ≠ y) := Lib.hid fun h => hxy (by rw [h])
          have HXY := Lib.hid hxy
          have heq := neq_ino _ _ hxy
          clear hxy
          generalize x[k]! = z at *
          generalize y[k]! = z' at *
          go_wp2
          go_region
          all_goals
            go_wp2
            go_ret
            exact ⟨false, rfl, (fun h => absurd h HNE.out), hB.out.drew⟩
      · have hlti : ¬ (k : Int) < (x.length : Int) := by omega
        go_wp2
        go_ret
        exact ⟨true, rfl, fun _ => rfl, hB.out⟩
  · have e : ((x.length : Int) != (y.length : Int)) = true := by simp; omega
    have HL := Lib.hid hl
    clear h1 h2 hl
    go_enter Tryz.func36, Tryz.ntmps36
    go_wp2
    go_ret
    exact ⟨false, rfl, fun h => absurd (by rw [h]) HL.out, Below.refl _ _⟩
set_option maxRecDepth 100000 in
set_option maxHeartbeats 4000000 in
theorem entries_same (v1 v2 : Value) (x y : List Ent) (w : World) (h1 : SlAt w 5 Ent.cells v1 x) (h2 : SlAt w 5 Ent.cells v2 y) (hx : x.length ≤ 100000) :
    Calls Tryz.prog 38 #[v1, v2] w (SameB x y w) := by
  obtain ⟨a1, c1, rfl⟩ := h1.len
  obtain ⟨a2, c2, rfl⟩ := h2.len
  by_cases hl : x.length = y.length
  · have e : ((x.length : Int) != (y.length : Int)) = false := by simp [hl]
    have HS1 : Hid (∀ W, Below w.heap.size w W → SlAt W 5 Ent.cells (.slice a1 x.length c1) x) := Lib.hid fun W hW => h1.below hW
    have HS2 : Hid (∀ W, Below w.heap.size w W → SlAt W 5 Ent.cells (.slice a2 y.length c2) y) := Lib.hid fun W hW => h2.below hW
    have HL := Lib.hid hl
    clear h1 h2 hl
    go_enter Tryz.func38, Tryz.ntmps38
    go_wp2
    go_loopg [5] x.length (fun gg s5 wr => ∃ k : Nat, s5 = .int .i64 k ∧ k ≤ x.length ∧ x.length - k ≤ gg ∧ Aside (Below w.heap.size w wr))
    case atStart => exact ⟨0, rfl, Nat.zero_le _, by omega, Below.refl _ _⟩
    case round =>
      obtain ⟨k, rfl, hk, hgg, hB⟩ := hrel
      by_cases hlt : k < x.length
      · have hlti : (k : Int) < (x.length : Int) := by omega
        have hlti2 : (k : Int) < (y.length : Int) := by have := HL.out; omega
        have hk0 : (0 : Int) ≤ (k : Int) := by omega
        have hwk : IntKind.i64.wrap ((k : Int) + 1) = (k : Int) + 1 := wrapNat (k + 1) (by omega)
        obtain ⟨b, off, rfl, hb, hc⟩ := slAt_at (HS1.out wr hB.out) hlt
        obtain ⟨b', off', rfl, hb', hc'⟩ := slAt_at (HS2.out wr hB.out) (i := k) (by have := HL.out; omega)
        obtain ⟨x0, x1, x2, x3, x4⟩ := cellsEnt hc k hlt
        obtain ⟨y0, y1, y2, y3, y4⟩ := cellsEnt hc' k (by have := HL.out; omega)
        clear hc hc'
        by_cases hxy : x[k]! = y[k]!
        · rw [← hxy] at y0 y1 y2 y3 y4
          clear hxy
          generalize x[k]! = z at *
          go_wp2
          go_quiet (fail)
          go_wp2
          go_roundg (x.length - (k + 1))
          case measure => omega
          case rel => exact ⟨k + 1, by first | rfl | go_num, by omega, by omega, (show Aside _ from ⟨hB.out.os, hB.out.tape, hB.out.output, hB.out.size, hB.out.block⟩)⟩
        · have HNE : Hid (x ≠ y) := Lib.hid fun h => hxy (by rw [h])
          have HXY := Lib.hid hxy
          have heq := neq_ent _ _ hxy
          clear hxy
          generalize x[k]! = z at *
          generalize y[k]! = z' at *
          go_wp2
          go_region
          all_goals
            go_wp2
            go_ret
            exact ⟨false, rfl, (fun h => absurd h HNE.out), hB.out.drew⟩
      · have hlti : ¬ (k : Int) < (x.length : Int) := by omega
        go_wp2
        go_ret
        exact ⟨true, rfl, fun _ => rfl, hB.out⟩
  · have e : ((x.length : Int) != (y.length : Int)) = true := by simp; omega
    have HL := Lib.hid hl
    clear h1 h2 hl
    go_enter Tryz.func38, Tryz.ntmps38
    go_wp2
    go_ret
    exact ⟨false, rfl, fun h => absurd (by rw [h]) HL.out, Below.refl _ _⟩
end Go.Proofs.YtmnkaohhjhjciaaGreat
