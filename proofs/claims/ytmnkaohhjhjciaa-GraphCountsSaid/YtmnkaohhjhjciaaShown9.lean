/-
  thimblelaw09.shown: the document's example; no condition.
-/
import Derived.Test.YtmnkaohhjhjciaaDeed
namespace Go.Proofs.Ytmnkaohhjhjciaa
open Go.RowKit Go.Shelf Go.Proofs

theorem Gr.under_no {g : Gr} {a d : St} (h : g.parent a = none) (hne : a ≠ d) : g.under a d = false := by
  rw [Bool.eq_false_iff]
  intro hu
  rcases (Gr.under_iff.1 hu).inv with h1 | ⟨p, hp, _⟩
  · exact hne h1
  · rw [h] at hp; cases hp

def shX1 : Ent := ⟨⟨0, 0⟩, ⟨#[97]⟩, ⟨1, 0⟩⟩
def shX2 : Ent := ⟨⟨1, 0⟩, ⟨#[98]⟩, ⟨0, 0⟩⟩
def shG1 : Gr := ⟨[⟨⟨0, 0⟩, 1, 0, 0, ⟨#[]⟩⟩, ⟨⟨1, 0⟩, 1, 0, 0, ⟨#[]⟩⟩], []⟩
def shG2 : Gr := ⟨[⟨⟨0, 0⟩, 1, 0, 0, ⟨#[]⟩⟩, ⟨⟨1, 0⟩, 1, 1, 0, ⟨#[]⟩⟩], [shX1]⟩
theorem sh1 : Gr.new.makeWhy ⟨1, 0⟩ 1 = 0 := by decide
theorem sh1g : Gr.new.make ⟨1, 0⟩ 1 = shG1 := by
  unfold Gr.make; rw [sh1]; rfl
theorem sh2 : shG1.tieWhy shX1 = 0 := by
  unfold Gr.tieWhy
  rw [Gr.under_no (by rfl) (by decide)]
  have : nameOk shX1.name = true := by kernel_rfl
  rw [this]
  rfl
theorem sh2g : shG1.tie shX1 = shG2 := by
  unfold Gr.tie; rw [sh2]; rfl
theorem sh3 : shG2.tieWhy shX2 = 8 := by
  unfold Gr.tieWhy
  have : nameOk shX2.name = true := by kernel_rfl
  rw [this]
  have e : (decide (shX2.ino = ⟨0, 0⟩) || shG2.under shX2.at_ shX2.ino) = true := by
    rw [show decide (shX2.ino = ⟨0, 0⟩) = true by rfl]; rfl
  rw [e]
  rfl
theorem shOk1 : shG1.Ok := by rw [← sh1g]; exact Gr.Ok.new.deed ⟨0, 1, 0, ⟨⟨0, 0⟩, ⟨#[]⟩, ⟨1, 0⟩⟩, ⟨#[]⟩⟩
theorem shOk2 : shG2.Ok := by rw [← sh2g]; exact shOk1.deed ⟨1, 0, 0, shX1, ⟨#[]⟩⟩

theorem own_below {mI mE : Nat} {w0 a b : World} (h : Turn (Maps2 mI mE) a b) (h1 : w0.heap.size ≤ mI) (h2 : w0.heap.size ≤ mE) (hs : w0.heap.size ≤ a.heap.size) : Below w0.heap.size a b :=
  h.below hs fun k hk hm => by rcases hm with h | h <;> omega

set_option maxRecDepth 100000 in
set_option maxHeartbeats 2000000 in
theorem shown9_any (w : World) : Calls Try.prog 18 #[] w fun x w' => x = .returned (.bool true) ∧ Below w.heap.size w w' := by
  go_enter Try.func18, Try.ntmps18
  go_wp2_with fail
  refine (new_g w).mono ?_
  rintro e w1 ⟨v, rfl, ⟨gb, mI, mE, rfl, hG, h1, h2, h3⟩, hb⟩
  have hlt := hG.lt
  have hz1 : w.heap.size ≤ w1.heap.size := hb.size
  have HG1 := Lib.hid (make_g gb mI mE Gr.new ⟨1, 0⟩ 1 (w1.alloc (.cells #[.int .i64 1, .int .i64 0] 29)) (hG.new (New.alloc' _ _)) Gr.Ok.new)
  have HB1 := Lib.hid hb
  clear hG hb
  rw [sh1, sh1g] at HG1
  unfold St.v at HG1
  go_wp2_with fail
  refine (HG1.out).mono ?_
  rintro e w2 ⟨rfl, hG, hT⟩
  have hs2 := hT.size
  simp only [World.size_alloc] at hs2
  have hc2 : ∀ b o, b < w1.heap.size + 1 → w2.cell? ⟨b, o, none⟩ = (w1.alloc (.cells #[.int .i64 1, .int .i64 0] 29)).cell? ⟨b, o, none⟩ := fun b o h => (tcell hT).1 b o (by simp only [World.size_alloc]; exact h)
  have HB2 := Lib.hid ((HB1.out.alloc HB1.out.size _).trans (own_below hT h2 h3 (le_al HB1.out.size)))
  have HG2 := Lib.hid (tie_g gb mI mE shG1 shX1 w2 hG shOk1 (by decide) (by decide))
  rw [sh2, sh2g] at HG2
  unfold shX1 Ent.v at HG2
  have hlt2 : w1.heap.size < w2.heap.size := by omega
  clear hG hT
  go_wp2_with fail
  refine (HG2.out).mono ?_
  rintro e w3 ⟨rfl, hG, hT⟩
  have hs3 := hT.size
  have hc3 : ∀ b o, b < w2.heap.size → w3.cell? ⟨b, o, none⟩ = w2.cell? ⟨b, o, none⟩ := (tcell hT).1
  have HB3 := Lib.hid (HB2.out.trans (own_below hT h2 h3 HB2.out.size))
  have HG3 := Lib.hid (tie_g gb mI mE shG2 shX2 w3 hG shOk2 (by decide) (by decide))
  rw [sh3] at HG3
  unfold shX2 Ent.v at HG3
  clear hG hT
  go_wp2_with fail
  refine (HG3.out).mono ?_
  rintro e w4 ⟨rfl, hG, hT⟩
  have HB4 := Lib.hid (HB3.out.trans (own_below hT h2 h3 HB3.out.size))
  clear hG hT
  go_wp2
  go_ret
  exact ⟨rfl, HB4.out⟩

/-- what was played -/
noncomputable def played (l : List Deed) : Gr := l.foldl Gr.deed Gr.new
theorem played_snoc (l : List Deed) (d : Deed) : played (l ++ [d]) = (played l).deed d := by unfold played; rw [List.foldl_append]; rfl
theorem played_ok (l : List Deed) : (played l).Ok := by
  have : ∀ (l : List Deed) (g : Gr), g.Ok → (l.foldl Gr.deed g).Ok := by
    intro l
    induction l with
    | nil => intro g h; exact h
    | cons d l ih => intro g h; exact ih _ (h.deed d)
  exact this l _ Gr.Ok.new
theorem played_step (l : List Deed) (i : Nat) (hi : i < l.length) : played (l.take (i + 1)) = (played (l.take i)).deed l[i]! := by
  rw [List.take_succ_eq_append_getElem hi, played_snoc, getElem!_pos l i hi]
end Go.Proofs.Ytmnkaohhjhjciaa
