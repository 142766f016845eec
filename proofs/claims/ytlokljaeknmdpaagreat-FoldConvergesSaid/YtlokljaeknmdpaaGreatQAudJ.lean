/-
  audit.Fine, thimblelaw10's few and shown, thimbleref10.Ints; conditions: those of audit.Check.
-/
import Derived.Test.YtlokljaeknmdpaaGreatQAudI
namespace Go.Proofs.YtlokljaeknmdpaaGreat
open Go.RowKit Go.Shelf

noncomputable def fineB (n : List Ino) (e : List Ent) : Bool := ((faults n e).length : Int) == 0

theorem ownsRow_len {W : World} {base : Nat} {t : TypeId} {size : Nat} {v : Value} {k : Nat} {xs : List Value} (h : W.ownsRow base t size v k xs) : ∃ a c, v = .slice a k c := by
  rcases h.2 with ⟨rfl, rfl⟩ | ⟨g, cap, cur, rfl, _⟩
  · exact ⟨none, 0, rfl⟩
  · exact ⟨_, _, rfl⟩

set_option maxRecDepth 100000 in
set_option maxHeartbeats 1000000 in
theorem fine_any (vn ve : Value) (n : List Ino) (e : List Ent) (w : World) (hn : SlAt w 6 Ino.cells vn n) (he : SlAt w 5 Ent.cells ve e) (h1 : n.length ≤ 1000) (h2 : e.length ≤ 1000) (hnm : ∀ x ∈ e, x.name.size ≤ maxLen) :
    Calls Tryz.prog 52 #[vn, ve] w fun x w' => x = .returned (.bool (fineB n e)) ∧ Below w.heap.size w w' := by
  have hc := check_any vn ve n e w hn he h1 h2 hnm
  unfold fineB
  generalize faults n e = l at hc
  clear hn he hnm
  go_enter Tryz.func52, Tryz.ntmps52
  go_wp2_with (go_at_call 21; refine hc.mono ?_; rintro x w' ⟨v, rfl, hr, hb⟩; obtain ⟨a, c, rfl⟩ := ownsRow_len hr; have HB := Lib.hid hb; clear hb hr)
  go_ret
  exact ⟨rfl, HB.out⟩

def rootI : Ino := ⟨⟨0, 0⟩, 1, 0, 0, ⟨#[]⟩⟩
def oneI : Ino := ⟨⟨1, 0⟩, 2, 0, 0, ⟨#[]⟩⟩

/-- thimbleref10.Ints at two lists of two numbers -/
theorem ints2_any (v : Value) (x y : Int) (b c : Nat) (w : World) (B : Nat) (hv : w.ownsRow B 3 1 v 2 [.int .i64 x, .int .i64 y]) (h0 : w.cell? ⟨b, 0, none⟩ = some (.int .i64 x)) (h1 : w.cell? ⟨b, 1, none⟩ = some (.int .i64 y)) :
    Calls Tryz.prog 61 #[v, .slice (some ⟨b, 0, none⟩) 2 c] w fun z w' => z = .returned (.bool true) ∧ Below w.heap.size w w' := by
  obtain ⟨g, cap, cur, rfl, hg, hh, h2, h3, h4, h5⟩ : ∃ g cap cur, v = .slice (some ⟨g, 0, none⟩) 2 cap ∧ B ≤ g ∧ w.heap[g]? = some (.cells cur 3 (0, 0)) ∧ 2 ≤ cap ∧ cap ≤ maxLen ∧ cur.size = cap * 1 ∧ cur.toList.take (2 * 1) = [.int .i64 x, .int .i64 y] := by
    rcases hv.2 with ⟨_, h⟩ | h
    · cases h
    · exact h
  have c0 : cur[0]? = some (.int .i64 x) := by
    have := congrArg (fun l => l[0]?) h5
    simpa [List.getElem?_take] using this
  have c1 : cur[1]? = some (.int .i64 y) := by
    have := congrArg (fun l => l[1]?) h5
    simpa [List.getElem?_take] using this
  have g0 := cell_at hh 0 _ c0
  have g1 := cell_at hh 1 _ c1
  have hgl := (Array.getElem?_eq_some_iff.1 hh).1
  clear hv hh h5 c0 c1
  go_enter Tryz.func61, Tryz.ntmps61
  go_wp2
  refine wp_loop_rounds 3 ?_
  rw [rounds_succ]
  go_wp2
  go_region
  go_wp2
  rw [rounds_succ]
  go_wp2
  go_region
  go_wp2
  rw [rounds_succ]
  go_wp2
  go_ret
  exact ⟨rfl, (Below.refl _ w).drew.drew⟩

theorem reached_none {n : List Ino} {id : St} (h : Reached n [] id) : id = ⟨0, 0⟩ := by
  cases h with
  | root _ => rfl
  | step x hx _ _ _ => cases hx

theorem apart_root : apartB [rootI] [] = true := by
  unfold apartB
  rw [List.all_eq_true]
  intro i hi
  simp only [List.mem_singleton] at hi
  subst hi
  exact (@decide_eq_true_iff _ (_)).2 (.root (by decide))

theorem apart_two : apartB [rootI, oneI] [] = false := by
  unfold apartB
  rw [List.all_eq_false]
  refine ⟨oneI, by simp, fun h => ?_⟩
  have := reached_none ((@decide_eq_true_iff _ (_)).1 h)
  revert this; decide

theorem fine_root : fineB [rootI] [] = true := by
  unfold fineB faults checksOf
  rw [apart_root]
  decide
theorem faults_two : faults [rootI, oneI] [] = [5, 6] := by
  unfold faults checksOf
  rw [apart_two]
  decide

set_option maxRecDepth 100000 in
set_option maxHeartbeats 1000000 in
theorem shown_any (w : World) : Calls Tryz.prog 17 #[] w fun x w' => x = .returned (.bool true) ∧ Below w.heap.size w w' := by
  have HF : Hid (∀ (W : World) (b c : Nat), 1 ≤ c → c ≤ maxLen → W.heap[b]? = some (.cells #[.int .i64 0, .int .i64 0, .int .i64 1, .int .i64 0, .int .i64 0, .string ⟨#[]⟩] 62 (0, 0)) → Calls Tryz.prog 52 #[.slice (some ⟨b, 0, none⟩) 1 c, .slice none 0 0] W fun x w' => x = .returned (.bool true) ∧ Below W.heap.size W w') := Lib.hid fun W b c h1 h2 hh => by
    have := fine_any (.slice (some ⟨b, 0, none⟩) 1 c) (.slice none 0 0) [rootI] [] W (.inr ⟨b, 0, c, rfl, h1, h2, (Array.getElem?_eq_some_iff.1 hh).1, fun j hj i u hu => ?_⟩) (.inl ⟨none, 0, rfl, rfl⟩) (by simp) (by simp) (by simp)
    · rw [fine_root] at this; exact this
    · have : j = 0 := by simp at hj; exact hj
      subst this
      simp only [Nat.zero_mul, Nat.zero_add]
      refine cell_at hh i u ?_
      have hi : i < 6 := by have := (List.getElem?_eq_some_iff.1 hu).1; exact this
      rw [← hu]
      have : i = 0 ∨ i = 1 ∨ i = 2 ∨ i = 3 ∨ i = 4 ∨ i = 5 := by omega
      rcases this with rfl | rfl | rfl | rfl | rfl | rfl <;> rfl
  have HC : Hid (∀ (W : World) (b c : Nat), 2 ≤ c → c ≤ maxLen → W.heap[b]? = some (.cells #[.int .i64 0, .int .i64 0, .int .i64 1, .int .i64 0, .int .i64 0, .string ⟨#[]⟩, .int .i64 1, .int .i64 0, .int .i64 2, .int .i64 0, .int .i64 0, .string ⟨#[]⟩] 62 (0, 0)) → Calls Tryz.prog 21 #[.slice (some ⟨b, 0, none⟩) 2 c, .slice none 0 0] W fun x w' => ∃ v, x = .returned v ∧ w'.ownsRow W.heap.size 3 1 v 2 [.int .i64 5, .int .i64 6] ∧ Below W.heap.size W w') := Lib.hid fun W b c h1 h2 hh => by
    have := check_any (.slice (some ⟨b, 0, none⟩) 2 c) (.slice none 0 0) [rootI, oneI] [] W (.inr ⟨b, 0, c, rfl, h1, h2, (Array.getElem?_eq_some_iff.1 hh).1, fun j hj i u hu => ?_⟩) (.inl ⟨none, 0, rfl, rfl⟩) (by simp) (by simp) (by simp)
    · rw [faults_two] at this; exact this
    · have : j = 0 ∨ j = 1 := by simp at hj; omega
      rcases this with rfl | rfl
      · simp only [Nat.zero_mul, Nat.zero_add]
        refine cell_at hh i u ?_
        have hi : i < 6 := by have := (List.getElem?_eq_some_iff.1 hu).1; exact this
        rw [← hu]
        have : i = 0 ∨ i = 1 ∨ i = 2 ∨ i = 3 ∨ i = 4 ∨ i = 5 := by omega
        rcases this with rfl | rfl | rfl | rfl | rfl | rfl <;> rfl
      · refine cell_at hh (0 + 1 * 6 + i) u ?_
        have hi : i < 6 := by have := (List.getElem?_eq_some_iff.1 hu).1; exact this
        rw [← hu]
        have : i = 0 ∨ i = 1 ∨ i = 2 ∨ i = 3 ∨ i = 4 ∨ i = 5 := by omega
        rcases this with rfl | rfl | rfl | rfl | rfl | rfl <;> rfl
  have H3 : Hid ((((w.alloc (.cells #[.int .i64 0, .int .i64 0, .int .i64 1, .int .i64 0, .int .i64 0, .string ⟨#[]⟩] 62)).alloc (.cells #[.int .i64 1, .int .i64 0, .int .i64 2, .int .i64 0, .int .i64 0, .string ⟨#[]⟩] 62)).alloc (.cells #[.int .i64 0, .int .i64 0, .int .i64 1, .int .i64 0, .int .i64 0, .string ⟨#[]⟩] 62)).heap[w.heap.size + 1 + 1]? = some (.cells #[.int .i64 0, .int .i64 0, .int .i64 1, .int .i64 0, .int .i64 0, .string ⟨#[]⟩] 62 (0, 0))) := Lib.hid (by
    have := World.alloc_heap_new ((w.alloc (.cells #[.int .i64 0, .int .i64 0, .int .i64 1, .int .i64 0, .int .i64 0, .string ⟨#[]⟩] 62)).alloc (.cells #[.int .i64 1, .int .i64 0, .int .i64 2, .int .i64 0, .int .i64 0, .string ⟨#[]⟩] 62)) (.cells #[.int .i64 0, .int .i64 0, .int .i64 1, .int .i64 0, .int .i64 0, .string ⟨#[]⟩] 62)
    rw [World.size_alloc, World.size_alloc] at this
    exact this)
  have HB0 : Hid (Below w.heap.size w (((w.alloc (.cells #[.int .i64 0, .int .i64 0, .int .i64 1, .int .i64 0, .int .i64 0, .string ⟨#[]⟩] 62)).alloc (.cells #[.int .i64 1, .int .i64 0, .int .i64 2, .int .i64 0, .int .i64 0, .string ⟨#[]⟩] 62)).alloc (.cells #[.int .i64 0, .int .i64 0, .int .i64 1, .int .i64 0, .int .i64 0, .string ⟨#[]⟩] 62))) := Lib.hid ((((Below.refl _ w).alloc (Nat.le_refl _) _).alloc (by simp) _).alloc (by simp only [World.size_alloc]; omega) _)
  go_enter Tryz.func17, Tryz.ntmps17
  go_wp2_with (first
    | (go_at_call 52; refine (HF.out _ _ 1 (by omega) (by decide) H3.out).mono ?_; rintro x w' ⟨rfl, hb⟩; have HB := Lib.hid (HB0.out.trans (hb.mono HB0.out.size)); have c00 : w'.cell? ⟨w.heap.size, 0, none⟩ = some (.int .i64 0) := (hb.cell (p := ⟨w.heap.size, 0, none⟩) (by simp only [World.size_alloc]; omega)).trans (Lib.cell?_alloc_some _ (Lib.cell?_alloc_some _ (cell_new _ _ rfl _ _ 0 _ rfl))); have c01 : w'.cell? ⟨w.heap.size, 1, none⟩ = some (.int .i64 0) := (hb.cell (p := ⟨w.heap.size, 1, none⟩) (by simp only [World.size_alloc]; omega)).trans (Lib.cell?_alloc_some _ (Lib.cell?_alloc_some _ (cell_new _ _ rfl _ _ 1 _ rfl))); have c02 : w'.cell? ⟨w.heap.size, 2, none⟩ = some (.int .i64 1) := (hb.cell (p := ⟨w.heap.size, 2, none⟩) (by simp only [World.size_alloc]; omega)).trans (Lib.cell?_alloc_some _ (Lib.cell?_alloc_some _ (cell_new _ _ rfl _ _ 2 _ rfl))); have c03 : w'.cell? ⟨w.heap.size, 3, none⟩ = some (.int .i64 0) := (hb.cell (p := ⟨w.heap.size, 3, none⟩) (by simp only [World.size_alloc]; omega)).trans (Lib.cell?_alloc_some _ (Lib.cell?_alloc_some _ (cell_new _ _ rfl _ _ 3 _ rfl))); have c04 : w'.cell? ⟨w.heap.size, 4, none⟩ = some (.int .i64 0) := (hb.cell (p := ⟨w.heap.size, 4, none⟩) (by simp only [World.size_alloc]; omega)).trans (Lib.cell?_alloc_some _ (Lib.cell?_alloc_some _ (cell_new _ _ rfl _ _ 4 _ rfl))); have c05 : w'.cell? ⟨w.heap.size, 5, none⟩ = some (.string ⟨#[]⟩) := (hb.cell (p := ⟨w.heap.size, 5, none⟩) (by simp only [World.size_alloc]; omega)).trans (Lib.cell?_alloc_some _ (Lib.cell?_alloc_some _ (cell_new _ _ rfl _ _ 5 _ rfl))); have c10 : w'.cell? ⟨w.heap.size + 1, 0, none⟩ = some (.int .i64 1) := (hb.cell (p := ⟨w.heap.size + 1, 0, none⟩) (by simp only [World.size_alloc]; omega)).trans (Lib.cell?_alloc_some _ (cell_new _ _ (by simp) _ _ 0 _ rfl)); have c11 : w'.cell? ⟨w.heap.size + 1, 1, none⟩ = some (.int .i64 0) := (hb.cell (p := ⟨w.heap.size + 1, 1, none⟩) (by simp only [World.size_alloc]; omega)).trans (Lib.cell?_alloc_some _ (cell_new _ _ (by simp) _ _ 1 _ rfl)); have c12 : w'.cell? ⟨w.heap.size + 1, 2, none⟩ = some (.int .i64 2) := (hb.cell (p := ⟨w.heap.size + 1, 2, none⟩) (by simp only [World.size_alloc]; omega)).trans (Lib.cell?_alloc_some _ (cell_new _ _ (by simp) _ _ 2 _ rfl)); have c13 : w'.cell? ⟨w.heap.size + 1, 3, none⟩ = some (.int .i64 0) := (hb.cell (p := ⟨w.heap.size + 1, 3, none⟩) (by simp only [World.size_alloc]; omega)).trans (Lib.cell?_alloc_some _ (cell_new _ _ (by simp) _ _ 3 _ rfl)); have c14 : w'.cell? ⟨w.heap.size + 1, 4, none⟩ = some (.int .i64 0) := (hb.cell (p := ⟨w.heap.size + 1, 4, none⟩) (by simp only [World.size_alloc]; omega)).trans (Lib.cell?_alloc_some _ (cell_new _ _ (by simp) _ _ 4 _ rfl)); have c15 : w'.cell? ⟨w.heap.size + 1, 5, none⟩ = some (.string ⟨#[]⟩) := (hb.cell (p := ⟨w.heap.size + 1, 5, none⟩) (by simp only [World.size_alloc]; omega)).trans (Lib.cell?_alloc_some _ (cell_new _ _ (by simp) _ _ 5 _ rfl)); clear hb)
    | (go_at_call 21; refine (HC.out _ _ 2 (by omega) (by decide) (World.alloc_heap_new _ _)).mono ?_; rintro x w2 ⟨v, rfl, hr, hb⟩; have HR := Lib.hid hr; have HB2 := Lib.hid ((HB.out.alloc HB.out.size _).trans (hb.mono (by have := HB.out.size; simp only [World.size_alloc]; omega))); clear hr hb)
    | (go_at_call 61; refine (ints2_any v 5 6 _ _ _ _ (HR.out.alloc _) (cell_new w2 _ rfl _ _ 0 _ rfl) (cell_new w2 _ rfl _ _ 1 _ rfl)).mono ?_; rintro x w3 ⟨rfl, hb⟩; have HB3 := Lib.hid ((HB2.out.alloc HB2.out.size _).trans (hb.mono (by have := HB2.out.size; simp only [World.size_alloc]; omega))); clear hb))
  go_ret
  exact ⟨rfl, HB3.out⟩
end Go.Proofs.YtlokljaeknmdpaaGreat
