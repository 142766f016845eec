/-
  slices.Reverse and strings.Join of a row of texts, what a directory's home is made of; conditions: some hundred texts, short ones.
-/
import Derived.Test.YtfbjiaedfmdcfaaGreatDoorKY19
import Derived.Test.YtfbjiaedfmdcfaaGreatDoorKY26
import Derived.Test.YtfbjiaedfmdcfaaGreatDoorKY5
import Derived.Shelf.Slices.Cells
import Derived.Lib.RowBridge
/-! ## PathK -/
namespace Go.Proofs.YtfbjiaedfmdcfaaGreatDoor
open Go.RowKit Go.Shelf Go.Proofs

theorem xJoin : Builder.Extra Tryz.prog lJoin_ren where
  sizeBuilder := by kernel_rfl
  liesBuilder := by kernel_rfl
  t5 := Tryz.underlying5
  a5 := Tryz.isAgg5
  z5 := Tryz.sizeOf5
  v5 := Tryz.zeroValue5
  infoByte := by kernel_rfl
  cellsByte := by kernel_rfl
  sizeByte := by kernel_rfl
  neB5 := by decide

theorem belowSets {B g : Nat} (hg : B ≤ g) {w : World} : ∀ (vs : List Value) (o : Nat) (W : World), Below B w W → Below B w (W.setCells g o vs) ∧ (W.setCells g o vs).heap.size = W.heap.size
  | [], _, W, h => ⟨h, rfl⟩
  | v :: r, o, W, h => by
    obtain ⟨a, b⟩ := belowSets hg r (o + 1) (W.setCell ⟨g, o, none⟩ v) (h.setCell (p := ⟨g, o, none⟩) hg v)
    exact ⟨a, b.trans (by simp)⟩
theorem rev_strs (l : List ByteArray) : (Lib.strsOf (fun i => l[i]!) l.length).reverse.map (fun x => (⟨x.toArray⟩ : ByteArray)) = l.reverse := by
  rw [List.map_reverse]
  congr 1
  unfold Lib.strsOf
  rw [List.map_map]
  apply List.ext_getElem
  · simp
  · intro i h1 h2
    have h3 : i < l.length := by simpa using h2
    simp [h3]

set_option maxRecDepth 100000 in
set_option maxHeartbeats 1000000 in
theorem rev_none (w : World) : Calls Tryz.prog 73 #[.slice none 0 0] w fun e w' => e = .returned (.tuple #[]) ∧ Below w.heap.size w w' := by
  go_enter Tryz.func73, Tryz.ntmps73
  go_wp2
  refine wp_loop_rounds 1 ?_
  rw [rounds_succ]
  go_wp2
  exact bodyPost_end (by first | rfl | kernel_rfl) rfl ⟨rfl, Below.refl _ _⟩

theorem rev_any (B : Nat) (v : Value) (l : List ByteArray) (w : World) (h : w.ownsRow B 9 1 v l.length (l.map Value.string)) (hB : B ≤ w.heap.size) (hl : l.length ≤ 100000) :
    Calls Tryz.prog 73 #[v] w fun e w' => e = .returned (.tuple #[]) ∧ TxAt w' v l.reverse ∧ Below B w w' := by
  rcases h.2 with ⟨rfl, h0⟩ | ⟨g, cap, cur, rfl, hge, hk, hc1, hc2, hc3, hc4⟩
  · have hl0 := List.length_eq_zero_iff.1 h0
    subst hl0
    refine (rev_none w).mono ?_
    rintro e w' ⟨rfl, hb⟩
    exact ⟨rfl, .inl ⟨rfl, rfl⟩, hb.mono hB⟩
  · have hcell : ∀ i, i < l.length → w.cell? ⟨g, 0 + i, none⟩ = some (.string l[i]!) := fun i hi => by
      rw [Nat.zero_add, h.cellAt i (by simpa using hi), List.getElem?_map, List.getElem?_eq_getElem hi, getElem!_pos l i hi]
      rfl
    have hfz : ∀ i, i < l.length → w.frozen? ⟨g, 0 + i, none⟩ = false := fun i _ => by rw [Nat.zero_add]; exact h.frozenAt i
    have hglt := (Array.getElem?_eq_some_iff.1 hk).1
    refine (Any.slices_Reverse_string_cells lRev g 0 l.length cap (fun i => l[i]!) w (by omega) hcell hfz).mono ?_
    rintro e w' ⟨rfl, q, rfl⟩
    have hlen : (Lib.strsOf (fun i => l[i]!) l.length).reverse.length = l.length := by rw [List.length_reverse, Lib.strsOf_length]
    have hcs := Lib.cells_after_strs (q := q) (Nat.le_refl _) hlen hcell
    obtain ⟨hb, hs⟩ := belowSets hge ((Lib.strsOf (fun i => l[i]!) l.length).reverse.map encStr) 0 (w.drewN q) (show Below B w (w.drewN q) from ⟨rfl, rfl, rfl, Nat.le_refl _, fun _ _ => rfl⟩)
    refine ⟨rfl, .inr (.inr ⟨g, 0, cap, by rw [List.length_reverse], by rw [List.length_reverse]; exact hc1, hc2, ?_, fun j hj => ?_⟩), ?_⟩
    · exact Nat.lt_of_lt_of_le hglt (Nat.le_of_eq hs.symm)
    · rw [List.length_reverse] at hj
      rw [hcs j hj]
      congr 2
      unfold Lib.strAfter
      rw [if_pos (by rw [hlen]; exact hj), ← rev_strs, getElem!_pos _ j (by rw [List.length_map, hlen]; exact hj), List.getElem_map, List.getD_eq_getElem?_getD, List.getElem?_eq_getElem (by rw [hlen]; exact hj)]
      rfl
    · exact hb

/-- texts between slashes -/
theorem join_any (v : Value) (l : List ByteArray) (w : World) (h : TxAt w v l) (hl : l.length ≤ 100000) (hj : (Lib.join (l.map (·.data.toList)) [47]).length ≤ 140737488355328) :
    Calls Tryz.prog 74 #[v, .string ⟨#[47]⟩] w fun e w' => e = .returned (.string (bsOf (Lib.join (l.map (·.data.toList)) [47]))) ∧ Below w.heap.size w w' := by
  rcases h with ⟨rfl, rfl⟩ | ⟨ad, c, rfl, rfl⟩ | ⟨b, off, c, rfl, h1, h2, h3, h4⟩
  · refine (Any.strings_Join_none lJoin xJoin none 0 ⟨#[47]⟩ w).mono ?_
    rintro e w' ⟨rfl, rfl⟩
    exact ⟨rfl, Below.refl _ _⟩
  · refine (Any.strings_Join_none lJoin xJoin (some ad) c ⟨#[47]⟩ w).mono ?_
    rintro e w' ⟨rfl, rfl⟩
    exact ⟨rfl, Below.refl _ _⟩
  · exact Any.strings_Join lJoin xJoin b off c l ⟨#[47]⟩ w (fun j x hx => by
      obtain ⟨hjl, e⟩ := List.getElem?_eq_some_iff.1 hx
      rw [h4 j hjl, getElem!_pos l j hjl, e]) h3 (by omega) h1 hj

/-! ### plainly -/
def pick (id : St) (z : List Ent) : List ByteArray := (z.filter fun e => decide (e.ino = id)).map (·.name)
theorem pick_snoc (id : St) (z : List Ent) (e : Ent) : pick id (z ++ [e]) = pick id z ++ if e.ino = id then [e.name] else [] := by
  unfold pick
  rw [List.filter_append, List.map_append]
  by_cases h : e.ino = id <;> simp [h]
theorem Gr.Ok.ups_pick {g : Gr} (h : g.Ok) {id p : St} (hu : g.Under ⟨0, 0⟩ id) (h0 : id ≠ ⟨0, 0⟩) (hp : g.parent id = some p) : g.ups id = pick id (g.list p) ++ g.ups p := by
  obtain ⟨hd, x, hx, h1, h2⟩ := Gr.parent_some hp
  have hpd := h.parent_some_get (a := id)
  rw [hp] at hpd
  have hup := hu.up h0 hp
  have hpos := h.depth_pos (Gr.isDir_some hd)
  unfold Gr.ups
  obtain ⟨n, hn⟩ : ∃ n, g.depth id = n + 1 := ⟨g.depth id - 1, by omega⟩
  rw [hn, Gr.upNames, if_neg h0, hp, Option.getD_some]
  have hdl := h.depth_up hp
  rw [h.upNames_fuel n (g.depth p) p hup hpd.2 (by omega) (Nat.le_refl _)]
  rfl
theorem Gr.Ok.pick_one {g : Gr} (h : g.Ok) {id p : St} (hp : g.parent id = some p) : (pick id (g.list p)).length ≤ 1 := by
  obtain ⟨hd, _⟩ := Gr.parent_some hp
  have hone := h.dir_one hd
  unfold Gr.count at hone
  unfold pick Gr.list
  rw [List.length_map, List.filter_filter]
  have hc : ∀ e : Ent, (decide (e.ino = id) && decide (e.at_ = p)) = true → decide (e.ino = id) = true := fun e he => (Bool.and_eq_true _ _ ▸ he).1
  exact Nat.le_trans (filter_le fun e _ he => hc e he) hone
theorem join_len (l : List ByteArray) (h : ∀ x ∈ l, x.size ≤ 8) : (Lib.join (l.map (·.data.toList)) [47]).length ≤ 9 * l.length := by
  cases l with
  | nil => simp [Lib.join_nil]
  | cons a l =>
    rw [List.map_cons, Lib.join_cons, List.length_append]
    have h1 := h a List.mem_cons_self
    rw [size_data] at h1
    have h2 : ∀ l : List ByteArray, (∀ x ∈ l, x.size ≤ 8) → (Lib.joinTail [47] (l.map (·.data.toList))).length ≤ 9 * l.length := by
      intro l
      induction l with
      | nil => intro _; simp [Lib.joinTail]
      | cons b l ih =>
        intro hb
        have h3 := hb b List.mem_cons_self
        have h4 := ih fun x hx => hb x (List.mem_cons_of_mem _ hx)
        rw [size_data] at h3
        simp only [Lib.joinTail] at h4 ⊢
        simp only [List.map_cons, List.flatten_cons, List.length_append, List.length_cons, List.length_nil] at h4 ⊢
        omega
    have h5 := h2 l fun x hx => h x (List.mem_cons_of_mem _ hx)
    simp only [List.length_cons]
    omega
theorem home_bytes (l : List ByteArray) : (⟨#[47]⟩ : ByteArray) ++ bsOf (Lib.join (l.map (·.data.toList)) [47]) = homeText l := by
  unfold homeText
  apply ByteArray.ext
  simp [bsOf, ByteArray.data_append]
end Go.Proofs.YtfbjiaedfmdcfaaGreatDoor
