/-
  slices.Concat of two lists of texts; condition: some hundred elements. · path.walker's begin and follow; condition: a text within reach.
-/
import Derived.Test.YtfbjiaedfmdcfaaGreatDoorKY17
import Derived.Test.YtfbjiaedfmdcfaaGreatDoorKY18
import Derived.Laws.AppendOwnNone
/-! ## PathE -/
namespace Go.Proofs.YtfbjiaedfmdcfaaGreatDoor
open Go.RowKit Go.Shelf Go.Proofs

theorem growStr_any (n : Nat) (w : World) (hn : n ≤ 100000) :
    Calls Tryz.prog 142 #[.slice none 0 0, .int .i64 n] w fun e w' => ∃ v, e = .returned v ∧ w'.ownsRow w.heap.size 9 1 v 0 [] ∧ Below w.heap.size w w' := by
  obtain ⟨i0, hinf, hz0, hz1, hz2⟩ := info_parts infoStr
  by_cases h0 : n = 0
  · subst h0
    refine (Any8.slices_Grow_room lGrowStr none 0 0 0 w (Nat.le_refl _) (by omega) (by omega) (by omega)).mono ?_
    rintro e w' ⟨rfl, rfl⟩
    exact ⟨_, rfl, World.ownsRow_nil _ _ _ _, Below.refl _ _⟩
  · have h := Any8.slices_Grow_grow lGrowStr i0 (.string ⟨#[]⟩) hinf hz0 (by rw [hz1]; decide) none 0 0 n [] w (Nat.le_refl _) (by omega) (by rw [hz2]; omega) (by omega) (by rw [hz1]; rfl) (fun _ => rfl) (fun a h => by cases h)
    refine h.mono ?_
    rintro e w' ⟨rfl, rfl⟩
    refine ⟨_, rfl, ⟨by simp, .inr ⟨w.heap.size, _, _, rfl, Nat.le_refl _, World.alloc_heap_new w.drew _, Nat.zero_le _, ?_, ?_, by simp⟩⟩, ((Below.refl _ _).drew).alloc (Nat.le_refl _) _⟩
    · exact grownCap_le_maxLen _ _ _ _ (by unfold maxLen; omega)
    · have hg := grownCap_ge w (0 + n) 0 (lGrowStr_ren.t 25)
      rw [Nat.zero_add] at hg
      simp [Builtin.zeroCells, Value.cells]
      omega

/-- what can be appended: nil, or cells that hold the texts -/
theorem TxAt.two {w : World} {v : Value} {l : List ByteArray} (h : TxAt w v l) : (v = .slice none 0 0 ∧ l = []) ∨ ∃ ad c, v = .slice (some ad) l.length c ∧ ∀ W : World, Below w.heap.size w W → ∀ j u, (l.map Value.string)[j]? = some u → W.cell? (ad.add j) = some u := by
  rcases h with h | ⟨ad, c, rfl, rfl⟩ | ⟨b, off, c, rfl, h1, h2, h3, h4⟩
  · exact .inl h
  · exact .inr ⟨ad, c, rfl, fun W _ j u hu => by simp at hu⟩
  · exact .inr ⟨⟨b, off, none⟩, c, rfl, fun W hW j u hu => by
      rw [List.getElem?_map] at hu
      cases hj : l[j]? with
      | none => rw [hj] at hu; cases hu
      | some x =>
        rw [hj] at hu
        obtain ⟨hjl, e⟩ := List.getElem?_eq_some_iff.1 hj
        have := (hW.cell (p := ⟨b, off + j, none⟩) h3).trans (h4 j hjl)
        rw [getElem!_pos l j hjl, e] at this
        cases hu
        have e : (⟨b, off, none⟩ : Addr).add j = ⟨b, off + j, none⟩ := by cases j <;> simp [Addr.add]
        rw [e]; exact this⟩

/-- texts are appended to a row of one's own -/
theorem wpList_append_tx {ops : Array Oper} {rest : List Oper} {o : Oper} {a : Act} {Q : Exit → Act → World → Prop} {w : World} (hgd : o.guard = none) (s x : Operand)
    (ho : o.op = .call { callee := .builtin .append, args := #[s, x], argTypes := #[47, 47] }) (B : Nat) (v : Value) (k : Nat) (xs : List Value) (hs : a.eval s = v) (hown : w.ownsRow B 9 1 v k xs)
    (W0 : World) (v1 : Value) (l1 : List ByteArray) (hx : a.eval x = v1) (T : (v1 = .slice none 0 0 ∧ l1 = []) ∨ ∃ ad c, v1 = .slice (some ad) l1.length c ∧ ∀ W : World, Below W0.heap.size W0 W → ∀ j u, (l1.map Value.string)[j]? = some u → W.cell? (ad.add j) = some u)
    (hW : Below W0.heap.size W0 w) (hB : B ≤ w.heap.size) (hk : k + l1.length ≤ 100000)
    (h : ∀ v' w', w'.ownsRow B 9 1 v' (k + l1.length) (xs ++ l1.map Value.string) → Below B w w' → wpList Tryz.prog ops Q rest (a.put o.dst v') w') : wpList Tryz.prog ops Q (o :: rest) a w := by
  obtain ⟨i0, hinf, hz0, hz1, hz2⟩ := info_parts infoStr
  rcases T with ⟨rfl, rfl⟩ | ⟨ad, c, rfl, hc⟩
  · exact wpList_append_own_none hgd s x 47 ho B 9 i0 1 Tryz.underlying47 hinf v k xs hs hown hx (h v w (by simpa using hown) (Below.refl _ _))
  · refine wpList_append_own w hgd s x 47 ho B 9 i0 _ 1 16 Tryz.underlying47 hinf hz0 hz1 hz2 rfl (by decide) v k xs hs hown ad l1.length c (l1.map Value.string) hx (by simp) (hc w hW) (by simp [Value.oneCell']) (by simp only [maxLen]; omega) (by omega) hB ?_
    intro v' w' h1 h2 _
    exact h v' w' h1 ((Below.refl B w).grown h2 hB fun g e => by
      rcases hown.2 with ⟨rfl, _⟩ | ⟨g', cap, cur, rfl, hb, _⟩
      · simp [Value.ownBlock] at e
      · have : g' = g := by simpa [Value.ownBlock] using e
        omega)

set_option maxRecDepth 100000 in
set_option maxHeartbeats 2000000 in
theorem concat_any (b : Nat) (v1 v2 : Value) (l1 l2 : List ByteArray) (w : World) (h1 : w.cell? ⟨b, 0, none⟩ = some v1) (h2 : w.cell? ⟨b, 1, none⟩ = some v2) (t1 : TxAt w v1 l1) (t2 : TxAt w v2 l2) (hl : l1.length + l2.length ≤ 10000) :
    Calls Tryz.prog 101 #[.slice (some ⟨b, 0, none⟩) 2 2] w fun e w' => ∃ v, e = .returned v ∧ TxAt w' v (l1 ++ l2) ∧ FreshV w.heap.size v ∧ Below w.heap.size w w' := by
  obtain ⟨i0, hinf, hz0, hz1, hz2⟩ := info_parts infoStr
  have hbl : b < w.heap.size := block_lt_of_cell h1
  have HC : Hid (∀ W, Below w.heap.size w W → W.cell? ⟨b, 0, none⟩ = some v1 ∧ W.cell? ⟨b, 1, none⟩ = some v2) := Lib.hid fun W hW => ⟨(hW.cell (p := ⟨b, 0, none⟩) hbl).trans h1, (hW.cell (p := ⟨b, 1, none⟩) hbl).trans h2⟩
  have hw1 : IntKind.i64.wrap (l1.length : Int) = (l1.length : Int) := wrapNat l1.length (by omega)
  have hw2 : IntKind.i64.wrap ((l1.length : Int) + (l2.length : Int)) = (l1.length : Int) + (l2.length : Int) := wrapNat (l1.length + l2.length) (by omega)
  have hn1 : ¬ (l1.length : Int) < 0 := by omega
  have hn2 : ¬ (l1.length : Int) + (l2.length : Int) < 0 := by omega
  have HG : Hid (Calls Tryz.prog 142 #[.slice none 0 0, .int .i64 ((l1.length : Int) + (l2.length : Int))] w fun e w' => ∃ v, e = .returned v ∧ w'.ownsRow w.heap.size 9 1 v 0 [] ∧ Below w.heap.size w w') := Lib.hid (by
    have := growStr_any (l1.length + l2.length) w (by omega)
    rwa [Int.natCast_add] at this)
  have HL := Lib.hid hl
  have T1 := Lib.hid t1.two
  have T2 := Lib.hid t2.two
  have hs1 : ∃ a c, v1 = .slice a l1.length c := t1.sl.len
  have hs2 : ∃ a c, v2 = .slice a l2.length c := t2.sl.len
  obtain ⟨a1, c1, rfl⟩ := hs1
  obtain ⟨a2, c2, rfl⟩ := hs2
  clear t1 t2 hl i0 hinf hz0 hz1 hz2
  go_enter Tryz.func101, Tryz.ntmps101
  go_wp2
  refine wp_loop_rounds 3 ?_
  rw [rounds_succ]
  go_wp2
  rw [rounds_succ]
  go_wp2
  rw [rounds_succ]
  go_wp2_with fail
  refine HG.out.mono ?_
  rintro e w2 ⟨v2, rfl, hown2, hb2⟩
  have HR := Lib.hid hown2
  have HB := Lib.hid hb2
  obtain ⟨hc1, hc2⟩ := HC.out w2 hb2
  clear hown2 hb2
  go_wp2_with fail
  refine wp_loop_rounds 3 ?_
  rw [rounds_succ]
  go_wp2_with (at_builtin; refine wpList_append_tx rfl _ _ rfl w.heap.size _ _ _ rfl HR.out w _ l1 rfl T1.out HB.out HB.out.size (by have := HL.out; simp; omega) ?_; intro v' w3 hown' hb'; have HR3 := Lib.hid hown'; have HB3 : Hid (Below w.heap.size w w3) := Lib.hid (HB.out.trans hb'); obtain ⟨hc11, hc12⟩ := HC.out w3 HB3.out; clear hown' hb')
  rw [rounds_succ]
  go_wp2_with (at_builtin; refine wpList_append_tx rfl _ _ rfl w.heap.size _ _ _ rfl HR3.out w _ l2 rfl T2.out HB3.out HB3.out.size (by have := HL.out; simp; omega) ?_; intro v' w4 hown' hb'; have HR4 := Lib.hid hown'; have HB4 : Hid (Below w.heap.size w w4) := Lib.hid (HB3.out.trans hb'); obtain ⟨hc21, hc22⟩ := HC.out w4 HB4.out; clear hown' hb')
  rw [rounds_succ]
  go_wp2
  go_ret
  refine ⟨_, rfl, ?_, FreshV.of_own HR4.out, HB4.out⟩
  have := HR4.out
  refine TxAt.of_own (base := w.heap.size) (t := 9) ?_
  rw [List.length_append, List.map_append]
  simpa using this
end Go.Proofs.YtfbjiaedfmdcfaaGreatDoor

/-! ## PathF -/
namespace Go.Proofs.YtfbjiaedfmdcfaaGreatDoor
open Go.RowKit Go.Shelf Go.Proofs

/-- everything that was there is as it was, but for one block -/
structure Wk (kb : Nat) (w w' : World) : Prop where
  os : w'.os = w.os
  tape : w'.tape = w.tape
  output : w'.output = w.output
  size : w.heap.size ≤ w'.heap.size
  block : ∀ k, k < w.heap.size → k ≠ kb → w'.heap[k]? = w.heap[k]?
theorem Wk.refl (kb : Nat) (w : World) : Wk kb w w := ⟨rfl, rfl, rfl, Nat.le_refl _, fun _ _ _ => rfl⟩
theorem Wk.trans {kb : Nat} {a b c : World} (h : Wk kb a b) (k : Wk kb b c) : Wk kb a c :=
  ⟨k.os.trans h.os, k.tape.trans h.tape, k.output.trans h.output, Nat.le_trans h.size k.size, fun i hi hn => (k.block i (Nat.lt_of_lt_of_le hi h.size) hn).trans (h.block i hi hn)⟩
theorem Wk.of_below {kb : Nat} {w w' : World} (h : Below w.heap.size w w') : Wk kb w w' := ⟨h.os, h.tape, h.output, h.size, fun k hk _ => h.block k hk⟩
theorem Wk.set {kb : Nat} {w w' : World} (h : Wk kb w w') (i : Nat) (v : Value) : Wk kb w (w'.setCell ⟨kb, i, none⟩ v) :=
  ⟨h.os, h.tape, h.output, by simpa using h.size, fun k hk hn => (Below.heap_setCell _ _ _ k hn).trans (h.block k hk hn)⟩
theorem Wk.alloc {kb : Nat} {w w' : World} (h : Wk kb w w') (o : Obj) : Wk kb w (w'.alloc o) := h.trans (Wk.of_below ((Below.refl _ _).alloc (Nat.le_refl _) o))
theorem Wk.drew {kb : Nat} {w w' : World} (h : Wk kb w w') : Wk kb w w'.drew := h.trans (Wk.of_below (Below.refl _ _).drew)
theorem Wk.below {kb B : Nat} {w w' : World} (h : Wk kb w w') (hB : B ≤ kb) (hs : B ≤ w.heap.size) : Below B w w' := ⟨h.os, h.tape, h.output, h.size, fun k hk => h.block k (by omega) (by omega)⟩
theorem Wk.cell {kb : Nat} {w w' : World} (h : Wk kb w w') {b o : Nat} (hb : b < w.heap.size) (hn : b ≠ kb) : w'.cell? ⟨b, o, none⟩ = w.cell? ⟨b, o, none⟩ := World.cell?_of_block (h.block b hb hn)

/-- texts that lie beside the walker -/
def TxIn (kb : Nat) (w : World) (v : Value) (l : List ByteArray) : Prop := TxAt w v l ∧ ∀ ad m c, v = .slice (some ad) m c → ad.block ≠ kb
theorem TxIn.wk {kb : Nat} {w w' : World} {v : Value} {l : List ByteArray} (h : TxIn kb w v l) (k : Wk kb w w') : TxIn kb w' v l := by
  refine ⟨?_, h.2⟩
  rcases h.1 with h1 | h1 | ⟨b, off, c, rfl, h1, h2, h3, h4⟩
  · exact .inl h1
  · exact .inr (.inl h1)
  · exact .inr (.inr ⟨b, off, c, rfl, h1, h2, Nat.lt_of_lt_of_le h3 k.size, fun j hj => (k.cell h3 (h.2 _ _ _ rfl)).trans (h4 j hj)⟩)
theorem TxIn.nil (kb : Nat) (w : World) : TxIn kb w (.slice none 0 0) [] := ⟨.inl ⟨rfl, rfl⟩, fun _ _ _ h => by cases h⟩

theorem TxAt.set {w : World} {v : Value} {l : List ByteArray} (h : TxAt w v l) (b i : Nat) (u : Value) (hn : ∀ ad m c, v = .slice (some ad) m c → ad.block ≠ b) : TxAt (w.setCell ⟨b, i, none⟩ u) v l := by
  rcases h with h1 | h1 | ⟨b', off, c, rfl, h1, h2, h3, h4⟩
  · exact .inl h1
  · exact .inr (.inl h1)
  · exact .inr (.inr ⟨b', off, c, rfl, h1, h2, by simpa using h3, fun j hj => (World.cell?_setCell_far _ _ _ _ (show b ≠ b' from fun e => hn _ _ _ rfl e.symm)).trans (h4 j hj)⟩)
/-- block kb is a walker -/
def WkAt (w : World) (kb : Nat) (gb : Option Addr) (s : Spot) (v : Value) (k : Int) : Prop :=
  w.heap[kb]? = some (.cells #[.pointer gb, .int .i64 s.at_.t, .int .i64 s.at_.r, .string s.name, .int .i64 s.ino.t, .int .i64 s.ino.r, .bool s.there, v, .int .i64 k] 104 (0, 0))
theorem cell_atW {W : World} {b : Nat} {cs : Array Value} {t : TypeId} {fz : Nat × Nat} (h : W.heap[b]? = some (.cells cs t fz)) (i : Nat) (v : Value) (hv : cs[i]? = some v) : W.cell? ⟨b, i, none⟩ = some v := by
  unfold World.cell?
  simp only [h]
  simpa using hv
theorem frozen_atW {W : World} {b : Nat} {cs : Array Value} {t : TypeId} (h : W.heap[b]? = some (.cells cs t (0, 0))) (i : Nat) : W.frozen? ⟨b, i, none⟩ = false := by
  unfold World.frozen?
  simp only [h]
  simp
theorem heap_setCell_atW {W : World} {B : Nat} {cs : Array Value} {t : TypeId} {fz : Nat × Nat} (h : W.heap[B]? = some (.cells cs t fz)) (i : Nat) (v : Value) : (W.setCell ⟨B, i, none⟩ v).heap[B]? = some (.cells (cs.setIfInBounds i v) t fz) := by
  obtain ⟨hlt, hk⟩ := Array.getElem?_eq_some_iff.1 h
  show (W.heap.modify B _)[B]? = _
  rw [Array.getElem?_eq_getElem (by rw [Array.size_modify]; exact hlt), Array.getElem_modify_self, hk]
  rfl
section
variable {w : World} {kb : Nat} {gb : Option Addr} {s : Spot} {v : Value} {k : Int}
theorem WkAt.cells (h : WkAt w kb gb s v k) : w.cell? ⟨kb, 0, none⟩ = some (.pointer gb) ∧ w.cell? ⟨kb, 1, none⟩ = some (.int .i64 s.at_.t) ∧ w.cell? ⟨kb, 2, none⟩ = some (.int .i64 s.at_.r) ∧ w.cell? ⟨kb, 3, none⟩ = some (.string s.name) ∧
    w.cell? ⟨kb, 4, none⟩ = some (.int .i64 s.ino.t) ∧ w.cell? ⟨kb, 5, none⟩ = some (.int .i64 s.ino.r) ∧ w.cell? ⟨kb, 6, none⟩ = some (.bool s.there) ∧ w.cell? ⟨kb, 7, none⟩ = some v ∧ w.cell? ⟨kb, 8, none⟩ = some (.int .i64 k) :=
  ⟨cell_atW h 0 _ rfl, cell_atW h 1 _ rfl, cell_atW h 2 _ rfl, cell_atW h 3 _ rfl, cell_atW h 4 _ rfl, cell_atW h 5 _ rfl, cell_atW h 6 _ rfl, cell_atW h 7 _ rfl, cell_atW h 8 _ rfl⟩
theorem WkAt.fr (h : WkAt w kb gb s v k) : w.frozen? ⟨kb, 1, none⟩ = false ∧ w.frozen? ⟨kb, 2, none⟩ = false ∧ w.frozen? ⟨kb, 3, none⟩ = false ∧ w.frozen? ⟨kb, 4, none⟩ = false ∧ w.frozen? ⟨kb, 5, none⟩ = false ∧ w.frozen? ⟨kb, 6, none⟩ = false ∧ w.frozen? ⟨kb, 7, none⟩ = false ∧ w.frozen? ⟨kb, 8, none⟩ = false :=
  ⟨frozen_atW h 1, frozen_atW h 2, frozen_atW h 3, frozen_atW h 4, frozen_atW h 5, frozen_atW h 6, frozen_atW h 7, frozen_atW h 8⟩
theorem WkAt.lt (h : WkAt w kb gb s v k) : kb < w.heap.size := (Array.getElem?_eq_some_iff.1 h).1
theorem WkAt.below (h : WkAt w kb gb s v k) {w' : World} (hb : Below w.heap.size w w') : WkAt w' kb gb s v k := (hb.block kb h.lt).trans h
theorem WkAt.other (h : WkAt w kb gb s v k) {b : Nat} (hn : kb ≠ b) (i : Nat) (u : Value) : WkAt (w.setCell ⟨b, i, none⟩ u) kb gb s v k := (Below.heap_setCell _ _ _ kb hn).trans h
/-- a new spot -/
theorem WkAt.spot (h : WkAt w kb gb s v k) (s' : Spot) : WkAt ((((((w.setCell ⟨kb, 1, none⟩ (.int .i64 s'.at_.t)).setCell ⟨kb, 2, none⟩ (.int .i64 s'.at_.r)).setCell ⟨kb, 3, none⟩ (.string s'.name)).setCell ⟨kb, 4, none⟩ (.int .i64 s'.ino.t)).setCell ⟨kb, 5, none⟩ (.int .i64 s'.ino.r)).setCell ⟨kb, 6, none⟩ (.bool s'.there)) kb gb s' v k :=
  heap_setCell_atW (heap_setCell_atW (heap_setCell_atW (heap_setCell_atW (heap_setCell_atW (heap_setCell_atW h 1 _) 2 _) 3 _) 4 _) 5 _) 6 _
theorem WkAt.rest (h : WkAt w kb gb s v k) (v' : Value) : WkAt (w.setCell ⟨kb, 7, none⟩ v') kb gb s v' k := heap_setCell_atW h 7 _
theorem WkAt.links (h : WkAt w kb gb s v k) (k' : Int) : WkAt (w.setCell ⟨kb, 8, none⟩ (.int .i64 k')) kb gb s v k' := heap_setCell_atW h 8 _
theorem Wk.spot (kb : Nat) (w : World) (a b c d e f : Value) : Wk kb w ((((((w.setCell ⟨kb, 1, none⟩ a).setCell ⟨kb, 2, none⟩ b).setCell ⟨kb, 3, none⟩ c).setCell ⟨kb, 4, none⟩ d).setCell ⟨kb, 5, none⟩ e).setCell ⟨kb, 6, none⟩ f) :=
  ((((((Wk.refl kb w).set 1 a).set 2 b).set 3 c).set 4 d).set 5 e).set 6 f
end

set_option maxRecDepth 100000 in
set_option maxHeartbeats 2000000 in
theorem begin_any (kb : Nat) (gb : Option Addr) (s : Spot) (v : Value) (r : List ByteArray) (k : Int) (at_ : St) (p : ByteArray) (w : World) (hps : p.size ≤ 1000) (hw : WkAt w kb gb s v k) (hr : TxIn kb w v r) (hl : r.length ≤ 8000) :
    Calls Tryz.prog 59 #[.pointer (some ⟨kb, 0, none⟩), at_.v, .string p] w fun e w' => e = .returned (.int .i64 (splitWhy p)) ∧ Wk kb w w' ∧
      (splitWhy p ≠ 0 → WkAt w' kb gb s v k) ∧ (splitWhy p = 0 → ∃ v', WkAt w' kb gb (startAt at_ p) v' k ∧ TxIn kb w' v' (partsOf p ++ r)) := by
  have HSP := Lib.hid (fun W => split_any p W hps)
  have HPF := Lib.hid (fun W => hasPrefix_any p W)
  have HLP := partsOf_len p
  have HW := Lib.hid hw
  have HR := Lib.hid hr
  have hlt := hw.lt
  unfold St.v
  clear hw hr
  by_cases hz : splitWhy p = 0
  case neg =>
    have hzb : (splitWhy p != 0) = true := by simpa using hz
    have HX : Hid (∀ w', WkAt w' kb gb s v k → ((splitWhy p ≠ 0 → WkAt w' kb gb s v k) ∧ (splitWhy p = 0 → ∃ v', WkAt w' kb gb (startAt at_ p) v' k ∧ TxIn kb w' v' (partsOf p ++ r)))) := Lib.hid fun w' h => ⟨fun _ => h, fun e => absurd e hz⟩
    generalize splitWhy p = z at *
    clear hz
    go_enter Tryz.func59, Tryz.ntmps59
    go_wp2_with (go_at_call 34; refine (HSP.out _).mono ?_; rintro e w2 ⟨v2, rfl, _, _, hb2⟩; have HB2 := Lib.hid hb2; clear hb2)
    go_ret
    have hb := ((Below.refl _ w).alloc (Nat.le_refl _) (.cells #[.int .i64 at_.t, .int .i64 at_.r] 26)).trans (HB2.out.mono (by simp))
    exact ⟨rfl, Wk.of_below hb, HX.out _ (HW.out.below hb)⟩
  case pos =>
    have HPZ : Hid (splitParts p = partsOf p) := Lib.hid (splitParts_is hz)
    rw [HPZ.out] at HSP
    rw [hz] at HSP ⊢
    have HCON : Hid (∀ (sp : Spot) (W3 : World) (b : Nat) (v2 vr : Value), b = W3.heap.size → WkAt W3 kb gb sp vr k → vr = v → Wk kb w W3 → TxAt W3 v2 (partsOf p) → FreshV (w.heap.size + 1) v2 →
        Calls Tryz.prog 101 #[.slice (some ⟨b, 0, none⟩) 2 2] (W3.alloc (.cells #[v2, vr] 47)) fun e w' => ∃ v', e = .returned v' ∧ WkAt w' kb gb sp vr k ∧ Wk kb w w' ∧ TxIn kb w' v' (partsOf p ++ r)) := Lib.hid fun sp W3 b v2 vr hb h1 hv h2 h3 h4 => by
      subst hb hv
      have hn := Below.refl W3.heap.size W3
      have ha := hn.alloc (Nat.le_refl _) (.cells #[v2, vr] 47)
      refine (concat_any W3.heap.size v2 vr (partsOf p) r (W3.alloc (.cells #[v2, vr] 47)) (cell_atW (World.alloc_heap_new W3 _) 0 _ rfl) (cell_atW (World.alloc_heap_new W3 _) 1 _ rfl) (h3.below ha) ((HR.out.wk h2).1.below ha) (by omega)).mono ?_
      rintro e w' ⟨v', rfl, a1, a2, a3⟩
      have hb' := ha.trans (a3.mono (by simp))
      exact ⟨v', rfl, h1.below hb', h2.trans (Wk.of_below hb'), a1, fun ad m c e => by have h5 := a2 ad m c e; rw [World.size_alloc] at h5; have h6 := h1.lt; omega⟩
    obtain ⟨va, vc, rfl⟩ := HR.out.1.sl.len
    have hst : ∀ b, isRooted p = b → startAt at_ p = ⟨⟨0, 0⟩, ⟨#[]⟩, if b then ⟨0, 0⟩ else at_, true⟩ := fun b h => by unfold startAt; rw [h]
    cases hrt : isRooted p with
    | true =>
      rw [hrt] at HPF
      have HST := Lib.hid (hst _ hrt)
      clear hrt hst hz
      rw [HST.out]
      go_enter Tryz.func59, Tryz.ntmps59
      go_wp2_with (first
        | (go_at_call 34; refine (HSP.out _).mono ?_; rintro e w2 ⟨v2, rfl, ht2, hf2, hb2⟩; have HT2 := Lib.hid ht2; rw [World.size_alloc] at hf2; have HF2 := Lib.hid hf2; obtain ⟨a2, c2, rfl⟩ := ht2.sl.len; have HB2 : Hid (Below w.heap.size w w2) := Lib.hid (((Below.refl _ w).alloc (Nat.le_refl _) _).trans (hb2.mono (by simp))); obtain ⟨k0, k1, k2, k3, k4, k5, k6, k7, k8⟩ := (HW.out.below HB2.out).cells; obtain ⟨f1, f2, f3, f4, f5, f6, f7, f8⟩ := (HW.out.below HB2.out).fr; have hbx : w2.heap[w.heap.size]? = some (.cells #[.int .i64 at_.t, .int .i64 at_.r] 26 (0, 0)) := (hb2.block w.heap.size (by simp)).trans (World.alloc_heap_new w _); have bx0 := cell_atW hbx 0 _ rfl; have bx1 := cell_atW hbx 1 _ rfl; have bf0 := frozen_atW hbx 0; have bf1 := frozen_atW hbx 1; have hs2 := hb2.size; rw [World.size_alloc] at hs2; clear hb2 ht2 hf2 hbx)
        | (go_at_call 100; refine (HPF.out _).mono ?_; rintro e w' ⟨rfl, rfl⟩))
      have hn1 : ∀ ad m c, Value.slice a2 (partsOf p).length c2 = .slice (some ad) m c → ad.block ≠ w.heap.size := fun ad m c e => by have := HF2.out ad m c e; omega
      have hn2 : ∀ ad m c, Value.slice a2 (partsOf p).length c2 = .slice (some ad) m c → ad.block ≠ kb := fun ad m c e => by have := HF2.out ad m c e; omega
      refine (HCON.out ⟨⟨0, 0⟩, ⟨#[]⟩, ⟨0, 0⟩, true⟩ _ _ _ _ (by simp) ((((HW.out.below HB2.out).other (Nat.ne_of_lt hlt) 0 _).other (Nat.ne_of_lt hlt) 1 _).spot ⟨⟨0, 0⟩, ⟨#[]⟩, ⟨0, 0⟩, true⟩) rfl ((Wk.of_below ((HB2.out.setCell (p := ⟨w.heap.size, 0, none⟩) (Nat.le_refl _) _).setCell (p := ⟨w.heap.size, 1, none⟩) (Nat.le_refl _) _)).trans (Wk.spot _ _ _ _ _ _ _ _)) ((((((((HT2.out.set w.heap.size 0 _ hn1).set w.heap.size 1 _ hn1).set kb 1 _ hn2).set kb 2 _ hn2).set kb 3 _ hn2).set kb 4 _ hn2).set kb 5 _ hn2).set kb 6 _ hn2) HF2.out).mono ?_
      rintro e w6 ⟨v6, rfl, hk6, hw6, ht6⟩
      have HK6 := Lib.hid hk6
      have HW6 := Lib.hid hw6
      have HT6 := Lib.hid ht6
      obtain ⟨a6, c6, rfl⟩ := ht6.1.sl.len
      rw [List.length_append] at HT6
      obtain ⟨g0, g1, g2, g3, g4, g5, g6, g7, g8⟩ := hk6.cells
      obtain ⟨e1, e2, e3, e4, e5, e6, e7, e8⟩ := hk6.fr
      clear hk6 hw6 ht6 hn1 hn2
      go_wp2
      go_ret
      exact ⟨rfl, HW6.out.set 7 _, ⟨_, HK6.out.rest _, HT6.out.wk ((Wk.refl kb w6).set 7 _)⟩⟩
    | false =>
      rw [hrt] at HPF
      have HST := Lib.hid (hst _ hrt)
      clear hrt hst hz
      rw [HST.out]
      go_enter Tryz.func59, Tryz.ntmps59
      go_wp2_with (first
        | (go_at_call 34; refine (HSP.out _).mono ?_; rintro e w2 ⟨v2, rfl, ht2, hf2, hb2⟩; have HT2 := Lib.hid ht2; rw [World.size_alloc] at hf2; have HF2 := Lib.hid hf2; obtain ⟨a2, c2, rfl⟩ := ht2.sl.len; have HB2 : Hid (Below w.heap.size w w2) := Lib.hid (((Below.refl _ w).alloc (Nat.le_refl _) _).trans (hb2.mono (by simp))); obtain ⟨k0, k1, k2, k3, k4, k5, k6, k7, k8⟩ := (HW.out.below HB2.out).cells; obtain ⟨f1, f2, f3, f4, f5, f6, f7, f8⟩ := (HW.out.below HB2.out).fr; have hbx : w2.heap[w.heap.size]? = some (.cells #[.int .i64 at_.t, .int .i64 at_.r] 26 (0, 0)) := (hb2.block w.heap.size (by simp)).trans (World.alloc_heap_new w _); have bx0 := cell_atW hbx 0 _ rfl; have bx1 := cell_atW hbx 1 _ rfl; have bf0 := frozen_atW hbx 0; have bf1 := frozen_atW hbx 1; have hs2 := hb2.size; rw [World.size_alloc] at hs2; clear hb2 ht2 hf2 hbx)
        | (go_at_call 100; refine (HPF.out _).mono ?_; rintro e w' ⟨rfl, rfl⟩))
      have hn1 : ∀ ad m c, Value.slice a2 (partsOf p).length c2 = .slice (some ad) m c → ad.block ≠ w.heap.size := fun ad m c e => by have := HF2.out ad m c e; omega
      have hn2 : ∀ ad m c, Value.slice a2 (partsOf p).length c2 = .slice (some ad) m c → ad.block ≠ kb := fun ad m c e => by have := HF2.out ad m c e; omega
      refine (HCON.out ⟨⟨0, 0⟩, ⟨#[]⟩, at_, true⟩ _ _ _ _ (by simp) (((HW.out.below HB2.out)).spot ⟨⟨0, 0⟩, ⟨#[]⟩, at_, true⟩) rfl ((Wk.of_below HB2.out).trans (Wk.spot _ _ _ _ _ _ _ _)) (((((((HT2.out).set kb 1 _ hn2).set kb 2 _ hn2).set kb 3 _ hn2).set kb 4 _ hn2).set kb 5 _ hn2).set kb 6 _ hn2) HF2.out).mono ?_
      rintro e w6 ⟨v6, rfl, hk6, hw6, ht6⟩
      have HK6 := Lib.hid hk6
      have HW6 := Lib.hid hw6
      have HT6 := Lib.hid ht6
      obtain ⟨a6, c6, rfl⟩ := ht6.1.sl.len
      rw [List.length_append] at HT6
      obtain ⟨g0, g1, g2, g3, g4, g5, g6, g7, g8⟩ := hk6.cells
      obtain ⟨e1, e2, e3, e4, e5, e6, e7, e8⟩ := hk6.fr
      clear hk6 hw6 ht6 hn1 hn2
      go_wp2
      go_ret
      exact ⟨rfl, HW6.out.set 7 _, ⟨_, HK6.out.rest _, HT6.out.wk ((Wk.refl kb w6).set 7 _)⟩⟩

/-- what following a link answers -/
def folErr (k : Int) (p : ByteArray) : Int := if 40 < k + 1 then 9 else splitWhy p
/-- behind a link -/
def Followed (kb : Nat) (gb : Option Addr) (s : Spot) (v : Value) (r : List ByteArray) (k : Int) (p : ByteArray) (w : World) (e : Ending) (w' : World) : Prop :=
  e = .returned (.int .i64 (folErr k p)) ∧ Wk kb w w' ∧
    ((folErr k p) ≠ 0 → WkAt w' kb gb s v (k + 1)) ∧ ((folErr k p) = 0 → ∃ v', WkAt w' kb gb (startAt s.at_ p) v' (k + 1) ∧ TxIn kb w' v' (partsOf p ++ r))

set_option maxRecDepth 100000 in
set_option maxHeartbeats 2000000 in
/-- a link is followed -/
theorem follow_any (kb : Nat) (gb : Option Addr) (s : Spot) (v : Value) (r : List ByteArray) (k : Int) (p : ByteArray) (w : World) (hps : p.size ≤ 1000) (hw : WkAt w kb gb s v k) (hr : TxIn kb w v r) (hl : r.length ≤ 8000) (hk : 0 ≤ k ∧ k ≤ 1000) :
    Calls Tryz.prog 61 #[.pointer (some ⟨kb, 0, none⟩), .string p] w (Followed kb gb s v r k p w) := by
  have hw1 : IntKind.i64.wrap (k + 1) = k + 1 := wrapInt _ (by omega) (by omega)
  have HL := Lib.hid (hw.links (k + 1))
  have HBG := Lib.hid (begin_any kb gb s v r (k + 1) s.at_ p _ hps (hw.links (k + 1)) (hr.wk ((Wk.refl kb w).set 8 _)) hl)
  obtain ⟨c0, c1, c2, c3, c4, c5, c6, c7, c8⟩ := hw.cells
  obtain ⟨f1, f2, f3, f4, f5, f6, f7, f8⟩ := hw.fr
  unfold St.v at HBG
  clear hw hr
  by_cases hz : 40 < k + 1
  · go_enter Tryz.func61, Tryz.ntmps61
    go_wp2
    go_ret
    unfold Followed folErr
    rw [if_pos hz]
    exact ⟨rfl, (Wk.refl kb w).set 8 _, fun _ => HL.out, fun h => by cases h⟩
  · go_enter Tryz.func61, Tryz.ntmps61
    go_wp2_with (go_at_call 59; refine HBG.out.mono ?_; rintro e w2 ⟨rfl, hw2, h1, h2⟩; have HW2 := Lib.hid hw2; have H1 := Lib.hid h1; have H2 := Lib.hid h2; clear hw2 h1 h2)
    go_ret
    unfold Followed folErr
    rw [if_neg (Int.not_lt.2 hz)]
    exact ⟨rfl, ((Wk.refl kb w).set 8 _).trans HW2.out, H1.out, H2.out⟩
end Go.Proofs.YtfbjiaedfmdcfaaGreatDoor
