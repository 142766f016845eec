/-
  apply's small questions: when, first, kind, dir, place, entry, attr; condition: the graph is in order.
-/
import Derived.Test.YtfbjiaedfmdcfaaGreatDoorKY26
import Derived.Test.YtfbjiaedfmdcfaaGreatDoorKY32
import Derived.Test.YtfbjiaedfmdcfaaGreatDoorKY33
import Derived.Deep.RegionHeld3
/-! ## ApA -/
namespace Go.Proofs.YtfbjiaedfmdcfaaGreatDoor
open Go.RowKit Go.Shelf Go.Proofs

theorem when_any (b : Bool) (e : Int) (w : World) : Calls Tryz.prog 173 #[.bool b, .int .i64 e] w fun x w' => x = .returned (.int .i64 (whenB b e)) ∧ w = w' := by
  cases b with
  | true =>
    go_enter Tryz.func173, Tryz.ntmps173
    go_wp2
    go_ret
    exact ⟨rfl, rfl⟩
  | false =>
    go_enter Tryz.func173, Tryz.ntmps173
    go_wp2
    go_ret
    exact ⟨rfl, rfl⟩

def intL (i : Int) : List Value := [.int .i64 i]
theorem firstOf_at : ∀ (l : List Int) (k : Nat), k < l.length → (∀ j, j < k → l[j]! = 0) → l[k]! ≠ 0 → firstOf l = l[k]!
  | [], k, hk, _, _ => absurd hk (Nat.not_lt_zero _)
  | a :: l, 0, _, _, h => by
    unfold firstOf
    have e : (a :: l)[0]! = a := rfl
    rw [e] at h ⊢
    rw [if_neg h]
  | a :: l, k + 1, hk, hz, h => by
    unfold firstOf
    have e : (a :: l)[k + 1]! = l[k]! := by simp
    have ha : a = 0 := hz 0 (by omega)
    rw [if_pos ha, e]
    rw [e] at h
    refine firstOf_at l k (by simpa using hk) (fun j hj => ?_) h
    have := hz (j + 1) (by omega)
    simpa using this
theorem firstOf_none : ∀ (l : List Int), (∀ j, j < l.length → l[j]! = 0) → firstOf l = 0
  | [], _ => rfl
  | a :: l, hz => by
    unfold firstOf
    have ha : a = 0 := hz 0 (by simp)
    rw [if_pos ha]
    refine firstOf_none l fun j hj => ?_
    have := hz (j + 1) (by simpa using hj)
    simpa using this

set_option maxRecDepth 100000 in
set_option maxHeartbeats 400000 in
theorem first_any (v : Value) (l : List Int) (w : World) (h : SlAt w 1 intL v l) (hl : l.length ≤ 100) :
    Calls Tryz.prog 170 #[v] w fun x w' => x = .returned (.int .i64 (firstOf l)) ∧ w = w' := by
  have HS := Lib.hid h
  obtain ⟨a, c, rfl⟩ := h.len
  clear h
  go_enter Tryz.func170, Tryz.ntmps170
  go_wp2
  go_loop [7] (fun s7 => ∃ k : Nat, k ≤ l.length ∧ s7 = .int .i64 k ∧ Aside (∀ j, j < k → l[j]! = 0)) (fun s7 => l.length - (intOf s7).toNat)
  case atStart => exact ⟨0, Nat.zero_le _, rfl, (show Aside _ from fun j hj => absurd hj (Nat.not_lt_zero _))⟩
  case round =>
    obtain ⟨k, hk, rfl, hA⟩ := hrel
    by_cases hlt : k < l.length
    · have hlti : (k : Int) < (l.length : Int) := by omega
      have hk0 : (0 : Int) ≤ (k : Int) := by omega
      have hwk : IntKind.i64.wrap ((k : Int) + 1) = (k : Int) + 1 := wrapNat (k + 1) (by omega)
      obtain ⟨b, off, hna, hcells⟩ : ∃ b off, a = some ⟨b, off, none⟩ ∧ ∀ j, j < l.length → ∀ i u, (intL l[j]!)[i]? = some u → w.cell? ⟨b, off + j * 1 + i, none⟩ = some u := by
        rcases HS.out with ⟨_, _, _, h0⟩ | ⟨b, off, c', h0, _, _, _, h4⟩
        · rw [h0] at hlt; exact absurd hlt (Nat.not_lt_zero _)
        · simp at h0; exact ⟨b, off, h0.1, h4⟩
      subst hna
      have x0 : w.cell? ⟨b, off + k, none⟩ = some (.int .i64 l[k]!) := by simpa using hcells k hlt 0 _ rfl
      clear hcells
      by_cases hz : l[k]! = 0
      · rw [hz] at x0
        have HZ := Lib.hid hz
        clear hz
        go_wp2
        go_round
        case rel => exact ⟨k + 1, by omega, by first | rfl | go_num, (show Aside _ from fun j hj => by
          by_cases e : j = k
          · subst e; exact HZ.out
          · exact hA.out j (by omega))⟩
        case measure => simp [intOf]; omega
      · have hne : (l[k]! != 0) = true := by simpa using hz
        have HF := Lib.hid (firstOf_at l k hlt hA.out hz)
        clear hz
        generalize l[k]! = x at *
        go_wp2
        go_ret
        exact ⟨by rw [HF.out]; rfl, rfl⟩
    · have hke : k = l.length := by omega
      have HF := Lib.hid (firstOf_none l (by rw [← hke]; exact hA.out))
      have hlti : ¬ (k : Int) < (l.length : Int) := by omega
      clear hke hlt
      go_wp2
      go_ret
      exact ⟨by rw [HF.out]; rfl, rfl⟩

theorem slAt_ints {w : World} {b : Nat} {t : TypeId} (l : List Int) (h : w.heap[b]? = some (.cells (l.map (Value.int .i64 ·)).toArray t (0, 0))) (hl : l.length ≤ 100) : SlAt w 1 intL (.slice (some ⟨b, 0, none⟩) l.length l.length) l := by
  refine .inr ⟨b, 0, l.length, rfl, Nat.le_refl _, by unfold maxLen; omega, (Array.getElem?_eq_some_iff.1 h).1, fun j hj i u hu => ?_⟩
  have hi : i = 0 := by
    have := (List.getElem?_eq_some_iff.1 hu).1
    simp [intL] at this; exact this
  subst hi
  refine cell_at h (0 + j * 1 + 0) u ?_
  have e : u = .int .i64 l[j]! := by simpa [intL] using hu.symm
  rw [e]
  simp only [Nat.mul_one, Nat.zero_add, Nat.add_zero]
  rw [List.getElem?_toArray, List.getElem?_map, List.getElem?_eq_getElem hj, getElem!_pos l j hj]; rfl
theorem first_new (l : List Int) (w : World) (hl : l.length ≤ 100) :
    Calls Tryz.prog 170 #[.slice (some ⟨w.heap.size, 0, none⟩) l.length l.length] (w.alloc (.cells (l.map (Value.int .i64 ·)).toArray 31)) fun x w' => x = .returned (.int .i64 (firstOf l)) ∧ (w.alloc (.cells (l.map (Value.int .i64 ·)).toArray 31)) = w' :=
  first_any _ l _ (slAt_ints l (World.alloc_heap_new w _) hl) hl
theorem first2_new (a b : Int) (w : World) :
    Calls Tryz.prog 170 #[.slice (some ⟨w.heap.size, 0, none⟩) 2 2] (w.alloc (.cells #[.int .i64 a, .int .i64 b] 31)) fun x w' => x = .returned (.int .i64 (firstOf [a, b])) ∧ (w.alloc (.cells #[.int .i64 a, .int .i64 b] 31)) = w' := first_new [a, b] w (by simp)
theorem first3_new (a b c : Int) (w : World) :
    Calls Tryz.prog 170 #[.slice (some ⟨w.heap.size, 0, none⟩) 3 3] (w.alloc (.cells #[.int .i64 a, .int .i64 b, .int .i64 c] 31)) fun x w' => x = .returned (.int .i64 (firstOf [a, b, c])) ∧ (w.alloc (.cells #[.int .i64 a, .int .i64 b, .int .i64 c] 31)) = w' := first_new [a, b, c] w (by simp)
theorem first4_new (a b c d : Int) (w : World) :
    Calls Tryz.prog 170 #[.slice (some ⟨w.heap.size, 0, none⟩) 4 4] (w.alloc (.cells #[.int .i64 a, .int .i64 b, .int .i64 c, .int .i64 d] 31)) fun x w' => x = .returned (.int .i64 (firstOf [a, b, c, d])) ∧ (w.alloc (.cells #[.int .i64 a, .int .i64 b, .int .i64 c, .int .i64 d] 31)) = w' := first_new [a, b, c, d] w (by simp)
theorem first5_new (a b c d e : Int) (w : World) :
    Calls Tryz.prog 170 #[.slice (some ⟨w.heap.size, 0, none⟩) 5 5] (w.alloc (.cells #[.int .i64 a, .int .i64 b, .int .i64 c, .int .i64 d, .int .i64 e] 31)) fun x w' => x = .returned (.int .i64 (firstOf [a, b, c, d, e])) ∧ (w.alloc (.cells #[.int .i64 a, .int .i64 b, .int .i64 c, .int .i64 d, .int .i64 e] 31)) = w' := first_new [a, b, c, d, e] w (by simp)

theorem ret_int' {k : IntKind} {a b : Int} (h : a = b) : Ending.returned (.int k a) = .returned (.int k b) := by rw [h]

set_option maxRecDepth 100000 in
set_option maxHeartbeats 400000 in
theorem kind_any (gb : Nat) (g : Gr) (o : Op) (id : St) (w : World) (h : Reads gb g w) :
    Calls Tryz.prog 175 #[(.agg #[.pointer (some ⟨gb, 0, none⟩), .int .i64 o.stamp.t, .int .i64 o.stamp.r, .int .i64 o.kind, .int .i64 o.at_.t, .int .i64 o.at_.r, .int .i64 o.ino.t, .int .i64 o.ino.r, .int .i64 o.to.t, .int .i64 o.to.r, .string o.name, .string o.new, .int .i64 o.off, .string o.data]), (.agg #[.int .i64 id.t, .int .i64 id.r])] w fun x w' => x = .returned (.int .i64 (g.kindOf' id)) ∧ Below w.heap.size w w' := by
  have HB0 : Hid (Below w.heap.size w w) := Lib.hid (Below.refl _ _)
  have HG := Lib.hid (fun W (hW : Below w.heap.size w W) => h.get id (g.got id) (g.get id).isSome W rfl rfl hW)
  unfold Gr.kindOf'
  generalize g.got id = i at HG ⊢
  generalize (g.get id).isSome = b at HG
  clear h
  go_enter Tryz.func175, Tryz.ntmps175
  go_wp2_with fail
  refine (HG.out _ (by first | exact HB0.out | exact HB0.out.alloc HB0.out.size _ | exact (HB0.out.alloc HB0.out.size _).alloc (le_al HB0.out.size) _ | exact ((HB0.out.alloc HB0.out.size _).alloc (le_al HB0.out.size) _).alloc (le_al (le_al HB0.out.size)) _)).mono ?_
  rintro e w1 ⟨rfl, hb1⟩
  obtain ⟨hc1, hf1⟩ := bcell hb1
  have hs1 := hb1.size
  try simp only [World.size_alloc] at hs1
  try simp only [size_setCell'] at hs1
  try have le1_0 : w.heap.size ≤ w1.heap.size := (by omega)
  try have lt1_0 : w.heap.size < w1.heap.size := (by omega)
  have HB1 : Hid (Below w.heap.size w w1) := Lib.hid (Below.trans (by first | exact HB0.out | exact HB0.out.alloc HB0.out.size _ | exact (HB0.out.alloc HB0.out.size _).alloc (le_al HB0.out.size) _ | exact ((HB0.out.alloc HB0.out.size _).alloc (le_al HB0.out.size) _).alloc (le_al (le_al HB0.out.size)) _) (hb1.mono (by (try simp only [World.size_alloc]); (try simp only [size_setCell']); omega)))
  have HN1 := Lib.hid hb1
  clear hb1 hs1
  go_wp2
  go_ret
  exact ⟨rfl, (by first | exact HB1.out | exact HB1.out.alloc HB1.out.size _ | exact (HB1.out.alloc HB1.out.size _).alloc (le_al HB1.out.size) _ | exact ((HB1.out.alloc HB1.out.size _).alloc (le_al HB1.out.size) _).alloc (le_al (le_al HB1.out.size)) _)⟩

set_option maxRecDepth 100000 in
set_option maxHeartbeats 400000 in
theorem dir_any (gb : Nat) (g : Gr) (o : Op) (id : St) (w : World) (h : Reads gb g w) :
    Calls Tryz.prog 171 #[(.agg #[.pointer (some ⟨gb, 0, none⟩), .int .i64 o.stamp.t, .int .i64 o.stamp.r, .int .i64 o.kind, .int .i64 o.at_.t, .int .i64 o.at_.r, .int .i64 o.ino.t, .int .i64 o.ino.r, .int .i64 o.to.t, .int .i64 o.to.r, .string o.name, .string o.new, .int .i64 o.off, .string o.data]), (.agg #[.int .i64 id.t, .int .i64 id.r])] w fun x w' => x = .returned (.int .i64 (g.dirWhy id)) ∧ Below w.heap.size w w' := by
  have HB0 : Hid (Below w.heap.size w w) := Lib.hid (Below.refl _ _)
  have HG := Lib.hid (fun W (hW : Below w.heap.size w W) => kind_any gb g o id W (h.below hW))
  unfold Gr.dirWhy
  generalize g.kindOf' id = k at HG ⊢
  clear h
  go_enter Tryz.func171, Tryz.ntmps171
  go_wp2_with fail
  refine (HG.out _ (by first | exact HB0.out | exact HB0.out.alloc HB0.out.size _ | exact (HB0.out.alloc HB0.out.size _).alloc (le_al HB0.out.size) _ | exact ((HB0.out.alloc HB0.out.size _).alloc (le_al HB0.out.size) _).alloc (le_al (le_al HB0.out.size)) _)).mono ?_
  rintro e w1 ⟨rfl, hb1⟩
  obtain ⟨hc1, hf1⟩ := bcell hb1
  have hs1 := hb1.size
  try simp only [World.size_alloc] at hs1
  try simp only [size_setCell'] at hs1
  try have le1_0 : w.heap.size ≤ w1.heap.size := (by omega)
  try have lt1_0 : w.heap.size < w1.heap.size := (by omega)
  have HB1 : Hid (Below w.heap.size w w1) := Lib.hid (Below.trans (by first | exact HB0.out | exact HB0.out.alloc HB0.out.size _ | exact (HB0.out.alloc HB0.out.size _).alloc (le_al HB0.out.size) _ | exact ((HB0.out.alloc HB0.out.size _).alloc (le_al HB0.out.size) _).alloc (le_al (le_al HB0.out.size)) _) (hb1.mono (by (try simp only [World.size_alloc]); (try simp only [size_setCell']); omega)))
  have HN1 := Lib.hid hb1
  clear hb1 hs1
  go_wp2_with (first
    | (go_at_call 173; refine (when_any _ _ _).mono ?_; rintro x w' ⟨rfl, rfl⟩)
    | (go_at_call 170; refine (first2_new _ _ _).mono ?_; rintro x w' ⟨rfl, rfl⟩))
  go_ret
  exact ⟨rfl, (by first | exact HB1.out | exact HB1.out.alloc HB1.out.size _ | exact (HB1.out.alloc HB1.out.size _).alloc (le_al HB1.out.size) _ | exact ((HB1.out.alloc HB1.out.size _).alloc (le_al HB1.out.size) _).alloc (le_al (le_al HB1.out.size)) _)⟩

set_option maxRecDepth 100000 in
set_option maxHeartbeats 400000 in
theorem place_any (gb : Nat) (g : Gr) (o : Op) (w : World) (h : Reads gb g w) :
    Calls Tryz.prog 172 #[(.agg #[.pointer (some ⟨gb, 0, none⟩), .int .i64 o.stamp.t, .int .i64 o.stamp.r, .int .i64 o.kind, .int .i64 o.at_.t, .int .i64 o.at_.r, .int .i64 o.ino.t, .int .i64 o.ino.r, .int .i64 o.to.t, .int .i64 o.to.r, .string o.name, .string o.new, .int .i64 o.off, .string o.data])] w fun x w' => x = .returned (.int .i64 (g.placeWhy o)) ∧ Below w.heap.size w w' := by
  have HB0 : Hid (Below w.heap.size w w) := Lib.hid (Below.refl _ _)
  have HG := Lib.hid (fun W (hW : Below w.heap.size w W) => h.look ⟨o.at_, o.name⟩ _ _ W rfl rfl hW)
  unfold Gr.placeWhy
  generalize (g.look ⟨o.at_, o.name⟩).isSome = b at HG ⊢
  generalize (g.look ⟨o.at_, o.name⟩).getD ⟨0, 0⟩ = i at HG
  clear h
  go_enter Tryz.func172, Tryz.ntmps172
  go_wp2_with fail
  refine (HG.out _ (by first | exact HB0.out | exact HB0.out.alloc HB0.out.size _ | exact (HB0.out.alloc HB0.out.size _).alloc (le_al HB0.out.size) _ | exact ((HB0.out.alloc HB0.out.size _).alloc (le_al HB0.out.size) _).alloc (le_al (le_al HB0.out.size)) _)).mono ?_
  rintro e w1 ⟨rfl, hb1⟩
  obtain ⟨hc1, hf1⟩ := bcell hb1
  have hs1 := hb1.size
  try simp only [World.size_alloc] at hs1
  try simp only [size_setCell'] at hs1
  try have le1_0 : w.heap.size ≤ w1.heap.size := (by omega)
  try have lt1_0 : w.heap.size < w1.heap.size := (by omega)
  have HB1 : Hid (Below w.heap.size w w1) := Lib.hid (Below.trans (by first | exact HB0.out | exact HB0.out.alloc HB0.out.size _ | exact (HB0.out.alloc HB0.out.size _).alloc (le_al HB0.out.size) _ | exact ((HB0.out.alloc HB0.out.size _).alloc (le_al HB0.out.size) _).alloc (le_al (le_al HB0.out.size)) _) (hb1.mono (by (try simp only [World.size_alloc]); (try simp only [size_setCell']); omega)))
  have HN1 := Lib.hid hb1
  clear hb1 hs1
  go_wp2_with (go_at_call 173; refine (when_any _ _ _).mono ?_; rintro x w' ⟨rfl, rfl⟩)
  go_ret
  exact ⟨rfl, (by first | exact HB1.out | exact HB1.out.alloc HB1.out.size _ | exact (HB1.out.alloc HB1.out.size _).alloc (le_al HB1.out.size) _ | exact ((HB1.out.alloc HB1.out.size _).alloc (le_al HB1.out.size) _).alloc (le_al (le_al HB1.out.size)) _)⟩

set_option maxRecDepth 100000 in
set_option maxHeartbeats 400000 in
theorem attr_any (gb : Nat) (g : Gr) (o : Op) (w : World) (h : Reads gb g w) :
    Calls Tryz.prog 138 #[(.agg #[.pointer (some ⟨gb, 0, none⟩), .int .i64 o.stamp.t, .int .i64 o.stamp.r, .int .i64 o.kind, .int .i64 o.at_.t, .int .i64 o.at_.r, .int .i64 o.ino.t, .int .i64 o.ino.r, .int .i64 o.to.t, .int .i64 o.to.r, .string o.name, .string o.new, .int .i64 o.off, .string o.data])] w fun x w' => x = .returned (.int .i64 (g.attrWhy o)) ∧ Below w.heap.size w w' := by
  have HB0 : Hid (Below w.heap.size w w) := Lib.hid (Below.refl _ _)
  have HG := Lib.hid (fun W (hW : Below w.heap.size w W) => kind_any gb g o o.ino W (h.below hW))
  unfold Gr.attrWhy
  generalize g.kindOf' o.ino = k at HG ⊢
  clear h
  go_enter Tryz.func138, Tryz.ntmps138
  go_wp2_with fail
  refine (HG.out _ (by first | exact HB0.out | exact HB0.out.alloc HB0.out.size _ | exact (HB0.out.alloc HB0.out.size _).alloc (le_al HB0.out.size) _ | exact ((HB0.out.alloc HB0.out.size _).alloc (le_al HB0.out.size) _).alloc (le_al (le_al HB0.out.size)) _)).mono ?_
  rintro e w1 ⟨rfl, hb1⟩
  obtain ⟨hc1, hf1⟩ := bcell hb1
  have hs1 := hb1.size
  try simp only [World.size_alloc] at hs1
  try simp only [size_setCell'] at hs1
  try have le1_0 : w.heap.size ≤ w1.heap.size := (by omega)
  try have lt1_0 : w.heap.size < w1.heap.size := (by omega)
  have HB1 : Hid (Below w.heap.size w w1) := Lib.hid (Below.trans (by first | exact HB0.out | exact HB0.out.alloc HB0.out.size _ | exact (HB0.out.alloc HB0.out.size _).alloc (le_al HB0.out.size) _ | exact ((HB0.out.alloc HB0.out.size _).alloc (le_al HB0.out.size) _).alloc (le_al (le_al HB0.out.size)) _) (hb1.mono (by (try simp only [World.size_alloc]); (try simp only [size_setCell']); omega)))
  have HN1 := Lib.hid hb1
  clear hb1 hs1
  go_wp2_with (go_at_call 173; refine (when_any _ _ _).mono ?_; rintro x w' ⟨rfl, rfl⟩)
  go_ret
  exact ⟨rfl, (by first | exact HB1.out | exact HB1.out.alloc HB1.out.size _ | exact (HB1.out.alloc HB1.out.size _).alloc (le_al HB1.out.size) _ | exact ((HB1.out.alloc HB1.out.size _).alloc (le_al HB1.out.size) _).alloc (le_al (le_al HB1.out.size)) _)⟩
end Go.Proofs.YtfbjiaedfmdcfaaGreatDoor
