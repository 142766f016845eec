/-
  sort.Search, slices.Clone and slices.Insert at operations; fold.Put: condition: the operations rise by their stamps. · Operations, plainly: what they make is fine; no condition.
-/
import Derived.Test.YtfbjiaedfmdcfaaGreatDoorKY30
import Derived.Test.YtfbjiaedfmdcfaaGreatDoorKY4
import Derived.Test.YtfbjiaedfmdcfaaGreatDoorKY16
import Derived.Test.YtfbjiaedfmdcfaaGreatDoorKY31
import Derived.Test.YtfbjiaedfmdcfaaGreatDoorKY32
import Derived.Deep.RegionHeld3
import Derived.Deep.LoopGhost
import Derived.Test.YtfbjiaedfmdcfaaGreatDoorKY13
/-! ## Put -/
namespace Go.Proofs.YtfbjiaedfmdcfaaGreatDoor
open Go.RowKit Go.Proofs

theorem grownBy_below {B : Nat} {w w' : World} {row : Option Nat} (h : w.grownBy w' row) (hB : B ≤ w.heap.size) (hr : ∀ k, row = some k → B ≤ k) : Below B w w' :=
  ⟨h.os, h.tape, h.output, h.size, fun k hk => h.block k (by omega) (fun e => by have := hr k e.symm; omega)⟩

theorem insert_any (B : Nat) (v : Value) (i vb : Nat) (l : List Op) (o : Op) (w : World) (h : w.ownsRow B 42 13 v l.length (l.flatMap Op.cells)) (hB : B ≤ w.heap.size) (hl : l.length ≤ 1000) (hi : i ≤ l.length)
    (hvb : w.heap[vb]? = some (.cells o.cells.toArray 42 (0, 0))) (hne : v.ownBlock ≠ some vb) :
    Calls Tryz.prog 178 #[v, .int .i64 i, .slice (some ⟨vb, 0, none⟩) 1 1] w fun e w' =>
      ∃ v', e = .returned v' ∧ w'.ownsRow B 42 13 v' (l.length + 1) ((l.take i ++ o :: l.drop i).flatMap Op.cells) ∧ Below B w w' := by
  have hge : ∀ k, v.ownBlock = some k → B ≤ k := fun k e => rowGe h e
  by_cases hie : i = l.length
  · subst hie
    rw [List.take_length, List.drop_length]
    exact (insert_end B v vb l o w h hB hl hvb).mono fun e w' ⟨v', h1, h2, h3⟩ => ⟨v', h1, h2, grownBy_below h3 hB hge⟩
  · rcases h.2 with ⟨_, h0⟩ | ⟨g, cap, cur, rfl, hg, hh, h1, h2, h3, h4⟩
    · omega
    · have hvg : vb ≠ g := fun e => hne (by rw [e]; rfl)
      have hlen : ∀ (x : List Op), (x.flatMap Op.cells).length = x.length * 13 := fun x => flat_len (f := Op.cells) (k := 13) (fun _ => rfl) x
      have hll : (l.take i ++ o :: l.drop i).length = l.length + 1 := by simp; omega
      by_cases hroom : l.length + 1 ≤ cap
      · refine (insert_shift g cap l.length i vb cur l o w rfl (by omega) hroom h2 hh h3 h4 hvb hvg).mono ?_
        rintro e w' ⟨rfl, ⟨c2, k1, k2, k3⟩, k4⟩
        exact ⟨_, rfl, ⟨by rw [hlen, hll], .inr ⟨g, cap, c2, rfl, hg, k1, hroom, h2, by rw [k2, h3], k3⟩⟩, grownBy_below k4 hB fun k e => by cases e; exact hg⟩
      · refine (insert_grow g cap l.length i vb cur l o w rfl hl (by omega) h1 (by omega) hh h3 h4 hvb).mono ?_
        rintro e w' ⟨G, rfl, ⟨k0, k0'⟩, ⟨c2, k1, k2, k3⟩, k4⟩
        exact ⟨_, rfl, ⟨by rw [hlen, hll], .inr ⟨w.heap.size, G, c2, rfl, hB, k1, k0, k0', k2, k3⟩⟩, grownBy_below k4 hB fun k e => by cases e⟩

set_option maxRecDepth 100000 in
set_option maxHeartbeats 4000000 in
theorem clone_any (v : Value) (l : List Op) (w : World) (h : SlAt w 13 Op.cells v l) (hl : l.length ≤ 1000) :
    Calls Tryz.prog 179 #[v] w fun e w' => ∃ v', e = .returned v' ∧ w'.ownsRow w.heap.size 42 13 v' l.length (l.flatMap Op.cells) ∧ Below w.heap.size w w' := by
  obtain ⟨i0, hinf, hz0, hz1, hz2⟩ := info_parts infoOp
  have hlen : (l.flatMap Op.cells).length = l.length * 13 := flat_len (f := Op.cells) (k := 13) (fun _ => rfl) l
  have hone : ∀ v ∈ l.flatMap Op.cells, v.oneCell' = true := fun v hv => by
    obtain ⟨x, _, hx⟩ := List.mem_flatMap.1 hv
    exact Op.one x v hx
  have hsrc : ∀ a c, v = .slice (some a) l.length c → ∀ (W : World), (∀ x y, w.cell? x = some y → W.cell? x = some y) → ∀ j u, (l.flatMap Op.cells)[j]? = some u → W.cell? (a.add j) = some u := fun a c hv W hW j u hj => by
    rcases h with ⟨_, _, _, h0⟩ | ⟨b, off, c', h0, _, _, _, h4⟩
    · rw [h0] at hj; simp at hj
    · rw [hv] at h0
      simp at h0
      obtain ⟨rfl, _⟩ := h0
      rw [Addr.add_lit]
      have hjl : j < l.length * 13 := by rw [← hlen]; exact (List.getElem?_eq_some_iff.1 hj).1
      have hq : j / 13 < l.length := by omega
      have := hW _ _ (h4 (j / 13) hq (j % 13) u (by
        have e := flatMap_at Op.cells 13 (fun _ => rfl) l (j / 13) (j % 13) hq (by omega)
        rw [show j / 13 * 13 + j % 13 = j by omega] at e
        rw [← e]; exact hj))
      rw [← this]
      congr 2; omega
  obtain ⟨a, c, rfl⟩ := h.len
  have hnone : a = none → l = [] := fun e => by
    rcases h with ⟨_, _, _, h0⟩ | ⟨b, off, c', h0, _⟩
    · exact h0
    · rw [e] at h0; simp at h0
  clear h
  have q22 : ∀ (w : World) (a : Option Addr) (n c n' c' : Nat), (binOp .eql 56 (.slice a n c) (.slice none n' c')).run Tryz.prog w = .ok (.bool a.isNone) w := fun w a n c n' c' => Lib.run_eql_slice_nil w _ _ a n c n' c' Tryz.underlying56
  cases a with
  | none =>
    obtain rfl := hnone rfl
    go_enter Tryz.func179, Tryz.ntmps179
    go_wp2
    go_ret
    exact ⟨_, rfl, World.ownsRow_nil _ _ _ _, Below.refl _ _⟩
  | some a =>
    have hs := Lib.hid (hsrc a c rfl)
    clear hsrc hnone
    generalize l.flatMap Op.cells = L at *
    generalize l.length = n at *
    go_enter Tryz.func179, Tryz.ntmps179
    go_wp2_with (at_builtin; refine wpList_append_own _ rfl _ _ 56 rfl w.heap.size 42 i0 _ 13 128 Tryz.underlying56 hinf hz0 hz1 hz2 rfl (by decide) _ _ _ rfl (World.ownsRow_made w #[] 0 (Nat.le_refl _) (Nat.zero_le _) (by simp)) a n c L rfl ?qc1 ?qc2 ?qc3 ?qc4 ?qc5 ?qc6 ?_)
    case qc1 => exact hlen
    case qc2 => exact hs.out _ fun x y hx => Lib.cell?_alloc_some _ hx
    case qc3 => exact hone
    case qc4 => rw [Nat.zero_add]; simp only [maxLen]; omega
    case qc5 => rw [Nat.zero_add]; omega
    case qc6 => simp
    intro v' w1 hown hgrow _
    go_wp2
    go_ret
    exact ⟨v', rfl, by simpa using hown, ((Below.refl _ w).alloc (Nat.le_refl _) _).grown hgrow (by simp) (by intro k hk; simp [Value.ownBlock] at hk; omega)⟩

set_option maxRecDepth 100000 in
set_option maxHeartbeats 4000000 in
theorem search_any (g : Nat) (cb : Array Value) (n k : Nat) (p : Nat → Bool) (w : World) (eg : ∀ args w, (callFunc g args).run Tryz.prog w = .ok (.enter g args) w) (hn : n ≤ 1000) (hk : k ≤ n)
    (hf : ∀ W i, i < n → Below w.heap.size w W → Calls Tryz.prog g (#[.int .i64 i] ++ cb) W fun e w' => e = .returned (.bool (p i)) ∧ Below W.heap.size W w') (h1 : ∀ i, i < k → p i = false) (h2 : ∀ i, k ≤ i → i < n → p i = true) :
    Calls Tryz.prog 176 #[.int .i64 n, .func (.func g) #[] cb] w fun e w' => e = .returned (.int .i64 k) ∧ Below w.heap.size w w' := by
  have HF := Lib.hid hf
  have H1 := Lib.hid h1
  have H2 := Lib.hid h2
  clear hf h1 h2
  go_enter Tryz.func176, Tryz.ntmps176
  go_wp2
  go_loopg [5, 6] n (fun kx s5 s6 wr => ∃ lo hi : Nat, s5 = .int .i64 lo ∧ s6 = .int .i64 hi ∧ lo ≤ k ∧ k ≤ hi ∧ hi ≤ n ∧ hi - lo ≤ kx ∧ Aside (Below w.heap.size w wr))
  case atStart => exact ⟨0, n, rfl, rfl, Nat.zero_le _, hk, Nat.le_refl _, by omega, (show Aside _ from Below.refl _ _)⟩
  case round =>
    obtain ⟨lo, hi, rfl, rfl, hlk, hkh, hhn, hg, hB⟩ := hrel
    by_cases hlt : lo < hi
    · have hc := HF.out wr ((lo + hi) / 2) (by omega) hB.out
      rw [show (((lo + hi) / 2 : Nat) : Int) = ((lo : Int) + (hi : Int)) / 2 by omega] at hc
      by_cases hm : (lo + hi) / 2 < k
      · rw [H1.out _ hm] at hc
        have HC := Lib.hid hc
        clear hc
        go_wp2_with (go_at_fn g; refine HC.out.mono ?_; rintro e w' ⟨rfl, hb⟩; have HB := Lib.hid hb; clear hb)
        go_roundg (hi - ((lo + hi) / 2 + 1))
        case measure => omega
        case rel => exact ⟨(lo + hi) / 2 + 1, hi, by rw [show ((lo : Int) + (hi : Int)) / 2 + 1 = (((lo + hi) / 2 + 1 : Nat) : Int) by omega], rfl, by omega, hkh, hhn, Nat.le_refl _, (show Aside _ from hB.out.trans (HB.out.mono hB.out.size))⟩
      · rw [H2.out _ (by omega) (by omega)] at hc
        have HC := Lib.hid hc
        clear hc
        go_wp2_with (go_at_fn g; refine HC.out.mono ?_; rintro e w' ⟨rfl, hb⟩; have HB := Lib.hid hb; clear hb)
        go_roundg ((lo + hi) / 2 - lo)
        case measure => omega
        case rel => exact ⟨lo, (lo + hi) / 2, rfl, by rw [show ((lo : Int) + (hi : Int)) / 2 = (((lo + hi) / 2 : Nat) : Int) by omega], hlk, by omega, by omega, Nat.le_refl _, (show Aside _ from hB.out.trans (HB.out.mono hB.out.size))⟩
    · obtain rfl : lo = k := by omega
      obtain rfl : hi = lo := by omega
      go_wp2
      go_ret
      exact ⟨rfl, hB.out⟩

theorem cmpSt_geq {a b : St} : decide (cmpSt a.t a.r b.t b.r ≥ 0) = !decide (ltSt a b) := by
  by_cases h : ltSt a b
  · rw [decide_eq_true h]
    have := cmpSt_lt.2 h
    simp only [Bool.not_true, decide_eq_false_iff_not]; omega
  · rw [decide_eq_false h]
    have : ¬ cmpSt a.t a.r b.t b.r < 0 := fun h' => h (cmpSt_lt.1 h')
    simp only [Bool.not_false, decide_eq_true_eq]; omega

set_option maxRecDepth 100000 in
set_option maxHeartbeats 4000000 in
theorem place_fn (bl bo : Nat) (v : Value) (l : List Op) (o : Op) (i : Nat) (w : World) (hi : i < l.length) (hl : w.cell? ⟨bl, 0, none⟩ = some v) (hv : SlAt w 13 Op.cells v l)
    (ho0 : w.cell? ⟨bo, 0, none⟩ = some (.int .i64 o.stamp.t)) (ho1 : w.cell? ⟨bo, 1, none⟩ = some (.int .i64 o.stamp.r)) :
    Calls Tryz.prog 177 (#[.int .i64 i] ++ #[.pointer (some ⟨bl, 0, none⟩), .pointer (some ⟨bo, 0, none⟩)]) w fun e w' => e = .returned (.bool (!decide (ltSt l[i]!.stamp o.stamp))) ∧ Below w.heap.size w w' := by
  have hc := cmpSt_geq (a := l[i]!.stamp) (b := o.stamp)
  obtain ⟨a, c, rfl⟩ := hv.len
  obtain ⟨bb, off, rfl, hbl, hcells⟩ := slAt_at hv hi
  have hb0 := hcells i hi 0 _ rfl
  have hb1 := hcells i hi 1 _ rfl
  rw [Nat.add_zero] at hb0
  have hi0 : (0 : Int) ≤ (i : Int) := by omega
  have hil : (i : Int) < (l.length : Int) := by omega
  rw [← hc]
  clear hc hcells hv
  generalize l[i]!.stamp = s at hb0 hb1 ⊢
  obtain ⟨st, sr⟩ := s
  obtain ⟨⟨ot, or_⟩, _⟩ := o
  simp only at *
  have HB0 : Hid (Below w.heap.size w w) := Lib.hid (Below.refl _ _)
  have HCM : Hid (∀ W, Calls Tryz.prog 70 #[.agg #[.int .i64 st, .int .i64 sr], .agg #[.int .i64 ot, .int .i64 or_]] W fun e w' => e = .returned (.int .i64 (cmpSt st sr ot or_)) ∧ Below W.heap.size W w') := Lib.hid fun W => (stCompare_any st sr ot or_ W).mono fun e w' h => ⟨h.1, h.2.below⟩
  have hbl' := World.block_lt_of_cell? _ _ hl
  have hbo := World.block_lt_of_cell? _ _ ho0
  have HS : Hid (∀ W, Below w.heap.size w W → W.cell? ⟨bl, 0, none⟩ = some (.slice (some ⟨bb, off, none⟩) l.length c) ∧ W.cell? ⟨bo, 0, none⟩ = some (.int .i64 ot) ∧ W.cell? ⟨bo, 1, none⟩ = some (.int .i64 or_) ∧ W.cell? ⟨bb, off + i * 13, none⟩ = some (.int .i64 st) ∧ W.cell? ⟨bb, off + i * 13 + 1, none⟩ = some (.int .i64 sr)) := Lib.hid fun W hW =>
    ⟨(hW.cell (p := ⟨bl, 0, none⟩) hbl').trans hl, (hW.cell (p := ⟨bo, 0, none⟩) hbo).trans ho0, (hW.cell (p := ⟨bo, 1, none⟩) hbo).trans ho1, (hW.cell (p := ⟨bb, _, none⟩) hbl).trans hb0, (hW.cell (p := ⟨bb, _, none⟩) hbl).trans hb1⟩
  go_enter Tryz.func177, Tryz.ntmps177
  go_wp2_with fail
  go_region_held3 (fun W : World => W.cell? ⟨bl, 0, none⟩ = some (.slice (some ⟨bb, off, none⟩) l.length c) ∧ W.cell? ⟨bo, 0, none⟩ = some (.int .i64 ot) ∧ W.cell? ⟨bo, 1, none⟩ = some (.int .i64 or_) ∧ W.cell? ⟨bb, off + i * 13, none⟩ = some (.int .i64 st) ∧ W.cell? ⟨bb, off + i * 13 + 1, none⟩ = some (.int .i64 sr)) (first | exact HS.out _ (by first | exact HB1.out | exact HB1.out.alloc HB1.out.size _ | exact (HB1.out.alloc HB1.out.size _).alloc (le_al HB1.out.size) _ | exact ((HB1.out.alloc HB1.out.size _).alloc (le_al HB1.out.size) _).alloc (le_al (le_al HB1.out.size)) _ | exact HB1.out.drew | exact (HB1.out.alloc HB1.out.size _).drew | exact ((HB1.out.alloc HB1.out.size _).alloc (le_al HB1.out.size) _).drew | exact HB0.out | exact HB0.out.alloc HB0.out.size _ | exact (HB0.out.alloc HB0.out.size _).alloc (le_al HB0.out.size) _ | exact ((HB0.out.alloc HB0.out.size _).alloc (le_al HB0.out.size) _).alloc (le_al (le_al HB0.out.size)) _ | exact HB0.out.drew | exact (HB0.out.alloc HB0.out.size _).drew | exact ((HB0.out.alloc HB0.out.size _).alloc (le_al HB0.out.size) _).drew) | go_keep) (first
    | (go_at_call 70; (with_reducible refine (HCM.out _).mono ?_); rintro e w1 ⟨rfl, hb1⟩; obtain ⟨hc1, hf1⟩ := bcell hb1; have hs1 := hb1.size; (try simp only [size_drew] at hs1); (try simp only [World.size_alloc] at hs1); (try simp only [size_setCell'] at hs1); (try have le1_0 : w.heap.size ≤ w1.heap.size := (by omega)); (try have lt1_0 : w.heap.size < w1.heap.size := (by omega)); have HB1 : Hid (Below w.heap.size w w1) := Lib.hid (Below.trans (by first | exact HB0.out | exact HB0.out.alloc HB0.out.size _ | exact (HB0.out.alloc HB0.out.size _).alloc (le_al HB0.out.size) _ | exact ((HB0.out.alloc HB0.out.size _).alloc (le_al HB0.out.size) _).alloc (le_al (le_al HB0.out.size)) _ | exact HB0.out.drew | exact (HB0.out.alloc HB0.out.size _).drew | exact ((HB0.out.alloc HB0.out.size _).alloc (le_al HB0.out.size) _).drew) (hb1.mono (by (try simp only [size_drew]); (try simp only [World.size_alloc]); (try simp only [size_setCell']); omega))); have HN1 := Lib.hid hb1; clear hb1 hs1))
  go_wp2
  go_ret
  exact ⟨rfl, (by first | exact HB1.out | exact HB1.out.alloc HB1.out.size _ | exact (HB1.out.alloc HB1.out.size _).alloc (le_al HB1.out.size) _ | exact ((HB1.out.alloc HB1.out.size _).alloc (le_al HB1.out.size) _).alloc (le_al (le_al HB1.out.size)) _ | exact HB1.out.drew | exact (HB1.out.alloc HB1.out.size _).drew | exact ((HB1.out.alloc HB1.out.size _).alloc (le_al HB1.out.size) _).drew)⟩

set_option maxRecDepth 100000 in
set_option maxHeartbeats 8000000 in
theorem put_any (v : Value) (l : List Op) (o : Op) (w : World) (h : SlAt w 13 Op.cells v l) (hr : RisesO l) (hl : l.length ≤ 1000) (hs : o.Small) :
    Calls Tryz.prog 140 #[v, o.v] w fun e w' => ∃ v', e = .returned (.tuple #[v', .int .i64 (placeOf l o), .bool (putB l o)]) ∧ (putB l o = false → v' = v) ∧
      (putB l o = true → w'.ownsRow w.heap.size 42 13 v' (putOp l o).length ((putOp l o).flatMap Op.cells)) ∧ Below w.heap.size w w' := by
  have hv := h
  obtain ⟨a, c, rfl⟩ := h.len
  clear h
  obtain ⟨W0, hW0⟩ : ∃ W0, W0 = (w.alloc (.cells #[.slice a l.length c] 56)).alloc (.cells #[.int .i64 o.stamp.t, .int .i64 o.stamp.r, .int .i64 o.kind, .int .i64 o.at_.t, .int .i64 o.at_.r, .int .i64 o.ino.t, .int .i64 o.ino.r, .int .i64 o.to.t, .int .i64 o.to.r, .string o.name, .string o.new, .int .i64 o.off, .string o.data] 42) := ⟨_, rfl⟩
  have hw0 : Below w.heap.size w W0 := by rw [hW0]; exact ((Below.refl _ _).alloc (Nat.le_refl _) _).alloc (by simp) _
  have hz0 : W0.heap.size = w.heap.size + 2 := by rw [hW0]; simp
  have HW : Hid (Below w.heap.size w W0 ∧ W0.heap.size = w.heap.size + 2) := Lib.hid ⟨hw0, hz0⟩
  have hz : w.heap.size < W0.heap.size := by omega
  have hz' : w.heap.size + 1 < W0.heap.size := by omega
  have HB0 : Hid (Below W0.heap.size W0 W0) := Lib.hid (Below.refl _ _)
  have HJ : Hid (∀ W, Below W0.heap.size W0 W → (W.cell? ⟨w.heap.size, 0, none⟩ = some (.slice a l.length c) ∧ W.cell? ⟨w.heap.size + 1, 0, none⟩ = some (.int .i64 o.stamp.t) ∧ W.cell? ⟨w.heap.size + 1, 1, none⟩ = some (.int .i64 o.stamp.r) ∧ W.cell? ⟨w.heap.size + 1, 2, none⟩ = some (.int .i64 o.kind) ∧ W.cell? ⟨w.heap.size + 1, 3, none⟩ = some (.int .i64 o.at_.t) ∧ W.cell? ⟨w.heap.size + 1, 4, none⟩ = some (.int .i64 o.at_.r) ∧ W.cell? ⟨w.heap.size + 1, 5, none⟩ = some (.int .i64 o.ino.t) ∧ W.cell? ⟨w.heap.size + 1, 6, none⟩ = some (.int .i64 o.ino.r) ∧ W.cell? ⟨w.heap.size + 1, 7, none⟩ = some (.int .i64 o.to.t) ∧ W.cell? ⟨w.heap.size + 1, 8, none⟩ = some (.int .i64 o.to.r) ∧ W.cell? ⟨w.heap.size + 1, 9, none⟩ = some (.string o.name) ∧ W.cell? ⟨w.heap.size + 1, 10, none⟩ = some (.string o.new) ∧ W.cell? ⟨w.heap.size + 1, 11, none⟩ = some (.int .i64 o.off) ∧ W.cell? ⟨w.heap.size + 1, 12, none⟩ = some (.string o.data)) ∧ SlAt W 13 Op.cells (.slice a l.length c) l) := Lib.hid fun W hW =>
    ⟨⟨(hW.cell (p := ⟨w.heap.size, 0, none⟩) hz).trans (by rw [hW0, World.cell?_alloc_past _ _ _ (by simp)]; exact cell_new _ _ rfl _ _ 0 _ rfl), (hW.cell (p := ⟨w.heap.size + 1, 0, none⟩) (by rw [hW0]; simp)).trans (by rw [hW0]; exact cell_new _ _ (by simp) _ _ 0 _ rfl), (hW.cell (p := ⟨w.heap.size + 1, 1, none⟩) (by rw [hW0]; simp)).trans (by rw [hW0]; exact cell_new _ _ (by simp) _ _ 1 _ rfl), (hW.cell (p := ⟨w.heap.size + 1, 2, none⟩) (by rw [hW0]; simp)).trans (by rw [hW0]; exact cell_new _ _ (by simp) _ _ 2 _ rfl), (hW.cell (p := ⟨w.heap.size + 1, 3, none⟩) (by rw [hW0]; simp)).trans (by rw [hW0]; exact cell_new _ _ (by simp) _ _ 3 _ rfl), (hW.cell (p := ⟨w.heap.size + 1, 4, none⟩) (by rw [hW0]; simp)).trans (by rw [hW0]; exact cell_new _ _ (by simp) _ _ 4 _ rfl), (hW.cell (p := ⟨w.heap.size + 1, 5, none⟩) (by rw [hW0]; simp)).trans (by rw [hW0]; exact cell_new _ _ (by simp) _ _ 5 _ rfl), (hW.cell (p := ⟨w.heap.size + 1, 6, none⟩) (by rw [hW0]; simp)).trans (by rw [hW0]; exact cell_new _ _ (by simp) _ _ 6 _ rfl), (hW.cell (p := ⟨w.heap.size + 1, 7, none⟩) (by rw [hW0]; simp)).trans (by rw [hW0]; exact cell_new _ _ (by simp) _ _ 7 _ rfl), (hW.cell (p := ⟨w.heap.size + 1, 8, none⟩) (by rw [hW0]; simp)).trans (by rw [hW0]; exact cell_new _ _ (by simp) _ _ 8 _ rfl), (hW.cell (p := ⟨w.heap.size + 1, 9, none⟩) (by rw [hW0]; simp)).trans (by rw [hW0]; exact cell_new _ _ (by simp) _ _ 9 _ rfl), (hW.cell (p := ⟨w.heap.size + 1, 10, none⟩) (by rw [hW0]; simp)).trans (by rw [hW0]; exact cell_new _ _ (by simp) _ _ 10 _ rfl), (hW.cell (p := ⟨w.heap.size + 1, 11, none⟩) (by rw [hW0]; simp)).trans (by rw [hW0]; exact cell_new _ _ (by simp) _ _ 11 _ rfl), (hW.cell (p := ⟨w.heap.size + 1, 12, none⟩) (by rw [hW0]; simp)).trans (by rw [hW0]; exact cell_new _ _ (by simp) _ _ 12 _ rfl)⟩, (hv.below hw0).below hW⟩
  have HM := Lib.hid (fun W => opMay_any o W hs)
  unfold Op.v at HM ⊢
  cases hm : opMay o with
  | false =>
    rw [hm] at HM
    have e1 : placeOf l o = 0 := by unfold placeOf; rw [hm]; rfl
    have e2 : putB l o = false := by unfold putB; rw [hm]; rfl
    rw [e1, e2]
    clear e1 e2 hm hr hl hs hv
    go_enter Tryz.func140, Tryz.ntmps140
    go_wp2_with fail
    rw [← hW0]
    clear hW0
    obtain ⟨⟨_, _, _, _, _, _, _, _, _, _, _, _, _, _⟩, _⟩ := HJ.out W0 HB0.out
    go_wp2_with fail
    refine (HM.out _).mono ?_
    rintro e w1 ⟨rfl, hb1⟩
    obtain ⟨hc1, hf1⟩ := bcell hb1
    have hs1 := hb1.size
    try simp only [size_drew] at hs1
    try simp only [World.size_alloc] at hs1
    try simp only [size_setCell'] at hs1
    try have le1_0 : W0.heap.size ≤ w1.heap.size := (by omega)
    try have lt1_0 : W0.heap.size < w1.heap.size := (by omega)
    have HB1 : Hid (Below W0.heap.size W0 w1) := Lib.hid (Below.trans (by first | exact HB0.out | exact HB0.out.alloc HB0.out.size _ | exact (HB0.out.alloc HB0.out.size _).alloc (le_al HB0.out.size) _ | exact ((HB0.out.alloc HB0.out.size _).alloc (le_al HB0.out.size) _).alloc (le_al (le_al HB0.out.size)) _ | exact HB0.out.drew | exact (HB0.out.alloc HB0.out.size _).drew | exact ((HB0.out.alloc HB0.out.size _).alloc (le_al HB0.out.size) _).drew) (hb1.mono (by (try simp only [size_drew]); (try simp only [World.size_alloc]); (try simp only [size_setCell']); omega)))
    have HN1 := Lib.hid hb1
    clear hb1 hs1
    go_wp2
    go_ret3
    exact ⟨_, rfl, fun _ => rfl, (fun e => by cases e), HW.out.1.trans ((show Below W0.heap.size W0 _ from (by first | exact HB1.out | exact HB1.out.alloc HB1.out.size _ | exact (HB1.out.alloc HB1.out.size _).alloc (le_al HB1.out.size) _ | exact ((HB1.out.alloc HB1.out.size _).alloc (le_al HB1.out.size) _).alloc (le_al (le_al HB1.out.size)) _ | exact HB1.out.drew | exact (HB1.out.alloc HB1.out.size _).drew | exact ((HB1.out.alloc HB1.out.size _).alloc (le_al HB1.out.size) _).drew)).mono HW.out.1.size)⟩
  | true =>
    rw [hm] at HM
    have HSE : Hid (∀ W, Below W0.heap.size W0 W → Calls Tryz.prog 176 #[.int .i64 l.length, .func (.func 177) #[] #[.pointer (some ⟨w.heap.size, 0, none⟩), .pointer (some ⟨w.heap.size + 1, 0, none⟩)]] W fun e w' => e = .returned (.int .i64 (placeOf l o)) ∧ Below W.heap.size W w') := Lib.hid fun W hW =>
      search_any 177 #[.pointer (some ⟨w.heap.size, 0, none⟩), .pointer (some ⟨w.heap.size + 1, 0, none⟩)] l.length (placeOf l o) (fun i => !decide (ltSt l[i]!.stamp o.stamp)) W (enters_of Tryz.func177 (by kernel_rfl) rfl) hl (place_le l o)
        (fun V i hi hV => by
          have hJ := HJ.out V (hW.trans (hV.mono hW.size))
          exact place_fn w.heap.size (w.heap.size + 1) _ l o i V hi hJ.1.1 hJ.2 hJ.1.2.1 hJ.1.2.2.1)
        (fun i hi => by have := place_low hm hi (by have := place_le l o; omega); show (!decide (ltSt l[i]!.stamp o.stamp)) = false; rw [decide_eq_true this]; rfl) (fun i hi hil => by have := place_high hr hm hi hil; show (!decide (ltSt l[i]!.stamp o.stamp)) = true; rw [decide_eq_false this]; rfl)
    have hhit := put_hit hr (o := o) hm
    have hple := place_le l o
    have HPI : Hid (putB l o = true → putOp l o = l.take (placeOf l o) ++ o :: l.drop (placeOf l o)) := Lib.hid put_is
    have HHV : Hid (SlAt w 13 Op.cells (.slice a l.length c) l) := Lib.hid hv
    have HL : Hid (l.length ≤ 1000 ∧ placeOf l o ≤ l.length) := Lib.hid ⟨hl, hple⟩
    have HC : Hid (∀ W, Below W0.heap.size W0 W → Calls Tryz.prog 179 #[.slice a l.length c] W fun e w' => ∃ v', e = .returned v' ∧ w'.ownsRow W.heap.size 42 13 v' l.length (l.flatMap Op.cells) ∧ Below W.heap.size W w') := Lib.hid fun W hW => clone_any _ l W (HJ.out W hW).2 hl
    have HI : Hid (∀ (W W4 : World) (vb : Nat) (v4 : Value) (B4 : Nat), W4.ownsRow B4 42 13 v4 l.length (l.flatMap Op.cells) → w.heap.size ≤ B4 → B4 ≤ W.heap.size → (∀ j, B4 ≤ j → j < W4.heap.size → W.heap[j]? = W4.heap[j]?) →
        W.heap[vb]? = some (.cells o.cells.toArray 42 (0, 0)) → (vb < B4 ∨ W4.heap.size ≤ vb) →
        Calls Tryz.prog 178 #[v4, .int .i64 (placeOf l o), .slice (some ⟨vb, 0, none⟩) 1 1] W fun e w' => ∃ v', e = .returned v' ∧ (putB l o = true → w'.ownsRow w.heap.size 42 13 v' (putOp l o).length ((putOp l o).flatMap Op.cells)) ∧ Below B4 W w') := Lib.hid fun W W4 vb v4 B4 h1 h2 h3 h4 h5 h6 =>
      (insert_any B4 v4 (placeOf l o) vb l o W (ownsRow_keep h1 h4) h3 hl hple h5 (fun e => by
        have g1 := rowGe h1 e
        rcases h1.2 with ⟨rfl, _⟩ | ⟨g, cap, cur, rfl, _, hh, _⟩
        · cases e
        · have e' : g = vb := by simpa [Value.ownBlock] using e
          subst e'
          have := (Array.getElem?_eq_some_iff.1 hh).1
          rcases h6 with h6 | h6 <;> omega)).mono fun e w' ⟨v', k1, k2, k3⟩ => ⟨v', k1, fun hb => by
            have e1 := put_is hb
            have e2 := putOp_len l o
            rw [hb] at e2
            simp only [if_true] at e2
            rw [e2, e1]
            exact ownsRow_mono k2 h2, k3⟩
    have HX : Hid (∀ W : World, (W.alloc (.cells #[.int .i64 o.stamp.t, .int .i64 o.stamp.r, .int .i64 o.kind, .int .i64 o.at_.t, .int .i64 o.at_.r, .int .i64 o.ino.t, .int .i64 o.ino.r, .int .i64 o.to.t, .int .i64 o.to.r, .string o.name, .string o.new, .int .i64 o.off, .string o.data] 42)).heap[W.heap.size]? = some (.cells o.cells.toArray 42 (0, 0))) := Lib.hid fun W => by rw [World.alloc_heap_new]; rfl
    clear hv hr hs hm
    generalize placeOf l o = k at *
    by_cases hk : k < l.length
    · have hk0 : (0 : Int) ≤ (k : Int) := by omega
      have hkl : (k : Int) < (l.length : Int) := by omega
      have hkd : decide ((k : Int) < (l.length : Int)) = true := decide_eq_true hkl
      have hhit' : putB l o = !(decide (l[k]!.stamp = o.stamp)) := by rw [hhit, decide_eq_true hk, Bool.true_and]
      have HEQ : ∀ w, (binOp .eql 26 (.agg #[.int .i64 l[k]!.stamp.t, .int .i64 l[k]!.stamp.r]) (.agg #[.int .i64 o.stamp.t, .int .i64 o.stamp.r])).run Tryz.prog w = .ok (.bool (decide (l[k]!.stamp = o.stamp))) w := eql_st _ _
      obtain ⟨bb, off, rfl, hbl, hcells⟩ := slAt_at HHV.out hk
      have hc0 := hcells k hk 0 _ rfl
      have hc1 := hcells k hk 1 _ rfl
      rw [Nat.add_zero] at hc0
      have HK : Hid (∀ W, Below W0.heap.size W0 W → W.cell? ⟨bb, off + k * 13, none⟩ = some (.int .i64 l[k]!.stamp.t) ∧ W.cell? ⟨bb, off + k * 13 + 1, none⟩ = some (.int .i64 l[k]!.stamp.r)) := Lib.hid fun W hW =>
        have hb := HW.out.1.trans (hW.mono HW.out.1.size)
        ⟨(hb.cell (p := ⟨bb, _, none⟩) hbl).trans hc0, (hb.cell (p := ⟨bb, _, none⟩) hbl).trans hc1⟩
      clear hcells hc0 hc1
      by_cases he : l[k]!.stamp = o.stamp
      · rw [decide_eq_true he] at HEQ hhit'
        rw [hhit']
        clear hhit hhit' HPI he hk
        generalize l[k]!.stamp = s at *
        go_enter Tryz.func140, Tryz.ntmps140
        go_wp2_with fail
        rw [← hW0]
        clear hW0
        obtain ⟨⟨_, _, _, _, _, _, _, _, _, _, _, _, _, _⟩, _⟩ := HJ.out W0 HB0.out
        go_wp2_with fail
        refine (HM.out _).mono ?_
        rintro e w1 ⟨rfl, hb1⟩
        obtain ⟨hc1, hf1⟩ := bcell hb1
        have hs1 := hb1.size
        try simp only [size_drew] at hs1
        try simp only [World.size_alloc] at hs1
        try simp only [size_setCell'] at hs1
        try have le1_0 : W0.heap.size ≤ w1.heap.size := (by omega)
        try have lt1_0 : W0.heap.size < w1.heap.size := (by omega)
        have HB1 : Hid (Below W0.heap.size W0 w1) := Lib.hid (Below.trans (by first | exact HB0.out | exact HB0.out.alloc HB0.out.size _ | exact (HB0.out.alloc HB0.out.size _).alloc (le_al HB0.out.size) _ | exact ((HB0.out.alloc HB0.out.size _).alloc (le_al HB0.out.size) _).alloc (le_al (le_al HB0.out.size)) _ | exact HB0.out.drew | exact (HB0.out.alloc HB0.out.size _).drew | exact ((HB0.out.alloc HB0.out.size _).alloc (le_al HB0.out.size) _).drew) (hb1.mono (by (try simp only [size_drew]); (try simp only [World.size_alloc]); (try simp only [size_setCell']); omega)))
        have HN1 := Lib.hid hb1
        clear hb1 hs1
        have HV1 := Lib.hid (HJ.out _ HB1.out)
        obtain ⟨⟨_, _, _, _, _, _, _, _, _, _, _, _, _, _⟩, _⟩ := HV1.out
        go_wp2_with fail
        refine (HSE.out _ (by first | exact HB1.out | exact HB1.out.alloc HB1.out.size _ | exact (HB1.out.alloc HB1.out.size _).alloc (le_al HB1.out.size) _ | exact ((HB1.out.alloc HB1.out.size _).alloc (le_al HB1.out.size) _).alloc (le_al (le_al HB1.out.size)) _ | exact HB1.out.drew | exact (HB1.out.alloc HB1.out.size _).drew | exact ((HB1.out.alloc HB1.out.size _).alloc (le_al HB1.out.size) _).drew | exact HB0.out | exact HB0.out.alloc HB0.out.size _ | exact (HB0.out.alloc HB0.out.size _).alloc (le_al HB0.out.size) _ | exact ((HB0.out.alloc HB0.out.size _).alloc (le_al HB0.out.size) _).alloc (le_al (le_al HB0.out.size)) _ | exact HB0.out.drew | exact (HB0.out.alloc HB0.out.size _).drew | exact ((HB0.out.alloc HB0.out.size _).alloc (le_al HB0.out.size) _).drew)).mono ?_
        rintro e w2 ⟨rfl, hb2⟩
        obtain ⟨hc2, hf2⟩ := bcell hb2
        have hs2 := hb2.size
        try simp only [size_drew] at hs2
        try simp only [World.size_alloc] at hs2
        try simp only [size_setCell'] at hs2
        try have le2_0 : W0.heap.size ≤ w2.heap.size := (by omega)
        try have lt2_0 : W0.heap.size < w2.heap.size := (by omega)
        try have le2_1 : w1.heap.size ≤ w2.heap.size := (by omega)
        try have lt2_1 : w1.heap.size < w2.heap.size := (by omega)
        have HB2 : Hid (Below W0.heap.size W0 w2) := Lib.hid (Below.trans (by first | exact HB1.out | exact HB1.out.alloc HB1.out.size _ | exact (HB1.out.alloc HB1.out.size _).alloc (le_al HB1.out.size) _ | exact ((HB1.out.alloc HB1.out.size _).alloc (le_al HB1.out.size) _).alloc (le_al (le_al HB1.out.size)) _ | exact HB1.out.drew | exact (HB1.out.alloc HB1.out.size _).drew | exact ((HB1.out.alloc HB1.out.size _).alloc (le_al HB1.out.size) _).drew | exact HB0.out | exact HB0.out.alloc HB0.out.size _ | exact (HB0.out.alloc HB0.out.size _).alloc (le_al HB0.out.size) _ | exact ((HB0.out.alloc HB0.out.size _).alloc (le_al HB0.out.size) _).alloc (le_al (le_al HB0.out.size)) _ | exact HB0.out.drew | exact (HB0.out.alloc HB0.out.size _).drew | exact ((HB0.out.alloc HB0.out.size _).alloc (le_al HB0.out.size) _).drew) (hb2.mono (by (try simp only [size_drew]); (try simp only [World.size_alloc]); (try simp only [size_setCell']); omega)))
        have HN2 := Lib.hid hb2
        clear hb2 hs2
        have HV2 := Lib.hid (HJ.out _ HB2.out)
        obtain ⟨⟨_, _, _, _, _, _, _, _, _, _, _, _, _, _⟩, _⟩ := HV2.out
        obtain ⟨_, _⟩ := HK.out _ HB2.out
        go_wp2_with fail
        go_quiet (fail)
        go_wp2
        go_ret3
        exact ⟨_, rfl, fun _ => rfl, (fun e => by cases e), HW.out.1.trans (Below.mono (show Below W0.heap.size W0 (w2.drewN nq) from HB2.out.trans ⟨rfl, rfl, rfl, Nat.le_refl _, fun _ _ => rfl⟩) HW.out.1.size)⟩
      · rw [decide_eq_false he] at HEQ hhit'
        rw [hhit']
        have HPB : Hid (putB l o = true) := Lib.hid (by rw [hhit']; rfl)
        clear hhit hhit' he hk HPI
        generalize l[k]!.stamp = s at *
        go_enter Tryz.func140, Tryz.ntmps140
        go_wp2_with fail
        rw [← hW0]
        clear hW0
        obtain ⟨⟨_, _, _, _, _, _, _, _, _, _, _, _, _, _⟩, _⟩ := HJ.out W0 HB0.out
        go_wp2_with fail
        refine (HM.out _).mono ?_
        rintro e w1 ⟨rfl, hb1⟩
        obtain ⟨hc1, hf1⟩ := bcell hb1
        have hs1 := hb1.size
        try simp only [size_drew] at hs1
        try simp only [World.size_alloc] at hs1
        try simp only [size_setCell'] at hs1
        try have le1_0 : W0.heap.size ≤ w1.heap.size := (by omega)
        try have lt1_0 : W0.heap.size < w1.heap.size := (by omega)
        have HB1 : Hid (Below W0.heap.size W0 w1) := Lib.hid (Below.trans (by first | exact HB0.out | exact HB0.out.alloc HB0.out.size _ | exact (HB0.out.alloc HB0.out.size _).alloc (le_al HB0.out.size) _ | exact ((HB0.out.alloc HB0.out.size _).alloc (le_al HB0.out.size) _).alloc (le_al (le_al HB0.out.size)) _ | exact HB0.out.drew | exact (HB0.out.alloc HB0.out.size _).drew | exact ((HB0.out.alloc HB0.out.size _).alloc (le_al HB0.out.size) _).drew) (hb1.mono (by (try simp only [size_drew]); (try simp only [World.size_alloc]); (try simp only [size_setCell']); omega)))
        have HN1 := Lib.hid hb1
        clear hb1 hs1
        have HV1 := Lib.hid (HJ.out _ HB1.out)
        obtain ⟨⟨_, _, _, _, _, _, _, _, _, _, _, _, _, _⟩, _⟩ := HV1.out
        go_wp2_with fail
        refine (HSE.out _ (by first | exact HB1.out | exact HB1.out.alloc HB1.out.size _ | exact (HB1.out.alloc HB1.out.size _).alloc (le_al HB1.out.size) _ | exact ((HB1.out.alloc HB1.out.size _).alloc (le_al HB1.out.size) _).alloc (le_al (le_al HB1.out.size)) _ | exact HB1.out.drew | exact (HB1.out.alloc HB1.out.size _).drew | exact ((HB1.out.alloc HB1.out.size _).alloc (le_al HB1.out.size) _).drew | exact HB0.out | exact HB0.out.alloc HB0.out.size _ | exact (HB0.out.alloc HB0.out.size _).alloc (le_al HB0.out.size) _ | exact ((HB0.out.alloc HB0.out.size _).alloc (le_al HB0.out.size) _).alloc (le_al (le_al HB0.out.size)) _ | exact HB0.out.drew | exact (HB0.out.alloc HB0.out.size _).drew | exact ((HB0.out.alloc HB0.out.size _).alloc (le_al HB0.out.size) _).drew)).mono ?_
        rintro e w2 ⟨rfl, hb2⟩
        obtain ⟨hc2, hf2⟩ := bcell hb2
        have hs2 := hb2.size
        try simp only [size_drew] at hs2
        try simp only [World.size_alloc] at hs2
        try simp only [size_setCell'] at hs2
        try have le2_0 : W0.heap.size ≤ w2.heap.size := (by omega)
        try have lt2_0 : W0.heap.size < w2.heap.size := (by omega)
        try have le2_1 : w1.heap.size ≤ w2.heap.size := (by omega)
        try have lt2_1 : w1.heap.size < w2.heap.size := (by omega)
        have HB2 : Hid (Below W0.heap.size W0 w2) := Lib.hid (Below.trans (by first | exact HB1.out | exact HB1.out.alloc HB1.out.size _ | exact (HB1.out.alloc HB1.out.size _).alloc (le_al HB1.out.size) _ | exact ((HB1.out.alloc HB1.out.size _).alloc (le_al HB1.out.size) _).alloc (le_al (le_al HB1.out.size)) _ | exact HB1.out.drew | exact (HB1.out.alloc HB1.out.size _).drew | exact ((HB1.out.alloc HB1.out.size _).alloc (le_al HB1.out.size) _).drew | exact HB0.out | exact HB0.out.alloc HB0.out.size _ | exact (HB0.out.alloc HB0.out.size _).alloc (le_al HB0.out.size) _ | exact ((HB0.out.alloc HB0.out.size _).alloc (le_al HB0.out.size) _).alloc (le_al (le_al HB0.out.size)) _ | exact HB0.out.drew | exact (HB0.out.alloc HB0.out.size _).drew | exact ((HB0.out.alloc HB0.out.size _).alloc (le_al HB0.out.size) _).drew) (hb2.mono (by (try simp only [size_drew]); (try simp only [World.size_alloc]); (try simp only [size_setCell']); omega)))
        have HN2 := Lib.hid hb2
        clear hb2 hs2
        have HV2 := Lib.hid (HJ.out _ HB2.out)
        obtain ⟨⟨_, _, _, _, _, _, _, _, _, _, _, _, _, _⟩, _⟩ := HV2.out
        obtain ⟨_, _⟩ := HK.out _ HB2.out
        go_wp2_with fail
        go_quiet (fail)
        go_wp2_with fail
        obtain ⟨w3, hw3⟩ : ∃ w3, w3 = w2.drewN nq := ⟨_, rfl⟩
        rw [← hw3]
        have HB3 : Hid (Below W0.heap.size W0 w3) := Lib.hid (by rw [hw3]; exact HB2.out.trans ⟨rfl, rfl, rfl, Nat.le_refl _, fun _ _ => rfl⟩)
        have le3_0 : W0.heap.size ≤ w3.heap.size := HB3.out.size
        clear hw3
        obtain ⟨⟨_, _, _, _, _, _, _, _, _, _, _, _, _, _⟩, _⟩ := HJ.out w3 HB3.out
        have HIA : Hid (∀ (w4 : World) (B4 : Nat) (v4 : Value), w4.ownsRow B4 42 13 v4 l.length (l.flatMap Op.cells) → Below W0.heap.size W0 w4 → w3.heap.size ≤ B4 → B4 ≤ w4.heap.size → Calls Tryz.prog 178 #[v4, .int .i64 k, .slice (some ⟨w4.heap.size, 0, none⟩) 1 1] (w4.alloc (.cells #[.int .i64 o.stamp.t, .int .i64 o.stamp.r, .int .i64 o.kind, .int .i64 o.at_.t, .int .i64 o.at_.r, .int .i64 o.ino.t, .int .i64 o.ino.r, .int .i64 o.to.t, .int .i64 o.to.r, .string o.name, .string o.new, .int .i64 o.off, .string o.data] 42)) (fun e w' => ∃ v', e = .returned v' ∧ (putB l o = true → w'.ownsRow w.heap.size 42 13 v' (putOp l o).length ((putOp l o).flatMap Op.cells)) ∧ Below W0.heap.size W0 w')) := Lib.hid fun w4 B4 v4 h1 h2 h3 h4 =>
          (HI.out (w4.alloc (.cells #[.int .i64 o.stamp.t, .int .i64 o.stamp.r, .int .i64 o.kind, .int .i64 o.at_.t, .int .i64 o.at_.r, .int .i64 o.ino.t, .int .i64 o.ino.r, .int .i64 o.to.t, .int .i64 o.to.r, .string o.name, .string o.new, .int .i64 o.off, .string o.data] 42)) w4 w4.heap.size v4 B4 h1 (by have := HW.out.2; omega) (by simp only [World.size_alloc]; omega) (fun j _ hj => Below.heap_alloc _ _ j hj) (HX.out _) (.inr (Nat.le_refl _))).mono fun e w' ⟨v', k1, k2, k3⟩ => ⟨v', k1, k2, (h2.alloc h2.size _).trans (k3.mono (by omega))⟩
        have HIB : Hid (∀ (w4 : World) (B4 : Nat) (v4 : Value), w4.ownsRow B4 42 13 v4 l.length (l.flatMap Op.cells) → Below W0.heap.size W0 w4 → w3.heap.size < B4 → B4 ≤ w4.heap.size → w4.heap[w3.heap.size]? = some (.cells o.cells.toArray 42 (0, 0)) → Calls Tryz.prog 178 #[v4, .int .i64 k, .slice (some ⟨w3.heap.size, 0, none⟩) 1 1] w4 (fun e w' => ∃ v', e = .returned v' ∧ (putB l o = true → w'.ownsRow w.heap.size 42 13 v' (putOp l o).length ((putOp l o).flatMap Op.cells)) ∧ Below W0.heap.size W0 w')) := Lib.hid fun w4 B4 v4 h1 h2 h3 h4 h5 =>
          (HI.out w4 w4 w3.heap.size v4 B4 h1 (by have := HW.out.2; omega) h4 (fun j _ hj => rfl) h5 (.inl h3)).mono fun e w' ⟨v', k1, k2, k3⟩ => ⟨v', k1, k2, h2.trans (k3.mono (by omega))⟩
        have HXB : Hid (∀ (w4 V : World), V.heap = (w3.alloc (.cells #[.int .i64 o.stamp.t, .int .i64 o.stamp.r, .int .i64 o.kind, .int .i64 o.at_.t, .int .i64 o.at_.r, .int .i64 o.ino.t, .int .i64 o.ino.r, .int .i64 o.to.t, .int .i64 o.to.r, .string o.name, .string o.new, .int .i64 o.off, .string o.data] 42)).heap → Below V.heap.size V w4 → w4.heap[w3.heap.size]? = some (.cells o.cells.toArray 42 (0, 0))) := Lib.hid fun w4 V h1 h2 => (h2.block _ (by rw [h1]; simp)).trans (by rw [h1]; exact HX.out w3)
        go_region_held3 (fun W : World => W.cell? ⟨w.heap.size, 0, none⟩ = some (.slice (some ⟨bb, off, none⟩) l.length c) ∧ W.cell? ⟨w.heap.size + 1, 0, none⟩ = some (.int .i64 o.stamp.t) ∧ W.cell? ⟨w.heap.size + 1, 1, none⟩ = some (.int .i64 o.stamp.r) ∧ W.cell? ⟨w.heap.size + 1, 2, none⟩ = some (.int .i64 o.kind) ∧ W.cell? ⟨w.heap.size + 1, 3, none⟩ = some (.int .i64 o.at_.t) ∧ W.cell? ⟨w.heap.size + 1, 4, none⟩ = some (.int .i64 o.at_.r) ∧ W.cell? ⟨w.heap.size + 1, 5, none⟩ = some (.int .i64 o.ino.t) ∧ W.cell? ⟨w.heap.size + 1, 6, none⟩ = some (.int .i64 o.ino.r) ∧ W.cell? ⟨w.heap.size + 1, 7, none⟩ = some (.int .i64 o.to.t) ∧ W.cell? ⟨w.heap.size + 1, 8, none⟩ = some (.int .i64 o.to.r) ∧ W.cell? ⟨w.heap.size + 1, 9, none⟩ = some (.string o.name) ∧ W.cell? ⟨w.heap.size + 1, 10, none⟩ = some (.string o.new) ∧ W.cell? ⟨w.heap.size + 1, 11, none⟩ = some (.int .i64 o.off) ∧ W.cell? ⟨w.heap.size + 1, 12, none⟩ = some (.string o.data)) (first | exact (HJ.out _ (by first | exact HB5.out | exact HB5.out.alloc HB5.out.size _ | exact (HB5.out.alloc HB5.out.size _).alloc (le_al HB5.out.size) _ | exact ((HB5.out.alloc HB5.out.size _).alloc (le_al HB5.out.size) _).alloc (le_al (le_al HB5.out.size)) _ | exact HB5.out.drew | exact (HB5.out.alloc HB5.out.size _).drew | exact ((HB5.out.alloc HB5.out.size _).alloc (le_al HB5.out.size) _).drew | exact HB4.out | exact HB4.out.alloc HB4.out.size _ | exact (HB4.out.alloc HB4.out.size _).alloc (le_al HB4.out.size) _ | exact ((HB4.out.alloc HB4.out.size _).alloc (le_al HB4.out.size) _).alloc (le_al (le_al HB4.out.size)) _ | exact HB4.out.drew | exact (HB4.out.alloc HB4.out.size _).drew | exact ((HB4.out.alloc HB4.out.size _).alloc (le_al HB4.out.size) _).drew | exact HB3.out | exact HB3.out.alloc HB3.out.size _ | exact (HB3.out.alloc HB3.out.size _).alloc (le_al HB3.out.size) _ | exact ((HB3.out.alloc HB3.out.size _).alloc (le_al HB3.out.size) _).alloc (le_al (le_al HB3.out.size)) _ | exact HB3.out.drew | exact (HB3.out.alloc HB3.out.size _).drew | exact ((HB3.out.alloc HB3.out.size _).alloc (le_al HB3.out.size) _).drew)).1 | go_keep) (first
          | (go_at_call 179; (with_reducible refine (HC.out _ (by first | exact HB3.out | exact HB3.out.alloc HB3.out.size _ | exact (HB3.out.alloc HB3.out.size _).alloc (le_al HB3.out.size) _ | exact ((HB3.out.alloc HB3.out.size _).alloc (le_al HB3.out.size) _).alloc (le_al (le_al HB3.out.size)) _ | exact HB3.out.drew | exact (HB3.out.alloc HB3.out.size _).drew | exact ((HB3.out.alloc HB3.out.size _).alloc (le_al HB3.out.size) _).drew | exact HB2.out | exact HB2.out.alloc HB2.out.size _ | exact (HB2.out.alloc HB2.out.size _).alloc (le_al HB2.out.size) _ | exact ((HB2.out.alloc HB2.out.size _).alloc (le_al HB2.out.size) _).alloc (le_al (le_al HB2.out.size)) _ | exact HB2.out.drew | exact (HB2.out.alloc HB2.out.size _).drew | exact ((HB2.out.alloc HB2.out.size _).alloc (le_al HB2.out.size) _).drew | exact HB1.out | exact HB1.out.alloc HB1.out.size _ | exact (HB1.out.alloc HB1.out.size _).alloc (le_al HB1.out.size) _ | exact ((HB1.out.alloc HB1.out.size _).alloc (le_al HB1.out.size) _).alloc (le_al (le_al HB1.out.size)) _ | exact HB1.out.drew | exact (HB1.out.alloc HB1.out.size _).drew | exact ((HB1.out.alloc HB1.out.size _).alloc (le_al HB1.out.size) _).drew | exact HB0.out | exact HB0.out.alloc HB0.out.size _ | exact (HB0.out.alloc HB0.out.size _).alloc (le_al HB0.out.size) _ | exact ((HB0.out.alloc HB0.out.size _).alloc (le_al HB0.out.size) _).alloc (le_al (le_al HB0.out.size)) _ | exact HB0.out.drew | exact (HB0.out.alloc HB0.out.size _).drew | exact ((HB0.out.alloc HB0.out.size _).alloc (le_al HB0.out.size) _).drew)).mono ?_); rintro e w4 ⟨vc, rfl, hrow, hb4⟩; obtain ⟨hc4, hf4⟩ := bcell hb4; have hs4 := hb4.size; (try simp only [size_drew] at hs4); (try simp only [World.size_alloc] at hs4); (try simp only [size_setCell'] at hs4); (try have le4_0 : W0.heap.size ≤ w4.heap.size := (by omega)); (try have lt4_0 : W0.heap.size < w4.heap.size := (by omega)); (try have le4_1 : w1.heap.size ≤ w4.heap.size := (by omega)); (try have lt4_1 : w1.heap.size < w4.heap.size := (by omega)); (try have le4_2 : w2.heap.size ≤ w4.heap.size := (by omega)); (try have lt4_2 : w2.heap.size < w4.heap.size := (by omega)); (try have le4_3 : w3.heap.size ≤ w4.heap.size := (by omega)); (try have lt4_3 : w3.heap.size < w4.heap.size := (by omega)); have HB4 : Hid (Below W0.heap.size W0 w4) := Lib.hid (Below.trans (by first | exact HB3.out | exact HB3.out.alloc HB3.out.size _ | exact (HB3.out.alloc HB3.out.size _).alloc (le_al HB3.out.size) _ | exact ((HB3.out.alloc HB3.out.size _).alloc (le_al HB3.out.size) _).alloc (le_al (le_al HB3.out.size)) _ | exact HB3.out.drew | exact (HB3.out.alloc HB3.out.size _).drew | exact ((HB3.out.alloc HB3.out.size _).alloc (le_al HB3.out.size) _).drew | exact HB2.out | exact HB2.out.alloc HB2.out.size _ | exact (HB2.out.alloc HB2.out.size _).alloc (le_al HB2.out.size) _ | exact ((HB2.out.alloc HB2.out.size _).alloc (le_al HB2.out.size) _).alloc (le_al (le_al HB2.out.size)) _ | exact HB2.out.drew | exact (HB2.out.alloc HB2.out.size _).drew | exact ((HB2.out.alloc HB2.out.size _).alloc (le_al HB2.out.size) _).drew | exact HB1.out | exact HB1.out.alloc HB1.out.size _ | exact (HB1.out.alloc HB1.out.size _).alloc (le_al HB1.out.size) _ | exact ((HB1.out.alloc HB1.out.size _).alloc (le_al HB1.out.size) _).alloc (le_al (le_al HB1.out.size)) _ | exact HB1.out.drew | exact (HB1.out.alloc HB1.out.size _).drew | exact ((HB1.out.alloc HB1.out.size _).alloc (le_al HB1.out.size) _).drew | exact HB0.out | exact HB0.out.alloc HB0.out.size _ | exact (HB0.out.alloc HB0.out.size _).alloc (le_al HB0.out.size) _ | exact ((HB0.out.alloc HB0.out.size _).alloc (le_al HB0.out.size) _).alloc (le_al (le_al HB0.out.size)) _ | exact HB0.out.drew | exact (HB0.out.alloc HB0.out.size _).drew | exact ((HB0.out.alloc HB0.out.size _).alloc (le_al HB0.out.size) _).drew) (hb4.mono (by (try simp only [size_drew]); (try simp only [World.size_alloc]); (try simp only [size_setCell']); omega))); have HN4 := Lib.hid hb4; clear hb4 hs4; have HR4 := Lib.hid hrow; obtain ⟨ca, cn, cc, rfl⟩ := row_form hrow; clear hrow)
          | (go_at_call 178; have ha := HIA.out w4 w3.heap.size _ HR4.out HB4.out (Nat.le_refl _) HN4.out.size; with_reducible refine Calls.mono ha ?_; rintro e w5 ⟨v5, rfl, hrow5, hb5⟩; have HR5 := Lib.hid hrow5; have HB5 := Lib.hid hb5; clear hrow5 hb5 ha)
          | (go_at_call 178; have ha := HIB.out w4 _ _ HR4.out HB4.out (by simp) HN4.out.size (HXB.out w4 ((w3.alloc (.cells #[.int .i64 o.stamp.t, .int .i64 o.stamp.r, .int .i64 o.kind, .int .i64 o.at_.t, .int .i64 o.at_.r, .int .i64 o.ino.t, .int .i64 o.ino.r, .int .i64 o.to.t, .int .i64 o.to.r, .string o.name, .string o.new, .int .i64 o.off, .string o.data] 42)).drew) rfl HN4.out); with_reducible refine Calls.mono ha ?_; rintro e w5 ⟨v5, rfl, hrow5, hb5⟩; have HR5 := Lib.hid hrow5; have HB5 := Lib.hid hb5; clear hrow5 hb5 ha))
        all_goals go_wp2
        all_goals (go_ret3; exact ⟨_, rfl, (fun e => by cases e), (fun _ => HR5.out HPB.out), HW.out.1.trans (HB5.out.mono HW.out.1.size)⟩)
    · have hkd : decide ((k : Int) < (l.length : Int)) = false := decide_eq_false (by omega)
      have hkd2 : decide (k < l.length) = false := decide_eq_false hk
      have hhit' : putB l o = true := by rw [hhit, decide_eq_false hk]; rfl
      rw [hhit']
      have HPB : Hid (putB l o = true) := Lib.hid hhit'
      clear hhit hhit' hk HPI
      go_enter Tryz.func140, Tryz.ntmps140
      go_wp2_with fail
      rw [← hW0]
      clear hW0
      obtain ⟨⟨_, _, _, _, _, _, _, _, _, _, _, _, _, _⟩, _⟩ := HJ.out W0 HB0.out
      go_wp2_with fail
      refine (HM.out _).mono ?_
      rintro e w1 ⟨rfl, hb1⟩
      obtain ⟨hc1, hf1⟩ := bcell hb1
      have hs1 := hb1.size
      try simp only [size_drew] at hs1
      try simp only [World.size_alloc] at hs1
      try simp only [size_setCell'] at hs1
      try have le1_0 : W0.heap.size ≤ w1.heap.size := (by omega)
      try have lt1_0 : W0.heap.size < w1.heap.size := (by omega)
      have HB1 : Hid (Below W0.heap.size W0 w1) := Lib.hid (Below.trans (by first | exact HB0.out | exact HB0.out.alloc HB0.out.size _ | exact (HB0.out.alloc HB0.out.size _).alloc (le_al HB0.out.size) _ | exact ((HB0.out.alloc HB0.out.size _).alloc (le_al HB0.out.size) _).alloc (le_al (le_al HB0.out.size)) _ | exact HB0.out.drew | exact (HB0.out.alloc HB0.out.size _).drew | exact ((HB0.out.alloc HB0.out.size _).alloc (le_al HB0.out.size) _).drew) (hb1.mono (by (try simp only [size_drew]); (try simp only [World.size_alloc]); (try simp only [size_setCell']); omega)))
      have HN1 := Lib.hid hb1
      clear hb1 hs1
      have HV1 := Lib.hid (HJ.out _ HB1.out)
      obtain ⟨⟨_, _, _, _, _, _, _, _, _, _, _, _, _, _⟩, _⟩ := HV1.out
      go_wp2_with fail
      refine (HSE.out _ (by first | exact HB1.out | exact HB1.out.alloc HB1.out.size _ | exact (HB1.out.alloc HB1.out.size _).alloc (le_al HB1.out.size) _ | exact ((HB1.out.alloc HB1.out.size _).alloc (le_al HB1.out.size) _).alloc (le_al (le_al HB1.out.size)) _ | exact HB1.out.drew | exact (HB1.out.alloc HB1.out.size _).drew | exact ((HB1.out.alloc HB1.out.size _).alloc (le_al HB1.out.size) _).drew | exact HB0.out | exact HB0.out.alloc HB0.out.size _ | exact (HB0.out.alloc HB0.out.size _).alloc (le_al HB0.out.size) _ | exact ((HB0.out.alloc HB0.out.size _).alloc (le_al HB0.out.size) _).alloc (le_al (le_al HB0.out.size)) _ | exact HB0.out.drew | exact (HB0.out.alloc HB0.out.size _).drew | exact ((HB0.out.alloc HB0.out.size _).alloc (le_al HB0.out.size) _).drew)).mono ?_
      rintro e w2 ⟨rfl, hb2⟩
      obtain ⟨hc2, hf2⟩ := bcell hb2
      have hs2 := hb2.size
      try simp only [size_drew] at hs2
      try simp only [World.size_alloc] at hs2
      try simp only [size_setCell'] at hs2
      try have le2_0 : W0.heap.size ≤ w2.heap.size := (by omega)
      try have lt2_0 : W0.heap.size < w2.heap.size := (by omega)
      try have le2_1 : w1.heap.size ≤ w2.heap.size := (by omega)
      try have lt2_1 : w1.heap.size < w2.heap.size := (by omega)
      have HB2 : Hid (Below W0.heap.size W0 w2) := Lib.hid (Below.trans (by first | exact HB1.out | exact HB1.out.alloc HB1.out.size _ | exact (HB1.out.alloc HB1.out.size _).alloc (le_al HB1.out.size) _ | exact ((HB1.out.alloc HB1.out.size _).alloc (le_al HB1.out.size) _).alloc (le_al (le_al HB1.out.size)) _ | exact HB1.out.drew | exact (HB1.out.alloc HB1.out.size _).drew | exact ((HB1.out.alloc HB1.out.size _).alloc (le_al HB1.out.size) _).drew | exact HB0.out | exact HB0.out.alloc HB0.out.size _ | exact (HB0.out.alloc HB0.out.size _).alloc (le_al HB0.out.size) _ | exact ((HB0.out.alloc HB0.out.size _).alloc (le_al HB0.out.size) _).alloc (le_al (le_al HB0.out.size)) _ | exact HB0.out.drew | exact (HB0.out.alloc HB0.out.size _).drew | exact ((HB0.out.alloc HB0.out.size _).alloc (le_al HB0.out.size) _).drew) (hb2.mono (by (try simp only [size_drew]); (try simp only [World.size_alloc]); (try simp only [size_setCell']); omega)))
      have HN2 := Lib.hid hb2
      clear hb2 hs2
      have HV2 := Lib.hid (HJ.out _ HB2.out)
      obtain ⟨⟨_, _, _, _, _, _, _, _, _, _, _, _, _, _⟩, _⟩ := HV2.out
      go_wp2_with fail
      go_quiet (fail)
      go_wp2_with fail
      obtain ⟨w3, hw3⟩ : ∃ w3, w3 = w2.drewN nq := ⟨_, rfl⟩
      rw [← hw3]
      have HB3 : Hid (Below W0.heap.size W0 w3) := Lib.hid (by rw [hw3]; exact HB2.out.trans ⟨rfl, rfl, rfl, Nat.le_refl _, fun _ _ => rfl⟩)
      have le3_0 : W0.heap.size ≤ w3.heap.size := HB3.out.size
      clear hw3
      obtain ⟨⟨_, _, _, _, _, _, _, _, _, _, _, _, _, _⟩, _⟩ := HJ.out w3 HB3.out
      have HIA : Hid (∀ (w4 : World) (B4 : Nat) (v4 : Value), w4.ownsRow B4 42 13 v4 l.length (l.flatMap Op.cells) → Below W0.heap.size W0 w4 → w3.heap.size ≤ B4 → B4 ≤ w4.heap.size → Calls Tryz.prog 178 #[v4, .int .i64 k, .slice (some ⟨w4.heap.size, 0, none⟩) 1 1] (w4.alloc (.cells #[.int .i64 o.stamp.t, .int .i64 o.stamp.r, .int .i64 o.kind, .int .i64 o.at_.t, .int .i64 o.at_.r, .int .i64 o.ino.t, .int .i64 o.ino.r, .int .i64 o.to.t, .int .i64 o.to.r, .string o.name, .string o.new, .int .i64 o.off, .string o.data] 42)) (fun e w' => ∃ v', e = .returned v' ∧ (putB l o = true → w'.ownsRow w.heap.size 42 13 v' (putOp l o).length ((putOp l o).flatMap Op.cells)) ∧ Below W0.heap.size W0 w')) := Lib.hid fun w4 B4 v4 h1 h2 h3 h4 =>
        (HI.out (w4.alloc (.cells #[.int .i64 o.stamp.t, .int .i64 o.stamp.r, .int .i64 o.kind, .int .i64 o.at_.t, .int .i64 o.at_.r, .int .i64 o.ino.t, .int .i64 o.ino.r, .int .i64 o.to.t, .int .i64 o.to.r, .string o.name, .string o.new, .int .i64 o.off, .string o.data] 42)) w4 w4.heap.size v4 B4 h1 (by have := HW.out.2; omega) (by simp only [World.size_alloc]; omega) (fun j _ hj => Below.heap_alloc _ _ j hj) (HX.out _) (.inr (Nat.le_refl _))).mono fun e w' ⟨v', k1, k2, k3⟩ => ⟨v', k1, k2, (h2.alloc h2.size _).trans (k3.mono (by omega))⟩
      have HIB : Hid (∀ (w4 : World) (B4 : Nat) (v4 : Value), w4.ownsRow B4 42 13 v4 l.length (l.flatMap Op.cells) → Below W0.heap.size W0 w4 → w3.heap.size < B4 → B4 ≤ w4.heap.size → w4.heap[w3.heap.size]? = some (.cells o.cells.toArray 42 (0, 0)) → Calls Tryz.prog 178 #[v4, .int .i64 k, .slice (some ⟨w3.heap.size, 0, none⟩) 1 1] w4 (fun e w' => ∃ v', e = .returned v' ∧ (putB l o = true → w'.ownsRow w.heap.size 42 13 v' (putOp l o).length ((putOp l o).flatMap Op.cells)) ∧ Below W0.heap.size W0 w')) := Lib.hid fun w4 B4 v4 h1 h2 h3 h4 h5 =>
        (HI.out w4 w4 w3.heap.size v4 B4 h1 (by have := HW.out.2; omega) h4 (fun j _ hj => rfl) h5 (.inl h3)).mono fun e w' ⟨v', k1, k2, k3⟩ => ⟨v', k1, k2, h2.trans (k3.mono (by omega))⟩
      have HXB : Hid (∀ (w4 V : World), V.heap = (w3.alloc (.cells #[.int .i64 o.stamp.t, .int .i64 o.stamp.r, .int .i64 o.kind, .int .i64 o.at_.t, .int .i64 o.at_.r, .int .i64 o.ino.t, .int .i64 o.ino.r, .int .i64 o.to.t, .int .i64 o.to.r, .string o.name, .string o.new, .int .i64 o.off, .string o.data] 42)).heap → Below V.heap.size V w4 → w4.heap[w3.heap.size]? = some (.cells o.cells.toArray 42 (0, 0))) := Lib.hid fun w4 V h1 h2 => (h2.block _ (by rw [h1]; simp)).trans (by rw [h1]; exact HX.out w3)
      go_region_held3 (fun W : World => W.cell? ⟨w.heap.size, 0, none⟩ = some (.slice a l.length c) ∧ W.cell? ⟨w.heap.size + 1, 0, none⟩ = some (.int .i64 o.stamp.t) ∧ W.cell? ⟨w.heap.size + 1, 1, none⟩ = some (.int .i64 o.stamp.r) ∧ W.cell? ⟨w.heap.size + 1, 2, none⟩ = some (.int .i64 o.kind) ∧ W.cell? ⟨w.heap.size + 1, 3, none⟩ = some (.int .i64 o.at_.t) ∧ W.cell? ⟨w.heap.size + 1, 4, none⟩ = some (.int .i64 o.at_.r) ∧ W.cell? ⟨w.heap.size + 1, 5, none⟩ = some (.int .i64 o.ino.t) ∧ W.cell? ⟨w.heap.size + 1, 6, none⟩ = some (.int .i64 o.ino.r) ∧ W.cell? ⟨w.heap.size + 1, 7, none⟩ = some (.int .i64 o.to.t) ∧ W.cell? ⟨w.heap.size + 1, 8, none⟩ = some (.int .i64 o.to.r) ∧ W.cell? ⟨w.heap.size + 1, 9, none⟩ = some (.string o.name) ∧ W.cell? ⟨w.heap.size + 1, 10, none⟩ = some (.string o.new) ∧ W.cell? ⟨w.heap.size + 1, 11, none⟩ = some (.int .i64 o.off) ∧ W.cell? ⟨w.heap.size + 1, 12, none⟩ = some (.string o.data)) (first | exact (HJ.out _ (by first | exact HB5.out | exact HB5.out.alloc HB5.out.size _ | exact (HB5.out.alloc HB5.out.size _).alloc (le_al HB5.out.size) _ | exact ((HB5.out.alloc HB5.out.size _).alloc (le_al HB5.out.size) _).alloc (le_al (le_al HB5.out.size)) _ | exact HB5.out.drew | exact (HB5.out.alloc HB5.out.size _).drew | exact ((HB5.out.alloc HB5.out.size _).alloc (le_al HB5.out.size) _).drew | exact HB4.out | exact HB4.out.alloc HB4.out.size _ | exact (HB4.out.alloc HB4.out.size _).alloc (le_al HB4.out.size) _ | exact ((HB4.out.alloc HB4.out.size _).alloc (le_al HB4.out.size) _).alloc (le_al (le_al HB4.out.size)) _ | exact HB4.out.drew | exact (HB4.out.alloc HB4.out.size _).drew | exact ((HB4.out.alloc HB4.out.size _).alloc (le_al HB4.out.size) _).drew | exact HB3.out | exact HB3.out.alloc HB3.out.size _ | exact (HB3.out.alloc HB3.out.size _).alloc (le_al HB3.out.size) _ | exact ((HB3.out.alloc HB3.out.size _).alloc (le_al HB3.out.size) _).alloc (le_al (le_al HB3.out.size)) _ | exact HB3.out.drew | exact (HB3.out.alloc HB3.out.size _).drew | exact ((HB3.out.alloc HB3.out.size _).alloc (le_al HB3.out.size) _).drew)).1 | go_keep) (first
        | (go_at_call 179; (with_reducible refine (HC.out _ (by first | exact HB3.out | exact HB3.out.alloc HB3.out.size _ | exact (HB3.out.alloc HB3.out.size _).alloc (le_al HB3.out.size) _ | exact ((HB3.out.alloc HB3.out.size _).alloc (le_al HB3.out.size) _).alloc (le_al (le_al HB3.out.size)) _ | exact HB3.out.drew | exact (HB3.out.alloc HB3.out.size _).drew | exact ((HB3.out.alloc HB3.out.size _).alloc (le_al HB3.out.size) _).drew | exact HB2.out | exact HB2.out.alloc HB2.out.size _ | exact (HB2.out.alloc HB2.out.size _).alloc (le_al HB2.out.size) _ | exact ((HB2.out.alloc HB2.out.size _).alloc (le_al HB2.out.size) _).alloc (le_al (le_al HB2.out.size)) _ | exact HB2.out.drew | exact (HB2.out.alloc HB2.out.size _).drew | exact ((HB2.out.alloc HB2.out.size _).alloc (le_al HB2.out.size) _).drew | exact HB1.out | exact HB1.out.alloc HB1.out.size _ | exact (HB1.out.alloc HB1.out.size _).alloc (le_al HB1.out.size) _ | exact ((HB1.out.alloc HB1.out.size _).alloc (le_al HB1.out.size) _).alloc (le_al (le_al HB1.out.size)) _ | exact HB1.out.drew | exact (HB1.out.alloc HB1.out.size _).drew | exact ((HB1.out.alloc HB1.out.size _).alloc (le_al HB1.out.size) _).drew | exact HB0.out | exact HB0.out.alloc HB0.out.size _ | exact (HB0.out.alloc HB0.out.size _).alloc (le_al HB0.out.size) _ | exact ((HB0.out.alloc HB0.out.size _).alloc (le_al HB0.out.size) _).alloc (le_al (le_al HB0.out.size)) _ | exact HB0.out.drew | exact (HB0.out.alloc HB0.out.size _).drew | exact ((HB0.out.alloc HB0.out.size _).alloc (le_al HB0.out.size) _).drew)).mono ?_); rintro e w4 ⟨vc, rfl, hrow, hb4⟩; obtain ⟨hc4, hf4⟩ := bcell hb4; have hs4 := hb4.size; (try simp only [size_drew] at hs4); (try simp only [World.size_alloc] at hs4); (try simp only [size_setCell'] at hs4); (try have le4_0 : W0.heap.size ≤ w4.heap.size := (by omega)); (try have lt4_0 : W0.heap.size < w4.heap.size := (by omega)); (try have le4_1 : w1.heap.size ≤ w4.heap.size := (by omega)); (try have lt4_1 : w1.heap.size < w4.heap.size := (by omega)); (try have le4_2 : w2.heap.size ≤ w4.heap.size := (by omega)); (try have lt4_2 : w2.heap.size < w4.heap.size := (by omega)); (try have le4_3 : w3.heap.size ≤ w4.heap.size := (by omega)); (try have lt4_3 : w3.heap.size < w4.heap.size := (by omega)); have HB4 : Hid (Below W0.heap.size W0 w4) := Lib.hid (Below.trans (by first | exact HB3.out | exact HB3.out.alloc HB3.out.size _ | exact (HB3.out.alloc HB3.out.size _).alloc (le_al HB3.out.size) _ | exact ((HB3.out.alloc HB3.out.size _).alloc (le_al HB3.out.size) _).alloc (le_al (le_al HB3.out.size)) _ | exact HB3.out.drew | exact (HB3.out.alloc HB3.out.size _).drew | exact ((HB3.out.alloc HB3.out.size _).alloc (le_al HB3.out.size) _).drew | exact HB2.out | exact HB2.out.alloc HB2.out.size _ | exact (HB2.out.alloc HB2.out.size _).alloc (le_al HB2.out.size) _ | exact ((HB2.out.alloc HB2.out.size _).alloc (le_al HB2.out.size) _).alloc (le_al (le_al HB2.out.size)) _ | exact HB2.out.drew | exact (HB2.out.alloc HB2.out.size _).drew | exact ((HB2.out.alloc HB2.out.size _).alloc (le_al HB2.out.size) _).drew | exact HB1.out | exact HB1.out.alloc HB1.out.size _ | exact (HB1.out.alloc HB1.out.size _).alloc (le_al HB1.out.size) _ | exact ((HB1.out.alloc HB1.out.size _).alloc (le_al HB1.out.size) _).alloc (le_al (le_al HB1.out.size)) _ | exact HB1.out.drew | exact (HB1.out.alloc HB1.out.size _).drew | exact ((HB1.out.alloc HB1.out.size _).alloc (le_al HB1.out.size) _).drew | exact HB0.out | exact HB0.out.alloc HB0.out.size _ | exact (HB0.out.alloc HB0.out.size _).alloc (le_al HB0.out.size) _ | exact ((HB0.out.alloc HB0.out.size _).alloc (le_al HB0.out.size) _).alloc (le_al (le_al HB0.out.size)) _ | exact HB0.out.drew | exact (HB0.out.alloc HB0.out.size _).drew | exact ((HB0.out.alloc HB0.out.size _).alloc (le_al HB0.out.size) _).drew) (hb4.mono (by (try simp only [size_drew]); (try simp only [World.size_alloc]); (try simp only [size_setCell']); omega))); have HN4 := Lib.hid hb4; clear hb4 hs4; have HR4 := Lib.hid hrow; obtain ⟨ca, cn, cc, rfl⟩ := row_form hrow; clear hrow)
        | (go_at_call 178; have ha := HIA.out w4 w3.heap.size _ HR4.out HB4.out (Nat.le_refl _) HN4.out.size; with_reducible refine Calls.mono ha ?_; rintro e w5 ⟨v5, rfl, hrow5, hb5⟩; have HR5 := Lib.hid hrow5; have HB5 := Lib.hid hb5; clear hrow5 hb5 ha)
        | (go_at_call 178; have ha := HIB.out w4 _ _ HR4.out HB4.out (by simp) HN4.out.size (HXB.out w4 ((w3.alloc (.cells #[.int .i64 o.stamp.t, .int .i64 o.stamp.r, .int .i64 o.kind, .int .i64 o.at_.t, .int .i64 o.at_.r, .int .i64 o.ino.t, .int .i64 o.ino.r, .int .i64 o.to.t, .int .i64 o.to.r, .string o.name, .string o.new, .int .i64 o.off, .string o.data] 42)).drew) rfl HN4.out); with_reducible refine Calls.mono ha ?_; rintro e w5 ⟨v5, rfl, hrow5, hb5⟩; have HR5 := Lib.hid hrow5; have HB5 := Lib.hid hb5; clear hrow5 hb5 ha))
      all_goals go_wp2
      all_goals (go_ret3; exact ⟨_, rfl, (fun e => by cases e), (fun _ => HR5.out HPB.out), HW.out.1.trans (HB5.out.mono HW.out.1.size)⟩)
end Go.Proofs.YtfbjiaedfmdcfaaGreatDoor

/-! ## OpFine -/
namespace Go.Proofs.YtfbjiaedfmdcfaaGreatDoor

section
variable {g : Gr}
/-! ### what is fine, the audit calls fine -/
end
end Go.Proofs.YtfbjiaedfmdcfaaGreatDoor
