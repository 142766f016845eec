/-
  path.Home; condition: the graph is in order. · path.Find at no graph; no condition but the path's length.
-/
import Derived.Test.YtfbjiaedfmdcfaaGreatDoorKY44
import Derived.Test.YtfbjiaedfmdcfaaGreatDoorKY28
import Derived.Test.YtfbjiaedfmdcfaaGreatDoorKY32
import Derived.Test.YtfbjiaedfmdcfaaGreatDoorKY31
/-! ## PathL -/
namespace Go.Proofs.YtfbjiaedfmdcfaaGreatDoor
open Go.RowKit Go.Shelf Go.Proofs

/-- a list of entries is made anew -/
def ListsOwn (gb : Nat) (g : Gr) (w : World) : Prop := ∀ (id : St) W, Below w.heap.size w W →
  Calls Tryz.prog 72 #[.pointer (some ⟨gb, 0, none⟩), (.agg #[.int .i64 id.t, .int .i64 id.r])] W fun e w' => ∃ a c, e = .returned (.slice a (g.list id).length c) ∧ w'.ownsRow W.heap.size 125 5 (.slice a (g.list id).length c) (g.list id).length ((g.list id).flatMap Ent.cells) ∧ Below W.heap.size W w'
theorem GrAt.listsOwn {w : World} {gb mI mE : Nat} {g : Gr} (h : GrAt w gb mI mE g) (hok : g.Ok) (hl : g.e.length ≤ 1000) : ListsOwn gb g w :=
  fun id W hW => (list_any gb mI mE g id W (h.below hW) hok.se hl).mono fun x w' ⟨v, a, b, c⟩ => by
    obtain ⟨p, q, rfl⟩ := (slAt_own b).len
    exact ⟨p, q, a, b, c⟩
theorem ListsOwn.below {gb : Nat} {g : Gr} {w w' : World} (h : ListsOwn gb g w) (hb : Below w.heap.size w w') : ListsOwn gb g w' := fun id W hW => h id W (hb.trans (hW.mono hb.size))

theorem cellsEntF {w : World} {zs : List Ent} {b off : Nat} (hc : ∀ j, j < zs.length → ∀ i u, (Ent.cells zs[j]!)[i]? = some u → w.cell? ⟨b, off + j * 5 + i, none⟩ = some u) (j : Nat) (hj : j < zs.length) :
    w.cell? ⟨b, off + j * 5, none⟩ = some (.int .i64 zs[j]!.at_.t) ∧ w.cell? ⟨b, off + j * 5 + 1, none⟩ = some (.int .i64 zs[j]!.at_.r) ∧ w.cell? ⟨b, off + j * 5 + 2, none⟩ = some (.string zs[j]!.name) ∧ w.cell? ⟨b, off + j * 5 + 3, none⟩ = some (.int .i64 zs[j]!.ino.t) ∧ w.cell? ⟨b, off + j * 5 + 4, none⟩ = some (.int .i64 zs[j]!.ino.r) :=
  ⟨hc j hj 0 _ rfl, hc j hj 1 _ rfl, hc j hj 2 _ rfl, hc j hj 3 _ rfl, hc j hj 4 _ rfl⟩

/-- inside a round: wr the world at its head, w2 behind the list -/
structure HomeIn (w wr w2 : World) (v : Value) (l : List ByteArray) (wi : World) : Prop where
  below : Below w.heap.size w wi
  size : w2.heap.size ≤ wi.heap.size
  same : ∀ k, k < w2.heap.size → (k = w.heap.size ∨ wr.heap.size ≤ k) → wi.heap[k]? = w2.heap[k]?
  row : wi.ownsRow (w.heap.size + 1) 9 1 v l.length (l.map Value.string)
theorem HomeIn.alloc {w wr w2 : World} {v : Value} {l : List ByteArray} {wi : World} (h : HomeIn w wr w2 v l wi) (o : Obj) : HomeIn w wr w2 v l (wi.alloc o) :=
  ⟨h.below.alloc h.below.size o, by have := h.size; simp only [World.size_alloc]; omega, fun k hk hc => (Below.heap_alloc _ _ _ (Nat.lt_of_lt_of_le hk h.size)).trans (h.same k hk hc), h.row.alloc o⟩
theorem HomeIn.app {w wr w2 : World} {v v' : Value} {l l' : List ByteArray} {wi w6 : World} (h : HomeIn w wr w2 v l wi) (hv : ∀ k, v.ownBlock = some k → k < wr.heap.size) (hg : wi.grownBy w6 v.ownBlock) (hr : w6.ownsRow (w.heap.size + 1) 9 1 v' l'.length (l'.map Value.string)) : HomeIn w wr w2 v' l' w6 := by
  have hge := fun k e => (h.row.lt k e).1
  refine ⟨h.below.grown hg h.below.size fun k e => by have := hge k e; omega, Nat.le_trans h.size hg.size, fun k hk hc => (hg.block k (Nat.lt_of_lt_of_le hk h.size) ?_).trans (h.same k hk hc), hr⟩
  intro e
  have h1 := hge k e.symm
  have h2 := hv k e.symm
  omega

theorem ownsRowP_below {W W' : World} {base : Nat} {t : TypeId} {size : Nat} {v : Value} {k : Nat} {xs : List Value} (h : W.ownsRow base t size v k xs) (hn : Below W.heap.size W W') : W'.ownsRow base t size v k xs :=
  h.kept (row := none) ⟨hn.os, hn.tape, hn.output, hn.size, fun j hj _ => hn.block j hj⟩ (by
    rcases h.2 with ⟨rfl, _⟩ | ⟨g, cap, cur, rfl, _⟩
    · exact .inl rfl
    · exact .inr (by simp [Value.ownBlock]))
theorem ownsRow_set {W : World} {base : Nat} {t : TypeId} {size : Nat} {v : Value} {k : Nat} {xs : List Value} (h : W.ownsRow base t size v k xs) {b : Nat} (hb : b < base) (u : Value) (i : Nat) : (W.setCell ⟨b, i, none⟩ u).ownsRow base t size v k xs :=
  h.kept (row := some b) ⟨rfl, rfl, rfl, by simp, fun j _ hn => Below.heap_setCell _ _ _ j (fun e => hn (by rw [e]))⟩ (by
    rcases h.2 with ⟨rfl, _⟩ | ⟨g, cap, cur, rfl, hg, _⟩
    · exact .inl rfl
    · exact .inr (by simp [Value.ownBlock]; omega))
theorem ownsRow_slice {W : World} {base : Nat} {t : TypeId} {size : Nat} {v : Value} {k : Nat} {xs : List Value} (h : W.ownsRow base t size v k xs) : ∃ a c, v = .slice a k c := by
  rcases h.2 with ⟨rfl, rfl⟩ | ⟨g, cap, cur, rfl, _⟩ <;> exact ⟨_, _, rfl⟩
theorem neq_root (z : St) (w : World) : (binOp .neq 26 (.agg #[.int .i64 z.t, .int .i64 z.r]) (.agg #[.int .i64 0, .int .i64 0])).run Tryz.prog w = .ok (.bool (!decide (z = ⟨0, 0⟩))) w := neq_st z ⟨0, 0⟩ w

theorem pick_app (z : St) (a b : List Ent) : pick z (a ++ b) = pick z a ++ pick z b := by unfold pick; rw [List.filter_append, List.map_append]
theorem pick_take {z : St} {Z : List Ent} {i : Nat} (hi : i < Z.length) : pick z (Z.take (i + 1)) = pick z (Z.take i) ++ if Z[i]!.ino = z then [Z[i]!.name] else [] := by
  rw [← pick_snoc, getElem!_pos Z i hi, List.take_succ_eq_append_getElem hi]
theorem pick_first {z : St} {Z : List Ent} {i : Nat} (hi : i < Z.length) (h1 : (pick z Z).length ≤ 1) (hm : Z[i]!.ino = z) : pick z (Z.take i) = [] := by
  have h2 := pick_take (z := z) hi
  rw [if_pos hm] at h2
  have h3 : pick z Z = pick z (Z.take (i + 1)) ++ pick z (Z.drop (i + 1)) := by rw [← pick_app, List.take_append_drop]
  rw [h3, h2] at h1
  simp only [List.length_append, List.length_cons, List.length_nil] at h1
  exact List.eq_nil_of_length_eq_zero (by omega)

set_option maxRecDepth 100000 in
set_option maxHeartbeats 8000000 in
theorem home_any (gb : Nat) (g : Gr) (id : St) (w : World) (hR : Reads gb g w) (hL : ListsOwn gb g w) (hok : g.Ok) :
    Calls Tryz.prog 37 #[.pointer (some ⟨gb, 0, none⟩), id.v] w fun e w' => e = .returned (.tuple #[.string (g.home id).1, .bool (g.home id).2]) ∧ Below w.heap.size w w' := by
  obtain ⟨i0, hinf, hz0, hz1, hz2⟩ := info_parts infoStr
  have HB0 : Hid (Below w.heap.size w (w.alloc (.cells #[.int .i64 id.t, .int .i64 id.r] 26))) := Lib.hid ((Below.refl _ w).alloc (Nat.le_refl _) _)
  have HGT := Lib.hid (fun W (hW : Below w.heap.size w W) => hR.get id _ _ W rfl rfl hW)
  have HUN := Lib.hid (fun W (hW : Below w.heap.size w W) => hR.under id ⟨0, 0⟩ _ W rfl hW)
  have HR := Lib.hid hR
  have HL := Lib.hid hL
  have HOK := Lib.hid hok
  unfold St.v
  have HHM : Hid (g.home id = if g.homeOk id then (homeText (g.ups id).reverse, true) else (⟨#[]⟩, false)) := Lib.hid rfl
  have HHO : Hid (g.homeOk id = ((g.get id).isSome && ((g.got id).kind == 1 && g.under id ⟨0, 0⟩))) := Lib.hid rfl
  clear hR hL hok
  generalize hi : g.got id = i at HGT HHO
  generalize hs : (g.get id).isSome = b at HGT HHO
  generalize hu : g.under id ⟨0, 0⟩ = u at HUN HHO
  have hcs : (b = false ∨ i.kind ≠ 1) ∨ (b = true ∧ i.kind = 1 ∧ u = false) ∨ (b = true ∧ i.kind = 1 ∧ u = true) := by
    cases b <;> cases u <;> by_cases h : i.kind = 1 <;> simp [h]
  have HGA : Hid (Calls Tryz.prog 33 #[.pointer (some ⟨gb, 0, none⟩), (.agg #[.int .i64 id.t, .int .i64 id.r])] (w.alloc (.cells #[.int .i64 id.t, .int .i64 id.r] 26)) fun x w' => x = .returned (.tuple #[(.agg #[.int .i64 i.id.t, .int .i64 i.id.r, .int .i64 i.kind, .int .i64 i.links, .int .i64 i.mode, .string i.data]), .bool b]) ∧ Below (w.alloc (.cells #[.int .i64 id.t, .int .i64 id.r] 26)).heap.size (w.alloc (.cells #[.int .i64 id.t, .int .i64 id.r] 26)) w') := Lib.hid (HGT.out _ HB0.out)
  rcases hcs with (rfl | hk) | ⟨rfl, hk, rfl⟩ | ⟨rfl, hk, rfl⟩
  · have hz : g.home id = (⟨#[]⟩, false) := by rw [HHM.out, HHO.out]; rfl
    rw [hz]
    clear hz hi hs hu HGT HUN
    go_enter Tryz.func37, Tryz.ntmps37
    go_wp2_with fail
    refine HGA.out.mono ?_
    rintro e w1 ⟨rfl, hb1⟩
    have HB1 : Hid (Below w.heap.size w w1) := Lib.hid (HB0.out.trans (hb1.mono HB0.out.size))
    clear hb1
    go_wp2
    go_ret2
    exact ⟨rfl, HB1.out.alloc HB1.out.size _⟩
  · have hz : g.home id = (⟨#[]⟩, false) := by
      rw [HHM.out, HHO.out]
      have : (i.kind == 1) = false := by simpa using hk
      rw [this]
      simp
    rw [hz]
    clear hz hi hs hu HGT HUN
    have hkb : (i.kind != 1) = true := by simpa using hk
    cases b with
    | false =>
      go_enter Tryz.func37, Tryz.ntmps37
      go_wp2_with fail
      refine HGA.out.mono ?_
      rintro e w1 ⟨rfl, hb1⟩
      have HB1 : Hid (Below w.heap.size w w1) := Lib.hid (HB0.out.trans (hb1.mono HB0.out.size))
      clear hb1
      go_wp2
      go_ret2
      exact ⟨rfl, HB1.out.alloc HB1.out.size _⟩
    | true =>
      go_enter Tryz.func37, Tryz.ntmps37
      go_wp2_with fail
      refine HGA.out.mono ?_
      rintro e w1 ⟨rfl, hb1⟩
      have HB1 : Hid (Below w.heap.size w w1) := Lib.hid (HB0.out.trans (hb1.mono HB0.out.size))
      clear hb1
      go_wp2
      go_ret2
      exact ⟨rfl, HB1.out.alloc HB1.out.size _⟩
  · have hz : g.home id = (⟨#[]⟩, false) := by
      rw [HHM.out, HHO.out]
      simp
    rw [hz]
    clear hz hi hs hu HGT
    go_enter Tryz.func37, Tryz.ntmps37
    go_wp2_with fail
    refine HGA.out.mono ?_
    rintro e w1 ⟨rfl, hb1⟩
    have HB1 : Hid (Below w.heap.size w w1) := Lib.hid (HB0.out.trans (hb1.mono HB0.out.size))
    have hx : w1.heap[w.heap.size]? = some (.cells #[.int .i64 id.t, .int .i64 id.r] 26) := (hb1.block w.heap.size (by simp)).trans (World.alloc_heap_new w _)
    have x0 := cell_atW hx 0 _ rfl
    have x1 := cell_atW hx 1 _ rfl
    have hl1 := (Array.getElem?_eq_some_iff.1 hx).1
    clear hb1 hx
    go_wp2_with fail
    refine (HUN.out _ (HB1.out.alloc HB1.out.size _)).mono ?_
    rintro e w2 ⟨rfl, hb2⟩
    have HB2 : Hid (Below w.heap.size w w2) := Lib.hid ((HB1.out.alloc HB1.out.size _).trans (hb2.mono (by have := HB1.out.size; simp only [World.size_alloc]; omega)))
    clear hb2
    go_wp2
    go_ret2
    exact ⟨rfl, HB2.out⟩
  · have HUD : Hid (g.Under ⟨0, 0⟩ id) := Lib.hid (Gr.under_iff.1 hu)
    have HDR : Hid (g.isDir id = true) := Lib.hid (by unfold Gr.isDir; rw [hs, hi, hk]; rfl)
    have HFR : Hid (g.home id = (homeText (g.ups id).reverse, true)) := Lib.hid (by rw [HHM.out, if_pos (by rw [HHO.out, hk]; rfl)])
    rw [HFR.out]
    clear hi hs hu HGT HHM HHO HFR
    go_enter Tryz.func37, Tryz.ntmps37
    go_wp2_with fail
    refine HGA.out.mono ?_
    rintro e w1 ⟨rfl, hb1⟩
    have HB1 : Hid (Below w.heap.size w w1) := Lib.hid (HB0.out.trans (hb1.mono HB0.out.size))
    have hx : w1.heap[w.heap.size]? = some (.cells #[.int .i64 id.t, .int .i64 id.r] 26) := (hb1.block w.heap.size (by simp)).trans (World.alloc_heap_new w _)
    have HX1 := Lib.hid hx
    have x0 := cell_atW hx 0 _ rfl
    have x1 := cell_atW hx 1 _ rfl
    have hl1 := (Array.getElem?_eq_some_iff.1 hx).1
    clear hb1 hx
    go_wp2_with fail
    refine (HUN.out _ (HB1.out.alloc HB1.out.size _)).mono ?_
    rintro e w2 ⟨rfl, hb2⟩
    have HB2 : Hid (Below w.heap.size w w2) := Lib.hid ((HB1.out.alloc HB1.out.size _).trans (hb2.mono (by have := HB1.out.size; simp only [World.size_alloc]; omega)))
    have hlt := (Array.getElem?_eq_some_iff.1 HX1.out).1
    have HX2 : Hid (w2.heap[w.heap.size]? = some (.cells #[.int .i64 id.t, .int .i64 id.r] 26)) := Lib.hid ((hb2.block w.heap.size (by simp only [World.size_alloc]; omega)).trans ((Below.heap_alloc w1 _ _ hlt).trans HX1.out))
    clear hb2 x0 x1 HX1 hlt hl1
    go_wp2
    go_loopg [8] (g.depth id) (fun gg s8 wr => ∃ (a : Option Addr) (c : Nat) (pre : List ByteArray) (z : St), s8 = .slice a pre.length c ∧ Aside (Below w.heap.size w wr) ∧ Aside (wr.heap[w.heap.size]? = some (.cells #[.int .i64 z.t, .int .i64 z.r] 26)) ∧ Aside (wr.ownsRow (w.heap.size + 1) 9 1 (.slice a pre.length c) pre.length (pre.map Value.string)) ∧ Aside (g.Under ⟨0, 0⟩ z ∧ pre ++ g.ups z = g.ups id) ∧ g.depth z ≤ gg)
    case atStart => exact ⟨none, 0, [], id, rfl, (show Aside _ from HB2.out), (show Aside _ from HX2.out), (show Aside _ from World.ownsRow_nil _ _ _ _), (show Aside _ from ⟨HUD.out, rfl⟩), Nat.le_refl _⟩
    case round =>
      obtain ⟨ra, rc, pre, z, rfl, hB, hX, hW, hP, hgg⟩ := hrel
      have HBR := Lib.hid hB.out
      have HXR := Lib.hid hX.out
      have HRW := Lib.hid hW.out
      have HUZ := Lib.hid hP.out.1
      have HUP := Lib.hid hP.out.2
      have hx := hX.out
      have x0 := cell_atW hx 0 _ rfl
      have x1 := cell_atW hx 1 _ rfl
      have hl1 := (Array.getElem?_eq_some_iff.1 hx).1
      clear hB hX hW hP hx
      by_cases hz : z = ⟨0, 0⟩
      · have hne : ∀ w, (binOp .neq 26 (.agg #[.int .i64 z.t, .int .i64 z.r]) (.agg #[.int .i64 0, .int .i64 0])).run Tryz.prog w = .ok (.bool false) w := fun w => by rw [neq_root, decide_eq_true hz]; rfl
        have HE : Hid (pre = g.ups id) := Lib.hid (by have := HUP.out; rw [hz, g.ups_root, List.append_nil] at this; exact this)
        clear hz
        have hpl : pre.length ≤ 40 := by rw [HE.out]; exact Nat.le_trans (HOK.out.ups_len HUD.out) (HOK.out.depth_le id)
        have hns : ∀ x ∈ pre.reverse, x.size ≤ 8 := fun x hx => (nameOk_bytes (HOK.out.ups_names HUD.out x (by rw [← HE.out]; exact List.mem_reverse.1 hx))).1
        have hjl := join_len pre.reverse hns
        rw [List.length_reverse] at hjl
        have HRV := Lib.hid (rev_any (w.heap.size + 1) (.slice ra pre.length rc) pre wr HRW.out hl1 (by omega))
        have HJN := Lib.hid (fun W (h : TxAt W (.slice ra pre.length rc) pre.reverse) => join_any _ pre.reverse W h (by rw [List.length_reverse]; omega) (by omega))
        generalize hJ : bsOf (Lib.join (pre.reverse.map (·.data.toList)) [47]) = J at HJN
        have hj9 : ¬ 9223372036854775807 < 1 + J.size := by rw [← hJ, bsOf_size]; omega
        clear hns
        go_wp2_with fail
        refine HRV.out.mono ?_
        rintro e w3 ⟨rfl, ht3, hb3⟩
        have HT3 := Lib.hid ht3
        have HB3 : Hid (Below w.heap.size w w3) := Lib.hid (HBR.out.trans (hb3.mono (by omega)))
        clear ht3 hb3
        go_wp2_with fail
        refine (HJN.out _ HT3.out).mono ?_
        rintro e w4 ⟨rfl, hb4⟩
        have HB4 : Hid (Below w.heap.size w w4) := Lib.hid (HB3.out.trans (hb4.mono HB3.out.size))
        clear hb4
        go_wp2
        go_ret2
        rw [← HE.out, ← home_bytes, hJ]
        exact ⟨rfl, HB4.out⟩
      · have hne : ∀ w, (binOp .neq 26 (.agg #[.int .i64 z.t, .int .i64 z.r]) (.agg #[.int .i64 0, .int .i64 0])).run Tryz.prog w = .ok (.bool true) w := fun w => by rw [neq_root, decide_eq_false hz]; rfl
        obtain ⟨p, hp, hup⟩ : ∃ p, g.parent z = some p ∧ g.Under ⟨0, 0⟩ p := by
          rcases HUZ.out.inv with h | h
          · exact absurd h hz
          · exact h
        have HPA := Lib.hid (fun W (hW : Below w.heap.size w W) => HR.out.parent z p true W (by rw [hp]; rfl) (by rw [hp]; rfl) hW)
        have HPK := Lib.hid (HOK.out.ups_pick HUZ.out hz hp)
        have HP1 := Lib.hid (HOK.out.pick_one hp)
        have hdl := HOK.out.depth_up hp
        have HUQ := Lib.hid hup
        clear hz hp hup
        go_wp2_with fail
        refine (HPA.out _ HBR.out).mono ?_
        rintro e w5 ⟨rfl, hb5⟩
        have HB5 : Hid (Below w.heap.size w w5) := Lib.hid (HBR.out.trans (hb5.mono HBR.out.size))
        have HN5 := Lib.hid hb5
        clear hb5 x0 x1
        go_wp2_with fail
        refine (HL.out p _ (HB5.out.alloc HB5.out.size _)).mono ?_
        rintro e w6 ⟨a6, c6, rfl, ho6, hb6⟩
        have HO6 := Lib.hid ho6
        have hs5 : wr.heap.size ≤ w5.heap.size := HN5.out.size
        have hs6 : w5.heap.size + 1 ≤ w6.heap.size := by have := hb6.size; simpa using this
        have HB6 : Hid (Below wr.heap.size wr w6) := Lib.hid ((HN5.out.alloc HN5.out.size _).trans (hb6.mono (by simp only [World.size_alloc]; omega)))
        have HH6 : Hid (HomeIn w wr w6 (.slice ra pre.length rc) pre w6) := Lib.hid ⟨HBR.out.trans (HB6.out.mono HBR.out.size), Nat.le_refl _, fun _ _ _ => rfl, ownsRowP_below HRW.out HB6.out⟩
        have HX6 : Hid (w6.heap[w.heap.size]? = some (.cells #[.int .i64 z.t, .int .i64 z.r] 26)) := Lib.hid ((HB6.out.block _ hl1).trans HXR.out)
        have HY6 : Hid (w6.heap[w5.heap.size]? = some (.cells #[.int .i64 p.t, .int .i64 p.r] 26)) := Lib.hid ((hb6.block w5.heap.size (by simp)).trans (World.alloc_heap_new w5 _))
        have HRK : Hid (∀ k, Value.ownBlock (.slice ra pre.length rc) = some k → k < wr.heap.size) := Lib.hid fun k e => (HRW.out.lt k e).2
        clear ho6 hb6
        generalize hZ : g.list p = Z at *
        go_wp2
        obtain ⟨wo, hwo⟩ : ∃ wo, wo = wr := ⟨_, rfl⟩
        subst hwo
        go_loopg [8, 46] Z.length (fun gg s8 s46 wi => ∃ (i : Nat) (a : Option Addr) (c : Nat) (l : List ByteArray), s46 = .int .i64 i ∧ s8 = .slice a l.length c ∧ i ≤ Z.length ∧ Z.length - i ≤ gg ∧ Aside (HomeIn w wo w6 (.slice a l.length c) l wi) ∧ Aside (l = pre ++ pick z (Z.take i)) ∧ Aside (pick z (Z.take i) = [] → Value.slice a l.length c = .slice ra pre.length rc))
        case atStart => exact ⟨0, ra, rc, pre, rfl, rfl, Nat.zero_le _, Nat.le_refl _, (show Aside _ from HH6.out), (show Aside _ from (List.append_nil pre).symm), (show Aside _ from fun _ => rfl)⟩
        case round =>
          obtain ⟨i, va, vc, l, rfl, rfl, hil, hig, hH, hl, hv⟩ := hrel
          have HH := Lib.hid hH.out
          have HLQ := Lib.hid hl.out
          have HVQ := Lib.hid hv.out
          have hx : wr.heap[w.heap.size]? = some (.cells #[.int .i64 z.t, .int .i64 z.r] 26) := (HH.out.same w.heap.size (Array.getElem?_eq_some_iff.1 HX6.out).1 (.inl rfl)).trans HX6.out
          have hy : wr.heap[w5.heap.size]? = some (.cells #[.int .i64 p.t, .int .i64 p.r] 26) := (HH.out.same w5.heap.size (Array.getElem?_eq_some_iff.1 HY6.out).1 (.inr hs5)).trans HY6.out
          have HYW := Lib.hid hy
          have HXW := Lib.hid hx
          have x0 := cell_atW hx 0 _ rfl
          have x1 := cell_atW hx 1 _ rfl
          have hlw := (Array.getElem?_eq_some_iff.1 hx).1
          clear hH hl hv
          by_cases hlt : i < Z.length
          · have hlti : (i : Int) < (Z.length : Int) := by omega
            have hi0 : (0 : Int) ≤ (i : Int) := by omega
            have hzl : Z.length ≤ 1000 := by
              rw [← hZ]; unfold Gr.list
              exact Nat.le_trans (List.length_filter_le _ _) (by have := HOK.out.few; omega)
            have hwi : IntKind.i64.wrap ((i : Int) + 1) = (i : Int) + 1 := wrapNat (i + 1) (by omega)
            obtain ⟨b, off, rfl, _, hcells⟩ := slAt_at (slAt_own HO6.out) hlt
            obtain ⟨hb1, hb2⟩ := HO6.out.lt b rfl
            rw [World.size_alloc] at hb1
            have hce : ∀ o, wr.cell? ⟨b, o, none⟩ = w6.cell? ⟨b, o, none⟩ := fun o => World.cell?_of_block (HH.out.same b hb2 (.inr (by omega)))
            obtain ⟨y0, y1, y2, y3, y4⟩ := cellsEntF hcells i hlt
            rw [← hce] at y0 y1 y2 y3 y4
            have hpt := pick_take (z := z) hlt
            have hpf := pick_first (z := z) hlt HP1.out
            have HPL : Hid (pre.length ≤ 40) := Lib.hid (by
              have := congrArg List.length HUP.out
              rw [List.length_append] at this
              have h1 := Nat.le_trans (HOK.out.ups_len HUD.out) (HOK.out.depth_le id)
              omega)
            clear hcells hce hb1 hb2 hx hy
            generalize Z[i]! = en at *
            have HPT := Lib.hid hpt
            by_cases hm : en.ino = z
            · have hq : ∀ w, (binOp .eql 26 (.agg #[.int .i64 en.ino.t, .int .i64 en.ino.r]) (.agg #[.int .i64 z.t, .int .i64 z.r])).run Tryz.prog w = .ok (.bool true) w := fun w => by rw [eql_st, decide_eq_true hm]
              have hnil := hpf hm
              have HL1 : Hid (l = pre) := Lib.hid (by rw [HLQ.out, hnil, List.append_nil])
              have HV1 : Hid (Value.slice va l.length vc = .slice ra pre.length rc) := Lib.hid (HVQ.out hnil)
              have HPN : Hid (pick z (Z.take (i + 1)) = [en.name]) := Lib.hid (by rw [HPT.out, hnil, if_pos hm]; rfl)
              have hcn : ∀ j u, (strCells en.name)[j]? = some u → ((wr.alloc (.cells #[.int .i64 en.at_.t, .int .i64 en.at_.r, .string en.name, .int .i64 en.ino.t, .int .i64 en.ino.r] 125)).alloc (.cells #[.string en.name] 9)).cell? ((⟨wr.heap.size + 1, 0, none⟩ : Addr).add j) = some u := by
                have := cells_new (wr.alloc (.cells #[.int .i64 en.at_.t, .int .i64 en.at_.r, .string en.name, .int .i64 en.ino.t, .int .i64 en.ino.r] 125)) (strCells en.name) 9
                rw [World.size_alloc] at this
                exact this
              have hll : l.length ≤ 40 := by rw [HL1.out]; exact HPL.out
              clear hpt hpf hm hnil
              go_wp2_with (at_builtin; refine wpList_append_own _ rfl _ _ 47 rfl (w.heap.size + 1) 9 i0 _ 1 16 Tryz.underlying47 hinf hz0 hz1 hz2 rfl (by decide) _ _ _ rfl ((HH.out.alloc _).alloc _).row ⟨wr.heap.size + 1, 0, none⟩ 1 1 (strCells en.name) rfl rfl hcn (by simp [strCells, Value.oneCell']) (by simp only [maxLen]; omega) (by omega) (by simp only [World.size_alloc]; omega) ?_; intro v' w7 hown' hgrow _; have HO7 := Lib.hid hown'; have HG7 := Lib.hid hgrow; obtain ⟨a7, c7, rfl⟩ := ownsRow_slice hown'; clear hown' hgrow)
              go_roundg (Z.length - (i + 1))
              case measure => omega
              case rel => exact ⟨i + 1, a7, c7, l ++ [en.name], by first | rfl | go_num, by rw [List.length_append]; rfl, by omega, Nat.le_refl _, (show Aside _ from by
                  have h7 := HO7.out
                  have h8 := ((HH.out.alloc (.cells #[.int .i64 en.at_.t, .int .i64 en.at_.r, .string en.name, .int .i64 en.ino.t, .int .i64 en.ino.r] 125)).alloc (.cells #[.string en.name] 9)).app (l' := l ++ [en.name]) (v' := .slice a7 (l ++ [en.name]).length c7) (by rw [HV1.out]; exact HRK.out) HG7.out (by
                    rw [List.length_append, List.map_append]
                    exact h7)
                  exact h8), (show Aside _ from (by rw [HPN.out, HL1.out] : l ++ [en.name] = pre ++ pick z (Z.take (i + 1)))), (show Aside _ from fun h => by rw [HPN.out] at h; cases h)⟩
            · have hq : ∀ w, (binOp .eql 26 (.agg #[.int .i64 en.ino.t, .int .i64 en.ino.r]) (.agg #[.int .i64 z.t, .int .i64 z.r])).run Tryz.prog w = .ok (.bool false) w := fun w => by rw [eql_st, decide_eq_false hm]
              have HPN : Hid (pick z (Z.take (i + 1)) = pick z (Z.take i)) := Lib.hid (by rw [HPT.out, if_neg hm, List.append_nil])
              clear hpt hpf hm
              go_wp2
              go_roundg (Z.length - (i + 1))
              case measure => omega
              case rel => exact ⟨i + 1, va, vc, l, by first | rfl | go_num, rfl, by omega, Nat.le_refl _, (show Aside _ from HH.out.alloc _), (show Aside _ from by rw [HPN.out]; exact HLQ.out), (show Aside _ from by rw [HPN.out]; exact HVQ.out)⟩
          · have hlti : ¬ (i : Int) < (Z.length : Int) := by omega
            have HZI : Hid (Z.take i = Z) := Lib.hid (List.take_of_length_le (by omega))
            have p0 := cell_atW hy 0 _ rfl
            have p1 := cell_atW hy 1 _ rfl
            have f0 := frozen_atW hx 0
            have f1 := frozen_atW hx 1
            have HUN2 : Hid (l ++ g.ups p = g.ups id) := Lib.hid (by rw [HLQ.out, HZI.out, List.append_assoc, ← HPK.out]; exact HUP.out)
            clear hx hy
            go_wp2
            go_roundg (g.depth p)
            case measure => omega
            case rel => exact ⟨va, vc, l, p, rfl, (show Aside _ from below_set2 HH.out.below (Nat.le_refl _) _ _), (show Aside _ from heap_set2 HXW.out _ _), (show Aside _ from ownsRow_set (ownsRow_set HH.out.row (by omega) _ _) (by omega) _ _), (show Aside _ from ⟨HUQ.out, HUN2.out⟩), Nat.le_refl _⟩
end Go.Proofs.YtfbjiaedfmdcfaaGreatDoor

/-! ## PathJ -/
namespace Go.Proofs.YtfbjiaedfmdcfaaGreatDoor
open Go.RowKit Go.Shelf Go.Proofs

end Go.Proofs.YtfbjiaedfmdcfaaGreatDoor
