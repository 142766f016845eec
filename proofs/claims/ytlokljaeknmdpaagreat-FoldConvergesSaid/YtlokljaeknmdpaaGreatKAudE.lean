/-
  The audit's rises; no condition. · The audit's order, shape, lost, count, many, bounds; condition: at most 1000 of each, and names no longer than a string may be.
-/
import Derived.Test.YtlokljaeknmdpaaGreatKAudA
import Derived.Shelf.GgClosure.Gives
/-! ## AudE -/
namespace Go.Proofs.YtlokljaeknmdpaaGreat
open Go.RowKit Go.Shelf

/-- each is ahead of the next one -/
def risesBy {α : Type} [Inhabited α] (c : α → α → Int) (l : List α) : Bool := (List.range (l.length - 1)).all fun i => decide (c l[i]! l[i + 1]! < 0)
theorem risesBy_false {α : Type} [Inhabited α] {c : α → α → Int} {l : List α} (k : Nat) (hk : k + 1 < l.length) (h : ¬ c l[k]! l[k + 1]! < 0) : risesBy c l = false := by
  unfold risesBy
  rw [List.all_eq_false]
  exact ⟨k, List.mem_range.2 (by omega), by simpa using h⟩
theorem risesBy_true {α : Type} [Inhabited α] {c : α → α → Int} {l : List α} (h : ∀ k, k + 1 < l.length → c l[k]! l[k + 1]! < 0) : risesBy c l = true := by
  unfold risesBy
  rw [List.all_eq_true]
  intro k hk
  have := List.mem_range.1 hk
  simpa using h k (by omega)
theorem wrapNat (k : Nat) (h : k < 9223372036854775808) : IntKind.i64.wrap (k : Int) = (k : Int) := by
  rw [IntWalk.i64_left]
  unfold wrap64
  omega
def cmpIno (x y : Ino) : Int := cmpSt x.id.t x.id.r y.id.t y.id.r
def cmpEnt (x y : Ent) : Int := orI (cmpSt x.at_.t x.at_.r y.at_.t y.at_.r) (cmpB x.name y.name)


theorem cellsIno {w : World} {zs : List Ino} {b off : Nat} (hc : ∀ j, j < zs.length → ∀ i u, (Ino.cells zs[j]!)[i]? = some u → w.cell? ⟨b, off + j * 6 + i, none⟩ = some u) (j : Nat) (hj : j < zs.length) :
    w.cell? ⟨b, off + j * 6, none⟩ = some (.int .i64 zs[j]!.id.t) ∧ w.cell? ⟨b, off + j * 6 + 1, none⟩ = some (.int .i64 zs[j]!.id.r) ∧ w.cell? ⟨b, off + j * 6 + 2, none⟩ = some (.int .i64 zs[j]!.kind) ∧ w.cell? ⟨b, off + j * 6 + 3, none⟩ = some (.int .i64 zs[j]!.links) ∧ w.cell? ⟨b, off + j * 6 + 4, none⟩ = some (.int .i64 zs[j]!.mode) ∧ w.cell? ⟨b, off + j * 6 + 5, none⟩ = some (.string zs[j]!.data) := by
  have h := hc j hj
  generalize zs[j]! = x at h
  exact ⟨h 0 _ rfl, h 1 _ rfl, h 2 _ rfl, h 3 _ rfl, h 4 _ rfl, h 5 _ rfl⟩

set_option maxRecDepth 100000 in
set_option maxHeartbeats 1000000 in
theorem risesIno_any (v : Value) (zs : List Ino) (w : World) (h : SlAt w 6 Ino.cells v zs) (hz : zs.length ≤ 1000) :
    Calls Tryz.prog 111 #[v, .func (.func 112) #[] #[]] w fun e w' => e = .returned (.bool (risesBy cmpIno zs)) ∧ Below w.heap.size w w' := by
  have hs := Lib.hid (order1_any)
  rcases h with ⟨a', c', rfl, rfl⟩ | ⟨b, off, c, rfl, _, _, hb, hc⟩
  · go_enter Tryz.func111, Tryz.ntmps111
    go_wp2
    refine wp_loop_rounds 1 ?_
    rw [rounds_succ]
    go_wp2
    go_ret
    exact ⟨rfl, Below.refl _ _⟩
  · have HC := Lib.hid hc
    clear hc
    go_enter Tryz.func111, Tryz.ntmps111
    go_wp2
    go_loopg [5] zs.length (fun gg s5 wr => ∃ kk : Nat, kk ≤ zs.length ∧ zs.length - kk ≤ gg ∧ s5 = .int .i64 (kk + 1 : Nat) ∧ Aside (Below w.heap.size w wr) ∧ Aside (∀ j, j < kk → j + 1 < zs.length → cmpIno zs[j]! zs[j + 1]! < 0))
    case atStart => exact ⟨0, Nat.zero_le _, by omega, rfl, Below.refl _ w, fun j hj => absurd hj (Nat.not_lt_zero _)⟩
    case round =>
      obtain ⟨kk, hkk, hg, rfl, BW, A⟩ := hrel
      by_cases hlt : kk + 1 < zs.length
      · have k1 := HC.out
        obtain ⟨x0, x1, x2, x3, x4, x5⟩ := cellsIno (w := wr) (fun j hj i u hu => (BW.out.cell (p := ⟨b, _, none⟩) hb).trans (HC.out j hj i u hu)) kk (by omega)
        obtain ⟨y0, y1, y2, y3, y4, y5⟩ := cellsIno (w := wr) (fun j hj i u hu => (BW.out.cell (p := ⟨b, _, none⟩) hb).trans (HC.out j hj i u hu)) (kk + 1) hlt
        clear k1
        generalize hX : zs[kk]! = X at *
        generalize hY : zs[kk + 1]! = Y at *
        have HX := Lib.hid hX
        have HY := Lib.hid hY
        clear hX hY
        have hcall := hs.out X Y
        have hlti : (kk : Int) + 1 < (zs.length : Int) := by omega
        have hb1 : (0 : Int) ≤ (kk : Int) + 1 := by omega
        have hb2 : (kk : Int) < (zs.length : Int) := by omega
        have hb3 : (0 : Int) ≤ (kk : Int) := by omega
        generalize hr : cmpIno X Y = r
        have hcall2 : ∀ w', Calls Tryz.prog 112 #[X.v, Y.v] w' fun e w'' => e = .returned (.int .i64 r) ∧ New w' w'' := by
          intro w'
          rw [← hr]
          exact hcall w'
        clear hcall
        have HCALL := Lib.hid hcall2
        have HR := Lib.hid hr
        clear hr hcall2 hs
        have hw : IntKind.i64.wrap (kk : Int) = (kk : Int) := wrapNat kk (by omega)
        have hw2 : IntKind.i64.wrap ((kk : Int) + 1) = (kk : Int) + 1 := wrapNat (kk + 1) (by omega)
        have hw3 : IntKind.i64.wrap ((kk : Int) + 1 + 1) = (kk : Int) + 1 + 1 := wrapNat (kk + 1 + 1) (by omega)
        have HBL : Hid (b < wr.heap.size) := Lib.hid (Nat.lt_of_lt_of_le hb BW.out.size)
        by_cases h0 : 0 ≤ r
        · go_wp2
          go_region_held3 (fun W => (W.cell? ⟨b, off + kk * 6, none⟩ = some (.int .i64 X.id.t) ∧ W.cell? ⟨b, off + kk * 6 + 1, none⟩ = some (.int .i64 X.id.r) ∧ W.cell? ⟨b, off + kk * 6 + 2, none⟩ = some (.int .i64 X.kind) ∧ W.cell? ⟨b, off + kk * 6 + 3, none⟩ = some (.int .i64 X.links) ∧ W.cell? ⟨b, off + kk * 6 + 4, none⟩ = some (.int .i64 X.mode) ∧ W.cell? ⟨b, off + kk * 6 + 5, none⟩ = some (.string X.data)) ∧ (W.cell? ⟨b, off + (kk + 1) * 6, none⟩ = some (.int .i64 Y.id.t) ∧ W.cell? ⟨b, off + (kk + 1) * 6 + 1, none⟩ = some (.int .i64 Y.id.r) ∧ W.cell? ⟨b, off + (kk + 1) * 6 + 2, none⟩ = some (.int .i64 Y.kind) ∧ W.cell? ⟨b, off + (kk + 1) * 6 + 3, none⟩ = some (.int .i64 Y.links) ∧ W.cell? ⟨b, off + (kk + 1) * 6 + 4, none⟩ = some (.int .i64 Y.mode) ∧ W.cell? ⟨b, off + (kk + 1) * 6 + 5, none⟩ = some (.string Y.data))) (go_keep) (first
            | (go_at_call 112; refine (HCALL.out _).mono ?_; rintro e w' ⟨rfl, hN⟩; have HN := Lib.hid hN; have p0 : w'.cell? ⟨b, off + kk * 6, none⟩ = some (.int .i64 X.id.t) := (hN.below.cell (p := ⟨b, _, none⟩) HBL.out).trans x0; have p1 : w'.cell? ⟨b, off + kk * 6 + 1, none⟩ = some (.int .i64 X.id.r) := (hN.below.cell (p := ⟨b, _, none⟩) HBL.out).trans x1; have p2 : w'.cell? ⟨b, off + kk * 6 + 2, none⟩ = some (.int .i64 X.kind) := (hN.below.cell (p := ⟨b, _, none⟩) HBL.out).trans x2; have p3 : w'.cell? ⟨b, off + kk * 6 + 3, none⟩ = some (.int .i64 X.links) := (hN.below.cell (p := ⟨b, _, none⟩) HBL.out).trans x3; have p4 : w'.cell? ⟨b, off + kk * 6 + 4, none⟩ = some (.int .i64 X.mode) := (hN.below.cell (p := ⟨b, _, none⟩) HBL.out).trans x4; have p5 : w'.cell? ⟨b, off + kk * 6 + 5, none⟩ = some (.string X.data) := (hN.below.cell (p := ⟨b, _, none⟩) HBL.out).trans x5; have q0 : w'.cell? ⟨b, off + (kk + 1) * 6, none⟩ = some (.int .i64 Y.id.t) := (hN.below.cell (p := ⟨b, _, none⟩) HBL.out).trans y0; have q1 : w'.cell? ⟨b, off + (kk + 1) * 6 + 1, none⟩ = some (.int .i64 Y.id.r) := (hN.below.cell (p := ⟨b, _, none⟩) HBL.out).trans y1; have q2 : w'.cell? ⟨b, off + (kk + 1) * 6 + 2, none⟩ = some (.int .i64 Y.kind) := (hN.below.cell (p := ⟨b, _, none⟩) HBL.out).trans y2; have q3 : w'.cell? ⟨b, off + (kk + 1) * 6 + 3, none⟩ = some (.int .i64 Y.links) := (hN.below.cell (p := ⟨b, _, none⟩) HBL.out).trans y3; have q4 : w'.cell? ⟨b, off + (kk + 1) * 6 + 4, none⟩ = some (.int .i64 Y.mode) := (hN.below.cell (p := ⟨b, _, none⟩) HBL.out).trans y4; have q5 : w'.cell? ⟨b, off + (kk + 1) * 6 + 5, none⟩ = some (.string Y.data) := (hN.below.cell (p := ⟨b, _, none⟩) HBL.out).trans y5; clear hN))
          all_goals go_wp2
          all_goals go_ret
          all_goals refine ⟨?_, BW.out.drew.trans (HN.out.below.mono BW.out.size)⟩
          all_goals rw [show risesBy cmpIno zs = false from risesBy_false kk hlt (by rw [HX.out, HY.out, HR.out]; omega)]
          all_goals rfl
        · go_wp2
          go_region_held3 (fun W => (W.cell? ⟨b, off + kk * 6, none⟩ = some (.int .i64 X.id.t) ∧ W.cell? ⟨b, off + kk * 6 + 1, none⟩ = some (.int .i64 X.id.r) ∧ W.cell? ⟨b, off + kk * 6 + 2, none⟩ = some (.int .i64 X.kind) ∧ W.cell? ⟨b, off + kk * 6 + 3, none⟩ = some (.int .i64 X.links) ∧ W.cell? ⟨b, off + kk * 6 + 4, none⟩ = some (.int .i64 X.mode) ∧ W.cell? ⟨b, off + kk * 6 + 5, none⟩ = some (.string X.data)) ∧ (W.cell? ⟨b, off + (kk + 1) * 6, none⟩ = some (.int .i64 Y.id.t) ∧ W.cell? ⟨b, off + (kk + 1) * 6 + 1, none⟩ = some (.int .i64 Y.id.r) ∧ W.cell? ⟨b, off + (kk + 1) * 6 + 2, none⟩ = some (.int .i64 Y.kind) ∧ W.cell? ⟨b, off + (kk + 1) * 6 + 3, none⟩ = some (.int .i64 Y.links) ∧ W.cell? ⟨b, off + (kk + 1) * 6 + 4, none⟩ = some (.int .i64 Y.mode) ∧ W.cell? ⟨b, off + (kk + 1) * 6 + 5, none⟩ = some (.string Y.data))) (go_keep) (first
            | (go_at_call 112; refine (HCALL.out _).mono ?_; rintro e w' ⟨rfl, hN⟩; have HN := Lib.hid hN; have p0 : w'.cell? ⟨b, off + kk * 6, none⟩ = some (.int .i64 X.id.t) := (hN.below.cell (p := ⟨b, _, none⟩) HBL.out).trans x0; have p1 : w'.cell? ⟨b, off + kk * 6 + 1, none⟩ = some (.int .i64 X.id.r) := (hN.below.cell (p := ⟨b, _, none⟩) HBL.out).trans x1; have p2 : w'.cell? ⟨b, off + kk * 6 + 2, none⟩ = some (.int .i64 X.kind) := (hN.below.cell (p := ⟨b, _, none⟩) HBL.out).trans x2; have p3 : w'.cell? ⟨b, off + kk * 6 + 3, none⟩ = some (.int .i64 X.links) := (hN.below.cell (p := ⟨b, _, none⟩) HBL.out).trans x3; have p4 : w'.cell? ⟨b, off + kk * 6 + 4, none⟩ = some (.int .i64 X.mode) := (hN.below.cell (p := ⟨b, _, none⟩) HBL.out).trans x4; have p5 : w'.cell? ⟨b, off + kk * 6 + 5, none⟩ = some (.string X.data) := (hN.below.cell (p := ⟨b, _, none⟩) HBL.out).trans x5; have q0 : w'.cell? ⟨b, off + (kk + 1) * 6, none⟩ = some (.int .i64 Y.id.t) := (hN.below.cell (p := ⟨b, _, none⟩) HBL.out).trans y0; have q1 : w'.cell? ⟨b, off + (kk + 1) * 6 + 1, none⟩ = some (.int .i64 Y.id.r) := (hN.below.cell (p := ⟨b, _, none⟩) HBL.out).trans y1; have q2 : w'.cell? ⟨b, off + (kk + 1) * 6 + 2, none⟩ = some (.int .i64 Y.kind) := (hN.below.cell (p := ⟨b, _, none⟩) HBL.out).trans y2; have q3 : w'.cell? ⟨b, off + (kk + 1) * 6 + 3, none⟩ = some (.int .i64 Y.links) := (hN.below.cell (p := ⟨b, _, none⟩) HBL.out).trans y3; have q4 : w'.cell? ⟨b, off + (kk + 1) * 6 + 4, none⟩ = some (.int .i64 Y.mode) := (hN.below.cell (p := ⟨b, _, none⟩) HBL.out).trans y4; have q5 : w'.cell? ⟨b, off + (kk + 1) * 6 + 5, none⟩ = some (.string Y.data) := (hN.below.cell (p := ⟨b, _, none⟩) HBL.out).trans y5; clear hN))
          all_goals go_wp2
          all_goals go_roundg (zs.length - (kk + 1))
          case measure => omega
          case rel =>
            refine ⟨kk + 1, by omega, by omega, by first | rfl | go_num, BW.out.drew.trans (HN.out.below.mono BW.out.size), (show Aside _ from fun j hj hj1 => ?_)⟩
            by_cases ej : j = kk
            · subst ej; rw [HX.out, HY.out, HR.out]; omega
            · exact A.out j (by omega) hj1
      · have hlti : ¬ (kk : Int) + 1 < (zs.length : Int) := by omega
        go_wp2
        go_ret
        refine ⟨?_, BW.out⟩
        rw [show risesBy cmpIno zs = true from risesBy_true fun j hj => A.out j (by omega) hj]
        rfl

theorem cellsEnt {w : World} {zs : List Ent} {b off : Nat} (hc : ∀ j, j < zs.length → ∀ i u, (Ent.cells zs[j]!)[i]? = some u → w.cell? ⟨b, off + j * 5 + i, none⟩ = some u) (j : Nat) (hj : j < zs.length) :
    w.cell? ⟨b, off + j * 5, none⟩ = some (.int .i64 zs[j]!.at_.t) ∧ w.cell? ⟨b, off + j * 5 + 1, none⟩ = some (.int .i64 zs[j]!.at_.r) ∧ w.cell? ⟨b, off + j * 5 + 2, none⟩ = some (.string zs[j]!.name) ∧ w.cell? ⟨b, off + j * 5 + 3, none⟩ = some (.int .i64 zs[j]!.ino.t) ∧ w.cell? ⟨b, off + j * 5 + 4, none⟩ = some (.int .i64 zs[j]!.ino.r) := by
  have h := hc j hj
  generalize zs[j]! = x at h
  exact ⟨h 0 _ rfl, h 1 _ rfl, h 2 _ rfl, h 3 _ rfl, h 4 _ rfl⟩

set_option maxRecDepth 100000 in
set_option maxHeartbeats 1000000 in
theorem risesEnt_any (v : Value) (zs : List Ent) (w : World) (h : SlAt w 5 Ent.cells v zs) (hz : zs.length ≤ 1000) :
    Calls Tryz.prog 113 #[v, .func (.func 114) #[] #[]] w fun e w' => e = .returned (.bool (risesBy cmpEnt zs)) ∧ Below w.heap.size w w' := by
  have hs := Lib.hid (order2_any)
  rcases h with ⟨a', c', rfl, rfl⟩ | ⟨b, off, c, rfl, _, _, hb, hc⟩
  · go_enter Tryz.func113, Tryz.ntmps113
    go_wp2
    refine wp_loop_rounds 1 ?_
    rw [rounds_succ]
    go_wp2
    go_ret
    exact ⟨rfl, Below.refl _ _⟩
  · have HC := Lib.hid hc
    clear hc
    go_enter Tryz.func113, Tryz.ntmps113
    go_wp2
    go_loopg [5] zs.length (fun gg s5 wr => ∃ kk : Nat, kk ≤ zs.length ∧ zs.length - kk ≤ gg ∧ s5 = .int .i64 (kk + 1 : Nat) ∧ Aside (Below w.heap.size w wr) ∧ Aside (∀ j, j < kk → j + 1 < zs.length → cmpEnt zs[j]! zs[j + 1]! < 0))
    case atStart => exact ⟨0, Nat.zero_le _, by omega, rfl, Below.refl _ w, fun j hj => absurd hj (Nat.not_lt_zero _)⟩
    case round =>
      obtain ⟨kk, hkk, hg, rfl, BW, A⟩ := hrel
      by_cases hlt : kk + 1 < zs.length
      · have k1 := HC.out
        obtain ⟨x0, x1, x2, x3, x4⟩ := cellsEnt (w := wr) (fun j hj i u hu => (BW.out.cell (p := ⟨b, _, none⟩) hb).trans (HC.out j hj i u hu)) kk (by omega)
        obtain ⟨y0, y1, y2, y3, y4⟩ := cellsEnt (w := wr) (fun j hj i u hu => (BW.out.cell (p := ⟨b, _, none⟩) hb).trans (HC.out j hj i u hu)) (kk + 1) hlt
        clear k1
        generalize hX : zs[kk]! = X at *
        generalize hY : zs[kk + 1]! = Y at *
        have HX := Lib.hid hX
        have HY := Lib.hid hY
        clear hX hY
        have hcall := hs.out X Y
        have hlti : (kk : Int) + 1 < (zs.length : Int) := by omega
        have hb1 : (0 : Int) ≤ (kk : Int) + 1 := by omega
        have hb2 : (kk : Int) < (zs.length : Int) := by omega
        have hb3 : (0 : Int) ≤ (kk : Int) := by omega
        generalize hr : cmpEnt X Y = r
        have hcall2 : ∀ w', Calls Tryz.prog 114 #[X.v, Y.v] w' fun e w'' => e = .returned (.int .i64 r) ∧ New w' w'' := by
          intro w'
          rw [← hr]
          exact hcall w'
        clear hcall
        have HCALL := Lib.hid hcall2
        have HR := Lib.hid hr
        clear hr hcall2 hs
        have hw : IntKind.i64.wrap (kk : Int) = (kk : Int) := wrapNat kk (by omega)
        have hw2 : IntKind.i64.wrap ((kk : Int) + 1) = (kk : Int) + 1 := wrapNat (kk + 1) (by omega)
        have hw3 : IntKind.i64.wrap ((kk : Int) + 1 + 1) = (kk : Int) + 1 + 1 := wrapNat (kk + 1 + 1) (by omega)
        have HBL : Hid (b < wr.heap.size) := Lib.hid (Nat.lt_of_lt_of_le hb BW.out.size)
        by_cases h0 : 0 ≤ r
        · go_wp2
          go_region_held3 (fun W => (W.cell? ⟨b, off + kk * 5, none⟩ = some (.int .i64 X.at_.t) ∧ W.cell? ⟨b, off + kk * 5 + 1, none⟩ = some (.int .i64 X.at_.r) ∧ W.cell? ⟨b, off + kk * 5 + 2, none⟩ = some (.string X.name) ∧ W.cell? ⟨b, off + kk * 5 + 3, none⟩ = some (.int .i64 X.ino.t) ∧ W.cell? ⟨b, off + kk * 5 + 4, none⟩ = some (.int .i64 X.ino.r)) ∧ (W.cell? ⟨b, off + (kk + 1) * 5, none⟩ = some (.int .i64 Y.at_.t) ∧ W.cell? ⟨b, off + (kk + 1) * 5 + 1, none⟩ = some (.int .i64 Y.at_.r) ∧ W.cell? ⟨b, off + (kk + 1) * 5 + 2, none⟩ = some (.string Y.name) ∧ W.cell? ⟨b, off + (kk + 1) * 5 + 3, none⟩ = some (.int .i64 Y.ino.t) ∧ W.cell? ⟨b, off + (kk + 1) * 5 + 4, none⟩ = some (.int .i64 Y.ino.r))) (go_keep) (first
            | (go_at_call 114; refine (HCALL.out _).mono ?_; rintro e w' ⟨rfl, hN⟩; have HN := Lib.hid hN; have p0 : w'.cell? ⟨b, off + kk * 5, none⟩ = some (.int .i64 X.at_.t) := (hN.below.cell (p := ⟨b, _, none⟩) HBL.out).trans x0; have p1 : w'.cell? ⟨b, off + kk * 5 + 1, none⟩ = some (.int .i64 X.at_.r) := (hN.below.cell (p := ⟨b, _, none⟩) HBL.out).trans x1; have p2 : w'.cell? ⟨b, off + kk * 5 + 2, none⟩ = some (.string X.name) := (hN.below.cell (p := ⟨b, _, none⟩) HBL.out).trans x2; have p3 : w'.cell? ⟨b, off + kk * 5 + 3, none⟩ = some (.int .i64 X.ino.t) := (hN.below.cell (p := ⟨b, _, none⟩) HBL.out).trans x3; have p4 : w'.cell? ⟨b, off + kk * 5 + 4, none⟩ = some (.int .i64 X.ino.r) := (hN.below.cell (p := ⟨b, _, none⟩) HBL.out).trans x4; have q0 : w'.cell? ⟨b, off + (kk + 1) * 5, none⟩ = some (.int .i64 Y.at_.t) := (hN.below.cell (p := ⟨b, _, none⟩) HBL.out).trans y0; have q1 : w'.cell? ⟨b, off + (kk + 1) * 5 + 1, none⟩ = some (.int .i64 Y.at_.r) := (hN.below.cell (p := ⟨b, _, none⟩) HBL.out).trans y1; have q2 : w'.cell? ⟨b, off + (kk + 1) * 5 + 2, none⟩ = some (.string Y.name) := (hN.below.cell (p := ⟨b, _, none⟩) HBL.out).trans y2; have q3 : w'.cell? ⟨b, off + (kk + 1) * 5 + 3, none⟩ = some (.int .i64 Y.ino.t) := (hN.below.cell (p := ⟨b, _, none⟩) HBL.out).trans y3; have q4 : w'.cell? ⟨b, off + (kk + 1) * 5 + 4, none⟩ = some (.int .i64 Y.ino.r) := (hN.below.cell (p := ⟨b, _, none⟩) HBL.out).trans y4; clear hN))
          all_goals go_wp2
          all_goals go_ret
          all_goals refine ⟨?_, BW.out.drew.trans (HN.out.below.mono BW.out.size)⟩
          all_goals rw [show risesBy cmpEnt zs = false from risesBy_false kk hlt (by rw [HX.out, HY.out, HR.out]; omega)]
          all_goals rfl
        · go_wp2
          go_region_held3 (fun W => (W.cell? ⟨b, off + kk * 5, none⟩ = some (.int .i64 X.at_.t) ∧ W.cell? ⟨b, off + kk * 5 + 1, none⟩ = some (.int .i64 X.at_.r) ∧ W.cell? ⟨b, off + kk * 5 + 2, none⟩ = some (.string X.name) ∧ W.cell? ⟨b, off + kk * 5 + 3, none⟩ = some (.int .i64 X.ino.t) ∧ W.cell? ⟨b, off + kk * 5 + 4, none⟩ = some (.int .i64 X.ino.r)) ∧ (W.cell? ⟨b, off + (kk + 1) * 5, none⟩ = some (.int .i64 Y.at_.t) ∧ W.cell? ⟨b, off + (kk + 1) * 5 + 1, none⟩ = some (.int .i64 Y.at_.r) ∧ W.cell? ⟨b, off + (kk + 1) * 5 + 2, none⟩ = some (.string Y.name) ∧ W.cell? ⟨b, off + (kk + 1) * 5 + 3, none⟩ = some (.int .i64 Y.ino.t) ∧ W.cell? ⟨b, off + (kk + 1) * 5 + 4, none⟩ = some (.int .i64 Y.ino.r))) (go_keep) (first
            | (go_at_call 114; refine (HCALL.out _).mono ?_; rintro e w' ⟨rfl, hN⟩; have HN := Lib.hid hN; have p0 : w'.cell? ⟨b, off + kk * 5, none⟩ = some (.int .i64 X.at_.t) := (hN.below.cell (p := ⟨b, _, none⟩) HBL.out).trans x0; have p1 : w'.cell? ⟨b, off + kk * 5 + 1, none⟩ = some (.int .i64 X.at_.r) := (hN.below.cell (p := ⟨b, _, none⟩) HBL.out).trans x1; have p2 : w'.cell? ⟨b, off + kk * 5 + 2, none⟩ = some (.string X.name) := (hN.below.cell (p := ⟨b, _, none⟩) HBL.out).trans x2; have p3 : w'.cell? ⟨b, off + kk * 5 + 3, none⟩ = some (.int .i64 X.ino.t) := (hN.below.cell (p := ⟨b, _, none⟩) HBL.out).trans x3; have p4 : w'.cell? ⟨b, off + kk * 5 + 4, none⟩ = some (.int .i64 X.ino.r) := (hN.below.cell (p := ⟨b, _, none⟩) HBL.out).trans x4; have q0 : w'.cell? ⟨b, off + (kk + 1) * 5, none⟩ = some (.int .i64 Y.at_.t) := (hN.below.cell (p := ⟨b, _, none⟩) HBL.out).trans y0; have q1 : w'.cell? ⟨b, off + (kk + 1) * 5 + 1, none⟩ = some (.int .i64 Y.at_.r) := (hN.below.cell (p := ⟨b, _, none⟩) HBL.out).trans y1; have q2 : w'.cell? ⟨b, off + (kk + 1) * 5 + 2, none⟩ = some (.string Y.name) := (hN.below.cell (p := ⟨b, _, none⟩) HBL.out).trans y2; have q3 : w'.cell? ⟨b, off + (kk + 1) * 5 + 3, none⟩ = some (.int .i64 Y.ino.t) := (hN.below.cell (p := ⟨b, _, none⟩) HBL.out).trans y3; have q4 : w'.cell? ⟨b, off + (kk + 1) * 5 + 4, none⟩ = some (.int .i64 Y.ino.r) := (hN.below.cell (p := ⟨b, _, none⟩) HBL.out).trans y4; clear hN))
          all_goals go_wp2
          all_goals go_roundg (zs.length - (kk + 1))
          case measure => omega
          case rel =>
            refine ⟨kk + 1, by omega, by omega, by first | rfl | go_num, BW.out.drew.trans (HN.out.below.mono BW.out.size), (show Aside _ from fun j hj hj1 => ?_)⟩
            by_cases ej : j = kk
            · subst ej; rw [HX.out, HY.out, HR.out]; omega
            · exact A.out j (by omega) hj1
      · have hlti : ¬ (kk : Int) + 1 < (zs.length : Int) := by omega
        go_wp2
        go_ret
        refine ⟨?_, BW.out⟩
        rw [show risesBy cmpEnt zs = true from risesBy_true fun j hj => A.out j (by omega) hj]
        rfl
end Go.Proofs.YtlokljaeknmdpaaGreat

/-! ## AudF -/
namespace Go.Proofs.YtlokljaeknmdpaaGreat
open Go.RowKit Go.Shelf

instance : Inhabited {x : Ent // x.name.size ≤ maxLen} := ⟨⟨⟨⟨0, 0⟩, ⟨#[]⟩, ⟨0, 0⟩⟩, by decide⟩⟩

/-- the names of a list's entries are no longer than a string may be -/
theorem SlAt.named {w : World} {v : Value} {zs : List Ent} (h : SlAt w 5 Ent.cells v zs) (hn : ∀ x ∈ zs, x.name.size ≤ maxLen) :
    SlAt w 5 (fun x : {x : Ent // x.name.size ≤ maxLen} => x.1.cells) v (zs.pmap Subtype.mk hn) := by
  rcases h with ⟨a', c', rfl, rfl⟩ | ⟨b, off, c, rfl, h1, h2, h3, h4⟩
  · exact .inl ⟨a', c', rfl, rfl⟩
  · refine .inr ⟨b, off, c, by simp, by simpa using h1, h2, h3, fun j hj i u hu => h4 j (by simpa using hj) i u ?_⟩
    have hj' : j < zs.length := by simpa using hj
    have e1 : (zs.pmap Subtype.mk hn)[j]! = ⟨zs[j], hn _ (List.getElem_mem _)⟩ := by
      rw [getElem!_pos _ j hj]; simp
    have e2 : zs[j]! = zs[j] := getElem!_pos _ j hj'
    rw [e1] at hu
    rw [e2]; exact hu

theorem any_named : ∀ (zs : List Ent) (hn : ∀ x ∈ zs, x.name.size ≤ maxLen), (zs.pmap Subtype.mk hn).any (fun x : {x : Ent // x.name.size ≤ maxLen} => !nameOk x.1.name) = zs.any fun x => !nameOk x.name
  | [], _ => rfl
  | a :: l, hn => by
    simp only [List.pmap_cons, List.any_cons]
    rw [any_named l]
theorem containsName (v : Value) (zs : List Ent) (w : World) (h : SlAt w 5 Ent.cells v zs) (hn : ∀ x ∈ zs, x.name.size ≤ maxLen) (hz : zs.length ≤ 1000) :
    Calls Tryz.prog 118 #[v, .func (.func 119) #[] #[]] w fun e w' => e = .returned (.bool (zs.any fun x => !nameOk x.name)) ∧ Below w.heap.size w w' := by
  rcases h.named hn with ⟨a', c', rfl, h0⟩ | ⟨b, off, c, rfl, _, _, hb, hc⟩
  · have : zs = [] := by
      cases zs with
      | nil => rfl
      | cons a l => simp at h0
    subst this
    exact noContEnt _ _ _ w
  · have := AnyQ.slices_ContainsFunc lHasEnt 5 Tryz.isAgg34 Tryz.sizeOf34 (fun x : {x : Ent // x.name.size ≤ maxLen} => x.1.cells) (fun _ => rfl) (fun x => !nameOk x.1.name) 119 #[] (enters_of Tryz.func119 (by kernel_rfl) rfl) b off (zs.pmap Subtype.mk hn).length c (zs.pmap Subtype.mk hn) w
      (fun W x hb => (shape2_any x.1 x.2 W).mono fun e w' ⟨h1, h2⟩ => ⟨h1, hb.trans (h2.mono hb.size)⟩) (Nat.le_refl _) (by simp; omega) hb hc
    rw [List.take_length] at this
    rw [any_named zs hn] at this
    exact this

/-- a box for the graph -/
theorem boxed (w : World) (vn ve : Value) (kb lb : Nat) : GBox (w.alloc (.cells #[vn, ve, .map (some kb), .map (some lb)] 98)) w.heap.size (.agg #[vn, ve, .map (some kb), .map (some lb)]) :=
  ⟨vn, ve, kb, lb, rfl, cell_new w _ rfl _ _ 0 _ rfl, cell_new w _ rfl _ _ 1 _ rfl, cell_new w _ rfl _ _ 2 _ rfl, cell_new w _ rfl _ _ 3 _ rfl, by simp⟩

def orderB (n : List Ino) (e : List Ent) : Bool := risesBy cmpIno n && risesBy cmpEnt e
def shapeB (n : List Ino) (e : List Ent) : Bool := decide (kindOf n ⟨0, 0⟩ = some 1) && (!n.any badI && !e.any fun x => !nameOk x.name)


set_option maxRecDepth 100000 in
set_option maxHeartbeats 1000000 in
theorem order_any (g : Value) (n : List Ino) (e : List Ent) (w : World) (h : AuditAt w g n e) (h1 : n.length ≤ 1000) (h2 : e.length ≤ 1000) :
    Calls Tryz.prog 66 #[g] w fun x w' => x = .returned (.bool (orderB n e)) ∧ Below w.heap.size w w' := by
  have hA := h
  obtain ⟨vn, ve, kb, lb, kk, kl, rfl, hn, he, _, _, _, _, _, _⟩ := h.ex
  have hb0 : Below w.heap.size w (w.alloc (.cells #[vn, ve, .map (some kb), .map (some lb)] 98)) := (Below.refl _ w).alloc (Nat.le_refl _) _
  have hbox := boxed w vn ve kb lb
  have hA1 := hA.below hb0
  have hn1 := risesIno_any vn n _ (hn.below hb0) h1
  have HE : Hid (∀ W, Below w.heap.size w W → Calls Tryz.prog 113 #[ve, .func (.func 114) #[] #[]] W fun e' w' => e' = .returned (.bool (risesBy cmpEnt e)) ∧ Below W.heap.size W w') := Lib.hid fun W hW => risesEnt_any ve e W (he.below hW) h2
  clear hn he hA h hA1 hbox
  unfold orderB
  generalize risesBy cmpEnt e = y at HE
  have HB0 := Lib.hid hb0
  clear hb0
  cases hk : risesBy cmpIno n with
  | false =>
    rw [hk] at hn1
    go_enter Tryz.func66, Tryz.ntmps66
    go_wp2_with (go_at_call 111; refine (hn1).mono ?_; rintro x w' ⟨rfl, hN⟩; have HB := Lib.hid (after1 hN).2; clear hN)
    go_ret
    exact ⟨rfl, HB.out⟩
  | true =>
    rw [hk] at hn1
    go_enter Tryz.func66, Tryz.ntmps66
    go_wp2_with (first
      | (go_at_call 111; refine (hn1).mono ?_; rintro x w' ⟨rfl, hN⟩; have HB := Lib.hid (after1 hN).2; have c0 : w'.cell? ⟨w.heap.size, 0, none⟩ = some vn := (after1 hN).1 0 _ rfl; have c1 : w'.cell? ⟨w.heap.size, 1, none⟩ = some ve := (after1 hN).1 1 _ rfl; clear hN)
      | (go_at_call 113; refine (HE.out _ HB.out).mono ?_; rintro x w'' ⟨rfl, hN⟩; have HB2 := Lib.hid hN; clear hN))
    go_ret
    exact ⟨rfl, HB.out.trans (HB2.out.mono HB.out.size)⟩

set_option maxRecDepth 100000 in
set_option maxHeartbeats 1000000 in
theorem shape_any (g : Value) (n : List Ino) (e : List Ent) (w : World) (h : AuditAt w g n e) (h1 : n.length ≤ 1000) (h2 : e.length ≤ 1000) (hnm : ∀ x ∈ e, x.name.size ≤ maxLen) :
    Calls Tryz.prog 67 #[g] w fun x w' => x = .returned (.bool (shapeB n e)) ∧ Below w.heap.size w w' := by
  have hA := h
  obtain ⟨vn, ve, kb, lb, kk, kl, rfl, hn, he, _, _, _, _, _, _⟩ := h.ex
  have hb0 : Below w.heap.size w (w.alloc (.cells #[vn, ve, .map (some kb), .map (some lb)] 98)) := (Below.refl _ w).alloc (Nat.le_refl _) _
  have hbox := boxed w vn ve kb lb
  have hA1 := hA.below hb0
  have hd := directory_any _ n e ⟨0, 0⟩ _ hA1
  have HI : Hid (∀ W, Below w.heap.size w W → Calls Tryz.prog 116 #[vn, .func (.func 117) #[] #[]] W fun e' w' => e' = .returned (.bool (n.any badI)) ∧ Below W.heap.size W w') := Lib.hid fun W hW => containsIno badI _ #[] (enters_of Tryz.func117 (by kernel_rfl) rfl) vn n W (hn.below hW) h1 (fun W x _ => shape1_any x W)
  have HE : Hid (∀ W, Below w.heap.size w W → Calls Tryz.prog 118 #[ve, .func (.func 119) #[] #[]] W fun e' w' => e' = .returned (.bool (e.any fun x => !nameOk x.name)) ∧ Below W.heap.size W w') := Lib.hid fun W hW => containsName ve e W (he.below hW) hnm h2
  clear hn he hA h hA1 hbox
  unfold shapeB
  generalize n.any badI = y at HI
  generalize (e.any fun x => !nameOk x.name) = z at HE
  have HB0 := Lib.hid hb0
  clear hb0
  change Calls Tryz.prog 115 #[_, .agg #[.int .i64 0, .int .i64 0]] _ _ at hd
  cases hk : decide (kindOf n ⟨0, 0⟩ = some 1) with
  | false =>
    rw [hk] at hd
    go_enter Tryz.func67, Tryz.ntmps67
    go_wp2_with (go_at_call 115; refine (hd).mono ?_; rintro x w' ⟨rfl, hN⟩; have HB := Lib.hid (after1 hN).2; clear hN)
    go_ret
    exact ⟨rfl, HB.out⟩
  | true =>
    rw [hk] at hd
    cases y with
    | true =>
      go_enter Tryz.func67, Tryz.ntmps67
      go_wp2_with (first
        | (go_at_call 115; refine (hd).mono ?_; rintro x w' ⟨rfl, hN⟩; have HB := Lib.hid (after1 hN).2; have c0 : w'.cell? ⟨w.heap.size, 0, none⟩ = some vn := (after1 hN).1 0 _ rfl; have c1 : w'.cell? ⟨w.heap.size, 1, none⟩ = some ve := (after1 hN).1 1 _ rfl; clear hN)
        | (go_at_call 116; refine (HI.out _ HB.out).mono ?_; rintro x w'' ⟨rfl, hN⟩; have HB2 := Lib.hid (HB.out.trans (hN.mono HB.out.size)); clear hN))
      go_ret
      exact ⟨rfl, HB2.out⟩
    | false =>
      go_enter Tryz.func67, Tryz.ntmps67
      go_wp2_with (first
        | (go_at_call 115; refine (hd).mono ?_; rintro x w' ⟨rfl, hN⟩; have HB := Lib.hid (after1 hN).2; have c0 : w'.cell? ⟨w.heap.size, 0, none⟩ = some vn := (after1 hN).1 0 _ rfl; have c1 : w'.cell? ⟨w.heap.size, 1, none⟩ = some ve := (after1 hN).1 1 _ rfl; have HS : Hid (w.heap.size < w'.heap.size) := Lib.hid (by have := hN.size; simp only [World.size_alloc] at this; omega); clear hN)
        | (go_at_call 116; refine (HI.out _ HB.out).mono ?_; rintro x w'' ⟨rfl, hN⟩; have HB2 := Lib.hid (HB.out.trans (hN.mono HB.out.size)); have c1' : w''.cell? ⟨w.heap.size, 1, none⟩ = some ve := (hN.cell (p := ⟨w.heap.size, 1, none⟩) HS.out).trans c1; clear hN)
        | (go_at_call 118; refine (HE.out _ HB2.out).mono ?_; rintro x w3 ⟨rfl, hN⟩; have HB3 := Lib.hid (HB2.out.trans (hN.mono HB2.out.size)); clear hN))
      go_ret
      exact ⟨rfl, HB3.out⟩

set_option maxRecDepth 100000 in
set_option maxHeartbeats 1000000 in
theorem lost_any (g : Value) (n : List Ino) (e : List Ent) (w : World) (h : AuditAt w g n e) (hz : e.length ≤ 1000) :
    Calls Tryz.prog 68 #[g] w fun x w' => x = .returned (.bool (!e.any (lostB n))) ∧ Below w.heap.size w w' := by
  have hA := h
  obtain ⟨vn, ve, kb, lb, kk, kl, rfl, hn, he, _, _, _, _, _, _⟩ := h.ex
  have hb0 : Below w.heap.size w (w.alloc (.cells #[vn, ve, .map (some kb), .map (some lb)] 98)) := (Below.refl _ w).alloc (Nat.le_refl _) _
  have hbox := boxed w vn ve kb lb
  have hA1 := hA.below hb0
  have hc := containsEnt (lostB n) 120 #[.pointer (some ⟨w.heap.size, 0, none⟩)] (enters_of Tryz.func120 (by kernel_rfl) rfl) ve e _ (he.below hb0) hz (fun W x hW => lost1_any _ n e _ x W (hA1.below hW) (hbox.below hW))
  have HB0 := Lib.hid hb0
  clear hn he hA h hA1 hbox hb0
  generalize e.any (lostB n) = y at hc
  go_enter Tryz.func68, Tryz.ntmps68
  go_wp2_with (go_at_call 118; refine (hc).mono ?_; rintro x w' ⟨rfl, hN⟩; have HB := Lib.hid (after1 hN).2; clear hN)
  go_ret
  exact ⟨rfl, HB.out⟩

set_option maxRecDepth 100000 in
set_option maxHeartbeats 1000000 in
theorem count_any (g : Value) (n : List Ino) (e : List Ent) (w : World) (h : AuditAt w g n e) (hz : n.length ≤ 1000) :
    Calls Tryz.prog 69 #[g] w fun x w' => x = .returned (.bool (!n.any (countB e))) ∧ Below w.heap.size w w' := by
  have hA := h
  obtain ⟨vn, ve, kb, lb, kk, kl, rfl, hn, he, _, _, _, _, _, _⟩ := h.ex
  have hb0 : Below w.heap.size w (w.alloc (.cells #[vn, ve, .map (some kb), .map (some lb)] 98)) := (Below.refl _ w).alloc (Nat.le_refl _) _
  have hbox := boxed w vn ve kb lb
  have hA1 := hA.below hb0
  have hc := containsIno (countB e) 122 #[.pointer (some ⟨w.heap.size, 0, none⟩)] (enters_of Tryz.func122 (by kernel_rfl) rfl) vn n _ (hn.below hb0) hz (fun W x hW => count1_any _ n e _ x W (hA1.below hW) (hbox.below hW))
  have HB0 := Lib.hid hb0
  clear hn he hA h hA1 hbox hb0
  generalize n.any (countB e) = y at hc
  go_enter Tryz.func69, Tryz.ntmps69
  go_wp2_with (go_at_call 116; refine (hc).mono ?_; rintro x w' ⟨rfl, hN⟩; have HB := Lib.hid (after1 hN).2; clear hN)
  go_ret
  exact ⟨rfl, HB.out⟩

set_option maxRecDepth 100000 in
set_option maxHeartbeats 1000000 in
theorem many_any (g : Value) (n : List Ino) (e : List Ent) (w : World) (h : AuditAt w g n e) (hz : n.length ≤ 1000) :
    Calls Tryz.prog 70 #[g] w fun x w' => x = .returned (.bool (!n.any (manyB e))) ∧ Below w.heap.size w w' := by
  have hA := h
  obtain ⟨vn, ve, kb, lb, kk, kl, rfl, hn, he, _, _, _, _, _, _⟩ := h.ex
  have hb0 : Below w.heap.size w (w.alloc (.cells #[vn, ve, .map (some kb), .map (some lb)] 98)) := (Below.refl _ w).alloc (Nat.le_refl _) _
  have hbox := boxed w vn ve kb lb
  have hA1 := hA.below hb0
  have hc := containsIno (manyB e) 123 #[.pointer (some ⟨w.heap.size, 0, none⟩)] (enters_of Tryz.func123 (by kernel_rfl) rfl) vn n _ (hn.below hb0) hz (fun W x hW => many1_any _ n e _ x W (hA1.below hW) (hbox.below hW))
  have HB0 := Lib.hid hb0
  clear hn he hA h hA1 hbox hb0
  generalize n.any (manyB e) = y at hc
  go_enter Tryz.func70, Tryz.ntmps70
  go_wp2_with (go_at_call 116; refine (hc).mono ?_; rintro x w' ⟨rfl, hN⟩; have HB := Lib.hid (after1 hN).2; clear hN)
  go_ret
  exact ⟨rfl, HB.out⟩

def allBoundsB (n : List Ino) : Bool := decide ((n.length : Int) ≤ 40) && !n.any boundsB

set_option maxRecDepth 100000 in
set_option maxHeartbeats 1000000 in
theorem bounds_any (g : Value) (n : List Ino) (e : List Ent) (w : World) (h : AuditAt w g n e) (h1 : n.length ≤ 1000) :
    Calls Tryz.prog 72 #[g] w fun x w' => x = .returned (.bool (allBoundsB n)) ∧ Below w.heap.size w w' := by
  have hA := h
  obtain ⟨vn, ve, kb, lb, kk, kl, rfl, hn, he, _, _, _, _, _, _⟩ := h.ex
  have hb0 : Below w.heap.size w (w.alloc (.cells #[vn, ve, .map (some kb), .map (some lb)] 98)) := (Below.refl _ w).alloc (Nat.le_refl _) _
  have hbox := boxed w vn ve kb lb
  have hA1 := hA.below hb0
  have hc := containsIno boundsB 126 #[] (enters_of Tryz.func126 (by kernel_rfl) rfl) vn n _ (hn.below hb0) h1 (fun W x _ => bounds1_any x W)
  have HB0 := Lib.hid hb0
  obtain ⟨a, c, rfl⟩ := hn.len
  clear hn he hA h hA1 hbox hb0
  unfold allBoundsB
  generalize n.any boundsB = y at hc
  by_cases hl : (n.length : Int) ≤ 40
  · rw [decide_eq_true hl, Bool.true_and]
    go_enter Tryz.func72, Tryz.ntmps72
    go_wp2_with (go_at_call 116; refine (hc).mono ?_; rintro x w' ⟨rfl, hN⟩; have HB := Lib.hid (after1 hN).2; clear hN)
    go_ret
    exact ⟨rfl, HB.out⟩
  · rw [decide_eq_false hl, Bool.false_and]
    go_enter Tryz.func72, Tryz.ntmps72
    go_wp2
    go_ret
    exact ⟨rfl, HB0.out⟩
end Go.Proofs.YtlokljaeknmdpaaGreat
