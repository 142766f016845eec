/-
  The audit's rises; no condition.
-/
import Derived.Test.YtmnkaohhjhjciaaAudD
import Derived.Shelf.GgClosure.Gives
namespace Go.Proofs.Ytmnkaohhjhjciaa
open Go.RowKit Go.Shelf

/-- each is ahead of the next one -/
def risesBy {α : Type} [Inhabited α] (c : α → α → Int) (l : List α) : Bool := (List.range (l.length - 1)).all fun i => decide (c l[i]! l[i + 1]! < 0)
theorem risesBy_false {α : Type} [Inhabited α] {c : α → α → Int} {l : List α} (k : Nat) (hk : k + 1 < l.length) (h : ¬ c l[k]! l[k + 1]! < 0) : risesBy c l = false := by
  unfold risesBy
  rw [List.all_eq_false]
  exact ⟨k, List.mem_range.2 (by omega), by simpa using h⟩
theorem risesBy_true {α : Type} [Inhabited α] {c : α → α → Int} {l : List α} (h : ∀ k, k + 1 < l.length → c l[k]! l[k + 1]! < 0) : risesBy c l = true := by
  unfold risesBy
  rw [List.all_eq_true]
  intro k hk
  have := List.mem_range.1 hk
  simpa using h k (by omega)
theorem wrapNat (k : Nat) (h : k < 9223372036854775808) : IntKind.i64.wrap (k : Int) = (k : Int) := by
  rw [IntWalk.i64_left]
  unfold wrap64
  omega
def cmpIno (x y : Ino) : Int := cmpSt x.id.t x.id.r y.id.t y.id.r
def cmpEnt (x y : Ent) : Int := orI (cmpSt x.at_.t x.at_.r y.at_.t y.at_.r) (cmpB x.name y.name)


theorem cellsIno {w : World} {zs : List Ino} {b off : Nat} (hc : ∀ j, j < zs.length → ∀ i u, (Ino.cells zs[j]!)[i]? = some u → w.cell? ⟨b, off + j * 6 + i, none⟩ = some u) (j : Nat) (hj : j < zs.length) :
    w.cell? ⟨b, off + j * 6, none⟩ = some (.int .i64 zs[j]!.id.t) ∧ w.cell? ⟨b, off + j * 6 + 1, none⟩ = some (.int .i64 zs[j]!.id.r) ∧ w.cell? ⟨b, off + j * 6 + 2, none⟩ = some (.int .i64 zs[j]!.kind) ∧ w.cell? ⟨b, off + j * 6 + 3, none⟩ = some (.int .i64 zs[j]!.links) ∧ w.cell? ⟨b, off + j * 6 + 4, none⟩ = some (.int .i64 zs[j]!.mode) ∧ w.cell? ⟨b, off + j * 6 + 5, none⟩ = some (.string zs[j]!.data) := by
  have h := hc j hj
  generalize zs[j]! = x at h
  exact ⟨h 0 _ rfl, h 1 _ rfl, h 2 _ rfl, h 3 _ rfl, h 4 _ rfl, h 5 _ rfl⟩

set_option maxRecDepth 100000 in
set_option maxHeartbeats 1000000 in
theorem risesIno_any (v : Value) (zs : List Ino) (w : World) (h : SlAt w 6 Ino.cells v zs) (hz : zs.length ≤ 1000) :
    Calls Try.prog 99 #[v, .func (.func 100) #[] #[]] w fun e w' => e = .returned (.bool (risesBy cmpIno zs)) ∧ Below w.heap.size w w' := by
  have hs := Lib.hid (order1_any)
  rcases h with ⟨a', c', rfl, rfl⟩ | ⟨b, off, c, rfl, _, _, hb, hc⟩
  · go_enter Try.func99, Try.ntmps99
    go_wp2
    refine wp_loop_rounds 1 ?_
    rw [rounds_succ]
    go_wp2
    go_ret
    exact ⟨rfl, Below.refl _ _⟩
  · have HC := Lib.hid hc
    clear hc
    go_enter Try.func99, Try.ntmps99
    go_wp2
    go_loopg [5] zs.length (fun gg s5 wr => ∃ kk : Nat, kk ≤ zs.length ∧ zs.length - kk ≤ gg ∧ s5 = .int .i64 (kk + 1 : Nat) ∧ Aside (Below w.heap.size w wr) ∧ Aside (∀ j, j < kk → j + 1 < zs.length → cmpIno zs[j]! zs[j + 1]! < 0))
    case atStart => exact ⟨0, Nat.zero_le _, by omega, rfl, Below.refl _ w, fun j hj => absurd hj (Nat.not_lt_zero _)⟩
    case round =>
      obtain ⟨kk, hkk, hg, rfl, BW, A⟩ := hrel
      by_cases hlt : kk + 1 < zs.length
      · have k1 := HC.out
        obtain ⟨x0, x1, x2, x3, x4, x5⟩ := cellsIno (w := wr) (fun j hj i u hu => (BW.out.cell (p := ⟨b, _, none⟩) hb).trans (HC.out j hj i u hu)) kk (by omega)
        obtain ⟨y0, y1, y2, y3, y4, y5⟩ := cellsIno (w := wr) (fun j hj i u hu => (BW.out.cell (p := ⟨b, _, none⟩) hb).trans (HC.out j hj i u hu)) (kk + 1) hlt
        clear k1
        generalize hX : zs[kk]! = X at *
        generalize hY : zs[kk + 1]! = Y at *
        have HX := Lib.hid hX
        have HY := Lib.hid hY
        clear hX hY
        have hcall := hs.out X Y
        have hlti : (kk : Int) + 1 < (zs.length : Int) := by omega
        have hb1 : (0 : Int) ≤ (kk : Int) + 1 := by omega
        have hb2 : (kk : Int) < (zs.length : Int) := by omega
        have hb3 : (0 : Int) ≤ (kk : Int) := by omega
        generalize hr : cmpIno X Y = r
        have hcall2 : ∀ w', Calls Try.prog 100 #[X.v, Y.v] w' fun e w'' => e = .returned (.int .i64 r) ∧ New w' w'' := by
          intro w'
          rw [← hr]
          exact hcall w'
        clear hcall
        have HCALL := Lib.hid hcall2
        have HR := Lib.hid hr
        clear hr hcall2 hs
        have hw : IntKind.i64.wrap (kk : Int) = (kk : Int) := wrapNat kk (by omega)
        have hw2 : IntKind.i64.wrap ((kk : Int) + 1) = (kk : Int) + 1 := wrapNat (kk + 1) (by omega)
        have hw3 : IntKind.i64.wrap ((kk : Int) + 1 + 1) = (kk : Int) + 1 + 1 := wrapNat (kk + 1 + 1) (by omega)
        have HBL : Hid (b < wr.heap.size) := Lib.hid (Nat.lt_of_lt_of_le hb BW.out.size)
        by_cases h0 : 0 ≤ r
        · go_wp2
          go_region_held3 (fun W => (W.cell? ⟨b, off + kk * 6, none⟩ = some (.int .i64 X.id.t) ∧ W.cell? ⟨b, off + kk * 6 + 1, none⟩ = some (.int .i64 X.id.r) ∧ W.cell? ⟨b, off + kk * 6 + 2, none⟩ = some (.int .i64 X.kind) ∧ W.cell? ⟨b, off + kk * 6 + 3, none⟩ = some (.int .i64 X.links) ∧ W.cell? ⟨b, off + kk * 6 + 4, none⟩ = some (.int .i64 X.mode) ∧ W.cell? ⟨b, off + kk * 6 + 5, none⟩ = some (.string X.data)) ∧ (W.cell? ⟨b, off + (kk + 1) * 6, none⟩ = some (.int .i64 Y.id.t) ∧ W.cell? ⟨b, off + (kk + 1) * 6 + 1, none⟩ = some (.int .i64 Y.id.r) ∧ W.cell? ⟨b, off + (kk + 1) * 6 + 2, none⟩ = some (.int .i64 Y.kind) ∧ W.cell? ⟨b, off + (kk + 1) * 6 + 3, none⟩ = some (.int .i64 Y.links) ∧ W.cell? ⟨b, off + (kk + 1) * 6 + 4, none⟩ = some (.int .i64 Y.mode) ∧ W.cell? ⟨b, off + (kk + 1) * 6 + 5, none⟩ = some (.string Y.data))) (go_keep) (first
            | (go_at_call 100; refine (HCALL.out _).mono ?_; rintro e w' ⟨rfl, hN⟩; have HN := Lib.hid hN; have p0 : w'.cell? ⟨b, off + kk * 6, none⟩ = some (.int .i64 X.id.t) := (hN.below.cell (p := ⟨b, _, none⟩) HBL.out).trans x0; have p1 : w'.cell? ⟨b, off + kk * 6 + 1, none⟩ = some (.int .i64 X.id.r) := (hN.below.cell (p := ⟨b, _, none⟩) HBL.out).trans x1; have p2 : w'.cell? ⟨b, off + kk * 6 + 2, none⟩ = some (.int .i64 X.kind) := (hN.below.cell (p := ⟨b, _, none⟩) HBL.out).trans x2; have p3 : w'.cell? ⟨b, off + kk * 6 + 3, none⟩ = some (.int .i64 X.links) := (hN.below.cell (p := ⟨b, _, none⟩) HBL.out).trans x3; have p4 : w'.cell? ⟨b, off + kk * 6 + 4, none⟩ = some (.int .i64 X.mode) := (hN.below.cell (p := ⟨b, _, none⟩) HBL.out).trans x4; have p5 : w'.cell? ⟨b, off + kk * 6 + 5, none⟩ = some (.string X.data) := (hN.below.cell (p := ⟨b, _, none⟩) HBL.out).trans x5; have q0 : w'.cell? ⟨b, off + (kk + 1) * 6, none⟩ = some (.int .i64 Y.id.t) := (hN.below.cell (p := ⟨b, _, none⟩) HBL.out).trans y0; have q1 : w'.cell? ⟨b, off + (kk + 1) * 6 + 1, none⟩ = some (.int .i64 Y.id.r) := (hN.below.cell (p := ⟨b, _, none⟩) HBL.out).trans y1; have q2 : w'.cell? ⟨b, off + (kk + 1) * 6 + 2, none⟩ = some (.int .i64 Y.kind) := (hN.below.cell (p := ⟨b, _, none⟩) HBL.out).trans y2; have q3 : w'.cell? ⟨b, off + (kk + 1) * 6 + 3, none⟩ = some (.int .i64 Y.links) := (hN.below.cell (p := ⟨b, _, none⟩) HBL.out).trans y3; have q4 : w'.cell? ⟨b, off + (kk + 1) * 6 + 4, none⟩ = some (.int .i64 Y.mode) := (hN.below.cell (p := ⟨b, _, none⟩) HBL.out).trans y4; have q5 : w'.cell? ⟨b, off + (kk + 1) * 6 + 5, none⟩ = some (.string Y.data) := (hN.below.cell (p := ⟨b, _, none⟩) HBL.out).trans y5; clear hN))
          all_goals go_wp2
          all_goals go_ret
          all_goals refine ⟨?_, BW.out.drew.trans (HN.out.below.mono BW.out.size)⟩
          all_goals rw [show risesBy cmpIno zs = false from risesBy_false kk hlt (by rw [HX.out, HY.out, HR.out]; omega)]
          all_goals rfl
        · go_wp2
          go_region_held3 (fun W => (W.cell? ⟨b, off + kk * 6, none⟩ = some (.int .i64 X.id.t) ∧ W.cell? ⟨b, off + kk * 6 + 1, none⟩ = some (.int .i64 X.id.r) ∧ W.cell? ⟨b, off + kk * 6 + 2, none⟩ = some (.int .i64 X.kind) ∧ W.cell? ⟨b, off + kk * 6 + 3, none⟩ = some (.int .i64 X.links) ∧ W.cell? ⟨b, off + kk * 6 + 4, none⟩ = some (.int .i64 X.mode) ∧ W.cell? ⟨b, off + kk * 6 + 5, none⟩ = some (.string X.data)) ∧ (W.cell? ⟨b, off + (kk + 1) * 6, none⟩ = some (.int .i64 Y.id.t) ∧ W.cell? ⟨b, off + (kk + 1) * 6 + 1, none⟩ = some (.int .i64 Y.id.r) ∧ W.cell? ⟨b, off + (kk + 1) * 6 + 2, none⟩ = some (.int .i64 Y.kind) ∧ W.cell? ⟨b, off + (kk + 1) * 6 + 3, none⟩ = some (.int .i64 Y.links) ∧ W.cell? ⟨b, off + (kk + 1) * 6 + 4, none⟩ = some (.int .i64 Y.mode) ∧ W.cell? ⟨b, off + (kk + 1) * 6 + 5, none⟩ = some (.string Y.data))) (go_keep) (first
            | (go_at_call 100; refine (HCALL.out _).mono ?_; rintro e w' ⟨rfl, hN⟩; have HN := Lib.hid hN; have p0 : w'.cell? ⟨b, off + kk * 6, none⟩ = some (.int .i64 X.id.t) := (hN.below.cell (p := ⟨b, _, none⟩) HBL.out).trans x0; have p1 : w'.cell? ⟨b, off + kk * 6 + 1, none⟩ = some (.int .i64 X.id.r) := (hN.below.cell (p := ⟨b, _, none⟩) HBL.out).trans x1; have p2 : w'.cell? ⟨b, off + kk * 6 + 2, none⟩ = some (.int .i64 X.kind) := (hN.below.cell (p := ⟨b, _, none⟩) HBL.out).trans x2; have p3 : w'.cell? ⟨b, off + kk * 6 + 3, none⟩ = some (.int .i64 X.links) := (hN.below.cell (p := ⟨b, _, none⟩) HBL.out).trans x3; have p4 : w'.cell? ⟨b, off + kk * 6 + 4, none⟩ = some (.int .i64 X.mode) := (hN.below.cell (p := ⟨b, _, none⟩) HBL.out).trans x4; have p5 : w'.cell? ⟨b, off + kk * 6 + 5, none⟩ = some (.string X.data) := (hN.below.cell (p := ⟨b, _, none⟩) HBL.out).trans x5; have q0 : w'.cell? ⟨b, off + (kk + 1) * 6, none⟩ = some (.int .i64 Y.id.t) := (hN.below.cell (p := ⟨b, _, none⟩) HBL.out).trans y0; have q1 : w'.cell? ⟨b, off + (kk + 1) * 6 + 1, none⟩ = some (.int .i64 Y.id.r) := (hN.below.cell (p := ⟨b, _, none⟩) HBL.out).trans y1; have q2 : w'.cell? ⟨b, off + (kk + 1) * 6 + 2, none⟩ = some (.int .i64 Y.kind) := (hN.below.cell (p := ⟨b, _, none⟩) HBL.out).trans y2; have q3 : w'.cell? ⟨b, off + (kk + 1) * 6 + 3, none⟩ = some (.int .i64 Y.links) := (hN.below.cell (p := ⟨b, _, none⟩) HBL.out).trans y3; have q4 : w'.cell? ⟨b, off + (kk + 1) * 6 + 4, none⟩ = some (.int .i64 Y.mode) := (hN.below.cell (p := ⟨b, _, none⟩) HBL.out).trans y4; have q5 : w'.cell? ⟨b, off + (kk + 1) * 6 + 5, none⟩ = some (.string Y.data) := (hN.below.cell (p := ⟨b, _, none⟩) HBL.out).trans y5; clear hN))
          all_goals go_wp2
          all_goals go_roundg (zs.length - (kk + 1))
          case measure => omega
          case rel =>
            refine ⟨kk + 1, by omega, by omega, by first | rfl | go_num, BW.out.drew.trans (HN.out.below.mono BW.out.size), (show Aside _ from fun j hj hj1 => ?_)⟩
            by_cases ej : j = kk
            · subst ej; rw [HX.out, HY.out, HR.out]; omega
            · exact A.out j (by omega) hj1
      · have hlti : ¬ (kk : Int) + 1 < (zs.length : Int) := by omega
        go_wp2
        go_ret
        refine ⟨?_, BW.out⟩
        rw [show risesBy cmpIno zs = true from risesBy_true fun j hj => A.out j (by omega) hj]
        rfl

theorem cellsEnt {w : World} {zs : List Ent} {b off : Nat} (hc : ∀ j, j < zs.length → ∀ i u, (Ent.cells zs[j]!)[i]? = some u → w.cell? ⟨b, off + j * 5 + i, none⟩ = some u) (j : Nat) (hj : j < zs.length) :
    w.cell? ⟨b, off + j * 5, none⟩ = some (.int .i64 zs[j]!.at_.t) ∧ w.cell? ⟨b, off + j * 5 + 1, none⟩ = some (.int .i64 zs[j]!.at_.r) ∧ w.cell? ⟨b, off + j * 5 + 2, none⟩ = some (.string zs[j]!.name) ∧ w.cell? ⟨b, off + j * 5 + 3, none⟩ = some (.int .i64 zs[j]!.ino.t) ∧ w.cell? ⟨b, off + j * 5 + 4, none⟩ = some (.int .i64 zs[j]!.ino.r) := by
  have h := hc j hj
  generalize zs[j]! = x at h
  exact ⟨h 0 _ rfl, h 1 _ rfl, h 2 _ rfl, h 3 _ rfl, h 4 _ rfl⟩

set_option maxRecDepth 100000 in
set_option maxHeartbeats 1000000 in
theorem risesEnt_any (v : Value) (zs : List Ent) (w : World) (h : SlAt w 5 Ent.cells v zs) (hz : zs.length ≤ 1000) :
    Calls Try.prog 101 #[v, .func (.func 102) #[] #[]] w fun e w' => e = .returned (.bool (risesBy cmpEnt zs)) ∧ Below w.heap.size w w' := by
  have hs := Lib.hid (order2_any)
  rcases h with ⟨a', c', rfl, rfl⟩ | ⟨b, off, c, rfl, _, _, hb, hc⟩
  · go_enter Try.func101, Try.ntmps101
    go_wp2
    refine wp_loop_rounds 1 ?_
    rw [rounds_succ]
    go_wp2
    go_ret
    exact ⟨rfl, Below.refl _ _⟩
  · have HC := Lib.hid hc
    clear hc
    go_enter Try.func101, Try.ntmps101
    go_wp2
    go_loopg [5] zs.length (fun gg s5 wr => ∃ kk : Nat, kk ≤ zs.length ∧ zs.length - kk ≤ gg ∧ s5 = .int .i64 (kk + 1 : Nat) ∧ Aside (Below w.heap.size w wr) ∧ Aside (∀ j, j < kk → j + 1 < zs.length → cmpEnt zs[j]! zs[j + 1]! < 0))
    case atStart => exact ⟨0, Nat.zero_le _, by omega, rfl, Below.refl _ w, fun j hj => absurd hj (Nat.not_lt_zero _)⟩
    case round =>
      obtain ⟨kk, hkk, hg, rfl, BW, A⟩ := hrel
      by_cases hlt : kk + 1 < zs.length
      · have k1 := HC.out
        obtain ⟨x0, x1, x2, x3, x4⟩ := cellsEnt (w := wr) (fun j hj i u hu => (BW.out.cell (p := ⟨b, _, none⟩) hb).trans (HC.out j hj i u hu)) kk (by omega)
        obtain ⟨y0, y1, y2, y3, y4⟩ := cellsEnt (w := wr) (fun j hj i u hu => (BW.out.cell (p := ⟨b, _, none⟩) hb).trans (HC.out j hj i u hu)) (kk + 1) hlt
        clear k1
        generalize hX : zs[kk]! = X at *
        generalize hY : zs[kk + 1]! = Y at *
        have HX := Lib.hid hX
        have HY := Lib.hid hY
        clear hX hY
        have hcall := hs.out X Y
        have hlti : (kk : Int) + 1 < (zs.length : Int) := by omega
        have hb1 : (0 : Int) ≤ (kk : Int) + 1 := by omega
        have hb2 : (kk : Int) < (zs.length : Int) := by omega
        have hb3 : (0 : Int) ≤ (kk : Int) := by omega
        generalize hr : cmpEnt X Y = r
        have hcall2 : ∀ w', Calls Try.prog 102 #[X.v, Y.v] w' fun e w'' => e = .returned (.int .i64 r) ∧ New w' w'' := by
          intro w'
          rw [← hr]
          exact hcall w'
        clear hcall
        have HCALL := Lib.hid hcall2
        have HR := Lib.hid hr
        clear hr hcall2 hs
        have hw : IntKind.i64.wrap (kk : Int) = (kk : Int) := wrapNat kk (by omega)
        have hw2 : IntKind.i64.wrap ((kk : Int) + 1) = (kk : Int) + 1 := wrapNat (kk + 1) (by omega)
        have hw3 : IntKind.i64.wrap ((kk : Int) + 1 + 1) = (kk : Int) + 1 + 1 := wrapNat (kk + 1 + 1) (by omega)
        have HBL : Hid (b < wr.heap.size) := Lib.hid (Nat.lt_of_lt_of_le hb BW.out.size)
        by_cases h0 : 0 ≤ r
        · go_wp2
          go_region_held3 (fun W => (W.cell? ⟨b, off + kk * 5, none⟩ = some (.int .i64 X.at_.t) ∧ W.cell? ⟨b, off + kk * 5 + 1, none⟩ = some (.int .i64 X.at_.r) ∧ W.cell? ⟨b, off + kk * 5 + 2, none⟩ = some (.string X.name) ∧ W.cell? ⟨b, off + kk * 5 + 3, none⟩ = some (.int .i64 X.ino.t) ∧ W.cell? ⟨b, off + kk * 5 + 4, none⟩ = some (.int .i64 X.ino.r)) ∧ (W.cell? ⟨b, off + (kk + 1) * 5, none⟩ = some (.int .i64 Y.at_.t) ∧ W.cell? ⟨b, off + (kk + 1) * 5 + 1, none⟩ = some (.int .i64 Y.at_.r) ∧ W.cell? ⟨b, off + (kk + 1) * 5 + 2, none⟩ = some (.string Y.name) ∧ W.cell? ⟨b, off + (kk + 1) * 5 + 3, none⟩ = some (.int .i64 Y.ino.t) ∧ W.cell? ⟨b, off + (kk + 1) * 5 + 4, none⟩ = some (.int .i64 Y.ino.r))) (go_keep) (first
            | (go_at_call 102; refine (HCALL.out _).mono ?_; rintro e w' ⟨rfl, hN⟩; have HN := Lib.hid hN; have p0 : w'.cell? ⟨b, off + kk * 5, none⟩ = some (.int .i64 X.at_.t) := (hN.below.cell (p := ⟨b, _, none⟩) HBL.out).trans x0; have p1 : w'.cell? ⟨b, off + kk * 5 + 1, none⟩ = some (.int .i64 X.at_.r) := (hN.below.cell (p := ⟨b, _, none⟩) HBL.out).trans x1; have p2 : w'.cell? ⟨b, off + kk * 5 + 2, none⟩ = some (.string X.name) := (hN.below.cell (p := ⟨b, _, none⟩) HBL.out).trans x2; have p3 : w'.cell? ⟨b, off + kk * 5 + 3, none⟩ = some (.int .i64 X.ino.t) := (hN.below.cell (p := ⟨b, _, none⟩) HBL.out).trans x3; have p4 : w'.cell? ⟨b, off + kk * 5 + 4, none⟩ = some (.int .i64 X.ino.r) := (hN.below.cell (p := ⟨b, _, none⟩) HBL.out).trans x4; have q0 : w'.cell? ⟨b, off + (kk + 1) * 5, none⟩ = some (.int .i64 Y.at_.t) := (hN.below.cell (p := ⟨b, _, none⟩) HBL.out).trans y0; have q1 : w'.cell? ⟨b, off + (kk + 1) * 5 + 1, none⟩ = some (.int .i64 Y.at_.r) := (hN.below.cell (p := ⟨b, _, none⟩) HBL.out).trans y1; have q2 : w'.cell? ⟨b, off + (kk + 1) * 5 + 2, none⟩ = some (.string Y.name) := (hN.below.cell (p := ⟨b, _, none⟩) HBL.out).trans y2; have q3 : w'.cell? ⟨b, off + (kk + 1) * 5 + 3, none⟩ = some (.int .i64 Y.ino.t) := (hN.below.cell (p := ⟨b, _, none⟩) HBL.out).trans y3; have q4 : w'.cell? ⟨b, off + (kk + 1) * 5 + 4, none⟩ = some (.int .i64 Y.ino.r) := (hN.below.cell (p := ⟨b, _, none⟩) HBL.out).trans y4; clear hN))
          all_goals go_wp2
          all_goals go_ret
          all_goals refine ⟨?_, BW.out.drew.trans (HN.out.below.mono BW.out.size)⟩
          all_goals rw [show risesBy cmpEnt zs = false from risesBy_false kk hlt (by rw [HX.out, HY.out, HR.out]; omega)]
          all_goals rfl
        · go_wp2
          go_region_held3 (fun W => (W.cell? ⟨b, off + kk * 5, none⟩ = some (.int .i64 X.at_.t) ∧ W.cell? ⟨b, off + kk * 5 + 1, none⟩ = some (.int .i64 X.at_.r) ∧ W.cell? ⟨b, off + kk * 5 + 2, none⟩ = some (.string X.name) ∧ W.cell? ⟨b, off + kk * 5 + 3, none⟩ = some (.int .i64 X.ino.t) ∧ W.cell? ⟨b, off + kk * 5 + 4, none⟩ = some (.int .i64 X.ino.r)) ∧ (W.cell? ⟨b, off + (kk + 1) * 5, none⟩ = some (.int .i64 Y.at_.t) ∧ W.cell? ⟨b, off + (kk + 1) * 5 + 1, none⟩ = some (.int .i64 Y.at_.r) ∧ W.cell? ⟨b, off + (kk + 1) * 5 + 2, none⟩ = some (.string Y.name) ∧ W.cell? ⟨b, off + (kk + 1) * 5 + 3, none⟩ = some (.int .i64 Y.ino.t) ∧ W.cell? ⟨b, off + (kk + 1) * 5 + 4, none⟩ = some (.int .i64 Y.ino.r))) (go_keep) (first
            | (go_at_call 102; refine (HCALL.out _).mono ?_; rintro e w' ⟨rfl, hN⟩; have HN := Lib.hid hN; have p0 : w'.cell? ⟨b, off + kk * 5, none⟩ = some (.int .i64 X.at_.t) := (hN.below.cell (p := ⟨b, _, none⟩) HBL.out).trans x0; have p1 : w'.cell? ⟨b, off + kk * 5 + 1, none⟩ = some (.int .i64 X.at_.r) := (hN.below.cell (p := ⟨b, _, none⟩) HBL.out).trans x1; have p2 : w'.cell? ⟨b, off + kk * 5 + 2, none⟩ = some (.string X.name) := (hN.below.cell (p := ⟨b, _, none⟩) HBL.out).trans x2; have p3 : w'.cell? ⟨b, off + kk * 5 + 3, none⟩ = some (.int .i64 X.ino.t) := (hN.below.cell (p := ⟨b, _, none⟩) HBL.out).trans x3; have p4 : w'.cell? ⟨b, off + kk * 5 + 4, none⟩ = some (.int .i64 X.ino.r) := (hN.below.cell (p := ⟨b, _, none⟩) HBL.out).trans x4; have q0 : w'.cell? ⟨b, off + (kk + 1) * 5, none⟩ = some (.int .i64 Y.at_.t) := (hN.below.cell (p := ⟨b, _, none⟩) HBL.out).trans y0; have q1 : w'.cell? ⟨b, off + (kk + 1) * 5 + 1, none⟩ = some (.int .i64 Y.at_.r) := (hN.below.cell (p := ⟨b, _, none⟩) HBL.out).trans y1; have q2 : w'.cell? ⟨b, off + (kk + 1) * 5 + 2, none⟩ = some (.string Y.name) := (hN.below.cell (p := ⟨b, _, none⟩) HBL.out).trans y2; have q3 : w'.cell? ⟨b, off + (kk + 1) * 5 + 3, none⟩ = some (.int .i64 Y.ino.t) := (hN.below.cell (p := ⟨b, _, none⟩) HBL.out).trans y3; have q4 : w'.cell? ⟨b, off + (kk + 1) * 5 + 4, none⟩ = some (.int .i64 Y.ino.r) := (hN.below.cell (p := ⟨b, _, none⟩) HBL.out).trans y4; clear hN))
          all_goals go_wp2
          all_goals go_roundg (zs.length - (kk + 1))
          case measure => omega
          case rel =>
            refine ⟨kk + 1, by omega, by omega, by first | rfl | go_num, BW.out.drew.trans (HN.out.below.mono BW.out.size), (show Aside _ from fun j hj hj1 => ?_)⟩
            by_cases ej : j = kk
            · subst ej; rw [HX.out, HY.out, HR.out]; omega
            · exact A.out j (by omega) hj1
      · have hlti : ¬ (kk : Int) + 1 < (zs.length : Int) := by omega
        go_wp2
        go_ret
        refine ⟨?_, BW.out⟩
        rw [show risesBy cmpEnt zs = true from risesBy_true fun j hj => A.out j (by omega) hj]
        rfl
end Go.Proofs.Ytmnkaohhjhjciaa
