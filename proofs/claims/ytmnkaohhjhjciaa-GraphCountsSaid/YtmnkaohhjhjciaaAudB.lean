/-
  The audit's predicates; no condition but the bound on a name's length.
-/
import Derived.Test.YtmnkaohhjhjciaaAudA
import Derived.Test.YtmnkaohhjhjciaaNames
namespace Go.Proofs.Ytmnkaohhjhjciaa
open Go.RowKit Go.Shelf

/-- a parameter's box behind a call -/
theorem after1 {w w' : World} {cs : Array Value} {t : TypeId} (hb : Below (w.alloc (.cells cs t)).heap.size (w.alloc (.cells cs t)) w') : (∀ i v, cs[i]? = some v → w'.cell? ⟨w.heap.size, i, none⟩ = some v) ∧ Below w.heap.size w w' :=
  ⟨fun i v h => (hb.cell (p := ⟨w.heap.size, i, none⟩) (by simp)).trans (cell_new w _ rfl _ _ i v h), ((Below.refl _ w).alloc (Nat.le_refl _) _).trans (hb.mono (by simp))⟩


def badI (x : Ino) : Bool := !mayB x.id.t x.id.r || (decide (x.kind < 1) || decide (3 < x.kind))

set_option maxRecDepth 100000 in
set_option maxHeartbeats 400000 in
theorem shape1_any (x : Ino) (w : World) : Calls Try.prog 104 #[x.v] w fun e w' => e = .returned (.bool (badI x)) ∧ Below w.heap.size w w' := by
  have hm := may_any x.id.t x.id.r (w.alloc (.cells #[.int .i64 x.id.t, .int .i64 x.id.r, .int .i64 x.kind, .int .i64 x.links, .int .i64 x.mode, .string x.data] 31))
  unfold Ino.v
  cases hb : mayB x.id.t x.id.r with
  | false =>
    rw [hb] at hm
    have hr : badI x = true := by simp [badI, hb]
    rw [hr]
    go_enter Try.func104, Try.ntmps104
    go_wp2_with (go_at_call 70; refine hm.mono ?_; rintro e w' ⟨rfl, hN⟩; have HB := Lib.hid (after1 hN.below).2; clear hN)
    go_ret
    exact ⟨rfl, HB.out⟩
  | true =>
    rw [hb] at hm
    by_cases h1 : x.kind < 1
    · have hr : badI x = true := by simp [badI, h1]
      rw [hr]
      go_enter Try.func104, Try.ntmps104
      go_wp2_with (go_at_call 70; refine hm.mono ?_; rintro e w' ⟨rfl, hN⟩; have HB := Lib.hid (after1 hN.below).2; have c2 : w'.cell? ⟨w.heap.size, 2, none⟩ = some (.int .i64 x.kind) := (after1 hN.below).1 2 _ rfl; clear hN)
      go_ret
      exact ⟨rfl, HB.out⟩
    · have hr : badI x = (decide (x.kind < 1) || decide (3 < x.kind)) := by simp [badI, hb]
      rw [hr]
      go_enter Try.func104, Try.ntmps104
      go_wp2_with (go_at_call 70; refine hm.mono ?_; rintro e w' ⟨rfl, hN⟩; have HB := Lib.hid (after1 hN.below).2; have c2 : w'.cell? ⟨w.heap.size, 2, none⟩ = some (.int .i64 x.kind) := (after1 hN.below).1 2 _ rfl; clear hN)
      go_ret
      exact ⟨rfl, HB.out⟩

set_option maxRecDepth 100000 in
set_option maxHeartbeats 400000 in
theorem shape2_any (x : Ent) (hx : x.name.size ≤ maxLen) (w : World) : Calls Try.prog 106 #[x.v] w fun e w' => e = .returned (.bool (!nameOk x.name)) ∧ Below w.heap.size w w' := by
  have hm := name_any x.name (w.alloc (.cells #[.int .i64 x.at_.t, .int .i64 x.at_.r, .string x.name, .int .i64 x.ino.t, .int .i64 x.ino.r] 33)) hx
  unfold Ent.v
  go_enter Try.func106, Try.ntmps106
  go_wp2_with (go_at_call 96; refine hm.mono ?_; rintro e w' ⟨rfl, hN⟩; have HB := Lib.hid (after1 hN).2; clear hN)
  go_ret
  exact ⟨rfl, HB.out⟩

def lostB (n : List Ino) (x : Ent) : Bool := !decide (kindOf n x.at_ = some 1) || !(kindOf n x.ino).isSome

set_option maxRecDepth 100000 in
set_option maxHeartbeats 400000 in
theorem lost1_any (g : Value) (n : List Ino) (e : List Ent) (B : Nat) (x : Ent) (w : World) (h : AuditAt w g n e) (hB : ∃ vn ve kb lb, g = .agg #[vn, ve, .map (some kb), .map (some lb)] ∧ w.cell? ⟨B, 0, none⟩ = some vn ∧ w.cell? ⟨B, 1, none⟩ = some ve ∧ w.cell? ⟨B, 2, none⟩ = some (.map (some kb)) ∧ w.cell? ⟨B, 3, none⟩ = some (.map (some lb)) ∧ B < w.heap.size) :
    Calls Try.prog 107 #[x.v, .pointer (some ⟨B, 0, none⟩)] w fun e w' => e = .returned (.bool (lostB n x)) ∧ Below w.heap.size w w' := by
  obtain ⟨vn, ve, kb, lb, rfl, g0, g1, g2, g3, hBl⟩ := hB
  have hb0 : Below w.heap.size w (w.alloc (.cells #[.int .i64 x.at_.t, .int .i64 x.at_.r, .string x.name, .int .i64 x.ino.t, .int .i64 x.ino.r] 33)) := (Below.refl _ w).alloc (Nat.le_refl _) _
  have hd := directory_any _ n e x.at_ _ (h.below hb0)
  have ht : ∀ W, Below w.heap.size w W → Calls Try.prog 79 #[.agg #[vn, ve, .map (some kb), .map (some lb)], .agg #[.int .i64 x.ino.t, .int .i64 x.ino.r]] W fun y w' => y = .returned (.bool (kindOf n x.ino).isSome) ∧ Below W.heap.size W w' := fun W hW => there_any _ n e x.ino W (h.below hW)
  have g0' := (hb0.cell (p := ⟨B, 0, none⟩) hBl).trans g0
  have g1' := (hb0.cell (p := ⟨B, 1, none⟩) hBl).trans g1
  have g2' := (hb0.cell (p := ⟨B, 2, none⟩) hBl).trans g2
  have g3' := (hb0.cell (p := ⟨B, 3, none⟩) hBl).trans g3
  have HT := Lib.hid ht
  have HC : Hid (∀ W, Below w.heap.size w W → W.cell? ⟨B, 0, none⟩ = some vn ∧ W.cell? ⟨B, 1, none⟩ = some ve ∧ W.cell? ⟨B, 2, none⟩ = some (.map (some kb)) ∧ W.cell? ⟨B, 3, none⟩ = some (.map (some lb))) := Lib.hid fun W hW =>
    ⟨(hW.cell (p := ⟨B, 0, none⟩) hBl).trans g0, (hW.cell (p := ⟨B, 1, none⟩) hBl).trans g1, (hW.cell (p := ⟨B, 2, none⟩) hBl).trans g2, (hW.cell (p := ⟨B, 3, none⟩) hBl).trans g3⟩
  clear ht h hb0 g0 g1 g2 g3
  unfold Ent.v
  change Calls Try.prog 80 #[_, .agg #[.int .i64 x.at_.t, .int .i64 x.at_.r]] _ _ at hd
  cases hk : decide (kindOf n x.at_ = some 1) with
  | false =>
    rw [hk] at hd
    have hr : lostB n x = true := by simp [lostB, hk]
    rw [hr]
    go_enter Try.func107, Try.ntmps107
    go_wp2_with (go_at_call 80; refine hd.mono ?_; rintro e w' ⟨rfl, hN⟩; have HB := Lib.hid (after1 hN).2; clear hN)
    go_ret
    exact ⟨rfl, HB.out⟩
  | true =>
    rw [hk] at hd
    have hr : lostB n x = (kindOf n x.ino).isNone := by simp [lostB, hk]
    rw [hr]
    go_enter Try.func107, Try.ntmps107
    go_wp2_with (first
      | (go_at_call 80; refine hd.mono ?_; rintro e w' ⟨rfl, hN⟩; have HB := Lib.hid (after1 hN).2; have c3 := (after1 hN).1 3 _ rfl; have c4 := (after1 hN).1 4 _ rfl; obtain ⟨k0, k1, k2, k3⟩ := HC.out w' HB.out; clear hN)
      | (go_at_call 79; refine (HT.out _ HB.out).mono ?_; rintro e w'' ⟨rfl, hN⟩; have HB2 := Lib.hid hN; clear hN))
    go_ret
    exact ⟨rfl, HB.out.trans (HB2.out.mono HB.out.size)⟩

def countB (e : List Ent) (x : Ino) : Bool := x.links != (linksTo e x.id : Int)

/-- the boxed graph -/
def GBox (w : World) (B : Nat) (g : Value) : Prop := ∃ vn ve kb lb, g = .agg #[vn, ve, .map (some kb), .map (some lb)] ∧ w.cell? ⟨B, 0, none⟩ = some vn ∧ w.cell? ⟨B, 1, none⟩ = some ve ∧ w.cell? ⟨B, 2, none⟩ = some (.map (some kb)) ∧ w.cell? ⟨B, 3, none⟩ = some (.map (some lb)) ∧ B < w.heap.size
theorem GBox.below {w w' : World} {B : Nat} {g : Value} (h : GBox w B g) (hW : Below w.heap.size w w') : GBox w' B g := by
  obtain ⟨vn, ve, kb, lb, rfl, g0, g1, g2, g3, hBl⟩ := h
  exact ⟨vn, ve, kb, lb, rfl, (hW.cell (p := ⟨B, 0, none⟩) hBl).trans g0, (hW.cell (p := ⟨B, 1, none⟩) hBl).trans g1, (hW.cell (p := ⟨B, 2, none⟩) hBl).trans g2, (hW.cell (p := ⟨B, 3, none⟩) hBl).trans g3, Nat.lt_of_lt_of_le hBl hW.size⟩

/-- a look at the links -/
theorem linksLook {w : World} {vn ve : Value} {kb lb : Nat} {n : List Ino} {e : List Ent} (h : AuditAt w (.agg #[vn, ve, .map (some kb), .map (some lb)]) n e) (id : St) :
    (Instr.lookup 81 (.map (some lb)) (.agg #[.int .i64 id.t, .int .i64 id.r]) false).run Try.prog w = .ok (.int .i64 (linksTo e id : Int)) w := by
  obtain ⟨vn', ve', kb', lb', kk, kl, hg, _, _, hk, hl, h6, h7, h8, h9⟩ := h.ex
  simp at hg
  obtain ⟨rfl, rfl, rfl, rfl⟩ := hg
  have := (run_lookup_kv (w := w) keySt Try.underlying81 Try.zeroValue3 hl id).2
  rw [getD_look, h7] at this
  exact this

set_option maxRecDepth 100000 in
set_option maxHeartbeats 400000 in
theorem count1_any (g : Value) (n : List Ino) (e : List Ent) (B : Nat) (x : Ino) (w : World) (h : AuditAt w g n e) (hB : GBox w B g) :
    Calls Try.prog 108 #[x.v, .pointer (some ⟨B, 0, none⟩)] w fun y w' => y = .returned (.bool (countB e x)) ∧ Below w.heap.size w w' := by
  have hb0 : Below w.heap.size w (w.alloc (.cells #[.int .i64 x.id.t, .int .i64 x.id.r, .int .i64 x.kind, .int .i64 x.links, .int .i64 x.mode, .string x.data] 31)) := (Below.refl _ w).alloc (Nat.le_refl _) _
  obtain ⟨vn, ve, kb, lb, rfl, g0, g1, g2, g3, hBl⟩ := hB.below hb0
  have hl := linksLook (h.below hb0.drew) x.id
  have h3 : B < w.heap.size := by obtain ⟨_, _, _, _, _, _, _, _, _, h⟩ := hB; exact h
  have HB := Lib.hid hb0.drew
  clear h hB hb0 g0 g1 g2 hBl
  unfold Ino.v countB
  generalize (linksTo e x.id : Int) = z at hl
  go_enter Try.func108, Try.ntmps108
  go_wp2
  go_region
  go_wp2
  go_ret
  exact ⟨rfl, HB.out⟩

def manyB (e : List Ent) (x : Ino) : Bool := if x.id = ⟨0, 0⟩ then (linksTo e x.id : Int) != 0 else if x.kind = 1 then (linksTo e x.id : Int) != 1 else decide ((linksTo e x.id : Int) < 1) || decide (6 < (linksTo e x.id : Int))

set_option maxRecDepth 100000 in
set_option maxHeartbeats 400000 in
theorem many1_any (g : Value) (n : List Ino) (e : List Ent) (B : Nat) (x : Ino) (w : World) (h : AuditAt w g n e) (hB : GBox w B g) :
    Calls Try.prog 109 #[x.v, .pointer (some ⟨B, 0, none⟩)] w fun y w' => y = .returned (.bool (manyB e x)) ∧ Below w.heap.size w w' := by
  have hb0 : Below w.heap.size w (w.alloc (.cells #[.int .i64 x.id.t, .int .i64 x.id.r, .int .i64 x.kind, .int .i64 x.links, .int .i64 x.mode, .string x.data] 31)) := (Below.refl _ w).alloc (Nat.le_refl _) _
  obtain ⟨vn, ve, kb, lb, rfl, g0, g1, g2, g3, hBl⟩ := hB.below hb0
  have hl := linksLook (h.below hb0) x.id
  have h3 : B < w.heap.size := by obtain ⟨_, _, _, _, _, _, _, _, _, h⟩ := hB; exact h
  have HB := Lib.hid hb0
  clear h hB hb0 g0 g1 g2 hBl
  unfold Ino.v manyB
  generalize (linksTo e x.id : Int) = z at hl
  obtain ⟨⟨t, r⟩, kind, links, mode, data⟩ := x
  by_cases h1 : (⟨t, r⟩ : St) = ⟨0, 0⟩
  · rw [if_pos h1]
    obtain ⟨rfl, rfl⟩ := St.mk.inj h1
    clear h1
    go_enter Try.func109, Try.ntmps109
    go_wp2
    go_ret
    exact ⟨by first | rfl | simp, HB.out⟩
  · rw [if_neg h1]
    by_cases ht : t = 0
    · subst ht
      have hr : (r == 0) = false := beq_eq_false_iff_ne.2 (fun h => h1 (by rw [h]))
      clear h1
      by_cases h2 : kind = 1
      · subst h2
        rw [if_pos rfl]
        go_enter Try.func109, Try.ntmps109
        go_wp2
        go_ret
        exact ⟨by first | rfl | simp, HB.out⟩
      · rw [if_neg h2]
        have e2 : (kind == 1) = false := beq_eq_false_iff_ne.2 h2
        clear h2
        by_cases h4 : z < 1
        · rw [decide_eq_true h4, Bool.true_or]
          go_enter Try.func109, Try.ntmps109
          go_wp2
          go_ret
          exact ⟨by first | rfl | simp, HB.out⟩
        · rw [decide_eq_false h4, Bool.false_or]
          go_enter Try.func109, Try.ntmps109
          go_wp2
          go_ret
          exact ⟨by first | rfl | simp, HB.out⟩
    · have hr : (t == 0) = false := beq_eq_false_iff_ne.2 ht
      clear h1 ht
      by_cases h2 : kind = 1
      · subst h2
        rw [if_pos rfl]
        go_enter Try.func109, Try.ntmps109
        go_wp2
        go_ret
        exact ⟨by first | rfl | simp, HB.out⟩
      · rw [if_neg h2]
        have e2 : (kind == 1) = false := beq_eq_false_iff_ne.2 h2
        clear h2
        by_cases h4 : z < 1
        · rw [decide_eq_true h4, Bool.true_or]
          go_enter Try.func109, Try.ntmps109
          go_wp2
          go_ret
          exact ⟨by first | rfl | simp, HB.out⟩
        · rw [decide_eq_false h4, Bool.false_or]
          go_enter Try.func109, Try.ntmps109
          go_wp2
          go_ret
          exact ⟨by first | rfl | simp, HB.out⟩
end Go.Proofs.Ytmnkaohhjhjciaa
