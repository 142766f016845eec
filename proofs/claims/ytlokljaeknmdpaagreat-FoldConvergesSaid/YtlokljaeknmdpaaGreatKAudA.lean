/-
  What the audit's graph is; audit's there, directory; no condition. · The audit's predicates; no condition but the bound on a name's length. · The audit's predicates, further; no condition. · The audit's order; no condition.
-/
import Derived.Test.YtlokljaeknmdpaaGreatQSl
import Derived.Test.YtlokljaeknmdpaaGreatQCmp
import Derived.Test.YtlokljaeknmdpaaGreatQNames
import Derived.Deep.RegionHeld3
/-! ## AudA -/
namespace Go.Proofs.YtlokljaeknmdpaaGreat
open Go.RowKit Go.Shelf

/-- the kind of an inode that there is -/
def kindOf (n : List Ino) (id : St) : Option Int := (n.find? fun i => decide (i.id = id)).map (·.kind)
/-- how many entries lead to an inode -/
def linksTo (e : List Ent) (id : St) : Nat := (e.filter fun x => decide (x.ino = id)).length
def intV (i : Int) : Value := .int .i64 i

/-- the audit's graph, and its maps -/
structure AuditAt (w : World) (g : Value) (n : List Ino) (e : List Ent) : Prop where
  ex : ∃ vn ve kb lb kk kl, g = .agg #[vn, ve, .map (some kb), .map (some lb)] ∧ SlAt w 6 Ino.cells vn n ∧ SlAt w 5 Ent.cells ve e ∧ MapAt w kb St.v intV kk ∧ MapAt w lb St.v intV kl ∧
    (∀ id, getKV id kk = kindOf n id) ∧ (∀ id, (getKV id kl).getD 0 = (linksTo e id : Int)) ∧ kb < w.heap.size ∧ lb < w.heap.size

theorem MapAt.below {K V : Type} {w w' : World} {b B : Nat} {enc : K → Value} {encV : V → Value} {kv : List (K × V)} (h : MapAt w b enc encV kv) (hb : Below B w w') (hB : b < B) : MapAt w' b enc encV kv := by
  obtain ⟨es, ck, h1, h2, h3⟩ := h
  exact ⟨es, ck, (hb.block b hB).trans h1, h2, h3⟩

theorem AuditAt.below {w w' : World} {g : Value} {n : List Ino} {e : List Ent} (h : AuditAt w g n e) (hb : Below w.heap.size w w') : AuditAt w' g n e := by
  obtain ⟨vn, ve, kb, lb, kk, kl, h1, h2, h3, h4, h5, h6, h7, h8, h9⟩ := h.ex
  exact ⟨vn, ve, kb, lb, kk, kl, h1, h2.below hb, h3.below hb, h4.below hb h8, h5.below hb h9, h6, h7, Nat.lt_of_lt_of_le h8 hb.size, Nat.lt_of_lt_of_le h9 hb.size⟩

theorem cell_new (w : World) (b : Nat) (hb : b = w.heap.size) (cs : Array Value) (t : TypeId) (i : Nat) (v : Value) (h : cs[i]? = some v) : (w.alloc (.cells cs t)).cell? ⟨b, i, none⟩ = some v := by
  subst hb
  have e := World.alloc_heap_new w (.cells cs t)
  unfold World.cell?
  simp only [e]
  simpa using h
theorem getD_look (o : Option Int) : lookV intV (.int .i64 0) o = .int .i64 (o.getD 0) := by cases o <;> rfl

set_option maxRecDepth 100000 in
set_option maxHeartbeats 400000 in
theorem there_any (g : Value) (n : List Ino) (e : List Ent) (id : St) (w : World) (h : AuditAt w g n e) :
    Calls Tryz.prog 121 #[g, id.v] w fun x w' => x = .returned (.bool (kindOf n id).isSome) ∧ Below w.heap.size w w' := by
  obtain ⟨vn, ve, kb, lb, kk, kl, rfl, _, _, hk, _, h6, _, h8, _⟩ := h.ex
  have hl : ∀ W, Below w.heap.size w W → (Instr.lookup 96 (.map (some kb)) (.agg #[.int .i64 id.t, .int .i64 id.r]) true).run Tryz.prog W = .ok (.tuple #[.int .i64 ((kindOf n id).getD 0), .bool (kindOf n id).isSome]) W := fun W hW => by
    have := (run_lookup_kv (w := W) keySt Tryz.underlying96 Tryz.zeroValue3 (hk.below hW h8) id).1
    rw [getD_look, h6] at this
    exact this
  have hl2 := hl ((w.alloc (.cells #[vn, ve, .map (some kb), .map (some lb)] 98)).alloc (.cells #[.int .i64 id.t, .int .i64 id.r] 31)) (((Below.refl _ w).alloc (Nat.le_refl _) _).alloc (by simp) _)
  clear hl hk
  unfold St.v
  go_enter Tryz.func121, Tryz.ntmps121
  go_wp2
  go_ret
  exact ⟨rfl, ((Below.refl _ w).alloc (Nat.le_refl _) _).alloc (by simp) _⟩

set_option maxRecDepth 100000 in
set_option maxHeartbeats 400000 in
theorem directory_any (g : Value) (n : List Ino) (e : List Ent) (id : St) (w : World) (h : AuditAt w g n e) :
    Calls Tryz.prog 115 #[g, id.v] w fun x w' => x = .returned (.bool (decide (kindOf n id = some 1))) ∧ Below w.heap.size w w' := by
  have H := h
  obtain ⟨vn, ve, kb, lb, kk, kl, rfl, _, _, hk, _, h6, _, h8, _⟩ := h.ex
  have hb1 : Below w.heap.size w ((w.alloc (.cells #[vn, ve, .map (some kb), .map (some lb)] 98)).alloc (.cells #[.int .i64 id.t, .int .i64 id.r] 31)) := ((Below.refl _ w).alloc (Nat.le_refl _) _).alloc (by simp) _
  have ht := there_any _ n e id _ (H.below hb1)
  have hl : ∀ W, Below w.heap.size w W → (Instr.lookup 96 (.map (some kb)) (.agg #[.int .i64 id.t, .int .i64 id.r]) false).run Tryz.prog W = .ok (.int .i64 ((kindOf n id).getD 0)) W := fun W hW => by
    have := (run_lookup_kv (w := W) keySt Tryz.underlying96 Tryz.zeroValue3 (hk.below hW h8) id).2
    rw [getD_look, h6] at this
    exact this
  have HL := Lib.hid hl
  have HB := Lib.hid hb1
  clear hl hk H h hb1
  unfold St.v
  change Calls Tryz.prog 121 #[_, .agg #[.int .i64 id.t, .int .i64 id.r]] _ _ at ht
  go_enter Tryz.func115, Tryz.ntmps115
  cases ho : kindOf n id with
  | none =>
    rw [ho] at ht HL
    go_wp2_with (go_at_call 121; refine ht.mono ?_; rintro x w' ⟨rfl, hb'⟩)
    go_ret
    exact ⟨by simp, HB.out.trans (hb'.mono HB.out.size)⟩
  | some k =>
    rw [ho] at ht HL
    simp only [Option.getD_some] at HL
    have hk2 : (k == 1) = decide (some k = some (1 : Int)) := by rw [Bool.eq_iff_iff]; simp
    have HK := Lib.hid hk2
    clear hk2
    go_wp2_with (go_at_call 121; refine ht.mono ?_; rintro x w' ⟨rfl, hb'⟩; have HB' := Lib.hid hb'; have hll := HL.out w' (HB.out.trans (hb'.mono HB.out.size)); have c2 : w'.cell? ⟨w.heap.size, 2, none⟩ = some (.map (some kb)) := (hb'.cell (p := ⟨w.heap.size, 2, none⟩) (by simp only [World.size_alloc]; omega)).trans (Lib.cell?_alloc_some _ (cell_new w _ rfl _ _ 2 _ rfl)); have d0 : w'.cell? ⟨w.heap.size + 1, 0, none⟩ = some (.int .i64 id.t) := (hb'.cell (p := ⟨w.heap.size + 1, 0, none⟩) (by simp only [World.size_alloc]; omega)).trans (cell_new _ _ (by simp) _ _ 0 _ rfl); have d1 : w'.cell? ⟨w.heap.size + 1, 1, none⟩ = some (.int .i64 id.r) := (hb'.cell (p := ⟨w.heap.size + 1, 1, none⟩) (by simp only [World.size_alloc]; omega)).trans (cell_new _ _ (by simp) _ _ 1 _ rfl); clear hb')
    go_ret
    exact ⟨by rw [HK.out]; rfl, HB.out.trans (HB'.out.mono HB.out.size)⟩
end Go.Proofs.YtlokljaeknmdpaaGreat

/-! ## AudB -/
namespace Go.Proofs.YtlokljaeknmdpaaGreat
open Go.RowKit Go.Shelf

/-- a parameter's box behind a call -/
theorem after1 {w w' : World} {cs : Array Value} {t : TypeId} (hb : Below (w.alloc (.cells cs t)).heap.size (w.alloc (.cells cs t)) w') : (∀ i v, cs[i]? = some v → w'.cell? ⟨w.heap.size, i, none⟩ = some v) ∧ Below w.heap.size w w' :=
  ⟨fun i v h => (hb.cell (p := ⟨w.heap.size, i, none⟩) (by simp)).trans (cell_new w _ rfl _ _ i v h), ((Below.refl _ w).alloc (Nat.le_refl _) _).trans (hb.mono (by simp))⟩


def badI (x : Ino) : Bool := !mayB x.id.t x.id.r || (decide (x.kind < 1) || decide (3 < x.kind))

set_option maxRecDepth 100000 in
set_option maxHeartbeats 400000 in
theorem shape1_any (x : Ino) (w : World) : Calls Tryz.prog 117 #[x.v] w fun e w' => e = .returned (.bool (badI x)) ∧ Below w.heap.size w w' := by
  have hm := may_any x.id.t x.id.r (w.alloc (.cells #[.int .i64 x.id.t, .int .i64 x.id.r, .int .i64 x.kind, .int .i64 x.links, .int .i64 x.mode, .string x.data] 62))
  unfold Ino.v
  cases hb : mayB x.id.t x.id.r with
  | false =>
    rw [hb] at hm
    have hr : badI x = true := by simp [badI, hb]
    rw [hr]
    go_enter Tryz.func117, Tryz.ntmps117
    go_wp2_with (go_at_call 62; refine hm.mono ?_; rintro e w' ⟨rfl, hN⟩; have HB := Lib.hid (after1 hN.below).2; clear hN)
    go_ret
    exact ⟨rfl, HB.out⟩
  | true =>
    rw [hb] at hm
    by_cases h1 : x.kind < 1
    · have hr : badI x = true := by simp [badI, h1]
      rw [hr]
      go_enter Tryz.func117, Tryz.ntmps117
      go_wp2_with (go_at_call 62; refine hm.mono ?_; rintro e w' ⟨rfl, hN⟩; have HB := Lib.hid (after1 hN.below).2; have c2 : w'.cell? ⟨w.heap.size, 2, none⟩ = some (.int .i64 x.kind) := (after1 hN.below).1 2 _ rfl; clear hN)
      go_ret
      exact ⟨rfl, HB.out⟩
    · have hr : badI x = (decide (x.kind < 1) || decide (3 < x.kind)) := by simp [badI, hb]
      rw [hr]
      go_enter Tryz.func117, Tryz.ntmps117
      go_wp2_with (go_at_call 62; refine hm.mono ?_; rintro e w' ⟨rfl, hN⟩; have HB := Lib.hid (after1 hN.below).2; have c2 : w'.cell? ⟨w.heap.size, 2, none⟩ = some (.int .i64 x.kind) := (after1 hN.below).1 2 _ rfl; clear hN)
      go_ret
      exact ⟨rfl, HB.out⟩

set_option maxRecDepth 100000 in
set_option maxHeartbeats 400000 in
theorem shape2_any (x : Ent) (hx : x.name.size ≤ maxLen) (w : World) : Calls Tryz.prog 119 #[x.v] w fun e w' => e = .returned (.bool (!nameOk x.name)) ∧ Below w.heap.size w w' := by
  have hm := name_any x.name (w.alloc (.cells #[.int .i64 x.at_.t, .int .i64 x.at_.r, .string x.name, .int .i64 x.ino.t, .int .i64 x.ino.r] 34)) hx
  unfold Ent.v
  go_enter Tryz.func119, Tryz.ntmps119
  go_wp2_with (go_at_call 107; refine hm.mono ?_; rintro e w' ⟨rfl, hN⟩; have HB := Lib.hid (after1 hN).2; clear hN)
  go_ret
  exact ⟨rfl, HB.out⟩

def lostB (n : List Ino) (x : Ent) : Bool := !decide (kindOf n x.at_ = some 1) || !(kindOf n x.ino).isSome

set_option maxRecDepth 100000 in
set_option maxHeartbeats 400000 in
theorem lost1_any (g : Value) (n : List Ino) (e : List Ent) (B : Nat) (x : Ent) (w : World) (h : AuditAt w g n e) (hB : ∃ vn ve kb lb, g = .agg #[vn, ve, .map (some kb), .map (some lb)] ∧ w.cell? ⟨B, 0, none⟩ = some vn ∧ w.cell? ⟨B, 1, none⟩ = some ve ∧ w.cell? ⟨B, 2, none⟩ = some (.map (some kb)) ∧ w.cell? ⟨B, 3, none⟩ = some (.map (some lb)) ∧ B < w.heap.size) :
    Calls Tryz.prog 120 #[x.v, .pointer (some ⟨B, 0, none⟩)] w fun e w' => e = .returned (.bool (lostB n x)) ∧ Below w.heap.size w w' := by
  obtain ⟨vn, ve, kb, lb, rfl, g0, g1, g2, g3, hBl⟩ := hB
  have hb0 : Below w.heap.size w (w.alloc (.cells #[.int .i64 x.at_.t, .int .i64 x.at_.r, .string x.name, .int .i64 x.ino.t, .int .i64 x.ino.r] 34)) := (Below.refl _ w).alloc (Nat.le_refl _) _
  have hd := directory_any _ n e x.at_ _ (h.below hb0)
  have ht : ∀ W, Below w.heap.size w W → Calls Tryz.prog 121 #[.agg #[vn, ve, .map (some kb), .map (some lb)], .agg #[.int .i64 x.ino.t, .int .i64 x.ino.r]] W fun y w' => y = .returned (.bool (kindOf n x.ino).isSome) ∧ Below W.heap.size W w' := fun W hW => there_any _ n e x.ino W (h.below hW)
  have g0' := (hb0.cell (p := ⟨B, 0, none⟩) hBl).trans g0
  have g1' := (hb0.cell (p := ⟨B, 1, none⟩) hBl).trans g1
  have g2' := (hb0.cell (p := ⟨B, 2, none⟩) hBl).trans g2
  have g3' := (hb0.cell (p := ⟨B, 3, none⟩) hBl).trans g3
  have HT := Lib.hid ht
  have HC : Hid (∀ W, Below w.heap.size w W → W.cell? ⟨B, 0, none⟩ = some vn ∧ W.cell? ⟨B, 1, none⟩ = some ve ∧ W.cell? ⟨B, 2, none⟩ = some (.map (some kb)) ∧ W.cell? ⟨B, 3, none⟩ = some (.map (some lb))) := Lib.hid fun W hW =>
    ⟨(hW.cell (p := ⟨B, 0, none⟩) hBl).trans g0, (hW.cell (p := ⟨B, 1, none⟩) hBl).trans g1, (hW.cell (p := ⟨B, 2, none⟩) hBl).trans g2, (hW.cell (p := ⟨B, 3, none⟩) hBl).trans g3⟩
  clear ht h hb0 g0 g1 g2 g3
  unfold Ent.v
  change Calls Tryz.prog 115 #[_, .agg #[.int .i64 x.at_.t, .int .i64 x.at_.r]] _ _ at hd
  cases hk : decide (kindOf n x.at_ = some 1) with
  | false =>
    rw [hk] at hd
    have hr : lostB n x = true := by simp [lostB, hk]
    rw [hr]
    go_enter Tryz.func120, Tryz.ntmps120
    go_wp2_with (go_at_call 115; refine hd.mono ?_; rintro e w' ⟨rfl, hN⟩; have HB := Lib.hid (after1 hN).2; clear hN)
    go_ret
    exact ⟨rfl, HB.out⟩
  | true =>
    rw [hk] at hd
    have hr : lostB n x = (kindOf n x.ino).isNone := by simp [lostB, hk]
    rw [hr]
    go_enter Tryz.func120, Tryz.ntmps120
    go_wp2_with (first
      | (go_at_call 115; refine hd.mono ?_; rintro e w' ⟨rfl, hN⟩; have HB := Lib.hid (after1 hN).2; have c3 := (after1 hN).1 3 _ rfl; have c4 := (after1 hN).1 4 _ rfl; obtain ⟨k0, k1, k2, k3⟩ := HC.out w' HB.out; clear hN)
      | (go_at_call 121; refine (HT.out _ HB.out).mono ?_; rintro e w'' ⟨rfl, hN⟩; have HB2 := Lib.hid hN; clear hN))
    go_ret
    exact ⟨rfl, HB.out.trans (HB2.out.mono HB.out.size)⟩

def countB (e : List Ent) (x : Ino) : Bool := x.links != (linksTo e x.id : Int)

/-- the boxed graph -/
def GBox (w : World) (B : Nat) (g : Value) : Prop := ∃ vn ve kb lb, g = .agg #[vn, ve, .map (some kb), .map (some lb)] ∧ w.cell? ⟨B, 0, none⟩ = some vn ∧ w.cell? ⟨B, 1, none⟩ = some ve ∧ w.cell? ⟨B, 2, none⟩ = some (.map (some kb)) ∧ w.cell? ⟨B, 3, none⟩ = some (.map (some lb)) ∧ B < w.heap.size
theorem GBox.below {w w' : World} {B : Nat} {g : Value} (h : GBox w B g) (hW : Below w.heap.size w w') : GBox w' B g := by
  obtain ⟨vn, ve, kb, lb, rfl, g0, g1, g2, g3, hBl⟩ := h
  exact ⟨vn, ve, kb, lb, rfl, (hW.cell (p := ⟨B, 0, none⟩) hBl).trans g0, (hW.cell (p := ⟨B, 1, none⟩) hBl).trans g1, (hW.cell (p := ⟨B, 2, none⟩) hBl).trans g2, (hW.cell (p := ⟨B, 3, none⟩) hBl).trans g3, Nat.lt_of_lt_of_le hBl hW.size⟩

/-- a look at the links -/
theorem linksLook {w : World} {vn ve : Value} {kb lb : Nat} {n : List Ino} {e : List Ent} (h : AuditAt w (.agg #[vn, ve, .map (some kb), .map (some lb)]) n e) (id : St) :
    (Instr.lookup 96 (.map (some lb)) (.agg #[.int .i64 id.t, .int .i64 id.r]) false).run Tryz.prog w = .ok (.int .i64 (linksTo e id : Int)) w := by
  obtain ⟨vn', ve', kb', lb', kk, kl, hg, _, _, hk, hl, h6, h7, h8, h9⟩ := h.ex
  simp at hg
  obtain ⟨rfl, rfl, rfl, rfl⟩ := hg
  have := (run_lookup_kv (w := w) keySt Tryz.underlying96 Tryz.zeroValue3 hl id).2
  rw [getD_look, h7] at this
  exact this

set_option maxRecDepth 100000 in
set_option maxHeartbeats 400000 in
theorem count1_any (g : Value) (n : List Ino) (e : List Ent) (B : Nat) (x : Ino) (w : World) (h : AuditAt w g n e) (hB : GBox w B g) :
    Calls Tryz.prog 122 #[x.v, .pointer (some ⟨B, 0, none⟩)] w fun y w' => y = .returned (.bool (countB e x)) ∧ Below w.heap.size w w' := by
  have hb0 : Below w.heap.size w (w.alloc (.cells #[.int .i64 x.id.t, .int .i64 x.id.r, .int .i64 x.kind, .int .i64 x.links, .int .i64 x.mode, .string x.data] 62)) := (Below.refl _ w).alloc (Nat.le_refl _) _
  obtain ⟨vn, ve, kb, lb, rfl, g0, g1, g2, g3, hBl⟩ := hB.below hb0
  have hl := linksLook (h.below hb0.drew) x.id
  have h3 : B < w.heap.size := by obtain ⟨_, _, _, _, _, _, _, _, _, h⟩ := hB; exact h
  have HB := Lib.hid hb0.drew
  clear h hB hb0 g0 g1 g2 hBl
  unfold Ino.v countB
  generalize (linksTo e x.id : Int) = z at hl
  go_enter Tryz.func122, Tryz.ntmps122
  go_wp2
  go_region
  go_wp2
  go_ret
  exact ⟨rfl, HB.out⟩

def manyB (e : List Ent) (x : Ino) : Bool := if x.id = ⟨0, 0⟩ then (linksTo e x.id : Int) != 0 else if x.kind = 1 then (linksTo e x.id : Int) != 1 else decide ((linksTo e x.id : Int) < 1) || decide (6 < (linksTo e x.id : Int))

set_option maxRecDepth 100000 in
set_option maxHeartbeats 400000 in
theorem many1_any (g : Value) (n : List Ino) (e : List Ent) (B : Nat) (x : Ino) (w : World) (h : AuditAt w g n e) (hB : GBox w B g) :
    Calls Tryz.prog 123 #[x.v, .pointer (some ⟨B, 0, none⟩)] w fun y w' => y = .returned (.bool (manyB e x)) ∧ Below w.heap.size w w' := by
  have hb0 : Below w.heap.size w (w.alloc (.cells #[.int .i64 x.id.t, .int .i64 x.id.r, .int .i64 x.kind, .int .i64 x.links, .int .i64 x.mode, .string x.data] 62)) := (Below.refl _ w).alloc (Nat.le_refl _) _
  obtain ⟨vn, ve, kb, lb, rfl, g0, g1, g2, g3, hBl⟩ := hB.below hb0
  have hl := linksLook (h.below hb0) x.id
  have h3 : B < w.heap.size := by obtain ⟨_, _, _, _, _, _, _, _, _, h⟩ := hB; exact h
  have HB := Lib.hid hb0
  clear h hB hb0 g0 g1 g2 hBl
  unfold Ino.v manyB
  generalize (linksTo e x.id : Int) = z at hl
  obtain ⟨⟨t, r⟩, kind, links, mode, data⟩ := x
  by_cases h1 : (⟨t, r⟩ : St) = ⟨0, 0⟩
  · rw [if_pos h1]
    obtain ⟨rfl, rfl⟩ := St.mk.inj h1
    clear h1
    go_enter Tryz.func123, Tryz.ntmps123
    go_wp2
    go_ret
    exact ⟨by first | rfl | simp, HB.out⟩
  · rw [if_neg h1]
    by_cases ht : t = 0
    · subst ht
      have hr : (r == 0) = false := beq_eq_false_iff_ne.2 (fun h => h1 (by rw [h]))
      clear h1
      by_cases h2 : kind = 1
      · subst h2
        rw [if_pos rfl]
        go_enter Tryz.func123, Tryz.ntmps123
        go_wp2
        go_ret
        exact ⟨by first | rfl | simp, HB.out⟩
      · rw [if_neg h2]
        have e2 : (kind == 1) = false := beq_eq_false_iff_ne.2 h2
        clear h2
        by_cases h4 : z < 1
        · rw [decide_eq_true h4, Bool.true_or]
          go_enter Tryz.func123, Tryz.ntmps123
          go_wp2
          go_ret
          exact ⟨by first | rfl | simp, HB.out⟩
        · rw [decide_eq_false h4, Bool.false_or]
          go_enter Tryz.func123, Tryz.ntmps123
          go_wp2
          go_ret
          exact ⟨by first | rfl | simp, HB.out⟩
    · have hr : (t == 0) = false := beq_eq_false_iff_ne.2 ht
      clear h1 ht
      by_cases h2 : kind = 1
      · subst h2
        rw [if_pos rfl]
        go_enter Tryz.func123, Tryz.ntmps123
        go_wp2
        go_ret
        exact ⟨by first | rfl | simp, HB.out⟩
      · rw [if_neg h2]
        have e2 : (kind == 1) = false := beq_eq_false_iff_ne.2 h2
        clear h2
        by_cases h4 : z < 1
        · rw [decide_eq_true h4, Bool.true_or]
          go_enter Tryz.func123, Tryz.ntmps123
          go_wp2
          go_ret
          exact ⟨by first | rfl | simp, HB.out⟩
        · rw [decide_eq_false h4, Bool.false_or]
          go_enter Tryz.func123, Tryz.ntmps123
          go_wp2
          go_ret
          exact ⟨by first | rfl | simp, HB.out⟩
end Go.Proofs.YtlokljaeknmdpaaGreat

/-! ## AudC -/
namespace Go.Proofs.YtlokljaeknmdpaaGreat
open Go.RowKit Go.Shelf


def boolV (b : Bool) : Value := .bool b
theorem getD_lookB (o : Option Bool) : lookV boolV (.bool false) o = .bool (o.getD false) := by cases o <;> rfl

set_option maxRecDepth 100000 in
set_option maxHeartbeats 400000 in
theorem apart1_any (B sb : Nat) (kv : List (St × Bool)) (x : Ino) (w : World) (hs : MapAt w sb St.v boolV kv) (hsl : sb < w.heap.size) (hB : w.cell? ⟨B, 0, none⟩ = some (.map (some sb))) (hBl : B < w.heap.size) :
    Calls Tryz.prog 125 #[x.v, .pointer (some ⟨B, 0, none⟩)] w fun y w' => y = .returned (.bool (!(getKV x.id kv).getD false)) ∧ Below w.heap.size w w' := by
  have hb0 : Below w.heap.size w (w.alloc (.cells #[.int .i64 x.id.t, .int .i64 x.id.r, .int .i64 x.kind, .int .i64 x.links, .int .i64 x.mode, .string x.data] 62)) := (Below.refl _ w).alloc (Nat.le_refl _) _
  have c := (hb0.cell (p := ⟨B, 0, none⟩) hBl).trans hB
  have hl : (Instr.lookup 151 (.map (some sb)) (.agg #[.int .i64 x.id.t, .int .i64 x.id.r]) false).run Tryz.prog (w.alloc (.cells #[.int .i64 x.id.t, .int .i64 x.id.r, .int .i64 x.kind, .int .i64 x.links, .int .i64 x.mode, .string x.data] 62)) = .ok (.bool ((getKV x.id kv).getD false)) (w.alloc (.cells #[.int .i64 x.id.t, .int .i64 x.id.r, .int .i64 x.kind, .int .i64 x.links, .int .i64 x.mode, .string x.data] 62)) := by
    have := (run_lookup_kv (w := w.alloc (.cells #[.int .i64 x.id.t, .int .i64 x.id.r, .int .i64 x.kind, .int .i64 x.links, .int .i64 x.mode, .string x.data] 62)) keySt Tryz.underlying151 Tryz.zeroValue4 (hs.below hb0 hsl) x.id).2
    rw [getD_lookB] at this
    exact this
  have HB := Lib.hid hb0
  clear hb0 hs hB
  unfold Ino.v
  generalize (getKV x.id kv).getD false = z at hl
  go_enter Tryz.func125, Tryz.ntmps125
  go_wp2
  go_ret
  exact ⟨by first | rfl | simp, HB.out⟩

def sizeB (x : Ino) : Bool := if x.kind = 1 then (x.data.size : Int) == 0 else if x.kind = 2 then decide ((x.data.size : Int) ≤ 64) else if x.kind = 3 then decide (1 ≤ (x.data.size : Int)) && decide ((x.data.size : Int) ≤ 32) else true

set_option maxRecDepth 100000 in
set_option maxHeartbeats 400000 in
theorem size_any (x : Ino) (w : World) : Calls Tryz.prog 127 #[x.v] w fun y w' => y = .returned (.bool (sizeB x)) ∧ Below w.heap.size w w' := by
  have hb0 : Below w.heap.size w (w.alloc (.cells #[.int .i64 x.id.t, .int .i64 x.id.r, .int .i64 x.kind, .int .i64 x.links, .int .i64 x.mode, .string x.data] 62)) := (Below.refl _ w).alloc (Nat.le_refl _) _
  have HB := Lib.hid hb0
  clear hb0
  obtain ⟨⟨t, r⟩, kind, links, mode, data⟩ := x
  unfold Ino.v sizeB
  by_cases h1 : kind = 1
  · subst h1
    rw [if_pos rfl]
    go_enter Tryz.func127, Tryz.ntmps127
    go_wp2
    go_ret
    exact ⟨by first | rfl | simp, HB.out⟩
  · rw [if_neg h1]
    have e1 : (kind == 1) = false := beq_eq_false_iff_ne.2 h1
    clear h1
    by_cases h2 : kind = 2
    · subst h2
      rw [if_pos rfl]
      clear e1
      go_enter Tryz.func127, Tryz.ntmps127
      go_wp2
      go_ret
      exact ⟨by first | rfl | simp, HB.out⟩
    · rw [if_neg h2]
      have e2 : (kind == 2) = false := beq_eq_false_iff_ne.2 h2
      clear h2
      by_cases h3 : kind = 3
      · subst h3
        rw [if_pos rfl]
        clear e1 e2
        by_cases h4 : 1 ≤ (data.size : Int)
        · rw [decide_eq_true h4, Bool.true_and]
          go_enter Tryz.func127, Tryz.ntmps127
          go_wp2
          go_ret
          exact ⟨by first | rfl | simp, HB.out⟩
        · rw [decide_eq_false h4, Bool.false_and]
          go_enter Tryz.func127, Tryz.ntmps127
          go_wp2
          go_ret
          exact ⟨by first | rfl | simp, HB.out⟩
      · rw [if_neg h3]
        have e3 : (kind == 3) = false := beq_eq_false_iff_ne.2 h3
        clear h3
        go_enter Tryz.func127, Tryz.ntmps127
        go_wp2
        go_ret
        exact ⟨by first | rfl | simp, HB.out⟩

def boundsB (x : Ino) : Bool := decide (x.mode < 0) || (decide (4095 < x.mode) || !sizeB x)

set_option maxRecDepth 100000 in
set_option maxHeartbeats 400000 in
theorem bounds1_any (x : Ino) (w : World) : Calls Tryz.prog 126 #[x.v] w fun y w' => y = .returned (.bool (boundsB x)) ∧ Below w.heap.size w w' := by
  have hb0 : Below w.heap.size w (w.alloc (.cells #[.int .i64 x.id.t, .int .i64 x.id.r, .int .i64 x.kind, .int .i64 x.links, .int .i64 x.mode, .string x.data] 62)) := (Below.refl _ w).alloc (Nat.le_refl _) _
  have hs := size_any x (w.alloc (.cells #[.int .i64 x.id.t, .int .i64 x.id.r, .int .i64 x.kind, .int .i64 x.links, .int .i64 x.mode, .string x.data] 62))
  have HB := Lib.hid hb0
  clear hb0
  unfold boundsB
  generalize sizeB x = z at hs
  unfold Ino.v at hs ⊢
  by_cases h1 : x.mode < 0
  · rw [decide_eq_true h1, Bool.true_or]
    go_enter Tryz.func126, Tryz.ntmps126
    go_wp2
    go_ret
    exact ⟨by first | rfl | simp, HB.out⟩
  · rw [decide_eq_false h1, Bool.false_or]
    by_cases h2 : 4095 < x.mode
    · rw [decide_eq_true h2, Bool.true_or]
      go_enter Tryz.func126, Tryz.ntmps126
      go_wp2
      go_ret
      exact ⟨by first | rfl | simp, HB.out⟩
    · rw [decide_eq_false h2, Bool.false_or]
      go_enter Tryz.func126, Tryz.ntmps126
      go_wp2_with (go_at_call 127; refine hs.mono ?_; rintro e w' ⟨rfl, hN⟩; have HB2 := Lib.hid (after1 hN).2; clear hN)
      go_ret
      exact ⟨by first | rfl | simp, HB2.out⟩
end Go.Proofs.YtlokljaeknmdpaaGreat

/-! ## AudD -/
namespace Go.Proofs.YtlokljaeknmdpaaGreat
open Go.RowKit Go.Shelf

/-- two parameters' boxes behind a call in a drawn region -/
theorem after2 {w w' : World} {cs ds : Array Value} {t u : TypeId} (h : New (((w.alloc (.cells cs t)).alloc (.cells ds u)).drew) w') : (∀ i v, cs[i]? = some v → w'.cell? ⟨w.heap.size, i, none⟩ = some v) ∧ (∀ i v, ds[i]? = some v → w'.cell? ⟨w.heap.size + 1, i, none⟩ = some v) := by
  have hb := h.below
  refine ⟨fun i v hv => (hb.cell (p := ⟨w.heap.size, i, none⟩) (by show _ < ((w.alloc _).alloc _).heap.size; simp only [World.size_alloc]; omega)).trans ?_, fun i v hv => (hb.cell (p := ⟨w.heap.size + 1, i, none⟩) (by show _ < ((w.alloc _).alloc _).heap.size; simp only [World.size_alloc]; omega)).trans ?_⟩
  · exact Lib.cell?_alloc_some _ (cell_new w _ rfl _ _ i v hv)
  · exact cell_new (w.alloc _) _ (by simp) _ _ i v hv

set_option maxRecDepth 100000 in
set_option maxHeartbeats 400000 in
theorem order1_any (x y : Ino) (w : World) : Calls Tryz.prog 112 #[x.v, y.v] w fun e w' => e = .returned (.int .i64 (cmpSt x.id.t x.id.r y.id.t y.id.r)) ∧ New w w' := by
  have hs := stCompare_any x.id.t x.id.r y.id.t y.id.r
  have HS := Lib.hid hs
  clear hs
  unfold Ino.v
  go_enter Tryz.func112, Tryz.ntmps112
  go_wp2_with (go_at_call 59; refine (HS.out _).mono ?_; rintro e w' ⟨rfl, hN⟩; have HN := Lib.hid hN; clear hN)
  go_ret
  exact ⟨rfl, ((New.alloc' w _).alloc _).trans HN.out⟩

set_option maxRecDepth 100000 in
set_option maxHeartbeats 1000000 in
theorem order2_any (x y : Ent) (w : World) : Calls Tryz.prog 114 #[x.v, y.v] w fun e w' => e = .returned (.int .i64 (orI (cmpSt x.at_.t x.at_.r y.at_.t y.at_.r) (cmpB x.name y.name))) ∧ New w w' := by
  have HS := Lib.hid (stCompare_any x.at_.t x.at_.r y.at_.t y.at_.r)
  have HC := Lib.hid (cmps_any x.name y.name)
  have HO := Lib.hid or2_any
  unfold Ent.v
  go_enter Tryz.func114, Tryz.ntmps114
  go_wp2
  go_region_held3 (fun W => W.cell? ⟨w.heap.size, 0, none⟩ = some (.int .i64 x.at_.t) ∧ W.cell? ⟨w.heap.size, 1, none⟩ = some (.int .i64 x.at_.r) ∧ W.cell? ⟨w.heap.size, 2, none⟩ = some (.string x.name) ∧
      W.cell? ⟨w.heap.size + 1, 0, none⟩ = some (.int .i64 y.at_.t) ∧ W.cell? ⟨w.heap.size + 1, 1, none⟩ = some (.int .i64 y.at_.r) ∧ W.cell? ⟨w.heap.size + 1, 2, none⟩ = some (.string y.name)) (go_keep) (first
    | (go_at_call 59; refine (HS.out _).mono ?_; rintro e w' ⟨rfl, hN⟩; have HN := Lib.hid hN; have c0 : w'.cell? ⟨w.heap.size, 0, none⟩ = some (.int .i64 x.at_.t) := (after2 hN).1 0 _ rfl; have c1 : w'.cell? ⟨w.heap.size, 1, none⟩ = some (.int .i64 x.at_.r) := (after2 hN).1 1 _ rfl; have c2 : w'.cell? ⟨w.heap.size, 2, none⟩ = some (.string x.name) := (after2 hN).1 2 _ rfl; have d0 : w'.cell? ⟨w.heap.size + 1, 0, none⟩ = some (.int .i64 y.at_.t) := (after2 hN).2 0 _ rfl; have d1 : w'.cell? ⟨w.heap.size + 1, 1, none⟩ = some (.int .i64 y.at_.r) := (after2 hN).2 1 _ rfl; have d2 : w'.cell? ⟨w.heap.size + 1, 2, none⟩ = some (.string y.name) := (after2 hN).2 2 _ rfl; clear hN)
    | (go_at_call 79; refine (HC.out _).mono ?_; rintro e w' ⟨rfl, rfl⟩)
    | (go_at_call 78; refine (HO.out _ (cmpSt x.at_.t x.at_.r y.at_.t y.at_.r) (cmpB x.name y.name) _ _ ?_ ?_).mono ?_; (simp [*]); (simp [*]); rintro e w' ⟨rfl, rfl⟩))
  all_goals go_wp2
  all_goals go_ret
  all_goals exact ⟨rfl, ((((New.alloc' w _).alloc _).drew).trans HN.out).alloc _⟩
end Go.Proofs.YtlokljaeknmdpaaGreat
