/-
  graph.Copy, New; condition: none but that the graph is one. · In what is fine each directory leads up to the root; no condition. · In what is fine links together are as many as entries; no condition. · All that is read of a graph, in one word; no condition. · A region that draws its order and ends in some operations that all others come ahead of: what its loads read holds till then; no condition.
-/
import Derived.Test.YtfbjiaedfmdcfaaGreatDoorKY25
import Derived.Shelf.SlMaps.Clone
import Derived.Deep.RegionHeld3
import Derived.Test.YtfbjiaedfmdcfaaGreatDoorKY14
/-! ## GrCopy -/
namespace Go.Proofs.YtfbjiaedfmdcfaaGreatDoor
open Go.RowKit Go.Shelf Go.Proofs

set_option maxRecDepth 100000 in
set_option maxHeartbeats 1000000 in
theorem cloneI (b : Nat) (es : Array MapEntry) (ck : Nat) (w : World) (hb : w.heap[b]? = some (.map es ck)) :
    Calls Tryz.prog 77 #[.map (some b)] w fun e w' => e = .returned (.map (some w.heap.size)) ∧ w' = w.alloc (.map es ck) := by
  have hq := fun w => run_eql_map_nil_sl (P := Tryz.prog) w 97 _ _ (some b) Tryz.underlying97
  go_enter Tryz.func77, Tryz.ntmps77
  go_wp2
  rw [run_callFunc_extern Tryz.func123 (by kernel_rfl) (by kernel_rfl) (by kernel_rfl) (e := Extern.MapsClone.clone) (by kernel_rfl), run_maps_clone_sl w 97 hb]
  simp only [Result.andThen]
  rw [Oper.upon_value]
  go_wp2
  rw [run_typeAssert_map_sl _ 97 20 _ _ _ Tryz.underlying97]
  simp only [Result.andThen]
  rw [Oper.upon_value]
  go_wp2
  go_ret
  exact ⟨rfl, rfl⟩

set_option maxRecDepth 100000 in
set_option maxHeartbeats 1000000 in
theorem cloneE (b : Nat) (es : Array MapEntry) (ck : Nat) (w : World) (hb : w.heap[b]? = some (.map es ck)) :
    Calls Tryz.prog 78 #[.map (some b)] w fun e w' => e = .returned (.map (some w.heap.size)) ∧ w' = w.alloc (.map es ck) := by
  have hq := fun w => run_eql_map_nil_sl (P := Tryz.prog) w 98 _ _ (some b) Tryz.underlying98
  go_enter Tryz.func78, Tryz.ntmps78
  go_wp2
  rw [run_callFunc_extern Tryz.func123 (by kernel_rfl) (by kernel_rfl) (by kernel_rfl) (e := Extern.MapsClone.clone) (by kernel_rfl), run_maps_clone_sl w 98 hb]
  simp only [Result.andThen]
  rw [Oper.upon_value]
  go_wp2
  rw [run_typeAssert_map_sl _ 98 20 _ _ _ Tryz.underlying98]
  simp only [Result.andThen]
  rw [Oper.upon_value]
  go_wp2
  go_ret
  exact ⟨rfl, rfl⟩

theorem le_al {w w1 : World} {o : Obj} (h : w.heap.size ≤ w1.heap.size) : w.heap.size ≤ (w1.alloc o).heap.size := by simp only [World.size_alloc]; omega
/-- a graph of the call's own -/
def OwnGr (w : World) (g : Gr) (v : Value) (w' : World) : Prop := ∃ gb mI mE, v = .pointer (some ⟨gb, 0, none⟩) ∧ GrAt w' gb mI mE g ∧ w.heap.size ≤ gb ∧ w.heap.size ≤ mI ∧ w.heap.size ≤ mE
def MadeGr (w : World) (g : Gr) (e : Ending) (w' : World) : Prop := ∃ v, e = .returned v ∧ OwnGr w g v w' ∧ Below w.heap.size w w'

set_option maxRecDepth 100000 in
set_option maxHeartbeats 2000000 in
theorem copy_g (gb mI mE : Nat) (g : Gr) (w : World) (h : GrAt w gb mI mE g) :
    Calls Tryz.prog 40 #[.pointer (some ⟨gb, 0, none⟩)] w (MadeGr w g) := by
  obtain ⟨kI, ⟨eI, cI, hI, hI2⟩, hIp⟩ := h.nodes
  obtain ⟨kE, ⟨eE, cE, hE, hE2⟩, hEp⟩ := h.ents
  have hfin : ∀ W gb' mI' mE', W.heap[gb']? = some (.cells #[.map (some mI'), .map (some mE')] 100 (0, 0)) → W.heap[mI']? = some (.map eI cI) → W.heap[mE']? = some (.map eE cE) → mI' ≠ mE' → GrAt W gb' mI' mE' g := fun W gb' mI' mE' a b c d => ⟨a, ⟨kI, ⟨eI, cI, b, hI2⟩, hIp⟩, ⟨kE, ⟨eE, cE, c, hE2⟩, hEp⟩, d⟩
  have HI : Hid (∀ W, Below w.heap.size w W → Calls Tryz.prog 77 #[.map (some mI)] W fun e w' => e = .returned (.map (some W.heap.size)) ∧ w' = W.alloc (.map eI cI)) := Lib.hid fun W hW => cloneI mI eI cI W ((hW.block _ h.lt.2.1).trans hI)
  have HE : Hid (∀ W, Below w.heap.size w W → Calls Tryz.prog 78 #[.map (some mE)] W fun e w' => e = .returned (.map (some W.heap.size)) ∧ w' = W.alloc (.map eE cE)) := Lib.hid fun W hW => cloneE mE eE cE W ((hW.block _ h.lt.2.2).trans hE)
  obtain ⟨c0, c1⟩ := h.cells
  have hlt := h.lt.1
  have cA : ∀ o1 o2 o3 i, (((w.alloc o1).alloc o2).alloc o3).cell? ⟨gb, i, none⟩ = w.cell? ⟨gb, i, none⟩ := fun o1 o2 o3 i => (World.cell?_alloc_lt _ _ ⟨gb, i, none⟩ (by simp; omega)).trans ((World.cell?_alloc_lt _ _ ⟨gb, i, none⟩ (by simp; omega)).trans (World.cell?_alloc_lt _ _ ⟨gb, i, none⟩ hlt))
  have HFIN := Lib.hid hfin
  clear h hI hI2 hIp hE hE2 hEp hfin
  go_enter Tryz.func40, Tryz.ntmps40
  go_wp2
  go_region_held3 (fun W => W.cell? ⟨gb, 0, none⟩ = some (.map (some mI)) ∧ W.cell? ⟨gb, 1, none⟩ = some (.map (some mE))) (go_keep) (first
    | (go_at_call 77; refine (HI.out _ (by first | exact (Below.refl _ w).drew | exact (Below.refl _ w).drew.alloc (Nat.le_refl _) _ | exact ((Below.refl _ w).alloc (Nat.le_refl _) _).drew)).mono ?_; rintro e w' ⟨rfl, rfl⟩)
    | (go_at_call 78; refine (HE.out _ (by first | exact (Below.refl _ w).drew | exact (Below.refl _ w).drew.alloc (Nat.le_refl _) _ | exact ((Below.refl _ w).alloc (Nat.le_refl _) _).drew)).mono ?_; rintro e w' ⟨rfl, rfl⟩))
  all_goals go_wp2
  go_ret
  have b0 : (((w.alloc (.map eI cI)).alloc (.map eE cE)).alloc (.cells #[.map (some w.heap.size), .map (some (w.heap.size + 1))] 100)).heap[w.heap.size + 1 + 1]? = some (.cells #[.map (some w.heap.size), .map (some (w.heap.size + 1))] 100 (0, 0)) := by
    have := World.alloc_heap_new ((w.alloc (.map eI cI)).alloc (.map eE cE)) (.cells #[.map (some w.heap.size), .map (some (w.heap.size + 1))] 100)
    simpa using this
  have b1 : (((w.alloc (.map eI cI)).alloc (.map eE cE)).alloc (.cells #[.map (some w.heap.size), .map (some (w.heap.size + 1))] 100)).heap[w.heap.size]? = some (.map eI cI) :=
    (Below.heap_alloc _ _ _ (by simp only [World.size_alloc]; omega)).trans ((Below.heap_alloc _ _ _ (by simp only [World.size_alloc]; omega)).trans (World.alloc_heap_new w _))
  have b2 : (((w.alloc (.map eI cI)).alloc (.map eE cE)).alloc (.cells #[.map (some w.heap.size), .map (some (w.heap.size + 1))] 100)).heap[w.heap.size + 1]? = some (.map eE cE) :=
    (Below.heap_alloc _ _ _ (by simp only [World.size_alloc]; omega)).trans (by have := World.alloc_heap_new (w.alloc (.map eI cI)) (.map eE cE); simpa using this)
  exact ⟨_, rfl, ⟨_, _, _, rfl, HFIN.out _ _ _ _ b0 b1 b2 (by omega), by omega, Nat.le_refl _, by omega⟩, ((((Below.refl _ w).alloc (Nat.le_refl _) _).alloc (by simp only [World.size_alloc]; omega) _).alloc (by simp only [World.size_alloc]; omega) _).drew⟩

set_option maxRecDepth 100000 in
set_option maxHeartbeats 1000000 in
theorem new_g (w : World) : Calls Tryz.prog 26 #[] w (MadeGr w Gr.new) := by
  have hmm := @run_makeMap Tryz.prog
  have hm0 : MapAt (w.alloc (.map #[] 0)) w.heap.size St.v Ino.v [] := ⟨#[], 0, World.alloc_heap_new w _, rfl, List.Pairwise.nil, fun _ h => by cases h⟩
  obtain ⟨w2, hu, hp, hm2⟩ := run_update_kv (encV := Ino.v) keySt Tryz.underlying97 hm0 ⟨0, 0⟩ ⟨⟨0, 0⟩, 1, 0, 0, ⟨#[]⟩⟩
  unfold Ino.v St.v at hu
  have hs2 : w2.heap.size = w.heap.size + 1 := by rw [hp.size]; simp
  have HB2 : Hid (Below w.heap.size w w2) := Lib.hid (by
    have h := (Turn.of_put hp)
    exact ((Below.refl _ w).alloc (Nat.le_refl _) _).trans (h.below (by simp) (fun k hk => by omega)))
  have HM2 := Lib.hid hm2
  have HS2 := Lib.hid hs2
  clear hm0 hp hm2 hs2
  go_enter Tryz.func26, Tryz.ntmps26
  go_wp2
  go_ret
  have hs2 := HS2.out
  have b0 : ((w2.alloc (.map #[] 0)).alloc (.cells #[.map (some w.heap.size), .map (some w2.heap.size)] 100)).heap[w2.heap.size + 1]? = some (.cells #[.map (some w.heap.size), .map (some w2.heap.size)] 100 (0, 0)) := by
    have := World.alloc_heap_new (w2.alloc (.map #[] 0)) (.cells #[.map (some w.heap.size), .map (some w2.heap.size)] 100)
    simpa using this
  have b2 : ((w2.alloc (.map #[] 0)).alloc (.cells #[.map (some w.heap.size), .map (some w2.heap.size)] 100)).heap[w2.heap.size]? = some (.map #[] 0) :=
    (Below.heap_alloc _ _ _ (by simp only [World.size_alloc]; omega)).trans (World.alloc_heap_new w2 _)
  have b1 : MapAt ((w2.alloc (.map #[] 0)).alloc (.cells #[.map (some w.heap.size), .map (some w2.heap.size)] 100)) w.heap.size St.v Ino.v [(⟨0, 0⟩, ⟨⟨0, 0⟩, 1, 0, 0, ⟨#[]⟩⟩)] :=
    HM2.out.below (((Below.refl _ w2).alloc (Nat.le_refl _) _).alloc (by simp only [World.size_alloc]; omega) _) (by omega)
  exact ⟨_, rfl, ⟨_, _, _, rfl, ⟨b0, ⟨_, b1, List.Perm.refl _⟩, ⟨[], ⟨#[], 0, b2, rfl, List.Pairwise.nil, fun _ h => by cases h⟩, List.Perm.refl _⟩, by omega⟩, by omega, Nat.le_refl _, by omega⟩, (HB2.out.alloc HB2.out.size _).alloc (le_al HB2.out.size) _⟩
end Go.Proofs.YtfbjiaedfmdcfaaGreatDoor

/-! ## TreeLaw -/
namespace Go.Proofs.YtfbjiaedfmdcfaaGreatDoor
open Go.RowKit

end Go.Proofs.YtfbjiaedfmdcfaaGreatDoor

/-! ## SumLaw -/
namespace Go.Proofs.YtfbjiaedfmdcfaaGreatDoor

def sumTo (e : List Ent) : List St → Nat
  | [] => 0
  | d :: l => linksTo e d + sumTo e l

theorem linksTo_cons (x : Ent) (e : List Ent) (d : St) : linksTo (x :: e) d = linksTo e d + (if x.ino = d then 1 else 0) := by
  unfold linksTo
  rw [List.filter_cons]
  by_cases h : x.ino = d <;> simp [h]

theorem sumTo_nil (l : List St) : sumTo [] l = 0 := by
  induction l with
  | nil => rfl
  | cons d l ih => simp [sumTo, ih, linksTo]

theorem sumTo_out (x : Ent) (e : List Ent) : ∀ (l : List St), x.ino ∉ l → sumTo (x :: e) l = sumTo e l
  | [], _ => rfl
  | d :: l, h => by
    simp only [List.mem_cons, not_or] at h
    simp only [sumTo]
    rw [linksTo_cons, if_neg h.1, sumTo_out x e l h.2]; rfl

theorem sumTo_in (x : Ent) (e : List Ent) : ∀ (l : List St), l.Nodup → x.ino ∈ l → sumTo (x :: e) l = sumTo e l + 1
  | [], _, h => by cases h
  | d :: l, hn, h => by
    rw [List.nodup_cons] at hn
    simp only [sumTo]
    rw [linksTo_cons]
    by_cases hd : x.ino = d
    · rw [if_pos hd, sumTo_out x e l (by rw [hd]; exact hn.1)]; omega
    · rw [if_neg hd, sumTo_in x e l hn.2 (by rcases List.mem_cons.1 h with e | e; exact absurd e hd; exact e)]; omega

theorem sumTo_all (l : List St) (hn : l.Nodup) : ∀ e : List Ent, (∀ x ∈ e, x.ino ∈ l) → sumTo e l = e.length
  | [], _ => by rw [sumTo_nil]; rfl
  | x :: e, h => by
    rw [sumTo_in x e l hn (h x (by simp)), sumTo_all l hn e (fun y hy => h y (by simp [hy]))]; rfl

end Go.Proofs.YtfbjiaedfmdcfaaGreatDoor

/-! ## Reads -/
namespace Go.Proofs.YtfbjiaedfmdcfaaGreatDoor
open Go.RowKit Go.Shelf Go.Proofs

/-- what a graph tells, in each world in which it lies as it is -/
structure Reads (gb : Nat) (g : Gr) (w : World) : Prop where
  get : ∀ (id : St) (i : Ino) (b : Bool) W, g.got id = i → (g.get id).isSome = b → Below w.heap.size w W →
    Calls Tryz.prog 33 #[.pointer (some ⟨gb, 0, none⟩), (.agg #[.int .i64 id.t, .int .i64 id.r])] W fun x w' => x = .returned (.tuple #[(.agg #[.int .i64 i.id.t, .int .i64 i.id.r, .int .i64 i.kind, .int .i64 i.links, .int .i64 i.mode, .string i.data]), .bool b]) ∧ Below W.heap.size W w'
  look : ∀ (p : Pl) (i : St) (b : Bool) W, (g.look p).getD ⟨0, 0⟩ = i → (g.look p).isSome = b → Below w.heap.size w W →
    Calls Tryz.prog 32 #[.pointer (some ⟨gb, 0, none⟩), (.agg #[.int .i64 p.at_.t, .int .i64 p.at_.r]), .string p.name] W fun x w' => x = .returned (.tuple #[(.agg #[.int .i64 i.t, .int .i64 i.r]), .bool b]) ∧ Below W.heap.size W w'
  inodes : ∀ W, Below w.heap.size w W →
    Calls Tryz.prog 36 #[.pointer (some ⟨gb, 0, none⟩)] W fun x w' => ∃ a c, x = .returned (.slice a g.n.length c) ∧ SlAt w' 6 Ino.cells (.slice a g.n.length c) g.n ∧ Below W.heap.size W w'
  entries : ∀ W, Below w.heap.size w W →
    Calls Tryz.prog 46 #[.pointer (some ⟨gb, 0, none⟩)] W fun x w' => ∃ a c, x = .returned (.slice a g.e.length c) ∧ SlAt w' 5 Ent.cells (.slice a g.e.length c) g.e ∧ Below W.heap.size W w'
  list : ∀ (id : St) W, Below w.heap.size w W →
    Calls Tryz.prog 72 #[.pointer (some ⟨gb, 0, none⟩), (.agg #[.int .i64 id.t, .int .i64 id.r])] W fun x w' => ∃ a c, x = .returned (.slice a (g.list id).length c) ∧ SlAt w' 5 Ent.cells (.slice a (g.list id).length c) (g.list id) ∧ Below W.heap.size W w'
  parent : ∀ (id p : St) (b : Bool) W, (g.parent id).getD ⟨0, 0⟩ = p → (g.parent id).isSome = b → Below w.heap.size w W →
    Calls Tryz.prog 38 #[.pointer (some ⟨gb, 0, none⟩), (.agg #[.int .i64 id.t, .int .i64 id.r])] W fun x w' => x = .returned (.tuple #[(.agg #[.int .i64 p.t, .int .i64 p.r]), .bool b]) ∧ Below W.heap.size W w'
  under : ∀ (p q : St) (b : Bool) W, g.under p q = b → Below w.heap.size w W →
    Calls Tryz.prog 71 #[.pointer (some ⟨gb, 0, none⟩), (.agg #[.int .i64 p.t, .int .i64 p.r]), (.agg #[.int .i64 q.t, .int .i64 q.r])] W fun x w' => x = .returned (.bool b) ∧ Below W.heap.size W w'
  copy : ∀ W, Below w.heap.size w W → Calls Tryz.prog 40 #[.pointer (some ⟨gb, 0, none⟩)] W (MadeGr W g)

theorem Reads.below {gb : Nat} {g : Gr} {w w' : World} (h : Reads gb g w) (hb : Below w.heap.size w w') : Reads gb g w' where
  get := fun id i b W h1 h2 hW => h.get id i b W h1 h2 (hb.trans (hW.mono hb.size))
  look := fun p i b W h1 h2 hW => h.look p i b W h1 h2 (hb.trans (hW.mono hb.size))
  inodes := fun W hW => h.inodes W (hb.trans (hW.mono hb.size))
  entries := fun W hW => h.entries W (hb.trans (hW.mono hb.size))
  list := fun id W hW => h.list id W (hb.trans (hW.mono hb.size))
  parent := fun id p b W h1 h2 hW => h.parent id p b W h1 h2 (hb.trans (hW.mono hb.size))
  under := fun p q b W h1 hW => h.under p q b W h1 (hb.trans (hW.mono hb.size))
  copy := fun W hW => h.copy W (hb.trans (hW.mono hb.size))

theorem GrAt.reads {w : World} {gb mI mE : Nat} {g : Gr} (h : GrAt w gb mI mE g) (hok : g.Ok) (hl : g.e.length ≤ 1000) : Reads gb g w where
  get := fun id i b W h1 h2 hW => (get_any gb mI mE g id W (h.below hW) hok.sn).mono fun x w' ⟨a, c⟩ => ⟨by rw [a, h1, h2]; rfl, c.below⟩
  look := fun p i b W h1 h2 hW => (look_any gb mI mE g p W (h.below hW) hok.se).mono fun x w' ⟨a, c⟩ => ⟨by rw [a, h1, h2]; rfl, c.below⟩
  inodes := fun W hW => (inodes_any gb mI mE g W (h.below hW) hok.sn (by have := hok.len; omega)).mono fun x w' ⟨v, a, b, c⟩ => by
    have hs := slAt_ownI b
    obtain ⟨p, q, rfl⟩ := hs.len
    exact ⟨p, q, a, hs, c⟩
  entries := fun W hW => (entries_any gb mI mE g W (h.below hW) hok.se hl).mono fun x w' ⟨v, a, b, c⟩ => by
    have hs := slAt_own b
    obtain ⟨p, q, rfl⟩ := hs.len
    exact ⟨p, q, a, hs, c⟩
  list := fun id W hW => (list_any gb mI mE g id W (h.below hW) hok.se hl).mono fun x w' ⟨v, a, b, c⟩ => by
    have hs := slAt_own b
    obtain ⟨p, q, rfl⟩ := hs.len
    exact ⟨p, q, a, hs, c⟩
  parent := fun id p b W h1 h2 hW => (parent_any gb mI mE g id W (h.below hW) hok.sn hok.se hl).mono fun x w' ⟨a, c⟩ => ⟨by rw [a, h1, h2]; rfl, c⟩
  under := fun p q b W h1 hW => (under_any gb mI mE g p q W (h.below hW) hok hl).mono fun x w' ⟨a, c⟩ => ⟨by rw [a, h1], c⟩
  copy := fun W hW => copy_g gb mI mE g W (h.below hW)
end Go.Proofs.YtfbjiaedfmdcfaaGreatDoor

/-! ## RegM -/
namespace Go.Proofs.YtfbjiaedfmdcfaaGreatDoor

section
variable {P : Program} {ops : Array Oper} {Q : Exit → Act → World → Prop} {md : Region.Mode} {S : World → Prop}
/-- is none of the late operations listed? -/
def noLate (late : List Nat) (listed : Array Bool) : Bool := late.all fun n => !(listed.getD n true)
/-- whatever order is picked; as long as no late operation came, S holds -/
def wpAnyM (late : List Nat) (P : Program) (md : Region.Mode) (ops : Array Oper) (Q : Exit → Act → World → Prop) (S : World → Prop) : Nat → Array Bool → Act → World → Prop
  | 0, listed, a, w => Region.ready md ops listed = [] ∧ Q .normal a w
  | fuel + 1, listed, a, w => (Region.ready md ops listed = [] → Q .normal a w) ∧ ∀ i ∈ Region.ready md ops listed, wpOp P ops Q i (fun a' w' => (noLate late (listed.setIfInBounds i true) = true → S w') ∧ wpAnyM late P md ops Q S fuel (listed.setIfInBounds i true) a' w') a w
theorem wpAny_of_M (late : List Nat) : ∀ (fuel : Nat) (listed : Array Bool) (a : Act) (w : World), wpAnyM late P md ops Q S fuel listed a w → wpAny P md ops Q fuel listed a w
  | 0, _, _, _, h => h
  | fuel + 1, _, _, _, h => ⟨h.1, fun i hi => wpOp_mono (fun a' w' h' => wpAny_of_M late fuel _ a' w' h'.2) (h.2 i hi)⟩
theorem noLate_set {late : List Nat} {listed : Array Bool} {j : Nat} (hj : late.contains j = false) (h : noLate late listed = true) : noLate late (listed.setIfInBounds j true) = true := by
  unfold noLate at *
  rw [List.all_eq_true] at *
  intro n hn
  have hnj : j ≠ n := by rintro rfl; rw [List.contains_iff_mem.2 hn] at hj; cases hj
  rw [getD_set_ne true hnj]
  exact h n hn
/-- does operation number n wait for number i? -/
def waitsM (md : Region.Mode) (ops : Array Oper) (n i : Nat) : Bool := ((ops[n]?).map fun o => o.after.any fun e => Region.binds md e && e.on == i).getD false
theorem waitsM_not {n i : Nat} {listed : Array Bool} (hw : waitsM md ops n i = true) (hi : listed.getD i true = false) : n ∉ Region.ready md ops listed := by
  intro hr
  obtain ⟨_, o, ho, hall⟩ := mem_ready.1 hr
  unfold waitsM at hw
  rw [ho] at hw
  simp only [Option.map_some, Option.getD_some, Array.any_eq_true] at hw
  obtain ⟨k, hk, hb⟩ := hw
  simp only [Bool.and_eq_true, beq_iff_eq] at hb
  have h1 := hall _ (Array.getElem_mem hk) hb.1
  rw [hb.2] at h1
  rcases Nat.lt_or_ge i listed.size with h' | h'
  · simp [h'] at hi h1
    rw [hi] at h1
    cases h1
  · simp [Array.getElem?_eq_none h'] at h1
theorem wpAnyM_first {late : List Nat} {i : Nat} {oi : Oper} {v : Value} (hi : ops[i]? = some oi) (hw : late.all (fun n => waitsM md ops n i) = true) (hni : late.contains i = false) (hsel : ∀ (j : Nat) (o : Oper) cs b, ops[j]? = some o → o.op ≠ .select cs b)
    (hQ : ∀ c a w, Q (.panic c) (a.put oi.dst v) w → Q (.panic c) a w) :
    ∀ (fuel : Nat) (listed : Array Bool) (a : Act) (w : World), noLate late listed = true →
      (∀ j oj, ops[j]? = some oj → j ≠ i → listed.getD j true = false → (∀ e ∈ oj.after, Region.binds md e = true → e.on ≠ i) → oi.apart ops oj = true) →
      i ∈ Region.ready md ops listed → YieldsIf P ops S oi v a → S w →
      wpAnyM late P md ops Q S fuel (listed.setIfInBounds i true) (a.put oi.dst v) w → wpAnyM late P md ops Q S (fuel + 1) listed a w
  | fuel, listed, a, w, hnl, hfree, hr, hy, hS, H => by
    refine ⟨fun h => (by rw [h] at hr; cases hr), fun j hj => ?_⟩
    by_cases hji : j = i
    · subst hji
      exact hy.wpOp hi hS ⟨fun _ => hS, H⟩
    · have hli := (mem_ready.1 hr).1
      have hjn : late.contains j = false := by
        cases hc : late.contains j with
        | false => rfl
        | true => exact absurd hj (waitsM_not (List.all_eq_true.1 hw j (List.contains_iff_mem.1 hc)) hli)
      have hjr := ready_mono hj hji
      cases fuel with
      | zero => rw [H.1] at hjr; cases hjr
      | succ fuel =>
        have h1 := H.2 j hjr
        obtain ⟨hjun, oj, hoj, hall⟩ := mem_ready.1 hj
        have hnot : ∀ e ∈ oj.after, Region.binds md e = true → e.on ≠ i := fun e he hb heq => by
          have h2 := hall e he hb
          rw [heq] at h2
          rcases Nat.lt_or_ge i listed.size with h' | h'
          · simp [h'] at hli h2
            rw [hli] at h2
            cases h2
          · simp [Array.getElem?_eq_none h'] at h2
        have h2 := wpOp_putIf hoj (hfree j oj hoj hji hjun hnot) (fun cs b => hsel i oi cs b hi) (fun cs b => hsel j oj cs b hoj) hQ hy h1
        have hl1 := noLate_set (j := j) hjn hnl
        have hl2 := noLate_set (j := j) hjn (noLate_set (j := i) hni hnl)
        refine wpOp_mono (fun a' w' h3 => ⟨fun _ => h3.2.1 hl2, wpAnyM_first hi hw hni hsel hQ fuel (listed.setIfInBounds j true) a' w' hl1 (fun k ok hk hki hun hno => hfree k ok hk hki ?_ hno) (ready_mono hr (Ne.symm hji)) h3.1 (h3.2.1 hl2) ?_⟩) h2
        · by_cases hjk : j = k
          · subst hjk; exact hjun
          · rw [getD_set_ne true hjk] at hun; exact hun
        · rw [Array.setIfInBounds_comm _ _ hji]
          exact h3.2.2
theorem wpAnyM_take {late : List Nat} {i : Nat} {oi : Oper} {v : Value} {fuel : Nat} {listed : Array Bool} {a : Act} {w : World} (hi : ops[i]? = some oi)
    (hs : Region.noSelect ops = true) (hw : late.all (fun n => waitsM md ops n i) = true) (hni : late.contains i = false) (hnl : noLate late listed = true) (hf : Region.free md ops listed i = true) (hr : (Region.ready md ops listed).contains i = true)
    (hQ : ∀ c a w, Q (.panic c) (a.put oi.dst v) w → Q (.panic c) a w) (hy : YieldsIf P ops S oi v a) (hS : S w)
    (h : wpAnyM late P md ops Q S fuel (listed.setIfInBounds i true) (a.put oi.dst v) w) : wpAnyM late P md ops Q S (fuel + 1) listed a w :=
  wpAnyM_first hi hw hni (Region.noSelect_spec hs) hQ fuel listed a w hnl (Region.free_spec hi hf) (by simpa using hr) hy hS h
/-- the slot by its number: so the temporaries stay a list of values -/
theorem wpAnyM_takeD {late : List Nat} {i : Nat} (d : Nat) {oi : Oper} {v : Value} {fuel : Nat} {listed : Array Bool} {a : Act} {w : World} (hi : ops[i]? = some oi) (hd : oi.dst = some d)
    (hs : Region.noSelect ops = true) (hw : late.all (fun n => waitsM md ops n i) = true) (hni : late.contains i = false) (hnl : noLate late listed = true) (hf : Region.free md ops listed i = true) (hr : (Region.ready md ops listed).contains i = true)
    (hQ : ∀ c a w, Q (.panic c) (a.put oi.dst v) w → Q (.panic c) a w) (hy : YieldsIf P ops S oi v a) (hS : S w)
    (h : wpAnyM late P md ops Q S fuel (listed.setIfInBounds i true) (a.put (some d) v) w) : wpAnyM late P md ops Q S (fuel + 1) listed a w := by
  rw [← hd] at h
  exact wpAnyM_take hi hs hw hni hnl hf hr hQ hy hS h
/-- only one may come up -/
theorem wpAnyM_one {late : List Nat} {i : Nat} {o : Oper} {fuel : Nat} {listed : Array Bool} {a : Act} {w : World} (hr : Region.ready md ops listed = [i]) (hi : ops[i]? = some o) (hg : o.guard = none)
    (h : o.wp P a w (fun a' w' => S w' ∧ wpAnyM late P md ops Q S fuel (listed.setIfInBounds i true) a' w') Q) : wpAnyM late P md ops Q S (fuel + 1) listed a w := by
  refine ⟨fun h0 => (by rw [hr] at h0; cases h0), fun j hj => ?_⟩
  rw [hr] at hj
  obtain rfl := List.mem_singleton.1 hj
  refine wpOp_mono (K := fun a' w' => S w' ∧ wpAnyM late P md ops Q S fuel (listed.setIfInBounds j true) a' w') (fun a' w' h => ⟨fun _ => h.1, h.2⟩) ?_
  unfold wpOp
  rw [hi]
  simp only [Region.wanted, hg, if_true]
  exact .inl h
/-- two may come up -/
theorem wpAnyM_two {late : List Nat} {i j : Nat} {o o' : Oper} {fuel : Nat} {listed : Array Bool} {a : Act} {w : World} (hr : Region.ready md ops listed = [i, j]) (hi : ops[i]? = some o) (hg : o.guard = none) (hj : ops[j]? = some o') (hg' : o'.guard = none)
    (h : o.wp P a w (fun a' w' => S w' ∧ wpAnyM late P md ops Q S fuel (listed.setIfInBounds i true) a' w') Q)
    (h' : o'.wp P a w (fun a' w' => S w' ∧ wpAnyM late P md ops Q S fuel (listed.setIfInBounds j true) a' w') Q) : wpAnyM late P md ops Q S (fuel + 1) listed a w := by
  refine ⟨fun h0 => (by rw [hr] at h0; cases h0), fun k hk => ?_⟩
  refine wpOp_mono (K := fun a' w' => S w' ∧ wpAnyM late P md ops Q S fuel (listed.setIfInBounds k true) a' w') (fun a' w' h => ⟨fun _ => h.1, h.2⟩) ?_
  rw [hr] at hk
  unfold wpOp
  rcases List.mem_cons.1 hk with rfl | hk
  · rw [hi]
    simp only [Region.wanted, hg, if_true]
    exact .inl h
  · obtain rfl := List.mem_singleton.1 hk
    rw [hj]
    simp only [Region.wanted, hg', if_true]
    exact .inl h'
theorem wpAnyM_done {late : List Nat} {listed : Array Bool} {a : Act} {w : World} (hr : Region.ready md ops listed = []) (h : Q .normal a w) : ∀ fuel, wpAnyM late P md ops Q S fuel listed a w
  | 0 => ⟨hr, h⟩
  | _ + 1 => ⟨fun _ => h, by rw [hr]; simp⟩
theorem wp_region_M (late : List Nat) {id : Nat} {a : Act} {w : World} (hm : P.follows .mixedOrders = true)
    (h : wpAnyM late P .any ops Q S ops.size (Array.replicate ops.size false) a w.drew) : (Code.region id ops true).wp P Q a w :=
  wp_region_any hm (wpAny_of_M late _ _ _ _ h)
end
end Go.Proofs.YtfbjiaedfmdcfaaGreatDoor
