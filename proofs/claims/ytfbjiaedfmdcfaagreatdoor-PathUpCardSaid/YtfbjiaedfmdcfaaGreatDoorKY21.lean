/-
  The graph in memory: two maps; worlds in which only some maps turn; no condition.
-/
import Derived.Test.YtfbjiaedfmdcfaaGreatDoorKY1
import Derived.Test.YtfbjiaedfmdcfaaGreatDoorKY9
/-! ## GrAt -/
namespace Go.Proofs.YtfbjiaedfmdcfaaGreatDoor
open Go.RowKit

/-- everything that was there is as it was, but for some blocks, which hold maps -/
structure Turn (S : Nat → Prop) (w w' : World) : Prop where
  os : w'.os = w.os
  tape : w'.tape = w.tape
  output : w'.output = w.output
  size : w.heap.size ≤ w'.heap.size
  block : ∀ k, k < w.heap.size → ¬ S k → w'.heap[k]? = w.heap[k]?
  cell : ∀ a : Addr, a.block < w.heap.size → w'.cell? a = w.cell? a
  frozen : ∀ a : Addr, a.block < w.heap.size → w'.frozen? a = w.frozen? a

theorem New.cell_eq {w w' : World} (h : New w w') (a : Addr) (ha : a.block < w.heap.size) : w'.cell? a = w.cell? a := by
  unfold World.cell?; rw [h.block _ ha]
theorem New.frozen_eq {w w' : World} (h : New w w') (a : Addr) (ha : a.block < w.heap.size) : w'.frozen? a = w.frozen? a := by
  unfold World.frozen?; rw [h.block _ ha]
theorem New.turn {w w' : World} (h : New w w') (S : Nat → Prop) : Turn S w w' := ⟨h.os, h.tape, h.output, h.size, fun k hk _ => h.block k hk, fun a ha => h.cell_eq a ha, fun a ha => h.frozen_eq a ha⟩
theorem _root_.Go.Below.turn {w w' : World} (h : Below w.heap.size w w') (S : Nat → Prop) : Turn S w w' := ⟨h.os, h.tape, h.output, h.size, fun k hk _ => h.block k hk, fun _ ha => h.cell ha, fun _ ha => h.frozen ha⟩
theorem Turn.refl (S : Nat → Prop) (w : World) : Turn S w w := (New.refl w).turn S
theorem Turn.trans {S : Nat → Prop} {a b c : World} (h : Turn S a b) (k : Turn S b c) : Turn S a c :=
  ⟨k.os.trans h.os, k.tape.trans h.tape, k.output.trans h.output, Nat.le_trans h.size k.size, fun i hi hs => (k.block i (Nat.lt_of_lt_of_le hi h.size) hs).trans (h.block i hi hs),
   fun x hx => (k.cell x (Nat.lt_of_lt_of_le hx h.size)).trans (h.cell x hx), fun x hx => (k.frozen x (Nat.lt_of_lt_of_le hx h.size)).trans (h.frozen x hx)⟩
theorem Turn.more {S T : Nat → Prop} {a b : World} (h : Turn S a b) (hst : ∀ k, S k → T k) : Turn T a b :=
  ⟨h.os, h.tape, h.output, h.size, fun k hk hs => h.block k hk (fun hS => hs (hst k hS)), h.cell, h.frozen⟩
theorem Turn.below {S : Nat → Prop} {a b : World} {B : Nat} (h : Turn S a b) (hB : B ≤ a.heap.size) (hS : ∀ k, k < B → ¬ S k) : Below B a b :=
  ⟨h.os, h.tape, h.output, h.size, fun k hk => h.block k (by omega) (hS k hk)⟩
theorem Turn.of_put {w w' : World} {b : Nat} (h : MapPut w b w') : Turn (· = b) w w' := by
  have h1 := h.cell
  have h2 := h.frozen
  obtain ⟨es, ck, es0, ck0, hb, rfl⟩ := h
  exact ⟨rfl, rfl, rfl, by simp, fun k _ hk => World.putObj_heap_other hk, fun a _ => h1 a, fun a _ => h2 a⟩

/-! ### a map and what it holds -/
section
variable {K V : Type} [DecidableEq K]
theorem getKV_mem {k : K} {v : V} : ∀ {l : List (K × V)}, (l.map (·.1)).Nodup → (getKV k l = some v ↔ (k, v) ∈ l)
  | [], _ => by simp [getKV]
  | (a, u) :: l, hn => by
    rw [List.map_cons, List.nodup_cons] at hn
    unfold getKV
    by_cases h : k = a
    · subst h
      rw [if_pos rfl]
      constructor
      · intro e; cases e; exact List.mem_cons_self
      · intro e
        rcases List.mem_cons.1 e with e | e
        · cases e; rfl
        · exact absurd (List.mem_map.2 ⟨_, e, rfl⟩) hn.1
    · rw [if_neg h, getKV_mem hn.2, List.mem_cons]
      constructor
      · exact .inr
      · rintro (e | e)
        · cases e; exact absurd rfl h
        · exact e
theorem getKV_perm {k : K} {l m : List (K × V)} (h : l.Perm m) (hn : (m.map (·.1)).Nodup) : getKV k l = getKV k m := by
  have hl : (l.map (·.1)).Nodup := (h.map (·.1)).nodup_iff.2 hn
  apply Option.ext
  intro v
  rw [getKV_mem hl, getKV_mem hn, h.mem_iff]
theorem putKV_perm_new {k : K} {x : V} {l : List (K × V)} (h : k ∉ l.map (·.1)) : (putKV k x l).Perm ((k, x) :: l) := by
  induction l with
  | nil => exact List.Perm.refl _
  | cons p l ih =>
    obtain ⟨a, u⟩ := p
    simp only [List.map_cons, List.mem_cons, not_or] at h
    unfold putKV
    rw [if_neg h.1]
    exact ((ih h.2).cons _).trans (List.Perm.swap _ _ _)
theorem putKV_map {k : K} {x : V} {l : List (K × V)} (hn : (l.map (·.1)).Nodup) (h : k ∈ l.map (·.1)) : putKV k x l = l.map fun p => if p.1 = k then (k, x) else p := by
  induction l with
  | nil => cases h
  | cons p l ih =>
    obtain ⟨a, u⟩ := p
    rw [List.map_cons, List.nodup_cons] at hn
    unfold putKV
    by_cases e : k = a
    · subst e
      rw [if_pos rfl, List.map_cons, if_pos rfl]
      congr 1
      conv => lhs; rw [← List.map_id l]
      apply List.map_congr_left
      intro q hq
      rw [if_neg]
      · rfl
      · intro e; exact hn.1 (List.mem_map.2 ⟨q, hq, e⟩)
    · rw [if_neg e, List.map_cons, if_neg (fun h => e h.symm), ih hn.2]
      simpa [e] using h
theorem delKV_filter {k : K} {l : List (K × V)} (hn : (l.map (·.1)).Nodup) : delKV k l = l.filter fun p => decide (p.1 ≠ k) := by
  induction l with
  | nil => rfl
  | cons p l ih =>
    obtain ⟨a, u⟩ := p
    rw [List.map_cons, List.nodup_cons] at hn
    unfold delKV
    rw [List.filter_cons]
    by_cases e : k = a
    · subst e
      rw [if_pos rfl]
      simp only [ne_eq, not_true_eq_false, decide_false, Bool.false_eq_true, if_false]
      symm
      rw [List.filter_eq_self]
      intro q hq
      simpa using fun e => hn.1 (List.mem_map.2 ⟨q, hq, e⟩)
    · rw [if_neg e, if_pos (by simpa using fun h => e h.symm), ih hn.2]
end

def nodesKV (l : List Ino) : List (St × Ino) := l.map fun i => (i.id, i)
def entsKV (l : List Ent) : List (Pl × St) := l.map fun x => (x.pl, x.ino)
theorem nodesKV_keys (l : List Ino) : (nodesKV l).map (·.1) = l.map Ino.id := by simp [nodesKV, List.map_map, Function.comp]
theorem entsKV_keys (l : List Ent) : (entsKV l).map (·.1) = l.map Ent.pl := by simp [entsKV, List.map_map, Function.comp]

/-- block gb is a graph, of the maps of mI and mE -/
structure GrAt (w : World) (gb mI mE : Nat) (g : Gr) : Prop where
  box : w.heap[gb]? = some (.cells #[.map (some mI), .map (some mE)] 100 (0, 0))
  nodes : ∃ kv, MapAt w mI St.v Ino.v kv ∧ kv.Perm (nodesKV g.n)
  ents : ∃ kv, MapAt w mE Pl.v St.v kv ∧ kv.Perm (entsKV g.e)
  ne : mI ≠ mE

section
variable {w : World} {gb mI mE : Nat} {g : Gr}
theorem GrAt.lt (h : GrAt w gb mI mE g) : gb < w.heap.size ∧ mI < w.heap.size ∧ mE < w.heap.size := by
  obtain ⟨kI, hI, _⟩ := h.nodes
  obtain ⟨kE, hE, _⟩ := h.ents
  obtain ⟨_, _, h1⟩ := hI.map
  obtain ⟨_, _, h2⟩ := hE.map
  exact ⟨(Array.getElem?_eq_some_iff.1 h.box).1, (Array.getElem?_eq_some_iff.1 h1).1, (Array.getElem?_eq_some_iff.1 h2).1⟩
theorem GrAt.apart (h : GrAt w gb mI mE g) : gb ≠ mI ∧ gb ≠ mE := by
  obtain ⟨kI, hI, _⟩ := h.nodes
  obtain ⟨kE, hE, _⟩ := h.ents
  obtain ⟨_, _, h1⟩ := hI.map
  obtain ⟨_, _, h2⟩ := hE.map
  constructor <;> intro e <;> subst e
  · rw [h.box] at h1; cases h1
  · rw [h.box] at h2; cases h2
theorem GrAt.kept (h : GrAt w gb mI mE g) {w' : World} (h1 : w'.heap[gb]? = w.heap[gb]?) (h2 : w'.heap[mI]? = w.heap[mI]?) (h3 : w'.heap[mE]? = w.heap[mE]?) : GrAt w' gb mI mE g := by
  refine ⟨h1.trans h.box, ?_, ?_, h.ne⟩
  · obtain ⟨kv, ⟨es, ck, a1, a2⟩, hp⟩ := h.nodes
    exact ⟨kv, ⟨es, ck, h2.trans a1, a2⟩, hp⟩
  · obtain ⟨kv, ⟨es, ck, a1, a2⟩, hp⟩ := h.ents
    exact ⟨kv, ⟨es, ck, h3.trans a1, a2⟩, hp⟩
theorem GrAt.new (h : GrAt w gb mI mE g) {w' : World} (ht : New w w') : GrAt w' gb mI mE g := h.kept (ht.block _ h.lt.1) (ht.block _ h.lt.2.1) (ht.block _ h.lt.2.2)
theorem GrAt.below (h : GrAt w gb mI mE g) {w' : World} (ht : Below w.heap.size w w') : GrAt w' gb mI mE g := h.kept (ht.block _ h.lt.1) (ht.block _ h.lt.2.1) (ht.block _ h.lt.2.2)
theorem GrAt.cells (h : GrAt w gb mI mE g) : w.cell? ⟨gb, 0, none⟩ = some (.map (some mI)) ∧ w.cell? ⟨gb, 1, none⟩ = some (.map (some mE)) := by
  unfold World.cell?
  simp only [h.box]
  exact ⟨rfl, rfl⟩

theorem find_map_key {α K V : Type} [DecidableEq K] (key : α → K) (val : α → V) (k : K) : ∀ (l : List α), getKV k (l.map fun a => (key a, val a)) = (l.find? fun a => decide (key a = k)).map val
  | [] => rfl
  | a :: l => by
    rw [List.map_cons, List.find?_cons]
    unfold getKV
    by_cases h : key a = k
    · rw [if_pos h.symm]; simp [h]
    · rw [if_neg (fun e => h e.symm)]
      simp only [h, decide_false]
      exact find_map_key key val k l

/-- what the graph's maps tell -/
theorem GrAt.look_node (h : GrAt w gb mI mE g) (hok : RisesN g.n) (id : St) :
    (Instr.lookup 97 (.map (some mI)) (.agg #[.int .i64 id.t, .int .i64 id.r]) true).run Tryz.prog w = .ok (.tuple #[(g.got id).v, .bool (g.get id).isSome]) w ∧
    (Instr.lookup 97 (.map (some mI)) (.agg #[.int .i64 id.t, .int .i64 id.r]) false).run Tryz.prog w = .ok (g.got id).v w := by
  obtain ⟨kv, hm, hp⟩ := h.nodes
  have hn : ((nodesKV g.n).map (·.1)).Nodup := by rw [nodesKV_keys]; exact hok.nodup strictSt
  have h1 := run_lookup_kv (w := w) keySt Tryz.underlying97 Tryz.zeroValue28 hm id
  have e : getKV id kv = g.get id := by
    rw [getKV_perm hp hn]
    unfold nodesKV Gr.get
    rw [find_map_key (α := Ino) (K := St) (V := Ino) Ino.id (fun i => i) id g.n]
    simp
  have e2 : lookV Ino.v (.agg #[.int .i64 0, .int .i64 0, .int .i64 0, .int .i64 0, .int .i64 0, .string ⟨#[]⟩]) (g.get id) = (g.got id).v := by
    unfold Gr.got lookV
    cases g.get id <;> rfl
  rw [e] at h1
  rw [← e2]
  exact h1

theorem GrAt.look_ent (h : GrAt w gb mI mE g) (hok : RisesE g.e) (p : Pl) :
    (Instr.lookup 98 (.map (some mE)) (.agg #[.int .i64 p.at_.t, .int .i64 p.at_.r, .string p.name]) true).run Tryz.prog w = .ok (.tuple #[((g.look p).getD ⟨0, 0⟩).v, .bool (g.look p).isSome]) w := by
  obtain ⟨kv, hm, hp⟩ := h.ents
  have hn : ((entsKV g.e).map (·.1)).Nodup := by rw [entsKV_keys]; exact hok.nodup strictPl
  have h1 := (run_lookup_kv (w := w) keyPl Tryz.underlying98 Tryz.zeroValue26 hm p).1
  have e : getKV p kv = g.look p := by
    rw [getKV_perm hp hn]
    unfold entsKV Gr.look Gr.find
    exact find_map_key Ent.pl Ent.ino p g.e
  have e2 : lookV St.v (.agg #[.int .i64 0, .int .i64 0]) (g.look p) = ((g.look p).getD ⟨0, 0⟩).v := by
    unfold lookV
    cases g.look p <;> rfl
  rw [e] at h1
  rw [← e2]
  exact h1
end
end Go.Proofs.YtfbjiaedfmdcfaaGreatDoor
