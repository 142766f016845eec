/-
  graph.Copy, New; condition: none but that the graph is one. · In what is fine each directory leads up to the root; no condition. · In what is fine links together are as many as entries; no condition. · A deed, plainly; a graph in order has few entries; no condition. · thimbleref09.Nodes, Entries: are two lists the same; condition: at most 100000 elements. · op.fields, op.data, op.Makes, and strings.Contains at a zero byte; no condition but strings' lengths. · op.data; condition: strings' lengths.
-/
import Derived.Test.YtlokljaeknmdpaaGreatKZ22
import Derived.Shelf.SlMaps.Clone
import Derived.Deep.RegionHeld3
import Derived.Test.YtlokljaeknmdpaaGreatKZ15
import Derived.Test.YtlokljaeknmdpaaGreatKZ3
import Derived.Test.YtlokljaeknmdpaaGreatKZ10
import Derived.Test.YtlokljaeknmdpaaGreatKZ12
/-! ## GrCopy -/
namespace Go.Proofs.YtlokljaeknmdpaaGreat
open Go.RowKit Go.Shelf Go.Proofs

set_option maxRecDepth 100000 in
set_option maxHeartbeats 1000000 in
theorem cloneI (b : Nat) (es : Array MapEntry) (ck : Nat) (w : World) (hb : w.heap[b]? = some (.map es ck)) :
    Calls Tryz.prog 80 #[.map (some b)] w fun e w' => e = .returned (.map (some w.heap.size)) ∧ w' = w.alloc (.map es ck) := by
  have hq := fun w => run_eql_map_nil_sl (P := Tryz.prog) w 89 _ _ (some b) Tryz.underlying89
  go_enter Tryz.func80, Tryz.ntmps80
  go_wp2
  rw [run_callFunc_extern Tryz.func134 (by kernel_rfl) (by kernel_rfl) (by kernel_rfl) (e := Extern.MapsClone.clone) (by kernel_rfl), run_maps_clone_sl w 89 hb]
  simp only [Result.andThen]
  rw [Oper.upon_value]
  go_wp2
  rw [run_typeAssert_map_sl _ 89 20 _ _ _ Tryz.underlying89]
  simp only [Result.andThen]
  rw [Oper.upon_value]
  go_wp2
  go_ret
  exact ⟨rfl, rfl⟩

set_option maxRecDepth 100000 in
set_option maxHeartbeats 1000000 in
theorem cloneE (b : Nat) (es : Array MapEntry) (ck : Nat) (w : World) (hb : w.heap[b]? = some (.map es ck)) :
    Calls Tryz.prog 81 #[.map (some b)] w fun e w' => e = .returned (.map (some w.heap.size)) ∧ w' = w.alloc (.map es ck) := by
  have hq := fun w => run_eql_map_nil_sl (P := Tryz.prog) w 90 _ _ (some b) Tryz.underlying90
  go_enter Tryz.func81, Tryz.ntmps81
  go_wp2
  rw [run_callFunc_extern Tryz.func134 (by kernel_rfl) (by kernel_rfl) (by kernel_rfl) (e := Extern.MapsClone.clone) (by kernel_rfl), run_maps_clone_sl w 90 hb]
  simp only [Result.andThen]
  rw [Oper.upon_value]
  go_wp2
  rw [run_typeAssert_map_sl _ 90 20 _ _ _ Tryz.underlying90]
  simp only [Result.andThen]
  rw [Oper.upon_value]
  go_wp2
  go_ret
  exact ⟨rfl, rfl⟩

theorem le_al {w w1 : World} {o : Obj} (h : w.heap.size ≤ w1.heap.size) : w.heap.size ≤ (w1.alloc o).heap.size := by simp only [World.size_alloc]; omega
/-- a graph of the call's own -/
def OwnGr (w : World) (g : Gr) (v : Value) (w' : World) : Prop := ∃ gb mI mE, v = .pointer (some ⟨gb, 0, none⟩) ∧ GrAt w' gb mI mE g ∧ w.heap.size ≤ gb ∧ w.heap.size ≤ mI ∧ w.heap.size ≤ mE
def MadeGr (w : World) (g : Gr) (e : Ending) (w' : World) : Prop := ∃ v, e = .returned v ∧ OwnGr w g v w' ∧ Below w.heap.size w w'

set_option maxRecDepth 100000 in
set_option maxHeartbeats 2000000 in
theorem copy_g (gb mI mE : Nat) (g : Gr) (w : World) (h : GrAt w gb mI mE g) :
    Calls Tryz.prog 27 #[.pointer (some ⟨gb, 0, none⟩)] w (MadeGr w g) := by
  obtain ⟨kI, ⟨eI, cI, hI, hI2⟩, hIp⟩ := h.nodes
  obtain ⟨kE, ⟨eE, cE, hE, hE2⟩, hEp⟩ := h.ents
  have hfin : ∀ W gb' mI' mE', W.heap[gb']? = some (.cells #[.map (some mI'), .map (some mE')] 92 (0, 0)) → W.heap[mI']? = some (.map eI cI) → W.heap[mE']? = some (.map eE cE) → mI' ≠ mE' → GrAt W gb' mI' mE' g := fun W gb' mI' mE' a b c d => ⟨a, ⟨kI, ⟨eI, cI, b, hI2⟩, hIp⟩, ⟨kE, ⟨eE, cE, c, hE2⟩, hEp⟩, d⟩
  have HI : Hid (∀ W, Below w.heap.size w W → Calls Tryz.prog 80 #[.map (some mI)] W fun e w' => e = .returned (.map (some W.heap.size)) ∧ w' = W.alloc (.map eI cI)) := Lib.hid fun W hW => cloneI mI eI cI W ((hW.block _ h.lt.2.1).trans hI)
  have HE : Hid (∀ W, Below w.heap.size w W → Calls Tryz.prog 81 #[.map (some mE)] W fun e w' => e = .returned (.map (some W.heap.size)) ∧ w' = W.alloc (.map eE cE)) := Lib.hid fun W hW => cloneE mE eE cE W ((hW.block _ h.lt.2.2).trans hE)
  obtain ⟨c0, c1⟩ := h.cells
  have hlt := h.lt.1
  have cA : ∀ o1 o2 o3 i, (((w.alloc o1).alloc o2).alloc o3).cell? ⟨gb, i, none⟩ = w.cell? ⟨gb, i, none⟩ := fun o1 o2 o3 i => (World.cell?_alloc_lt _ _ ⟨gb, i, none⟩ (by simp; omega)).trans ((World.cell?_alloc_lt _ _ ⟨gb, i, none⟩ (by simp; omega)).trans (World.cell?_alloc_lt _ _ ⟨gb, i, none⟩ hlt))
  have HFIN := Lib.hid hfin
  clear h hI hI2 hIp hE hE2 hEp hfin
  go_enter Tryz.func27, Tryz.ntmps27
  go_wp2
  go_region_held3 (fun W => W.cell? ⟨gb, 0, none⟩ = some (.map (some mI)) ∧ W.cell? ⟨gb, 1, none⟩ = some (.map (some mE))) (go_keep) (first
    | (go_at_call 80; refine (HI.out _ (by first | exact (Below.refl _ w).drew | exact (Below.refl _ w).drew.alloc (Nat.le_refl _) _ | exact ((Below.refl _ w).alloc (Nat.le_refl _) _).drew)).mono ?_; rintro e w' ⟨rfl, rfl⟩)
    | (go_at_call 81; refine (HE.out _ (by first | exact (Below.refl _ w).drew | exact (Below.refl _ w).drew.alloc (Nat.le_refl _) _ | exact ((Below.refl _ w).alloc (Nat.le_refl _) _).drew)).mono ?_; rintro e w' ⟨rfl, rfl⟩))
  all_goals go_wp2
  go_ret
  have b0 : (((w.alloc (.map eI cI)).alloc (.map eE cE)).alloc (.cells #[.map (some w.heap.size), .map (some (w.heap.size + 1))] 92)).heap[w.heap.size + 1 + 1]? = some (.cells #[.map (some w.heap.size), .map (some (w.heap.size + 1))] 92 (0, 0)) := by
    have := World.alloc_heap_new ((w.alloc (.map eI cI)).alloc (.map eE cE)) (.cells #[.map (some w.heap.size), .map (some (w.heap.size + 1))] 92)
    simpa using this
  have b1 : (((w.alloc (.map eI cI)).alloc (.map eE cE)).alloc (.cells #[.map (some w.heap.size), .map (some (w.heap.size + 1))] 92)).heap[w.heap.size]? = some (.map eI cI) :=
    (Below.heap_alloc _ _ _ (by simp only [World.size_alloc]; omega)).trans ((Below.heap_alloc _ _ _ (by simp only [World.size_alloc]; omega)).trans (World.alloc_heap_new w _))
  have b2 : (((w.alloc (.map eI cI)).alloc (.map eE cE)).alloc (.cells #[.map (some w.heap.size), .map (some (w.heap.size + 1))] 92)).heap[w.heap.size + 1]? = some (.map eE cE) :=
    (Below.heap_alloc _ _ _ (by simp only [World.size_alloc]; omega)).trans (by have := World.alloc_heap_new (w.alloc (.map eI cI)) (.map eE cE); simpa using this)
  exact ⟨_, rfl, ⟨_, _, _, rfl, HFIN.out _ _ _ _ b0 b1 b2 (by omega), by omega, Nat.le_refl _, by omega⟩, ((((Below.refl _ w).alloc (Nat.le_refl _) _).alloc (by simp only [World.size_alloc]; omega) _).alloc (by simp only [World.size_alloc]; omega) _).drew⟩

set_option maxRecDepth 100000 in
set_option maxHeartbeats 1000000 in
theorem new_g (w : World) : Calls Tryz.prog 18 #[] w (MadeGr w Gr.new) := by
  have hmm := @run_makeMap Tryz.prog
  have hm0 : MapAt (w.alloc (.map #[] 0)) w.heap.size St.v Ino.v [] := ⟨#[], 0, World.alloc_heap_new w _, rfl, List.Pairwise.nil, fun _ h => by cases h⟩
  obtain ⟨w2, hu, hp, hm2⟩ := run_update_kv (encV := Ino.v) keySt Tryz.underlying89 hm0 ⟨0, 0⟩ ⟨⟨0, 0⟩, 1, 0, 0, ⟨#[]⟩⟩
  unfold Ino.v St.v at hu
  have hs2 : w2.heap.size = w.heap.size + 1 := by rw [hp.size]; simp
  have HB2 : Hid (Below w.heap.size w w2) := Lib.hid (by
    have h := (Turn.of_put hp)
    exact ((Below.refl _ w).alloc (Nat.le_refl _) _).trans (h.below (by simp) (fun k hk => by omega)))
  have HM2 := Lib.hid hm2
  have HS2 := Lib.hid hs2
  clear hm0 hp hm2 hs2
  go_enter Tryz.func18, Tryz.ntmps18
  go_wp2
  go_ret
  have hs2 := HS2.out
  have b0 : ((w2.alloc (.map #[] 0)).alloc (.cells #[.map (some w.heap.size), .map (some w2.heap.size)] 92)).heap[w2.heap.size + 1]? = some (.cells #[.map (some w.heap.size), .map (some w2.heap.size)] 92 (0, 0)) := by
    have := World.alloc_heap_new (w2.alloc (.map #[] 0)) (.cells #[.map (some w.heap.size), .map (some w2.heap.size)] 92)
    simpa using this
  have b2 : ((w2.alloc (.map #[] 0)).alloc (.cells #[.map (some w.heap.size), .map (some w2.heap.size)] 92)).heap[w2.heap.size]? = some (.map #[] 0) :=
    (Below.heap_alloc _ _ _ (by simp only [World.size_alloc]; omega)).trans (World.alloc_heap_new w2 _)
  have b1 : MapAt ((w2.alloc (.map #[] 0)).alloc (.cells #[.map (some w.heap.size), .map (some w2.heap.size)] 92)) w.heap.size St.v Ino.v [(⟨0, 0⟩, ⟨⟨0, 0⟩, 1, 0, 0, ⟨#[]⟩⟩)] :=
    HM2.out.below (((Below.refl _ w2).alloc (Nat.le_refl _) _).alloc (by simp only [World.size_alloc]; omega) _) (by omega)
  exact ⟨_, rfl, ⟨_, _, _, rfl, ⟨b0, ⟨_, b1, List.Perm.refl _⟩, ⟨[], ⟨#[], 0, b2, rfl, List.Pairwise.nil, fun _ h => by cases h⟩, List.Perm.refl _⟩, by omega⟩, by omega, Nat.le_refl _, by omega⟩, (HB2.out.alloc HB2.out.size _).alloc (le_al HB2.out.size) _⟩
end Go.Proofs.YtlokljaeknmdpaaGreat

/-! ## TreeLaw -/
namespace Go.Proofs.YtlokljaeknmdpaaGreat
open Go.RowKit

end Go.Proofs.YtlokljaeknmdpaaGreat

/-! ## SumLaw -/
namespace Go.Proofs.YtlokljaeknmdpaaGreat

def sumTo (e : List Ent) : List St → Nat
  | [] => 0
  | d :: l => linksTo e d + sumTo e l

theorem linksTo_cons (x : Ent) (e : List Ent) (d : St) : linksTo (x :: e) d = linksTo e d + (if x.ino = d then 1 else 0) := by
  unfold linksTo
  rw [List.filter_cons]
  by_cases h : x.ino = d <;> simp [h]

theorem sumTo_nil (l : List St) : sumTo [] l = 0 := by
  induction l with
  | nil => rfl
  | cons d l ih => simp [sumTo, ih, linksTo]

theorem sumTo_out (x : Ent) (e : List Ent) : ∀ (l : List St), x.ino ∉ l → sumTo (x :: e) l = sumTo e l
  | [], _ => rfl
  | d :: l, h => by
    simp only [List.mem_cons, not_or] at h
    simp only [sumTo]
    rw [linksTo_cons, if_neg h.1, sumTo_out x e l h.2]; rfl

theorem sumTo_in (x : Ent) (e : List Ent) : ∀ (l : List St), l.Nodup → x.ino ∈ l → sumTo (x :: e) l = sumTo e l + 1
  | [], _, h => by cases h
  | d :: l, hn, h => by
    rw [List.nodup_cons] at hn
    simp only [sumTo]
    rw [linksTo_cons]
    by_cases hd : x.ino = d
    · rw [if_pos hd, sumTo_out x e l (by rw [hd]; exact hn.1)]; omega
    · rw [if_neg hd, sumTo_in x e l hn.2 (by rcases List.mem_cons.1 h with e | e; exact absurd e hd; exact e)]; omega

theorem sumTo_all (l : List St) (hn : l.Nodup) : ∀ e : List Ent, (∀ x ∈ e, x.ino ∈ l) → sumTo e l = e.length
  | [], _ => by rw [sumTo_nil]; rfl
  | x :: e, h => by
    rw [sumTo_in x e l hn (h x (by simp)), sumTo_all l hn e (fun y hy => h y (by simp [hy]))]; rfl

end Go.Proofs.YtlokljaeknmdpaaGreat

/-! ## DeedPl -/
namespace Go.Proofs.YtlokljaeknmdpaaGreat
open Go.RowKit Go.Shelf Go.Proofs

/-- the entries of a graph in order are few -/
theorem sumTo_le {e : List Ent} {m : Nat} : ∀ (l : List St), (∀ d ∈ l, linksTo e d ≤ m) → sumTo e l ≤ m * l.length
  | [], _ => by simp [sumTo]
  | d :: l, h => by
    have h1 := sumTo_le l fun x hx => h x (List.mem_cons_of_mem _ hx)
    have h2 := h d List.mem_cons_self
    simp only [sumTo, List.length_cons, Nat.mul_succ]
    omega
theorem Gr.Ok.few {g : Gr} (h : g.Ok) : g.e.length ≤ 240 := by
  have h1 := sumTo_all (g.n.map (·.id)) (h.sn.nodup strictSt) g.e fun x hx => by
    obtain ⟨i, hi, he⟩ := Gr.isSome_iff.1 (h.ends x hx).2.1
    exact List.mem_map.2 ⟨i, hi, he⟩
  have h2 := sumTo_le (e := g.e) (m := 6) (g.n.map (·.id)) fun d hd => by
    obtain ⟨i, hi, rfl⟩ := List.mem_map.1 hd
    have h3 := h.links i hi
    have h4 := h.most i hi
    have : linksTo g.e i.id = g.count i.id := rfl
    omega
  have h3 := h.len
  rw [h1, List.length_map] at h2
  omega

theorem own_below {mI mE : Nat} {w0 a b : World} (h : Turn (Maps2 mI mE) a b) (h1 : w0.heap.size ≤ mI) (h2 : w0.heap.size ≤ mE) (hs : w0.heap.size ≤ a.heap.size) : Below w0.heap.size a b :=
  h.below hs fun k hk hm => by rcases hm with h | h <;> omega

end Go.Proofs.YtlokljaeknmdpaaGreat

/-! ## Same -/
namespace Go.Proofs.YtlokljaeknmdpaaGreat
open Go.RowKit Go.Shelf Go.Proofs

/-- a comparison's answer -/
def SameB {α : Type} (x y : List α) (w : World) (e : Ending) (w' : World) : Prop := ∃ b, e = .returned (.bool b) ∧ (x = y → b = true) ∧ Below w.heap.size w w'

theorem slAt_at {α : Type} [Inhabited α] {w : World} {k : Nat} {enc : α → List Value} {a : Option Addr} {c n : Nat} {zs : List α} (h : SlAt w k enc (.slice a n c) zs) {i : Nat} (hi : i < zs.length) : ∃ b off, a = some ⟨b, off, none⟩ ∧ b < w.heap.size ∧ ∀ j, j < zs.length → ∀ i u, (enc zs[j]!)[i]? = some u → w.cell? ⟨b, off + j * k + i, none⟩ = some u := by
  rcases h with ⟨_, _, _, h0⟩ | ⟨b, off, c', h0, _, _, h3, h4⟩
  · rw [h0] at hi; exact absurd hi (Nat.not_lt_zero _)
  · simp at h0; exact ⟨b, off, h0.1, h3, h4⟩

theorem eq_ino (p q : Ino) (hne : p ≠ q) (w : World) : (Op.equal 62 (.agg #[.int .i64 p.id.t, .int .i64 p.id.r, .int .i64 p.kind, .int .i64 p.links, .int .i64 p.mode, .string p.data]) (.agg #[.int .i64 q.id.t, .int .i64 q.id.r, .int .i64 q.kind, .int .i64 q.links, .int .i64 q.mode, .string q.data])).run Tryz.prog w = .ok false w := by
  show (Op.equalIn (9999 + 1) 62 _ _).run Tryz.prog w = _
  have hu := Tryz.underlying2
  have hv := Tryz.underlying3
  have hs := Tryz.underlying9
  have ha := Tryz.underlying31
  obtain ⟨⟨p0, p1⟩, p2, p3, p4, p5⟩ := p
  obtain ⟨⟨q0, q1⟩, q2, q3, q4, q5⟩ := q
  simp only
  go_simp
  by_cases h0 : p0 = q0 <;> by_cases h1 : p1 = q1 <;> by_cases h2 : p2 = q2 <;> by_cases h3 : p3 = q3 <;> by_cases h4 : p4 = q4 <;> by_cases h5 : p5.toList = q5.toList
  all_goals first
    | (exfalso; exact hne (by rw [h0, h1, h2, h3, h4, toList_ext h5]))
    | simp [*]
theorem eq_ent (p q : Ent) (hne : p ≠ q) (w : World) : (Op.equal 34 (.agg #[.int .i64 p.at_.t, .int .i64 p.at_.r, .string p.name, .int .i64 p.ino.t, .int .i64 p.ino.r]) (.agg #[.int .i64 q.at_.t, .int .i64 q.at_.r, .string q.name, .int .i64 q.ino.t, .int .i64 q.ino.r])).run Tryz.prog w = .ok false w := by
  show (Op.equalIn (9999 + 1) 34 _ _).run Tryz.prog w = _
  have hu := Tryz.underlying2
  have hv := Tryz.underlying3
  have hs := Tryz.underlying9
  have ha := Tryz.underlying31
  obtain ⟨⟨p0, p1⟩, p5, p2, p3⟩ := p
  obtain ⟨⟨q0, q1⟩, q5, q2, q3⟩ := q
  simp only
  go_simp
  by_cases h0 : p0 = q0 <;> by_cases h1 : p1 = q1 <;> by_cases h2 : p2 = q2 <;> by_cases h3 : p3 = q3 <;> by_cases h5 : p5.toList = q5.toList
  all_goals first
    | (exfalso; exact hne (by rw [h0, h1, h2, h3, toList_ext h5]))
    | simp [*]

theorem neq_ino (p q : Ino) (hne : p ≠ q) (w : World) : (binOp .neq 62 (.agg #[.int .i64 p.id.t, .int .i64 p.id.r, .int .i64 p.kind, .int .i64 p.links, .int .i64 p.mode, .string p.data]) (.agg #[.int .i64 q.id.t, .int .i64 q.id.r, .int .i64 q.kind, .int .i64 q.links, .int .i64 q.mode, .string q.data])).run Tryz.prog w = .ok (.bool true) w := by
  simp only [binOp]
  simp [eq_ino p q hne w]
theorem neq_ent (p q : Ent) (hne : p ≠ q) (w : World) : (binOp .neq 34 (.agg #[.int .i64 p.at_.t, .int .i64 p.at_.r, .string p.name, .int .i64 p.ino.t, .int .i64 p.ino.r]) (.agg #[.int .i64 q.at_.t, .int .i64 q.at_.r, .string q.name, .int .i64 q.ino.t, .int .i64 q.ino.r])).run Tryz.prog w = .ok (.bool true) w := by
  simp only [binOp]
  simp [eq_ent p q hne w]

set_option maxRecDepth 100000 in
set_option maxHeartbeats 4000000 in
theorem nodes_same (v1 v2 : Value) (x y : List Ino) (w : World) (h1 : SlAt w 6 Ino.cells v1 x) (h2 : SlAt w 6 Ino.cells v2 y) (hx : x.length ≤ 100000) :
    Calls Tryz.prog 85 #[v1, v2] w (SameB x y w) := by
  obtain ⟨a1, c1, rfl⟩ := h1.len
  obtain ⟨a2, c2, rfl⟩ := h2.len
  by_cases hl : x.length = y.length
  · have e : ((x.length : Int) != (y.length : Int)) = false := by simp [hl]
    have HS1 : Hid (∀ W, Below w.heap.size w W → SlAt W 6 Ino.cells (.slice a1 x.length c1) x) := Lib.hid fun W hW => h1.below hW
    have HS2 : Hid (∀ W, Below w.heap.size w W → SlAt W 6 Ino.cells (.slice a2 y.length c2) y) := Lib.hid fun W hW => h2.below hW
    have HL := Lib.hid hl
    clear h1 h2 hl
    go_enter Tryz.func85, Tryz.ntmps85
    go_wp2
    go_loopg [5] x.length (fun gg s5 wr => ∃ k : Nat, s5 = .int .i64 k ∧ k ≤ x.length ∧ x.length - k ≤ gg ∧ Aside (Below w.heap.size w wr))
    case atStart => exact ⟨0, rfl, Nat.zero_le _, by omega, Below.refl _ _⟩
    case round =>
      obtain ⟨k, rfl, hk, hgg, hB⟩ := hrel
      by_cases hlt : k < x.length
      · have hlti : (k : Int) < (x.length : Int) := by omega
        have hlti2 : (k : Int) < (y.length : Int) := by have := HL.out; omega
        have hk0 : (0 : Int) ≤ (k : Int) := by omega
        have hwk : IntKind.i64.wrap ((k : Int) + 1) = (k : Int) + 1 := wrapNat (k + 1) (by omega)
        obtain ⟨b, off, rfl, hb, hc⟩ := slAt_at (HS1.out wr hB.out) hlt
        obtain ⟨b', off', rfl, hb', hc'⟩ := slAt_at (HS2.out wr hB.out) (i := k) (by have := HL.out; omega)
        obtain ⟨x0, x1, x2, x3, x4, x5⟩ := cellsIno hc k hlt
        obtain ⟨y0, y1, y2, y3, y4, y5⟩ := cellsIno hc' k (by have := HL.out; omega)
        clear hc hc'
        by_cases hxy : x[k]! = y[k]!
        · rw [← hxy] at y0 y1 y2 y3 y4 y5
          clear hxy
          generalize x[k]! = z at *
          go_wp2
          go_quiet (fail)
          go_wp2
          go_roundg (x.length - (k + 1))
          case measure => omega
          case rel => exact ⟨k + 1, by first | rfl | go_num, by omega, by omega, (show Aside _ from ⟨hB.out.os, hB.out.tape, hB.out.output, hB.out.size, hB.out.block⟩)⟩
        · have HNE : Hid (x ≠ y) := Lib.hid fun h => hxy (by rw [h])
          have HXY := Lib.hid hxy
          have heq := neq_ino _ _ hxy
          clear hxy
          generalize x[k]! = z at *
          generalize y[k]! = z' at *
          go_wp2
          go_region
          all_goals
            go_wp2
            go_ret
            exact ⟨false, rfl, (fun h => absurd h HNE.out), hB.out.drew⟩
      · have hlti : ¬ (k : Int) < (x.length : Int) := by omega
        go_wp2
        go_ret
        exact ⟨true, rfl, fun _ => rfl, hB.out⟩
  · have e : ((x.length : Int) != (y.length : Int)) = true := by simp; omega
    have HL := Lib.hid hl
    clear h1 h2 hl
    go_enter Tryz.func85, Tryz.ntmps85
    go_wp2
    go_ret
    exact ⟨false, rfl, fun h => absurd (by rw [h]) HL.out, Below.refl _ _⟩
set_option maxRecDepth 100000 in
set_option maxHeartbeats 4000000 in
theorem entries_same (v1 v2 : Value) (x y : List Ent) (w : World) (h1 : SlAt w 5 Ent.cells v1 x) (h2 : SlAt w 5 Ent.cells v2 y) (hx : x.length ≤ 100000) :
    Calls Tryz.prog 86 #[v1, v2] w (SameB x y w) := by
  obtain ⟨a1, c1, rfl⟩ := h1.len
  obtain ⟨a2, c2, rfl⟩ := h2.len
  by_cases hl : x.length = y.length
  · have e : ((x.length : Int) != (y.length : Int)) = false := by simp [hl]
    have HS1 : Hid (∀ W, Below w.heap.size w W → SlAt W 5 Ent.cells (.slice a1 x.length c1) x) := Lib.hid fun W hW => h1.below hW
    have HS2 : Hid (∀ W, Below w.heap.size w W → SlAt W 5 Ent.cells (.slice a2 y.length c2) y) := Lib.hid fun W hW => h2.below hW
    have HL := Lib.hid hl
    clear h1 h2 hl
    go_enter Tryz.func86, Tryz.ntmps86
    go_wp2
    go_loopg [5] x.length (fun gg s5 wr => ∃ k : Nat, s5 = .int .i64 k ∧ k ≤ x.length ∧ x.length - k ≤ gg ∧ Aside (Below w.heap.size w wr))
    case atStart => exact ⟨0, rfl, Nat.zero_le _, by omega, Below.refl _ _⟩
    case round =>
      obtain ⟨k, rfl, hk, hgg, hB⟩ := hrel
      by_cases hlt : k < x.length
      · have hlti : (k : Int) < (x.length : Int) := by omega
        have hlti2 : (k : Int) < (y.length : Int) := by have := HL.out; omega
        have hk0 : (0 : Int) ≤ (k : Int) := by omega
        have hwk : IntKind.i64.wrap ((k : Int) + 1) = (k : Int) + 1 := wrapNat (k + 1) (by omega)
        obtain ⟨b, off, rfl, hb, hc⟩ := slAt_at (HS1.out wr hB.out) hlt
        obtain ⟨b', off', rfl, hb', hc'⟩ := slAt_at (HS2.out wr hB.out) (i := k) (by have := HL.out; omega)
        obtain ⟨x0, x1, x2, x3, x4⟩ := cellsEnt hc k hlt
        obtain ⟨y0, y1, y2, y3, y4⟩ := cellsEnt hc' k (by have := HL.out; omega)
        clear hc hc'
        by_cases hxy : x[k]! = y[k]!
        · rw [← hxy] at y0 y1 y2 y3 y4
          clear hxy
          generalize x[k]! = z at *
          go_wp2
          go_quiet (fail)
          go_wp2
          go_roundg (x.length - (k + 1))
          case measure => omega
          case rel => exact ⟨k + 1, by first | rfl | go_num, by omega, by omega, (show Aside _ from ⟨hB.out.os, hB.out.tape, hB.out.output, hB.out.size, hB.out.block⟩)⟩
        · have HNE : Hid (x ≠ y) := Lib.hid fun h => hxy (by rw [h])
          have HXY := Lib.hid hxy
          have heq := neq_ent _ _ hxy
          clear hxy
          generalize x[k]! = z at *
          generalize y[k]! = z' at *
          go_wp2
          go_region
          all_goals
            go_wp2
            go_ret
            exact ⟨false, rfl, (fun h => absurd h HNE.out), hB.out.drew⟩
      · have hlti : ¬ (k : Int) < (x.length : Int) := by omega
        go_wp2
        go_ret
        exact ⟨true, rfl, fun _ => rfl, hB.out⟩
  · have e : ((x.length : Int) != (y.length : Int)) = true := by simp; omega
    have HL := Lib.hid hl
    clear h1 h2 hl
    go_enter Tryz.func86, Tryz.ntmps86
    go_wp2
    go_ret
    exact ⟨false, rfl, fun h => absurd (by rw [h]) HL.out, Below.refl _ _⟩
end Go.Proofs.YtlokljaeknmdpaaGreat

/-! ## OpA -/
namespace Go.Proofs.YtlokljaeknmdpaaGreat
open Go.RowKit Go.Shelf Go.Proofs

set_option maxRecDepth 100000 in
set_option maxHeartbeats 1000000 in
theorem fields_any (k : Int) (w : World) : Calls Tryz.prog 138 #[.int .i64 k] w fun x w' => x = .returned (.int .i64 (fieldsOf k : Nat)) ∧ Below w.heap.size w w' := by
  have hc : k = 0 ∨ k = 1 ∨ k = 2 ∨ k = 3 ∨ k = 4 ∨ k = 5 ∨ k = 6 ∨ k = 7 ∨ k = 8 ∨ k = 9 ∨ k = 10 ∨ (k < 0 ∨ 11 ≤ k) := by omega
  rcases hc with rfl | rfl | rfl | rfl | rfl | rfl | rfl | rfl | rfl | rfl | rfl | hc
  all_goals try
    go_enter Tryz.func138, Tryz.ntmps138
    go_wp2
    go_ret
    exact ⟨rfl, (Below.refl _ _).alloc (Nat.le_refl _) _⟩
  have hf : fieldsOf k = 0 := by
    unfold fieldsOf
    repeat rw [if_neg (by omega)]
  rw [hf]
  clear hf
  rcases hc with hc | hc
  · go_enter Tryz.func138, Tryz.ntmps138
    go_wp2
    go_ret
    exact ⟨rfl, (Below.refl _ _).alloc (Nat.le_refl _) _⟩
  · have hn : ¬ k < 0 := by omega
    go_enter Tryz.func138, Tryz.ntmps138
    go_wp2
    go_ret
    exact ⟨rfl, (Below.refl _ _).alloc (Nat.le_refl _) _⟩

/-- where a byte is -/
theorem indexByte_has (c : UInt8) : ∀ l : List UInt8, decide (Lib.indexByte l c ≥ 0) = l.contains c
  | [] => by simp [Lib.indexByte]
  | b :: l => by
    have ih := indexByte_has c l
    have hge := Lib.indexByte_ge l c
    unfold Lib.indexByte
    rw [List.contains_cons]
    by_cases h : b = c
    · subst h; simp
    · have h1 : (b == c) = false := beq_eq_false_iff_ne.2 h
      have h2 : (c == b) = false := beq_eq_false_iff_ne.2 fun e => h e.symm
      rw [h1, h2, Bool.false_or, ← ih]
      simp only [Bool.false_eq_true, if_false]
      by_cases h3 : Lib.indexByte l c = -1
      · rw [h3]; decide
      · have h4 : (Lib.indexByte l c == -1) = false := beq_eq_false_iff_ne.2 h3
        rw [h4]
        simp only [Bool.false_eq_true, if_false]
        rw [decide_eq_decide]; omega

set_option maxRecDepth 100000 in
set_option maxHeartbeats 1000000 in
theorem index_nul (s : ByteArray) (w : World) : Calls Tryz.prog 211 #[.string s, .string ⟨#[0]⟩] w fun x w' => (∃ k : Int, x = .returned (.int .i64 k) ∧ decide (k ≥ 0) = hasNul s) ∧ w = w' := by
  by_cases hs : s = ⟨#[0]⟩
  · subst hs
    go_enter Tryz.func211, Tryz.ntmps211
    go_wp2
    go_ret
    exact ⟨⟨0, rfl, by decide⟩, rfl⟩
  · have he : (([0] : List UInt8) == s.toList) = false := by
      have e : (⟨#[0]⟩ : ByteArray).toList = [0] := by rw [ByteArray.toList_eq]
      rw [← e, toList_inj]; exact decide_eq_false fun h => hs h.symm
    go_enter Tryz.func211, Tryz.ntmps211
    go_wp2_with (go_at_call 217; refine (indexByteLite_any _ _ _).mono ?_; rintro x w' ⟨rfl, rfl⟩)
    go_ret
    exact ⟨⟨Lib.indexByte s.data.toList 0, rfl, indexByte_has 0 _⟩, rfl⟩

set_option maxRecDepth 100000 in
set_option maxHeartbeats 1000000 in
theorem contains_nul (s : ByteArray) (w : World) : Calls Tryz.prog 177 #[.string s, .string ⟨#[0]⟩] w fun x w' => x = .returned (.bool (hasNul s)) ∧ w = w' := by
  have HI : Hid (Calls Tryz.prog 201 #[.string s, .string ⟨#[0]⟩] w fun x w' => (∃ k : Int, x = .returned (.int .i64 k) ∧ decide (k ≥ 0) = hasNul s) ∧ w = w') := Lib.hid (by
    go_enter Tryz.func201, Tryz.ntmps201
    go_wp2_with (go_at_call 211; refine (index_nul _ _).mono ?_; rintro x w' ⟨⟨k, rfl, hk⟩, rfl⟩; have HK := Lib.hid hk; clear hk)
    go_ret
    exact ⟨⟨k, rfl, HK.out⟩, rfl⟩)
  go_enter Tryz.func177, Tryz.ntmps177
  go_wp2_with (go_at_call 201; refine HI.out.mono ?_; rintro x w' ⟨⟨k, rfl, hk⟩, rfl⟩; have HK := Lib.hid hk; clear hk)
  go_ret
  exact ⟨by rw [← HK.out]; rfl, rfl⟩

set_option maxRecDepth 100000 in
set_option maxHeartbeats 1000000 in
theorem opMakes_any (o : Op) (w : World) : Calls Tryz.prog 31 #[o.v] w fun x w' => x = .returned (.int .i64 (makesOf o.kind)) ∧ Below w.heap.size w w' := by
  have hb : Below w.heap.size w (w.alloc (.cells #[.int .i64 o.stamp.t, .int .i64 o.stamp.r, .int .i64 o.kind, .int .i64 o.at_.t, .int .i64 o.at_.r, .int .i64 o.ino.t, .int .i64 o.ino.r, .int .i64 o.to.t, .int .i64 o.to.r, .string o.name, .string o.new, .int .i64 o.off, .string o.data] 47)) := (Below.refl _ _).alloc (Nat.le_refl _) _
  have HB := Lib.hid hb
  clear hb
  obtain ⟨st, kind, at_, ino, to, name, new, off, data⟩ := o
  unfold Op.v
  have hc : kind = 1 ∨ kind = 2 ∨ kind = 3 ∨ (kind ≠ 1 ∧ kind ≠ 2 ∧ kind ≠ 3) := by omega
  rcases hc with rfl | rfl | rfl | ⟨h1, h2, h3⟩
  all_goals try
    go_enter Tryz.func31, Tryz.ntmps31
    go_wp2
    go_ret
    exact ⟨rfl, HB.out⟩
  have hm : makesOf kind = 0 := by unfold makesOf; rw [if_neg h1, if_neg h2, if_neg h3]
  have e1 : (kind == 1) = false := beq_eq_false_iff_ne.2 h1
  have e2 : (kind == 2) = false := beq_eq_false_iff_ne.2 h2
  have e3 : (kind == 3) = false := beq_eq_false_iff_ne.2 h3
  simp only
  rw [hm]
  clear hm h1 h2 h3
  go_enter Tryz.func31, Tryz.ntmps31
  go_wp2
  go_ret
  exact ⟨rfl, HB.out⟩
end Go.Proofs.YtlokljaeknmdpaaGreat

/-! ## OpB -/
namespace Go.Proofs.YtlokljaeknmdpaaGreat
open Go.RowKit Go.Shelf Go.Proofs

theorem empty_size {s : ByteArray} : s.toList = [] ↔ s.size = 0 := by
  rw [ByteArray.toList_eq]
  constructor
  · intro h
    have := congrArg List.length h
    rw [Array.length_toList] at this
    exact this
  · intro h
    exact List.eq_nil_of_length_eq_zero (by rw [Array.length_toList]; exact h)

theorem wrapIn (x : Int) (h0 : 0 ≤ x) (h1 : x < 9223372036854775808) : IntKind.i64.wrap x = x := by
  obtain ⟨n, rfl⟩ := Int.eq_ofNat_of_zero_le h0
  exact wrapNat n (by omega)

set_option maxRecDepth 100000 in
set_option maxHeartbeats 1000000 in
theorem opData_any (o : Op) (w : World) (hs : o.data.size ≤ reachBytes) : Calls Tryz.prog 139 #[o.v] w fun x w' => x = .returned (.bool (dataOk o)) ∧ Below w.heap.size w w' := by
  have hb : Below w.heap.size w (w.alloc (.cells #[.int .i64 o.stamp.t, .int .i64 o.stamp.r, .int .i64 o.kind, .int .i64 o.at_.t, .int .i64 o.at_.r, .int .i64 o.ino.t, .int .i64 o.ino.r, .int .i64 o.to.t, .int .i64 o.to.r, .string o.name, .string o.new, .int .i64 o.off, .string o.data] 47)) := (Below.refl _ _).alloc (Nat.le_refl _) _
  have HB := Lib.hid hb
  clear hb
  unfold reachBytes at hs
  obtain ⟨st, kind, at_, ino, to, name, new, off, data⟩ := o
  unfold Op.v dataOk
  simp only at *
  by_cases k3 : kind = 3
  · subst k3
    by_cases h1 : data.size = 0
    · have e1 := empty_size.2 h1
      have hr : (!(data.size == 0) && (decide (data.size ≤ 32) && !hasNul data)) = false := by simp [h1]
      rw [if_pos rfl, hr]
      clear hr h1
      go_enter Tryz.func139, Tryz.ntmps139
      go_wp2
      go_ret
      exact ⟨rfl, HB.out⟩
    · have e1 : data.toList.isEmpty = false := by
        cases h : data.toList.isEmpty with
        | false => rfl
        | true => exact absurd (empty_size.1 (by simpa using h)) h1
      have e2 : ¬ data.toList = [] := fun h => h1 (empty_size.1 h)
      by_cases h2 : (data.size : Int) ≤ 32
      · have hr : (!(data.size == 0) && (decide (data.size ≤ 32) && !hasNul data)) = !hasNul data := by
          have : data.size ≤ 32 := by omega
          simp [h1, this]
        rw [if_pos rfl, hr]
        clear hr h1
        go_enter Tryz.func139, Tryz.ntmps139
        go_wp2_with (go_at_call 177; refine (contains_nul _ _).mono ?_; rintro x w' ⟨rfl, rfl⟩)
        go_ret
        exact ⟨rfl, HB.out⟩
      · have hr : (!(data.size == 0) && (decide (data.size ≤ 32) && !hasNul data)) = false := by
          have : ¬ data.size ≤ 32 := by omega
          simp [this]
        rw [if_pos rfl, hr]
        clear hr h1
        go_enter Tryz.func139, Tryz.ntmps139
        go_wp2
        go_ret
        exact ⟨rfl, HB.out⟩
  · rw [if_neg k3]
    have b3 : (kind == 3) = false := beq_eq_false_iff_ne.2 k3
    by_cases k8 : kind = 8
    · subst k8
      rw [if_pos rfl]
      clear k3 b3
      by_cases h1 : 0 ≤ off
      · by_cases h2 : off ≤ 64
        · by_cases h3 : data.size = 0
          · have e1 := empty_size.2 h3
            have hr : (decide (0 ≤ off) && (decide (off ≤ 64) && (!(data.size == 0) && decide (off + (data.size : Int) ≤ 64)))) = false := by simp [h3]
            rw [hr]
            clear hr h3
            go_enter Tryz.func139, Tryz.ntmps139
            go_wp2
            go_ret
            exact ⟨rfl, HB.out⟩
          · have e1 : data.toList.isEmpty = false := by
              cases h : data.toList.isEmpty with
              | false => rfl
              | true => exact absurd (empty_size.1 (by simpa using h)) h3
            have e2 : ¬ data.toList = [] := fun h => h3 (empty_size.1 h)
            have hr : (decide (0 ≤ off) && (decide (off ≤ 64) && (!(data.size == 0) && decide (off + (data.size : Int) ≤ 64)))) = decide (off + (data.size : Int) ≤ 64) := by simp [h3, h1, h2]
            rw [hr]
            clear hr h3
            have hw : IntKind.i64.wrap (off + (data.size : Int)) = off + (data.size : Int) := wrapIn _ (by omega) (by omega)
            go_enter Tryz.func139, Tryz.ntmps139
            go_wp2
            go_ret
            exact ⟨rfl, HB.out⟩
        · have hr : (decide (0 ≤ off) && (decide (off ≤ 64) && (!(data.size == 0) && decide (off + (data.size : Int) ≤ 64)))) = false := by simp [h2]
          rw [hr]
          clear hr
          go_enter Tryz.func139, Tryz.ntmps139
          go_wp2
          go_ret
          exact ⟨rfl, HB.out⟩
      · have hr : (decide (0 ≤ off) && (decide (off ≤ 64) && (!(data.size == 0) && decide (off + (data.size : Int) ≤ 64)))) = false := by simp [h1]
        rw [hr]
        clear hr
        go_enter Tryz.func139, Tryz.ntmps139
        go_wp2
        go_ret
        exact ⟨rfl, HB.out⟩
    · rw [if_neg k8]
      have b8 : (kind == 8) = false := beq_eq_false_iff_ne.2 k8
      by_cases k9 : kind = 9
      · subst k9
        rw [if_pos rfl]
        clear k3 b3 k8 b8 hs
        by_cases h1 : 0 ≤ off
        · rw [decide_eq_true h1, Bool.true_and]
          go_enter Tryz.func139, Tryz.ntmps139
          go_wp2
          go_ret
          exact ⟨rfl, HB.out⟩
        · rw [decide_eq_false h1, Bool.false_and]
          go_enter Tryz.func139, Tryz.ntmps139
          go_wp2
          go_ret
          exact ⟨rfl, HB.out⟩
      · rw [if_neg k9]
        have b9 : (kind == 9) = false := beq_eq_false_iff_ne.2 k9
        by_cases k10 : kind = 10
        · subst k10
          rw [if_pos rfl]
          clear k3 b3 k8 b8 k9 b9 hs
          by_cases h1 : 0 ≤ off
          · rw [decide_eq_true h1, Bool.true_and]
            go_enter Tryz.func139, Tryz.ntmps139
            go_wp2
            go_ret
            exact ⟨rfl, HB.out⟩
          · rw [decide_eq_false h1, Bool.false_and]
            go_enter Tryz.func139, Tryz.ntmps139
            go_wp2
            go_ret
            exact ⟨rfl, HB.out⟩
        · rw [if_neg k10]
          have b10 : (kind == 10) = false := beq_eq_false_iff_ne.2 k10
          clear k3 k8 k9 k10 hs
          go_enter Tryz.func139, Tryz.ntmps139
          go_wp2
          go_ret
          exact ⟨rfl, HB.out⟩
end Go.Proofs.YtlokljaeknmdpaaGreat
