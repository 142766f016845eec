/-
  What the audit's graph is; audit's there, directory; no condition.
-/
import Derived.Test.YtmnkaohhjhjciaaSl
import Derived.Test.YtmnkaohhjhjciaaCmp
namespace Go.Proofs.Ytmnkaohhjhjciaa
open Go.RowKit Go.Shelf

/-- the kind of an inode that there is -/
def kindOf (n : List Ino) (id : St) : Option Int := (n.find? fun i => decide (i.id = id)).map (·.kind)
/-- how many entries lead to an inode -/
def linksTo (e : List Ent) (id : St) : Nat := (e.filter fun x => decide (x.ino = id)).length
def intV (i : Int) : Value := .int .i64 i

/-- the audit's graph, and its maps -/
structure AuditAt (w : World) (g : Value) (n : List Ino) (e : List Ent) : Prop where
  ex : ∃ vn ve kb lb kk kl, g = .agg #[vn, ve, .map (some kb), .map (some lb)] ∧ SlAt w 6 Ino.cells vn n ∧ SlAt w 5 Ent.cells ve e ∧ MapAt w kb St.v intV kk ∧ MapAt w lb St.v intV kl ∧
    (∀ id, getKV id kk = kindOf n id) ∧ (∀ id, (getKV id kl).getD 0 = (linksTo e id : Int)) ∧ kb < w.heap.size ∧ lb < w.heap.size

theorem MapAt.below {K V : Type} {w w' : World} {b B : Nat} {enc : K → Value} {encV : V → Value} {kv : List (K × V)} (h : MapAt w b enc encV kv) (hb : Below B w w') (hB : b < B) : MapAt w' b enc encV kv := by
  obtain ⟨es, ck, h1, h2, h3⟩ := h
  exact ⟨es, ck, (hb.block b hB).trans h1, h2, h3⟩

theorem AuditAt.below {w w' : World} {g : Value} {n : List Ino} {e : List Ent} (h : AuditAt w g n e) (hb : Below w.heap.size w w') : AuditAt w' g n e := by
  obtain ⟨vn, ve, kb, lb, kk, kl, h1, h2, h3, h4, h5, h6, h7, h8, h9⟩ := h.ex
  exact ⟨vn, ve, kb, lb, kk, kl, h1, h2.below hb, h3.below hb, h4.below hb h8, h5.below hb h9, h6, h7, Nat.lt_of_lt_of_le h8 hb.size, Nat.lt_of_lt_of_le h9 hb.size⟩

theorem cell_new (w : World) (b : Nat) (hb : b = w.heap.size) (cs : Array Value) (t : TypeId) (i : Nat) (v : Value) (h : cs[i]? = some v) : (w.alloc (.cells cs t)).cell? ⟨b, i, none⟩ = some v := by
  subst hb
  have e := World.alloc_heap_new w (.cells cs t)
  unfold World.cell?
  simp only [e]
  simpa using h
theorem getD_look (o : Option Int) : lookV intV (.int .i64 0) o = .int .i64 (o.getD 0) := by cases o <;> rfl

set_option maxRecDepth 100000 in
set_option maxHeartbeats 400000 in
theorem there_any (g : Value) (n : List Ino) (e : List Ent) (id : St) (w : World) (h : AuditAt w g n e) :
    Calls Try.prog 79 #[g, id.v] w fun x w' => x = .returned (.bool (kindOf n id).isSome) ∧ Below w.heap.size w w' := by
  obtain ⟨vn, ve, kb, lb, kk, kl, rfl, _, _, hk, _, h6, _, h8, _⟩ := h.ex
  have hl : ∀ W, Below w.heap.size w W → (Instr.lookup 81 (.map (some kb)) (.agg #[.int .i64 id.t, .int .i64 id.r]) true).run Try.prog W = .ok (.tuple #[.int .i64 ((kindOf n id).getD 0), .bool (kindOf n id).isSome]) W := fun W hW => by
    have := (run_lookup_kv (w := W) keySt Try.underlying81 Try.zeroValue3 (hk.below hW h8) id).1
    rw [getD_look, h6] at this
    exact this
  have hl2 := hl ((w.alloc (.cells #[vn, ve, .map (some kb), .map (some lb)] 83)).alloc (.cells #[.int .i64 id.t, .int .i64 id.r] 29)) (((Below.refl _ w).alloc (Nat.le_refl _) _).alloc (by simp) _)
  clear hl hk
  unfold St.v
  go_enter Try.func79, Try.ntmps79
  go_wp2
  go_ret
  exact ⟨rfl, ((Below.refl _ w).alloc (Nat.le_refl _) _).alloc (by simp) _⟩

set_option maxRecDepth 100000 in
set_option maxHeartbeats 400000 in
theorem directory_any (g : Value) (n : List Ino) (e : List Ent) (id : St) (w : World) (h : AuditAt w g n e) :
    Calls Try.prog 80 #[g, id.v] w fun x w' => x = .returned (.bool (decide (kindOf n id = some 1))) ∧ Below w.heap.size w w' := by
  have H := h
  obtain ⟨vn, ve, kb, lb, kk, kl, rfl, _, _, hk, _, h6, _, h8, _⟩ := h.ex
  have hb1 : Below w.heap.size w ((w.alloc (.cells #[vn, ve, .map (some kb), .map (some lb)] 83)).alloc (.cells #[.int .i64 id.t, .int .i64 id.r] 29)) := ((Below.refl _ w).alloc (Nat.le_refl _) _).alloc (by simp) _
  have ht := there_any _ n e id _ (H.below hb1)
  have hl : ∀ W, Below w.heap.size w W → (Instr.lookup 81 (.map (some kb)) (.agg #[.int .i64 id.t, .int .i64 id.r]) false).run Try.prog W = .ok (.int .i64 ((kindOf n id).getD 0)) W := fun W hW => by
    have := (run_lookup_kv (w := W) keySt Try.underlying81 Try.zeroValue3 (hk.below hW h8) id).2
    rw [getD_look, h6] at this
    exact this
  have HL := Lib.hid hl
  have HB := Lib.hid hb1
  clear hl hk H h hb1
  unfold St.v
  change Calls Try.prog 79 #[_, .agg #[.int .i64 id.t, .int .i64 id.r]] _ _ at ht
  go_enter Try.func80, Try.ntmps80
  cases ho : kindOf n id with
  | none =>
    rw [ho] at ht HL
    go_wp2_with (go_at_call 79; refine ht.mono ?_; rintro x w' ⟨rfl, hb'⟩)
    go_ret
    exact ⟨by simp, HB.out.trans (hb'.mono HB.out.size)⟩
  | some k =>
    rw [ho] at ht HL
    simp only [Option.getD_some] at HL
    have hk2 : (k == 1) = decide (some k = some (1 : Int)) := by rw [Bool.eq_iff_iff]; simp
    have HK := Lib.hid hk2
    clear hk2
    go_wp2_with (go_at_call 79; refine ht.mono ?_; rintro x w' ⟨rfl, hb'⟩; have HB' := Lib.hid hb'; have hll := HL.out w' (HB.out.trans (hb'.mono HB.out.size)); have c2 : w'.cell? ⟨w.heap.size, 2, none⟩ = some (.map (some kb)) := (hb'.cell (p := ⟨w.heap.size, 2, none⟩) (by simp only [World.size_alloc]; omega)).trans (Lib.cell?_alloc_some _ (cell_new w _ rfl _ _ 2 _ rfl)); have d0 : w'.cell? ⟨w.heap.size + 1, 0, none⟩ = some (.int .i64 id.t) := (hb'.cell (p := ⟨w.heap.size + 1, 0, none⟩) (by simp only [World.size_alloc]; omega)).trans (cell_new _ _ (by simp) _ _ 0 _ rfl); have d1 : w'.cell? ⟨w.heap.size + 1, 1, none⟩ = some (.int .i64 id.r) := (hb'.cell (p := ⟨w.heap.size + 1, 1, none⟩) (by simp only [World.size_alloc]; omega)).trans (cell_new _ _ (by simp) _ _ 1 _ rfl); clear hb')
    go_ret
    exact ⟨by rw [HK.out]; rfl, HB.out.trans (HB'.out.mono HB.out.size)⟩
end Go.Proofs.Ytmnkaohhjhjciaa
