/-
  graph.Entries: the graph's entries, rising, in a slice of the call's own; condition: at most 1000 of them.
-/
import Derived.Test.YtlokljaeknmdpaaGreatQInodes
import Derived.Test.YtlokljaeknmdpaaGreatQReach
namespace Go.Proofs.YtlokljaeknmdpaaGreat
open Go.RowKit Go.Shelf

theorem cells_third (w : World) (o o' : Obj) (cs : List Value) (t : TypeId) : ∀ j u, cs[j]? = some u → (((w.alloc o).alloc o').alloc (.cells cs.toArray t)).cell? ((⟨w.heap.size + 1 + 1, 0, none⟩ : Addr).add j) = some u := by
  intro j u hj
  rw [Addr.add_lit, Nat.zero_add]
  exact cell_new ((w.alloc o).alloc o') _ (by simp) _ _ j u (by simpa using hj)

def entOf (p : Pl × St) : Ent := ⟨p.1.at_, p.1.name, p.2⟩
theorem entOf_kv (l : List Ent) : (entsKV l).map entOf = l := by
  unfold entsKV
  rw [List.map_map]
  exact List.map_id l

set_option maxRecDepth 100000 in
set_option maxHeartbeats 2000000 in
theorem entries_any (gb mI mE : Nat) (g : Gr) (w : World) (h : GrAt w gb mI mE g) (hs : RisesE g.e) (hl : g.e.length ≤ 1000) :
    Calls Tryz.prog 23 #[.pointer (some ⟨gb, 0, none⟩)] w fun e w' => ∃ v : Value, e = .returned v ∧ w'.ownsRow w.heap.size 34 5 v g.e.length (g.e.flatMap Ent.cells) ∧ Below w.heap.size w w' := by
  obtain ⟨i0, hinf, hz0, hz1, hz2⟩ := info_parts infoEnt
  obtain ⟨c0, c1⟩ := h.cells
  have hlt := h.lt.1
  have hmE := h.lt.2.2
  obtain ⟨kv, hm, hp⟩ := h.ents
  have hkl : kv.length ≤ 1000 := by rw [hp.length_eq]; simp [entsKV]; exact hl
  obtain ⟨w3, hrun, hN3, hR3⟩ := run_range_kv (P := Tryz.prog) Tryz.underlying90 hm
  have hpl : ∀ took : List (Pl × St), took.Perm kv → ((took.map entOf).map Ent.pl).Nodup := by
    intro took ht
    have e : (took.map entOf).map Ent.pl = took.map (·.1) := by rw [List.map_map]; rfl
    rw [e, ((ht.trans hp).map _).nodup_iff, entsKV_keys]
    exact hs.nodup strictPl
  have hfin : ∀ took : List (Pl × St), took.Perm kv → ∀ xs : List Ent, xs.Perm (took.map entOf) → RisesE xs → xs = g.e := by
    intro took ht xs hx hr
    refine RisesK.eq strictPl hr hs (hx.trans ?_)
    have := (ht.trans hp).map entOf
    rw [entOf_kv] at this
    exact this
  have HPL := Lib.hid hpl
  have HFIN := Lib.hid hfin
  have HN3 := Lib.hid hN3
  have HR3 := Lib.hid hR3
  have HKV := Lib.hid hkl
  have HRS : Hid (w.heap.size < w3.heap.size ∧ mE < w.heap.size) := Lib.hid ⟨by obtain ⟨_, _, _, _, hi⟩ := HR3.out.iter; exact (Array.getElem?_eq_some_iff.1 hi).1, hmE⟩
  clear hpl hfin hm hp hN3 hR3 h hs hl hkl c0 hmE
  go_enter Tryz.func23, Tryz.ntmps23
  go_wp2
  clear hrun
  go_loopg [3] (kv.length + 1) (fun gg s3 wr => ∃ (took : List (Pl × St)) (k : Nat), k + 1 ≤ gg ∧ took.length + k = kv.length ∧ Aside (RangeAt wr w.heap.size mE Pl.v St.v kv took k) ∧ Aside (wr.ownsRow w3.heap.size 34 5 s3 took.length ((took.map entOf).flatMap Ent.cells)) ∧ Aside (Below w.heap.size w wr ∧ w3.heap.size ≤ wr.heap.size))
  case atStart => exact ⟨[], kv.length, by omega, by simp, HR3.out, (show Aside _ from World.ownsRow_nil _ _ _ _), (show Aside _ from ⟨HN3.out.below, Nat.le_refl _⟩)⟩
  case round =>
    obtain ⟨took, k, hgg, hlen, hR, hrow, hB⟩ := hrel
    cases k with
    | zero =>
      obtain ⟨hp, _⟩ := run_next_done (P := Tryz.prog) hR.out 0
      have hnx' : ∀ ty, (Instr.next (.pointer (some ⟨w.heap.size, 0, none⟩)) false ty).run Tryz.prog wr = .ok (.tuple #[.bool false]) wr := fun ty => (run_next_done (P := Tryz.prog) hR.out ty).2
      have HP := Lib.hid hp
      have hso := sortEnt_any w3.heap.size u3 (took.map entOf) wr (by rw [List.length_map]; exact hrow.out) (by rw [List.length_map]; have := HKV.out; omega) (HPL.out took hp)
      clear hp
      go_wp2_with (go_at_call 76; refine hso.mono ?_; rintro x w4 ⟨rfl, zs, hz1', hz2', hz3', hz4', _⟩; have HZ1 := Lib.hid hz1'; have HZ2 := Lib.hid hz2'; have HZ3 := Lib.hid hz3'; have HZ4 := Lib.hid hz4'; clear hz1' hz2' hz3' hz4')
      go_ret
      have e := HFIN.out took HP.out zs HZ1.out HZ2.out
      subst e
      exact ⟨u3, rfl, ownsRow_mono HZ3.out (Nat.le_of_lt HRS.out.1), hB.out.1.trans (HZ4.out.mono (Nat.le_of_lt HRS.out.1))⟩
    | succ k =>
      obtain ⟨p, d, o, hnx, ho, hen, hR2⟩ := run_next_step (P := Tryz.prog) hR.out
      have hne : w.heap.size ≠ mE := by have := HRS.out; omega
      have hen' := hen hne
      have hR2' := hR2 hne
      obtain ⟨W2, hW2⟩ : ∃ W2, W2 = (wr.drewN d).putObj w.heap.size o := ⟨_, rfl⟩
      rw [← hW2] at hnx hen' hR2'
      unfold St.v Pl.v at hen'
      have HR2 := Lib.hid hR2'
      have hsz2 : W2.heap.size = wr.heap.size := by rw [hW2]; simp [World.drewN]
      have HB2' : Hid (Below w.heap.size w W2) := Lib.hid (by
        rw [hW2]
        have h := hB.out.1
        exact ⟨h.os, h.tape, h.output, by simpa [World.drewN] using h.size, fun j hj => (World.putObj_heap_other (by omega)).trans (h.block j hj)⟩)
      have HRW : Hid (W2.ownsRow w3.heap.size 34 5 u3 took.length ((took.map entOf).flatMap Ent.cells)) := Lib.hid (ownsRow_heap hrow.out fun j hj => by
        rw [hW2]; exact World.putObj_heap_other (by have := HRS.out; omega))
      have HSZ2 := Lib.hid hsz2
      clear hen hR2 hR2' ho hW2 hsz2
      go_wp2_with (at_builtin; refine wpList_append_own _ rfl _ _ 24 rfl w3.heap.size 34 i0 _ 5 48 Tryz.underlying24 hinf hz0 hz1 hz2 rfl (by decide) _ _ _ rfl (((HRW.out.alloc _).alloc _).alloc _) ⟨W2.heap.size + 1 + 1, 0, none⟩ 1 1 (entOf p).cells rfl rfl (cells_third W2 _ _ (entOf p).cells _) (Ent.one (entOf p)) (by have := HKV.out; simp only [maxLen]; omega) (by have := HKV.out; omega) (by have := HSZ2.out; have := hB.out.2; simp only [World.size_alloc]; omega) ?_; intro v' w5 hown' hgrow _; have HO := Lib.hid hown'; have HG := Lib.hid hgrow; clear hown' hgrow)
      go_roundg (k + 1)
      case measure => omega
      case rel =>
        have hge := fun j (hj : u3.ownBlock = some j) => rowGe HRW.out hj
        have hz := HSZ2.out
        have hz3 := hB.out.2
        have hr3 := HRS.out
        have hk5 : ∀ j, j < w3.heap.size → w5.heap[j]? = W2.heap[j]? := fun j hj => by
          rw [HG.out.block j (by simp only [World.size_alloc]; omega) (fun ej => by have := hge j ej.symm; omega)]
          rw [Below.heap_alloc _ _ _ (by simp only [World.size_alloc]; omega), Below.heap_alloc _ _ _ (by simp only [World.size_alloc]; omega), Below.heap_alloc _ _ _ (by omega)]
        have hs5 : W2.heap.size ≤ w5.heap.size := by have := HG.out.size; simp only [World.size_alloc] at this; omega
        refine ⟨took ++ [p], k, Nat.le_refl _, by simp; omega, (show Aside _ from HR2.out.kept (hk5 _ (by omega)) (hk5 _ (by omega))), (show Aside _ from ?_), (show Aside _ from ⟨?_, by omega⟩)⟩
        · have h := HO.out
          exact (by simpa using h : w5.ownsRow w3.heap.size 34 5 v' (took ++ [p]).length (((took ++ [p]).map entOf).flatMap Ent.cells))
        · have h := HB2'.out
          have hgo := HG.out
          exact ⟨hgo.os.trans h.os, hgo.tape.trans h.tape, hgo.output.trans h.output, Nat.le_trans h.size hs5, fun j hj => (hk5 j (by omega)).trans (h.block j hj)⟩

set_option maxRecDepth 100000 in
set_option maxHeartbeats 400000 in
theorem entries_nil (w : World) : Calls Tryz.prog 23 #[.pointer none] w fun e w' => e = .returned (.slice none 0 0) ∧ w' = w := by
  go_enter Tryz.func23, Tryz.ntmps23
  go_wp2
  go_ret
  exact ⟨rfl, rfl⟩
end Go.Proofs.YtlokljaeknmdpaaGreat
