/-
  audit.Reach; condition: that of audit.made.
-/
import Derived.Test.YtmnkaohhjhjciaaSort
import Derived.Test.YtmnkaohhjhjciaaRange
import Derived.Test.YtmnkaohhjhjciaaWithout
namespace Go.Proofs.Ytmnkaohhjhjciaa
open Go.RowKit Go.Shelf

theorem infoSt : (Try.prog.info? 29).map (fun i => (i.zero, i.size, i.bytes)) = some (some (.agg #[.int .i64 0, .int .i64 0]), 2, 16) := by kernel_rfl

theorem ownsRow_heap {W W' : World} {base : Nat} {t : TypeId} {size : Nat} {v : Value} {k : Nat} {xs : List Value} (h : W.ownsRow base t size v k xs) (hb : ∀ j, base ≤ j → W'.heap[j]? = W.heap[j]?) : W'.ownsRow base t size v k xs := by
  refine ⟨h.1, ?_⟩
  rcases h.2 with h0 | ⟨g, cap, cur, hv, hg, hh, rest⟩
  · exact .inl h0
  · exact .inr ⟨g, cap, cur, hv, hg, (hb g hg).trans hh, rest⟩

theorem cells_new' (w : World) (x : St) (o : Obj) : ∀ j u, x.cells[j]? = some u → ((w.alloc o).alloc (.cells #[.int .i64 x.t, .int .i64 x.r] 29)).cell? ((⟨w.heap.size + 1, 0, none⟩ : Addr).add j) = some u := by
  intro j u hj
  rw [Addr.add_lit, Nat.zero_add]
  exact cell_new (w.alloc o) _ (by simp) _ _ j u (by simpa [St.cells] using hj)

set_option maxRecDepth 100000 in
set_option maxHeartbeats 4000000 in
theorem reachList_any (vn ve : Value) (n : List Ino) (e : List Ent) (w : World) (hn : SlAt w 6 Ino.cells vn n) (he : SlAt w 5 Ent.cells ve e) (h1 : n.length ≤ 1000) (h2 : e.length ≤ 1000) :
    Calls Try.prog 15 #[vn, ve] w fun x w' => ∃ v zs, x = .returned v ∧ SlAt w' 2 St.cells v zs ∧ (∀ id, id ∈ zs ↔ Reached n e id) ∧ zs.Nodup ∧ Rising zs ∧ zs.length ≤ 1001 ∧ Below w.heap.size w w' := by
  have hmade := made_any vn ve n e w hn he h1 h2
  have HRE : Hid (∀ W g, AuditAt W g n e → Calls Try.prog 46 #[g] W fun x w' => ∃ sb kv, x = .returned (.map (some sb)) ∧ W.heap.size ≤ sb ∧ sb < w'.heap.size ∧ MapAt w' sb St.v boolV kv ∧ SeenOk n e kv ∧ SeenAll n e kv ∧ Below W.heap.size W w') := Lib.hid fun W g h => reach_any g n e W h h2
  have H2 := Lib.hid h2
  obtain ⟨i0, hinf, hz0, hz1, hz2⟩ := info_parts infoSt
  clear hn he h1 h2
  go_enter Try.func15, Try.ntmps15
  go_wp2_with (first
    | (go_at_call 46; refine (HRE.out w1 g HA.out).mono ?_; rintro x w2 ⟨sb, kv, rfl, hs1, hs2, hm, h3, h4, hb⟩; have HB2 := Lib.hid (HB1.out.trans (hb.mono HB1.out.size)); obtain ⟨w3, hrun, hN3, hR3⟩ := run_range_kv (P := Try.prog) Try.underlying80 hm; have HN3 := Lib.hid hN3; have HR3 := Lib.hid hR3; have H3 := Lib.hid h3; have H4 := Lib.hid h4; have HS2 := Lib.hid hs2; clear hm hb hN3 hR3 h3 h4 hs1 hs2)
    | (go_at_call 45; refine hmade.mono ?_; rintro x w1 ⟨g, rfl, hA, hb⟩; have HB1 := Lib.hid hb; have HA := Lib.hid hA; clear hA hb))
  have HB3 : Hid (Below w.heap.size w w3) := Lib.hid (HB2.out.trans (HN3.out.below.mono HB2.out.size))
  have HRS : Hid (w2.heap.size < w3.heap.size ∧ sb < w2.heap.size) := Lib.hid ⟨by obtain ⟨_, _, _, _, hi⟩ := HR3.out.iter; exact (Array.getElem?_eq_some_iff.1 hi).1, HS2.out⟩
  have HKV : Hid (kv.length ≤ 1001) := Lib.hid (by have := H3.out.len; have := H2.out; omega)
  clear hrun hmade
  go_loopg [5] (kv.length + 1) (fun gg s5 wr => ∃ (took : List (St × Bool)) (k : Nat), k + 1 ≤ gg ∧ took.length + k = kv.length ∧ Aside (RangeAt wr w2.heap.size sb St.v boolV kv took k) ∧ Aside (wr.ownsRow w3.heap.size 29 2 s5 took.length ((took.map (·.1)).flatMap St.cells)) ∧ Aside (Below w.heap.size w wr ∧ w3.heap.size ≤ wr.heap.size))
  case atStart => exact ⟨[], kv.length, by omega, by simp, HR3.out, (show Aside _ from World.ownsRow_nil _ _ _ _), (show Aside _ from ⟨HB3.out, Nat.le_refl _⟩)⟩
  case round =>
    obtain ⟨took, k, hgg, hlen, hR, hrow, hB⟩ := hrel
    cases k with
    | zero =>
      obtain ⟨hp, _⟩ := run_next_done (P := Try.prog) hR.out 0
      have hnx' : ∀ ty, (Instr.next (.pointer (some ⟨w2.heap.size, 0, none⟩)) false ty).run Try.prog wr = .ok (.tuple #[.bool false]) wr := fun ty => (run_next_done (P := Try.prog) hR.out ty).2
      have HP := Lib.hid hp
      have hso := sortSt_any w3.heap.size u5 (took.map (·.1)) wr (by rw [List.length_map]; exact hrow.out) (by rw [List.length_map]; have := HKV.out; omega)
      clear hp
      go_wp2_with (go_at_call 47; refine hso.mono ?_; rintro x w4 ⟨rfl, zs, hz1', hz2', hz3', hz4'⟩; have HZ1 := Lib.hid hz1'; have HZ2 := Lib.hid hz2'; have HZ3 := Lib.hid hz3'; have HZ4 := Lib.hid hz4'; clear hz1' hz2' hz3' hz4')
      go_ret
      refine ⟨u5, zs, rfl, HZ3.out, ?_, ?_, HZ2.out, ?_, hB.out.1.trans (HZ4.out.mono (Nat.le_trans HB3.out.size (Nat.le_refl _)))⟩
      · intro id
        rw [← H3.out.all H4.out id, hasK_mem H3.out.tr, HZ1.out.mem_iff, (HP.out.map (·.1)).mem_iff]
      · exact (HZ1.out.trans (HP.out.map (·.1))).nodup_iff.2 H3.out.nodup
      · rw [HZ1.out.length_eq, List.length_map]; have := HKV.out; omega
    | succ k =>
      obtain ⟨p, d, o, hnx, ho, hen, hR2⟩ := run_next_step (P := Try.prog) hR.out
      have hne : w2.heap.size ≠ sb := by have := HRS.out; omega
      have hen' := hen hne
      have hR2' := hR2 hne
      obtain ⟨W2, hW2⟩ : ∃ W2, W2 = (wr.drewN d).putObj w2.heap.size o := ⟨_, rfl⟩
      rw [← hW2] at hnx hen' hR2'
      unfold St.v boolV at hen'
      have HR2 := Lib.hid hR2'
      have HW2 := Lib.hid hW2
      have hsz2 : W2.heap.size = wr.heap.size := by rw [hW2]; simp [World.drewN]
      have HB2' : Hid (Below w.heap.size w W2) := Lib.hid (by
        rw [hW2]
        have h := hB.out.1
        exact ⟨h.os, h.tape, h.output, by simpa [World.drewN] using h.size, fun j hj => (World.putObj_heap_other (by have := HB2.out.size; omega)).trans (h.block j hj)⟩)
      have HRW : Hid (W2.ownsRow w3.heap.size 29 2 u5 took.length ((took.map (·.1)).flatMap St.cells)) := Lib.hid (ownsRow_heap hrow.out fun j hj => by
        rw [hW2]; exact World.putObj_heap_other (by have := HRS.out; omega))
      have HSZ2 := Lib.hid hsz2
      clear hen hR2 hR2' ho hW2 hsz2
      go_wp2_with (at_builtin; refine wpList_append_own _ rfl _ _ 34 rfl w3.heap.size 29 i0 _ 2 16 Try.underlying34 hinf hz0 hz1 hz2 rfl (by decide) _ _ _ rfl ((HRW.out.alloc _).alloc _) ⟨W2.heap.size + 1, 0, none⟩ 1 1 p.1.cells rfl rfl (cells_new' W2 p.1 _) (by intro u hu; simp [St.cells] at hu; rcases hu with rfl | rfl <;> rfl) (by have := HKV.out; simp only [maxLen]; omega) (by have := HKV.out; omega) (by have := HSZ2.out; have := hB.out.2; simp only [World.size_alloc]; omega) ?_; intro v' w5 hown' hgrow _; have HO := Lib.hid hown'; have HG := Lib.hid hgrow; clear hown' hgrow)
      go_roundg (k + 1)
      case measure => omega
      case rel =>
        have hge := fun j (hj : u5.ownBlock = some j) => rowGe HRW.out hj
        have hz := HSZ2.out
        have hz3 := hB.out.2
        have hr3 := HRS.out
        have hk5 : ∀ j, j < w3.heap.size → w5.heap[j]? = W2.heap[j]? := fun j hj => by
          rw [HG.out.block j (by simp only [World.size_alloc]; omega) (fun ej => by have := hge j ej.symm; omega)]
          rw [Below.heap_alloc _ _ _ (by simp only [World.size_alloc]; omega), Below.heap_alloc _ _ _ (by omega)]
        have hs5 : W2.heap.size ≤ w5.heap.size := by have := HG.out.size; simp only [World.size_alloc] at this; omega
        refine ⟨took ++ [p], k, Nat.le_refl _, by simp; omega, (show Aside _ from HR2.out.kept (hk5 _ (by omega)) (hk5 _ (by omega))), (show Aside _ from ?_), (show Aside _ from ⟨?_, by omega⟩)⟩
        · have h := HO.out
          exact (by simpa using h : w5.ownsRow w3.heap.size 29 2 v' (took ++ [p]).length (((took ++ [p]).map (·.1)).flatMap St.cells))
        · have h := HB2'.out
          have hgo := HG.out
          exact ⟨hgo.os.trans h.os, hgo.tape.trans h.tape, hgo.output.trans h.output, Nat.le_trans h.size hs5, fun j hj => (hk5 j (by have := HB3.out.size; omega)).trans (h.block j hj)⟩
end Go.Proofs.Ytmnkaohhjhjciaa
