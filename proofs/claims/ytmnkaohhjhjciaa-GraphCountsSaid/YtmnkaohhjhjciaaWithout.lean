/-
  thimblelaw10.without; condition: at most 1000 entries, and one of them.
-/
import Derived.Test.YtmnkaohhjhjciaaApp
import Derived.Test.YtmnkaohhjhjciaaAudJ
namespace Go.Proofs.Ytmnkaohhjhjciaa
open Go.RowKit Go.Shelf

theorem infoEnt : (Try.prog.info? 33).map (fun i => (i.zero, i.size, i.bytes)) = some (some (.agg #[.int .i64 0, .int .i64 0, .string ⟨#[]⟩, .int .i64 0, .int .i64 0]), 5, 48) := by kernel_rfl

theorem rowGe {W : World} {base : Nat} {t : TypeId} {size : Nat} {v : Value} {k : Nat} {xs : List Value} (h : W.ownsRow base t size v k xs) {j : Nat} (hj : v.ownBlock = some j) : base ≤ j := by
  rcases h.2 with ⟨rfl, _⟩ | ⟨g, cap, cur, rfl, hg, _⟩
  · simp [Value.ownBlock] at hj
  · simp [Value.ownBlock] at hj; omega

set_option maxRecDepth 100000 in
set_option maxHeartbeats 2000000 in
theorem without_any (v : Value) (zs : List Ent) (k : Nat) (hk : k < zs.length) (w : World) (h : SlAt w 5 Ent.cells v zs) (hz : zs.length ≤ 1000) :
    Calls Try.prog 14 #[v, .int .i64 k] w fun x w' => ∃ v', x = .returned v' ∧ SlAt w' 5 Ent.cells v' (zs.take k ++ zs.drop (k + 1)) ∧ Below w.heap.size w w' := by
  obtain ⟨i0, hinf, hz0, hz1, hz2⟩ := info_parts infoEnt
  obtain ⟨b, off, c, rfl, hlc, hcm, hb, hc⟩ : ∃ b off c, v = .slice (some ⟨b, off, none⟩) zs.length c ∧ zs.length ≤ c ∧ c ≤ maxLen ∧ b < w.heap.size ∧ ∀ j, j < zs.length → ∀ i u, (Ent.cells zs[j]!)[i]? = some u → w.cell? ⟨b, off + j * 5 + i, none⟩ = some u := by
    rcases h with ⟨_, _, _, rfl⟩ | h
    · simp at hk
    · exact h
  have HC := Lib.hid hc
  clear hc
  have HN1 : Hid (∀ j u, ((zs.take k).flatMap Ent.cells)[j]? = some u → (w.alloc (.cells #[] 33)).cell? ((⟨b, off, none⟩ : Addr).add j) = some u) := Lib.hid fun j u hu => by
    rw [Addr.add_lit]
    refine Lib.cell?_alloc_some _ ?_
    have := SlAt.news (k := 5) (enc := Ent.cells) (fun _ => rfl) (by omega) HC.out 0 k j u hu
    simpa using this
  have b1 : (0 : Int) ≤ (k : Int) := by omega
  have b2 : (k : Int) ≤ (c : Int) := by omega
  have b3 : (k : Int) + 1 ≤ (zs.length : Int) := by omega
  have b4 : (0 : Int) ≤ (k : Int) + 1 := by omega
  have b5 : (zs.length : Int) ≤ (c : Int) := by omega
  have hw := wrapNat (k + 1) (by omega)
  have hw' : IntKind.i64.wrap ((k : Int) + 1) = (k : Int) + 1 := hw
  clear hw
  by_cases hcc : c = k + 1
  · subst hcc
    have b6 : (k : Int) ≤ (k : Int) + 1 := by omega
    have b7 : (zs.length : Int) ≤ (k : Int) + 1 := by omega
    clear b2 b5
    go_enter Try.func14, Try.ntmps14
    go_wp2_with (first
      | (at_builtin; refine wpList_append_own _ rfl _ _ 23 rfl w.heap.size 33 i0 _ 5 48 Try.underlying23 hinf hz0 hz1 hz2 rfl (by decide) _ k ((zs.take k).flatMap Ent.cells) rfl HR1.out ⟨b, off, none⟩ 0 _ [] rfl rfl (by simp) (by simp) (by simp only [maxLen]; omega) (by omega) (by have := HB1.out.size; omega) ?_; intro v2 w2 hown2 hgrow2 _; have HR2 := Lib.hid hown2; have HB2 : Hid (Below w.heap.size w w2) := Lib.hid (HB1.out.grown hgrow2 HB1.out.size (fun j ej => rowGe HR1.out ej)); clear hown2 hgrow2)
      | (at_builtin; refine wpList_append_own _ rfl _ _ 23 rfl w.heap.size 33 i0 _ 5 48 Try.underlying23 hinf hz0 hz1 hz2 rfl (by decide) _ 0 [] rfl (World.ownsRow_made w #[] 0 (Nat.le_refl _) (by decide) rfl) ⟨b, off, none⟩ k _ ((zs.take k).flatMap Ent.cells) rfl (by rw [flatMap_len Ent.cells 5 (fun _ => rfl), List.length_take, Nat.min_eq_left (by omega)]) HN1.out (one_flat Ent.one _) (by simp only [maxLen]; omega) (by omega) (by simp) ?_; intro v1 w1 hown1 hgrow1 _; have HR1 : Hid (w1.ownsRow w.heap.size 33 5 v1 k ((zs.take k).flatMap Ent.cells)) := Lib.hid (by simpa only [Nat.zero_add, List.nil_append] using hown1); have HB1 : Hid (Below w.heap.size w w1) := Lib.hid (((Below.refl _ w).alloc (Nat.le_refl _) _).grown hgrow1 (by simp) (fun j ej => by cases ej; exact Nat.le_refl _)); clear hown1 hgrow1))
    go_ret
    refine ⟨_, rfl, SlAt.of_row (fun _ => rfl) (t := 33) (B := w.heap.size) ?_, HB2.out⟩
    rw [List.drop_of_length_le hlc, List.append_nil, List.length_take, Nat.min_eq_left (by omega)]
    have h := HR2.out
    simp only [Nat.add_zero, List.append_nil] at h
    exact h
  · have HN2 : Hid (∀ W, Below w.heap.size w W → ∀ j u, ((zs.drop (k + 1)).flatMap Ent.cells)[j]? = some u → W.cell? ((⟨b, off + (k + 1) * 5, none⟩ : Addr).add j) = some u) := Lib.hid fun W hW j u hu => by
      rw [Addr.add_lit]
      refine (hW.cell (p := ⟨b, _, none⟩) hb).trans ?_
      refine SlAt.news (k := 5) (enc := Ent.cells) (fun _ => rfl) (by omega) HC.out (k + 1) zs.length j u ?_
      rw [List.take_of_length_le (by simp)]
      exact hu
    go_enter Try.func14, Try.ntmps14
    go_wp2_with (first
      | (at_builtin; refine wpList_append_own _ rfl _ _ 23 rfl w.heap.size 33 i0 _ 5 48 Try.underlying23 hinf hz0 hz1 hz2 rfl (by decide) _ k ((zs.take k).flatMap Ent.cells) rfl HR1.out ⟨b, off + (k + 1) * 5, none⟩ (zs.length - (k + 1)) _ ((zs.drop (k + 1)).flatMap Ent.cells) rfl (by rw [flatMap_len Ent.cells 5 (fun _ => rfl), List.length_drop]) (HN2.out _ HB1.out) (one_flat Ent.one _) (by simp only [maxLen]; omega) (by omega) (by have := HB1.out.size; omega) ?_; intro v2 w2 hown2 hgrow2 _; have HR2 := Lib.hid hown2; have HB2 : Hid (Below w.heap.size w w2) := Lib.hid (HB1.out.grown hgrow2 HB1.out.size (fun j ej => rowGe HR1.out ej)); clear hown2 hgrow2)
      | (at_builtin; refine wpList_append_own _ rfl _ _ 23 rfl w.heap.size 33 i0 _ 5 48 Try.underlying23 hinf hz0 hz1 hz2 rfl (by decide) _ 0 [] rfl (World.ownsRow_made w #[] 0 (Nat.le_refl _) (by decide) rfl) ⟨b, off, none⟩ k _ ((zs.take k).flatMap Ent.cells) rfl (by rw [flatMap_len Ent.cells 5 (fun _ => rfl), List.length_take, Nat.min_eq_left (by omega)]) HN1.out (one_flat Ent.one _) (by simp only [maxLen]; omega) (by omega) (by simp) ?_; intro v1 w1 hown1 hgrow1 _; have HR1 : Hid (w1.ownsRow w.heap.size 33 5 v1 k ((zs.take k).flatMap Ent.cells)) := Lib.hid (by simpa only [Nat.zero_add, List.nil_append] using hown1); have HB1 : Hid (Below w.heap.size w w1) := Lib.hid (((Below.refl _ w).alloc (Nat.le_refl _) _).grown hgrow1 (by simp) (fun j ej => by cases ej; exact Nat.le_refl _)); clear hown1 hgrow1))
    go_ret
    refine ⟨_, rfl, SlAt.of_row (fun _ => rfl) (t := 33) (B := w.heap.size) ?_, HB2.out⟩
    rw [List.length_append, List.length_take, List.length_drop, Nat.min_eq_left (by omega), List.flatMap_append]
    exact HR2.out
end Go.Proofs.Ytmnkaohhjhjciaa
