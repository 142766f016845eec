/-
  slices.SortFunc at inodes and entries: the row that comes out is the call's own; condition: at most 100000 of them.
-/
import Derived.Test.YtlokljaeknmdpaaGreatQGrGet
import Derived.Test.YtlokljaeknmdpaaGreatQSort
import Derived.Test.YtlokljaeknmdpaaGreatKAudA
namespace Go.Proofs.YtlokljaeknmdpaaGreat
open Go.RowKit Go.Shelf Go.Proofs
open Go.Sort (HoldsK putRowK putRow putCells flatK get_flatK size_flatK SWO PermIn SortedIn)

section
variable {α : Type} [Inhabited α] {enc : α → List Value} {k : Nat} {W : World} {B g : Nat} {t : TypeId}

theorem ownsRow_sorted {cur : Array Value} {cap : Nat} (hk : ∀ x, (enc x).length = k) (hk0 : 0 < k) (hh : W.heap[g]? = some (.cells cur t (0, 0))) (hcs : cur.size = cap * k) (hB : B ≤ g) {d d' : Array α} (hs : d'.size = d.size) (hc : d.size ≤ cap) (hm : cap ≤ maxLen) (n : Nat) (os : Array Obj) :
    (sortWorldK enc k W g 0 n d' os).ownsRow B t k (.slice (some ⟨g, 0, none⟩) d.size cap) d.size (d'.toList.flatMap enc) := by
  have hlt := (Array.getElem?_eq_some_iff.1 hh).1
  have hb : (sortWorldK enc k W g 0 n d' os).heap[g]? = some (.cells (putCells id 0 (flatK enc k d') cur) t (0, 0)) := by
    unfold sortWorldK putRowK putRow
    show ((Sort.mapBlock _ _ _).heap ++ os)[g]? = _
    rw [Array.getElem?_append_left (by simp [Sort.mapBlock, Sort.ahead]; exact hlt)]
    simp [Sort.mapBlock, Sort.ahead, Array.getElem?_modify, hh, Sort.onCells]
  have hfl : (d'.toList.flatMap enc).length = d.size * k := by rw [flatMap_len enc k hk]; simp [hs]
  have hdc : d.size * k ≤ cap * k := Nat.mul_le_mul_right k hc
  refine ⟨hfl, .inr ⟨g, cap, _, rfl, hB, hb, hc, hm, by simp [putCells, hcs], ?_⟩⟩
  apply List.ext_getElem?
  intro j
  by_cases hj : j < d.size * k
  · have hj' : j < d'.size * k := by rw [hs]; exact hj
    rw [List.getElem?_take, if_pos hj]
    have hjk : j / k < d'.toList.length := by simp; exact Nat.div_lt_of_lt_mul (by rw [Nat.mul_comm]; exact hj')
    have hmk := Nat.mod_lt j hk0
    have h1 := flatMap_at enc k hk d'.toList (j / k) (j % k) hjk hmk
    have hdm := Nat.div_add_mod j k
    rw [Nat.mul_comm] at hdm
    rw [hdm] at h1
    rw [h1]
    have e3 : d'.toList[j / k]! = d'[j / k]! := by
      have : j / k < d'.size := by simpa using hjk
      rw [getElem!_pos d'.toList (j / k) hjk, getElem!_pos d' (j / k) this]; simp
    rw [e3]
    have hm' : j % k < (enc d'[j / k]!).length := by rw [hk]; exact hmk
    rw [List.getElem?_eq_getElem hm']
    rw [Array.getElem?_toList]
    unfold putCells
    rw [Array.getElem?_mapIdx]
    have hjc : j < cur.size := by rw [hcs]; omega
    rw [Array.getElem?_eq_getElem hjc]
    simp only [Option.map_some, Nat.zero_le, true_and, Nat.zero_add, size_flatK, hj', if_true, Nat.sub_zero, id]
    rw [get_flatK enc k d' j hj', getElem!_pos (enc d'[j / k]!) (j % k) hm']
  · rw [List.getElem?_take, if_neg hj, List.getElem?_eq_none (by omega)]

theorem sorted_drawn {n : Nat} {d' : Array α} {os : Array Obj} : W.drawn ≤ (sortWorldK enc k W g 0 n d' os).drawn := by
  show W.drawn ≤ W.drawn + n
  omega

theorem rises_of_sorted {K : Type} {key : α → K} {lt : K → K → Prop} (S : Strict lt) {l : List α} (hnd : (l.map key).Nodup) (h : ∀ i j, i < j → j < l.length → ¬ lt (key l[j]!) (key l[i]!)) : RisesK key lt l := by
  unfold RisesK
  rw [List.pairwise_iff_getElem]
  intro i j hi hj hij
  have h1 := h i j hij hj
  rw [getElem!_pos l j hj, getElem!_pos l i hi] at h1
  have hne : key l[i] ≠ key l[j] := by
    have := List.nodup_iff_pairwise_ne.1 hnd
    rw [List.pairwise_map] at this
    exact List.pairwise_iff_getElem.1 this i j hi hj hij
  rcases S.tri (key l[i]) (key l[j]) with h2 | h2 | h2
  · exact h2
  · exact absurd h2 hne
  · exact absurd h2 h1
end

theorem swoIn : SWO (ltOf cmpIn) where
  irrefl x := by simp only [ltOf, cmpIn_lt, decide_eq_false_iff_not]; exact strictSt.irrefl _
  trans x y z h1 h2 := by simp only [ltOf, cmpIn_lt, decide_eq_true_eq] at *; exact strictSt.trans _ _ _ h1 h2
  ntrans x y z h1 h2 := by
    simp only [ltOf, cmpIn_lt, decide_eq_false_iff_not] at *
    intro h
    rcases strictSt.tri x.id y.id with h3 | h3 | h3
    · exact h1 h3
    · rw [h3] at h; exact h2 h
    · exact h2 (strictSt.trans _ _ _ h3 h)
theorem swoEn : SWO (ltOf cmpEn) where
  irrefl x := by simp only [ltOf, cmpEn_lt, decide_eq_false_iff_not]; exact strictPl.irrefl _
  trans x y z h1 h2 := by simp only [ltOf, cmpEn_lt, decide_eq_true_eq] at *; exact strictPl.trans _ _ _ h1 h2
  ntrans x y z h1 h2 := by
    simp only [ltOf, cmpEn_lt, decide_eq_false_iff_not] at *
    intro h
    rcases strictPl.tri x.pl y.pl with h3 | h3 | h3
    · exact h1 h3
    · rw [h3] at h; exact h2 h
    · exact h2 (strictPl.trans _ _ _ h3 h)

set_option maxRecDepth 100000 in
set_option maxHeartbeats 400000 in
theorem inodes1_any (x y : Ino) (w : World) : Calls Tryz.prog 75 #[x.v, y.v] w fun e w' => e = .returned (.int .i64 (cmpIn x y)) ∧ New w w' := by
  have hs := stCompare_any x.id.t x.id.r y.id.t y.id.r
  have HS := Lib.hid hs
  clear hs
  unfold Ino.v cmpIn
  go_enter Tryz.func75, Tryz.ntmps75
  go_wp2_with (go_at_call 59; refine (HS.out _).mono ?_; rintro e w' ⟨rfl, hN⟩; have HN := Lib.hid hN; clear hN)
  go_ret
  exact ⟨rfl, ((New.alloc' w _).alloc _).trans HN.out⟩

set_option maxRecDepth 100000 in
set_option maxHeartbeats 1000000 in
theorem entries1_any (x y : Ent) (w : World) : Calls Tryz.prog 77 #[x.v, y.v] w fun e w' => e = .returned (.int .i64 (cmpEn x y)) ∧ New w w' := by
  have HS := Lib.hid (stCompare_any x.at_.t x.at_.r y.at_.t y.at_.r)
  have HC := Lib.hid (cmps_any x.name y.name)
  have HO := Lib.hid or2_any
  unfold Ent.v cmpEn
  go_enter Tryz.func77, Tryz.ntmps77
  go_wp2
  go_region_held3 (fun W => W.cell? ⟨w.heap.size, 0, none⟩ = some (.int .i64 x.at_.t) ∧ W.cell? ⟨w.heap.size, 1, none⟩ = some (.int .i64 x.at_.r) ∧ W.cell? ⟨w.heap.size, 2, none⟩ = some (.string x.name) ∧
      W.cell? ⟨w.heap.size + 1, 0, none⟩ = some (.int .i64 y.at_.t) ∧ W.cell? ⟨w.heap.size + 1, 1, none⟩ = some (.int .i64 y.at_.r) ∧ W.cell? ⟨w.heap.size + 1, 2, none⟩ = some (.string y.name)) (go_keep) (first
    | (go_at_call 59; refine (HS.out _).mono ?_; rintro e w' ⟨rfl, hN⟩; have HN := Lib.hid hN; have c0 : w'.cell? ⟨w.heap.size, 0, none⟩ = some (.int .i64 x.at_.t) := (after2 hN).1 0 _ rfl; have c1 : w'.cell? ⟨w.heap.size, 1, none⟩ = some (.int .i64 x.at_.r) := (after2 hN).1 1 _ rfl; have c2 : w'.cell? ⟨w.heap.size, 2, none⟩ = some (.string x.name) := (after2 hN).1 2 _ rfl; have d0 : w'.cell? ⟨w.heap.size + 1, 0, none⟩ = some (.int .i64 y.at_.t) := (after2 hN).2 0 _ rfl; have d1 : w'.cell? ⟨w.heap.size + 1, 1, none⟩ = some (.int .i64 y.at_.r) := (after2 hN).2 1 _ rfl; have d2 : w'.cell? ⟨w.heap.size + 1, 2, none⟩ = some (.string y.name) := (after2 hN).2 2 _ rfl; clear hN)
    | (go_at_call 79; refine (HC.out _).mono ?_; rintro e w' ⟨rfl, rfl⟩)
    | (go_at_call 78; refine (HO.out _ (cmpSt x.at_.t x.at_.r y.at_.t y.at_.r) (cmpB x.name y.name) _ _ ?_ ?_).mono ?_; (simp [*]); (simp [*]); rintro e w' ⟨rfl, rfl⟩))
  all_goals go_wp2
  all_goals go_ret
  all_goals exact ⟨rfl, ((((New.alloc' w _).alloc _).drew).trans HN.out).alloc _⟩

/-- slices.SortFunc at inodes -/
theorem sortIno_any (B : Nat) (v : Value) (zs : List Ino) (W : World) (h : W.ownsRow B 62 6 v zs.length (zs.flatMap Ino.cells)) (hz : zs.length ≤ 100000) (hnd : (zs.map Ino.id).Nodup) :
    Calls Tryz.prog 129 #[v, .func (.func 75) #[] #[]] W fun e w' => e = .returned (.tuple #[]) ∧ ∃ zs' : List Ino, zs'.Perm zs ∧ RisesN zs' ∧ w'.ownsRow B 62 6 v zs'.length (zs'.flatMap Ino.cells) ∧ Below B W w' ∧ W.drawn ≤ w'.drawn := by
  rcases h.2 with ⟨rfl, h0⟩ | ⟨g, cap, cur, rfl, hB, hh, h1, h2, h3, h4⟩
  · have hzs := List.eq_nil_of_length_eq_zero h0
    subst hzs
    exact (AnyF.slices_SortFunc_none (P := Tryz.prog) (ρ := lSortIno_ren) { lSortIno with } none 0 (.func (.func 75) #[] #[]) W).mono fun e w' ⟨he, hw⟩ => ⟨he, [], List.Perm.refl _, List.Pairwise.nil, by rw [hw]; exact World.ownsRow_nil _ _ _ _, by rw [hw]; exact Below.refl _ _, by rw [hw]; exact Nat.le_refl _⟩
  · have hg := (Array.getElem?_eq_some_iff.1 hh).1
    have hH : HoldsK Ino.cells 6 W g 0 zs.toArray := holds_of_row (k := 6) (fun _ => rfl) (by omega) hh h4
    have := AnyQ.slices_SortFunc lSortIno 6 Tryz.isAgg62 Tryz.sizeOf62 Ino.cells (fun _ => rfl) (fun x v hv => Ino.one x v (by simpa using hv)) cmpIn swoIn 75 #[] g 0 cap zs.toArray W
      (enters_of Tryz.func75 (by kernel_rfl) rfl) (fun m os dk _ x y => (inodes1_any x y _).mono fun e w' ⟨he, hN⟩ => ⟨he, hN.grow⟩) hH hg (by rw [List.size_toArray]; omega)
    refine (show Calls Tryz.prog 129 #[.slice (some ⟨g, 0, none⟩) zs.length cap, .func (.func 75) #[] #[]] W _ from this).mono ?_
    rintro e w' ⟨he, d', n, os, ⟨hs, _, hp⟩, hsort, rfl⟩
    have hp' : d'.toList.Perm zs := by
      have e1 : d'.extract 0 zs.toArray.size = d' := by rw [← hs]; simp
      have e2 : zs.toArray.extract 0 zs.toArray.size = zs.toArray := by simp
      rw [e1, e2] at hp
      exact hp
    refine ⟨he, d'.toList, hp', ?_, ?_, below_sorted hB hg, sorted_drawn⟩
    · apply rises_of_sorted strictSt ((hp'.map _).nodup_iff.2 hnd)
      intro i j hij hj
      have hj' : j < d'.size := by simpa using hj
      have := hsort i j (Nat.zero_le _) hij (by rw [← hs]; exact hj')
      simp only [ltOf, decide_eq_false_iff_not, cmpIn_lt] at this
      rw [getElem!_pos d'.toList j hj, getElem!_pos d'.toList i (by omega)]
      rw [getElem!_pos d' j hj', getElem!_pos d' i (by omega)] at this
      simpa using this
    · have e := ownsRow_sorted (enc := Ino.cells) (k := 6) (fun x => rfl) (by omega) hh h3 hB hs (by simpa using h1) h2 n os
      have hl : d'.toList.length = zs.length := by rw [hp'.length_eq]
      rw [hl]
      simpa using e

/-- slices.SortFunc at entries -/
theorem sortEnt_any (B : Nat) (v : Value) (zs : List Ent) (W : World) (h : W.ownsRow B 34 5 v zs.length (zs.flatMap Ent.cells)) (hz : zs.length ≤ 100000) (hnd : (zs.map Ent.pl).Nodup) :
    Calls Tryz.prog 76 #[v, .func (.func 77) #[] #[]] W fun e w' => e = .returned (.tuple #[]) ∧ ∃ zs' : List Ent, zs'.Perm zs ∧ RisesE zs' ∧ w'.ownsRow B 34 5 v zs'.length (zs'.flatMap Ent.cells) ∧ Below B W w' ∧ W.drawn ≤ w'.drawn := by
  rcases h.2 with ⟨rfl, h0⟩ | ⟨g, cap, cur, rfl, hB, hh, h1, h2, h3, h4⟩
  · have hzs := List.eq_nil_of_length_eq_zero h0
    subst hzs
    exact (AnyF.slices_SortFunc_none (P := Tryz.prog) (ρ := lSortEnt_ren) { lSortEnt with } none 0 (.func (.func 77) #[] #[]) W).mono fun e w' ⟨he, hw⟩ => ⟨he, [], List.Perm.refl _, List.Pairwise.nil, by rw [hw]; exact World.ownsRow_nil _ _ _ _, by rw [hw]; exact Below.refl _ _, by rw [hw]; exact Nat.le_refl _⟩
  · have hg := (Array.getElem?_eq_some_iff.1 hh).1
    have hH : HoldsK Ent.cells 5 W g 0 zs.toArray := holds_of_row (k := 5) (fun _ => rfl) (by omega) hh h4
    have := AnyQ.slices_SortFunc lSortEnt 5 Tryz.isAgg34 Tryz.sizeOf34 Ent.cells (fun _ => rfl) (fun x v hv => Ent.one x v (by simpa using hv)) cmpEn swoEn 77 #[] g 0 cap zs.toArray W
      (enters_of Tryz.func77 (by kernel_rfl) rfl) (fun m os dk _ x y => (entries1_any x y _).mono fun e w' ⟨he, hN⟩ => ⟨he, hN.grow⟩) hH hg (by rw [List.size_toArray]; omega)
    refine (show Calls Tryz.prog 76 #[.slice (some ⟨g, 0, none⟩) zs.length cap, .func (.func 77) #[] #[]] W _ from this).mono ?_
    rintro e w' ⟨he, d', n, os, ⟨hs, _, hp⟩, hsort, rfl⟩
    have hp' : d'.toList.Perm zs := by
      have e1 : d'.extract 0 zs.toArray.size = d' := by rw [← hs]; simp
      have e2 : zs.toArray.extract 0 zs.toArray.size = zs.toArray := by simp
      rw [e1, e2] at hp
      exact hp
    refine ⟨he, d'.toList, hp', ?_, ?_, below_sorted hB hg, sorted_drawn⟩
    · apply rises_of_sorted strictPl ((hp'.map _).nodup_iff.2 hnd)
      intro i j hij hj
      have hj' : j < d'.size := by simpa using hj
      have := hsort i j (Nat.zero_le _) hij (by rw [← hs]; exact hj')
      simp only [ltOf, decide_eq_false_iff_not, cmpEn_lt] at this
      rw [getElem!_pos d'.toList j hj, getElem!_pos d'.toList i (by omega)]
      rw [getElem!_pos d' j hj', getElem!_pos d' i (by omega)] at this
      simpa using this
    · have e := ownsRow_sorted (enc := Ent.cells) (k := 5) (fun x => rfl) (by omega) hh h3 hB hs (by simpa using h1) h2 n os
      have hl : d'.toList.length = zs.length := by rw [hp'.length_eq]
      rw [hl]
      simpa using e
end Go.Proofs.YtlokljaeknmdpaaGreat
