/-
  slices.SortFunc at inodes and entries: the row that comes out is the call's own; condition: at most 100000 of them. · graph.Inodes: the graph's inodes, rising, in a slice of the call's own; condition: at most 1000 of them. · graph.Entries: the graph's entries, rising, in a slice of the call's own; condition: at most 1000 of them.
-/
import Derived.Test.YtfbjiaedfmdcfaaGreatDoorKY22
import Derived.Test.YtfbjiaedfmdcfaaGreatDoorKY16
import Derived.Test.YtfbjiaedfmdcfaaGreatDoorKY10
import Derived.Test.YtfbjiaedfmdcfaaGreatDoorKY13
/-! ## GSort -/
namespace Go.Proofs.YtfbjiaedfmdcfaaGreatDoor
open Go.RowKit Go.Shelf Go.Proofs
open Go.Sort (HoldsK putRowK putRow putCells flatK get_flatK size_flatK SWO PermIn SortedIn)

section
variable {α : Type} [Inhabited α] {enc : α → List Value} {k : Nat} {W : World} {B g : Nat} {t : TypeId}

theorem ownsRow_sorted {cur : Array Value} {cap : Nat} (hk : ∀ x, (enc x).length = k) (hk0 : 0 < k) (hh : W.heap[g]? = some (.cells cur t (0, 0))) (hcs : cur.size = cap * k) (hB : B ≤ g) {d d' : Array α} (hs : d'.size = d.size) (hc : d.size ≤ cap) (hm : cap ≤ maxLen) (n : Nat) (os : Array Obj) :
    (sortWorldK enc k W g 0 n d' os).ownsRow B t k (.slice (some ⟨g, 0, none⟩) d.size cap) d.size (d'.toList.flatMap enc) := by
  have hlt := (Array.getElem?_eq_some_iff.1 hh).1
  have hb : (sortWorldK enc k W g 0 n d' os).heap[g]? = some (.cells (putCells id 0 (flatK enc k d') cur) t (0, 0)) := by
    unfold sortWorldK putRowK putRow
    show ((Sort.mapBlock _ _ _).heap ++ os)[g]? = _
    rw [Array.getElem?_append_left (by simp [Sort.mapBlock, Sort.ahead]; exact hlt)]
    simp [Sort.mapBlock, Sort.ahead, Array.getElem?_modify, hh, Sort.onCells]
  have hfl : (d'.toList.flatMap enc).length = d.size * k := by rw [flatMap_len enc k hk]; simp [hs]
  have hdc : d.size * k ≤ cap * k := Nat.mul_le_mul_right k hc
  refine ⟨hfl, .inr ⟨g, cap, _, rfl, hB, hb, hc, hm, by simp [putCells, hcs], ?_⟩⟩
  apply List.ext_getElem?
  intro j
  by_cases hj : j < d.size * k
  · have hj' : j < d'.size * k := by rw [hs]; exact hj
    rw [List.getElem?_take, if_pos hj]
    have hjk : j / k < d'.toList.length := by simp; exact Nat.div_lt_of_lt_mul (by rw [Nat.mul_comm]; exact hj')
    have hmk := Nat.mod_lt j hk0
    have h1 := flatMap_at enc k hk d'.toList (j / k) (j % k) hjk hmk
    have hdm := Nat.div_add_mod j k
    rw [Nat.mul_comm] at hdm
    rw [hdm] at h1
    rw [h1]
    have e3 : d'.toList[j / k]! = d'[j / k]! := by
      have : j / k < d'.size := by simpa using hjk
      rw [getElem!_pos d'.toList (j / k) hjk, getElem!_pos d' (j / k) this]; simp
    rw [e3]
    have hm' : j % k < (enc d'[j / k]!).length := by rw [hk]; exact hmk
    rw [List.getElem?_eq_getElem hm']
    rw [Array.getElem?_toList]
    unfold putCells
    rw [Array.getElem?_mapIdx]
    have hjc : j < cur.size := by rw [hcs]; omega
    rw [Array.getElem?_eq_getElem hjc]
    simp only [Option.map_some, Nat.zero_le, true_and, Nat.zero_add, size_flatK, hj', if_true, Nat.sub_zero, id]
    rw [get_flatK enc k d' j hj', getElem!_pos (enc d'[j / k]!) (j % k) hm']
  · rw [List.getElem?_take, if_neg hj, List.getElem?_eq_none (by omega)]

theorem sorted_drawn {n : Nat} {d' : Array α} {os : Array Obj} : W.drawn ≤ (sortWorldK enc k W g 0 n d' os).drawn := by
  show W.drawn ≤ W.drawn + n
  omega

theorem rises_of_sorted {K : Type} {key : α → K} {lt : K → K → Prop} (S : Strict lt) {l : List α} (hnd : (l.map key).Nodup) (h : ∀ i j, i < j → j < l.length → ¬ lt (key l[j]!) (key l[i]!)) : RisesK key lt l := by
  unfold RisesK
  rw [List.pairwise_iff_getElem]
  intro i j hi hj hij
  have h1 := h i j hij hj
  rw [getElem!_pos l j hj, getElem!_pos l i hi] at h1
  have hne : key l[i] ≠ key l[j] := by
    have := List.nodup_iff_pairwise_ne.1 hnd
    rw [List.pairwise_map] at this
    exact List.pairwise_iff_getElem.1 this i j hi hj hij
  rcases S.tri (key l[i]) (key l[j]) with h2 | h2 | h2
  · exact h2
  · exact absurd h2 hne
  · exact absurd h2 h1
end

theorem swoIn : SWO (ltOf cmpIn) where
  irrefl x := by simp only [ltOf, cmpIn_lt, decide_eq_false_iff_not]; exact strictSt.irrefl _
  trans x y z h1 h2 := by simp only [ltOf, cmpIn_lt, decide_eq_true_eq] at *; exact strictSt.trans _ _ _ h1 h2
  ntrans x y z h1 h2 := by
    simp only [ltOf, cmpIn_lt, decide_eq_false_iff_not] at *
    intro h
    rcases strictSt.tri x.id y.id with h3 | h3 | h3
    · exact h1 h3
    · rw [h3] at h; exact h2 h
    · exact h2 (strictSt.trans _ _ _ h3 h)
theorem swoEn : SWO (ltOf cmpEn) where
  irrefl x := by simp only [ltOf, cmpEn_lt, decide_eq_false_iff_not]; exact strictPl.irrefl _
  trans x y z h1 h2 := by simp only [ltOf, cmpEn_lt, decide_eq_true_eq] at *; exact strictPl.trans _ _ _ h1 h2
  ntrans x y z h1 h2 := by
    simp only [ltOf, cmpEn_lt, decide_eq_false_iff_not] at *
    intro h
    rcases strictPl.tri x.pl y.pl with h3 | h3 | h3
    · exact h1 h3
    · rw [h3] at h; exact h2 h
    · exact h2 (strictPl.trans _ _ _ h3 h)

set_option maxRecDepth 100000 in
set_option maxHeartbeats 400000 in
theorem inodes1_any (x y : Ino) (w : World) : Calls Tryz.prog 69 #[x.v, y.v] w fun e w' => e = .returned (.int .i64 (cmpIn x y)) ∧ New w w' := by
  have hs := stCompare_any x.id.t x.id.r y.id.t y.id.r
  have HS := Lib.hid hs
  clear hs
  unfold Ino.v cmpIn
  go_enter Tryz.func69, Tryz.ntmps69
  go_wp2_with (go_at_call 70; refine (HS.out _).mono ?_; rintro e w' ⟨rfl, hN⟩; have HN := Lib.hid hN; clear hN)
  go_ret
  exact ⟨rfl, ((New.alloc' w _).alloc _).trans HN.out⟩

set_option maxRecDepth 100000 in
set_option maxHeartbeats 1000000 in
theorem entries1_any (x y : Ent) (w : World) : Calls Tryz.prog 87 #[x.v, y.v] w fun e w' => e = .returned (.int .i64 (cmpEn x y)) ∧ New w w' := by
  have HS := Lib.hid (stCompare_any x.at_.t x.at_.r y.at_.t y.at_.r)
  have HC := Lib.hid (cmps_any x.name y.name)
  have HO := Lib.hid or2_any
  unfold Ent.v cmpEn
  go_enter Tryz.func87, Tryz.ntmps87
  go_wp2
  go_region_held3 (fun W => W.cell? ⟨w.heap.size, 0, none⟩ = some (.int .i64 x.at_.t) ∧ W.cell? ⟨w.heap.size, 1, none⟩ = some (.int .i64 x.at_.r) ∧ W.cell? ⟨w.heap.size, 2, none⟩ = some (.string x.name) ∧
      W.cell? ⟨w.heap.size + 1, 0, none⟩ = some (.int .i64 y.at_.t) ∧ W.cell? ⟨w.heap.size + 1, 1, none⟩ = some (.int .i64 y.at_.r) ∧ W.cell? ⟨w.heap.size + 1, 2, none⟩ = some (.string y.name)) (go_keep) (first
    | (go_at_call 70; refine (HS.out _).mono ?_; rintro e w' ⟨rfl, hN⟩; have HN := Lib.hid hN; have c0 : w'.cell? ⟨w.heap.size, 0, none⟩ = some (.int .i64 x.at_.t) := (after2 hN).1 0 _ rfl; have c1 : w'.cell? ⟨w.heap.size, 1, none⟩ = some (.int .i64 x.at_.r) := (after2 hN).1 1 _ rfl; have c2 : w'.cell? ⟨w.heap.size, 2, none⟩ = some (.string x.name) := (after2 hN).1 2 _ rfl; have d0 : w'.cell? ⟨w.heap.size + 1, 0, none⟩ = some (.int .i64 y.at_.t) := (after2 hN).2 0 _ rfl; have d1 : w'.cell? ⟨w.heap.size + 1, 1, none⟩ = some (.int .i64 y.at_.r) := (after2 hN).2 1 _ rfl; have d2 : w'.cell? ⟨w.heap.size + 1, 2, none⟩ = some (.string y.name) := (after2 hN).2 2 _ rfl; clear hN)
    | (go_at_call 89; refine (HC.out _).mono ?_; rintro e w' ⟨rfl, rfl⟩)
    | (go_at_call 88; refine (HO.out _ (cmpSt x.at_.t x.at_.r y.at_.t y.at_.r) (cmpB x.name y.name) _ _ ?_ ?_).mono ?_; (simp [*]); (simp [*]); rintro e w' ⟨rfl, rfl⟩))
  all_goals go_wp2
  all_goals go_ret
  all_goals exact ⟨rfl, ((((New.alloc' w _).alloc _).drew).trans HN.out).alloc _⟩

/-- slices.SortFunc at inodes -/
theorem sortIno_any (B : Nat) (v : Value) (zs : List Ino) (W : World) (h : W.ownsRow B 28 6 v zs.length (zs.flatMap Ino.cells)) (hz : zs.length ≤ 100000) (hnd : (zs.map Ino.id).Nodup) :
    Calls Tryz.prog 106 #[v, .func (.func 69) #[] #[]] W fun e w' => e = .returned (.tuple #[]) ∧ ∃ zs' : List Ino, zs'.Perm zs ∧ RisesN zs' ∧ w'.ownsRow B 28 6 v zs'.length (zs'.flatMap Ino.cells) ∧ Below B W w' ∧ W.drawn ≤ w'.drawn := by
  rcases h.2 with ⟨rfl, h0⟩ | ⟨g, cap, cur, rfl, hB, hh, h1, h2, h3, h4⟩
  · have hzs := List.eq_nil_of_length_eq_zero h0
    subst hzs
    exact (AnyF.slices_SortFunc_none (P := Tryz.prog) (ρ := lSortIno_ren) { lSortIno with } none 0 (.func (.func 69) #[] #[]) W).mono fun e w' ⟨he, hw⟩ => ⟨he, [], List.Perm.refl _, List.Pairwise.nil, by rw [hw]; exact World.ownsRow_nil _ _ _ _, by rw [hw]; exact Below.refl _ _, by rw [hw]; exact Nat.le_refl _⟩
  · have hg := (Array.getElem?_eq_some_iff.1 hh).1
    have hH : HoldsK Ino.cells 6 W g 0 zs.toArray := holds_of_row (k := 6) (fun _ => rfl) (by omega) hh h4
    have := AnyQ.slices_SortFunc lSortIno 6 Tryz.isAgg28 Tryz.sizeOf28 Ino.cells (fun _ => rfl) (fun x v hv => Ino.one x v (by simpa using hv)) cmpIn swoIn 69 #[] g 0 cap zs.toArray W
      (enters_of Tryz.func69 (by kernel_rfl) rfl) (fun m os dk _ x y => (inodes1_any x y _).mono fun e w' ⟨he, hN⟩ => ⟨he, hN.grow⟩) hH hg (by rw [List.size_toArray]; omega)
    refine (show Calls Tryz.prog 106 #[.slice (some ⟨g, 0, none⟩) zs.length cap, .func (.func 69) #[] #[]] W _ from this).mono ?_
    rintro e w' ⟨he, d', n, os, ⟨hs, _, hp⟩, hsort, rfl⟩
    have hp' : d'.toList.Perm zs := by
      have e1 : d'.extract 0 zs.toArray.size = d' := by rw [← hs]; simp
      have e2 : zs.toArray.extract 0 zs.toArray.size = zs.toArray := by simp
      rw [e1, e2] at hp
      exact hp
    refine ⟨he, d'.toList, hp', ?_, ?_, below_sorted hB hg, sorted_drawn⟩
    · apply rises_of_sorted strictSt ((hp'.map _).nodup_iff.2 hnd)
      intro i j hij hj
      have hj' : j < d'.size := by simpa using hj
      have := hsort i j (Nat.zero_le _) hij (by rw [← hs]; exact hj')
      simp only [ltOf, decide_eq_false_iff_not, cmpIn_lt] at this
      rw [getElem!_pos d'.toList j hj, getElem!_pos d'.toList i (by omega)]
      rw [getElem!_pos d' j hj', getElem!_pos d' i (by omega)] at this
      simpa using this
    · have e := ownsRow_sorted (enc := Ino.cells) (k := 6) (fun x => rfl) (by omega) hh h3 hB hs (by simpa using h1) h2 n os
      have hl : d'.toList.length = zs.length := by rw [hp'.length_eq]
      rw [hl]
      simpa using e

/-- slices.SortFunc at entries -/
theorem sortEnt_any (B : Nat) (v : Value) (zs : List Ent) (W : World) (h : W.ownsRow B 125 5 v zs.length (zs.flatMap Ent.cells)) (hz : zs.length ≤ 100000) (hnd : (zs.map Ent.pl).Nodup) :
    Calls Tryz.prog 86 #[v, .func (.func 87) #[] #[]] W fun e w' => e = .returned (.tuple #[]) ∧ ∃ zs' : List Ent, zs'.Perm zs ∧ RisesE zs' ∧ w'.ownsRow B 125 5 v zs'.length (zs'.flatMap Ent.cells) ∧ Below B W w' ∧ W.drawn ≤ w'.drawn := by
  rcases h.2 with ⟨rfl, h0⟩ | ⟨g, cap, cur, rfl, hB, hh, h1, h2, h3, h4⟩
  · have hzs := List.eq_nil_of_length_eq_zero h0
    subst hzs
    exact (AnyF.slices_SortFunc_none (P := Tryz.prog) (ρ := lSortEnt_ren) { lSortEnt with } none 0 (.func (.func 87) #[] #[]) W).mono fun e w' ⟨he, hw⟩ => ⟨he, [], List.Perm.refl _, List.Pairwise.nil, by rw [hw]; exact World.ownsRow_nil _ _ _ _, by rw [hw]; exact Below.refl _ _, by rw [hw]; exact Nat.le_refl _⟩
  · have hg := (Array.getElem?_eq_some_iff.1 hh).1
    have hH : HoldsK Ent.cells 5 W g 0 zs.toArray := holds_of_row (k := 5) (fun _ => rfl) (by omega) hh h4
    have := AnyQ.slices_SortFunc lSortEnt 5 Tryz.isAgg125 Tryz.sizeOf125 Ent.cells (fun _ => rfl) (fun x v hv => Ent.one x v (by simpa using hv)) cmpEn swoEn 87 #[] g 0 cap zs.toArray W
      (enters_of Tryz.func87 (by kernel_rfl) rfl) (fun m os dk _ x y => (entries1_any x y _).mono fun e w' ⟨he, hN⟩ => ⟨he, hN.grow⟩) hH hg (by rw [List.size_toArray]; omega)
    refine (show Calls Tryz.prog 86 #[.slice (some ⟨g, 0, none⟩) zs.length cap, .func (.func 87) #[] #[]] W _ from this).mono ?_
    rintro e w' ⟨he, d', n, os, ⟨hs, _, hp⟩, hsort, rfl⟩
    have hp' : d'.toList.Perm zs := by
      have e1 : d'.extract 0 zs.toArray.size = d' := by rw [← hs]; simp
      have e2 : zs.toArray.extract 0 zs.toArray.size = zs.toArray := by simp
      rw [e1, e2] at hp
      exact hp
    refine ⟨he, d'.toList, hp', ?_, ?_, below_sorted hB hg, sorted_drawn⟩
    · apply rises_of_sorted strictPl ((hp'.map _).nodup_iff.2 hnd)
      intro i j hij hj
      have hj' : j < d'.size := by simpa using hj
      have := hsort i j (Nat.zero_le _) hij (by rw [← hs]; exact hj')
      simp only [ltOf, decide_eq_false_iff_not, cmpEn_lt] at this
      rw [getElem!_pos d'.toList j hj, getElem!_pos d'.toList i (by omega)]
      rw [getElem!_pos d' j hj', getElem!_pos d' i (by omega)] at this
      simpa using this
    · have e := ownsRow_sorted (enc := Ent.cells) (k := 5) (fun x => rfl) (by omega) hh h3 hB hs (by simpa using h1) h2 n os
      have hl : d'.toList.length = zs.length := by rw [hp'.length_eq]
      rw [hl]
      simpa using e
end Go.Proofs.YtfbjiaedfmdcfaaGreatDoor

/-! ## Inodes -/
namespace Go.Proofs.YtfbjiaedfmdcfaaGreatDoor
open Go.RowKit Go.Shelf

set_option maxRecDepth 100000 in
set_option maxHeartbeats 400000 in
theorem values_any (b : Nat) (w : World) :
    Calls Tryz.prog 68 #[.map (some b)] w fun e w' => e = .returned (.func (.func 107) #[] #[.pointer (some ⟨w.heap.size, 0, none⟩)]) ∧ Below w.heap.size w w' ∧ w'.cell? ⟨w.heap.size, 0, none⟩ = some (.map (some b)) := by
  go_enter Tryz.func68, Tryz.ntmps68
  go_wp2
  go_ret
  exact ⟨rfl, (Below.refl _ _).alloc (Nat.le_refl _) _, cell_new w _ rfl _ _ 0 _ rfl⟩

theorem values_stops (n : Nat) (hn : 1 ≤ n) (Bm b : Nat) (kv : List (St × Ino)) (w : World) (hBm : Bm < w.heap.size) (hm : w.cell? ⟨Bm, 0, none⟩ = some (.map (some b))) (hk : MapAt w b St.v Ino.v kv) (hb : b < w.heap.size) :
    SeqStopsK Fence.wide n Tryz.prog 107 #[.pointer (some ⟨Bm, 0, none⟩)] (fun x : Ino => #[x.v]) KeepsWalks (fun xs => xs.Perm (kv.map (·.2))) (fun _ => True) kv.length w := fun l J Jx W hW hJ _ hY h0 =>
  values1_in Fence.wide n trivial rfl hn l Bm b kv J Jx W hJ hY ((hW.cell (p := ⟨Bm, 0, none⟩) hBm).trans hm) (hk.below hW hb) h0

theorem appendSeq_any (w : World) (Bm b : Nat) (kv : List (St × Ino)) (hN : kv.length ≤ 1000) (hBm : Bm < w.heap.size) (hm : w.cell? ⟨Bm, 0, none⟩ = some (.map (some b))) (hk : MapAt w b St.v Ino.v kv) (hb : b < w.heap.size) :
    Calls Tryz.prog 146 #[.slice none 0 0, .func (.func 107) #[] #[.pointer (some ⟨Bm, 0, none⟩)]] w fun e w' => ∃ (v : Value) (xs : List Ino), e = .returned v ∧ xs.Perm (kv.map (·.2)) ∧ w'.ownsRow w.heap.size 28 6 v xs.length (xs.flatMap Ino.cells) ∧ Below w.heap.size w w' :=
  callsIn_wide.1 (appendSeq_in Fence.wide 4 trivial rfl (Nat.le_refl _) 107 #[.pointer (some ⟨Bm, 0, none⟩)] trivial (enters_of Tryz.func107 (by kernel_rfl) rfl) _ _ kv.length (by omega) w (values_stops 3 (by omega) Bm b kv w hBm hm hk hb))

set_option maxRecDepth 100000 in
set_option maxHeartbeats 400000 in
theorem collect_any (w : World) (Bm b : Nat) (kv : List (St × Ino)) (hN : kv.length ≤ 1000) (hBm : Bm < w.heap.size) (hm : w.cell? ⟨Bm, 0, none⟩ = some (.map (some b))) (hk : MapAt w b St.v Ino.v kv) (hb : b < w.heap.size) :
    Calls Tryz.prog 105 #[.func (.func 107) #[] #[.pointer (some ⟨Bm, 0, none⟩)]] w fun e w' => ∃ (v : Value) (xs : List Ino), e = .returned v ∧ xs.Perm (kv.map (·.2)) ∧ w'.ownsRow w.heap.size 28 6 v xs.length (xs.flatMap Ino.cells) ∧ Below w.heap.size w w' := by
  have HA := Lib.hid (appendSeq_any w Bm b kv hN hBm hm hk hb)
  clear hm hk
  go_enter Tryz.func105, Tryz.ntmps105
  go_wp2_with (go_at_call 146; refine HA.out.mono ?_; rintro e w' ⟨v, xs, rfl, h1, h2, h3⟩; have H1 := Lib.hid h1; have H2 := Lib.hid h2; have H3 := Lib.hid h3; clear h1 h2 h3)
  go_ret
  exact ⟨v, xs, rfl, H1.out, H2.out, H3.out⟩

set_option maxRecDepth 100000 in
set_option maxHeartbeats 400000 in
theorem sortedFunc_any (w : World) (Bm b : Nat) (kv : List (St × Ino)) (hN : kv.length ≤ 1000) (hBm : Bm < w.heap.size) (hm : w.cell? ⟨Bm, 0, none⟩ = some (.map (some b))) (hk : MapAt w b St.v Ino.v kv) (hb : b < w.heap.size) (hnd : (kv.map (·.2.id)).Nodup) :
    Calls Tryz.prog 67 #[.func (.func 107) #[] #[.pointer (some ⟨Bm, 0, none⟩)], .func (.func 69) #[] #[]] w fun e w' => ∃ (v : Value) (xs : List Ino), e = .returned v ∧ xs.Perm (kv.map (·.2)) ∧ RisesN xs ∧ w'.ownsRow w.heap.size 28 6 v xs.length (xs.flatMap Ino.cells) ∧ Below w.heap.size w w' := by
  have HA := Lib.hid (collect_any w Bm b kv hN hBm hm hk hb)
  have HSO : Hid (∀ v (xs : List Ino) (w' : World), xs.Perm (kv.map (·.2)) → w'.ownsRow w.heap.size 28 6 v xs.length (xs.flatMap Ino.cells) → Calls Tryz.prog 106 #[v, .func (.func 69) #[] #[]] w' fun e w2 => e = .returned (.tuple #[]) ∧ ∃ zs' : List Ino, zs'.Perm xs ∧ RisesN zs' ∧ w2.ownsRow w.heap.size 28 6 v zs'.length (zs'.flatMap Ino.cells) ∧ Below w.heap.size w' w2 ∧ w'.drawn ≤ w2.drawn) := Lib.hid fun v xs w' hp ho => by
    refine sortIno_any _ v xs w' ho (by have := hp.length_eq; simp at this; omega) ?_
    refine (hp.map Ino.id).nodup_iff.2 ?_
    rw [List.map_map]
    exact hnd
  clear hm hk hnd
  go_enter Tryz.func67, Tryz.ntmps67
  go_wp2_with (first
    | (go_at_call 106; refine (HS.out).mono ?_; rintro e w2 ⟨rfl, zs, h1, h2, h3, h4, _⟩; have G1 := Lib.hid h1; have G2 := Lib.hid h2; have G3 := Lib.hid h3; have G4 := Lib.hid h4; clear h1 h2 h3 h4)
    | (go_at_call 105; refine HA.out.mono ?_; rintro e w' ⟨v, xs, rfl, h1, h2, h3⟩; have H1 := Lib.hid h1; have H3 := Lib.hid h3; have HS := Lib.hid (HSO.out v xs w' h1 h2); clear h1 h2 h3))
  go_ret
  exact ⟨v, zs, rfl, G1.out.trans H1.out, G2.out, G3.out, H3.out.trans G4.out⟩

set_option maxRecDepth 100000 in
set_option maxHeartbeats 400000 in
theorem inodes_any (gb mI mE : Nat) (g : Gr) (w : World) (h : GrAt w gb mI mE g) (hs : RisesN g.n) (hl : g.n.length ≤ 1000) :
    Calls Tryz.prog 36 #[.pointer (some ⟨gb, 0, none⟩)] w fun e w' => ∃ v : Value, e = .returned v ∧ w'.ownsRow w.heap.size 28 6 v g.n.length (g.n.flatMap Ino.cells) ∧ Below w.heap.size w w' := by
  obtain ⟨c0, c1⟩ := h.cells
  have hlt := h.lt.1
  have hmI := h.lt.2.1
  obtain ⟨kv, hm, hp⟩ := h.nodes
  have hkl : kv.length ≤ 1000 := by rw [hp.length_eq]; simp [nodesKV]; exact hl
  have hnd : (kv.map (·.2.id)).Nodup := by
    rw [(hp.map _).nodup_iff]
    simp only [nodesKV, List.map_map]
    exact hs.nodup strictSt
  have HSF : Hid (∀ (W : World) Bm, Below w.heap.size w W → Bm < W.heap.size → W.cell? ⟨Bm, 0, none⟩ = some (.map (some mI)) → Calls Tryz.prog 67 #[.func (.func 107) #[] #[.pointer (some ⟨Bm, 0, none⟩)], .func (.func 69) #[] #[]] W fun e w' => ∃ (v : Value), e = .returned v ∧ w'.ownsRow W.heap.size 28 6 v g.n.length (g.n.flatMap Ino.cells) ∧ Below W.heap.size W w') := Lib.hid fun W Bm hW hB hc => by
    refine (sortedFunc_any W Bm mI kv hkl hB hc (hm.below hW hmI) (Nat.lt_of_lt_of_le hmI hW.size) hnd).mono ?_
    rintro e w' ⟨v, xs, he, h1, h2, h3, h4⟩
    have e2 : xs = g.n := by
      refine RisesK.eq strictSt h2 hs (h1.trans ?_)
      have := hp.map (·.2)
      rw [show (nodesKV g.n).map (·.2) = g.n by unfold nodesKV; rw [List.map_map]; exact List.map_id g.n] at this
      exact this
    subst e2
    exact ⟨v, he, h3, h4⟩
  clear hm hp hnd h c1
  go_enter Tryz.func36, Tryz.ntmps36
  go_wp2_with (first
    | (go_at_call 67; refine (HS.out).mono ?_; rintro e w2 ⟨v, rfl, h1, h2⟩; have H1 := Lib.hid h1; have H2 := Lib.hid h2; clear h1 h2)
    | (go_at_call 68; refine (values_any _ _).mono ?_; rintro e w' ⟨rfl, h1, h2⟩; have HB := Lib.hid h1; have HS := Lib.hid (HSF.out w' w.heap.size h1 (block_lt_of_cell h2) h2); clear h1 h2))
  go_ret
  exact ⟨v, rfl, ownsRow_mono H1.out HB.out.size, HB.out.trans (H2.out.mono HB.out.size)⟩

end Go.Proofs.YtfbjiaedfmdcfaaGreatDoor

/-! ## Entries -/
namespace Go.Proofs.YtfbjiaedfmdcfaaGreatDoor
open Go.RowKit Go.Shelf

theorem cells_third (w : World) (o o' : Obj) (cs : List Value) (t : TypeId) : ∀ j u, cs[j]? = some u → (((w.alloc o).alloc o').alloc (.cells cs.toArray t)).cell? ((⟨w.heap.size + 1 + 1, 0, none⟩ : Addr).add j) = some u := by
  intro j u hj
  rw [Addr.add_lit, Nat.zero_add]
  exact cell_new ((w.alloc o).alloc o') _ (by simp) _ _ j u (by simpa using hj)

def entOf (p : Pl × St) : Ent := ⟨p.1.at_, p.1.name, p.2⟩
theorem entOf_kv (l : List Ent) : (entsKV l).map entOf = l := by
  unfold entsKV
  rw [List.map_map]
  exact List.map_id l

set_option maxRecDepth 100000 in
set_option maxHeartbeats 2000000 in
theorem entries_any (gb mI mE : Nat) (g : Gr) (w : World) (h : GrAt w gb mI mE g) (hs : RisesE g.e) (hl : g.e.length ≤ 1000) :
    Calls Tryz.prog 46 #[.pointer (some ⟨gb, 0, none⟩)] w fun e w' => ∃ v : Value, e = .returned v ∧ w'.ownsRow w.heap.size 125 5 v g.e.length (g.e.flatMap Ent.cells) ∧ Below w.heap.size w w' := by
  obtain ⟨i0, hinf, hz0, hz1, hz2⟩ := info_parts infoEnt
  obtain ⟨c0, c1⟩ := h.cells
  have hlt := h.lt.1
  have hmE := h.lt.2.2
  obtain ⟨kv, hm, hp⟩ := h.ents
  have hkl : kv.length ≤ 1000 := by rw [hp.length_eq]; simp [entsKV]; exact hl
  obtain ⟨w3, hrun, hN3, hR3⟩ := run_range_kv (P := Tryz.prog) Tryz.underlying98 hm
  have hpl : ∀ took : List (Pl × St), took.Perm kv → ((took.map entOf).map Ent.pl).Nodup := by
    intro took ht
    have e : (took.map entOf).map Ent.pl = took.map (·.1) := by rw [List.map_map]; rfl
    rw [e, ((ht.trans hp).map _).nodup_iff, entsKV_keys]
    exact hs.nodup strictPl
  have hfin : ∀ took : List (Pl × St), took.Perm kv → ∀ xs : List Ent, xs.Perm (took.map entOf) → RisesE xs → xs = g.e := by
    intro took ht xs hx hr
    refine RisesK.eq strictPl hr hs (hx.trans ?_)
    have := (ht.trans hp).map entOf
    rw [entOf_kv] at this
    exact this
  have HPL := Lib.hid hpl
  have HFIN := Lib.hid hfin
  have HN3 := Lib.hid hN3
  have HR3 := Lib.hid hR3
  have HKV := Lib.hid hkl
  have HRS : Hid (w.heap.size < w3.heap.size ∧ mE < w.heap.size) := Lib.hid ⟨by obtain ⟨_, _, _, _, hi⟩ := HR3.out.iter; exact (Array.getElem?_eq_some_iff.1 hi).1, hmE⟩
  clear hpl hfin hm hp hN3 hR3 h hs hl hkl c0 hmE
  go_enter Tryz.func46, Tryz.ntmps46
  go_wp2
  clear hrun
  go_loopg [3] (kv.length + 1) (fun gg s3 wr => ∃ (took : List (Pl × St)) (k : Nat), k + 1 ≤ gg ∧ took.length + k = kv.length ∧ Aside (RangeAt wr w.heap.size mE Pl.v St.v kv took k) ∧ Aside (wr.ownsRow w3.heap.size 125 5 s3 took.length ((took.map entOf).flatMap Ent.cells)) ∧ Aside (Below w.heap.size w wr ∧ w3.heap.size ≤ wr.heap.size))
  case atStart => exact ⟨[], kv.length, by omega, by simp, HR3.out, (show Aside _ from World.ownsRow_nil _ _ _ _), (show Aside _ from ⟨HN3.out.below, Nat.le_refl _⟩)⟩
  case round =>
    obtain ⟨took, k, hgg, hlen, hR, hrow, hB⟩ := hrel
    cases k with
    | zero =>
      obtain ⟨hp, _⟩ := run_next_done (P := Tryz.prog) hR.out 0
      have hnx' : ∀ ty, (Instr.next (.pointer (some ⟨w.heap.size, 0, none⟩)) false ty).run Tryz.prog wr = .ok (.tuple #[.bool false]) wr := fun ty => (run_next_done (P := Tryz.prog) hR.out ty).2
      have HP := Lib.hid hp
      have hso := sortEnt_any w3.heap.size u3 (took.map entOf) wr (by rw [List.length_map]; exact hrow.out) (by rw [List.length_map]; have := HKV.out; omega) (HPL.out took hp)
      clear hp
      go_wp2_with (go_at_call 86; refine hso.mono ?_; rintro x w4 ⟨rfl, zs, hz1', hz2', hz3', hz4', _⟩; have HZ1 := Lib.hid hz1'; have HZ2 := Lib.hid hz2'; have HZ3 := Lib.hid hz3'; have HZ4 := Lib.hid hz4'; clear hz1' hz2' hz3' hz4')
      go_ret
      have e := HFIN.out took HP.out zs HZ1.out HZ2.out
      subst e
      exact ⟨u3, rfl, ownsRow_mono HZ3.out (Nat.le_of_lt HRS.out.1), hB.out.1.trans (HZ4.out.mono (Nat.le_of_lt HRS.out.1))⟩
    | succ k =>
      obtain ⟨p, d, o, hnx, ho, hen, hR2⟩ := run_next_step (P := Tryz.prog) hR.out
      have hne : w.heap.size ≠ mE := by have := HRS.out; omega
      have hen' := hen hne
      have hR2' := hR2 hne
      obtain ⟨W2, hW2⟩ : ∃ W2, W2 = (wr.drewN d).putObj w.heap.size o := ⟨_, rfl⟩
      rw [← hW2] at hnx hen' hR2'
      unfold St.v Pl.v at hen'
      have HR2 := Lib.hid hR2'
      have hsz2 : W2.heap.size = wr.heap.size := by rw [hW2]; simp [World.drewN]
      have HB2' : Hid (Below w.heap.size w W2) := Lib.hid (by
        rw [hW2]
        have h := hB.out.1
        exact ⟨h.os, h.tape, h.output, by simpa [World.drewN] using h.size, fun j hj => (World.putObj_heap_other (by omega)).trans (h.block j hj)⟩)
      have HRW : Hid (W2.ownsRow w3.heap.size 125 5 u3 took.length ((took.map entOf).flatMap Ent.cells)) := Lib.hid (ownsRow_heap hrow.out fun j hj => by
        rw [hW2]; exact World.putObj_heap_other (by have := HRS.out; omega))
      have HSZ2 := Lib.hid hsz2
      clear hen hR2 hR2' ho hW2 hsz2
      go_wp2_with (at_builtin; refine wpList_append_own _ rfl _ _ 86 rfl w3.heap.size 125 i0 _ 5 48 Tryz.underlying86 hinf hz0 hz1 hz2 rfl (by decide) _ _ _ rfl (((HRW.out.alloc _).alloc _).alloc _) ⟨W2.heap.size + 1 + 1, 0, none⟩ 1 1 (entOf p).cells rfl rfl (cells_third W2 _ _ (entOf p).cells _) (Ent.one (entOf p)) (by have := HKV.out; simp only [maxLen]; omega) (by have := HKV.out; omega) (by have := HSZ2.out; have := hB.out.2; simp only [World.size_alloc]; omega) ?_; intro v' w5 hown' hgrow _; have HO := Lib.hid hown'; have HG := Lib.hid hgrow; clear hown' hgrow)
      go_roundg (k + 1)
      case measure => omega
      case rel =>
        have hge := fun j (hj : u3.ownBlock = some j) => rowGe HRW.out hj
        have hz := HSZ2.out
        have hz3 := hB.out.2
        have hr3 := HRS.out
        have hk5 : ∀ j, j < w3.heap.size → w5.heap[j]? = W2.heap[j]? := fun j hj => by
          rw [HG.out.block j (by simp only [World.size_alloc]; omega) (fun ej => by have := hge j ej.symm; omega)]
          rw [Below.heap_alloc _ _ _ (by simp only [World.size_alloc]; omega), Below.heap_alloc _ _ _ (by simp only [World.size_alloc]; omega), Below.heap_alloc _ _ _ (by omega)]
        have hs5 : W2.heap.size ≤ w5.heap.size := by have := HG.out.size; simp only [World.size_alloc] at this; omega
        refine ⟨took ++ [p], k, Nat.le_refl _, by simp; omega, (show Aside _ from HR2.out.kept (hk5 _ (by omega)) (hk5 _ (by omega))), (show Aside _ from ?_), (show Aside _ from ⟨?_, by omega⟩)⟩
        · have h := HO.out
          exact (by simpa using h : w5.ownsRow w3.heap.size 125 5 v' (took ++ [p]).length (((took ++ [p]).map entOf).flatMap Ent.cells))
        · have h := HB2'.out
          have hgo := HG.out
          exact ⟨hgo.os.trans h.os, hgo.tape.trans h.tape, hgo.output.trans h.output, Nat.le_trans h.size hs5, fun j hj => (hk5 j (by omega)).trans (h.block j hj)⟩

end Go.Proofs.YtfbjiaedfmdcfaaGreatDoor
