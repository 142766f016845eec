/-
  The audit's apart, Check and Fine; condition: at most 1000 of each, and names no longer than a string may be.
-/
import Derived.Test.YtlokljaeknmdpaaGreatQAudH
namespace Go.Proofs.YtlokljaeknmdpaaGreat
open Go.RowKit Go.Shelf

open Classical in
noncomputable def apartB (n : List Ino) (e : List Ent) : Bool := n.all fun i => decide (Reached n e i.id)

set_option maxRecDepth 100000 in
set_option maxHeartbeats 1000000 in
theorem apart_any (g : Value) (n : List Ino) (e : List Ent) (w : World) (h : AuditAt w g n e) (h1 : n.length ≤ 1000) (h2 : e.length ≤ 1000) :
    Calls Tryz.prog 71 #[g] w fun x w' => x = .returned (.bool (apartB n e)) ∧ Below w.heap.size w w' := by
  have hA := h
  obtain ⟨vn, ve, kb, lb, kk, kl, rfl, hn, he, _, _, _, _, _, _⟩ := h.ex
  have hb0 : Below w.heap.size w (w.alloc (.cells #[vn, ve, .map (some kb), .map (some lb)] 98)) := (Below.refl _ w).alloc (Nat.le_refl _) _
  have hr := reach_any _ n e _ (hA.below hb0) h2
  have HN : Hid (∀ W, Below w.heap.size w W → SlAt W 6 Ino.cells vn n) := Lib.hid fun W hW => hn.below hW
  have HB0 := Lib.hid hb0
  have hC : ∀ (kv : List (St × Bool)) (sb : Nat) (W : World), Below w.heap.size w W → MapAt W sb St.v boolV kv → sb < W.heap.size → SeenOk n e kv → SeenAll n e kv →
      Calls Tryz.prog 116 #[vn, .func (.func 125) #[] #[.pointer (some ⟨W.heap.size, 0, none⟩)]] (W.alloc (.cells #[.map (some sb)] 151)) fun x w' => x = .returned (.bool (!apartB n e)) ∧ Below W.heap.size W w' := by
    intro kv sb W hW hm hs h3 h4
    have hbW : Below W.heap.size W (W.alloc (.cells #[.map (some sb)] 151)) := (Below.refl _ W).alloc (Nat.le_refl _) _
    have hc0 := cell_new W _ rfl #[Value.map (some sb)] 151 0 _ rfl
    have hc := containsIno (fun i => !(hasK kv i.id)) 125 #[.pointer (some ⟨W.heap.size, 0, none⟩)] (enters_of Tryz.func125 (by kernel_rfl) rfl) vn n (W.alloc (.cells #[.map (some sb)] 151)) ((HN.out W hW).below hbW) h1
      (fun W2 x hW2 => apart1_any _ sb kv x W2 ((hm.below hbW hs).below hW2 (by simp only [World.size_alloc]; omega)) (by have := hW2.size; simp only [World.size_alloc] at this; omega) ((hW2.cell (p := ⟨W.heap.size, 0, none⟩) (by simp)).trans hc0) (by have := hW2.size; simp only [World.size_alloc] at this; omega))
    refine hc.mono ?_
    rintro x w' ⟨rfl, hb⟩
    refine ⟨?_, hbW.trans (hb.mono (by simp))⟩
    have e1 : (n.any fun i => !(hasK kv i.id)) = !apartB n e := by
      unfold apartB
      rw [List.not_all_eq_any_not]
      congr 1
      funext i
      congr 1
      exact Bool.eq_iff_iff.2 ((h3.all h4 i.id).trans (@decide_eq_true_iff _ (_)).symm)
    rw [e1]
  have HC := Lib.hid hC
  clear hn he hA h hb0 hC
  generalize apartB n e = y at HC
  go_enter Tryz.func71, Tryz.ntmps71
  go_wp2_with (first
    | (go_at_call 124; refine hr.mono ?_; rintro x w' ⟨sb, kv, rfl, hs1, hs2, hm, h3, h4, hN⟩; have HB := Lib.hid (after1 hN).2; have c0 : w'.cell? ⟨w.heap.size, 0, none⟩ = some vn := (after1 hN).1 0 _ rfl; have hcc := HC.out kv sb w' HB.out hm hs2 h3 h4; have HM := Lib.hid hm; have H3 := Lib.hid h3; have H4 := Lib.hid h4; have HS := Lib.hid (after1 hN).1; have HWW : Hid (w.heap.size < w'.heap.size) := Lib.hid (by have := hN.size; simp only [World.size_alloc] at this; omega); have c0' : (w'.alloc (.cells #[.map (some sb)] 151)).cell? ⟨w.heap.size, 0, none⟩ = some vn := Lib.cell?_alloc_some _ c0; clear hN hm h3 h4 hs1 hs2)
    | (go_at_call 116; refine hcc.mono ?_; rintro x w2 ⟨rfl, hN⟩; have HB2 := Lib.hid (HB.out.trans (hN.mono HB.out.size)); clear hN))
  go_ret
  exact ⟨by cases y <;> rfl, HB2.out⟩

theorem ownsRow_below {W W' : World} {base : Nat} {t : TypeId} {size : Nat} {v : Value} {k : Nat} {xs : List Value} (h : W.ownsRow base t size v k xs) (hb : Below W.heap.size W W') : W'.ownsRow base t size v k xs := by
  refine ⟨h.1, ?_⟩
  rcases h.2 with h0 | ⟨g, cap, cur, hv, hg, hh, h1, h2, h3, h4⟩
  · exact .inl h0
  · exact .inr ⟨g, cap, cur, hv, hg, (hb.block g (Array.getElem?_eq_some_iff.1 hh).1).trans hh, h1, h2, h3, h4⟩

theorem ownsRow_mono {W : World} {base B : Nat} {t : TypeId} {size : Nat} {v : Value} {k : Nat} {xs : List Value} (h : W.ownsRow base t size v k xs) (hb : B ≤ base) : W.ownsRow B t size v k xs := by
  refine ⟨h.1, ?_⟩
  rcases h.2 with h0 | ⟨g, cap, cur, hv, hg, rest⟩
  · exact .inl h0
  · exact .inr ⟨g, cap, cur, hv, Nat.le_trans hb hg, rest⟩

theorem below_append {w W W2 : World} {o : Obj} {B : Nat} {t : TypeId} {v : Value} {k : Nat} {xs : List Value} (hb : Below B w W) (hB : B ≤ w.heap.size) (hg : (W.alloc o).grownBy W2 v.ownBlock) (hr : W.ownsRow B t 1 v k xs) : Below B w W2 := by
  refine (hb.alloc (Nat.le_trans hB hb.size) o).grown hg (by have := hb.size; simp only [World.size_alloc]; omega) (fun j ej => ?_)
  rcases hr.2 with ⟨rfl, _⟩ | ⟨g, cap, cur, rfl, hg', _⟩
  · simp [Value.ownBlock] at ej
  · simp [Value.ownBlock] at ej; omega

/-- the faults, of the first k tests -/
def faultsOf (bs : List Bool) (k : Nat) : List Int := (List.range k).filterMap fun i => if bs[i]! then none else some ((i : Int) + 1)
theorem faultsOf_succ (bs : List Bool) (k : Nat) : faultsOf bs (k + 1) = faultsOf bs k ++ (if bs[k]! then [] else [(k : Int) + 1]) := by
  unfold faultsOf
  rw [List.range_succ, List.filterMap_append]
  congr 1
  cases h : bs[k]! <;> simp only [List.filterMap_cons, List.filterMap_nil, h] <;> rfl

theorem faultsOf_len (bs : List Bool) (k : Nat) : (faultsOf bs k).length ≤ k := by
  have := List.length_filterMap_le (fun i : Nat => if bs[i]! then none else some ((i : Int) + 1)) (List.range k)
  rw [List.length_range] at this
  exact this

noncomputable def checksOf (n : List Ino) (e : List Ent) : List Bool := [orderB n e, shapeB n e, !e.any (lostB n), !n.any (countB e), !n.any (manyB e), apartB n e, allBoundsB n]
noncomputable def faults (n : List Ino) (e : List Ent) : List Int := faultsOf (checksOf n e) 7

theorem infoInt : (Tryz.prog.info? 3).map (fun i => (i.zero, i.size, i.bytes)) = some (some (.int .i64 0), 1, 8) := by kernel_rfl

set_option maxRecDepth 100000 in
set_option maxHeartbeats 4000000 in
theorem check_any (vn ve : Value) (n : List Ino) (e : List Ent) (w : World) (hn : SlAt w 6 Ino.cells vn n) (he : SlAt w 5 Ent.cells ve e) (h1 : n.length ≤ 1000) (h2 : e.length ≤ 1000) (hnm : ∀ x ∈ e, x.name.size ≤ maxLen) :
    Calls Tryz.prog 21 #[vn, ve] w fun x w' => ∃ v, x = .returned v ∧ w'.ownsRow w.heap.size 3 1 v (faults n e).length ((faults n e).map intV) ∧ Below w.heap.size w w' := by
  have hmade := made_any vn ve n e w hn he h1 h2
  obtain ⟨i0, hinf, hz0, hz1, hz2⟩ := info_parts infoInt
  have HG : Hid (∀ (w' : World) (g : Value), AuditAt w' g n e → ∃ na nc ea ec kb lb, g = .agg #[.slice na n.length nc, .slice ea e.length ec, .map (some kb), .map (some lb)]) := Lib.hid fun w' g h => by
    obtain ⟨vn, ve, kb, lb, _, _, h, ha, hb, _⟩ := h.ex
    obtain ⟨na, nc, rfl⟩ := ha.len
    obtain ⟨ea, ec, rfl⟩ := hb.len
    exact ⟨na, nc, ea, ec, kb, lb, h⟩
  have HC : Hid (∀ (w' : World) (g : Value), AuditAt w' g n e → (∀ W, Below w'.heap.size w' W →  (Calls Tryz.prog 66 #[g] W fun x w2 => x = .returned (.bool ((checksOf n e)[0]!)) ∧ Below W.heap.size W w2) ∧
      (Calls Tryz.prog 67 #[g] W fun x w2 => x = .returned (.bool ((checksOf n e)[1]!)) ∧ Below W.heap.size W w2) ∧
      (Calls Tryz.prog 68 #[g] W fun x w2 => x = .returned (.bool ((checksOf n e)[2]!)) ∧ Below W.heap.size W w2) ∧
      (Calls Tryz.prog 69 #[g] W fun x w2 => x = .returned (.bool ((checksOf n e)[3]!)) ∧ Below W.heap.size W w2) ∧
      (Calls Tryz.prog 70 #[g] W fun x w2 => x = .returned (.bool ((checksOf n e)[4]!)) ∧ Below W.heap.size W w2) ∧
      (Calls Tryz.prog 71 #[g] W fun x w2 => x = .returned (.bool ((checksOf n e)[5]!)) ∧ Below W.heap.size W w2) ∧
      (Calls Tryz.prog 72 #[g] W fun x w2 => x = .returned (.bool ((checksOf n e)[6]!)) ∧ Below W.heap.size W w2))) := Lib.hid fun w' g hA W hW => ⟨order_any _ n e W (hA.below hW) h1 h2, shape_any _ n e W (hA.below hW) h1 h2 hnm, lost_any _ n e W (hA.below hW) h2, count_any _ n e W (hA.below hW) h1, many_any _ n e W (hA.below hW) h1, apart_any _ n e W (hA.below hW) h1 h2, bounds_any _ n e W (hA.below hW) h1⟩
  clear hn he h1 h2 hnm
  unfold faults
  obtain ⟨bs, hbs⟩ : ∃ bs, bs = checksOf n e := ⟨_, rfl⟩
  rw [← hbs] at HC ⊢
  clear hbs
  go_enter Tryz.func21, Tryz.ntmps21
  go_wp2_with (go_at_call 65; refine hmade.mono ?_; rintro x w' ⟨g, rfl, hA, hN⟩; obtain ⟨na, nc, ea, ec, kb, lb, rfl⟩ := HG.out w' g hA; have HB := Lib.hid hN; have HM := Lib.hid (HC.out w' _ hA); clear hN hA)
  clear hmade HG HC
  go_loopg [6, 27] 7 (fun gg s6 s27 wr => ∃ (k : Nat) (l : List Int), k ≤ 7 ∧ 7 - k ≤ gg ∧ s27 = .int .i64 k ∧ Aside (Below w'.heap.size w' wr) ∧ Aside (wr.ownsRow w'.heap.size 3 1 s6 l.length (l.map intV)) ∧ Aside (l = faultsOf bs k))
  case atStart => exact ⟨0, [], Nat.zero_le _, by omega, rfl, (show Aside _ from (Below.refl _ w').alloc (Nat.le_refl _) _), (show Aside _ from World.ownsRow_nil _ _ _ _), rfl⟩
  case round =>
    obtain ⟨k, l, hk, hg, rfl, BWW, hrow, hl⟩ := hrel
    have HLEN : Hid (l.length ≤ k) := Lib.hid (by rw [hl.out]; exact faultsOf_len bs k)
    have hk' : k = 7 ∨ k = 0 ∨ k = 1 ∨ k = 2 ∨ k = 3 ∨ k = 4 ∨ k = 5 ∨ k = 6 := by omega
    rcases hk' with rfl | rfl | rfl | rfl | rfl | rfl | rfl | rfl
    · go_wp2
      go_ret
      refine ⟨_, rfl, ?_, HB.out.trans (BWW.out.mono HB.out.size)⟩
      rw [← hl.out]
      exact ownsRow_mono hrow.out HB.out.size
    · rw [show ((0 : Nat) : Int) = (0 : Int) from rfl]
      have hidx : ∀ W, (Instr.index 100 (.agg #[.func (.func 66) #[.agg #[.slice na n.length nc, .slice ea e.length ec, .map (some kb), .map (some lb)]] #[], .func (.func 67) #[.agg #[.slice na n.length nc, .slice ea e.length ec, .map (some kb), .map (some lb)]] #[], .func (.func 68) #[.agg #[.slice na n.length nc, .slice ea e.length ec, .map (some kb), .map (some lb)]] #[], .func (.func 69) #[.agg #[.slice na n.length nc, .slice ea e.length ec, .map (some kb), .map (some lb)]] #[], .func (.func 70) #[.agg #[.slice na n.length nc, .slice ea e.length ec, .map (some kb), .map (some lb)]] #[], .func (.func 71) #[.agg #[.slice na n.length nc, .slice ea e.length ec, .map (some kb), .map (some lb)]] #[], .func (.func 72) #[.agg #[.slice na n.length nc, .slice ea e.length ec, .map (some kb), .map (some lb)]] #[]]) (.int .i64 0)).run Tryz.prog W = .ok (.func (.func 66) #[.agg #[.slice na n.length nc, .slice ea e.length ec, .map (some kb), .map (some lb)]] #[]) W := fun W => by kernel_rfl
      have hm := (HM.out wr BWW.out).1
      cases hb : bs[0]! with
      | false =>
        rw [hb] at hm
        go_wp2_with (first
          | (go_at_call 66; refine hm.mono ?_; rintro x w2 ⟨rfl, hN⟩; have HB2 := Lib.hid (BWW.out.trans (hN.mono BWW.out.size)); have HR2 := Lib.hid (ownsRow_below hrow.out hN); clear hN)
          | (at_builtin; refine wpList_append_own _ rfl _ _ 23 rfl w'.heap.size 3 i0 _ 1 8 Tryz.underlying23 hinf hz0 hz1 hz2 rfl (by decide) _ _ _ rfl (HR2.out.alloc _) ⟨w2.heap.size, 0, none⟩ 1 1 [.int .i64 1] rfl rfl (cell_one_new _ _ _) (by simp [Value.oneCell']) (by have := HLEN.out; simp only [maxLen]; omega) (by have := HLEN.out; omega) (by have := HB2.out.size; simp only [World.size_alloc]; omega) ?_; intro v' w3 hown' hgrow _; have HO3 := Lib.hid hown'; have HG3 := Lib.hid hgrow; clear hown' hgrow))
        go_roundg (7 - (0 + 1))
        case measure => omega
        case rel =>
          refine ⟨0 + 1, l ++ [1], by omega, by omega, by first | rfl | go_num, (show Aside _ from ?_), (show Aside _ from ?_), (show Aside _ from (by rw [faultsOf_succ, ← hl.out, hb]; simp : l ++ [1] = faultsOf bs (0 + 1)))⟩
          · exact below_append HB2.out (Nat.le_refl _) HG3.out HR2.out
          · have h3 := HO3.out
            simp only [List.map_append, List.map_cons, List.map_nil, List.length_append, List.length_cons, List.length_nil]
            exact h3
      | true =>
        rw [hb] at hm
        go_wp2_with (go_at_call 66; refine hm.mono ?_; rintro x w2 ⟨rfl, hN⟩; have HB2 := Lib.hid (BWW.out.trans (hN.mono BWW.out.size)); have HR2 := Lib.hid (ownsRow_below hrow.out hN); clear hN)
        go_roundg (7 - (0 + 1))
        case measure => omega
        case rel => exact ⟨0 + 1, l, by omega, by omega, by first | rfl | go_num, HB2.out, HR2.out, (show Aside _ from (by rw [faultsOf_succ, ← hl.out, hb]; simp : l = faultsOf bs (0 + 1)))⟩
    · rw [show ((1 : Nat) : Int) = (1 : Int) from rfl]
      have hidx : ∀ W, (Instr.index 100 (.agg #[.func (.func 66) #[.agg #[.slice na n.length nc, .slice ea e.length ec, .map (some kb), .map (some lb)]] #[], .func (.func 67) #[.agg #[.slice na n.length nc, .slice ea e.length ec, .map (some kb), .map (some lb)]] #[], .func (.func 68) #[.agg #[.slice na n.length nc, .slice ea e.length ec, .map (some kb), .map (some lb)]] #[], .func (.func 69) #[.agg #[.slice na n.length nc, .slice ea e.length ec, .map (some kb), .map (some lb)]] #[], .func (.func 70) #[.agg #[.slice na n.length nc, .slice ea e.length ec, .map (some kb), .map (some lb)]] #[], .func (.func 71) #[.agg #[.slice na n.length nc, .slice ea e.length ec, .map (some kb), .map (some lb)]] #[], .func (.func 72) #[.agg #[.slice na n.length nc, .slice ea e.length ec, .map (some kb), .map (some lb)]] #[]]) (.int .i64 1)).run Tryz.prog W = .ok (.func (.func 67) #[.agg #[.slice na n.length nc, .slice ea e.length ec, .map (some kb), .map (some lb)]] #[]) W := fun W => by kernel_rfl
      have hm := (HM.out wr BWW.out).2.1
      cases hb : bs[1]! with
      | false =>
        rw [hb] at hm
        go_wp2_with (first
          | (go_at_call 67; refine hm.mono ?_; rintro x w2 ⟨rfl, hN⟩; have HB2 := Lib.hid (BWW.out.trans (hN.mono BWW.out.size)); have HR2 := Lib.hid (ownsRow_below hrow.out hN); clear hN)
          | (at_builtin; refine wpList_append_own _ rfl _ _ 23 rfl w'.heap.size 3 i0 _ 1 8 Tryz.underlying23 hinf hz0 hz1 hz2 rfl (by decide) _ _ _ rfl (HR2.out.alloc _) ⟨w2.heap.size, 0, none⟩ 1 1 [.int .i64 2] rfl rfl (cell_one_new _ _ _) (by simp [Value.oneCell']) (by have := HLEN.out; simp only [maxLen]; omega) (by have := HLEN.out; omega) (by have := HB2.out.size; simp only [World.size_alloc]; omega) ?_; intro v' w3 hown' hgrow _; have HO3 := Lib.hid hown'; have HG3 := Lib.hid hgrow; clear hown' hgrow))
        go_roundg (7 - (1 + 1))
        case measure => omega
        case rel =>
          refine ⟨1 + 1, l ++ [2], by omega, by omega, by first | rfl | go_num, (show Aside _ from ?_), (show Aside _ from ?_), (show Aside _ from (by rw [faultsOf_succ, ← hl.out, hb]; simp : l ++ [2] = faultsOf bs (1 + 1)))⟩
          · exact below_append HB2.out (Nat.le_refl _) HG3.out HR2.out
          · have h3 := HO3.out
            simp only [List.map_append, List.map_cons, List.map_nil, List.length_append, List.length_cons, List.length_nil]
            exact h3
      | true =>
        rw [hb] at hm
        go_wp2_with (go_at_call 67; refine hm.mono ?_; rintro x w2 ⟨rfl, hN⟩; have HB2 := Lib.hid (BWW.out.trans (hN.mono BWW.out.size)); have HR2 := Lib.hid (ownsRow_below hrow.out hN); clear hN)
        go_roundg (7 - (1 + 1))
        case measure => omega
        case rel => exact ⟨1 + 1, l, by omega, by omega, by first | rfl | go_num, HB2.out, HR2.out, (show Aside _ from (by rw [faultsOf_succ, ← hl.out, hb]; simp : l = faultsOf bs (1 + 1)))⟩
    · rw [show ((2 : Nat) : Int) = (2 : Int) from rfl]
      have hidx : ∀ W, (Instr.index 100 (.agg #[.func (.func 66) #[.agg #[.slice na n.length nc, .slice ea e.length ec, .map (some kb), .map (some lb)]] #[], .func (.func 67) #[.agg #[.slice na n.length nc, .slice ea e.length ec, .map (some kb), .map (some lb)]] #[], .func (.func 68) #[.agg #[.slice na n.length nc, .slice ea e.length ec, .map (some kb), .map (some lb)]] #[], .func (.func 69) #[.agg #[.slice na n.length nc, .slice ea e.length ec, .map (some kb), .map (some lb)]] #[], .func (.func 70) #[.agg #[.slice na n.length nc, .slice ea e.length ec, .map (some kb), .map (some lb)]] #[], .func (.func 71) #[.agg #[.slice na n.length nc, .slice ea e.length ec, .map (some kb), .map (some lb)]] #[], .func (.func 72) #[.agg #[.slice na n.length nc, .slice ea e.length ec, .map (some kb), .map (some lb)]] #[]]) (.int .i64 2)).run Tryz.prog W = .ok (.func (.func 68) #[.agg #[.slice na n.length nc, .slice ea e.length ec, .map (some kb), .map (some lb)]] #[]) W := fun W => by kernel_rfl
      have hm := (HM.out wr BWW.out).2.2.1
      cases hb : bs[2]! with
      | false =>
        rw [hb] at hm
        go_wp2_with (first
          | (go_at_call 68; refine hm.mono ?_; rintro x w2 ⟨rfl, hN⟩; have HB2 := Lib.hid (BWW.out.trans (hN.mono BWW.out.size)); have HR2 := Lib.hid (ownsRow_below hrow.out hN); clear hN)
          | (at_builtin; refine wpList_append_own _ rfl _ _ 23 rfl w'.heap.size 3 i0 _ 1 8 Tryz.underlying23 hinf hz0 hz1 hz2 rfl (by decide) _ _ _ rfl (HR2.out.alloc _) ⟨w2.heap.size, 0, none⟩ 1 1 [.int .i64 3] rfl rfl (cell_one_new _ _ _) (by simp [Value.oneCell']) (by have := HLEN.out; simp only [maxLen]; omega) (by have := HLEN.out; omega) (by have := HB2.out.size; simp only [World.size_alloc]; omega) ?_; intro v' w3 hown' hgrow _; have HO3 := Lib.hid hown'; have HG3 := Lib.hid hgrow; clear hown' hgrow))
        go_roundg (7 - (2 + 1))
        case measure => omega
        case rel =>
          refine ⟨2 + 1, l ++ [3], by omega, by omega, by first | rfl | go_num, (show Aside _ from ?_), (show Aside _ from ?_), (show Aside _ from (by rw [faultsOf_succ, ← hl.out, hb]; simp : l ++ [3] = faultsOf bs (2 + 1)))⟩
          · exact below_append HB2.out (Nat.le_refl _) HG3.out HR2.out
          · have h3 := HO3.out
            simp only [List.map_append, List.map_cons, List.map_nil, List.length_append, List.length_cons, List.length_nil]
            exact h3
      | true =>
        rw [hb] at hm
        go_wp2_with (go_at_call 68; refine hm.mono ?_; rintro x w2 ⟨rfl, hN⟩; have HB2 := Lib.hid (BWW.out.trans (hN.mono BWW.out.size)); have HR2 := Lib.hid (ownsRow_below hrow.out hN); clear hN)
        go_roundg (7 - (2 + 1))
        case measure => omega
        case rel => exact ⟨2 + 1, l, by omega, by omega, by first | rfl | go_num, HB2.out, HR2.out, (show Aside _ from (by rw [faultsOf_succ, ← hl.out, hb]; simp : l = faultsOf bs (2 + 1)))⟩
    · rw [show ((3 : Nat) : Int) = (3 : Int) from rfl]
      have hidx : ∀ W, (Instr.index 100 (.agg #[.func (.func 66) #[.agg #[.slice na n.length nc, .slice ea e.length ec, .map (some kb), .map (some lb)]] #[], .func (.func 67) #[.agg #[.slice na n.length nc, .slice ea e.length ec, .map (some kb), .map (some lb)]] #[], .func (.func 68) #[.agg #[.slice na n.length nc, .slice ea e.length ec, .map (some kb), .map (some lb)]] #[], .func (.func 69) #[.agg #[.slice na n.length nc, .slice ea e.length ec, .map (some kb), .map (some lb)]] #[], .func (.func 70) #[.agg #[.slice na n.length nc, .slice ea e.length ec, .map (some kb), .map (some lb)]] #[], .func (.func 71) #[.agg #[.slice na n.length nc, .slice ea e.length ec, .map (some kb), .map (some lb)]] #[], .func (.func 72) #[.agg #[.slice na n.length nc, .slice ea e.length ec, .map (some kb), .map (some lb)]] #[]]) (.int .i64 3)).run Tryz.prog W = .ok (.func (.func 69) #[.agg #[.slice na n.length nc, .slice ea e.length ec, .map (some kb), .map (some lb)]] #[]) W := fun W => by kernel_rfl
      have hm := (HM.out wr BWW.out).2.2.2.1
      cases hb : bs[3]! with
      | false =>
        rw [hb] at hm
        go_wp2_with (first
          | (go_at_call 69; refine hm.mono ?_; rintro x w2 ⟨rfl, hN⟩; have HB2 := Lib.hid (BWW.out.trans (hN.mono BWW.out.size)); have HR2 := Lib.hid (ownsRow_below hrow.out hN); clear hN)
          | (at_builtin; refine wpList_append_own _ rfl _ _ 23 rfl w'.heap.size 3 i0 _ 1 8 Tryz.underlying23 hinf hz0 hz1 hz2 rfl (by decide) _ _ _ rfl (HR2.out.alloc _) ⟨w2.heap.size, 0, none⟩ 1 1 [.int .i64 4] rfl rfl (cell_one_new _ _ _) (by simp [Value.oneCell']) (by have := HLEN.out; simp only [maxLen]; omega) (by have := HLEN.out; omega) (by have := HB2.out.size; simp only [World.size_alloc]; omega) ?_; intro v' w3 hown' hgrow _; have HO3 := Lib.hid hown'; have HG3 := Lib.hid hgrow; clear hown' hgrow))
        go_roundg (7 - (3 + 1))
        case measure => omega
        case rel =>
          refine ⟨3 + 1, l ++ [4], by omega, by omega, by first | rfl | go_num, (show Aside _ from ?_), (show Aside _ from ?_), (show Aside _ from (by rw [faultsOf_succ, ← hl.out, hb]; simp : l ++ [4] = faultsOf bs (3 + 1)))⟩
          · exact below_append HB2.out (Nat.le_refl _) HG3.out HR2.out
          · have h3 := HO3.out
            simp only [List.map_append, List.map_cons, List.map_nil, List.length_append, List.length_cons, List.length_nil]
            exact h3
      | true =>
        rw [hb] at hm
        go_wp2_with (go_at_call 69; refine hm.mono ?_; rintro x w2 ⟨rfl, hN⟩; have HB2 := Lib.hid (BWW.out.trans (hN.mono BWW.out.size)); have HR2 := Lib.hid (ownsRow_below hrow.out hN); clear hN)
        go_roundg (7 - (3 + 1))
        case measure => omega
        case rel => exact ⟨3 + 1, l, by omega, by omega, by first | rfl | go_num, HB2.out, HR2.out, (show Aside _ from (by rw [faultsOf_succ, ← hl.out, hb]; simp : l = faultsOf bs (3 + 1)))⟩
    · rw [show ((4 : Nat) : Int) = (4 : Int) from rfl]
      have hidx : ∀ W, (Instr.index 100 (.agg #[.func (.func 66) #[.agg #[.slice na n.length nc, .slice ea e.length ec, .map (some kb), .map (some lb)]] #[], .func (.func 67) #[.agg #[.slice na n.length nc, .slice ea e.length ec, .map (some kb), .map (some lb)]] #[], .func (.func 68) #[.agg #[.slice na n.length nc, .slice ea e.length ec, .map (some kb), .map (some lb)]] #[], .func (.func 69) #[.agg #[.slice na n.length nc, .slice ea e.length ec, .map (some kb), .map (some lb)]] #[], .func (.func 70) #[.agg #[.slice na n.length nc, .slice ea e.length ec, .map (some kb), .map (some lb)]] #[], .func (.func 71) #[.agg #[.slice na n.length nc, .slice ea e.length ec, .map (some kb), .map (some lb)]] #[], .func (.func 72) #[.agg #[.slice na n.length nc, .slice ea e.length ec, .map (some kb), .map (some lb)]] #[]]) (.int .i64 4)).run Tryz.prog W = .ok (.func (.func 70) #[.agg #[.slice na n.length nc, .slice ea e.length ec, .map (some kb), .map (some lb)]] #[]) W := fun W => by kernel_rfl
      have hm := (HM.out wr BWW.out).2.2.2.2.1
      cases hb : bs[4]! with
      | false =>
        rw [hb] at hm
        go_wp2_with (first
          | (go_at_call 70; refine hm.mono ?_; rintro x w2 ⟨rfl, hN⟩; have HB2 := Lib.hid (BWW.out.trans (hN.mono BWW.out.size)); have HR2 := Lib.hid (ownsRow_below hrow.out hN); clear hN)
          | (at_builtin; refine wpList_append_own _ rfl _ _ 23 rfl w'.heap.size 3 i0 _ 1 8 Tryz.underlying23 hinf hz0 hz1 hz2 rfl (by decide) _ _ _ rfl (HR2.out.alloc _) ⟨w2.heap.size, 0, none⟩ 1 1 [.int .i64 5] rfl rfl (cell_one_new _ _ _) (by simp [Value.oneCell']) (by have := HLEN.out; simp only [maxLen]; omega) (by have := HLEN.out; omega) (by have := HB2.out.size; simp only [World.size_alloc]; omega) ?_; intro v' w3 hown' hgrow _; have HO3 := Lib.hid hown'; have HG3 := Lib.hid hgrow; clear hown' hgrow))
        go_roundg (7 - (4 + 1))
        case measure => omega
        case rel =>
          refine ⟨4 + 1, l ++ [5], by omega, by omega, by first | rfl | go_num, (show Aside _ from ?_), (show Aside _ from ?_), (show Aside _ from (by rw [faultsOf_succ, ← hl.out, hb]; simp : l ++ [5] = faultsOf bs (4 + 1)))⟩
          · exact below_append HB2.out (Nat.le_refl _) HG3.out HR2.out
          · have h3 := HO3.out
            simp only [List.map_append, List.map_cons, List.map_nil, List.length_append, List.length_cons, List.length_nil]
            exact h3
      | true =>
        rw [hb] at hm
        go_wp2_with (go_at_call 70; refine hm.mono ?_; rintro x w2 ⟨rfl, hN⟩; have HB2 := Lib.hid (BWW.out.trans (hN.mono BWW.out.size)); have HR2 := Lib.hid (ownsRow_below hrow.out hN); clear hN)
        go_roundg (7 - (4 + 1))
        case measure => omega
        case rel => exact ⟨4 + 1, l, by omega, by omega, by first | rfl | go_num, HB2.out, HR2.out, (show Aside _ from (by rw [faultsOf_succ, ← hl.out, hb]; simp : l = faultsOf bs (4 + 1)))⟩
    · rw [show ((5 : Nat) : Int) = (5 : Int) from rfl]
      have hidx : ∀ W, (Instr.index 100 (.agg #[.func (.func 66) #[.agg #[.slice na n.length nc, .slice ea e.length ec, .map (some kb), .map (some lb)]] #[], .func (.func 67) #[.agg #[.slice na n.length nc, .slice ea e.length ec, .map (some kb), .map (some lb)]] #[], .func (.func 68) #[.agg #[.slice na n.length nc, .slice ea e.length ec, .map (some kb), .map (some lb)]] #[], .func (.func 69) #[.agg #[.slice na n.length nc, .slice ea e.length ec, .map (some kb), .map (some lb)]] #[], .func (.func 70) #[.agg #[.slice na n.length nc, .slice ea e.length ec, .map (some kb), .map (some lb)]] #[], .func (.func 71) #[.agg #[.slice na n.length nc, .slice ea e.length ec, .map (some kb), .map (some lb)]] #[], .func (.func 72) #[.agg #[.slice na n.length nc, .slice ea e.length ec, .map (some kb), .map (some lb)]] #[]]) (.int .i64 5)).run Tryz.prog W = .ok (.func (.func 71) #[.agg #[.slice na n.length nc, .slice ea e.length ec, .map (some kb), .map (some lb)]] #[]) W := fun W => by kernel_rfl
      have hm := (HM.out wr BWW.out).2.2.2.2.2.1
      cases hb : bs[5]! with
      | false =>
        rw [hb] at hm
        go_wp2_with (first
          | (go_at_call 71; refine hm.mono ?_; rintro x w2 ⟨rfl, hN⟩; have HB2 := Lib.hid (BWW.out.trans (hN.mono BWW.out.size)); have HR2 := Lib.hid (ownsRow_below hrow.out hN); clear hN)
          | (at_builtin; refine wpList_append_own _ rfl _ _ 23 rfl w'.heap.size 3 i0 _ 1 8 Tryz.underlying23 hinf hz0 hz1 hz2 rfl (by decide) _ _ _ rfl (HR2.out.alloc _) ⟨w2.heap.size, 0, none⟩ 1 1 [.int .i64 6] rfl rfl (cell_one_new _ _ _) (by simp [Value.oneCell']) (by have := HLEN.out; simp only [maxLen]; omega) (by have := HLEN.out; omega) (by have := HB2.out.size; simp only [World.size_alloc]; omega) ?_; intro v' w3 hown' hgrow _; have HO3 := Lib.hid hown'; have HG3 := Lib.hid hgrow; clear hown' hgrow))
        go_roundg (7 - (5 + 1))
        case measure => omega
        case rel =>
          refine ⟨5 + 1, l ++ [6], by omega, by omega, by first | rfl | go_num, (show Aside _ from ?_), (show Aside _ from ?_), (show Aside _ from (by rw [faultsOf_succ, ← hl.out, hb]; simp : l ++ [6] = faultsOf bs (5 + 1)))⟩
          · exact below_append HB2.out (Nat.le_refl _) HG3.out HR2.out
          · have h3 := HO3.out
            simp only [List.map_append, List.map_cons, List.map_nil, List.length_append, List.length_cons, List.length_nil]
            exact h3
      | true =>
        rw [hb] at hm
        go_wp2_with (go_at_call 71; refine hm.mono ?_; rintro x w2 ⟨rfl, hN⟩; have HB2 := Lib.hid (BWW.out.trans (hN.mono BWW.out.size)); have HR2 := Lib.hid (ownsRow_below hrow.out hN); clear hN)
        go_roundg (7 - (5 + 1))
        case measure => omega
        case rel => exact ⟨5 + 1, l, by omega, by omega, by first | rfl | go_num, HB2.out, HR2.out, (show Aside _ from (by rw [faultsOf_succ, ← hl.out, hb]; simp : l = faultsOf bs (5 + 1)))⟩
    · rw [show ((6 : Nat) : Int) = (6 : Int) from rfl]
      have hidx : ∀ W, (Instr.index 100 (.agg #[.func (.func 66) #[.agg #[.slice na n.length nc, .slice ea e.length ec, .map (some kb), .map (some lb)]] #[], .func (.func 67) #[.agg #[.slice na n.length nc, .slice ea e.length ec, .map (some kb), .map (some lb)]] #[], .func (.func 68) #[.agg #[.slice na n.length nc, .slice ea e.length ec, .map (some kb), .map (some lb)]] #[], .func (.func 69) #[.agg #[.slice na n.length nc, .slice ea e.length ec, .map (some kb), .map (some lb)]] #[], .func (.func 70) #[.agg #[.slice na n.length nc, .slice ea e.length ec, .map (some kb), .map (some lb)]] #[], .func (.func 71) #[.agg #[.slice na n.length nc, .slice ea e.length ec, .map (some kb), .map (some lb)]] #[], .func (.func 72) #[.agg #[.slice na n.length nc, .slice ea e.length ec, .map (some kb), .map (some lb)]] #[]]) (.int .i64 6)).run Tryz.prog W = .ok (.func (.func 72) #[.agg #[.slice na n.length nc, .slice ea e.length ec, .map (some kb), .map (some lb)]] #[]) W := fun W => by kernel_rfl
      have hm := (HM.out wr BWW.out).2.2.2.2.2.2
      cases hb : bs[6]! with
      | false =>
        rw [hb] at hm
        go_wp2_with (first
          | (go_at_call 72; refine hm.mono ?_; rintro x w2 ⟨rfl, hN⟩; have HB2 := Lib.hid (BWW.out.trans (hN.mono BWW.out.size)); have HR2 := Lib.hid (ownsRow_below hrow.out hN); clear hN)
          | (at_builtin; refine wpList_append_own _ rfl _ _ 23 rfl w'.heap.size 3 i0 _ 1 8 Tryz.underlying23 hinf hz0 hz1 hz2 rfl (by decide) _ _ _ rfl (HR2.out.alloc _) ⟨w2.heap.size, 0, none⟩ 1 1 [.int .i64 7] rfl rfl (cell_one_new _ _ _) (by simp [Value.oneCell']) (by have := HLEN.out; simp only [maxLen]; omega) (by have := HLEN.out; omega) (by have := HB2.out.size; simp only [World.size_alloc]; omega) ?_; intro v' w3 hown' hgrow _; have HO3 := Lib.hid hown'; have HG3 := Lib.hid hgrow; clear hown' hgrow))
        go_roundg (7 - (6 + 1))
        case measure => omega
        case rel =>
          refine ⟨6 + 1, l ++ [7], by omega, by omega, by first | rfl | go_num, (show Aside _ from ?_), (show Aside _ from ?_), (show Aside _ from (by rw [faultsOf_succ, ← hl.out, hb]; simp : l ++ [7] = faultsOf bs (6 + 1)))⟩
          · exact below_append HB2.out (Nat.le_refl _) HG3.out HR2.out
          · have h3 := HO3.out
            simp only [List.map_append, List.map_cons, List.map_nil, List.length_append, List.length_cons, List.length_nil]
            exact h3
      | true =>
        rw [hb] at hm
        go_wp2_with (go_at_call 72; refine hm.mono ?_; rintro x w2 ⟨rfl, hN⟩; have HB2 := Lib.hid (BWW.out.trans (hN.mono BWW.out.size)); have HR2 := Lib.hid (ownsRow_below hrow.out hN); clear hN)
        go_roundg (7 - (6 + 1))
        case measure => omega
        case rel => exact ⟨6 + 1, l, by omega, by omega, by first | rfl | go_num, HB2.out, HR2.out, (show Aside _ from (by rw [faultsOf_succ, ← hl.out, hb]; simp : l = faultsOf bs (6 + 1)))⟩

end Go.Proofs.YtlokljaeknmdpaaGreat
