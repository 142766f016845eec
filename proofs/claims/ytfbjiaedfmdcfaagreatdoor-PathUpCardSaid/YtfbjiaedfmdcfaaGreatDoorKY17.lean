/-
  path.Split; condition: a text within reach.
-/
import Derived.Test.YtfbjiaedfmdcfaaGreatDoorKY13
import Derived.Test.YtfbjiaedfmdcfaaGreatDoorKY16
import Derived.RangeFuncBox
/-! ## PathD -/
namespace Go.Proofs.YtfbjiaedfmdcfaaGreatDoor
open Go.RowKit Go.Shelf

attribute [local go_sem] Oper.semAt_some

def goodB (s : ByteArray) : Bool := goodPart s.data.toList
def partsUpto (pre : List ByteArray) : List ByteArray := pre.filter goodB
theorem partsUpto_all (p : ByteArray) : partsUpto ((cutS p.data.toList).map bsOf) = partsOf p := by
  unfold partsUpto partsOf partsL
  rw [List.filter_map]
  congr 1

/-- what lies between two rounds -/
structure SplitAt (w W0 : World) (pre : List ByteArray) (W : World) : Prop where
  below : Below w.heap.size w W
  size : W0.heap.size ≤ W.heap.size
  row : ∃ v, Boxed W w.heap.size 47 v ∧ W.ownsRow W0.heap.size 9 1 v (partsUpto pre).length ((partsUpto pre).map Value.string)

/-- what Split tells -/
def splitParts (p : ByteArray) : List ByteArray := if splitWhy p = 0 then partsOf p else []
theorem splitParts_not {p : ByteArray} (h : splitWhy p ≠ 0) : splitParts p = [] := if_neg h
theorem splitParts_is {p : ByteArray} (h : splitWhy p = 0) : splitParts p = partsOf p := if_pos h

theorem infoStr : (Tryz.prog.info? 9).map (fun i => (i.zero, i.size, i.bytes)) = some (some (.string ⟨#[]⟩), 1, 16) := by kernel_rfl

theorem SplitAt.own (w W0 : World) (h0 : W0.heap.size = w.heap.size + 1 + 1 + 1 + 1) : OwnFrom W0.heap.size (fun pre W => SplitAt w W0 pre W) := by
  intro pre W W' row h hg hr
  obtain ⟨v, h1, h2⟩ := h.row
  obtain ⟨v', h1', h2', _⟩ := holdsRow_own W0.heap.size w.heap.size 47 9 1 (fun pre : List ByteArray => (partsUpto pre).length) (fun pre => (partsUpto pre).map Value.string) (fun _ _ => True) pre W W' row ⟨v, h1, h2, trivial⟩ hg (fun r e => (hr r e).2)
  exact ⟨h.below.grown hg h.below.size (fun k e => by have := (hr k e).1; omega), Nat.le_trans h.size hg.size, v', h1', h2'⟩

theorem ownsRow_new {W W' : World} {base : Nat} {t : TypeId} {size : Nat} {v : Value} {k : Nat} {xs : List Value} (h : W.ownsRow base t size v k xs) (hn : New W W') : W'.ownsRow base t size v k xs :=
  h.kept (row := none) ⟨hn.os, hn.tape, hn.output, hn.size, fun j hj _ => hn.block j hj⟩ (by
    rcases h.2 with ⟨rfl, _⟩ | ⟨g, cap, cur, rfl, _⟩
    · exact .inl rfl
    · exact .inr (by simp [Value.ownBlock]))
theorem boxed_new {W W' : World} {B : Nat} {t : TypeId} {v : Value} (h : Boxed W B t v) (hn : New W W') : Boxed W' B t v := (hn.block B h.lt).trans h

theorem SplitAt.pen (w W0 : World) (h0 : W0.heap.size = w.heap.size + 1 + 1 + 1 + 1) (pre : List ByteArray) (X Y : World) (h : SplitAt w W0 pre X) (ht : PenT (w.heap.size + 1) X Y) : SplitAt w W0 pre Y := by
  obtain ⟨v, h1, h2⟩ := h.row
  rcases ht with ⟨s, rfl⟩ | hn
  · refine ⟨h.below.setCell (p := ⟨w.heap.size + 1, 0, none⟩) (by show w.heap.size ≤ w.heap.size + 1; omega) _, by simpa using h.size, v, h1.other (by omega) _, h2.kept (grownBy_setCell' X (w.heap.size + 1) _) ?_⟩
    rcases h2.2 with ⟨rfl, _⟩ | ⟨g, cap, cur, rfl, hge, _⟩
    · exact .inl rfl
    · refine .inr fun e => ?_
      have : g = w.heap.size + 1 := by simpa [Value.ownBlock] using e
      omega
  · exact ⟨h.below.trans (hn.below.mono h.below.size), Nat.le_trans h.size hn.size, v, boxed_new h1 hn, ownsRow_new h2 hn⟩

theorem PenT.kept {B n : Nat} (hB : B < n) (X Y : World) (k : Nat) (o : Obj) (h : PenT B X Y) (hk : n ≤ k) (ho : X.heap[k]? = some o) : Y.heap[k]? = some o := by
  rcases h with ⟨s, rfl⟩ | hn
  · exact (Below.heap_setCell _ _ _ k (by show k ≠ B; omega)).trans ho
  · exact hn.heap ho

theorem row_below {W w1 : World} {n₀ : Nat} {e : TypeId} {size : Nat} {v : Value} {k : Nat} {xs : List Value} {tmp : Obj} (hrow : W.ownsRow n₀ e size v k xs) (hn : n₀ ≤ W.heap.size) (hg : (W.alloc tmp).grownBy w1 v.ownBlock) : Below n₀ W w1 :=
  ((Below.refl n₀ W).alloc hn tmp).grown hg (by simp; omega) fun j ej => by
    rcases hrow.2 with ⟨rfl, _⟩ | ⟨g, cap, cur, rfl, hb, _, _⟩
    · simp [Value.ownBlock] at ej
    · obtain rfl : g = j := by simpa [Value.ownBlock] using ej
      exact hb
theorem pen_append {W0 W w1 : World} {v : Value} {B : Nat} (h0 : W0.heap.size = B + 1 + 1 + 1 + 1) (hb : Below W0.heap.size W w1) : Pen3 (B + 1) W (w1.setCell ⟨B, 0, none⟩ v) :=
  ⟨by simpa using hb.size, fun b h1 h2 => ⟨(World.cell?_setCell_far _ _ _ _ (show B ≠ b by omega)).trans (hb.cell (p := ⟨b, 0, none⟩) (by show b < _; omega)), (World.frozen?_setCell _ _ _ _).trans (hb.frozen (p := ⟨b, 0, none⟩) (by show b < _; omega))⟩⟩

theorem txAt_putObj {W : World} {D : Nat} {v : Value} {l : List ByteArray} (h : TxAt W v l) (hK : W.heap[D]? = some (.deferred (some []))) : TxAt (W.putObj D (.deferred none)) v l :=
  h.kept (by simp) fun b o _ _ => putObj_cell hK (fun _ _ _ h => by cases h) (fun _ _ _ h => by cases h) _

set_option maxRecDepth 100000 in
set_option maxHeartbeats 2000000 in
theorem split_any (p : ByteArray) (w : World) (hps : p.size ≤ 1000) :
    Calls Tryz.prog 34 #[.string p] w fun e w' => ∃ v, e = .returned (.tuple #[v, .int .i64 (splitWhy p)]) ∧ TxAt w' v (splitParts p) ∧ FreshV w.heap.size v ∧ Below w.heap.size w w' := by
  refine (callsIn_wide (n := 8)).1 ?_
  obtain ⟨i0, hinf, hz0, hz1, hz2⟩ := info_parts infoStr
  refine callsIn_of_wp_marks Tryz.func34 rfl trivial ?_ rfl
  simp only [Tryz.ntmps34, List.size_toArray, List.length_cons, List.length_nil, Nat.reduceAdd, Nat.reduceSub, Array.replicate_succ, Array.replicate_zero, List.push_toArray, List.append_toArray, List.nil_append, List.cons_append]
  gi_wp2_with (refine ⟨trivial, ?_⟩; gi_at_call 63; refine (callsIn_wide.2 (splitSeq_any _ _)).mono ?_; rintro x w' ⟨rfl, rfl⟩)
  obtain ⟨W0, hW0⟩ : ∃ W0, W0 = (((w.alloc (.cells #[.slice none 0 0] 47)).alloc (.cells #[.string p] 9)).alloc (.cells #[.string ⟨#[47]⟩] 9)).alloc (.cells #[.int .i64 0] 3) := ⟨_, rfl⟩
  rw [← hW0]
  have hb0 : Below w.heap.size w W0 := by rw [hW0]; exact ((((Below.refl w.heap.size w).alloc (Nat.le_refl _) _).alloc (by simp) _).alloc (by simp only [World.size_alloc]; omega) _).alloc (by simp only [World.size_alloc]; omega) _
  have hsz : W0.heap.size = w.heap.size + 1 + 1 + 1 + 1 := by rw [hW0]; simp
  have hP0 : PenAt (w.heap.size + 1) W0 p := by
    have b0 : Boxed W0 (w.heap.size + 1) 9 (.string p) := by
      have := Boxed.new (w.alloc (.cells #[.slice none 0 0] 47)) 9 (.string p)
      rw [World.size_alloc] at this
      rw [hW0]; exact (this.alloc _).alloc _
    have b1 : Boxed W0 (w.heap.size + 1 + 1) 9 (.string ⟨#[47]⟩) := by
      have := Boxed.new ((w.alloc (.cells #[.slice none 0 0] 47)).alloc (.cells #[.string p] 9)) 9 (.string ⟨#[47]⟩)
      rw [World.size_alloc, World.size_alloc] at this
      rw [hW0]; exact this.alloc _
    have b2 : Boxed W0 (w.heap.size + 1 + 1 + 1) 3 (.int .i64 0) := by
      have := Boxed.new (((w.alloc (.cells #[.slice none 0 0] 47)).alloc (.cells #[.string p] 9)).alloc (.cells #[.string ⟨#[47]⟩] 9)) 3 (.int .i64 0)
      rw [World.size_alloc, World.size_alloc, World.size_alloc] at this
      rw [hW0]; exact this
    exact ⟨b0.cell, b0.frozen, b1.cell, b2.cell⟩
  have hI0 : SplitAt w W0 [] W0 := ⟨hb0, Nat.le_refl _, _, by rw [hW0]; exact (((Boxed.new w 47 (.slice none 0 0)).alloc _).alloc _).alloc _, World.ownsRow_nil _ _ _ _⟩
  clear hW0
  refine wpIn_range_pen (n := 8) rfl (by omega) (gf := 143) (lb := #[.pointer (some ⟨w.heap.size + 1 + 1, 0, none⟩), .pointer (some ⟨w.heap.size + 1, 0, none⟩), .pointer (some ⟨w.heap.size + 1 + 1 + 1, 0, none⟩)]) rfl trivial (enters_of Tryz.func143 (by kernel_rfl) rfl)
    (split1_in 7 (by omega) (w.heap.size + 1) p W0 hP0 (by omega)) Pen3.trans
    (fun W l o o' hl ho hc => ⟨by simp, fun b h1 h2 => ⟨World.cell?_of_block (World.putObj_heap_other (by show b ≠ l; omega)), by unfold World.frozen?; rw [World.putObj_heap_other (by show b ≠ l; omega)]⟩⟩)
    (fun W1 hW1 => ⟨hW1.size, fun b h1 h2 => ⟨hW1.cell (p := ⟨b, 0, none⟩) (by show b < _; omega), hW1.frozen (p := ⟨b, 0, none⟩) (by show b < _; omega)⟩⟩) (fun _ => rfl)
    (fun pre W => SplitAt w W0 pre W) (SplitAt.own w W0 hsz) (SplitAt.pen w W0 hsz) (fun X Y k o ht hk ho _ => ht.kept (by omega) X Y k o hk ho) hI0
    (fun x a' W => a' = { tmps := #[.string p, undef, .slice none 0 0, .int .i64 0, .pointer (some ⟨w.heap.size, 0, none⟩), .string x, undef, .string p, .func (.func 143) #[] #[.pointer (some ⟨w.heap.size + 1 + 1, 0, none⟩), .pointer (some ⟨w.heap.size + 1, 0, none⟩), .pointer (some ⟨w.heap.size + 1 + 1 + 1, 0, none⟩)], .string x, undef, undef, undef, undef, undef, undef, undef, undef, undef, undef, undef, undef, undef, undef, undef, undef, undef, undef, undef, undef, undef, undef, undef, undef, undef, undef], defers := [] }) (fun _ _ _ _ _ _ h _ _ => h)
    ?assign ?body ?done
  case assign =>
    rintro l pre x W K hM hK
    gi_wp2
    refine hK _ _ (KeepsFrom.refl _ _) ⟨Nat.le_refl _, fun _ _ _ => ⟨rfl, rfl⟩⟩ hM ?_
    rfl
  case body =>
    rintro l pre x rest a' W hxs hM rfl
    obtain ⟨v, bV, hrow⟩ := hM.row
    have hc := bV.cell
    have hcn : ∀ j u, (strCells x)[j]? = some u → (W.alloc (.cells #[.string x] 9)).cell? ((⟨W.heap.size, 0, none⟩ : Addr).add j) = some u := cells_new W (strCells x) 9
    have hlen : (partsUpto pre).length ≤ 1001 := by
      have h1 := congrArg List.length hxs
      rw [List.length_map, List.length_append] at h1
      have h2 := cutS_len p.data.toList
      rw [← size_data] at h2
      have h3 : (partsUpto pre).length ≤ pre.length := List.length_filter_le _ _
      simp only [List.length_cons] at h1
      omega
    have ht : x.toList = x.data.toList := ByteArray.toList_eq x
    by_cases he : x.data.toList = []
    · have hx0 : x.toList = [] := by rw [ht]; exact he
      have hE : Hid (SplitAt w W0 (pre ++ [x]) W) := Lib.hid ⟨hM.below, hM.size, v, by
        have e : partsUpto (pre ++ [x]) = partsUpto pre := by
          unfold partsUpto
          rw [List.filter_append, List.filter_cons, if_neg (by unfold goodB goodPart; rw [he]; simp)]
          simp
        rw [e]
        exact ⟨bV, hrow⟩⟩
      clear hM bV hrow hc hcn he ht
      gi_wp2
      exact ⟨KeepsFrom.refl _ _, ⟨Nat.le_refl _, fun _ _ _ => ⟨rfl, rfl⟩⟩, hE.out⟩
    · by_cases h46 : x.data.toList = [46]
      · have hx0 : x.toList = [46] := by rw [ht]; exact h46
        have hE : Hid (SplitAt w W0 (pre ++ [x]) W) := Lib.hid ⟨hM.below, hM.size, v, by
          have e : partsUpto (pre ++ [x]) = partsUpto pre := by
            unfold partsUpto
            rw [List.filter_append, List.filter_cons, if_neg (by unfold goodB goodPart; rw [h46]; simp)]
            simp
          rw [e]
          exact ⟨bV, hrow⟩⟩
        clear hM bV hrow hc hcn he ht h46
        gi_wp2
        exact ⟨KeepsFrom.refl _ _, ⟨Nat.le_refl _, fun _ _ _ => ⟨rfl, rfl⟩⟩, hE.out⟩
      · have e0 : ¬ x.toList = [] := by rw [ht]; exact he
        have e0' : x.toList.isEmpty = false := by rw [Bool.eq_false_iff]; intro h; exact e0 (List.isEmpty_iff.1 h)
        have e1 : (x.toList == [46]) = false := by rw [ht, beq_eq_false_iff_ne]; exact h46
        have e1' : ¬ x.toList = [46] := by rw [ht]; exact h46
        have hg : goodB x = true := goodPart_of he h46
        have hE : partsUpto (pre ++ [x]) = partsUpto pre ++ [x] := by
          unfold partsUpto
          rw [List.filter_append, List.filter_cons, if_pos hg]
          simp
        have HM := Lib.hid hM
        have HE := Lib.hid hE
        clear he h46 ht hg hM hE
        gi_wp2_with (gi_at_builtin; refine wpListIn_append_own _ rfl _ _ 47 rfl W0.heap.size 9 i0 _ 1 16 Tryz.underlying47 hinf hz0 hz1 hz2 rfl (by decide) _ _ _ rfl (hrow.alloc _) ⟨W.heap.size, 0, none⟩ 1 1 (strCells x) rfl rfl hcn (by simp [strCells, Value.oneCell']) (by simp only [maxLen]; omega) (by omega) (by have := HM.out.size; simp; omega) ?_; intro v' w1 hown' hgrow _; obtain ⟨g', cap', rfl⟩ := ownsRow_succ hown'; obtain ⟨hv1, hv2, _, hk2, hb2⟩ := bV.appended (n₀ := w.heap.size) (by decide) (ownsRow_mono hrow (by omega)) HM.out.below.size (Nat.le_refl _) (ownsRow_mono hown' (by omega)) hgrow; have hc1 := hv1.cell; have hf1 := hv1.frozen; have HB1 := Lib.hid (row_below hrow HM.out.size hgrow); have HR1 := Lib.hid (hown'.kept (grownBy_setCell' w1 w.heap.size (.slice (some ⟨g', 0, none⟩) ((partsUpto pre).length + 1) cap')) (.inr (hv1.not_row (by decide) hown').symm)))
        refine ⟨hk2.from _, pen_append hsz HB1.out, HM.out.below.trans hb2, Nat.le_trans HM.out.size (by simpa using HB1.out.size), _, hv2, ?_⟩
        rw [HE.out, List.length_append, List.map_append]
        exact HR1.out
  case done =>
    rintro D W hD hM hK
    obtain ⟨v, bV, hrow⟩ := hM.row
    rw [partsUpto_all] at hrow
    have hc := bV.cell
    have htx : TxAt W v (partsOf p) := TxAt.of_own (by simpa using hrow)
    have hsl := htx.sl
    have hlen : (partsOf p).length ≤ 140737488355330 := by have := partsOf_len p; omega
    have HCL := Lib.hid (fun V (hV : New W V) => containsLong_any v (partsOf p) V (hsl.below hV.below) hlen)
    have HNU := Lib.hid (fun V => containsNul_any p V)
    have HB := Lib.hid hM.below
    have HSL := Lib.hid htx
    have HFV : Hid (FreshV w.heap.size v) := Lib.hid ((FreshV.of_own hrow).mono (by omega))
    have HD := Lib.hid (belowK_b (w := w) (Nat.le_refl _) W D (.deferred (some [])) (.deferred none) (by omega) hK rfl rfl)
    clear hsl htx hM hrow bV
    have ht : p.toList = p.data.toList := ByteArray.toList_eq p
    by_cases h0 : p.size = 0
    · have HR : Hid (splitWhy p = 3) := Lib.hid (by unfold splitWhy; rw [if_pos h0])
      have he : p.toList = [] := by rw [ht]; exact List.eq_nil_of_length_eq_zero (by rw [← size_data]; exact h0)
      clear ht
      gi_wp2
      refine ⟨by simp, .inl ⟨_, _, rfl, run_takeDeferred hK, ?_⟩⟩
      exact ⟨.tuple #[.slice none 0 0, .int .i64 3], by simp [results, Tryz.results34, go_sem], _, by rw [HR.out], .inl ⟨rfl, splitParts_not (by rw [HR.out]; decide)⟩, FreshV.nil _, HB.out.trans HD.out⟩
    · have he : ¬ p.toList = [] := by rw [ht]; intro h; exact h0 (by rw [size_data, h]; rfl)
      have he' : p.toList.isEmpty = false := by rw [Bool.eq_false_iff]; intro h; exact he (List.isEmpty_iff.1 h)
      have HW : Hid (splitWhy p = if decide (128 < p.size) || (partsOf p).any longPart then 10 else if hasNul p then 1 else 0) := Lib.hid (by unfold splitWhy; rw [if_neg h0])
      clear ht
      by_cases h1 : 128 < p.size
      · have h1i : (128 : Int) < (p.size : Int) := by omega
        have HR : Hid (splitWhy p = 10) := Lib.hid (by rw [HW.out, decide_eq_true h1]; rfl)
        clear HCL HNU
        gi_wp2
        refine ⟨trivial, ?_⟩
        gi_wp2
        refine ⟨by simp, .inl ⟨_, _, rfl, run_takeDeferred hK, ?_⟩⟩
        exact ⟨.tuple #[.slice none 0 0, .int .i64 10], by simp [results, Tryz.results34, go_sem], _, by rw [HR.out], .inl ⟨rfl, splitParts_not (by rw [HR.out]; decide)⟩, FreshV.nil _, HB.out.trans HD.out⟩
      · have h1i : ¬ (128 : Int) < (p.size : Int) := by omega
        rw [decide_eq_false h1, Bool.false_or] at HW
        cases hl : (partsOf p).any longPart with
        | true =>
          rw [hl] at HCL HW
          have HR : Hid (splitWhy p = 10) := Lib.hid HW.out
          clear HNU hl
          gi_wp2_with (first
            | (refine ⟨trivial, ?_⟩; gi_at_call 65; refine (callsIn_wide.2 (HCL.out _ (New.refl _))).mono ?_; rintro e w' ⟨rfl, rfl⟩)
            | (refine ⟨trivial, ?_⟩; gi_at_call 66; refine (callsIn_wide.2 (HNU.out _)).mono ?_; rintro e w' ⟨rfl, rfl⟩))
          refine ⟨by simp, .inl ⟨_, _, rfl, run_takeDeferred hK, ?_⟩⟩
          exact ⟨.tuple #[.slice none 0 0, .int .i64 10], by simp [results, Tryz.results34, go_sem], _, by rw [HR.out], .inl ⟨rfl, splitParts_not (by rw [HR.out]; decide)⟩, FreshV.nil _, HB.out.trans HD.out⟩
        | false =>
          rw [hl] at HCL HW
          clear hl
          cases hn : hasNul p with
          | true =>
            rw [hn] at HNU HW
            have HR : Hid (splitWhy p = 1) := Lib.hid HW.out
            clear hn
            gi_wp2_with (first
              | (refine ⟨trivial, ?_⟩; gi_at_call 65; refine (callsIn_wide.2 (HCL.out _ (New.refl _))).mono ?_; rintro e w' ⟨rfl, rfl⟩)
              | (refine ⟨trivial, ?_⟩; gi_at_call 66; refine (callsIn_wide.2 (HNU.out _)).mono ?_; rintro e w' ⟨rfl, rfl⟩))
            refine ⟨by simp, .inl ⟨_, _, rfl, run_takeDeferred hK, ?_⟩⟩
            exact ⟨.tuple #[.slice none 0 0, .int .i64 1], by simp [results, Tryz.results34, go_sem], _, by rw [HR.out], .inl ⟨rfl, splitParts_not (by rw [HR.out]; decide)⟩, FreshV.nil _, HB.out.trans HD.out⟩
          | false =>
            rw [hn] at HNU HW
            have HR : Hid (splitWhy p = 0) := Lib.hid HW.out
            clear hn
            gi_wp2_with (first
              | (refine ⟨trivial, ?_⟩; gi_at_call 65; refine (callsIn_wide.2 (HCL.out _ (New.refl _))).mono ?_; rintro e w' ⟨rfl, rfl⟩)
              | (refine ⟨trivial, ?_⟩; gi_at_call 66; refine (callsIn_wide.2 (HNU.out _)).mono ?_; rintro e w' ⟨rfl, rfl⟩))
            refine ⟨by simp, .inl ⟨_, _, rfl, run_takeDeferred hK, ?_⟩⟩
            exact ⟨.tuple #[v, .int .i64 0], by simp [results, Tryz.results34, go_sem], _, by rw [HR.out], by rw [splitParts_is HR.out]; exact txAt_putObj HSL.out hK, HFV.out, HB.out.trans HD.out⟩
end Go.Proofs.YtfbjiaedfmdcfaaGreatDoor
