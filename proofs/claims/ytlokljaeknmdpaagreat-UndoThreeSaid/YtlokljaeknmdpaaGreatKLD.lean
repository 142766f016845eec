/-
  thimblelaw12.within: each entry of a list is in one of two others; condition: it is.
-/
import Derived.Test.YtlokljaeknmdpaaGreatKLC
import Derived.Test.YtlokljaeknmdpaaGreatQWithout
import Derived.Laws.AppendOwnNone
/-! ## Within -/
namespace Go.Proofs.YtlokljaeknmdpaaGreat.L12
open Go.RowKit Go.Shelf Go.Proofs

/-- the cells of a row, from its address on -/
theorem row_from {W : World} {B g cap n k : Nat} {t : TypeId} {xs : List Value} (h : W.ownsRow B t k (.slice (some ⟨g, 0, none⟩) n cap) n xs) : ∀ j u, xs[j]? = some u → W.cell? ((⟨g, 0, none⟩ : Addr).add j) = some u := fun j u hj => by
  rcases h.2 with ⟨h0, _⟩ | ⟨g', cap', cur, h0, _, hh, _, _, _, h4⟩
  · cases h0
  · simp only [Value.slice.injEq, Option.some.injEq, Addr.mk.injEq, true_and, and_true] at h0
    obtain ⟨rfl, rfl⟩ := h0
    rw [Addr.add_lit, Nat.zero_add]
    simp only [World.cell?, hh]
    rw [← h4, List.getElem?_take] at hj
    split at hj
    · simpa using hj
    · cases hj
def EntRow (B : Nat) (v : Value) (l : List Ent) (w : World) : Prop := w.ownsRow B 34 5 v l.length (l.flatMap Ent.cells)
theorem EntRow.kept {B : Nat} {v : Value} {l : List Ent} {w w' : World} (h : EntRow B v l w) (hb : Below w.heap.size w w') : EntRow B v l w' := ownsRow_kept2 h fun j _ hj => hb.block j hj
theorem EntRow.sl {B : Nat} {v : Value} {l : List Ent} {w : World} (h : EntRow B v l w) : SlAt w 5 Ent.cells v l := SlAt.of_row (fun _ => rfl) h
theorem EntRow.two {B : Nat} {v : Value} {l : List Ent} {w : World} (h : EntRow B v l w) : (v = .slice none 0 0 ∧ l = []) ∨ ∃ g c, v = .slice (some ⟨g, 0, none⟩) l.length c := by
  rcases h.2 with ⟨rfl, h0⟩ | ⟨g, cap, cur, rfl, _⟩
  · exact .inl ⟨rfl, List.eq_nil_of_length_eq_zero h0⟩
  · exact .inr ⟨g, cap, rfl⟩
theorem EntRow.from {B g cap : Nat} {l : List Ent} {w : World} (h : EntRow B (.slice (some ⟨g, 0, none⟩) l.length cap) l w) {W : World} (hb : Below w.heap.size w W) : ∀ j u, (l.flatMap Ent.cells)[j]? = some u → W.cell? ((⟨g, 0, none⟩ : Addr).add j) = some u := row_from (h.kept hb)
theorem mem_take_succ {l : List Ent} {k : Nat} (hk : k < l.length) (x : Ent) : decide (x ∈ l.take (k + 1)) = (decide (x ∈ l.take k) || decide (l[k]! = x)) := by
  rw [List.take_succ_eq_append_getElem hk, getElem!_pos l k hk, Bool.eq_iff_iff]
  simp only [List.mem_append, List.mem_singleton, decide_eq_true_eq, Bool.or_eq_true]
  constructor
  · rintro (h | h)
    · exact .inl h
    · exact .inr h.symm
  · rintro (h | h)
    · exact .inl h
    · exact .inr h.symm

/-- append of a row of entries, nil or not, onto a row of the call's own -/
theorem wpList_append_ents {w : World} {ops : Array Oper} {rest : List Oper} {o : Oper} {a : Act} {Q : Exit → Act → World → Prop} (hgd : o.guard = none) (s x : Operand)
    (ho : o.op = .call { callee := .builtin .append, args := #[s, x], argTypes := #[24, 24] }) (B : Nat) (v : Value) (n : Nat) (xs : List Value) (hs : a.eval s = v) (hown : w.ownsRow B 34 5 v n xs)
    (B2 : Nat) (u : Value) (l : List Ent) (hx : a.eval x = u) (hsrc : EntRow B2 u l w) (hn : n + l.length ≤ 100000) (hB : B ≤ w.heap.size)
    (h : ∀ v' w', w'.ownsRow B 34 5 v' (n + l.length) (xs ++ l.flatMap Ent.cells) → w.grownBy w' v.ownBlock → wpList Tryz.prog ops Q rest (a.put o.dst v') w') : wpList Tryz.prog ops Q (o :: rest) a w := by
  obtain ⟨i0, hinf, hz0, hz1, hz2⟩ := info_parts infoEnt
  rcases hsrc.two with ⟨rfl, rfl⟩ | ⟨g, c, rfl⟩
  · refine wpList_append_own_none hgd s x 24 ho B 34 i0 5 Tryz.underlying24 hinf v n xs hs hown hx (h v w (by simpa using hown) ⟨rfl, rfl, rfl, Nat.le_refl _, fun _ _ _ => rfl⟩)
  · exact wpList_append_own w hgd s x 24 ho B 34 i0 _ 5 48 Tryz.underlying24 hinf hz0 hz1 hz2 rfl (by decide) v n xs hs hown ⟨g, 0, none⟩ l.length c (l.flatMap Ent.cells) hx (flatMap_len Ent.cells 5 (fun _ => rfl) l) (row_from hsrc) (one_flat Ent.one l) (by simp only [maxLen]; omega) (by omega) hB fun v' w' h1 h2 _ => h v' w' h1 h2

set_option maxRecDepth 100000 in
set_option maxHeartbeats 8000000 in
theorem within_any (B2 B3 : Nat) (v1 v2 v3 : Value) (l a b : List Ent) (w : World) (h1 : SlAt w 5 Ent.cells v1 l) (h2 : EntRow B2 v2 a w) (h3 : EntRow B3 v3 b w) (hl : l.length ≤ 1000) (ha : a.length ≤ 1000) (hb : b.length ≤ 1000) (hin : ∀ x ∈ l, x ∈ a ∨ x ∈ b) :
    Calls Tryz.prog 33 #[v1, v2, v3] w fun e w' => e = .returned (.bool true) ∧ Below w.heap.size w w' := by
  have HS1 := Lib.hid h1
  have H2 := Lib.hid h2
  have H3 := Lib.hid h3
  have HIN : Hid (∀ x ∈ l, x ∈ a ++ b) := Lib.hid fun x hx => List.mem_append.2 (hin x hx)
  have HLN : Hid (l.length ≤ 1000 ∧ (a ++ b).length ≤ 2000) := Lib.hid ⟨hl, by rw [List.length_append]; omega⟩
  obtain ⟨a1, c1, rfl⟩ := h1.len
  clear h1 h2 h3 hin hl
  go_enter Tryz.func33, Tryz.ntmps33
  go_wp2_with (first | (at_builtin; refine wpList_append_ents rfl _ _ rfl w.heap.size _ 0 [] rfl (World.ownsRow_made w #[] 0 (Nat.le_refl _) (by decide) rfl) B2 _ a rfl (H2.out.kept ((Below.refl _ w).alloc (Nat.le_refl _) _)) (by omega) (by simp) ?_; intro v1 w1 hown1 hgrow1; have HR1 : Hid (w1.ownsRow w.heap.size 34 5 v1 a.length (a.flatMap Ent.cells)) := Lib.hid (by simpa only [Nat.zero_add, List.nil_append] using hown1); have HB1 : Hid (Below w.heap.size w w1) := Lib.hid (((Below.refl _ w).alloc (Nat.le_refl _) _).grown hgrow1 (by simp) (fun j ej => by cases ej; exact Nat.le_refl _)); clear hown1 hgrow1) | (at_builtin; refine wpList_append_ents rfl _ _ rfl w.heap.size _ a.length (a.flatMap Ent.cells) rfl HR1.out B3 _ b rfl (H3.out.kept HB1.out) (by omega) HB1.out.size ?_; intro v2 w2 hown2 hgrow2; have HR2 := Lib.hid hown2; have HB2 : Hid (Below w.heap.size w w2) := Lib.hid (HB1.out.grown hgrow2 HB1.out.size (fun j ej => rowGe HR1.out ej)); clear hown2 hgrow2))
  obtain ⟨AL, hAL⟩ : ∃ AL, AL = a ++ b := ⟨_, rfl⟩
  have HAL : Hid (EntRow w.heap.size v2 AL w2) := Lib.hid (by rw [hAL]; unfold EntRow; rw [List.length_append, List.flatMap_append]; exact HR2.out)
  have HBA : Hid (Below w.heap.size w w2) := Lib.hid (HB2.out)
  have HIA : Hid (∀ x ∈ l, x ∈ AL) := Lib.hid (by rw [hAL]; exact HIN.out)
  have HLA : Hid (AL.length ≤ 2000) := Lib.hid (by rw [hAL]; exact HLN.out.2)
  obtain ⟨wa, hwa⟩ : ∃ wa, wa = w2 := ⟨_, rfl⟩
  rw [← hwa] at HAL HBA ⊢
  clear hwa
  obtain ⟨va, vc, rfl⟩ := HAL.out.sl.len
  clear hAL
  go_wp2
  go_loopg [8] l.length (fun gg s8 wr => ∃ i : Nat, s8 = .int .i64 i ∧ i ≤ l.length ∧ l.length - i ≤ gg ∧ Aside (Below wa.heap.size wa wr))
  case atStart => exact ⟨0, rfl, Nat.zero_le _, by omega, (show Aside _ from Below.refl _ _)⟩
  case round =>
    obtain ⟨i, rfl, hil, hgg, hB⟩ := hrel
    have hi0 : (0 : Int) ≤ (i : Int) := by omega
    have hwi : IntKind.i64.wrap ((i : Int) + 1) = (i : Int) + 1 := wrapNat (i + 1) (by have := HLN.out.1; omega)
    by_cases hlt : i < l.length
    · have hlti : (i : Int) < (l.length : Int) := by omega
      have HX : Hid (l[i]! ∈ AL) := Lib.hid (HIA.out _ (getElem!_mem hlt))
      have hs1 := HS1.out.below (HBA.out.trans (hB.out.mono HBA.out.size))
      obtain ⟨lb, lo, rfl, hlb, hlc⟩ := slAt_at hs1 hlt
      have HLC : Hid (∀ W, Below wr.heap.size wr W → ∀ j u, (Ent.cells l[i]!)[j]? = some u → W.cell? ⟨lb, lo + i * 5 + j, none⟩ = some u) := Lib.hid fun W hW j u hu => (hW.cell (p := ⟨lb, _, none⟩) hlb).trans (hlc i hlt j u hu)
      have HB := Lib.hid hB.out
      clear hs1 hlc hlb hB
      generalize l[i]! = x at *
      obtain ⟨wo, hwo⟩ : ∃ wo, wo = wr := ⟨_, rfl⟩
      subst hwo
      go_wp2
      go_loopg [9, 10] AL.length (fun gg s9 s10 wr => ∃ (k : Nat) (bb : Bool), s10 = .int .i64 k ∧ s9 = .bool bb ∧ k ≤ AL.length ∧ AL.length - k ≤ gg ∧ Aside (bb = decide (x ∈ AL.take k)) ∧ Aside (Below wo.heap.size wo wr))
      case atStart => exact ⟨0, false, rfl, rfl, Nat.zero_le _, by omega, (show Aside _ from (by simp : false = decide (x ∈ AL.take 0))), (show Aside _ from Below.refl _ _)⟩
      case round =>
        obtain ⟨k, bb, rfl, rfl, hkl, hgk, hE, hQ⟩ := hrel
        have hk0 : (0 : Int) ≤ (k : Int) := by omega
        have hwk : IntKind.i64.wrap ((k : Int) + 1) = (k : Int) + 1 := wrapNat (k + 1) (by have := HLA.out; omega)
        by_cases hlk : k < AL.length
        · have hlkc : (k : Int) < (AL.length : Int) := by omega
          have hms := mem_take_succ hlk x
          have hsa := HAL.out.sl.below (HB.out.trans (hQ.out.mono HB.out.size))
          obtain ⟨ab, ao, rfl, _, hac⟩ := slAt_at hsa hlk
          have x0 := hac k hlk 0 _ rfl
          have x1 := hac k hlk 1 _ rfl
          have x2 := hac k hlk 2 _ rfl
          have x3 := hac k hlk 3 _ rfl
          have x4 := hac k hlk 4 _ rfl
          have y0 := HLC.out wr hQ.out 0 _ rfl
          have y1 := HLC.out wr hQ.out 1 _ rfl
          have y2 := HLC.out wr hQ.out 2 _ rfl
          have y3 := HLC.out wr hQ.out 3 _ rfl
          have y4 := HLC.out wr hQ.out 4 _ rfl
          rw [Nat.add_zero] at x0 y0
          have HEQ : ∀ w, (binOp .eql 34 (.agg #[.int .i64 AL[k]!.at_.t, .int .i64 AL[k]!.at_.r, .string AL[k]!.name, .int .i64 AL[k]!.ino.t, .int .i64 AL[k]!.ino.r]) (.agg #[.int .i64 x.at_.t, .int .i64 x.at_.r, .string x.name, .int .i64 x.ino.t, .int .i64 x.ino.r])).run Tryz.prog w = .ok (.bool (decide (AL[k]! = x))) w := eql_ent _ _
          have HMS := Lib.hid hms
          clear hsa hac hms
          generalize hdd : decide (AL[k]! = x) = dd at *
          clear hdd
          generalize AL[k]! = z at *
          cases bb with
          | true =>
            go_wp2_with fail
            go_quiet (fail)
            go_wp2
            go_roundg (AL.length - (k + 1))
            case measure => omega
            case rel => exact ⟨k + 1, true, by first | rfl | go_num, rfl, by omega, by omega, (show Aside _ from by rw [HMS.out, ← hE.out]; rfl), (show Aside _ from hQ.out.trans ⟨rfl, rfl, rfl, Nat.le_refl _, fun _ _ => rfl⟩)⟩
          | false =>
            go_wp2_with fail
            go_quiet (fail)
            go_wp2
            go_roundg (AL.length - (k + 1))
            case measure => omega
            case rel => exact ⟨k + 1, dd, by first | rfl | go_num, by first | rfl | simp, by omega, by omega, (show Aside _ from by rw [HMS.out, ← hE.out]; rfl), (show Aside _ from hQ.out.trans ⟨rfl, rfl, rfl, Nat.le_refl _, fun _ _ => rfl⟩)⟩
        · have hlkc : ¬ (k : Int) < (AL.length : Int) := by omega
          have hbb : bb = true := by rw [hE.out, List.take_of_length_le (by omega)]; exact decide_eq_true HX.out
          subst hbb
          have HQ := Lib.hid hQ.out
          clear hlk hE hQ
          go_wp2
          go_roundg (l.length - (i + 1))
          case measure => omega
          case rel => exact ⟨i + 1, by first | rfl | go_num, by omega, by omega, (show Aside _ from HB.out.trans (HQ.out.mono HB.out.size))⟩
    · have hlti : ¬ (i : Int) < (l.length : Int) := by omega
      clear hlt
      go_wp2
      go_ret
      exact ⟨rfl, HBA.out.trans (hB.out.mono HBA.out.size)⟩
end Go.Proofs.YtlokljaeknmdpaaGreat.L12
