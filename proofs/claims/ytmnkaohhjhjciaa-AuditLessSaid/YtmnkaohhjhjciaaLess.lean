/-
  thimblelaw10.AuditLess; no condition but a string's size.
-/
import Derived.Test.YtmnkaohhjhjciaaWithout
import Derived.Test.YtmnkaohhjhjciaaFineLaw
import Derived.Lib.MinMax
namespace Go.Proofs.Ytmnkaohhjhjciaa
open Go.RowKit Go.Shelf

theorem infoIno2 : (Try.prog.info? 31).map (fun i => (i.zero, i.size, i.bytes)) = some (some (.agg #[.int .i64 0, .int .i64 0, .int .i64 0, .int .i64 0, .int .i64 0, .string ⟨#[]⟩]), 6, 56) := by kernel_rfl

theorem rowEq {n : List Ino} {i : Nat} {W : World} {B : Nat} {v : Value} (hlc : n.length ≤ i + 1) (hin : i < n.length) (h : W.ownsRow B 31 6 v (i + 0) ((n.take i).flatMap Ino.cells ++ [])) : SlAt W 6 Ino.cells v (n.take i ++ n.drop (i + 1)) := by
  refine SlAt.of_row (fun _ => rfl) (t := 31) (B := B) ?_
  rw [List.drop_of_length_le hlc, List.append_nil, List.length_take, Nat.min_eq_left (by omega)]
  simp only [Nat.add_zero, List.append_nil] at h
  exact h
theorem rowNe {n : List Ino} {i : Nat} {W : World} {B : Nat} {v : Value} (hin : i < n.length) (h : W.ownsRow B 31 6 v (i + (n.length - (i + 1))) ((n.take i).flatMap Ino.cells ++ (n.drop (i + 1)).flatMap Ino.cells)) : SlAt W 6 Ino.cells v (n.take i ++ n.drop (i + 1)) := by
  refine SlAt.of_row (fun _ => rfl) (t := 31) (B := B) ?_
  rw [List.length_append, List.length_take, List.length_drop, Nat.min_eq_left (by omega), List.flatMap_append]
  exact h

theorem tmodNat (a b : Nat) : ((a : Int).tmod (b : Int)) = ((a % b : Nat) : Int) := by
  rw [Int.ofNat_tmod]

set_option maxRecDepth 100000 in
set_option maxHeartbeats 4000000 in
theorem less_walk (vn ve : Value) (n : List Ino) (e : List Ent) (K : Nat) (w : World) (hn : SlAt w 6 Ino.cells vn n) (he : SlAt w 5 Ent.cells ve e) (hnm : ∀ x ∈ e, x.name.size ≤ maxLen) (hK : K < 256) :
    Calls Try.prog 3 #[vn, ve, .int .u8 K] w fun x w' => x = .returned (.bool true) ∧ Below w.heap.size w w' := by
  obtain ⟨i0, hinf, hz0, hz1, hz2⟩ := info_parts infoIno2
  have HN : Hid (∀ W, Below w.heap.size w W → SlAt W 6 Ino.cells vn n) := Lib.hid fun W hW => hn.below hW
  have HE : Hid (∀ W, Below w.heap.size w W → SlAt W 5 Ent.cells ve e) := Lib.hid fun W hW => he.below hW
  have HNM := Lib.hid hnm
  have HFEW : Hid (∀ W, Below w.heap.size w W → Calls Try.prog 12 #[vn, ve] W fun x w' => x = .returned (.bool (decide ((n.length : Int) ≤ 60) && decide ((e.length : Int) ≤ 60))) ∧ w' = W) := Lib.hid fun W hW => few_any vn ve n e W (hn.below hW) (he.below hW)
  have HK := Lib.hid hK
  obtain ⟨na, nc, rfl⟩ := hn.len
  obtain ⟨ea, ec, rfl⟩ := he.len
  clear hn he hnm hK
  cases hfew : (decide ((n.length : Int) ≤ 60) && decide ((e.length : Int) ≤ 60)) with
  | false =>
    rw [hfew] at HFEW
    have HH := Lib.hid hfew
    clear hfew
    go_enter Try.func3, Try.ntmps3
    go_wp2_with (first
      | (go_at_call 11; refine (shown_any _).mono ?_; rintro x w1 ⟨rfl, hb⟩; have HB1 := Lib.hid hb; clear hb)
      | (go_at_call 12; refine (HFEW.out _ HB1.out).mono ?_; rintro x w' ⟨rfl, rfl⟩))
    go_ret
    exact ⟨rfl, HB1.out⟩
  | true =>
    rw [hfew] at HFEW
    simp only [Bool.and_eq_true, decide_eq_true_eq] at hfew
    have HL := Lib.hid hfew
    have hfew1 := hfew.1
    have hfew2 := hfew.2
    have HF1 : Hid (∀ W, Below w.heap.size w W → Calls Try.prog 13 #[.slice na n.length nc, .slice ea e.length ec] W fun x w' => x = .returned (.bool (fineB n e)) ∧ Below W.heap.size W w') := Lib.hid fun W hW => fine_any _ _ n e W (HN.out W hW) (HE.out W hW) (by omega) (by omega) HNM.out
    clear hfew hfew1 hfew2
    cases hf : fineB n e with
    | false =>
      rw [hf] at HF1
      clear hf
      go_enter Try.func3, Try.ntmps3
      go_wp2_with (first
        | (go_at_call 11; refine (shown_any _).mono ?_; rintro x w1 ⟨rfl, hb⟩; have HB1 := Lib.hid hb; clear hb)
        | (go_at_call 12; refine (HFEW.out _ HB1.out).mono ?_; rintro x w' ⟨rfl, rfl⟩)
        | (go_at_call 13; refine (HF1.out _ HB1.out).mono ?_; rintro x w2 ⟨rfl, hb⟩; have HB2 := Lib.hid (HB1.out.trans (hb.mono HB1.out.size)); clear hb))
      go_ret
      exact ⟨rfl, HB2.out⟩
    | true =>
      rw [hf] at HF1
      have HF := Lib.hid hf
      clear hf
      have hpos := fine_some HF.out
      obtain ⟨b, off, hna, hlc, hcm, hbl, hcells⟩ : ∃ b off, na = some ⟨b, off, none⟩ ∧ n.length ≤ nc ∧ nc ≤ maxLen ∧ b < w.heap.size ∧ ∀ j, j < n.length → ∀ i u, (Ino.cells n[j]!)[i]? = some u → w.cell? ⟨b, off + j * 6 + i, none⟩ = some u := by
        rcases HN.out w (Below.refl _ _) with ⟨_, _, _, h0⟩ | ⟨b, off, c', h0, h1, h2, h3, h4⟩
        · rw [h0] at hpos; simp at hpos
        · simp at h0; obtain ⟨h5, rfl⟩ := h0; exact ⟨b, off, h5, h1, h2, h3, h4⟩
      subst hna
      have HC := Lib.hid hcells
      have HBL := Lib.hid hbl
      clear hcells hbl
      have hl0 : ((n.length : Int) == 0) = false := beq_eq_false_iff_ne.2 (by omega)
      have hl1 : ¬ (n.length : Int) = 0 := by omega
      obtain ⟨i, hi⟩ : ∃ i, i = K % n.length := ⟨_, rfl⟩
      have hin : i < n.length := by rw [hi]; exact Nat.mod_lt _ hpos
      have hn60 := HL.out.1
      have he60 := HL.out.2
      have htm : (K : Int).tmod (n.length : Int) = (i : Int) := by rw [tmodNat, hi]
      have hKK := HK.out
      have hwK : IntKind.i64.wrap (K : Int) = (K : Int) := wrapNat K (by omega)
      have hwi : IntKind.i64.wrap (i : Int) = (i : Int) := wrapNat i (by omega)
      have hwi1 : IntKind.i64.wrap ((i : Int) + 1) = (i : Int) + 1 := wrapNat (i + 1) (by omega)
      have b1 : (0 : Int) ≤ (i : Int) := by omega
      have b3 : (i : Int) + 1 ≤ (n.length : Int) := by omega
      have b4 : (0 : Int) ≤ (i : Int) + 1 := by omega
      have HN1 : Hid (∀ W, Below w.heap.size w W → ∀ j u, ((n.take i).flatMap Ino.cells)[j]? = some u → (W.alloc (.cells #[] 31)).cell? ((⟨b, off, none⟩ : Addr).add j) = some u) := Lib.hid fun W hW j u hu => by
        rw [Addr.add_lit]
        refine Lib.cell?_alloc_some _ ((hW.cell (p := ⟨b, _, none⟩) HBL.out).trans ?_)
        have := SlAt.news (k := 6) (enc := Ino.cells) (fun _ => rfl) (by omega) HC.out 0 i j u hu
        simpa using this
      have HF2 : Hid (∀ W v, Below w.heap.size w W → SlAt W 6 Ino.cells v (n.take i ++ n.drop (i + 1)) → Calls Try.prog 13 #[v, .slice ea e.length ec] W fun x w' => x = .returned (.bool false) ∧ Below W.heap.size W w') := Lib.hid fun W v hW hs => by
        have := fine_any v _ (n.take i ++ n.drop (i + 1)) e W hs (HE.out W hW) (by simp; omega) (by omega) HNM.out
        rw [less_inode HF.out hin] at this
        exact this
      have hHI := Lib.hid hi
      clear hi hn60 hpos hKK
      by_cases he0 : e.length = 0
      · have hnl : n.length = 1 := by
          have : e = [] := List.eq_nil_of_length_eq_zero he0
          have h := HF.out
          rw [this] at h
          exact fine_alone h
        have hnl1 : ((n.length : Int) == 1) = true := by rw [hnl]; rfl
        have hel0 : ((e.length : Int) == 0) = true := by rw [he0]; rfl
        clear hnl he0
        by_cases hcc : nc = i + 1
        · subst hcc
          have b6 : (i : Int) ≤ (i : Int) + 1 := by omega
          have b7 : (n.length : Int) ≤ (i : Int) + 1 := by omega
          go_enter Try.func3, Try.ntmps3
          go_wp2_with (first
          | (go_at_call 13; refine (HF2.out _ _ HB4.out HS4.out).mono ?_; rintro x w5 ⟨rfl, hb⟩; have HB5 := Lib.hid (HB4.out.trans (hb.mono HB4.out.size)); clear hb)
          | (at_builtin; refine wpList_append_own _ rfl _ _ 22 rfl w.heap.size 31 i0 _ 6 56 Try.underlying22 hinf hz0 hz1 hz2 rfl (by decide) _ i ((n.take i).flatMap Ino.cells) rfl HR1.out ⟨b, off, none⟩ 0 _ [] rfl rfl (by simp) (by simp) (by have := HL.out.1; simp only [maxLen]; omega) (by have := HL.out.1; omega) (by have := HB3.out.size; omega) ?_; intro v2 w4 hown2 hgrow2 _; have HB4 : Hid (Below w.heap.size w w4) := Lib.hid (HB3.out.grown hgrow2 HB3.out.size (fun j ej => rowGe HR1.out ej)); have HS4 : Hid (SlAt w4 6 Ino.cells v2 (n.take i ++ n.drop (i + 1))) := Lib.hid (rowEq hlc hin hown2); clear hown2 hgrow2)
          | (at_builtin; refine wpList_append_own _ rfl _ _ 22 rfl w.heap.size 31 i0 _ 6 56 Try.underlying22 hinf hz0 hz1 hz2 rfl (by decide) _ 0 [] rfl (ownsRow_mono (World.ownsRow_made w2 #[] 0 (Nat.le_refl _) (by decide) rfl) HB2.out.size) ⟨b, off, none⟩ i _ ((n.take i).flatMap Ino.cells) rfl (by rw [flatMap_len Ino.cells 6 (fun _ => rfl), List.length_take, Nat.min_eq_left (by omega)]) (HN1.out _ HB2.out) (one_flat Ino.one _) (by have := HL.out.1; simp only [maxLen]; omega) (by have := HL.out.1; omega) (by have := HB2.out.size; simp only [World.size_alloc]; omega) ?_; intro v1 w3 hown1 hgrow1 _; have HR1 : Hid (w3.ownsRow w.heap.size 31 6 v1 i ((n.take i).flatMap Ino.cells)) := Lib.hid (by simpa only [Nat.zero_add, List.nil_append] using hown1); have HB3 : Hid (Below w.heap.size w w3) := Lib.hid ((HB2.out.alloc HB2.out.size _).grown hgrow1 (by have := HB2.out.size; simp only [World.size_alloc]; omega) (fun j ej => by cases ej; exact HB2.out.size)); clear hown1 hgrow1)
          | (go_at_call 11; refine (shown_any _).mono ?_; rintro x w1 ⟨rfl, hb⟩; have HB1 := Lib.hid hb; clear hb)
          | (go_at_call 12; refine (HFEW.out _ HB1.out).mono ?_; rintro x w' ⟨rfl, rfl⟩)
          | (go_at_call 13; refine (HF1.out _ HB1.out).mono ?_; rintro x w2 ⟨rfl, hb⟩; have HB2 := Lib.hid (HB1.out.trans (hb.mono HB1.out.size)); clear hb))
          go_ret
          exact ⟨rfl, HB5.out⟩
        · have b2 : (i : Int) ≤ (nc : Int) := by omega
          have b5 : (n.length : Int) ≤ (nc : Int) := by omega
          have HN2 : Hid (∀ W, Below w.heap.size w W → ∀ j u, ((n.drop (i + 1)).flatMap Ino.cells)[j]? = some u → W.cell? ((⟨b, off + (i + 1) * 6, none⟩ : Addr).add j) = some u) := Lib.hid fun W hW j u hu => by
            rw [Addr.add_lit]
            refine (hW.cell (p := ⟨b, _, none⟩) HBL.out).trans ?_
            refine SlAt.news (k := 6) (enc := Ino.cells) (fun _ => rfl) (by omega) HC.out (i + 1) n.length j u ?_
            rw [List.take_of_length_le (by simp)]
            exact hu
          go_enter Try.func3, Try.ntmps3
          go_wp2_with (first
          | (go_at_call 13; refine (HF2.out _ _ HB4.out HS4.out).mono ?_; rintro x w5 ⟨rfl, hb⟩; have HB5 := Lib.hid (HB4.out.trans (hb.mono HB4.out.size)); clear hb)
          | (at_builtin; refine wpList_append_own _ rfl _ _ 22 rfl w.heap.size 31 i0 _ 6 56 Try.underlying22 hinf hz0 hz1 hz2 rfl (by decide) _ i ((n.take i).flatMap Ino.cells) rfl HR1.out ⟨b, off + (i + 1) * 6, none⟩ (n.length - (i + 1)) _ ((n.drop (i + 1)).flatMap Ino.cells) rfl (by rw [flatMap_len Ino.cells 6 (fun _ => rfl), List.length_drop]) (HN2.out _ HB3.out) (one_flat Ino.one _) (by have := HL.out.1; simp only [maxLen]; omega) (by have := HL.out.1; omega) (by have := HB3.out.size; omega) ?_; intro v2 w4 hown2 hgrow2 _; have HB4 : Hid (Below w.heap.size w w4) := Lib.hid (HB3.out.grown hgrow2 HB3.out.size (fun j ej => rowGe HR1.out ej)); have HS4 : Hid (SlAt w4 6 Ino.cells v2 (n.take i ++ n.drop (i + 1))) := Lib.hid (rowNe hin hown2); clear hown2 hgrow2)
          | (at_builtin; refine wpList_append_own _ rfl _ _ 22 rfl w.heap.size 31 i0 _ 6 56 Try.underlying22 hinf hz0 hz1 hz2 rfl (by decide) _ 0 [] rfl (ownsRow_mono (World.ownsRow_made w2 #[] 0 (Nat.le_refl _) (by decide) rfl) HB2.out.size) ⟨b, off, none⟩ i _ ((n.take i).flatMap Ino.cells) rfl (by rw [flatMap_len Ino.cells 6 (fun _ => rfl), List.length_take, Nat.min_eq_left (by omega)]) (HN1.out _ HB2.out) (one_flat Ino.one _) (by have := HL.out.1; simp only [maxLen]; omega) (by have := HL.out.1; omega) (by have := HB2.out.size; simp only [World.size_alloc]; omega) ?_; intro v1 w3 hown1 hgrow1 _; have HR1 : Hid (w3.ownsRow w.heap.size 31 6 v1 i ((n.take i).flatMap Ino.cells)) := Lib.hid (by simpa only [Nat.zero_add, List.nil_append] using hown1); have HB3 : Hid (Below w.heap.size w w3) := Lib.hid ((HB2.out.alloc HB2.out.size _).grown hgrow1 (by have := HB2.out.size; simp only [World.size_alloc]; omega) (fun j ej => by cases ej; exact HB2.out.size)); clear hown1 hgrow1)
          | (go_at_call 11; refine (shown_any _).mono ?_; rintro x w1 ⟨rfl, hb⟩; have HB1 := Lib.hid hb; clear hb)
          | (go_at_call 12; refine (HFEW.out _ HB1.out).mono ?_; rintro x w' ⟨rfl, rfl⟩)
          | (go_at_call 13; refine (HF1.out _ HB1.out).mono ?_; rintro x w2 ⟨rfl, hb⟩; have HB2 := Lib.hid (HB1.out.trans (hb.mono HB1.out.size)); clear hb))
          go_ret
          exact ⟨rfl, HB5.out⟩
      · have hel0 : ((e.length : Int) == 0) = false := beq_eq_false_iff_ne.2 (by omega)
        have hel1 : (0 : Int) < (e.length : Int) := by omega
        obtain ⟨j, hj⟩ : ∃ j, j = K % e.length := ⟨_, rfl⟩
        have hje : j < e.length := by rw [hj]; exact Nat.mod_lt _ (by omega)
        have hmax : max (e.length : Int) 1 = (e.length : Int) := by omega
        have hel2 : ¬ (e.length : Int) = 0 := by omega
        have htj : (K : Int).tmod (e.length : Int) = (j : Int) := by rw [tmodNat, hj]
        have hwj : IntKind.i64.wrap (j : Int) = (j : Int) := wrapNat j (by omega)
        have HWO : Hid (∀ W, Below w.heap.size w W → Calls Try.prog 14 #[.slice ea e.length ec, .int .i64 j] W fun x w' => ∃ v', x = .returned v' ∧ SlAt w' 5 Ent.cells v' (e.take j ++ e.drop (j + 1)) ∧ Below W.heap.size W w') := Lib.hid fun W hW => without_any _ e j hje W (HE.out W hW) (by omega)
        have HF3 : Hid (∀ W v, Below w.heap.size w W → SlAt W 5 Ent.cells v (e.take j ++ e.drop (j + 1)) → Calls Try.prog 13 #[.slice (some ⟨b, off, none⟩) n.length nc, v] W fun x w' => x = .returned (.bool false) ∧ Below W.heap.size W w') := Lib.hid fun W v hW hs => by
          have hn60 := HL.out.1
          have := fine_any _ v n (e.take j ++ e.drop (j + 1)) W (HN.out W hW) hs (by omega) (by simp; omega) (fun x hx => by
            rcases List.mem_append.1 hx with hx | hx
            · exact HNM.out x (List.mem_of_mem_take hx)
            · exact HNM.out x (List.mem_of_mem_drop hx))
          rw [less_entry HF.out hje] at this
          exact this
        clear hj he60
        by_cases hcc : nc = i + 1
        · subst hcc
          have b6 : (i : Int) ≤ (i : Int) + 1 := by omega
          have b7 : (n.length : Int) ≤ (i : Int) + 1 := by omega
          go_enter Try.func3, Try.ntmps3
          go_wp2_with (first
          | (go_at_call 13; refine (HF3.out _ _ HB6.out HS6.out).mono ?_; rintro x w7 ⟨rfl, hb⟩; have HB7 := Lib.hid (HB6.out.trans (hb.mono HB6.out.size)); clear hb)
          | (go_at_call 14; refine (HWO.out _ HB5.out).mono ?_; rintro x w6 ⟨v6, rfl, hs, hb⟩; have HB6 := Lib.hid (HB5.out.trans (hb.mono HB5.out.size)); have HS6 := Lib.hid hs; clear hb hs)
          | (go_at_call 13; refine (HF2.out _ _ HB4.out HS4.out).mono ?_; rintro x w5 ⟨rfl, hb⟩; have HB5 := Lib.hid (HB4.out.trans (hb.mono HB4.out.size)); clear hb)
          | (at_builtin; refine wpList_append_own _ rfl _ _ 22 rfl w.heap.size 31 i0 _ 6 56 Try.underlying22 hinf hz0 hz1 hz2 rfl (by decide) _ i ((n.take i).flatMap Ino.cells) rfl HR1.out ⟨b, off, none⟩ 0 _ [] rfl rfl (by simp) (by simp) (by have := HL.out.1; simp only [maxLen]; omega) (by have := HL.out.1; omega) (by have := HB3.out.size; omega) ?_; intro v2 w4 hown2 hgrow2 _; have HB4 : Hid (Below w.heap.size w w4) := Lib.hid (HB3.out.grown hgrow2 HB3.out.size (fun j ej => rowGe HR1.out ej)); have HS4 : Hid (SlAt w4 6 Ino.cells v2 (n.take i ++ n.drop (i + 1))) := Lib.hid (rowEq hlc hin hown2); clear hown2 hgrow2)
          | (at_builtin; refine wpList_append_own _ rfl _ _ 22 rfl w.heap.size 31 i0 _ 6 56 Try.underlying22 hinf hz0 hz1 hz2 rfl (by decide) _ 0 [] rfl (ownsRow_mono (World.ownsRow_made w2 #[] 0 (Nat.le_refl _) (by decide) rfl) HB2.out.size) ⟨b, off, none⟩ i _ ((n.take i).flatMap Ino.cells) rfl (by rw [flatMap_len Ino.cells 6 (fun _ => rfl), List.length_take, Nat.min_eq_left (by omega)]) (HN1.out _ HB2.out) (one_flat Ino.one _) (by have := HL.out.1; simp only [maxLen]; omega) (by have := HL.out.1; omega) (by have := HB2.out.size; simp only [World.size_alloc]; omega) ?_; intro v1 w3 hown1 hgrow1 _; have HR1 : Hid (w3.ownsRow w.heap.size 31 6 v1 i ((n.take i).flatMap Ino.cells)) := Lib.hid (by simpa only [Nat.zero_add, List.nil_append] using hown1); have HB3 : Hid (Below w.heap.size w w3) := Lib.hid ((HB2.out.alloc HB2.out.size _).grown hgrow1 (by have := HB2.out.size; simp only [World.size_alloc]; omega) (fun j ej => by cases ej; exact HB2.out.size)); clear hown1 hgrow1)
          | (go_at_call 11; refine (shown_any _).mono ?_; rintro x w1 ⟨rfl, hb⟩; have HB1 := Lib.hid hb; clear hb)
          | (go_at_call 12; refine (HFEW.out _ HB1.out).mono ?_; rintro x w' ⟨rfl, rfl⟩)
          | (go_at_call 13; refine (HF1.out _ HB1.out).mono ?_; rintro x w2 ⟨rfl, hb⟩; have HB2 := Lib.hid (HB1.out.trans (hb.mono HB1.out.size)); clear hb))
          go_ret
          exact ⟨rfl, HB7.out⟩
        · have b2 : (i : Int) ≤ (nc : Int) := by omega
          have b5 : (n.length : Int) ≤ (nc : Int) := by omega
          have HN2 : Hid (∀ W, Below w.heap.size w W → ∀ j u, ((n.drop (i + 1)).flatMap Ino.cells)[j]? = some u → W.cell? ((⟨b, off + (i + 1) * 6, none⟩ : Addr).add j) = some u) := Lib.hid fun W hW j u hu => by
            rw [Addr.add_lit]
            refine (hW.cell (p := ⟨b, _, none⟩) HBL.out).trans ?_
            refine SlAt.news (k := 6) (enc := Ino.cells) (fun _ => rfl) (by omega) HC.out (i + 1) n.length j u ?_
            rw [List.take_of_length_le (by simp)]
            exact hu
          go_enter Try.func3, Try.ntmps3
          go_wp2_with (first
          | (go_at_call 13; refine (HF3.out _ _ HB6.out HS6.out).mono ?_; rintro x w7 ⟨rfl, hb⟩; have HB7 := Lib.hid (HB6.out.trans (hb.mono HB6.out.size)); clear hb)
          | (go_at_call 14; refine (HWO.out _ HB5.out).mono ?_; rintro x w6 ⟨v6, rfl, hs, hb⟩; have HB6 := Lib.hid (HB5.out.trans (hb.mono HB5.out.size)); have HS6 := Lib.hid hs; clear hb hs)
          | (go_at_call 13; refine (HF2.out _ _ HB4.out HS4.out).mono ?_; rintro x w5 ⟨rfl, hb⟩; have HB5 := Lib.hid (HB4.out.trans (hb.mono HB4.out.size)); clear hb)
          | (at_builtin; refine wpList_append_own _ rfl _ _ 22 rfl w.heap.size 31 i0 _ 6 56 Try.underlying22 hinf hz0 hz1 hz2 rfl (by decide) _ i ((n.take i).flatMap Ino.cells) rfl HR1.out ⟨b, off + (i + 1) * 6, none⟩ (n.length - (i + 1)) _ ((n.drop (i + 1)).flatMap Ino.cells) rfl (by rw [flatMap_len Ino.cells 6 (fun _ => rfl), List.length_drop]) (HN2.out _ HB3.out) (one_flat Ino.one _) (by have := HL.out.1; simp only [maxLen]; omega) (by have := HL.out.1; omega) (by have := HB3.out.size; omega) ?_; intro v2 w4 hown2 hgrow2 _; have HB4 : Hid (Below w.heap.size w w4) := Lib.hid (HB3.out.grown hgrow2 HB3.out.size (fun j ej => rowGe HR1.out ej)); have HS4 : Hid (SlAt w4 6 Ino.cells v2 (n.take i ++ n.drop (i + 1))) := Lib.hid (rowNe hin hown2); clear hown2 hgrow2)
          | (at_builtin; refine wpList_append_own _ rfl _ _ 22 rfl w.heap.size 31 i0 _ 6 56 Try.underlying22 hinf hz0 hz1 hz2 rfl (by decide) _ 0 [] rfl (ownsRow_mono (World.ownsRow_made w2 #[] 0 (Nat.le_refl _) (by decide) rfl) HB2.out.size) ⟨b, off, none⟩ i _ ((n.take i).flatMap Ino.cells) rfl (by rw [flatMap_len Ino.cells 6 (fun _ => rfl), List.length_take, Nat.min_eq_left (by omega)]) (HN1.out _ HB2.out) (one_flat Ino.one _) (by have := HL.out.1; simp only [maxLen]; omega) (by have := HL.out.1; omega) (by have := HB2.out.size; simp only [World.size_alloc]; omega) ?_; intro v1 w3 hown1 hgrow1 _; have HR1 : Hid (w3.ownsRow w.heap.size 31 6 v1 i ((n.take i).flatMap Ino.cells)) := Lib.hid (by simpa only [Nat.zero_add, List.nil_append] using hown1); have HB3 : Hid (Below w.heap.size w w3) := Lib.hid ((HB2.out.alloc HB2.out.size _).grown hgrow1 (by have := HB2.out.size; simp only [World.size_alloc]; omega) (fun j ej => by cases ej; exact HB2.out.size)); clear hown1 hgrow1)
          | (go_at_call 11; refine (shown_any _).mono ?_; rintro x w1 ⟨rfl, hb⟩; have HB1 := Lib.hid hb; clear hb)
          | (go_at_call 12; refine (HFEW.out _ HB1.out).mono ?_; rintro x w' ⟨rfl, rfl⟩)
          | (go_at_call 13; refine (HF1.out _ HB1.out).mono ?_; rintro x w2 ⟨rfl, hb⟩; have HB2 := Lib.hid (HB1.out.trans (hb.mono HB1.out.size)); clear hb))
          go_ret
          exact ⟨rfl, HB7.out⟩

theorem auditLess_walk (v0 : Value) (z0 : List Ino) (v1 : Value) (z1 : List Ent) (a2 : Int) (W : World) (s0 : SlAt W 6 Ino.cells v0 z0) (_q0 : ∀ z ∈ z0, z.data.size ≤ maxLen) (s1 : SlAt W 5 Ent.cells v1 z1) (q1 : ∀ z ∈ z1, z.name.size ≤ maxLen) (w2 : (Lit.int .u8 a2).wf = true) :
    Calls Try.prog 3 #[v0, v1, .int .u8 a2] W fun x w' => x = .returned (.bool true) ∧ Below W.heap.size W w' := by
  simp only [Lit.wf, Bool.and_eq_true, decide_eq_true_eq] at w2
  have hmin : IntKind.u8.min = 0 := rfl
  have hmax : IntKind.u8.max = 255 := rfl
  obtain ⟨K, hK⟩ : ∃ K : Nat, a2 = K := ⟨a2.toNat, by omega⟩
  subst hK
  exact less_walk v0 v1 z0 z1 K W s0 s1 q1 (by omega)
end Go.Proofs.Ytmnkaohhjhjciaa
